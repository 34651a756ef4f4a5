import Derived.Test.YtgmmfjpmahcocaaGreatDoorRange
import Derived.Test.YtgmmfjpmahcocaaGreatDoorPart
set_option linter.unusedVariables false
set_option linter.unusedSimpArgs false
namespace Go.Sx
open Go.RowKit
section
variable {P : Program} {N : Nat} {Q : Exit -> Act -> World -> Prop} {fr fr' : List (Nat × Value)} {w w0 : World} {l : List Oper} {i : Nat} {o : Oper} {S0 : List Nat} {L : List Item} {α : Type}
theorem OW.inl {d M : Nat} {f : FuncId} {fn : Func} {c : Code} {args : List Value} (hl : vy l i = some o) (hg : gd l fr o = some true) (hd : o.dst = some d) (hN : Nat.blt d N = true)
  (hp : zk1 P fr o = some (f, args)) (hf : P.funcs[f]? = some fn) (hb : fn.body = some c) (hM : fn.ntmps = M) (hs : Nat.ble args.length M = true)
  (h : CW P M c (bodyPost P fn (fun e w' => ∃ v, e = .returned v /\ OW P l N Q (i + 1) ((d, v) :: fr) w')) (zg7 0 args) w) : OW P l N Q i fr w :=
 OW.fn hl hg hd hN hp (CW.start hf hb hM hs h) (fun _ _ h => h)
end
section
variable {α : Type} {w w' : World} {r : Nat} {R : Rp α} {S : List Nat} {m : List (Int × α)} {ho : Option (Int × Value)} {mv : List (Int × Value)} {Ss : List (List Nat)}
end
section
variable {P : Program} {N : Nat} {Q : Exit -> Act -> World -> Prop} {fr fr' : List (Nat × Value)} {w w0 : World} {l : List Oper} {i : Nat} {o : Oper} {S0 : List Nat} {L : List Item} {α : Type} {R : Rp α} {r : Nat} {S : List Nat} {m : List (Int × α)} {ho : Option (Int × Value)}
end
end Go.Sx
