/- Short forms of rules (the walks' texts name them). -/
import Derived.Test.YtkgajppghpmkbaaDoorIfc
set_option linter.unusedVariables false
namespace Go.Sx
abbrev I (x : Int) : Value := .int .i64 x
abbrev U (x : Int) : Value := .int .u64 x
abbrev Pt (b : Nat) : Value := .pointer (some ⟨b, 0, none⟩)
theorem bs {α β : Type} {o : Option α} {f : α → Option β} {r : β} (h : o.bind f = some r) : ∃ x, o = some x ∧ f x = some r := bind_some' h
theorem inj {α : Type} {x y : α} (h : some x = some y) : x = y := Option.some.inj h
theorem bft (b : Bool) : b = true ∨ b = false := Bool.eq_false_or_eq_true b
section
variable {P : Program} {N : Nat} {Q : Exit → Act → World → Prop} {fr fr' : List (Nat × Value)} {w : World} {l : List Oper} {i : Nat} {o : Oper} {a : Act}
theorem Rep.ag (h : Rep N fr a) (hs : finds fr (firsts [] fr') = theirs (firsts [] fr') := by kernel_rfl) : Rep N fr' a := h.agrees hs
theorem pu (n : Nat) (new : List (Nat × Value)) (k : OW P l N Q (i + n) (new ++ fr) w)
    (h : (chunk P l N n i fr).map (fun fr2 => finds fr2 (firsts [] (new ++ fr))) = some (theirs (firsts [] (new ++ fr))) := by kernel_rfl) : OW P l N Q i fr w := OW.pure n new h k
theorem nx {y : Code} (h : CW P N y Q fr w) (hl : opAt l i = none := by exact rfl) : OW P l N (Exit.then (y.wp P Q) Q) i fr w := OW.nil hl (QW.next h)
theorem rg {id : Nat} {x : Code} (h : OW P l N (Exit.then (x.wp P Q) Q) 0 fr w) : CW P N (.seq (.region id l.toArray false) x) Q fr w := CW.seq (CW.region h)
theorem br {α : Type} {A B r : α} (c : Bool) {x y : Code} {op : Operand} (hF : (if c then A else B) = r) (h1 : A = r → c = true → CW P N x Q fr w) (h2 : B = r → c = false → CW P N y Q fr w) (hc : look fr op = some (.bool c) := by exact rfl) : CW P N (.cond op x y) Q fr w := by
  cases c with
  | true => exact CW.cond_t hc rfl (h1 (ite_t hF rfl) rfl)
  | false => exact CW.cond_f hc rfl (h2 (ite_f hF rfl) rfl)
end
end Go.Sx
