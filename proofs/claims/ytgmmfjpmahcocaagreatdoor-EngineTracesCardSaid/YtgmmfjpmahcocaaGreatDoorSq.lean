import Derived.Test.YtgmmfjpmahcocaaGreatDoorHole
set_option linter.unusedVariables false
set_option linter.unusedSimpArgs false
namespace Go.Sx
open Go.RowKit
abbrev I (x : Int) : Value := .int .i64 x
abbrev U (x : Int) : Value := .int .u64 x
abbrev B (x : Bool) : Value := .bool x
abbrev zep (f : Nat -> Int) (l : List Value) : List Value := I (f 0) :: I (f 1) :: I (f 2) :: I (f 3) :: I (f 4) :: I (f 5) :: I (f 6) :: I (f 7) :: I (f 8) :: I (f 9) :: I (f 10) :: I (f 11) :: I (f 12) :: I (f 13) :: I (f 14) :: I (f 15) :: I (f 16) :: I (f 17) :: I (f 18) :: I (f 19) :: I (f 20) :: I (f 21) :: I (f 22) :: I (f 23) :: I (f 24) :: I (f 25) :: I (f 26) :: I (f 27) :: I (f 28) :: I (f 29) :: I (f 30) :: I (f 31) :: I (f 32) :: I (f 33) :: I (f 34) :: I (f 35) :: I (f 36) :: I (f 37) :: I (f 38) :: I (f 39) :: I (f 40) :: I (f 41) :: I (f 42) :: I (f 43) :: I (f 44) :: I (f 45) :: I (f 46) :: I (f 47) :: I (f 48) :: I (f 49) :: I (f 50) :: I (f 51) :: I (f 52) :: I (f 53) :: I (f 54) :: I (f 55) :: I (f 56) :: I (f 57) :: I (f 58) :: I (f 59) :: I (f 60) :: I (f 61) :: I (f 62) :: I (f 63) :: l
abbrev aU8 (f : Nat -> Int) (l : List Value) : List Value := U (f 0) :: U (f 1) :: U (f 2) :: U (f 3) :: U (f 4) :: U (f 5) :: U (f 6) :: U (f 7) :: l
abbrev zdD (f : Nat -> Int) (l : List Value) : List Value := U (f 0) :: U (f 1) :: U (f 2) :: U (f 3) :: U (f 4) :: U (f 5) :: U (f 6) :: U (f 7) :: U (f 8) :: U (f 9) :: U (f 10) :: U (f 11) :: U (f 12) :: U (f 13) :: U (f 14) :: U (f 15) :: l
abbrev Pt (b : Nat) : Value := .pointer (some ⟨b, 0, none⟩)
abbrev Po (b k : Nat) : Value := .pointer (some ⟨b, k, none⟩)
abbrev Sl (a : Option Addr) (n c : Nat) : Value := .slice a n c
abbrev Sn : Value := .slice none 0 0
abbrev Ag (l : List Value) : Value := .agg l.toArray
abbrev Rt (v : Value) : Ending := .returned v
theorem bs {α β : Type} {o : Option α} {f : α -> Option β} {r : β} (h : o.bind f = some r) : ∃ x, o = some x /\ f x = some r := zek h
theorem ij {α : Type} {x y : α} (h : some x = some y) : x = y := Option.some.inj h
section
variable {P : Program} {N : Nat} {Q : Exit -> Act -> World -> Prop} {fr fr' : List (Nat × Value)} {w w0 w' : World} {l : List Oper} {i : Nat} {o : Oper} {a : Act} {S0 : List Nat} {L : List Item}
theorem Rep.ag (h : Rep N fr a) (hs : zf3 fr (zan [] fr') = zdw (zan [] fr') := by kernel_rfl) : Rep N fr' a := h.agrees hs
theorem pu (n : Nat) (new : List (Nat × Value)) (k : OW P l N Q (i + n) (new ++ fr) w)
  (h : (zfp P l N n i fr).map (fun fr2 => zf3 fr2 (zan [] (new ++ fr))) = some (zdw (zan [] (new ++ fr))) := by kernel_rfl) : OW P l N Q i fr w := OW.pure n new h k
theorem nx {y : Code} (h : CW P N y Q fr w) (hl : vy l i = none := by exact rfl) : OW P l N (Exit.then (y.wp P Q) Q) i fr w := OW.nil hl (QW.next h)
theorem nl (h : QW N Q .normal fr w) (hl : vy l i = none := by exact rfl) : OW P l N Q i fr w := OW.nil hl h
theorem rg {id : Nat} {x : Code} (h : OW P l N (Exit.then (x.wp P Q) Q) 0 fr w) : CW P N (.seq (.region id l.toArray false) x) Q fr w := CW.seq (CW.region h)
theorem rn {id : Nat} (h : OW P l N Q 0 fr w) : CW P N (.region id l.toArray false) Q fr w := CW.region h
theorem sq {x y : Code} (h : CW P N x (Exit.then (y.wp P Q) Q) fr w) : CW P N (.seq x y) Q fr w := CW.seq h
theorem sk (h : QW N Q .normal fr w) : CW P N .skip Q fr w := CW.skip h
theorem sn {y : Code} (h : CW P N y Q fr w) : CW P N .skip (Exit.then (y.wp P Q) Q) fr w := CW.skip (QW.next h)
theorem qn {y : Code} (h : CW P N y Q fr w) : QW N (Exit.then (y.wp P Q) Q) .normal fr w := h
theorem ex {id : Nat} (h : QW N Q (.exit id) fr w) : CW P N (.exit id) Q fr w := CW.exit h
theorem rt (h : QW N Q .ret fr w) : CW P N .ret Q fr w := CW.ret h
theorem bl {id : Nat} {c : Code} (h : CW P N c (Exit.inBlock id Q) fr w) : CW P N (.block id c) Q fr w := CW.block h
theorem te {id : Nat} {K : Act -> World -> Prop} (h : QW N Q (.exit id) fr w) : QW N (Exit.then K Q) (.exit id) fr w := h
theorem tr {K : Act -> World -> Prop} (h : QW N Q .ret fr w) : QW N (Exit.then K Q) .ret fr w := h
theorem bn {id : Nat} (h : QW N Q .normal fr w) : QW N (Exit.inBlock id Q) .normal fr w := h
theorem bt {id : Nat} (h : QW N Q .ret fr w) : QW N (Exit.inBlock id Q) .ret fr w := h
theorem bh {id : Nat} (h : QW N Q .normal fr w) : QW N (Exit.inBlock id Q) (.exit id) fr w := QW.block_here h
theorem bo {id id' : Nat} (h : QW N Q (.exit id') fr w) (hne : Nat.beq id' id = false := by exact rfl) : QW N (Exit.inBlock id Q) (.exit id') fr w := QW.block_on hne h
theorem me {J : Act -> World -> Prop} (h : ∀ a, Rep N fr a -> J a w) : QW N (Exit.then J Q) .normal fr w := h
theorem go {c : Code} {a : Act} (ha : Rep N fr a) (h : CW P N c Q fr w) : c.wp P Q a w := h a ha
theorem ck {c : Code} {K : Act -> World -> Prop} (J : Act -> World -> Prop) (h1 : CW P N c (Exit.then J Q) fr w) (h2 : ∀ a w, J a w -> K a w) : CW P N c (Exit.then K Q) fr w := CW.cutK J h1 h2
theorem br {α : Type} {A C r : α} {c : Bool} {x y : Code} {op : Operand} (hF : (if c then A else C) = r) (h1 : A = r -> c = true -> CW P N x Q fr w) (h2 : C = r -> c = false -> CW P N y Q fr w) (hc : look fr op = some (.bool c) := by exact rfl) : CW P N (.cond op x y) Q fr w := by
 cases c with
 | true => exact CW.cond_t hc rfl (h1 (zfr hF rfl) rfl)
 | false => exact CW.cond_f hc rfl (h2 (zfs hF rfl) rfl)
theorem ct {c : Operand} {x y : Code} {b : Bool} (hb : b = true) (h : CW P N x Q fr w) (hc : look fr c = some (.bool b) := by exact rfl) : CW P N (.cond c x y) Q fr w := CW.cond_t hc hb h
theorem cf {c : Operand} {x y : Code} {b : Bool} (hb : b = false) (h : CW P N y Q fr w) (hc : look fr c = some (.bool b) := by exact rfl) : CW P N (.cond c x y) Q fr w := CW.cond_f hc hb h
theorem sp (s : Nat) {b : Bool} (ht : b = true -> OW P l N Q i ((s, .bool true) :: fr) w) (hf : b = false -> OW P l N Q i ((s, .bool false) :: fr) w) (hs : zeR fr s = some (.bool b) := by exact rfl) : OW P l N Q i fr w := OW.split s hs ht hf
theorem si {α : Type} {A C r : α} {c : Bool} (s : Nat) (hF : (if c then A else C) = r) (ht : A = r -> c = true -> OW P l N Q i ((s, .bool true) :: fr) w) (hf : C = r -> c = false -> OW P l N Q i ((s, .bool false) :: fr) w) (hs : zeR fr s = some (.bool c) := by exact rfl) : OW P l N Q i fr w :=
 OW.split s hs (fun h => ht (zfr hF h) h) (fun h => hf (zfs hF h) h)
theorem ld {d : Nat} {t : TypeId} {x : Operand} {ty : TypeId} {pos : String} {af : Array Edge} {gdd : Option (Nat × Bool)} {b k : Nat} {T : TypeId} {cs : List Value} {v : Value} (hst : St w0 S0 w L) (j : Nat) (hl : vy l i = some ⟨some d, .load t x, ty, pos, af, gdd⟩ := by exact rfl) (hg : gd l fr ⟨some d, .load t x, ty, pos, af, gdd⟩ = some true := by exact rfl) (hN : Nat.blt d N = true := by exact rfl)
  (hx : look fr x = some (.pointer (some ⟨b, k, none⟩)) := by exact rfl) (hA : zbz P (isAgg t) = some false := by kernel_rfl) (hj : L[j]? = some (zs b T cs) := by exact rfl) (hv : cs[k]? = some v := by exact rfl) (h : OW P l N Q (i + 1) ((d, v) :: fr) w) : OW P l N Q i fr w :=
 OW.ld hl hg hN hx hA (hst.blk j hj hv) h
theorem lN {d : Nat} {t : TypeId} {x : Operand} {ty : TypeId} {pos : String} {af : Array Edge} {gdd : Option (Nat × Bool)} {b k : Nat} (cs : List Value) (hc : ∀ j u, cs[j]? = some u -> w.cell? ⟨b, k + j, none⟩ = some u) (hl : vy l i = some ⟨some d, .load t x, ty, pos, af, gdd⟩ := by exact rfl) (hg : gd l fr ⟨some d, .load t x, ty, pos, af, gdd⟩ = some true := by exact rfl) (hN : Nat.blt d N = true := by exact rfl)
  (hx : look fr x = some (.pointer (some ⟨b, k, none⟩)) := by exact rfl) (hA : zbz P (isAgg t) = some true := by kernel_rfl) (hs : zbz P (sizeOf t) = some cs.length := by kernel_rfl) (h : OW P l N Q (i + 1) ((d, .agg cs.toArray) :: fr) w) : OW P l N Q i fr w :=
 OW.ldN hl hg hN cs hx hA hs hc h
theorem st {t : TypeId} {x y : Operand} {ty : TypeId} {pos : String} {af : Array Edge} {gdd : Option (Nat × Bool)} {b : Nat} {T : TypeId} {cs : List Value} {k : Nat} {v : Value} (hst : St w0 S0 w L) (j : Nat) (cs' : List Value) (hj : L[j]? = some (zs b T cs) := by exact rfl)
  (hl : vy l i = some ⟨none, .store t x y, ty, pos, af, gdd⟩ := by exact rfl) (hg : gd l fr ⟨none, .store t x y, ty, pos, af, gdd⟩ = some true := by exact rfl)
  (hx : look fr x = some (.pointer (some ⟨b, k, none⟩)) := by exact rfl) (hy : look fr y = some v := by exact rfl)
  (hs : zbz P (sizeOf t) = some v.cells.toList.length := by kernel_rfl) (h1 : zhP v.cells.toList = true := by exact rfl) (hle : Nat.ble (k + v.cells.toList.length) cs.length = true := by exact rfl) (hcs : qt cs v.cells.toList k = cs' := by exact rfl) (h : ∀ w', St w0 S0 w' (L.set j (zs b T cs')) -> OW P l N Q (i + 1) fr w') : OW P l N Q i fr w :=
 OW.stB hst j hj hl hg hx hy hs h1 hle cs' hcs h
theorem al {d e : Nat} {ty : TypeId} {pos : String} {af : Array Edge} {gdd : Option (Nat × Bool)} (hst : St w0 S0 w L) (cs : List Value) (hl : vy l i = some ⟨some d, .alloc e, ty, pos, af, gdd⟩ := by exact rfl) (hg : gd l fr ⟨some d, .alloc e, ty, pos, af, gdd⟩ = some true := by exact rfl) (hN : Nat.blt d N = true := by exact rfl)
  (hz : (zbz P (zeroValue e)).map (·.cells.toList) = some cs := by kernel_rfl) (h : ∀ b w', St w0 S0 w' (L ++ [zs b e cs]) -> OW P l N Q (i + 1) ((d, .pointer (some ⟨b, 0, none⟩)) :: fr) w') : OW P l N Q i fr w := OW.alloc hst hl hg hN cs hz h
theorem bx {d e : Nat} {x : Operand} {v : Value} {ty : TypeId} {pos : String} {af : Array Edge} {gdd : Option (Nat × Bool)} (hst : St w0 S0 w L) (cs : List Value) (hl : vy l i = some ⟨some d, .box e x, ty, pos, af, gdd⟩ := by exact rfl) (hg : gd l fr ⟨some d, .box e x, ty, pos, af, gdd⟩ = some true := by exact rfl) (hN : Nat.blt d N = true := by exact rfl)
  (hx : look fr x = some v := by exact rfl) (hz : v.cells.toList = cs := by exact rfl) (h : ∀ b w', St w0 S0 w' (L ++ [zs b e cs]) -> OW P l N Q (i + 1) ((d, .pointer (some ⟨b, 0, none⟩)) :: fr) w') : OW P l N Q i fr w := OW.box hst hl hg hN hx cs hz h
theorem ix {d : Nat} {t : TypeId} {x y : Operand} {ty : TypeId} {pos : String} {af : Array Edge} {gdd : Option (Nat × Bool)} {α : Type} {xs : List α} {z : α} {b k c : Nat} {q : Int} {kd : IntKind} {v : Value} (e sz : Nat) (hx' : Sx.idx xs q = some z) (hv : v = .slice (some ⟨b, k, none⟩) xs.length c) (hl : vy l i = some ⟨some d, .indexAddr t x y, ty, pos, af, gdd⟩ := by exact rfl)
  (hg : gd l fr ⟨some d, .indexAddr t x y, ty, pos, af, gdd⟩ = some true := by exact rfl) (hN : Nat.blt d N = true := by exact rfl) (hx : look fr x = some v := by exact rfl) (hy : look fr y = some (.int kd q) := by exact rfl)
  (ht : P.underlying t = some (.slice e) := by kernel_rfl) (hs : zbz P (sizeOf e) = some sz := by kernel_rfl) (h : OW P l N Q (i + 1) ((d, .pointer (some ⟨b, k + q.toNat * sz, none⟩)) :: fr) w) : OW P l N Q i fr w := OW.idx e sz hl hg hN hx hv hy (zh hx').1 (zh hx').2.1 ht hs h
theorem fn {d : Nat} {f : FuncId} {args : List Value} (hl : vy l i = some o := by exact rfl) (hg : gd l fr o = some true := by exact rfl) (hd : o.dst = some d := by exact rfl) (hN : Nat.blt d N = true := by exact rfl)
  (hp : zk1 P fr o = some (f, args) := by kernel_rfl) (hc : Calls P f args.toArray w (fun e w' => ∃ v, e = .returned v /\ OW P l N Q (i + 1) ((d, v) :: fr) w')) : OW P l N Q i fr w := OW.fn hl hg hd hN hp hc (fun e w' h => h)
theorem ap {done eff : List Nat} {F : zdm} (is' : List Nat) (new : List (Nat × Value)) (k : OA P l N Q (znF is' done) eff F (new ++ fr) w)
  (h : (zfw P l N eff is' done fr).map (fun fr2 => zf3 fr2 (zan [] (new ++ fr))) = some (zdw (zan [] (new ++ fr))) := by kernel_rfl) : OA P l N Q done eff F fr w := OA.pure is' new h k
theorem aa {done eff : List Nat} {F : zdm} (i : Nat) (keep : List Nat) (hp : zij l = true := by kernel_rfl) (hl : vy l i = some o := by exact rfl) (hg : gd l fr o = some true := by exact rfl) (hck : znY l done eff i = true := by kernel_rfl) (hk : zi7 l i keep F = true := by kernel_rfl) (h : OW P [bare o] N (zfS P l Q (i :: done) (i :: eff) (zeo keep F)) 0 fr w) : OA P l N Q done eff F fr w := OA.act keep hp hl hg hck hk h
theorem aF {done eff : List Nat} {F : zdm} (h : QW N Q .normal fr w) (hp : zij l = true := by kernel_rfl) (hall : zn5 l done = true := by kernel_rfl) : OA P l N Q done eff F fr w := OA.fin hp hall h
theorem ad {done eff : List Nat} {F : zdm} {d : Nat} {t : TypeId} {x : Operand} {ty : TypeId} {pos : String} {af : Array Edge} {gdd : Option (Nat × Bool)} {b k : Nat} {T : TypeId} {cs : List Value} {v : Value} (i : Nat) (hst : St w0 S0 w L) (j : Nat) (hl : vy l i = some ⟨some d, .load t x, ty, pos, af, gdd⟩ := by exact rfl) (hck : zlS l done eff i = true := by kernel_rfl) (hg : gd l fr ⟨some d, .load t x, ty, pos, af, gdd⟩ = some true := by exact rfl) (hN : Nat.blt d N = true := by exact rfl)
  (hx : look fr x = some (.pointer (some ⟨b, k, none⟩)) := by exact rfl) (hA : zbz P (isAgg t) = some false := by kernel_rfl) (hj : L[j]? = some (zs b T cs) := by exact rfl) (hv : cs[k]? = some v := by exact rfl) (h : OA P l N Q (i :: done) eff ((i, fun w => w.cell? ⟨b, k, none⟩ = some v) :: F) ((d, v) :: fr) w) : OA P l N Q done eff F fr w :=
 OA.ld hl hck hg hN hx hA (hst.blk j hj hv) h
theorem op' {c : Nat} {R : Act -> Prop} (n : Nat) (new : List (Nat × Value)) (k : OS P l N w R c (i + n) (new ++ fr)) (hc : Nat.ble (i + n) c = true := by exact rfl)
  (h : (zfp P l N n i fr).map (fun fr2 => zf3 fr2 (zan [] (new ++ fr))) = some (zdw (zan [] (new ++ fr))) := by kernel_rfl) : OS P l N w R c i fr := OS.pure n new hc h k
theorem od {c : Nat} {R : Act -> Prop} {d : Nat} {t : TypeId} {x : Operand} {ty : TypeId} {pos : String} {af : Array Edge} {gdd : Option (Nat × Bool)} {b k : Nat} {T : TypeId} {cs : List Value} {v : Value} (hst : St w0 S0 w L) (j : Nat) (hl : vy l i = some ⟨some d, .load t x, ty, pos, af, gdd⟩ := by exact rfl) (hc : Nat.blt i c = true := by exact rfl) (hg : gd l fr ⟨some d, .load t x, ty, pos, af, gdd⟩ = some true := by exact rfl) (hN : Nat.blt d N = true := by exact rfl)
  (hx : look fr x = some (.pointer (some ⟨b, k, none⟩)) := by exact rfl) (hA : zbz P (isAgg t) = some false := by kernel_rfl) (hj : L[j]? = some (zs b T cs) := by exact rfl) (hv : cs[k]? = some v := by exact rfl) (h : OS P l N w R c (i + 1) ((d, v) :: fr)) : OS P l N w R c i fr :=
 OS.ld hl hc hg hN hx hA (hst.blk j hj hv) h
theorem sr {f : FuncId} {fn : Func} {c : Code} {args : List Value} {R : Ending -> World -> Prop} (N : Nat) (hf : P.funcs[f]? = some fn) (hb : fn.body = some c) (h : CW P N c (bodyPost P fn R) (zg7 0 args) w) (hN : fn.ntmps = N := by exact rfl)
  (hs : Nat.ble args.length N = true := by exact rfl) : Calls P f args.toArray w R := CW.start hf hb hN hs h
theorem r1 {f : Func} {R : Ending -> World -> Prop} {s : Nat} {v : Value} (h : R (.returned v) w) (hr : f.results = #[.tmp s] := by exact rfl) (hs : zeR fr s = some v := by exact rfl) : QW N (bodyPost P f R) .ret fr w := QW.ret1 hr hs h
theorem r2 {f : Func} {R : Ending -> World -> Prop} {s t : Nat} {u v : Value} (h : R (.returned (.tuple #[u, v])) w) (hr : f.results = #[.tmp s, .tmp t] := by exact rfl) (hs : zeR fr s = some u := by exact rfl) (ht : zeR fr t = some v := by exact rfl) : QW N (bodyPost P f R) .ret fr w := QW.ret2 hr hs ht h
theorem St.k (h : St w0 S0 w L) (idx : List Nat) (hd : jF idx = true := by exact rfl) : St w0 S0 w (sel L idx) := h.keep idx hd
theorem St.p (h : St w0 S0 w L) (idx : List Nat) (hd : jF idx = true := by exact rfl) : St w (fp (sel L idx)) w (sel L idx) := h.part idx hd
theorem St.j {R : List Item} (h : St w0 S0 w L) (idx rest : List Nat) (k : St w (fp (sel L idx)) w' R) (hd : jF (idx ++ rest) = true := by exact rfl) : St w0 S0 w' (R ++ sel L rest) := h.join hd k
theorem St.ti {α : Type} {T : TypeId} {v : Value} {enc : α -> List Value} {sz : Nat} {ys : List α} (h : St w0 S0 w L) (j : Nat) (hj : L[j]? = some (qH v T enc sz ys) := by exact rfl) (he : ∀ x, (enc x).length = sz := by exact fun _ => rfl) (hp : 0 < sz := by decide) :
  St w0 S0 w (L.set j (itI (zie T enc sz he hp) [v] (zas v).toList ys)) := h.toIt j hj he hp
theorem St.le {α : Type} {v : Value} {T : TypeId} {enc : α -> List Value} {sz : Nat} {xs : List α} (h : St w0 S0 w L) (j : Nat) (hj : L[j]? = some (qH v T enc sz xs) := by exact rfl) : xs.length <= 9223372036854775807 /\ ∃ a c, v = .slice a xs.length c := h.len j hj
end
section
variable {w0 w : World} {S0 : List Nat} {L : List Item}
theorem St.o1 {α : Type} {β1 : Type} {T : TypeId} {f : α -> List Value -> List Value} {sz : Nat} {hl : ∀ x vs, (f x vs).length = sz} {g : α -> β1} {A1 : Rp β1} {b : Nat} {S : List Nat} {x : α} (h : St w0 S0 w L) (j : Nat) (hj : L[j]? = some (itI (zel T (qC f sz hl g A1)) [.pointer (some ⟨b, 0, none⟩)] S x) := by exact rfl) (z1 : A1.sz = 1 := by exact rfl) : ∃ v1 S1, St w0 S0 w (L.set j (zs b T (f x [v1])) ++ [itI A1 [v1] S1 (g x)]) := St.openQ1 h j hj z1
theorem St.s1 {α : Type} {β1 : Type} {T : TypeId} {f : α -> List Value -> List Value} {sz : Nat} {hl : ∀ x vs, (f x vs).length = sz} {g : α -> β1} {A1 : Rp β1} {cs : List Value} {b : Nat} {v1 : Value} {S1 : List Nat} {y1 : β1} (h : St w0 S0 w L) (R : Rp α) (j k1 : Nat) (rest : List Nat) (x : α) (hR : R = qC f sz hl g A1 := by exact rfl) (hd : jF ([j, k1] ++ rest) = true := by exact rfl) (hj : L[j]? = some (zs b T cs) := by exact rfl) (h1 : L[k1]? = some (itI A1 [v1] S1 y1) := by exact rfl) (hx : cs = f x [v1] := by exact rfl) (hg : g x = y1 := by exact rfl) : ∃ S, St w0 S0 w (sel L rest ++ [itI (zel T R) [.pointer (some ⟨b, 0, none⟩)] S x]) := St.shutP1 h R hR j k1 rest hd hj h1 x hx hg
theorem St.o3 {α : Type} {β1 : Type} {β2 : Type} {β3 : Type} {T : TypeId} {f : α -> List Value -> List Value} {sz : Nat} {hl : ∀ x vs, (f x vs).length = sz} {g : α -> β1 × (β2 × β3)} {A1 : Rp β1} {A2 : Rp β2} {A3 : Rp β3} {b : Nat} {S : List Nat} {x : α} (h : St w0 S0 w L) (j : Nat) (hj : L[j]? = some (itI (zel T (qC f sz hl g (qB A1 (qB A2 A3)))) [.pointer (some ⟨b, 0, none⟩)] S x) := by exact rfl) (z1 : A1.sz = 1 := by exact rfl) (z2 : A2.sz = 1 := by exact rfl) (z3 : A3.sz = 1 := by exact rfl) : ∃ v1 S1 v2 S2 v3 S3, St w0 S0 w (L.set j (zs b T (f x [v1, v2, v3])) ++ [itI A1 [v1] S1 (g x).1, itI A2 [v2] S2 (g x).2.1, itI A3 [v3] S3 (g x).2.2]) := St.openQ3 h j hj z1 z2 z3
theorem St.s3 {α : Type} {β1 : Type} {β2 : Type} {β3 : Type} {T : TypeId} {f : α -> List Value -> List Value} {sz : Nat} {hl : ∀ x vs, (f x vs).length = sz} {g : α -> β1 × (β2 × β3)} {A1 : Rp β1} {A2 : Rp β2} {A3 : Rp β3} {cs : List Value} {b : Nat} {v1 : Value} {S1 : List Nat} {y1 : β1} {v2 : Value} {S2 : List Nat} {y2 : β2} {v3 : Value} {S3 : List Nat} {y3 : β3} (h : St w0 S0 w L) (R : Rp α) (j k1 k2 k3 : Nat) (rest : List Nat) (x : α) (hR : R = qC f sz hl g (qB A1 (qB A2 A3)) := by exact rfl) (hd : jF ([j, k1, k2, k3] ++ rest) = true := by exact rfl) (hj : L[j]? = some (zs b T cs) := by exact rfl) (h1 : L[k1]? = some (itI A1 [v1] S1 y1) := by exact rfl) (h2 : L[k2]? = some (itI A2 [v2] S2 y2) := by exact rfl) (h3 : L[k3]? = some (itI A3 [v3] S3 y3) := by exact rfl) (hx : cs = f x [v1, v2, v3] := by exact rfl) (hg : g x = (y1, y2, y3) := by exact rfl) : ∃ S, St w0 S0 w (sel L rest ++ [itI (zel T R) [.pointer (some ⟨b, 0, none⟩)] S x]) := St.shutP3 h R hR j k1 k2 k3 rest hd hj h1 h2 h3 x hx hg
theorem St.o5 {α : Type} {β1 : Type} {β2 : Type} {β3 : Type} {β4 : Type} {β5 : Type} {T : TypeId} {f : α -> List Value -> List Value} {sz : Nat} {hl : ∀ x vs, (f x vs).length = sz} {g : α -> β1 × (β2 × (β3 × (β4 × β5)))} {A1 : Rp β1} {A2 : Rp β2} {A3 : Rp β3} {A4 : Rp β4} {A5 : Rp β5} {b : Nat} {S : List Nat} {x : α} (h : St w0 S0 w L) (j : Nat) (hj : L[j]? = some (itI (zel T (qC f sz hl g (qB A1 (qB A2 (qB A3 (qB A4 A5)))))) [.pointer (some ⟨b, 0, none⟩)] S x) := by exact rfl) (z1 : A1.sz = 1 := by exact rfl) (z2 : A2.sz = 1 := by exact rfl) (z3 : A3.sz = 1 := by exact rfl) (z4 : A4.sz = 1 := by exact rfl) (z5 : A5.sz = 1 := by exact rfl) : ∃ v1 S1 v2 S2 v3 S3 v4 S4 v5 S5, St w0 S0 w (L.set j (zs b T (f x [v1, v2, v3, v4, v5])) ++ [itI A1 [v1] S1 (g x).1, itI A2 [v2] S2 (g x).2.1, itI A3 [v3] S3 (g x).2.2.1, itI A4 [v4] S4 (g x).2.2.2.1, itI A5 [v5] S5 (g x).2.2.2.2]) := St.openQ5 h j hj z1 z2 z3 z4 z5
theorem St.s5 {α : Type} {β1 : Type} {β2 : Type} {β3 : Type} {β4 : Type} {β5 : Type} {T : TypeId} {f : α -> List Value -> List Value} {sz : Nat} {hl : ∀ x vs, (f x vs).length = sz} {g : α -> β1 × (β2 × (β3 × (β4 × β5)))} {A1 : Rp β1} {A2 : Rp β2} {A3 : Rp β3} {A4 : Rp β4} {A5 : Rp β5} {cs : List Value} {b : Nat} {v1 : Value} {S1 : List Nat} {y1 : β1} {v2 : Value} {S2 : List Nat} {y2 : β2} {v3 : Value} {S3 : List Nat} {y3 : β3} {v4 : Value} {S4 : List Nat} {y4 : β4} {v5 : Value} {S5 : List Nat} {y5 : β5} (h : St w0 S0 w L) (R : Rp α) (j k1 k2 k3 k4 k5 : Nat) (rest : List Nat) (x : α) (hR : R = qC f sz hl g (qB A1 (qB A2 (qB A3 (qB A4 A5)))) := by exact rfl) (hd : jF ([j, k1, k2, k3, k4, k5] ++ rest) = true := by exact rfl) (hj : L[j]? = some (zs b T cs) := by exact rfl) (h1 : L[k1]? = some (itI A1 [v1] S1 y1) := by exact rfl) (h2 : L[k2]? = some (itI A2 [v2] S2 y2) := by exact rfl) (h3 : L[k3]? = some (itI A3 [v3] S3 y3) := by exact rfl) (h4 : L[k4]? = some (itI A4 [v4] S4 y4) := by exact rfl) (h5 : L[k5]? = some (itI A5 [v5] S5 y5) := by exact rfl) (hx : cs = f x [v1, v2, v3, v4, v5] := by exact rfl) (hg : g x = (y1, y2, y3, y4, y5) := by exact rfl) : ∃ S, St w0 S0 w (sel L rest ++ [itI (zel T R) [.pointer (some ⟨b, 0, none⟩)] S x]) := St.shutP5 h R hR j k1 k2 k3 k4 k5 rest hd hj h1 h2 h3 h4 h5 x hx hg
end
section
variable {w0 w : World} {S0 : List Nat} {L : List Item} {α : Type} {R : Rp α}
theorem be {α β : Type} {G : Prop} {o : Option α} {f : α -> Option β} {r : β} (h : o.bind f = some r) (k : ∀ x, o = some x -> f x = some r -> G) : G := let ⟨x, a, b⟩ := zek h; k x a b
theorem St.fq {U : TypeId} {u : Value} {S : List Nat} {x : α} (h : St w0 S0 w L) (j : Nat) (hj : L[j]? = some (itI (zel U R) [u] S x) := by exact rfl) : ∃ b, u = .pointer (some ⟨b, 0, none⟩) := h.fptr j hj
theorem St.t1 {v : Value} {S : List Nat} {T : TypeId} {enc : α -> List Value} {sz : Nat} {ys : List α} {he : ∀ x, (enc x).length = sz} {hp : 0 < sz} (h : St w0 S0 w L) (j : Nat) (hj : L[j]? = some (itI (zie T enc sz he hp) [v] S ys) := by exact rfl) : St w0 S0 w (L.set j (qH v T enc sz ys)) := h.toRow1 j hj
theorem St.nq {T : TypeId} {v : Value} {S : List Nat} {xs : List α} {ho : Option (Nat × List Value)} (h : St w0 S0 w L) (j : Nat) (hj : L[j]? = some (nI T R v S xs ho) := by exact rfl) : xs.length <= 9223372036854775807 /\ ∃ a c, v = .slice a xs.length c := h.nlen j hj
end
theorem rl {P : Program} {w : World} {t : TypeId} {b o : Nat} {cs : List Value} (hc : ∀ j u, cs[j]? = some u -> w.cell? ⟨b, o + j, none⟩ = some u) (hA : zbz P (isAgg t) = some true := by kernel_rfl) (hs : zbz P (sizeOf t) = some cs.length := by kernel_rfl) :
  (Instr.loadAt t (.pointer (some ⟨b, o, none⟩))).run P w = .ok (.agg cs.toArray) w := zfq hA hs hc
end Go.Sx
