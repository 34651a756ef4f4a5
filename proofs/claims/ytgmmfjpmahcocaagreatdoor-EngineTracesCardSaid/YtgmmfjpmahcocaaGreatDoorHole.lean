import Derived.Test.YtgmmfjpmahcocaaGreatDoorIfc
set_option linter.unusedVariables false
set_option linter.unusedSimpArgs false
namespace Go.Sx
open Go.RowKit
section
variable {α : Type} {w w' : World} {T : TypeId} {R : Rp α} {v : Value} {S : List Nat} {xs : List α} {ho : Option (Nat × List Value)} {css : List (List Value)} {Ss : List (List Nat)}
theorem zf5.appH {v' : Value} {v2 : Value} {S2 : List Nat} {ys : List α} {css2 : List (List Value)} {Ss2 : List (List Nat)} {t : Nat} {cs0 : List Value} (h : zf5 w T R v S xs none css Ss) (h2 : zf5 w T R v2 S2 ys (some (t, cs0)) css2 Ss2) (hd : ∀ b ∈ S, b ∉ S2)
  (hw : ∀ b ∈ Ss.flatten ++ Ss2.flatten, w'.heap[b]? = w.heap[b]?) (hat : zas v' = zas v \/ zas v' = some w.heap.size) (hrow : zef w' T R.sz v' (xs.length + ys.length) (zaX (fit R.sz) css ++ zaX (fit R.sz) css2)) :
  zf5 w' T R v' ((zas v').toList ++ (Ss ++ Ss2).flatten) (xs ++ ys) (some (xs.length + t, cs0)) (css ++ css2) (Ss ++ Ss2) := by
 have hn := h.nd
 rw [h.hS] at hn
 obtain ⟨n1, n2, n3⟩ := List.nodup_append.1 hn
 have hn2 := h2.nd
 rw [h2.hS] at hn2
 obtain ⟨m1, m2, m3⟩ := List.nodup_append.1 hn2
 have lc := h.lc
 have ls := h.ls
 have lc2 := h2.lc
 have ls2 := h2.ls
 refine ⟨by rw [zeS, List.length_append]; exact hrow, by simp; omega, by simp; omega, rfl, ?_, (fun t' cs' e => ?_), fun i c S' z gho g2 g3 g4 => ?_⟩
 ·rw [List.flatten_append]
  refine List.nodup_append.2 ⟨zbn, List.nodup_append.2 ⟨n2, m2, fun a ha b hb e => ?_⟩, fun a ha b hb e => ?_⟩
  ·subst e; exact hd a (by rw [h.hS]; exact zar _ ha) (by rw [h2.hS]; exact zar _ hb)
  ·subst e
   rcases hat with hat | hat
   ·rw [hat] at ha
    rcases List.mem_append.1 hb with hb | hb
    ·exact n3 a ha a hb rfl
    ·exact hd a (by rw [h.hS]; exact zal _ ha) (by rw [h2.hS]; exact zar _ hb)
   ·rw [hat] at ha
    simp at ha
    have hlt : a < w.heap.size := by
     rcases List.mem_append.1 hb with hb | hb
     ·exact h.lt a (by rw [h.hS]; exact zar _ hb)
     ·exact h2.lt a (by rw [h2.hS]; exact zar _ hb)
    omega
 ·simp only [Option.some.injEq, Prod.mk.injEq] at e
  obtain ⟨rfl, rfl⟩ := e
  obtain ⟨q1, q2, q3⟩ := h2.out t cs0 rfl
  refine ⟨q1, ?_, ?_⟩
  ·rw [List.getElem?_append_right (by omega), show xs.length + t - css.length = t by omega]; exact q2
  ·rw [List.getElem?_append_right (by omega), show xs.length + t - Ss.length = t by omega]; exact q3
 ·rcases zbo g2 with ⟨l1, g2⟩ | ⟨l1, g2⟩
  ·rcases zbo g3 with ⟨l2, g3⟩ | ⟨l2, g3⟩
   ·rcases zbo g4 with ⟨l3, g4⟩ | ⟨l3, g4⟩
    ·exact R.loc w w' c S' z (fun b hb => hw b (zal _ (List.mem_flatten.2 ⟨S', zmg g3, hb⟩))) (h.own i c S' z (by simp) g2 g3 g4)
    ·omega
   ·omega
  ·rcases zbo g3 with ⟨l2, g3⟩ | ⟨l2, g3⟩
   ·omega
   ·rcases zbo g4 with ⟨l3, g4⟩ | ⟨l3, g4⟩
    ·omega
    ·rw [show i - Ss.length = i - css.length by omega] at g3
     rw [show i - xs.length = i - css.length by omega] at g4
     exact R.loc w w' c S' z (fun b hb => hw b (zar _ (List.mem_flatten.2 ⟨S', zmg g3, hb⟩))) (h2.own (i - css.length) c S' z (fun c' e => by simp only [Option.some.injEq, Prod.mk.injEq] at e; exact gho cs0 (by rw [e.1, show xs.length + (i - css.length) = i by omega])) g2 g3 g4)
end
section
variable {P : Program} {N : Nat} {Q : Exit -> Act -> World -> Prop} {fr fr' : List (Nat × Value)} {w w0 : World} {l : List Oper} {i : Nat} {o : Oper} {S0 : List Nat} {L : List Item} {α : Type} {R : Rp α}
theorem OW.appNH {d t e : Nat} {x y : Operand} {ty : TypeId} {pos : String} {af : Array Edge} {gdd : Option (Nat × Bool)} {ats : List Nat} (hst : St w0 S0 w L) (k j : Nat) (hkj : Nat.beq k j = false) {v v2 : Value} {S S2 : List Nat} {xs ys : List α} {bytes : Nat} {t0 : Nat} {cs0 : List Value}
  (hk : L[k]? = some (nI e R v S xs none)) (hj : L[j]? = some (nI e R v2 S2 ys (some (t0, cs0)))) (hcs0 : zhP cs0 = true)
  (hl : vy l i = some ⟨some d, .call ⟨.builtin .append, [x, y].toArray, ats.toArray⟩, ty, pos, af, gdd⟩) (ha : ats = [t, t]) (hg : gd l fr ⟨some d, .call ⟨.builtin .append, [x, y].toArray, ats.toArray⟩, ty, pos, af, gdd⟩ = some true)
  (hN : Nat.blt d N = true) (hx : look fr x = some v) (hy : look fr y = some v2) (ht : P.underlying t = some (.slice e)) (hel : zej P e R.sz bytes) (hb : (xs.length + ys.length) * bytes <= 140737488355328) (hone : ∀ w cs S x, R.own w cs S x -> zhP cs = true)
  (h : ∀ v' S' w', St w0 S0 w' ((L.set k (nI e R v' S' (xs ++ ys) (some (xs.length + t0, cs0)))).set j zeG) -> OW P l N Q (i + 1) ((d, v') :: fr) w') : OW P l N Q i fr w := by
 subst ha
 obtain ⟨css, Ss, hr⟩ := hst.all k _ hk
 obtain ⟨css2, Ss2, hr2⟩ := hst.all j _ hj
 have hdis : ∀ b ∈ S, b ∉ S2 := hst.apart k j _ _ (Nat.ne_of_beq_eq_false hkj) hk hj
 obtain ⟨inf, z, hi, hz, hsz, hby, hzs⟩ := hel.info
 have exec : ∀ {v' : Value} {w' : World}, (Builtin.append_ #[t, t] ty #[v, v2]).run P w = .ok v' w' -> ∀ a, Rep N fr a ->
   (execOp a.eval ⟨some d, .call ⟨.builtin .append, [x, y].toArray, [t, t].toArray⟩, ty, pos, af, gdd⟩).run P w = .ok (.value v') w' := by
  intro v' w' hr a ha
  have e1 := ha.look hx
  have e2 := ha.look hy
  simp [execOp, resolve, invoke, builtin, e1, e2, hr]
 have hlk : k < L.length := (zes.1 hk).1
 have key : ∀ {v' : Value} {w' : World}, (Builtin.append_ #[t, t] ty #[v, v2]).run P w = .ok v' w' -> w.grownBy w' (zas v) -> (zas v' = zas v \/ zas v' = some w.heap.size) -> zef w' e R.sz v' (xs.length + ys.length) (zaX (fit R.sz) css ++ zaX (fit R.sz) css2) -> OW P l N Q i fr w := by
  intro v' w' hrun hgr hat hown
  have hn := hr.nd
  rw [hr.hS] at hn
  have hn3 := (List.nodup_append.1 hn).2.2
  have hchg : Chg (zas v).toList w w' := Chg.grown hgr (fun b hb => by simp [hb])
  have happ := hr.appH (w' := w') hr2 hdis (fun b hb => hchg.block b (by
   rcases List.mem_append.1 hb with hb | hb
   ·exact hr.lt b (by rw [hr.hS]; exact zar _ hb)
   ·exact hr2.lt b (by rw [hr2.hS]; exact zar _ hb)) (fun hv => by
   rcases List.mem_append.1 hb with hb | hb
   ·exact hn3 b hv b hb rfl
   ·exact hdis b (by rw [hr.hS]; exact zal _ hv) (by rw [hr2.hS]; exact zar _ hb))) hat hown
  refine OW.op hl hg rfl hN (exec hrun) (h v' ((zas v').toList ++ (Ss ++ Ss2).flatten) w' ?_)
  have hsub : ∀ b ∈ (zas v).toList ++ (Ss ++ Ss2).flatten, b ∈ S \/ b ∈ S2 := fun b hb => by
   rw [List.flatten_append] at hb
   rcases List.mem_append.1 hb with hb | hb
   ·exact .inl (by rw [hr.hS]; exact zal _ hb)
   ·rcases List.mem_append.1 hb with hb | hb
    ·exact .inl (by rw [hr.hS]; exact zar _ hb)
    ·exact .inr (by rw [hr2.hS]; exact zar _ hb)
  have hnd : ((zas v).toList ++ (Ss ++ Ss2).flatten).Nodup := by
   have hn2 := hr2.nd
   rw [hr2.hS] at hn2
   have m := List.nodup_append.1 hn2
   have n := List.nodup_append.1 hn
   rw [List.flatten_append]
   refine List.nodup_append.2 ⟨n.1, List.nodup_append.2 ⟨n.2.1, m.2.1, fun a ha b hb e => by subst e; exact hdis a (by rw [hr.hS]; exact zar _ ha) (by rw [hr2.hS]; exact zar _ hb)⟩, fun a ha b hb e => ?_⟩
   subst e
   rcases List.mem_append.1 hb with hb | hb
   ·exact hn3 a ha a hb rfl
   ·exact hdis a (by rw [hr.hS]; exact zal _ ha) (by rw [hr2.hS]; exact zar _ hb)
  let A : Item := ⟨(zas v).toList ++ (Ss ++ Ss2).flatten, fun w1 => ∀ b ∈ (zas v).toList ++ (Ss ++ Ss2).flatten, b < w1.heap.size, fun w1 w2 hb hh b hb2 => by
   have h1 := hh b hb2
   have h2 := hb b hb2
   rw [Array.getElem?_eq_getElem h1] at h2
   exact (Array.getElem?_eq_some_iff.1 h2).1, fun w1 hh => hh⟩
  have hA : St w0 S0 w ((L.set k A).set j zeG) := hst.fuse k j hkj hk hj (C := A) (fun b hb => by
   rcases hsub b hb with hb | hb
   ·exact hr.lt b hb
   ·exact hr2.lt b hb) hnd hsub
  have hkA : ((L.set k A).set j zeG)[k]? = some A := by
   rw [List.getElem?_set_ne (fun e => Nat.ne_of_beq_eq_false hkj e.symm), List.getElem?_set_self hlk]
  have := hA.upd k hkA (it' := nI e R v' ((zas v').toList ++ (Ss ++ Ss2).flatten) (xs ++ ys) (some (xs.length + t0, cs0))) (hchg.mono (fun b hb => zal _ hb)) ⟨_, _, happ⟩ (fun b hb => by
   rcases List.mem_append.1 hb with hb | hb
   ·rcases hat with hat | hat
    ·exact .inl (zal _ (by rw [<- hat]; exact hb))
    ·rw [hat] at hb; simp at hb; exact .inr (by omega)
   ·exact .inl (zar _ hb)) happ.nd
  rw [List.set_comm _ _ (fun e => Nat.ne_of_beq_eq_false hkj e.symm), List.set_set] at this
  exact this
 have hlim := (hst.nlen k hk).1
 have hrow2 : Rd w [] v2 (fit R.sz) R.sz css2 := by
  have hrow := hr2.row
  rw [<- hr2.lc] at hrow
  exact zcS (fun x => xT _ x) hrow (by simp)
 obtain ⟨hn2, a2, c2, hv2, _, hc2⟩ := hrow2
 have hlc2 := hr2.lc
 rcases Nat.eq_zero_or_pos ys.length with h0 | h0
 ·have hys : ys = [] := List.eq_nil_of_length_eq_zero h0
  have hcs : css2 = [] := List.eq_nil_of_length_eq_zero (by omega)
  refine key (v' := v) (w' := w) ?_ ⟨rfl, rfl, rfl, Nat.le_refl _, fun _ _ _ => rfl⟩ (.inl rfl) ?_
  ·rw [hv2, hcs]
   exact zb9 ht hel.size hr.row a2 c2
  ·rw [hcs, hys]
   simpa [zaX] using hr.row
 ·obtain ⟨c0, hc0⟩ : ∃ c0, css2[0]? = some c0 := ⟨css2[0]'(by omega), zeg (by omega)⟩
  obtain ⟨u0, hu0⟩ : ∃ u0, (fit R.sz c0)[0]? = some u0 := ⟨(fit R.sz c0)[0]'(by rw [xT]; exact hel.pos), zeg (by rw [xT]; exact hel.pos)⟩
  obtain ⟨b, q, rfl, _, _⟩ := hc2 0 c0 0 u0 hc0 hu0
  have hcell : ∀ q' u, (zaX (fit R.sz) css2)[q']? = some u -> w.cell? ((⟨b, q, none⟩ : Addr).add q') = some u := by
   intro q' u hu
   rw [za7]
   obtain ⟨t, f, x, hx, hf, hq⟩ := zcR (fun x => xT R.sz x) hel.pos hu
   obtain ⟨b', k', hb', _, hcell⟩ := hc2 t x f u hx hf
   simp only [Option.some.injEq, Addr.mk.injEq, and_true] at hb'
   obtain ⟨rfl, rfl⟩ := hb'
   rw [hq, <- Nat.add_assoc]
   exact hcell
  have hones : ∀ u ∈ zaX (fit R.sz) css2, u.oneCell' = true := by
   intro u hu
   obtain ⟨q', hq', rfl⟩ := List.mem_iff_getElem.1 hu
   obtain ⟨t, f, c, hx, hf, _⟩ := zcR (fun x => xT R.sz x) hel.pos (zeg hq')
   have ht := (zes.1 hx).1
   have l1 : t < Ss2.length := by rw [hr2.ls]; omega
   have l2 : t < ys.length := by omega
   by_cases e0 : t0 = t
   ·subst e0
    obtain ⟨q1, q2, _⟩ := hr2.out t0 cs0 rfl
    rw [q2] at hx
    cases hx
    rw [zha q1] at hf
    exact zei hcs0 _ (zmg hf)
   have hown := hr2.own t c Ss2[t] ys[t] (fun c' e => e0 (by simp only [Option.some.injEq, Prod.mk.injEq] at e; exact e.1)) hx (zeg l1) (zeg l2)
   rw [zha (R.len _ _ _ _ hown)] at hf
   exact zei (hone _ _ _ _ hown) _ (zmg hf)
  obtain ⟨v', w', hrun, hown, hgr, hat⟩ := zi4 (P := P) w t ty e inf z R.sz bytes ht hi hz hsz hby hzs v xs.length (zaX (fit R.sz) css) hr.row ⟨b, q, none⟩ ys.length c2 h0 (zaX (fit R.sz) css2) (by rw [xS (fun x => xT R.sz x), hlc2]) hcell hones
   (by have := Nat.le_mul_of_pos_right (xs.length + ys.length) hel.bpos; simp only [maxLen]; omega) hb
  refine key ?_ hgr hat hown
  rw [hv2, hlc2]
  exact hrun
theorem St.nOneH {T : TypeId} {v : Value} {sz : Nat} {cs : List Value} (h : St w0 S0 w L) (k : Nat) (R : Rp α) (x : α) (hs : sz = R.sz) (hk : L[k]? = some (qH v T (fit sz) sz [cs])) (hl : cs.length = R.sz) : St w0 S0 w (L.set k (nI T R v (zas v).toList [x] (some (0, cs)))) := by
 subst hs
 have hrow := h.all k _ hk
 refine h.turn k hk ⟨[cs], [[]], ⟨hrow, rfl, rfl, by simp, zbn, fun t c e => ?_, fun i c S' z hho hc hS hz => ?_⟩⟩ rfl
 ·simp only [Option.some.injEq, Prod.mk.injEq] at e
  obtain ⟨rfl, rfl⟩ := e
  exact ⟨hl, rfl, rfl⟩
 ·cases i with
  | zero => exact absurd (by simp at hc; rw [hc]) (hho cs)
  | succ i => simp at hc
theorem zfc (xs : List α) (x : α) : Sx.idx (xs ++ [x]) ((xs.length : Nat) : Int) = some x := by
 unfold Sx.idx
 rw [if_pos (by omega), Int.toNat_natCast, List.getElem?_append_right (by omega)]
 simp
end
def apart (a b : Int) : Option Unit := if a.toNat = b.toNat then none else some ()
theorem zlh {a b : Int} {u : Unit} (h : apart a b = some u) : a.toNat ≠ b.toNat := by
 unfold apart at h
 split at h
 ·cases h
 ·assumption
section
variable {w w0 : World} {S0 : List Nat} {L : List Item} {β : Type}
theorem St.nview {T e : TypeId} {enc : β -> List Value} {sz : Nat} {he : ∀ x, (enc x).length = sz} {hp : 0 < sz} {S : List Nat} {xs : List (List β)} {ho : Option (Nat × List Value)} {hd : Value} (h : St w0 S0 w L) (j : Nat)
  (hj : L[j]? = some (nI T (zie e enc sz he hp) hd S xs ho)) {q : Int} {x : List β} (hx : Sx.idx xs q = some x) (hne : ∀ t c, ho = some (t, c) -> q.toNat ≠ t) {g o n cap : Nat} (hv : hd = .slice (some ⟨g, o, none⟩) n cap) :
  ∃ v, w.cell? ⟨g, o + q.toNat * 1, none⟩ = some v /\ ∀ F, (∀ b ∈ S, b ∉ F) -> Rd w F v enc sz x := by
 obtain ⟨css, Ss, hr⟩ := h.all j _ hj
 have hx2 := (zh hx).2.2
 have hl := (zes.1 hx2).1
 have a1 : q.toNat < css.length := by rw [hr.lc]; exact hl
 have a2 : q.toNat < Ss.length := by rw [hr.ls]; exact hl
 have hown := hr.own q.toNat css[q.toNat] Ss[q.toNat] x (fun c e => hne _ _ e rfl) (zeg a1) (zeg a2) hx2
 obtain ⟨v, hc, hS, hrow⟩ := hown
 refine ⟨v, ?_, fun F hF => ?_⟩
 ·have := hr.cells (zeg a1) (by rw [hc]; rfl) hv 0 v (by rw [hc]; rfl)
  exact this
 ·refine zcS he hrow (fun b hb => hF b ?_)
  rw [hr.hS]
  exact zar _ (List.mem_flatten.2 ⟨Ss[q.toNat], List.getElem_mem a2, by rw [hS]; exact hb⟩)
end
end Go.Sx
