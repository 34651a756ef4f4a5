import Derived.Test.YtgmmfjpmahcocaaGreatDoorMem
set_option linter.unusedVariables false
set_option linter.unusedSimpArgs false
namespace Go.Sx
open Go.RowKit
section
variable {w0 w : World} {S0 : List Nat} {L : List Item}
theorem St.burst2 {A A' : Item} {B : List Item} (h : St w0 S0 w L) (j : Nat) (hj : L[j]? = some A) (hB : zcj w A.S (A' :: B)) : St w0 S0 w (L.set j A' ++ B) := by
 have hlt : j < L.length := (zes.1 hj).1
 have h1 := h.burst j hj hB
 have e : (L.set j zeG ++ A' :: B) = (L.set j zeG ++ [A']) ++ B := by simp
 rw [e] at h1
 have g : ∀ (m : Nat) (it : Item), (L.set j A' ++ B)[m]? = some it -> ∃ m', ((L.set j zeG ++ [A']) ++ B)[m']? = some it /\ (m = j /\ m' = L.length \/ m ≠ j /\ m < L.length /\ m' = m \/ L.length <= m /\ m' = m + 1) := by
  intro m it hm
  rcases zbo hm with ⟨l1, h2⟩ | ⟨l1, h2⟩
  ·rw [List.length_set] at l1
   rcases zcw h2 with ⟨rfl, rfl⟩ | ⟨hne, h2⟩
   ·exact ⟨L.length, by rw [List.append_assoc, List.getElem?_append_right (by simp)]; simp, .inl ⟨rfl, rfl⟩⟩
   ·exact ⟨m, by rw [List.append_assoc, List.getElem?_append_left (by simpa using l1), List.getElem?_set_ne (fun e => hne e.symm)]; exact h2, .inr (.inl ⟨hne, l1, rfl⟩)⟩
  ·rw [List.length_set] at l1 h2
   refine ⟨m + 1, ?_, .inr (.inr ⟨l1, rfl⟩)⟩
   rw [List.getElem?_append_right (by simp; omega)]
   simp only [List.length_append, List.length_set, List.length_singleton]
   rw [show m + 1 - (L.length + 1) = m - L.length by omega]
   exact h2
 refine h1.repart (fun m it hm => ?_) (fun m n a b hmn hm hn => ?_)
 ·obtain ⟨m', h2, _⟩ := g m it hm
  exact ⟨h1.all m' it h2, h1.nd m' it h2, fun x hx => zaV.2 ⟨m', it, h2, hx⟩⟩
 ·obtain ⟨m', h2, p2⟩ := g m a hm
  obtain ⟨n', h3, p3⟩ := g n b hn
  exact h1.apart m' n' a b (by omega) h2 h3
theorem fp3 {L : List Item} {q : Nat} {it : Item} {ids : List Nat} {b : Nat} (i : Nat) (hi : ids[i]? = some q) (hq : L[q]? = some it) (hb : b ∈ it.S) : b ∈ fp (sel L ids) := by
 refine zaV.2 ⟨i, it, ?_, hb⟩
 induction ids generalizing i with
 | nil => simp at hi
 | cons a r ih =>
  cases i with
  | zero =>
   simp at hi
   subst hi
   simp [sel, List.getD_eq_getElem?_getD, hq]
  | succ i => simpa [sel] using ih i (by simpa using hi)
theorem St.openP0 {α : Type} {T : TypeId} {enc : α -> List Value} {sz : Nat} {he : ∀ x, (enc x).length = sz} {v : Value} {S : List Nat} {x : α} (h : St w0 S0 w L) (j : Nat) (hj : L[j]? = some (itI (zel T (zlP enc sz he)) [v] S x)) :
  ∃ b, v = .pointer (some ⟨b, 0, none⟩) /\ St w0 S0 w (L.set j (zs b T (enc x))) := by
 obtain ⟨b, cs', S', hv, rfl, hb, hh, rfl, rfl⟩ := h.all j _ hj
 cases hv
 exact ⟨b, rfl, h.turn j hj hh rfl⟩
theorem St.openQ0 {α : Type} {T : TypeId} {enc : α -> List Value} {sz : Nat} {he : ∀ x, (enc x).length = sz} {b : Nat} {S : List Nat} {x : α} (h : St w0 S0 w L) (j : Nat) (hj : L[j]? = some (itI (zel T (zlP enc sz he)) [.pointer (some ⟨b, 0, none⟩)] S x)) :
  St w0 S0 w (L.set j (zs b T (enc x))) := by
 obtain ⟨b2, hv, hst⟩ := h.openP0 j hj
 cases hv
 exact hst
theorem St.toRow1 {α : Type} {v : Value} {S : List Nat} {T : TypeId} {enc : α -> List Value} {sz : Nat} {ys : List α} {he : ∀ x, (enc x).length = sz} {hp : 0 < sz} (h : St w0 S0 w L) (j : Nat) (hj : L[j]? = some (itI (zie T enc sz he hp) [v] S ys)) : St w0 S0 w (L.set j (qH v T enc sz ys)) := by
 obtain ⟨u, hu, hst⟩ := h.toRow j hj
 cases hu
 exact hst
theorem St.shutP0 {α : Type} {T : TypeId} {enc : α -> List Value} {sz : Nat} {he : ∀ x, (enc x).length = sz} {cs : List Value} {b : Nat} (h : St w0 S0 w L) (j : Nat) (hj : L[j]? = some (zs b T cs)) (x : α) (hx : cs = enc x) :
  St w0 S0 w (L.set j (itI (zel T (zlP enc sz he)) [.pointer (some ⟨b, 0, none⟩)] [b] x)) := by
 subst hx
 exact h.turn j hj ⟨b, enc x, [], rfl, rfl, by simp, h.all j _ hj, rfl, rfl⟩ rfl
theorem sng {v : List Value} (h : v.length = 1) : ∃ u, v = [u] := by
 cases v with
 | nil => cases h
 | cons u r => cases r with
  | nil => exact ⟨u, rfl⟩
  | cons _ _ => simp at h
theorem zao (h : St w0 S0 w L) {ids : List Nat} (hd : jF ids = true) (i j : Nat) {p q : Nat} {A B : Item} (hij : i ≠ j) (hi : ids[i]? = some p) (hj : ids[j]? = some q) (hp : L[p]? = some A) (hq : L[q]? = some B) : ∀ b ∈ A.S, b ∉ B.S :=
 h.apart p q A B (zaW hd hij hi hj) hp hq
theorem zdl {a b : List Nat} (h : jF (a ++ b) = true) : jF a = true := by
 induction a with
 | nil => rfl
 | cons x r ih =>
  simp only [List.cons_append, jF] at h |-
  split at h
  ·cases h
  ·rename_i hm
   have : mem? x r = false := by
    cases hx : mem? x r with
    | false => rfl
    | true => rw [mem?_iff.2 (zal _ (mem?_iff.1 hx))] at hm; cases hm
   rw [this]
   exact ih h
end
section
variable {w0 w : World} {S0 : List Nat} {L : List Item} {α : Type} {β1 : Type} {T : TypeId} {f : α -> List Value -> List Value} {sz : Nat} {hl : ∀ x vs, (f x vs).length = sz} {g : α -> β1} {A1 : Rp β1}
theorem St.openP1 {v : Value} {S : List Nat} {x : α} (h : St w0 S0 w L) (j : Nat) (hj : L[j]? = some (itI (zel T (qC f sz hl g A1)) [v] S x)) (z1 : A1.sz = 1) :
  ∃ b v1 S1, v = .pointer (some ⟨b, 0, none⟩) /\ St w0 S0 w (L.set j (zs b T (f x [v1])) ++ [itI A1 [v1] S1 (g x)]) := by
 obtain ⟨b, cs', S', hv, rfl, hb, hh, vs, rfl, hown1⟩ := h.all j _ hj
 cases hv
 obtain ⟨v1, rfl⟩ := sng ((A1.len _ _ _ _ hown1).trans z1)
 refine ⟨b, v1, S', rfl, h.burst2 j hj ?_⟩
 exact zcj.cons hh (by simp [zs]) (fun c hc => by simp only [zs, List.mem_singleton] at hc; subst hc; exact zcs) (fun c hc => by simp only [zs, List.mem_singleton] at hc; subst hc; exact hb) (zcj.cons hown1 (A1.nd _ _ _ _ hown1) (fun b hb => hb) (S2 := []) (by simp) zcj.nil (by simp)) (fun c hc => zcm _ hc)
theorem St.openQ1 {b : Nat} {S : List Nat} {x : α} (h : St w0 S0 w L) (j : Nat) (hj : L[j]? = some (itI (zel T (qC f sz hl g A1)) [.pointer (some ⟨b, 0, none⟩)] S x)) (z1 : A1.sz = 1) :
  ∃ v1 S1, St w0 S0 w (L.set j (zs b T (f x [v1])) ++ [itI A1 [v1] S1 (g x)]) := by
 obtain ⟨b2, v1, S1, hv, hst⟩ := h.openP1 j hj z1
 cases hv
 exact ⟨v1, S1, hst⟩
theorem St.shutP1 {cs : List Value} {b : Nat} {v1 : Value} {S1 : List Nat} {y1 : β1} (h : St w0 S0 w L) (R : Rp α) (hR : R = qC f sz hl g A1) (j k1 : Nat) (rest : List Nat) (hd : jF ([j, k1] ++ rest) = true) (hj : L[j]? = some (zs b T cs)) (h1 : L[k1]? = some (itI A1 [v1] S1 y1)) (x : α) (hx : cs = f x [v1]) (hg : g x = y1) :
  ∃ S, St w0 S0 w (sel L rest ++ [itI (zel T R) [.pointer (some ⟨b, 0, none⟩)] S x]) := by
 subst hR
 subst hx
 have hd1 := zdl hd
 have o1 : A1.own w [v1] S1 y1 := h.all k1 _ h1
 have hown : (qC f sz hl g A1).own w (f x [v1]) (S1) x := by
  refine ⟨[v1], rfl, ?_⟩
  rw [hg]
  exact o1
 have hbn : b ∉ (S1) := by
  intro hb
  rcases hb with hb
  ·exact zao h hd1 0 1 (by decide) rfl rfl hj h1 b (by simp [zs]) hb
 have hh : w.heap[b]? = some (.cells (f x [v1]).toArray T (0, 0)) := h.all j _ hj
 have hp : (zel T (qC f sz hl g A1)).own w [.pointer (some ⟨b, 0, none⟩)] (b :: (S1)) x := ⟨b, _, _, rfl, rfl, hbn, hh, hown⟩
 refine ⟨_, h.gather [j, k1] rest hd (C := itI (zel T (qC f sz hl g A1)) _ _ x) hp ((zel T (qC f sz hl g A1)).nd _ _ _ _ hp) (fun c hc => ?_)⟩
 rcases List.mem_cons.1 hc with rfl | hc
 ·exact fp3 0 rfl hj (by simp [zs])
 ·exact fp3 1 rfl h1 hc
end
section
variable {w0 w : World} {S0 : List Nat} {L : List Item} {α : Type} {β1 : Type} {β2 : Type} {T : TypeId} {f : α -> List Value -> List Value} {sz : Nat} {hl : ∀ x vs, (f x vs).length = sz} {g : α -> β1 × β2} {A1 : Rp β1} {A2 : Rp β2}
end
section
variable {w0 w : World} {S0 : List Nat} {L : List Item} {α : Type} {β1 : Type} {β2 : Type} {β3 : Type} {T : TypeId} {f : α -> List Value -> List Value} {sz : Nat} {hl : ∀ x vs, (f x vs).length = sz} {g : α -> β1 × (β2 × β3)} {A1 : Rp β1} {A2 : Rp β2} {A3 : Rp β3}
theorem St.openP3 {v : Value} {S : List Nat} {x : α} (h : St w0 S0 w L) (j : Nat) (hj : L[j]? = some (itI (zel T (qC f sz hl g (qB A1 (qB A2 A3)))) [v] S x)) (z1 : A1.sz = 1) (z2 : A2.sz = 1) (z3 : A3.sz = 1) :
  ∃ b v1 S1 v2 S2 v3 S3, v = .pointer (some ⟨b, 0, none⟩) /\ St w0 S0 w (L.set j (zs b T (f x [v1, v2, v3])) ++ [itI A1 [v1] S1 (g x).1, itI A2 [v2] S2 (g x).2.1, itI A3 [v3] S3 (g x).2.2]) := by
 obtain ⟨b, cs', S', hv, rfl, hb, hh, vs, rfl, c1, d1, S1, R1, rfl, rfl, hd1, hown1, ⟨c2, d2, S2, R2, rfl, rfl, hd2, hown2, hown3⟩⟩ := h.all j _ hj
 cases hv
 obtain ⟨v1, rfl⟩ := sng ((A1.len _ _ _ _ hown1).trans z1)
 obtain ⟨v2, rfl⟩ := sng ((A2.len _ _ _ _ hown2).trans z2)
 obtain ⟨v3, rfl⟩ := sng ((A3.len _ _ _ _ hown3).trans z3)
 refine ⟨b, v1, S1, v2, S2, v3, R2, rfl, h.burst2 j hj ?_⟩
 exact zcj.cons hh (by simp [zs]) (fun c hc => by simp only [zs, List.mem_singleton] at hc; subst hc; exact zcs) (fun c hc => by simp only [zs, List.mem_singleton] at hc; subst hc; exact hb) (zcj.cons hown1 (A1.nd _ _ _ _ hown1) (fun b hb => zal _ hb) hd1 (zcj.cons hown2 (A2.nd _ _ _ _ hown2) (fun b hb => zal _ hb) hd2 (zcj.cons hown3 (A3.nd _ _ _ _ hown3) (fun b hb => hb) (S2 := []) (by simp) zcj.nil (by simp)) (fun b hb => zar _ hb)) (fun b hb => zar _ hb)) (fun c hc => zcm _ hc)
theorem St.openQ3 {b : Nat} {S : List Nat} {x : α} (h : St w0 S0 w L) (j : Nat) (hj : L[j]? = some (itI (zel T (qC f sz hl g (qB A1 (qB A2 A3)))) [.pointer (some ⟨b, 0, none⟩)] S x)) (z1 : A1.sz = 1) (z2 : A2.sz = 1) (z3 : A3.sz = 1) :
  ∃ v1 S1 v2 S2 v3 S3, St w0 S0 w (L.set j (zs b T (f x [v1, v2, v3])) ++ [itI A1 [v1] S1 (g x).1, itI A2 [v2] S2 (g x).2.1, itI A3 [v3] S3 (g x).2.2]) := by
 obtain ⟨b2, v1, S1, v2, S2, v3, S3, hv, hst⟩ := h.openP3 j hj z1 z2 z3
 cases hv
 exact ⟨v1, S1, v2, S2, v3, S3, hst⟩
theorem St.shutP3 {cs : List Value} {b : Nat} {v1 : Value} {S1 : List Nat} {y1 : β1} {v2 : Value} {S2 : List Nat} {y2 : β2} {v3 : Value} {S3 : List Nat} {y3 : β3} (h : St w0 S0 w L) (R : Rp α) (hR : R = qC f sz hl g (qB A1 (qB A2 A3))) (j k1 k2 k3 : Nat) (rest : List Nat) (hd : jF ([j, k1, k2, k3] ++ rest) = true) (hj : L[j]? = some (zs b T cs)) (h1 : L[k1]? = some (itI A1 [v1] S1 y1)) (h2 : L[k2]? = some (itI A2 [v2] S2 y2)) (h3 : L[k3]? = some (itI A3 [v3] S3 y3)) (x : α) (hx : cs = f x [v1, v2, v3]) (hg : g x = (y1, y2, y3)) :
  ∃ S, St w0 S0 w (sel L rest ++ [itI (zel T R) [.pointer (some ⟨b, 0, none⟩)] S x]) := by
 subst hR
 subst hx
 have hd1 := zdl hd
 have o1 : A1.own w [v1] S1 y1 := h.all k1 _ h1
 have o2 : A2.own w [v2] S2 y2 := h.all k2 _ h2
 have o3 : A3.own w [v3] S3 y3 := h.all k3 _ h3
 have hown : (qC f sz hl g (qB A1 (qB A2 A3))).own w (f x [v1, v2, v3]) (S1 ++ (S2 ++ S3)) x := by
  refine ⟨[v1, v2, v3], rfl, ?_⟩
  rw [hg]
  refine ⟨[v1], [v2, v3], S1, _, rfl, rfl, ?_, o1, ⟨[v2], [v3], S2, _, rfl, rfl, ?_, o2, o3⟩⟩
  ·intro b hb hb2
   simp only [List.mem_append] at hb2
   rcases hb2 with hb2 | hb2
   ·exact zao h hd1 1 2 (by decide) rfl rfl h1 h2 b hb hb2
   ·exact zao h hd1 1 3 (by decide) rfl rfl h1 h3 b hb hb2
  ·intro b hb hb2
   rcases hb2 with hb2
   ·exact zao h hd1 2 3 (by decide) rfl rfl h2 h3 b hb hb2
 have hbn : b ∉ (S1 ++ (S2 ++ S3)) := by
  intro hb
  simp only [List.mem_append] at hb
  rcases hb with hb | hb | hb
  ·exact zao h hd1 0 1 (by decide) rfl rfl hj h1 b (by simp [zs]) hb
  ·exact zao h hd1 0 2 (by decide) rfl rfl hj h2 b (by simp [zs]) hb
  ·exact zao h hd1 0 3 (by decide) rfl rfl hj h3 b (by simp [zs]) hb
 have hh : w.heap[b]? = some (.cells (f x [v1, v2, v3]).toArray T (0, 0)) := h.all j _ hj
 have hp : (zel T (qC f sz hl g (qB A1 (qB A2 A3)))).own w [.pointer (some ⟨b, 0, none⟩)] (b :: (S1 ++ (S2 ++ S3))) x := ⟨b, _, _, rfl, rfl, hbn, hh, hown⟩
 refine ⟨_, h.gather [j, k1, k2, k3] rest hd (C := itI (zel T (qC f sz hl g (qB A1 (qB A2 A3)))) _ _ x) hp ((zel T (qC f sz hl g (qB A1 (qB A2 A3)))).nd _ _ _ _ hp) (fun c hc => ?_)⟩
 rcases List.mem_cons.1 hc with rfl | hc
 ·exact fp3 0 rfl hj (by simp [zs])
 ·have hc : c ∈ S1 ++ (S2 ++ S3) := hc
  simp only [List.mem_append] at hc
  rcases hc with hc | hc | hc
  ·exact fp3 1 rfl h1 hc
  ·exact fp3 2 rfl h2 hc
  ·exact fp3 3 rfl h3 hc
end
section
variable {w0 w : World} {S0 : List Nat} {L : List Item} {α : Type} {β1 : Type} {β2 : Type} {β3 : Type} {β4 : Type} {T : TypeId} {f : α -> List Value -> List Value} {sz : Nat} {hl : ∀ x vs, (f x vs).length = sz} {g : α -> β1 × (β2 × (β3 × β4))} {A1 : Rp β1} {A2 : Rp β2} {A3 : Rp β3} {A4 : Rp β4}
end
section
variable {w0 w : World} {S0 : List Nat} {L : List Item} {α : Type} {β1 : Type} {β2 : Type} {β3 : Type} {β4 : Type} {β5 : Type} {T : TypeId} {f : α -> List Value -> List Value} {sz : Nat} {hl : ∀ x vs, (f x vs).length = sz} {g : α -> β1 × (β2 × (β3 × (β4 × β5)))} {A1 : Rp β1} {A2 : Rp β2} {A3 : Rp β3} {A4 : Rp β4} {A5 : Rp β5}
theorem St.openP5 {v : Value} {S : List Nat} {x : α} (h : St w0 S0 w L) (j : Nat) (hj : L[j]? = some (itI (zel T (qC f sz hl g (qB A1 (qB A2 (qB A3 (qB A4 A5)))))) [v] S x)) (z1 : A1.sz = 1) (z2 : A2.sz = 1) (z3 : A3.sz = 1) (z4 : A4.sz = 1) (z5 : A5.sz = 1) :
  ∃ b v1 S1 v2 S2 v3 S3 v4 S4 v5 S5, v = .pointer (some ⟨b, 0, none⟩) /\ St w0 S0 w (L.set j (zs b T (f x [v1, v2, v3, v4, v5])) ++ [itI A1 [v1] S1 (g x).1, itI A2 [v2] S2 (g x).2.1, itI A3 [v3] S3 (g x).2.2.1, itI A4 [v4] S4 (g x).2.2.2.1, itI A5 [v5] S5 (g x).2.2.2.2]) := by
 obtain ⟨b, cs', S', hv, rfl, hb, hh, vs, rfl, c1, d1, S1, R1, rfl, rfl, hd1, hown1, ⟨c2, d2, S2, R2, rfl, rfl, hd2, hown2, ⟨c3, d3, S3, R3, rfl, rfl, hd3, hown3, ⟨c4, d4, S4, R4, rfl, rfl, hd4, hown4, hown5⟩⟩⟩⟩ := h.all j _ hj
 cases hv
 obtain ⟨v1, rfl⟩ := sng ((A1.len _ _ _ _ hown1).trans z1)
 obtain ⟨v2, rfl⟩ := sng ((A2.len _ _ _ _ hown2).trans z2)
 obtain ⟨v3, rfl⟩ := sng ((A3.len _ _ _ _ hown3).trans z3)
 obtain ⟨v4, rfl⟩ := sng ((A4.len _ _ _ _ hown4).trans z4)
 obtain ⟨v5, rfl⟩ := sng ((A5.len _ _ _ _ hown5).trans z5)
 refine ⟨b, v1, S1, v2, S2, v3, S3, v4, S4, v5, R4, rfl, h.burst2 j hj ?_⟩
 exact zcj.cons hh (by simp [zs]) (fun c hc => by simp only [zs, List.mem_singleton] at hc; subst hc; exact zcs) (fun c hc => by simp only [zs, List.mem_singleton] at hc; subst hc; exact hb) (zcj.cons hown1 (A1.nd _ _ _ _ hown1) (fun b hb => zal _ hb) hd1 (zcj.cons hown2 (A2.nd _ _ _ _ hown2) (fun b hb => zal _ hb) hd2 (zcj.cons hown3 (A3.nd _ _ _ _ hown3) (fun b hb => zal _ hb) hd3 (zcj.cons hown4 (A4.nd _ _ _ _ hown4) (fun b hb => zal _ hb) hd4 (zcj.cons hown5 (A5.nd _ _ _ _ hown5) (fun b hb => hb) (S2 := []) (by simp) zcj.nil (by simp)) (fun b hb => zar _ hb)) (fun b hb => zar _ hb)) (fun b hb => zar _ hb)) (fun b hb => zar _ hb)) (fun c hc => zcm _ hc)
theorem St.openQ5 {b : Nat} {S : List Nat} {x : α} (h : St w0 S0 w L) (j : Nat) (hj : L[j]? = some (itI (zel T (qC f sz hl g (qB A1 (qB A2 (qB A3 (qB A4 A5)))))) [.pointer (some ⟨b, 0, none⟩)] S x)) (z1 : A1.sz = 1) (z2 : A2.sz = 1) (z3 : A3.sz = 1) (z4 : A4.sz = 1) (z5 : A5.sz = 1) :
  ∃ v1 S1 v2 S2 v3 S3 v4 S4 v5 S5, St w0 S0 w (L.set j (zs b T (f x [v1, v2, v3, v4, v5])) ++ [itI A1 [v1] S1 (g x).1, itI A2 [v2] S2 (g x).2.1, itI A3 [v3] S3 (g x).2.2.1, itI A4 [v4] S4 (g x).2.2.2.1, itI A5 [v5] S5 (g x).2.2.2.2]) := by
 obtain ⟨b2, v1, S1, v2, S2, v3, S3, v4, S4, v5, S5, hv, hst⟩ := h.openP5 j hj z1 z2 z3 z4 z5
 cases hv
 exact ⟨v1, S1, v2, S2, v3, S3, v4, S4, v5, S5, hst⟩
theorem St.shutP5 {cs : List Value} {b : Nat} {v1 : Value} {S1 : List Nat} {y1 : β1} {v2 : Value} {S2 : List Nat} {y2 : β2} {v3 : Value} {S3 : List Nat} {y3 : β3} {v4 : Value} {S4 : List Nat} {y4 : β4} {v5 : Value} {S5 : List Nat} {y5 : β5} (h : St w0 S0 w L) (R : Rp α) (hR : R = qC f sz hl g (qB A1 (qB A2 (qB A3 (qB A4 A5))))) (j k1 k2 k3 k4 k5 : Nat) (rest : List Nat) (hd : jF ([j, k1, k2, k3, k4, k5] ++ rest) = true) (hj : L[j]? = some (zs b T cs)) (h1 : L[k1]? = some (itI A1 [v1] S1 y1)) (h2 : L[k2]? = some (itI A2 [v2] S2 y2)) (h3 : L[k3]? = some (itI A3 [v3] S3 y3)) (h4 : L[k4]? = some (itI A4 [v4] S4 y4)) (h5 : L[k5]? = some (itI A5 [v5] S5 y5)) (x : α) (hx : cs = f x [v1, v2, v3, v4, v5]) (hg : g x = (y1, y2, y3, y4, y5)) :
  ∃ S, St w0 S0 w (sel L rest ++ [itI (zel T R) [.pointer (some ⟨b, 0, none⟩)] S x]) := by
 subst hR
 subst hx
 have hd1 := zdl hd
 have o1 : A1.own w [v1] S1 y1 := h.all k1 _ h1
 have o2 : A2.own w [v2] S2 y2 := h.all k2 _ h2
 have o3 : A3.own w [v3] S3 y3 := h.all k3 _ h3
 have o4 : A4.own w [v4] S4 y4 := h.all k4 _ h4
 have o5 : A5.own w [v5] S5 y5 := h.all k5 _ h5
 have hown : (qC f sz hl g (qB A1 (qB A2 (qB A3 (qB A4 A5))))).own w (f x [v1, v2, v3, v4, v5]) (S1 ++ (S2 ++ (S3 ++ (S4 ++ S5)))) x := by
  refine ⟨[v1, v2, v3, v4, v5], rfl, ?_⟩
  rw [hg]
  refine ⟨[v1], [v2, v3, v4, v5], S1, _, rfl, rfl, ?_, o1, ⟨[v2], [v3, v4, v5], S2, _, rfl, rfl, ?_, o2, ⟨[v3], [v4, v5], S3, _, rfl, rfl, ?_, o3, ⟨[v4], [v5], S4, _, rfl, rfl, ?_, o4, o5⟩⟩⟩⟩
  ·intro b hb hb2
   simp only [List.mem_append] at hb2
   rcases hb2 with hb2 | hb2 | hb2 | hb2
   ·exact zao h hd1 1 2 (by decide) rfl rfl h1 h2 b hb hb2
   ·exact zao h hd1 1 3 (by decide) rfl rfl h1 h3 b hb hb2
   ·exact zao h hd1 1 4 (by decide) rfl rfl h1 h4 b hb hb2
   ·exact zao h hd1 1 5 (by decide) rfl rfl h1 h5 b hb hb2
  ·intro b hb hb2
   simp only [List.mem_append] at hb2
   rcases hb2 with hb2 | hb2 | hb2
   ·exact zao h hd1 2 3 (by decide) rfl rfl h2 h3 b hb hb2
   ·exact zao h hd1 2 4 (by decide) rfl rfl h2 h4 b hb hb2
   ·exact zao h hd1 2 5 (by decide) rfl rfl h2 h5 b hb hb2
  ·intro b hb hb2
   simp only [List.mem_append] at hb2
   rcases hb2 with hb2 | hb2
   ·exact zao h hd1 3 4 (by decide) rfl rfl h3 h4 b hb hb2
   ·exact zao h hd1 3 5 (by decide) rfl rfl h3 h5 b hb hb2
  ·intro b hb hb2
   rcases hb2 with hb2
   ·exact zao h hd1 4 5 (by decide) rfl rfl h4 h5 b hb hb2
 have hbn : b ∉ (S1 ++ (S2 ++ (S3 ++ (S4 ++ S5)))) := by
  intro hb
  simp only [List.mem_append] at hb
  rcases hb with hb | hb | hb | hb | hb
  ·exact zao h hd1 0 1 (by decide) rfl rfl hj h1 b (by simp [zs]) hb
  ·exact zao h hd1 0 2 (by decide) rfl rfl hj h2 b (by simp [zs]) hb
  ·exact zao h hd1 0 3 (by decide) rfl rfl hj h3 b (by simp [zs]) hb
  ·exact zao h hd1 0 4 (by decide) rfl rfl hj h4 b (by simp [zs]) hb
  ·exact zao h hd1 0 5 (by decide) rfl rfl hj h5 b (by simp [zs]) hb
 have hh : w.heap[b]? = some (.cells (f x [v1, v2, v3, v4, v5]).toArray T (0, 0)) := h.all j _ hj
 have hp : (zel T (qC f sz hl g (qB A1 (qB A2 (qB A3 (qB A4 A5)))))).own w [.pointer (some ⟨b, 0, none⟩)] (b :: (S1 ++ (S2 ++ (S3 ++ (S4 ++ S5))))) x := ⟨b, _, _, rfl, rfl, hbn, hh, hown⟩
 refine ⟨_, h.gather [j, k1, k2, k3, k4, k5] rest hd (C := itI (zel T (qC f sz hl g (qB A1 (qB A2 (qB A3 (qB A4 A5)))))) _ _ x) hp ((zel T (qC f sz hl g (qB A1 (qB A2 (qB A3 (qB A4 A5)))))).nd _ _ _ _ hp) (fun c hc => ?_)⟩
 rcases List.mem_cons.1 hc with rfl | hc
 ·exact fp3 0 rfl hj (by simp [zs])
 ·have hc : c ∈ S1 ++ (S2 ++ (S3 ++ (S4 ++ S5))) := hc
  simp only [List.mem_append] at hc
  rcases hc with hc | hc | hc | hc | hc
  ·exact fp3 1 rfl h1 hc
  ·exact fp3 2 rfl h2 hc
  ·exact fp3 3 rfl h3 hc
  ·exact fp3 4 rfl h4 hc
  ·exact fp3 5 rfl h5 hc
end
section
variable {w0 w : World} {S0 : List Nat} {L : List Item} {α : Type} {β1 : Type} {β2 : Type} {β3 : Type} {β4 : Type} {β5 : Type} {β6 : Type} {T : TypeId} {f : α -> List Value -> List Value} {sz : Nat} {hl : ∀ x vs, (f x vs).length = sz} {g : α -> β1 × (β2 × (β3 × (β4 × (β5 × β6))))} {A1 : Rp β1} {A2 : Rp β2} {A3 : Rp β3} {A4 : Rp β4} {A5 : Rp β5} {A6 : Rp β6}
end
end Go.Sx
