/- A struct with a part that leans on another part's value (a pointer that stands twice): dep3; opened and shut. -/
import Derived.Test.YtkgajppghpmkbaaDoorOpen
set_option linter.unusedVariables false
set_option linter.unusedSimpArgs false
namespace Go.Sx
open Go.RowKit
def dep3 {α β γ : Type} (A : Rp α) (B : Rp β) (C : Value → Rp γ) (n : Nat) (hn : ∀ v, (C v).sz = n) : Rp (α × (β × γ)) where
  sz := A.sz + (B.sz + n)
  own w cs S p := ∃ v1, (pairP A (pairP B (C v1))).own w cs S p ∧ cs[0]? = some v1
  rd w F p cs := ∃ v1, (pairP A (pairP B (C v1))).rd w F p cs ∧ cs[0]? = some v1
  len := by
    rintro w cs S x ⟨v1, h, _⟩
    have := (pairP A (pairP B (C v1))).len _ _ _ _ h
    rw [this]
    show A.sz + (B.sz + (C v1).sz) = _
    rw [hn]
  loc := by
    rintro w w' cs S x hb ⟨v1, h, e⟩
    exact ⟨v1, (pairP A (pairP B (C v1))).loc w w' _ _ _ hb h, e⟩
  lt := by
    rintro w cs S x ⟨v1, h, _⟩
    exact (pairP A (pairP B (C v1))).lt _ _ _ _ h
  nd := by
    rintro w cs S x ⟨v1, h, _⟩
    exact (pairP A (pairP B (C v1))).nd _ _ _ _ h
  see := by
    rintro w cs S x F ⟨v1, h, e⟩ hF
    exact ⟨v1, (pairP A (pairP B (C v1))).see _ _ _ _ F h hF, e⟩
  rlen := by
    rintro w F x cs ⟨v1, h, _⟩
    have := (pairP A (pairP B (C v1))).rlen _ _ _ _ h
    rw [this]
    show A.sz + (B.sz + (C v1).sz) = _
    rw [hn]
  rloc := by
    rintro w w' F F' x cs k1 k2 ⟨v1, h, e⟩
    exact ⟨v1, (pairP A (pairP B (C v1))).rloc w w' F F' _ _ k1 k2 h, e⟩
section
variable {w0 w : World} {S0 : List Nat} {L : List Item} {α : Type} {β1 : Type} {β2 : Type} {β3 : Type} {T : TypeId} {f : α → List Value → List Value} {sz : Nat} {hl : ∀ x vs, (f x vs).length = sz} {g : α → β1 × (β2 × β3)} {A1 : Rp β1} {A2 : Rp β2} {A3 : Value → Rp β3} {n : Nat} {hn : ∀ v, (A3 v).sz = n}
theorem St.openD3 {b : Nat} {S : List Nat} {x : α} (h : St w0 S0 w L) (j : Nat) (hj : L[j]? = some (itI (ptrP T (structP f sz hl g (dep3 A1 A2 A3 n hn))) [.pointer (some ⟨b, 0, none⟩)] S x)) (z1 : A1.sz = 1) (z2 : A2.sz = 1) (z3 : n = 1) :
    ∃ v1 S1 v2 S2 v3 S3, St w0 S0 w (L.set j (blkI b T (f x [v1, v2, v3])) ++ [itI A1 [v1] S1 (g x).1, itI A2 [v2] S2 (g x).2.1, itI (A3 v1) [v3] S3 (g x).2.2]) := by
  obtain ⟨b', cs', S', hv, rfl, hb, hh, vs, rfl, v1', ⟨c1, d1, S1, R1, rfl, rfl, hd1, hown1, ⟨c2, d2, S2, R2, rfl, rfl, hd2, hown2, hown3⟩⟩, hv1⟩ := h.all j _ hj
  cases hv
  obtain ⟨v1, rfl⟩ := sng ((A1.len _ _ _ _ hown1).trans z1)
  obtain ⟨v2, rfl⟩ := sng ((A2.len _ _ _ _ hown2).trans z2)
  obtain ⟨v3, rfl⟩ := sng (((A3 v1').len _ _ _ _ hown3).trans ((hn v1').trans z3))
  obtain rfl : v1 = v1' := by simpa using hv1
  refine ⟨v1, S1, v2, S2, v3, R2, h.burst2 j hj ?_⟩
  exact Parts.cons hh (by simp [blkI]) (fun c hc => by simp only [blkI, List.mem_singleton] at hc; subst hc; exact List.mem_cons_self) (fun c hc => by simp only [blkI, List.mem_singleton] at hc; subst hc; exact hb) (Parts.cons hown1 (A1.nd _ _ _ _ hown1) (fun b hb => List.mem_append_left _ hb) hd1 (Parts.cons hown2 (A2.nd _ _ _ _ hown2) (fun b hb => List.mem_append_left _ hb) hd2 (Parts.cons hown3 ((A3 v1).nd _ _ _ _ hown3) (fun b hb => hb) (S2 := []) (by simp) Parts.nil (by simp)) (fun b hb => List.mem_append_right _ hb)) (fun b hb => List.mem_append_right _ hb)) (fun b hb => List.mem_cons_of_mem _ hb)
theorem St.shutD3 {cs : List Value} {b : Nat} {v1 : Value} {S1 : List Nat} {y1 : β1} {v2 : Value} {S2 : List Nat} {y2 : β2} {v3 : Value} {S3 : List Nat} {y3 : β3} (h : St w0 S0 w L) (R : Rp α) (hR : R = structP f sz hl g (dep3 A1 A2 A3 n hn)) (j k1 k2 k3 : Nat) (rest : List Nat) (hd : distinct ([j, k1, k2, k3] ++ rest) = true) (hj : L[j]? = some (blkI b T cs)) (h1 : L[k1]? = some (itI A1 [v1] S1 y1)) (h2 : L[k2]? = some (itI A2 [v2] S2 y2)) (h3 : L[k3]? = some (itI (A3 v1) [v3] S3 y3)) (x : α) (hx : cs = f x [v1, v2, v3]) (hg : g x = (y1, y2, y3)) :
    ∃ S, St w0 S0 w (sel L rest ++ [itI (ptrP T R) [.pointer (some ⟨b, 0, none⟩)] S x]) := by
  subst hR
  subst hx
  have hd1 := distinct_left hd
  have o1 : A1.own w [v1] S1 y1 := h.all k1 _ h1
  have o2 : A2.own w [v2] S2 y2 := h.all k2 _ h2
  have o3 : (A3 v1).own w [v3] S3 y3 := h.all k3 _ h3
  have hown : (structP f sz hl g (dep3 A1 A2 A3 n hn)).own w (f x [v1, v2, v3]) (S1 ++ (S2 ++ S3)) x := by
    refine ⟨[v1, v2, v3], rfl, ?_⟩
    rw [hg]
    refine ⟨v1, ⟨[v1], [v2, v3], S1, _, rfl, rfl, ?_, o1, ⟨[v2], [v3], S2, _, rfl, rfl, ?_, o2, o3⟩⟩, rfl⟩
    · intro b hb hb2
      simp only [List.mem_append] at hb2
      rcases hb2 with hb2 | hb2
      · exact apart3 h hd1 1 2 (by decide) rfl rfl h1 h2 b hb hb2
      · exact apart3 h hd1 1 3 (by decide) rfl rfl h1 h3 b hb hb2
    · intro b hb hb2
      exact apart3 h hd1 2 3 (by decide) rfl rfl h2 h3 b hb hb2
  have hbn : b ∉ (S1 ++ (S2 ++ S3)) := by
    intro hb
    simp only [List.mem_append] at hb
    rcases hb with hb | hb | hb
    · exact apart3 h hd1 0 1 (by decide) rfl rfl hj h1 b (by simp [blkI]) hb
    · exact apart3 h hd1 0 2 (by decide) rfl rfl hj h2 b (by simp [blkI]) hb
    · exact apart3 h hd1 0 3 (by decide) rfl rfl hj h3 b (by simp [blkI]) hb
  have hh : w.heap[b]? = some (.cells (f x [v1, v2, v3]).toArray T (0, 0)) := h.all j _ hj
  have hp : (ptrP T (structP f sz hl g (dep3 A1 A2 A3 n hn))).own w [.pointer (some ⟨b, 0, none⟩)] (b :: (S1 ++ (S2 ++ S3))) x := ⟨b, _, _, rfl, rfl, hbn, hh, hown⟩
  refine ⟨_, h.gather [j, k1, k2, k3] rest hd (C := itI (ptrP T (structP f sz hl g (dep3 A1 A2 A3 n hn))) _ _ x) hp ((ptrP T (structP f sz hl g (dep3 A1 A2 A3 n hn))).nd _ _ _ _ hp) (fun c hc => ?_)⟩
  rcases List.mem_cons.1 hc with rfl | hc
  · exact fp3 0 rfl hj (by simp [blkI])
  · have hc : c ∈ S1 ++ (S2 ++ S3) := hc
    simp only [List.mem_append] at hc
    rcases hc with hc | hc | hc
    · exact fp3 1 rfl h1 hc
    · exact fp3 2 rfl h2 hc
    · exact fp3 3 rfl h3 hc
end
end Go.Sx
