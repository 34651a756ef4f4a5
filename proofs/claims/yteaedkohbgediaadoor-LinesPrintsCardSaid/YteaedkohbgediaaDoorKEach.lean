/- LinesEach: the plain law. -/
import Derived.Test.YteaedkohbgediaaDoorKPrint
set_option linter.unusedVariables false
set_option linter.unusedSimpArgs false
namespace Go.Proofs.YteaedkohbgediaaDoor
open Go.Sx

theorem sidx_eq {s : ByteArray} {i : Nat} {b : UInt8} (h : s.data.toList[i]? = some b) : sidx s (i : Int) = some (b.toNat : Int) := by
  have hi : i < s.size := by
    have := (List.getElem?_eq_some_iff.1 h).1
    rw [Array.length_toList] at this
    exact this
  have h2 : s[i]? = some b := by
    rw [getElem?_pos s i hi]
    have := (List.getElem?_eq_some_iff.1 h).2
    rw [← this]
    rfl
  unfold sidx
  simp [h2]
theorem line_at {r : ByteArray} {i : Nat} (hi : i < (r ++ nl).size) (hn : NoNL r.data.toList) : ∃ b, (r ++ nl).data.toList[i]? = some b ∧ (b = 10 ↔ i = r.size) := by
  have hs : (r ++ nl).size = r.size + 1 := by rw [ByteArray.size_append]; rfl
  have hl : (r ++ nl).data.toList = r.data.toList ++ [10] := by rw [ByteArray.data_append, Array.toList_append]; rfl
  have hr : r.data.toList.length = r.size := by rw [Array.length_toList]; rfl
  rw [hl]
  by_cases e : i < r.size
  · rw [List.getElem?_append_left (by omega)]
    refine ⟨r.data.toList[i]'(by omega), List.getElem?_eq_getElem (by omega), ?_⟩
    constructor
    · intro h
      exact absurd h (hn _ (List.getElem_mem (by omega)))
    · intro h; omega
  · have : i = r.size := by omega
    subst this
    rw [List.getElem?_append_right (by omega), hr, Nat.sub_self]
    exact ⟨10, rfl, by simp⟩
theorem feeds {r : ByteArray} (h39 : r.size ≤ 39) (hn : NoNL r.data.toList) (e : Int) : forN (tappetlaw03_LinesEach_l2 (r ++ nl, e)) (fun (s576 : Int) => s576) (r ++ nl).size 0 0 = some 1 := by
  have hs : (r ++ nl).size = r.size + 1 := by rw [ByteArray.size_append]; rfl
  refine OK.is (OK.count (fun i s => s = if i ≤ r.size then 0 else 1) (by simp) (fun i s again hi hI k => ?_) (fun s hI => by rw [hI, if_neg (by omega)]))
  unfold tappetlaw03_LinesEach_l2
  obtain ⟨b, h1, h2⟩ := line_at hi hn
  rw [sidx_eq h1]
  simp only [Option.bind_some]
  have hs0 : s = 0 := by rw [hI, if_pos (by omega)]
  subst hs0
  refine OK.ite (fun h => k _ ?_) (fun h => k _ ?_)
  · have hb : b = 10 := by
      have h : (b.toNat : Int) = 10 := by simpa using h
      exact UInt8.toNat_inj.1 (by rw [show (10 : UInt8).toNat = 10 from rfl]; omega)
    have := h2.1 hb
    rw [if_neg (by omega)]
    decide
  · have hb : b ≠ 10 := by
      intro e; subst e; simp at h
    have : i ≠ r.size := fun e => hb (h2.2 e)
    rw [if_pos (by omega)]
theorem linesEach_law (p0 : List api_Inst) (hl : p0.length * 40 ≤ 140737488355328) (hI : ∀ x ∈ p0, immOk x) : tappetlaw03_LinesEach 1000 p0 = some true := by
  refine OK.is ?_
  unfold tappetlaw03_LinesEach
  rw [awake_ok]
  simp only [Option.bind_some]
  refine OK.ite_false rfl ?_
  rw [Print_eq hl hI]
  simp only [Option.bind_some]
  refine OK.bind2 (OK.count (Q := fun o => match o with | .inl s => p0.all rightB = true ∧ s = catL (p0.map lineT) | .inr b => b = true) (fun i s => (p0.take i).all rightB = true ∧ s = catL ((p0.take i).map lineT) ∧ s.size ≤ i * 40) ⟨by simp, rfl, by decide⟩ (fun i s again hi hs k => ?_) (fun s hs => ?_)) (fun o ho => ?_)
  · unfold tappetlaw03_LinesEach_l1
    refine OK.bind (OK.getN hi (fun x hx => ?_))
    have hmem := List.mem_of_getElem? hx
    rw [Print_eq (l := [x]) (by simp) (fun y hy => by rw [List.mem_singleton] at hy; subst hy; exact hI _ hmem)]
    simp only [Option.bind_some, List.all_cons, List.all_nil, Bool.and_true, List.map_cons, List.map_nil]
    cases hr : rightB x with
    | false =>
      have hall : p0.all rightB = false := by
        cases ha : p0.all rightB with
        | false => rfl
        | true => have := List.all_eq_true.1 ha x hmem; rw [hr] at this; cases this
      rw [hall]
      exact OK.ite_true rfl (OK.ret (by simp [sEq]))
    | true =>
      obtain ⟨r, h1, h2, h3, h4⟩ := lineT_ok hr (hI x hmem)
      have hc : catL [lineT x] = r ++ nl := by
        unfold catL
        simp only [List.foldl_cons, List.foldl_nil]
        rw [h2, ByteArray.empty_append]
      have hsz : (r ++ nl).size = r.size + 1 := by rw [ByteArray.size_append]; rfl
      simp only [if_true, hc]
      refine OK.ite_false rfl ?_
      rw [show room (r ++ nl).size 1 = some () from by unfold room; rw [if_pos (by omega)]]
      simp only [Option.bind_some, feeds h3 h4]
      refine OK.bind2 (R := fun o => o = false) ?_ (fun o ho => ?_)
      · refine OK.ite_false rfl ?_
        obtain ⟨b, b1, b2⟩ := line_at (r := r) (i := r.size) (by omega) h4
        have : w64 (((r ++ nl).size : Int) - 1) = (r.size : Int) := by rw [hsz, w64_eq (by omega) (by omega)]; omega
        rw [this, sidx_eq b1, b2.2 rfl]
        exact OK.ret rfl
      subst ho
      refine OK.ite_false rfl ?_
      have hle : s.size + (r ++ nl).size ≤ 9223372036854775807 := by
        have := hs.2.2
        omega
      refine OK.bind (cat_ok hle ?_)
      refine k _ ⟨?_, ?_, ?_⟩
      · rw [List.take_add_one, hx]
        simp [hs.1, hr]
      · rw [List.take_add_one, hx]
        simp only [Option.toList_some, List.map_append, List.map_cons, List.map_nil]
        rw [catL_snoc, ← hs.2.1, h2]
      · rw [ByteArray.size_append]
        have := hs.2.2
        omega
  · have := hs.1
    rw [List.take_length] at this
    have h2 := hs.2.1
    rw [List.take_length] at h2
    exact ⟨this, h2⟩
  · cases o with
    | inl s =>
      obtain ⟨a, b⟩ := ho
      rw [a, b]
      exact OK.ret (by simp [sEq])
    | inr b => exact OK.ret ho
end Go.Proofs.YteaedkohbgediaaDoor
