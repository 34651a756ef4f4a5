/- LinesBack, LinesJoined: the plain laws, for texts of a bounded size. -/
import Derived.Test.YteaedkohbgediaaDoorKTotal
set_option linter.unusedVariables false
set_option linter.unusedSimpArgs false
namespace Go.Proofs.YteaedkohbgediaaDoor
open Go.Sx

theorem catL_small {ys : List api_Inst} (h : ∀ x ∈ ys, good x) : (catL (ys.map lineT)).size ≤ ys.length * 40 := by
  induction ys with
  | nil => exact Nat.le_refl _
  | cons y ys ih =>
    have h1 := (lineT_size (h y (List.mem_cons_self ..))).2
    have h2 := ih (fun z hz => h z (List.mem_cons_of_mem _ hz))
    rw [List.map_cons, catL_cons, ByteArray.size_append, List.length_cons]
    omega
theorem linesBack_law (p0 : List api_Inst) (p1 : ByteArray) (hl : p0.length * 40 ≤ 140737488355328) (hI : ∀ x ∈ p0, immOk x) (hs : p1.size ≤ 1048575) : tappetlaw03_LinesBack (p0.length + p1.size + 1000) p0 p1 = some true := by
  obtain ⟨xs, rest, e1, hg, hxl, hr⟩ := text_splits p1.size p1 (Nat.le_refl _) (by omega)
  refine OK.is ?_
  unfold tappetlaw03_LinesBack
  rw [awake_fu (by omega), print_fu (by omega), Print_eq hl hI]
  simp only [Option.bind_some]
  refine OK.ite_false rfl ?_
  refine OK.bind2 (R := fun o => o = .inl ()) ?_ (fun o ho => ?_)
  · cases ha : p0.all rightB with
    | true =>
      have hall := List.all_eq_true.1 ha
      simp only [if_true]
      refine OK.ite_true rfl ?_
      rw [parse_lines (fun x hx => ⟨hall x hx, hI x hx⟩) (by omega) (by omega)]
      simp only [Option.bind_some]
      rw [alike_refl]
      exact OK.ret rfl
    | false =>
      simp only [Bool.false_eq_true, if_false]
      refine OK.ite_false rfl ?_
      rw [opsRights_eq, ha]
      refine OK.bind2 (R := fun o => o = false) (OK.bind ⟨false, rfl, OK.ite_false rfl (OK.ret (by decide +kernel))⟩) (fun o ho => by subst ho; exact OK.ret rfl)
  subst ho
  simp only
  rcases parse_text hg hr (by rw [← e1]; omega) (by omega) (show xs.length + 4 ≤ p0.length + p1.size + 1000 by omega) with ⟨h1, h2⟩ | ⟨h1, h2⟩
  · rw [← e1] at h2
    rw [h2]
    simp only [Option.bind_some]
    refine OK.ite_false rfl ?_
    have hall : xs.all rightB = true := List.all_eq_true.2 (fun x hx => (hg x hx).1)
    rw [print_fu (by omega), Print_eq (by omega) (fun x hx => (hg x hx).2), hall]
    simp only [if_true, Option.bind_some]
    refine OK.ret ?_
    have : sEq (catL (xs.map lineT)) p1 = true := by
      rw [sEq_iff, e1, h1, ByteArray.append_empty]
    rw [this]
    rfl
  · rw [← e1] at h2
    rw [h2]
    simp only [Option.bind_some]
    refine OK.ite_true rfl ?_
    refine OK.ret ?_
    simp
    omega
theorem linesJoined_law (p0 p1 : ByteArray) (hs0 : p0.size ≤ 1048575) (hs1 : p1.size ≤ 1048575) : tappetlaw03_LinesJoined (p0.size + p1.size + 1000) p0 p1 = some true := by
  obtain ⟨xs, rest, e1, hg, hxl, hr⟩ := text_splits p0.size p0 (Nat.le_refl _) (by omega)
  obtain ⟨ys, rest2, e2, hg2, hyl, hr2⟩ := text_splits p1.size p1 (Nat.le_refl _) (by omega)
  refine OK.is ?_
  unfold tappetlaw03_LinesJoined
  rw [awake_fu (by omega)]
  simp only [Option.bind_some]
  refine OK.ite_false rfl ?_
  have hb := parse_text hg2 hr2 (by rw [← e2]; omega) (by omega) (show ys.length + 4 ≤ p0.size + p1.size + 1000 by omega)
  rw [← e2] at hb
  have hab : xs.length + ys.length + 4 ≤ p0.size + p1.size + 1000 := by omega
  rcases parse_text hg hr (by rw [← e1]; omega) (by omega) (show xs.length + 4 ≤ p0.size + p1.size + 1000 by omega) with ⟨h1, h2⟩ | ⟨h1, h2⟩
  · rw [← e1] at h2
    rw [h2]
    have e3 : p0 ++ p1 = catL ((xs ++ ys).map lineT) ++ rest2 := by
      rw [List.map_append, catL_app]
      conv => lhs; rw [e1, e2, h1, ByteArray.append_empty]
      rw [ByteArray.append_assoc]
    have hg3 : ∀ x ∈ xs ++ ys, good x := fun x hx => (List.mem_append.1 hx).elim (hg x) (hg2 x)
    have hsz : (p0 ++ p1).size = p0.size + p1.size := ByteArray.size_append
    have hc := parse_text hg3 hr2 (by rw [← e3]; omega) (by simp; omega) (show (xs ++ ys).length + 4 ≤ p0.size + p1.size + 1000 by simp; omega)
    rw [← e3] at hc
    rcases hb with ⟨b1, b2⟩ | ⟨b1, b2⟩
    · rw [b2]
      rcases hc with ⟨c1, c2⟩ | ⟨c1, c2⟩
      · simp only [Option.bind_some]
        refine OK.ite_false rfl ?_
        refine OK.bind (cat_ok (by omega) ?_)
        rw [c2]
        simp only [Option.bind_some]
        refine OK.ite_false rfl ?_
        refine OK.bind2 (R := fun o => o = true) ?_ (fun o ho => OK.ret ho)
        refine OK.ite_true rfl (OK.ite_true rfl ?_)
        refine OK.bind (OK.hasRoom (by simp; omega) (OK.bind (OK.hasRoom (by simp; omega) ?_)))
        rw [List.nil_append, alike_refl]
        exact OK.ret rfl
      · exact absurd b1 c1
    · rw [b2]
      rcases hc with ⟨c1, c2⟩ | ⟨c1, c2⟩
      · exact absurd c1 b1
      · simp only [Option.bind_some]
        refine OK.ite_false rfl ?_
        refine OK.bind (cat_ok (by omega) ?_)
        rw [c2]
        simp only [Option.bind_some]
        refine OK.ite_true rfl (OK.ret ?_)
        rw [w64_eq (by omega) (by omega)]
        simp
        omega
  · rw [← e1] at h2
    rw [h2]
    rcases hb with ⟨b1, b2⟩ | ⟨b1, b2⟩
    · rw [b2]
      simp only [Option.bind_some]
      exact OK.ite_true rfl (OK.ret rfl)
    · rw [b2]
      simp only [Option.bind_some]
      exact OK.ite_true rfl (OK.ret rfl)
end Go.Proofs.YteaedkohbgediaaDoor
