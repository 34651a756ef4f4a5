/- Print: the lines, one behind the other. -/
import Derived.Test.YteaedkohbgediaaDoorKLine3
set_option linter.unusedVariables false
set_option linter.unusedSimpArgs false
namespace Go.Proofs.YteaedkohbgediaaDoor
open Go.Sx

def nl : ByteArray := ⟨[10].toArray⟩
/-- an instruction's text -/
def lineT (x : api_Inst) : ByteArray := ((lines_line 1000 x).getD ByteArray.empty) ++ nl
def catL (l : List ByteArray) : ByteArray := l.foldl (· ++ ·) ByteArray.empty
theorem catL_snoc (l : List ByteArray) (a : ByteArray) : catL (l ++ [a]) = catL l ++ a := by unfold catL; rw [List.foldl_append]; rfl
def immOk (x : api_Inst) : Prop := -9223372036854775808 ≤ x.Imm ∧ x.Imm ≤ 9223372036854775807
theorem lineT_ok {x : api_Inst} (hr : rightB x = true) (hI : immOk x) : ∃ r, lines_line 1000 x = some r ∧ lineT x = r ++ nl ∧ r.size ≤ 39 ∧ NoNL r.data.toList := by
  obtain ⟨r, h1, h2, h3⟩ := line_ok hr hI
  exact ⟨r, h1, by unfold lineT; rw [h1]; rfl, h2, h3⟩
theorem opsRights_eq (l : List api_Inst) : ops_Right l = some (l.all rightB) := by
  refine OK.is ?_
  unfold ops_Right
  refine OK.bind2 (OK.count (Q := fun o => match o with | .inl _ => l.all rightB = true | .inr r => r = false ∧ l.all rightB = false) (fun i _ => (l.take i).all rightB = true) (by simp) (fun i s again hi hI k => ?_) (fun s hI => by simpa using hI)) (fun o ho => ?_)
  · unfold ops_Right_l1
    refine OK.bind (OK.getN hi (fun x hx => ?_))
    rw [opsRight_eq]
    simp only [Option.bind_some]
    have hxl : l[i] = x := by rw [List.getElem?_eq_getElem hi] at hx; exact Option.some.inj hx
    have ht : l.take (i + 1) = l.take i ++ [x] := by rw [List.take_add_one, hx]; rfl
    refine OK.ite (fun h => OK.ret ⟨rfl, ?_⟩) (fun h => k _ ?_)
    · have h : rightB x = false := by simpa using h
      cases ha : l.all rightB with
      | false => rfl
      | true =>
        have := List.all_eq_true.1 ha x (List.mem_of_getElem? hx)
        rw [h] at this; cases this
    · have h : rightB x = true := by simpa using h
      rw [ht, List.all_append, hI]
      simp [h]
  · cases o with
    | inl _ => exact OK.ret (by simp only at ho; rw [ho])
    | inr r => exact OK.ret (by simp only at ho; rw [ho.1, ho.2])
theorem Print_eq {l : List api_Inst} (hl : l.length * 40 ≤ 140737488355328) (hI : ∀ x ∈ l, immOk x) : lines_Print 1000 l = some (if l.all rightB then (catL (l.map lineT), 0) else (ByteArray.empty, 12)) := by
  refine OK.is ?_
  unfold lines_Print
  rw [opsRights_eq]
  simp only [Option.bind_some]
  refine OK.ite (fun h => OK.ret ?_) (fun h => ?_)
  · have h : l.all rightB = false := by simpa using h
    rw [h]; rfl
  have h : l.all rightB = true := by simpa using h
  rw [h, if_pos rfl]
  have hall := List.all_eq_true.1 h
  refine OK.bind2 (OK.count (fun i s => s = catL ((l.take i).map lineT) ∧ s.size ≤ i * 40) ⟨rfl, by decide⟩ (fun i s again hi hs k => ?_) (fun s hs => hs)) (fun o ho => OK.ret (by rw [ho.1, List.take_length]))
  unfold lines_Print_l1
  refine OK.bind (OK.getN hi (fun x hx => ?_))
  obtain ⟨r, h1, h2, h3, h4⟩ := lineT_ok (hall x (List.mem_of_getElem? hx)) (hI x (List.mem_of_getElem? hx))
  rw [h1]
  simp only [Option.bind_some]
  have hsz : (r ++ nl).size = r.size + 1 := by rw [ByteArray.size_append]; rfl
  refine OK.bind (cat_ok (by show r.size + nl.size ≤ _; rw [show nl.size = 1 from rfl]; omega) ?_)
  show OK ((strings_Builder_WriteString s (r ++ nl)).bind again) _
  unfold strings_Builder_WriteString
  have hle : s.size + (r ++ nl).size ≤ 140737488355328 := by
    have := hs.2
    have h5 : (i + 1) * 40 ≤ l.length * 40 := Nat.mul_le_mul_right 40 hi
    omega
  rw [if_pos hle]
  simp only [Option.bind_some]
  refine k _ ⟨?_, ?_⟩
  · rw [List.take_add_one, hx]
    simp only [Option.toList_some, List.map_append, List.map_cons, List.map_nil]
    rw [catL_snoc, ← hs.1, h2]
  · rw [ByteArray.size_append]
    have := hs.2
    omega
end Go.Proofs.YteaedkohbgediaaDoor
