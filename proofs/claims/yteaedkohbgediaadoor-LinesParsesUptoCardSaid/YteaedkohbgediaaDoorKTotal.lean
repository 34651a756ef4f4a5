/- Any line is read, or told to be none; any text is lines and a rest. -/
import Derived.Test.YteaedkohbgediaaDoorKParse
set_option linter.unusedVariables false
set_option linter.unusedSimpArgs false
namespace Go.Proofs.YteaedkohbgediaaDoor
open Go.Sx

theorem splitB_small (k : Nat) : ∀ (s : ByteArray) (w : ByteArray), w ∈ Lib.splitB sp 0 k s → w.size ≤ s.size := by
  induction k with
  | zero =>
    intro s w h
    rw [Lib.splitB_zero, List.mem_singleton] at h
    subst h
    exact Nat.le_refl _
  | succ k ih =>
    intro s w h
    have e0 : ∀ a b, (s.extract a b).size ≤ s.size := by
      intro a b
      rw [Lib.size_eq, Lib.extract_data, Lib.size_eq s, List.length_take, List.length_drop]
      omega
    unfold Lib.splitB at h
    split at h
    · rw [List.mem_singleton] at h
      subst h
      exact Nat.le_refl _
    · rcases List.mem_cons.1 h with h | h
      · subst h
        exact e0 _ _
      · exact Nat.le_trans (ih _ _ h) (e0 _ _)
theorem sidx_some {s : ByteArray} {i : Nat} (h : i < s.size) : ∃ c, sidx s (i : Int) = some c := by
  rw [Lib.size_eq] at h
  exact ⟨_, sidx_eq (List.getElem?_eq_getElem h)⟩
theorem register_total (w : ByteArray) : ∃ n b, lines_register w = some (n, b) := by
  unfold lines_register
  by_cases h : w.size = 2
  · obtain ⟨c, hc⟩ := sidx_some (s := w) (i := 0) (by omega)
    obtain ⟨d, hd⟩ := sidx_some (s := w) (i := 1) (by omega)
    have hc : sidx w 0 = some c := hc
    have hd : sidx w 1 = some d := hd
    rw [hc, hd, h]
    by_cases e1 : c = 114
    · subst e1
      by_cases e2 : d < 48
      · simp [e2]
      · by_cases e3 : 55 < d
        · simp [e2, e3]
        · simp [e2, e3]
    · simp [e1]
  · have : ¬ ((w.size : Int) = 2) := by omega
    simp [this]
theorem find_total (w : ByteArray) : ∃ n b, ops_Find w = some (n, b) := by
  have : OK (ops_Find w) (fun _ => True) := by
    unfold ops_Find
    refine OK.bind2 (OK.count (Q := fun o => True) (fun i _ => True) trivial (fun i s again hi _ k => ?_) (fun s _ => trivial)) (fun o _ => ?_)
    · unfold ops_Find_l1
      refine OK.bind (OK.getN (xs := tab_g0) (by rw [show tab_g0.length = 23 from rfl]; exact hi) (fun x hx => ?_))
      exact OK.ite (fun _ => OK.ret trivial) (fun _ => k _ trivial)
    · cases o with
      | inl _ => exact OK.ret trivial
      | inr r => exact OK.ret trivial
  obtain ⟨⟨n, b⟩, h, _⟩ := this
  exact ⟨n, b, h⟩
theorem parse_int (w : ByteArray) (h : w.size ≤ 281474976710656) : ∃ v b, strconv_ParseInt w 10 64 = some (v, b) ∧ (b = false → -9223372036854775808 ≤ v ∧ v ≤ 9223372036854775807) := by
  unfold strconv_ParseInt
  rw [if_pos ⟨rfl, rfl, h⟩]
  split
  · rename_i v hv
    exact ⟨_, _, rfl, fun _ => parse_range hv⟩
  · exact ⟨_, _, rfl, fun e => by cases e⟩
  · exact ⟨_, _, rfl, fun e => by cases e⟩
/-- ANY LINE: read, or told to be none; what is read is right, and written so -/
theorem read_total {s : ByteArray} (hs : s.size < 4294967281) : ∃ i b, lines_read 1000 s = some (i, b) ∧ (b = true → good i ∧ lines_line 1000 i = some s) := by
  have goal : OK (lines_read 1000 s) (fun r => r.2 = true → good r.1 ∧ lines_line 1000 r.1 = some s) := by
    unfold lines_read
    have hsp : strings_Split s (⟨[32].toArray⟩) = some (Lib.splitB sp 0 (Lib.countB s sp) s) := by
      unfold strings_Split
      rw [if_pos ⟨hs, by decide⟩]
      rfl
    have hlen := Lib.splitB_all sp (by decide) 0 _ s rfl
    have hsm := splitB_small (Lib.countB s sp) s
    rw [hsp]
    simp only [Option.bind_some]
    generalize Lib.splitB sp 0 (Lib.countB s sp) s = ws at hlen hsm
    cases ws with
    | nil => simp at hlen
    | cons w r =>
      rw [show idx (w :: r) 0 = some w from rfl]
      simp only [Option.bind_some]
      obtain ⟨op, ok, hf⟩ := find_total w
      obtain ⟨o, h1, h2, h3, h4⟩ := order_any op
      rw [hf]
      simp only [Option.bind_some, h1]
      refine OK.ite (fun e => OK.ret (fun e => by cases e)) (fun e => ?_)
      have e2 : r.length = o.size := by
        rw [Bool.or_eq_false_iff] at e
        have e3 := e.2
        rw [w64_eq (by omega) (by omega), List.length_cons] at e3
        have : ((r.length + 1 : Nat) : Int) = (o.size : Int) + 1 := by simpa using e3
        omega
      have hcut : cut (w :: r) 1 (((w :: r).length : Nat) : Int) = some r := by
        unfold cut
        rw [if_pos (by simp; omega)]
        simp
      rw [hcut]
      simp only [Option.bind_some]
      refine OK.bind2 (OK.count (Q := fun q => match q with | .inl t => immOk t | .inr q => q.2 = false) (fun i t => immOk t) (by unfold immOk; simp) (fun i t again hi ht k => ?_) (fun t ht => ht)) (fun q hq => ?_)
      · unfold lines_read_l1
        refine OK.bind (OK.getN hi (fun x hx => ?_))
        have hxs : x.size ≤ s.size := hsm x (List.mem_cons_of_mem _ (List.mem_of_getElem? hx))
        obtain ⟨n, b, hr⟩ := register_total x
        obtain ⟨v, f, hp, hv⟩ := parse_int x (by omega)
        obtain ⟨c, hc⟩ := sidx_some (s := o) (i := i) (by omega)
        rw [hr, hp, hc]
        simp only [Option.bind_some]
        refine OK.bind2 (R := fun _ => True) (OK.ite (fun _ => OK.ret trivial) (fun _ => OK.ret trivial)) (fun o1 _ => ?_)
        refine OK.ite (fun _ => k _ ht) (fun _ => ?_)
        refine OK.bind2 (R := fun _ => True) (OK.ite (fun _ => OK.ret trivial) (fun _ => OK.ret trivial)) (fun o1 _ => ?_)
        refine OK.ite (fun _ => k _ ht) (fun _ => ?_)
        refine OK.bind2 (R := fun _ => True) (OK.ite (fun _ => OK.ret trivial) (fun _ => OK.ret trivial)) (fun o1 _ => ?_)
        refine OK.ite (fun _ => k _ ht) (fun _ => ?_)
        refine OK.ite (fun _ => OK.ret rfl) (fun hf => ?_)
        have hv := hv hf
        refine OK.ite (fun _ => k _ hv) (fun _ => ?_)
        refine OK.ite (fun _ => k _ ht) (fun _ => ?_)
        exact OK.ite (fun _ => k _ hv) (fun _ => OK.ret rfl)
      · cases q with
        | inr q => exact OK.ret (fun e => by rw [show q.2 = false from hq] at e; cases e)
        | inl t =>
          have ht : immOk t := hq
          refine OK.bind2 (R := fun b => b = true → good t ∧ lines_line 1000 t = some s) ?_ (fun b hb => OK.ret hb)
          rw [opsRights_eq]
          simp only [Option.bind_some, List.all_cons, List.all_nil, Bool.and_true]
          refine OK.ite (fun hr => ?_) (fun _ => OK.ret (fun e => by cases e))
          obtain ⟨l, hl, _⟩ := line_ok hr ht
          rw [hl]
          simp only [Option.bind_some]
          exact OK.ret (fun e => ⟨⟨hr, ht⟩, congrArg some (sEq_iff.1 e)⟩)
  obtain ⟨⟨i, b⟩, h1, h2⟩ := goal
  exact ⟨i, b, h1, h2⟩
/-- a text whose first line is none -/
def Bad (s : ByteArray) : Prop := 0 < s.size ∧ ∀ again acc n, lines_Parse_l1 1000 again (s, acc, n) = some (.inr ([], n, 20))
theorem text_splits : ∀ (N : Nat) (s : ByteArray), s.size ≤ N → s.size < 4294967281 → ∃ (xs : List api_Inst) (rest : ByteArray), s = catL (xs.map lineT) ++ rest ∧ (∀ x ∈ xs, good x) ∧ xs.length ≤ s.size ∧ (rest = ByteArray.empty ∨ Bad rest)
  | N, s, hN, hs => by
    by_cases h0 : s.size = 0
    · have : s = ByteArray.empty := by
        apply ba_ext
        rw [Lib.size_eq] at h0
        exact List.length_eq_zero_iff.1 h0
      subst this
      exact ⟨[], ByteArray.empty, rfl, (fun x hx => by cases hx), Nat.zero_le _, Or.inl rfl⟩
    · rcases first_byte 10 s.data.toList with h | ⟨a, r, h, ha⟩
      · refine ⟨[], s, by rw [List.map_nil, catL_nil, ByteArray.empty_append], (fun x hx => by cases hx), Nat.zero_le _, .inr ⟨by omega, fun again acc n => ?_⟩⟩
        obtain ⟨i, b, hr, _⟩ := read_total hs
        unfold lines_Parse_l1
        rw [if_pos (sNe_size (a := s) (by omega))]
        simp only
        rw [cut_miss h]
        simp only [Option.bind_some, hr, Bool.not_false, Bool.true_or, if_true]
      · have es : s = ⟨a.toArray⟩ ++ nl ++ ⟨r.toArray⟩ := by
          apply ba_ext
          rw [app_list, app_list, h]
          simp [nl]
        have hsz : s.size = a.length + 1 + r.length := by rw [Lib.size_eq, h]; simp; omega
        have hA : (⟨a.toArray⟩ : ByteArray).size = a.length := by rw [Lib.size_eq]
        have hR : (⟨r.toArray⟩ : ByteArray).size = r.length := by rw [Lib.size_eq]
        obtain ⟨i, b, hr, hb⟩ := read_total (s := ⟨a.toArray⟩) (by omega)
        cases b with
        | false =>
          refine ⟨[], s, by rw [List.map_nil, catL_nil, ByteArray.empty_append], (fun x hx => by cases hx), Nat.zero_le _, .inr ⟨by omega, fun again acc n => ?_⟩⟩
          unfold lines_Parse_l1
          rw [if_pos (sNe_size (a := s) (by omega))]
          simp only
          rw [es, cut_hit (by simpa using ha) (by rw [← es]; omega)]
          simp only [Option.bind_some, hr, Bool.not_true, Bool.not_false, Bool.or_true, if_true]
        | true =>
          obtain ⟨hg, hl⟩ := hb rfl
          cases N with
          | zero => omega
          | succ N =>
            obtain ⟨xs, rest, h1, h2, h3, h4⟩ := text_splits N ⟨r.toArray⟩ (by omega) (by omega)
            have hT : lineT i = ⟨a.toArray⟩ ++ nl := by unfold lineT; rw [hl]; rfl
            refine ⟨i :: xs, rest, ?_, ?_, ?_, h4⟩
            · rw [List.map_cons, catL_cons, hT, ByteArray.append_assoc, ← h1]
              exact es
            · intro x hx
              rcases List.mem_cons.1 hx with rfl | hx
              · exact hg
              · exact h2 x hx
            · rw [List.length_cons]
              omega
/-- PARSE OF ANY TEXT -/
theorem parse_text {xs : List api_Inst} {rest : ByteArray} {fu : Nat} (hg : ∀ x ∈ xs, good x) (hb : rest = ByteArray.empty ∨ Bad rest) (hz : (catL (xs.map lineT) ++ rest).size < 4294967281) (hl : xs.length ≤ 4294967281) (hf : xs.length + 4 ≤ fu) :
    (rest = ByteArray.empty ∧ lines_Parse fu (catL (xs.map lineT) ++ rest) = some (xs, 0, 0)) ∨ (rest ≠ ByteArray.empty ∧ lines_Parse fu (catL (xs.map lineT) ++ rest) = some ([], (xs.length : Int) + 1, 20)) := by
  obtain ⟨k, rfl⟩ : ∃ k, fu = k + 1 + xs.length := ⟨fu - 1 - xs.length, by omega⟩
  have h2 := parse_loop xs [] 1 (k + 1) rest hg (by simp; omega) (by omega) (by omega) (by omega)
  rcases hb with rfl | hb
  · refine .inl ⟨rfl, ?_⟩
    unfold lines_Parse
    rw [parseL_fu (by omega), h2, parse_end]
    rfl
  · refine .inr ⟨fun e => ?_, ?_⟩
    · have := hb.1
      rw [e] at this
      exact absurd this (by decide)
    · unfold lines_Parse
      rw [parseL_fu (by omega), h2]
      show (lines_Parse_l1 1000 (loop (lines_Parse_l1 1000) k) (rest, [] ++ xs, 1 + (xs.length : Int))).bind _ = _
      rw [hb.2]
      simp only [Option.bind_some]
      rw [Int.add_comm]
end Go.Proofs.YteaedkohbgediaaDoor
