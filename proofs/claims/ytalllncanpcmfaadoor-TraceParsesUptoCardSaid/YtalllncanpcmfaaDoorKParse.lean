/- TraceParses: both parse every text alike. -/
import Derived.Test.YtalllncanpcmfaaDoorKRead
set_option linter.unusedVariables false
set_option linter.unusedSimpArgs false
namespace Go.Proofs.YtalllncanpcmfaaDoor
open Go.Sx

/-- a text whose first line is none -/
def BadR (fu : Nat) (s : ByteArray) : Prop := 0 < s.size ∧ (NoB 10 s.data.toList ∨ ∃ a r i j, s = a ++ nl ++ r ∧ NoB 10 a.data.toList ∧ trace_parsed 1000 a = some (i, false) ∧ tappetref26_Read fu a = some (j, false))
theorem BadR.bad {fu : Nat} {s : ByteArray} (hz : s.size ≤ 1048575) (h : BadR fu s) : Bad s := by
  refine ⟨h.1, fun again acc n => ?_⟩
  rcases h.2 with h2 | ⟨a, r, i, j, rfl, ha, hr, _⟩
  · obtain ⟨i, b, hr, _⟩ := parsed_total (s := s) (by omega)
    unfold trace_Parse_l1
    rw [if_pos (sNe_size (a := s) h.1)]
    simp only
    rw [cut_miss h2]
    simp only [Option.bind_some, hr, Bool.not_false, Bool.true_or, if_true]
  · unfold trace_Parse_l1
    rw [if_pos (sNe_size h.1)]
    simp only
    rw [cut_hit ha (by omega)]
    simp only [Option.bind_some, hr, Bool.not_true, Bool.not_false, Bool.or_true, if_true]
theorem text_splitsR {fu : Nat} : ∀ (N : Nat) (s : ByteArray), s.size ≤ N → s.size ≤ 1048575 → 1048600 ≤ fu → ∃ (xs : List api_Entry) (rest : ByteArray), s = catL (xs.map lineT) ++ rest ∧ (∀ x ∈ xs, good x ∧ ∃ r, lineT x = r ++ nl ∧ NoB 10 r.data.toList ∧ tappetref26_Read fu r = some (x, true)) ∧ xs.length ≤ s.size ∧ (rest = ByteArray.empty ∨ BadR fu rest)
  | N, s, hN, hs, hf => by
    by_cases h0 : s.size = 0
    · have : s = ByteArray.empty := by
        apply ba_ext
        rw [Lib.size_eq] at h0
        exact List.length_eq_zero_iff.1 h0
      subst this
      exact ⟨[], ByteArray.empty, rfl, (fun x hx => by cases hx), Nat.zero_le _, Or.inl rfl⟩
    · rcases first_byte 10 s.data.toList with h | ⟨a, r, h, ha⟩
      · exact ⟨[], s, by rw [List.map_nil, catL_nil, ByteArray.empty_append], (fun x hx => by cases hx), Nat.zero_le _, .inr ⟨by omega, .inl h⟩⟩
      · have es : s = ⟨a.toArray⟩ ++ nl ++ ⟨r.toArray⟩ := by
          apply ba_ext
          rw [app_list, app_list, h]
          simp [nl]
        have hsz : s.size = a.length + 1 + r.length := by rw [Lib.size_eq, h]; simp; omega
        have hA : (⟨a.toArray⟩ : ByteArray).size = a.length := by rw [Lib.size_eq]
        have hR : (⟨r.toArray⟩ : ByteArray).size = r.length := by rw [Lib.size_eq]
        rcases read_alike (fu := fu) (s := ⟨a.toArray⟩) (by omega) (by omega) with ⟨x, hg, hl, h1, h2⟩ | ⟨i, j, h1, h2⟩
        · cases N with
          | zero => omega
          | succ N =>
            obtain ⟨xs, rest, g1, g2, g3, g4⟩ := text_splitsR (fu := fu) N ⟨r.toArray⟩ (by omega) (by omega) (by omega)
            have hT : lineT x = ⟨a.toArray⟩ ++ nl := by unfold lineT; rw [hl]; rfl
            refine ⟨x :: xs, rest, ?_, ?_, ?_, g4⟩
            · rw [List.map_cons, catL_cons, hT, ByteArray.append_assoc, ← g1]
              exact es
            · intro y hy
              rcases List.mem_cons.1 hy with rfl | hy
              · exact ⟨hg, ⟨a.toArray⟩, hT, by simpa using ha, h2⟩
              · exact g2 y hy
            · rw [List.length_cons]
              omega
        · exact ⟨[], s, by rw [List.map_nil, catL_nil, ByteArray.empty_append], (fun x hx => by cases hx), Nat.zero_le _, .inr ⟨by omega, .inr ⟨⟨a.toArray⟩, ⟨r.toArray⟩, i, j, es, by simpa using ha, h1, h2⟩⟩⟩
/-! ### The reference's Parse -/
section
variable {s : ByteArray} {fu : Nat}
abbrev PO := ((List api_Entry) × Int) ⊕ ((List api_Entry) × Int × Int)
theorem pstep_skip {i : Nat} {c : Int} {again : ((List api_Entry) × Int) → Option PO} {st : (List api_Entry) × Int} (hb : sidx s (i : Int) = some c) (hc : (c != 10) = true) : tappetref26_Parse_l1 fu s i again st = again st := by
  unfold tappetref26_Parse_l1
  rw [hb]
  simp only [Option.bind_some, hc, if_true]
theorem pstep_nl {i : Nat} {again : ((List api_Entry) × Int) → Option PO} {acc : List api_Entry} {f : Int} {t : ByteArray} {r : api_Entry × Bool} (hb : sidx s (i : Int) = some 10) (hp : scut s f (i : Int) = some t) (hr : tappetref26_Read fu t = some r) (hacc : acc.length ≤ 1048575) (hi : i ≤ 1048575) :
    tappetref26_Parse_l1 fu s i again (acc, f) = if r.2 then again (acc ++ [r.1], ((i + 1 : Nat) : Int)) else some (.inr ([], (acc.length : Int) + 1, 20)) := by
  unfold tappetref26_Parse_l1
  rw [hb]
  simp only [Option.bind_some]
  rw [if_neg (by simp), hp]
  simp only [Option.bind_some, hr]
  rw [w64_eq (by omega) (by omega), w64_eq (by omega) (by omega)]
  cases r with
  | mk x b =>
    cases b with
    | false => rfl
    | true =>
      simp only [Bool.not_true, Bool.false_eq_true, if_false, if_true]
      rw [show room (acc.length + [x].length) 176 = some () from by unfold room; rw [if_pos (by simp; omega)]]
      rfl
theorem pscan : ∀ (b : List UInt8) (n : Nat) (pre post : List UInt8) (st : (List api_Entry) × Int), s.data.toList = pre ++ (b ++ post) → NoB 10 b →
    forN (tappetref26_Parse_l1 fu s) (fun (s : (List api_Entry) × Int) => (.inl (s.1, s.2) : PO)) (n + b.length) pre.length st = forN (tappetref26_Parse_l1 fu s) (fun (s : (List api_Entry) × Int) => (.inl (s.1, s.2) : PO)) n (pre.length + b.length) st
  | [], n, pre, post, st, _, _ => by simp
  | c :: b, n, pre, post, st, h, hn => by
    show tappetref26_Parse_l1 fu s pre.length (forN (tappetref26_Parse_l1 fu s) (fun (s : (List api_Entry) × Int) => (.inl (s.1, s.2) : PO)) (n + b.length) (pre.length + 1)) st = _
    have hb : sidx s (pre.length : Int) = some (c.toNat : Int) := byte_at (by rw [h]; rfl)
    have hc : ((c.toNat : Int) != 10) = true := by
      have h1 := hn c (List.mem_cons_self ..)
      rw [bne_iff_ne]
      intro e
      apply h1
      apply UInt8.toNat_inj.1
      rw [show (10 : UInt8).toNat = 10 from rfl]
      omega
    have ih := pscan b n (pre ++ [c]) post st (by rw [h]; simp) (fun x hx => hn x (List.mem_cons_of_mem _ hx))
    rw [List.length_append, List.length_singleton] at ih
    rw [pstep_skip hb hc, ih, List.length_cons, show pre.length + 1 + b.length = pre.length + (b.length + 1) by omega]
theorem pline {n : Nat} {pre a post : List UInt8} {acc : List api_Entry} (h : s.data.toList = pre ++ (a ++ 10 :: post)) (hn : NoB 10 a) (hz : s.size ≤ 1048575) (hacc : acc.length ≤ 1048575) {r : api_Entry × Bool} (hr : tappetref26_Read fu ⟨a.toArray⟩ = some r) :
    forN (tappetref26_Parse_l1 fu s) (fun (s : (List api_Entry) × Int) => (.inl (s.1, s.2) : PO)) (n + 1 + a.length) pre.length (acc, (pre.length : Int)) =
      if r.2 then forN (tappetref26_Parse_l1 fu s) (fun (s : (List api_Entry) × Int) => (.inl (s.1, s.2) : PO)) n (pre.length + a.length + 1) (acc ++ [r.1], ((pre.length + a.length + 1 : Nat) : Int)) else some (.inr ([], (acc.length : Int) + 1, 20)) := by
  rw [pscan a (n + 1) pre (10 :: post) _ h hn]
  have hsz : s.size = pre.length + a.length + 1 + post.length := by rw [Lib.size_eq, h]; simp; omega
  show tappetref26_Parse_l1 fu s (pre.length + a.length) (forN (tappetref26_Parse_l1 fu s) (fun (s : (List api_Entry) × Int) => (.inl (s.1, s.2) : PO)) n (pre.length + a.length + 1)) (acc, (pre.length : Int)) = _
  have hb : sidx s ((pre.length + a.length : Nat) : Int) = some 10 := by
    have := byte_at (s := s) (pre := pre ++ a) (c := 10) (post := post) (by rw [h]; simp)
    rw [List.length_append] at this
    exact this
  have hp : scut s (pre.length : Int) ((pre.length + a.length : Nat) : Int) = some ⟨a.toArray⟩ := part_of h
  exact pstep_nl hb hp hr hacc (by omega)
theorem pref : ∀ (xs : List api_Entry) (n : Nat) (pre : List UInt8) (acc : List api_Entry) (rest : ByteArray), s.data.toList = pre ++ (catL (xs.map lineT) ++ rest).data.toList → (∀ x ∈ xs, good x ∧ ∃ r, lineT x = r ++ nl ∧ NoB 10 r.data.toList ∧ tappetref26_Read fu r = some (x, true)) → s.size ≤ 1048575 → acc.length ≤ pre.length →
    forN (tappetref26_Parse_l1 fu s) (fun (s : (List api_Entry) × Int) => (.inl (s.1, s.2) : PO)) (n + (catL (xs.map lineT)).size) pre.length (acc, (pre.length : Int)) =
      forN (tappetref26_Parse_l1 fu s) (fun (s : (List api_Entry) × Int) => (.inl (s.1, s.2) : PO)) n (pre.length + (catL (xs.map lineT)).size) (acc ++ xs, ((pre.length + (catL (xs.map lineT)).size : Nat) : Int))
  | [], n, pre, acc, rest, _, _, _, _ => by simp [catL_nil]
  | x :: xs, n, pre, acc, rest, h, hg, hz, ha => by
    obtain ⟨_, r, e1, e2, e3⟩ := hg x (List.mem_cons_self ..)
    have hrz := Lib.size_eq r
    have hpz : pre.length ≤ s.size := by rw [Lib.size_eq, h, List.length_append]; omega
    have hz1 : (catL ((x :: xs).map lineT)).size = r.size + 1 + (catL (xs.map lineT)).size := by
      rw [List.map_cons, catL_cons, e1, ByteArray.size_append, ByteArray.size_append]
      rfl
    have h2 : s.data.toList = pre ++ (r.data.toList ++ 10 :: (catL (xs.map lineT) ++ rest).data.toList) := by
      rw [h, List.map_cons, catL_cons, e1]
      simp only [app_list]
      simp [nl]
    rw [hz1, show n + (r.size + 1 + (catL (xs.map lineT)).size) = (n + (catL (xs.map lineT)).size) + 1 + r.data.toList.length by omega]
    rw [pline h2 e2 hz (by omega) (r := (x, true)) (by rw [show (⟨r.data.toList.toArray⟩ : ByteArray) = r from ba_ext (by simp)]; exact e3)]
    simp only [if_true]
    have ih := pref xs n (pre ++ r.data.toList ++ [10]) (acc ++ [x]) rest (by rw [h2]; simp) (fun y hy => hg y (List.mem_cons_of_mem _ hy)) hz (by simp; omega)
    simp only [List.length_append, List.length_singleton] at ih
    rw [ih, List.append_assoc, List.singleton_append]
    rw [show pre.length + r.data.toList.length + 1 + (catL (xs.map lineT)).size = pre.length + (r.size + 1 + (catL (xs.map lineT)).size) by omega]
end
/-- THE REFERENCE PARSES ANY TEXT SO -/
theorem refParse_text {s : ByteArray} {fu : Nat} {xs : List api_Entry} {rest : ByteArray} (he : s = catL (xs.map lineT) ++ rest) (hg : ∀ x ∈ xs, good x ∧ ∃ r, lineT x = r ++ nl ∧ NoB 10 r.data.toList ∧ tappetref26_Read fu r = some (x, true)) (hb : rest = ByteArray.empty ∨ BadR fu rest) (hz : s.size ≤ 1048575) (hx : xs.length ≤ s.size) :
    (rest = ByteArray.empty → tappetref26_Parse fu s = some (xs, 0, 0)) ∧ (rest ≠ ByteArray.empty → tappetref26_Parse fu s = some ([], (xs.length : Int) + 1, 20)) := by
  have hr : room s.size 1 = some () := by unfold room; rw [if_pos (by omega)]
  have hsz : s.size = (catL (xs.map lineT)).size + rest.size := by rw [he, ByteArray.size_append]
  have hp := pref (s := s) (fu := fu) xs rest.size [] [] rest (by rw [he]; rfl) hg hz (Nat.le_refl _)
  simp only [List.length_nil, Nat.zero_add, List.nil_append] at hp
  refine ⟨fun e => ?_, fun e => ?_⟩
  · subst e
    unfold tappetref26_Parse
    rw [hr]
    simp only [Option.bind_some]
    rw [show s.size = ByteArray.empty.size + (catL (xs.map lineT)).size by omega]
    have hp' : forN (tappetref26_Parse_l1 fu s) (fun (s : (List api_Entry) × Int) => (.inl (s.1, s.2) : PO)) (ByteArray.empty.size + (catL (xs.map lineT)).size) 0 ([], 0) = some (.inl (xs, (((catL (xs.map lineT)).size : Nat) : Int))) := hp
    rw [hp']
    simp only [Option.bind_some]
    rw [if_neg (by simp)]
  · have hbad := hb.resolve_left e
    obtain ⟨h0, h1⟩ := hbad
    have key : forN (tappetref26_Parse_l1 fu s) (fun (s : (List api_Entry) × Int) => (.inl (s.1, s.2) : PO)) rest.size (catL (xs.map lineT)).size (xs, (((catL (xs.map lineT)).size : Nat) : Int)) = some (.inl (xs, (((catL (xs.map lineT)).size : Nat) : Int))) ∨
        forN (tappetref26_Parse_l1 fu s) (fun (s : (List api_Entry) × Int) => (.inl (s.1, s.2) : PO)) rest.size (catL (xs.map lineT)).size (xs, (((catL (xs.map lineT)).size : Nat) : Int)) = some (.inr ([], (xs.length : Int) + 1, 20)) := by
      have hcz := Lib.size_eq (catL (xs.map lineT))
      rcases h1 with h1 | ⟨a, r, i, j, e1, ha, _, hrd⟩
      · refine .inl ?_
        have := pscan (s := s) (fu := fu) rest.data.toList 0 (catL (xs.map lineT)).data.toList [] (xs, (((catL (xs.map lineT)).size : Nat) : Int)) (by rw [he, app_list]; simp) h1
        rw [Nat.zero_add, ← Lib.size_eq, ← Lib.size_eq] at this
        rw [this]
        rfl
      · refine .inr ?_
        have haz := Lib.size_eq a
        have hrz : rest.size = a.size + 1 + r.size := by rw [e1, ByteArray.size_append, ByteArray.size_append]; rfl
        have := pline (s := s) (fu := fu) (n := r.size) (pre := (catL (xs.map lineT)).data.toList) (a := a.data.toList) (post := r.data.toList) (acc := xs) (by rw [he, e1]; simp only [app_list]; simp [nl]) ha hz (by omega) (r := (j, false)) (by rw [show (⟨a.data.toList.toArray⟩ : ByteArray) = a from ba_ext (by simp)]; exact hrd)
        rw [← Lib.size_eq, ← Lib.size_eq, show r.size + 1 + a.size = rest.size by omega] at this
        rw [this]
        rfl
    unfold tappetref26_Parse
    rw [hr]
    simp only [Option.bind_some]
    have hsum : s.size = rest.size + (catL (xs.map lineT)).size := by omega
    have hp' : forN (tappetref26_Parse_l1 fu s) (fun (s : (List api_Entry) × Int) => (.inl (s.1, s.2) : PO)) s.size 0 ([], 0) = forN (tappetref26_Parse_l1 fu s) (fun (s : (List api_Entry) × Int) => (.inl (s.1, s.2) : PO)) rest.size (catL (xs.map lineT)).size (xs, (((catL (xs.map lineT)).size : Nat) : Int)) := by
      conv => lhs; rw [hsum]
      exact hp
    rw [hp']
    rcases key with h | h
    · rw [h]
      simp only [Option.bind_some]
      rw [if_pos (by simp; omega), w64_eq (by omega) (by omega)]
    · rw [h]
      rfl
theorem traceParses_law (p0 : ByteArray) (hs : p0.size ≤ 1048575) : tappetlaw26_TraceParses 1050000 p0 = some true := by
  obtain ⟨xs, rest, e1, hg, hxl, hr⟩ := text_splitsR (fu := 1050000) p0.size p0 (Nat.le_refl _) hs (by omega)
  obtain ⟨q1, q2⟩ := refParse_text e1 hg hr hs hxl
  have hrz : rest.size ≤ 1048575 := by
    have : p0.size = (catL (xs.map lineT)).size + rest.size := by conv => lhs; rw [e1, ByteArray.size_append]
    omega
  have hr2 : rest = ByteArray.empty ∨ Bad rest := hr.imp id (fun h => h.bad hrz)
  refine OK.is ?_
  unfold tappetlaw26_TraceParses
  rw [awake_fu (by omega)]
  simp only [Option.bind_some]
  refine OK.ite_false rfl ?_
  have hp := parse_text (fun x hx => (hg x hx).1) hr2 (by omega) (by omega) (show xs.length + 30 ≤ 1050000 by omega)
  rw [← e1] at hp
  rcases hp with ⟨h1, h2⟩ | ⟨h1, h2⟩
  · rw [h2, q1 h1]
    simp only [Option.bind_some]
    rw [logs_refl]
    exact OK.ret rfl
  · rw [h2, q2 h1]
    simp only [Option.bind_some]
    rw [logs_refl]
    simp only [Option.bind_some, if_true, beq_self_eq_true]
    exact OK.ret rfl
end Go.Proofs.YtalllncanpcmfaaDoor
