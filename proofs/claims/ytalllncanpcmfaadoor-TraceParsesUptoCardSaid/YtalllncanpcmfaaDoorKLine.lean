/- An entry's line: always there, short, without a feed; a line is read or told to be none. -/
import Derived.Test.YtalllncanpcmfaaDoorKText
set_option linter.unusedVariables false
set_option linter.unusedSimpArgs false
namespace Go.Proofs.YtalllncanpcmfaaDoor
open Go.Sx

/-- the numbers of an entry are numbers of their types -/
structure wfE (x : api_Entry) : Prop where
  a0 : i64 x.What
  a1 : i64 x.Task
  a2 : i64 x.From
  a3 : i64 x.Cmd
  a4 : i64 x.Tag
  a5 : i64 x.Event
  a6 : i64 x.Hook
  a7 : i64 x.Prog
  a8 : i64 x.Version
  a9 : i64 x.Pc
  b0 : i64 x.Item.Map
  b1 : i64 x.Item.Op
  b2 : u64 x.Item.Key
  b3 : u64 x.Item.Val
  c0 : i64 x.Res.E
  c2 : u64 x.Res.Val
  c4 : u64 x.Res.OutKey
  c5 : u64 x.Res.OutVal
  d0 : u64 x.Val
  d1 : i64 x.E
theorem i64_0 : i64 0 := ⟨by decide, by decide⟩
theorem u64_0 : u64 0 := ⟨by decide, by decide⟩
theorem whC {c : Int} {q : Nat} (h : whK c = some q) : 1 ≤ q ∧ q ≤ 10 := by
  unfold whK at h
  repeat' (split at h)
  all_goals first | (cases h; decide) | cases h
theorem wdC {c : Int} {q : Nat} (h : wdK c = some q) : q = 20 ∨ q = 12 ∨ q = 13 ∨ q = 16 ∨ q = 18 ∨ q = 19 := by
  unfold wdK at h
  repeat' (split at h)
  all_goals first | (cases h; decide) | cases h
theorem geto_i {x : api_Entry} (h : wfE x) {c : Int} {q : Nat} (hq : whK c = some q) : i64 (geto_api_Entry x q) := by
  have hq := whC hq
  match q, hq with
  | 1, _ => exact h.a1
  | 2, _ => exact h.a2
  | 3, _ => exact h.a3
  | 4, _ => exact h.a4
  | 5, _ => exact h.a5
  | 6, _ => exact h.a6
  | 7, _ => exact h.a7
  | 8, _ => exact h.a8
  | 9, _ => exact h.a9
  | 10, _ => exact h.b0
  | 0, h => omega
  | n + 11, h => omega
theorem geto_u {x : api_Entry} (h : wfE x) {c : Int} {q : Nat} (hq : wdK c = some q) : u64 (geto_api_Entry x q) := by
  rcases wdC hq with rfl | rfl | rfl | rfl | rfl | rfl
  · exact h.d0
  · exact h.b2
  · exact h.b3
  · exact h.c2
  · exact h.c4
  · exact h.c5
theorem puto_i {x : api_Entry} (h : wfE x) {c : Int} {q : Nat} (hq : whK c = some q) {v : Int} (hv : i64 v) : wfE (puto_api_Entry x q v) := by
  have hq := whC hq
  obtain ⟨a0, a1, a2, a3, a4, a5, a6, a7, a8, a9, b0, b1, b2, b3, c0, c2, c4, c5, d0, d1⟩ := h
  match q, hq with
  | 1, _ => exact ⟨a0, hv, a2, a3, a4, a5, a6, a7, a8, a9, b0, b1, b2, b3, c0, c2, c4, c5, d0, d1⟩
  | 2, _ => exact ⟨a0, a1, hv, a3, a4, a5, a6, a7, a8, a9, b0, b1, b2, b3, c0, c2, c4, c5, d0, d1⟩
  | 3, _ => exact ⟨a0, a1, a2, hv, a4, a5, a6, a7, a8, a9, b0, b1, b2, b3, c0, c2, c4, c5, d0, d1⟩
  | 4, _ => exact ⟨a0, a1, a2, a3, hv, a5, a6, a7, a8, a9, b0, b1, b2, b3, c0, c2, c4, c5, d0, d1⟩
  | 5, _ => exact ⟨a0, a1, a2, a3, a4, hv, a6, a7, a8, a9, b0, b1, b2, b3, c0, c2, c4, c5, d0, d1⟩
  | 6, _ => exact ⟨a0, a1, a2, a3, a4, a5, hv, a7, a8, a9, b0, b1, b2, b3, c0, c2, c4, c5, d0, d1⟩
  | 7, _ => exact ⟨a0, a1, a2, a3, a4, a5, a6, hv, a8, a9, b0, b1, b2, b3, c0, c2, c4, c5, d0, d1⟩
  | 8, _ => exact ⟨a0, a1, a2, a3, a4, a5, a6, a7, hv, a9, b0, b1, b2, b3, c0, c2, c4, c5, d0, d1⟩
  | 9, _ => exact ⟨a0, a1, a2, a3, a4, a5, a6, a7, a8, hv, b0, b1, b2, b3, c0, c2, c4, c5, d0, d1⟩
  | 10, _ => exact ⟨a0, a1, a2, a3, a4, a5, a6, a7, a8, a9, hv, b1, b2, b3, c0, c2, c4, c5, d0, d1⟩
  | 0, h => omega
  | n + 11, h => omega
theorem puto_u {x : api_Entry} (h : wfE x) {c : Int} {q : Nat} (hq : wdK c = some q) {v : Int} (hv : u64 v) : wfE (puto_api_Entry x q v) := by
  obtain ⟨a0, a1, a2, a3, a4, a5, a6, a7, a8, a9, b0, b1, b2, b3, c0, c2, c4, c5, d0, d1⟩ := h
  rcases wdC hq with rfl | rfl | rfl | rfl | rfl | rfl
  · exact ⟨a0, a1, a2, a3, a4, a5, a6, a7, a8, a9, b0, b1, b2, b3, c0, c2, c4, c5, hv, d1⟩
  · exact ⟨a0, a1, a2, a3, a4, a5, a6, a7, a8, a9, b0, b1, hv, b3, c0, c2, c4, c5, d0, d1⟩
  · exact ⟨a0, a1, a2, a3, a4, a5, a6, a7, a8, a9, b0, b1, b2, hv, c0, c2, c4, c5, d0, d1⟩
  · exact ⟨a0, a1, a2, a3, a4, a5, a6, a7, a8, a9, b0, b1, b2, b3, c0, hv, c4, c5, d0, d1⟩
  · exact ⟨a0, a1, a2, a3, a4, a5, a6, a7, a8, a9, b0, b1, b2, b3, c0, c2, hv, c5, d0, d1⟩
  · exact ⟨a0, a1, a2, a3, a4, a5, a6, a7, a8, a9, b0, b1, b2, b3, c0, c2, c4, hv, d0, d1⟩
/-! ### Words -/
def short (w : ByteArray) : Prop := w.size ≤ 22 ∧ NoB 10 w.data.toList
theorem rune_ok {c : Int} (h : 33 ≤ c ∧ c < 128) : ∃ r, ofRune c = some r ∧ r.size = 1 ∧ NoB 10 r.data.toList := by
  refine ⟨⟨[UInt8.ofNat c.toNat].toArray⟩, by unfold ofRune; rw [if_pos (by omega)], rfl, fun b hb e => ?_⟩
  have hb : b ∈ [UInt8.ofNat c.toNat] := hb
  rw [List.mem_singleton] at hb
  rw [hb] at e
  have e2 := congrArg UInt8.toNat e
  rw [UInt8.toNat_ofNat', show (10 : UInt8).toNat = 10 from rfl] at e2
  omega
theorem letter_num {c n : Int} (hc : 33 ≤ c ∧ c < 128) (hn : i64 n) : OK ((ofRune c).bind fun x => (strconv_Itoa n).bind fun r => (catB x r).bind fun y => some y) short := by
  obtain ⟨r, h1, h2, h3⟩ := rune_ok hc
  rw [h1]
  simp only [Option.bind_some]
  have hl := Lib.itoa_length_le n hn.1 hn.2
  have hs : (⟨(Lib.itoa n).toArray⟩ : ByteArray).size = (Lib.itoa n).length := by rw [Lib.size_eq]
  rw [show strconv_Itoa n = some ⟨(Lib.itoa n).toArray⟩ from by unfold strconv_Itoa; exact if_pos hn]
  simp only [Option.bind_some]
  refine OK.bind (cat_ok (by omega) (OK.ret ⟨by rw [ByteArray.size_append]; omega, ?_⟩))
  rw [app_list]
  exact nob_app h3 (by simpa using nonl_itoa n)
theorem letter_wide {c n : Int} (hc : 33 ≤ c ∧ c < 128) (hn : u64 n) : OK ((ofRune c).bind fun x => (strconv_FormatUint n 10).bind fun r => (catB x r).bind fun y => some y) short := by
  obtain ⟨r, h1, h2, h3⟩ := rune_ok hc
  rw [h1]
  simp only [Option.bind_some]
  have h20 := Lib.nDigits_le20 n.toNat (by have := hn.2; have := hn.1; omega)
  have hl : (Lib.decDigits n.toNat).length ≤ 20 := by rw [Lib.decDigits_length]; exact h20
  have hs : (⟨(Lib.decDigits n.toNat).toArray⟩ : ByteArray).size = (Lib.decDigits n.toNat).length := by rw [Lib.size_eq]
  rw [show strconv_FormatUint n 10 = some ⟨(Lib.decDigits n.toNat).toArray⟩ from by unfold strconv_FormatUint; rw [if_pos ⟨rfl, hn.1, by have := hn.2; omega⟩]]
  simp only [Option.bind_some]
  refine OK.bind (cat_ok (by omega) (OK.ret ⟨by rw [ByteArray.size_append]; omega, ?_⟩))
  rw [app_list]
  exact nob_app h3 (by simpa using nonl_dec n.toNat)
theorem word_ok {x : api_Entry} (h : wfE x) {c : Int} (hc : 33 ≤ c ∧ c < 128) : OK (trace_word x c) short := by
  unfold trace_word
  have i1 : i64 1 := ⟨by decide, by decide⟩
  cases hq : whK c with
  | none =>
    refine OK.none_ ?_
    cases hw : wdK c with
    | none =>
      refine OK.none_ ?_
      refine OK.bind2 (R := i64) ?_ (fun n hn => letter_num hc hn)
      refine OK.ite (fun _ => OK.ret h.d1) (fun _ => ?_)
      refine OK.ite (fun _ => OK.ret h.b1) (fun _ => ?_)
      refine OK.ite (fun _ => OK.ret h.c0) (fun _ => ?_)
      refine OK.ite (fun _ => OK.ite (fun _ => OK.ret i1) (fun _ => OK.ret i64_0)) (fun _ => OK.ret i64_0)
    | some q => exact OK.some_ (letter_wide hc (geto_u h hw))
  | some q =>
    refine OK.some_ ?_
    refine OK.bind2 (R := i64) ?_ (fun n hn => letter_num hc hn)
    refine OK.ite (fun _ => OK.ret h.d1) (fun _ => ?_)
    refine OK.ite (fun _ => OK.ret h.b1) (fun _ => ?_)
    refine OK.ite (fun _ => OK.ret h.c0) (fun _ => ?_)
    refine OK.ite (fun _ => OK.ite (fun _ => OK.ret i1) (fun _ => OK.ret (geto_i h hq))) (fun _ => OK.ret (geto_i h hq))
/-! ### Letters -/
def okL (o : ByteArray) : Bool := decide (o.size ≤ 20) && (List.range o.size).all (fun p => runeEnd o p == p + 1 && decide (33 ≤ runeAt o p) && decide (runeAt o p < 128))
def chkL (k : Nat) : Bool := match tab_g0[k]? with
  | some f => decide (f.name.size ≤ 10) && f.name.data.toList.all (fun b => b != 10) && (match trace_letters f true, trace_letters f false with | some a, some b => okL a && okL b | _, _ => false) && (match strings_HasSuffix f.fields (⟨[82].toArray⟩) with | some _ => true | none => false) && (k == 0 || sNe f.name ByteArray.empty)
  | none => false
theorem chkL_all : ∀ k : Fin 18, chkL (k : Nat) = true := by decide +kernel
structure Letters (f : trace_form) : Prop where
  name : f.name.size ≤ 10 ∧ NoB 10 f.name.data.toList
  let_ : ∀ out, ∃ o, trace_letters f out = some o ∧ o.size ≤ 20 ∧ (∀ p, p < o.size → runeEnd o p = p + 1) ∧ (∀ p, p < o.size → 33 ≤ runeAt o p ∧ runeAt o p < 128)
  suf : ∃ b, strings_HasSuffix f.fields (⟨[82].toArray⟩) = some b
theorem okL_is {o : ByteArray} (h : okL o = true) : o.size ≤ 20 ∧ (∀ p, p < o.size → runeEnd o p = p + 1) ∧ (∀ p, p < o.size → 33 ≤ runeAt o p ∧ runeAt o p < 128) := by
  unfold okL at h
  simp only [Bool.and_eq_true, decide_eq_true_eq, List.all_eq_true, List.mem_range, beq_iff_eq] at h
  exact ⟨h.1, fun p hp => (h.2 p hp).1.1, fun p hp => ⟨(h.2 p hp).1.2, (h.2 p hp).2⟩⟩
theorem letters_at {k : Nat} (hk : k < 18) : ∃ f, tab_g0[k]? = some f ∧ Letters f ∧ (k ≠ 0 → sNe f.name ByteArray.empty = true) := by
  have h := chkL_all ⟨k, hk⟩
  unfold chkL at h
  simp only at h
  split at h
  · rename_i f hf
    simp only [Bool.and_eq_true, decide_eq_true_eq, List.all_eq_true, bne_iff_ne, Bool.or_eq_true, beq_iff_eq] at h
    obtain ⟨⟨⟨⟨n1, n2⟩, n3⟩, n4⟩, n5⟩ := h
    refine ⟨f, hf, ⟨⟨n1, fun b hb => n2 b hb⟩, fun out => ?_, ?_⟩, fun e => n5.resolve_left e⟩
    · split at n3
      · rename_i a b ha hb
        simp only [Bool.and_eq_true] at n3
        cases out with
        | true => exact ⟨a, ha, okL_is n3.1⟩
        | false => exact ⟨b, hb, okL_is n3.2⟩
      · cases n3
    · split at n4
      · rename_i b hb
        exact ⟨b, hb⟩
      · cases n4
  · cases h
theorem of_ok (m : Int) : ∃ f b, trace_of m = some (f, b) ∧ Letters f ∧ (b = true → 1 ≤ m ∧ m ≤ 17 ∧ tab_g0[m.toNat]? = some f) ∧ (b = false → m < 1 ∨ 18 ≤ m) := by
  unfold trace_of
  by_cases h : m < 1 ∨ 18 ≤ m
  · obtain ⟨f, hf, hL, _⟩ := letters_at (k := 0) (by decide)
    have : f = trace_form.mk ByteArray.empty ByteArray.empty := by
      have e : tab_g0[0]? = some (trace_form.mk ByteArray.empty ByteArray.empty) := rfl
      rw [e] at hf
      exact (Option.some.inj hf).symm
    subst this
    exact ⟨_, false, by rw [if_pos (by simp; omega)], hL, (fun e => by cases e), fun _ => h⟩
  · obtain ⟨f, hf, hL, _⟩ := letters_at (k := m.toNat) (by omega)
    refine ⟨f, true, ?_, hL, (fun _ => ⟨by omega, by omega, hf⟩), fun e => by cases e⟩
    rw [if_neg (by simp; omega)]
    have : idx tab_g0 m = some f := by unfold idx; rw [if_pos (by omega)]; exact hf
    rw [this]
    rfl
/-! ### Lines -/
theorem lstep {x : api_Entry} {o : ByteArray} {again : (ByteArray × Nat) → Option ByteArray} {s : ByteArray} {p : Nat} (h : p < o.size) : trace_line_l1 x o again (s, p) = (trace_word x (runeAt o p)).bind fun r => (catB (⟨[32].toArray⟩) r).bind fun y => (catB s y).bind fun z => again (z, runeEnd o p) := by
  unfold trace_line_l1
  simp only [h, decide_true, if_true]
theorem lend {x : api_Entry} {o : ByteArray} {again : (ByteArray × Nat) → Option ByteArray} {s : ByteArray} {p : Nat} (h : o.size ≤ p) : trace_line_l1 x o again (s, p) = some s := by
  unfold trace_line_l1
  rw [if_neg (by simp; omega)]
theorem lloop {x : api_Entry} (hx : wfE x) {o : ByteArray} (ho : ∀ p, p < o.size → runeEnd o p = p + 1) (hc : ∀ p, p < o.size → 33 ≤ runeAt o p ∧ runeAt o p < 128) : ∀ (n fu : Nat) (s : ByteArray) (p : Nat), o.size = p + n → n < fu → s.size + 23 * n ≤ 1000 → NoB 10 s.data.toList →
    OK (loop (trace_line_l1 x o) fu (s, p)) (fun r => r.size ≤ s.size + 23 * n ∧ NoB 10 r.data.toList) := by
  intro n
  induction n with
  | zero =>
    intro fu s p hp hf hs hn
    obtain ⟨fu, rfl⟩ : ∃ f, fu = f + 1 := ⟨fu - 1, by omega⟩
    show OK (trace_line_l1 x o (loop (trace_line_l1 x o) fu) (s, p)) _
    rw [lend (by omega)]
    exact OK.ret ⟨by omega, hn⟩
  | succ n ih =>
    intro fu s p hp hf hs hn
    obtain ⟨fu, rfl⟩ : ∃ f, fu = f + 1 := ⟨fu - 1, by omega⟩
    show OK (trace_line_l1 x o (loop (trace_line_l1 x o) fu) (s, p)) _
    rw [lstep (by omega)]
    refine OK.bind2 (word_ok hx (hc p (by omega))) (fun r hr => ?_)
    have h32 : (⟨[32].toArray⟩ : ByteArray).size = 1 := rfl
    refine OK.bind (cat_ok (by have := hr.1; omega) ?_)
    have hz : ((⟨[32].toArray⟩ : ByteArray) ++ r).size = 1 + r.size := by rw [ByteArray.size_append, h32]
    refine OK.bind (cat_ok (by have := hr.1; omega) ?_)
    rw [ho p (by omega)]
    refine (ih fu _ (p + 1) (by omega) (by omega) (by rw [ByteArray.size_append]; have := hr.1; omega) ?_).mono (fun t ht => ⟨?_, ht.2⟩)
    · rw [app_list, app_list]
      refine nob_app hn (nob_app (fun b hb e => ?_) hr.2)
      subst e
      simp at hb
    · have := ht.1
      rw [ByteArray.size_append] at this
      have := hr.1
      omega
theorem lloop_fu {x : api_Entry} {o : ByteArray} (ho : ∀ p, p < o.size → runeEnd o p = p + 1) : ∀ (n fu fv : Nat) (s : ByteArray) (p : Nat), o.size = p + n → n < fu → n < fv → loop (trace_line_l1 x o) fu (s, p) = loop (trace_line_l1 x o) fv (s, p) := by
  intro n
  induction n with
  | zero =>
    intro fu fv s p hp h1 h2
    obtain ⟨fu, rfl⟩ : ∃ f, fu = f + 1 := ⟨fu - 1, by omega⟩
    obtain ⟨fv, rfl⟩ : ∃ f, fv = f + 1 := ⟨fv - 1, by omega⟩
    show trace_line_l1 x o (loop (trace_line_l1 x o) fu) (s, p) = trace_line_l1 x o (loop (trace_line_l1 x o) fv) (s, p)
    rw [lend (by omega), lend (by omega)]
  | succ n ih =>
    intro fu fv s p hp h1 h2
    obtain ⟨fu, rfl⟩ : ∃ f, fu = f + 1 := ⟨fu - 1, by omega⟩
    obtain ⟨fv, rfl⟩ : ∃ f, fv = f + 1 := ⟨fv - 1, by omega⟩
    show trace_line_l1 x o (loop (trace_line_l1 x o) fu) (s, p) = trace_line_l1 x o (loop (trace_line_l1 x o) fv) (s, p)
    rw [lstep (by omega), lstep (by omega), ho p (by omega)]
    cases trace_word x (runeAt o p) with
    | none => rfl
    | some r =>
      simp only [Option.bind_some]
      cases catB (⟨[32].toArray⟩) r with
      | none => rfl
      | some y =>
        simp only [Option.bind_some]
        cases catB s y with
        | none => rfl
        | some z => exact ih fu fv _ _ (by omega) (by omega) (by omega)
theorem line_fu {fu : Nat} (h : 30 ≤ fu) (x : api_Entry) : trace_line fu x = trace_line 1000 x := by
  obtain ⟨f, b, h1, h2, _⟩ := of_ok x.What
  obtain ⟨o, h3, h4, h5, _⟩ := h2.let_ x.Res.Out
  unfold trace_line
  rw [h1]
  simp only [Option.bind_some, h3]
  rw [lloop_fu h5 o.size fu 1000 _ 0 (by omega) (by omega) (by omega)]
theorem line_ok {x : api_Entry} (hx : wfE x) : ∃ l, trace_line 1000 x = some l ∧ l.size ≤ 500 ∧ NoB 10 l.data.toList := by
  obtain ⟨f, b, h1, h2, _⟩ := of_ok x.What
  obtain ⟨o, h3, h4, h5, h6⟩ := h2.let_ x.Res.Out
  have : OK (trace_line 1000 x) (fun l => l.size ≤ 500 ∧ NoB 10 l.data.toList) := by
    unfold trace_line
    rw [h1]
    simp only [Option.bind_some, h3]
    have hn := h2.name
    refine OK.bind2 (lloop hx h5 h6 o.size 1000 f.name 0 (by omega) (by omega) (by omega) hn.2) (fun r hr => OK.ret ⟨by have := hr.1; omega, hr.2⟩)
  obtain ⟨l, a, b⟩ := this
  exact ⟨l, a, b⟩
/-! ### Reading -/
theorem read_ok {x : api_Entry} (hx : wfE x) {c : Int} {w : ByteArray} (hw : w.size ≤ 1048576) : OK (trace_read x c w) (fun r => r.1 = true → wfE r.2 ∧ r.2.What = x.What) := by
  unfold trace_read
  refine OK.bind2 (R := fun b => b = false → 0 < w.size) ?_ (fun b hb => ?_)
  · refine OK.ite (fun _ => OK.ret (fun e => by cases e)) (fun e => ?_)
    have h0 : 0 < w.size := by
      rcases Nat.eq_zero_or_pos w.size with h | h
      · have : w = ByteArray.empty := by
          apply ba_ext
          rw [Lib.size_eq] at h
          exact List.length_eq_zero_iff.1 h
        rw [sEq_iff.2 this] at e
        cases e
      · exact h
    obtain ⟨d, hd⟩ := sidx_some (s := w) (i := 0) h0
    have hd : sidx w 0 = some d := hd
    rw [hd]
    exact OK.ret (fun _ => h0)
  refine OK.ite (fun _ => OK.ret (fun e => by cases e)) (fun e => ?_)
  obtain ⟨t, ht, htz⟩ := scut_tail (hb e)
  obtain ⟨vi, bi, hi, hir⟩ := parse_i t (by omega)
  obtain ⟨vu, bu, hu, hur⟩ := parse_u t (by omega)
  obtain ⟨a0, a1, a2, a3, a4, a5, a6, a7, a8, a9, b0, b1, b2, b3, c0, c2, c4, c5, d0, d1⟩ := hx
  have hx : wfE x := ⟨a0, a1, a2, a3, a4, a5, a6, a7, a8, a9, b0, b1, b2, b3, c0, c2, c4, c5, d0, d1⟩
  have nf : ∀ {b : Bool}, (!b) = true → b = false := fun {b} h => by cases b <;> simp at h ⊢
  have mods : ∀ (y : api_Entry), wfE y → y.What = x.What → i64 vi → (wfE ⟨y.What, y.Task, y.From, y.Cmd, y.Tag, y.Event, y.Hook, y.Prog, y.Version, y.Pc, y.Item, y.Res, y.Val, vi⟩) ∧
      (wfE ⟨y.What, y.Task, y.From, y.Cmd, y.Tag, y.Event, y.Hook, y.Prog, y.Version, y.Pc, ⟨y.Item.Map, vi, y.Item.Key, y.Item.Val⟩, y.Res, y.Val, y.E⟩) ∧
      (wfE ⟨y.What, y.Task, y.From, y.Cmd, y.Tag, y.Event, y.Hook, y.Prog, y.Version, y.Pc, y.Item, ⟨vi, y.Res.Found, y.Res.Val, y.Res.Out, y.Res.OutKey, y.Res.OutVal⟩, y.Val, y.E⟩) ∧
      (wfE ⟨y.What, y.Task, y.From, y.Cmd, y.Tag, y.Event, y.Hook, y.Prog, y.Version, y.Pc, y.Item, ⟨y.Res.E, (vi == 1), y.Res.Val, y.Res.Out, y.Res.OutKey, y.Res.OutVal⟩, y.Val, y.E⟩) := by
    intro y hy _ hv
    obtain ⟨a0, a1, a2, a3, a4, a5, a6, a7, a8, a9, b0, b1, b2, b3, c0, c2, c4, c5, d0, d1⟩ := hy
    exact ⟨⟨a0, a1, a2, a3, a4, a5, a6, a7, a8, a9, b0, b1, b2, b3, c0, c2, c4, c5, d0, hv⟩, ⟨a0, a1, a2, a3, a4, a5, a6, a7, a8, a9, b0, hv, b2, b3, c0, c2, c4, c5, d0, d1⟩,
      ⟨a0, a1, a2, a3, a4, a5, a6, a7, a8, a9, b0, b1, b2, b3, hv, c2, c4, c5, d0, d1⟩, ⟨a0, a1, a2, a3, a4, a5, a6, a7, a8, a9, b0, b1, b2, b3, c0, c2, c4, c5, d0, d1⟩⟩
  cases hq : wdK c with
  | some q =>
    refine OK.some_ ?_
    rw [ht]
    simp only [Option.bind_some, hu]
    refine OK.ret (fun e => ⟨puto_u hx hq (hur (nf e)), ?_⟩)
    rcases wdC hq with rfl | rfl | rfl | rfl | rfl | rfl <;> rfl
  | none =>
    refine OK.none_ ?_
    rw [ht]
    simp only [Option.bind_some, hi]
    cases hk : whK c with
    | none =>
      refine OK.none_ ?_
      refine OK.ite (fun _ => OK.ret (fun e => ⟨(mods x hx rfl (hir (nf e))).1, rfl⟩)) (fun _ => ?_)
      refine OK.ite (fun _ => OK.ret (fun e => ⟨(mods x hx rfl (hir (nf e))).2.1, rfl⟩)) (fun _ => ?_)
      refine OK.ite (fun _ => OK.ret (fun e => ⟨(mods x hx rfl (hir (nf e))).2.2.1, rfl⟩)) (fun _ => ?_)
      exact OK.ite (fun _ => OK.ret (fun e => ⟨(mods x hx rfl (hir (nf e))).2.2.2, rfl⟩)) (fun _ => OK.ret (fun e => ⟨hx, rfl⟩))
    | some q =>
      refine OK.some_ ?_
      have hw : (puto_api_Entry x q vi).What = x.What := by
        have hq := whC hk
        match q, hq with
        | 1, _ | 2, _ | 3, _ | 4, _ | 5, _ | 6, _ | 7, _ | 8, _ | 9, _ | 10, _ => rfl
        | 0, h => omega
        | n + 11, h => omega
      have hp : (!bi) = true → wfE (puto_api_Entry x q vi) := fun e => puto_i hx hk (hir (nf e))
      refine OK.ite (fun _ => OK.ret (fun e => ⟨(mods _ (hp e) hw (hir (nf e))).1, hw⟩)) (fun _ => ?_)
      refine OK.ite (fun _ => OK.ret (fun e => ⟨(mods _ (hp e) hw (hir (nf e))).2.1, hw⟩)) (fun _ => ?_)
      refine OK.ite (fun _ => OK.ret (fun e => ⟨(mods _ (hp e) hw (hir (nf e))).2.2.1, hw⟩)) (fun _ => ?_)
      exact OK.ite (fun _ => OK.ret (fun e => ⟨(mods _ (hp e) hw (hir (nf e))).2.2.2, hw⟩)) (fun _ => OK.ret (fun e => ⟨hp e, hw⟩))
end Go.Proofs.YtalllncanpcmfaaDoor
