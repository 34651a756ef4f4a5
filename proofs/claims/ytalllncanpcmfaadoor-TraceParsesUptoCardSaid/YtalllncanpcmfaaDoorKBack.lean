/- TraceBack: the plain law, for a bounded bulk. -/
import Derived.Test.YtalllncanpcmfaaDoorKParsed
set_option linter.unusedVariables false
set_option linter.unusedSimpArgs false
namespace Go.Proofs.YtalllncanpcmfaaDoor
open Go.Sx

def lineT (x : api_Entry) : ByteArray := ((trace_line 1000 x).getD ByteArray.empty) ++ nl
def good (x : api_Entry) : Prop := wfE x ∧ plainB x = true
theorem good_line {x : api_Entry} (h : good x) : ∃ l, trace_line 1000 x = some l ∧ lineT x = l ++ nl ∧ l.size ≤ 500 ∧ NoB 10 l.data.toList ∧ trace_parsed 1000 l = some (x, true) := by
  obtain ⟨l, h1, h2, h3, h4⟩ := (plain_eq h.1).2 h.2
  exact ⟨l, h1, by unfold lineT; rw [h1]; rfl, h2, h3, h4⟩
theorem plains_eq {l : List api_Entry} (hI : ∀ x ∈ l, wfE x) : trace_Plain 1000 l = some (l.all plainB) := by
  refine OK.is ?_
  unfold trace_Plain
  refine OK.bind2 (OK.count (Q := fun o => match o with | .inl _ => l.all plainB = true | .inr r => r = false ∧ l.all plainB = false) (fun i _ => (l.take i).all plainB = true) (by simp) (fun i s again hi hs k => ?_) (fun s hs => by simpa using hs)) (fun o ho => ?_)
  · unfold trace_Plain_l1
    refine OK.bind (OK.getN hi (fun x hx => ?_))
    have hmem := List.mem_of_getElem? hx
    rw [(plain_eq (hI x hmem)).1]
    simp only [Option.bind_some]
    have ht : l.take (i + 1) = l.take i ++ [x] := by rw [List.take_add_one, hx]; rfl
    refine OK.ite (fun h => OK.ret ⟨rfl, ?_⟩) (fun h => k _ ?_)
    · have h : plainB x = false := by simpa using h
      cases ha : l.all plainB with
      | false => rfl
      | true =>
        have := List.all_eq_true.1 ha x hmem
        rw [h] at this; cases this
    · have h : plainB x = true := by simpa using h
      rw [ht, List.all_append, hs]
      simp [h]
  · cases o with
    | inl _ => exact OK.ret (by simp only at ho; rw [ho])
    | inr r => exact OK.ret (by simp only at ho; rw [ho.1, ho.2])
theorem Print_eq {l : List api_Entry} (hl : l.length ≤ 1048576) (hI : ∀ x ∈ l, wfE x) : trace_Print 1000 l = some (if l.all plainB then (catL (l.map lineT), 0) else (ByteArray.empty, 12)) := by
  refine OK.is ?_
  unfold trace_Print
  rw [plains_eq hI]
  simp only [Option.bind_some]
  refine OK.ite (fun h => OK.ret ?_) (fun h => ?_)
  · have h : l.all plainB = false := by simpa using h
    rw [h]; rfl
  have h : l.all plainB = true := by simpa using h
  rw [h, if_pos rfl]
  have hall := List.all_eq_true.1 h
  refine OK.bind2 (OK.count (fun i s => s = catL ((l.take i).map lineT) ∧ s.size ≤ i * 501) ⟨rfl, by decide⟩ (fun i s again hi hs k => ?_) (fun s hs => hs)) (fun o ho => OK.ret (by rw [ho.1, List.take_length]))
  unfold trace_Print_l1
  refine OK.bind (OK.getN hi (fun x hx => ?_))
  have hmem := List.mem_of_getElem? hx
  obtain ⟨r, h1, h2, h3, h4, _⟩ := good_line ⟨hI x hmem, hall x hmem⟩
  rw [h1]
  simp only [Option.bind_some]
  have hsz : (r ++ nl).size = r.size + 1 := by rw [ByteArray.size_append]; rfl
  refine OK.bind (cat_ok (by show r.size + nl.size ≤ _; rw [show nl.size = 1 from rfl]; omega) ?_)
  show OK ((strings_Builder_WriteString s (r ++ nl)).bind again) _
  unfold strings_Builder_WriteString
  have hle : s.size + (r ++ nl).size ≤ 140737488355328 := by
    have := hs.2
    omega
  rw [if_pos hle]
  simp only [Option.bind_some]
  refine k _ ⟨?_, ?_⟩
  · rw [List.take_add_one, hx]
    simp only [Option.toList_some, List.map_append, List.map_cons, List.map_nil]
    rw [catL_snoc, ← hs.1, h2]
  · rw [ByteArray.size_append]
    have := hs.2
    omega
theorem plains_fu {fu : Nat} (h : 30 ≤ fu) (l : List api_Entry) : trace_Plain fu l = trace_Plain 1000 l := by
  have : trace_Plain_l1 fu = trace_Plain_l1 1000 := by
    funext p i again s
    unfold trace_Plain_l1
    simp only [plain_fu h]
  unfold trace_Plain
  rw [this]
theorem print_fu {fu : Nat} (h : 30 ≤ fu) (l : List api_Entry) : trace_Print fu l = trace_Print 1000 l := by
  have : trace_Print_l1 fu = trace_Print_l1 1000 := by
    funext p i again s
    unfold trace_Print_l1
    simp only [line_fu h]
  unfold trace_Print
  rw [this, plains_fu h]
theorem parseL_fu {fu : Nat} (h : 30 ≤ fu) : trace_Parse_l1 fu = trace_Parse_l1 1000 := by
  funext again s
  unfold trace_Parse_l1
  simp only [parsed_fu h]
/-! ### Parse -/
theorem lineT_size {x : api_Entry} (h : good x) : 0 < (lineT x).size ∧ (lineT x).size ≤ 501 := by
  obtain ⟨r, h1, h2, h3, _⟩ := good_line h
  rw [h2, ByteArray.size_append, show nl.size = 1 from rfl]
  omega
theorem parse_step {x : api_Entry} (hx : good x) {rest : ByteArray} {acc : List api_Entry} {n : Int} {again} (hz : (lineT x ++ rest).size ≤ 9223372036854775806) (ha : (acc.length + 1) * 176 ≤ 140737488355328) (h0 : 0 ≤ n) (h1 : n ≤ 9223372036854775806) :
    trace_Parse_l1 1000 again (lineT x ++ rest, acc, n) = again (rest, acc ++ [x], n + 1) := by
  obtain ⟨r, e1, e2, e3, e4, e5⟩ := good_line hx
  have hs : 0 < (lineT x ++ rest).size := by
    have := (lineT_size hx).1
    rw [ByteArray.size_append]; omega
  unfold trace_Parse_l1
  rw [if_pos (sNe_size hs)]
  simp only
  rw [e2] at hz ⊢
  rw [cut_hit e4 hz]
  simp only [Option.bind_some]
  rw [e5]
  simp only [Option.bind_some, Bool.not_true, Bool.or_self, Bool.false_eq_true, if_false]
  rw [show room (acc.length + [x].length) 176 = some () from by unfold room; rw [if_pos (by simpa using ha)]]
  simp only [Option.bind_some]
  rw [w64_eq (by omega) (by omega)]
theorem parse_loop : ∀ (xs : List api_Entry) (acc : List api_Entry) (n : Int) (fu : Nat) (rest : ByteArray), (∀ x ∈ xs, good x) → (acc.length + xs.length) * 176 ≤ 140737488355328 → 0 ≤ n → n + xs.length ≤ 9223372036854775806 → (catL (xs.map lineT) ++ rest).size ≤ 9223372036854775806 →
    loop (trace_Parse_l1 1000) (fu + xs.length) (catL (xs.map lineT) ++ rest, acc, n) = loop (trace_Parse_l1 1000) fu (rest, acc ++ xs, n + xs.length)
  | [], acc, n, fu, rest, _, _, _, _, _ => by
    simp [catL_nil]
  | x :: xs, acc, n, fu, rest, hg, ha, h0, h1, hz => by
    simp only [List.map_cons, catL_cons, ByteArray.append_assoc, List.length_cons] at hz ha h1 ⊢
    have hz2 : (catL (xs.map lineT) ++ rest).size ≤ 9223372036854775806 := by rw [ByteArray.size_append] at hz; omega
    show trace_Parse_l1 1000 (loop (trace_Parse_l1 1000) (fu + xs.length)) (lineT x ++ (catL (xs.map lineT) ++ rest), acc, n) = _
    rw [parse_step (hg x (List.mem_cons_self ..)) hz (by omega) h0 (by omega)]
    rw [parse_loop xs (acc ++ [x]) (n + 1) fu rest (fun y hy => hg y (List.mem_cons_of_mem _ hy)) (by simp; omega) (by omega) (by omega) hz2]
    rw [List.append_assoc, List.singleton_append]
    congr 3
    omega
theorem parse_end {acc : List api_Entry} {n : Int} {fu : Nat} : loop (trace_Parse_l1 1000) (fu + 1) (ByteArray.empty, acc, n) = some (.inl acc) := by
  show trace_Parse_l1 1000 (loop (trace_Parse_l1 1000) fu) (ByteArray.empty, acc, n) = _
  unfold trace_Parse_l1
  rw [if_neg (by rw [show sNe ByteArray.empty ByteArray.empty = false by decide +kernel]; decide)]
/-- a text whose first line is none -/
def Bad (s : ByteArray) : Prop := 0 < s.size ∧ ∀ again acc n, trace_Parse_l1 1000 again (s, acc, n) = some (.inr ([], n, 20))
theorem text_splits : ∀ (N : Nat) (s : ByteArray), s.size ≤ N → s.size ≤ 1048576 → ∃ (xs : List api_Entry) (rest : ByteArray), s = catL (xs.map lineT) ++ rest ∧ (∀ x ∈ xs, good x) ∧ xs.length ≤ s.size ∧ (rest = ByteArray.empty ∨ Bad rest)
  | N, s, hN, hs => by
    by_cases h0 : s.size = 0
    · have : s = ByteArray.empty := by
        apply ba_ext
        rw [Lib.size_eq] at h0
        exact List.length_eq_zero_iff.1 h0
      subst this
      exact ⟨[], ByteArray.empty, rfl, (fun x hx => by cases hx), Nat.zero_le _, Or.inl rfl⟩
    · rcases first_byte 10 s.data.toList with h | ⟨a, r, h, ha⟩
      · refine ⟨[], s, by rw [List.map_nil, catL_nil, ByteArray.empty_append], (fun x hx => by cases hx), Nat.zero_le _, .inr ⟨by omega, fun again acc n => ?_⟩⟩
        obtain ⟨i, b, hr, _⟩ := parsed_total hs
        unfold trace_Parse_l1
        rw [if_pos (sNe_size (a := s) (by omega))]
        simp only
        rw [cut_miss h]
        simp only [Option.bind_some, hr, Bool.not_false, Bool.true_or, if_true]
      · have es : s = ⟨a.toArray⟩ ++ nl ++ ⟨r.toArray⟩ := by
          apply ba_ext
          rw [app_list, app_list, h]
          simp [nl]
        have hsz : s.size = a.length + 1 + r.length := by rw [Lib.size_eq, h]; simp; omega
        have hA : (⟨a.toArray⟩ : ByteArray).size = a.length := by rw [Lib.size_eq]
        have hR : (⟨r.toArray⟩ : ByteArray).size = r.length := by rw [Lib.size_eq]
        obtain ⟨x, b, hr, _⟩ := parsed_total (s := ⟨a.toArray⟩) (by omega)
        cases b with
        | false =>
          refine ⟨[], s, by rw [List.map_nil, catL_nil, ByteArray.empty_append], (fun x hx => by cases hx), Nat.zero_le _, .inr ⟨by omega, fun again acc n => ?_⟩⟩
          unfold trace_Parse_l1
          rw [if_pos (sNe_size (a := s) (by omega))]
          simp only
          rw [es, cut_hit (by simpa using ha) (by rw [← es]; omega)]
          simp only [Option.bind_some, hr, Bool.not_true, Bool.not_false, Bool.or_true, if_true]
        | true =>
          obtain ⟨hw, hp, hl⟩ := plain_of (by omega) hr
          cases N with
          | zero => omega
          | succ N =>
            obtain ⟨xs, rest, h1, h2, h3, h4⟩ := text_splits N ⟨r.toArray⟩ (by omega) (by omega)
            have hT : lineT x = ⟨a.toArray⟩ ++ nl := by unfold lineT; rw [hl]; rfl
            refine ⟨x :: xs, rest, ?_, ?_, ?_, h4⟩
            · rw [List.map_cons, catL_cons, hT, ByteArray.append_assoc, ← h1]
              exact es
            · intro y hy
              rcases List.mem_cons.1 hy with rfl | hy
              · exact ⟨hw, hp⟩
              · exact h2 y hy
            · rw [List.length_cons]
              omega
theorem catL_small {ys : List api_Entry} (h : ∀ x ∈ ys, good x) : (catL (ys.map lineT)).size ≤ ys.length * 501 := by
  induction ys with
  | nil => exact Nat.le_refl _
  | cons y ys ih =>
    have h1 := (lineT_size (h y (List.mem_cons_self ..))).2
    have h2 := ih (fun z hz => h z (List.mem_cons_of_mem _ hz))
    rw [List.map_cons, catL_cons, ByteArray.size_append, List.length_cons]
    omega
theorem parse_text {xs : List api_Entry} {rest : ByteArray} {fu : Nat} (hg : ∀ x ∈ xs, good x) (hb : rest = ByteArray.empty ∨ Bad rest) (hz : rest.size ≤ 1048576) (hl : xs.length ≤ 4294967296) (hf : xs.length + 30 ≤ fu) :
    (rest = ByteArray.empty ∧ trace_Parse fu (catL (xs.map lineT) ++ rest) = some (xs, 0, 0)) ∨ (rest ≠ ByteArray.empty ∧ trace_Parse fu (catL (xs.map lineT) ++ rest) = some ([], (xs.length : Int) + 1, 20)) := by
  obtain ⟨k, rfl⟩ : ∃ k, fu = k + 1 + xs.length := ⟨fu - 1 - xs.length, by omega⟩
  have hcs := catL_small hg
  have h2 := parse_loop xs [] 1 (k + 1) rest hg (by simp; omega) (by omega) (by omega) (by rw [ByteArray.size_append]; omega)
  rcases hb with rfl | hb
  · refine .inl ⟨rfl, ?_⟩
    unfold trace_Parse
    rw [parseL_fu (by omega), h2, parse_end]
    rfl
  · refine .inr ⟨fun e => ?_, ?_⟩
    · have := hb.1
      rw [e] at this
      exact absurd this (by decide)
    · unfold trace_Parse
      rw [parseL_fu (by omega), h2]
      show (trace_Parse_l1 1000 (loop (trace_Parse_l1 1000) k) (rest, [] ++ xs, 1 + (xs.length : Int))).bind _ = _
      rw [hb.2]
      simp only [Option.bind_some]
      rw [Int.add_comm]
theorem logs_refl (l : List api_Entry) : tappetlaw26_logs l l = some true := by
  refine OK.is ?_
  unfold tappetlaw26_logs
  refine OK.ite_false (by simp) ?_
  refine OK.bind2 (OK.count (Q := fun o => o = .inl ()) (fun i _ => True) trivial (fun i s again hi _ k => ?_) (fun s _ => rfl)) (fun o ho => by subst ho; exact OK.ret rfl)
  unfold tappetlaw26_logs_l1
  refine OK.bind (OK.getN hi (fun x hx => ?_))
  refine OK.bind (OK.getN hi (fun y hy => ?_))
  rw [hx] at hy
  cases hy
  refine OK.ite_false (by rw [ent_refl]; rfl) (k _ trivial)
theorem awake_fu {fu : Nat} (h : 1000 ≤ fu) : tappetlaw26_awake fu = some true := by
  let a1 : api_Entry := ⟨1, 0, 0, 2, 0, 0, 0, 0, 0, 0, ⟨0, 0, 0, 0⟩, ⟨0, false, 0, false, 0, 0⟩, 0, 0⟩
  let a2 : api_Entry := ⟨2, 1, 0, 0, 0, 0, 0, 0, 0, 0, ⟨0, 0, 0, 0⟩, ⟨0, false, 0, false, 0, 0⟩, 0, 40⟩
  let a3 : api_Entry := ⟨17, 2, 0, 0, 0, 7, 0, 1, 3, 4, ⟨0, 0, 0, 0⟩, ⟨0, false, 0, true, 8, 2⟩, 0, 0⟩
  have h1 : trace_Print 1000 [a1, a2] = some (⟨[99, 97, 108, 108, 32, 116, 48, 32, 99, 50, 10, 114, 101, 116, 117, 114, 110, 32, 116, 49, 32, 99, 48, 32, 120, 52, 48, 32, 110, 48, 10].toArray⟩, 0) := by decide +kernel
  have h2 : (⟨[98, 97, 99, 107, 32, 116, 50, 32, 101, 55, 32, 112, 49, 32, 118, 51, 32, 97, 52, 32, 121, 48, 32, 98, 48, 32, 114, 48, 32, 79, 56, 32, 86, 50, 10].toArray⟩ : ByteArray) = catL ([a3].map lineT) := by decide +kernel
  have g3 : good a3 := ⟨by constructor <;> (first | exact i64_0 | exact u64_0 | (constructor <;> decide)), by decide +kernel⟩
  unfold tappetlaw26_awake
  rw [print_fu (by omega), h1, h2]
  simp only [Option.bind_some]
  have hp := parse_text (xs := [a3]) (rest := ByteArray.empty) (fu := fu) (fun x hx => by rw [List.mem_singleton] at hx; subst hx; exact g3) (.inl rfl) (by decide) (by decide) (by simp; omega)
  rcases hp with ⟨_, hp⟩ | ⟨hp, _⟩
  · rw [ByteArray.append_empty] at hp
    rw [hp]
    decide +kernel
  · exact absurd rfl hp
theorem traceBack_law (p0 : List api_Entry) (p1 : ByteArray) (hl : p0.length ≤ 1048576) (hI : ∀ x ∈ p0, wfE x) (hs : p1.size ≤ 1048575) : tappetlaw26_TraceBack (p0.length + p1.size + 1000) p0 p1 = some true := by
  have sne : ∀ a : ByteArray, sNe a a = false := fun a => by unfold sNe; rw [sEq_iff.2 rfl]; rfl
  obtain ⟨ks, rest, e1, hg, hkl, hr⟩ := text_splits p1.size p1 (Nat.le_refl _) (by omega)
  have hrz : rest.size ≤ 1048576 := by
    have : p1.size = (catL (ks.map lineT)).size + rest.size := by conv => lhs; rw [e1, ByteArray.size_append]
    omega
  have key : ∃ (t : ByteArray) (e : Int) (l : List api_Entry), trace_Print 1000 p0 = some (t, e) ∧ t = catL (l.map lineT) ∧ (∀ x ∈ l, good x) ∧ l.length ≤ p0.length ∧ ((e = 0 ∧ l = p0) ∨ (e = 12 ∧ t = ByteArray.empty ∧ l = [] ∧ trace_Plain 1000 p0 = some false)) := by
    rw [Print_eq hl hI]
    cases ha : p0.all plainB with
    | true =>
      have hall := List.all_eq_true.1 ha
      exact ⟨_, _, p0, rfl, rfl, fun x hx => ⟨hI x hx, hall x hx⟩, Nat.le_refl _, .inl ⟨rfl, rfl⟩⟩
    | false => exact ⟨_, _, [], rfl, rfl, (fun x hx => by cases hx), Nat.zero_le _, .inr ⟨rfl, rfl, rfl, by rw [plains_eq hI, ha]⟩⟩
  obtain ⟨t, e, l, h1, h2, h3, h4, h5⟩ := key
  have htz : t.size ≤ p0.length * 501 := by
    rw [h2]
    exact Nat.le_trans (catL_small h3) (Nat.mul_le_mul_right _ h4)
  have hpt : trace_Parse (p0.length + p1.size + 1000) t = some (l, 0, 0) := by
    rcases parse_text (xs := l) (rest := ByteArray.empty) (fu := p0.length + p1.size + 1000) h3 (.inl rfl) (by decide) (by omega) (by omega) with ⟨_, hp⟩ | ⟨hp, _⟩
    · rw [ByteArray.append_empty] at hp
      rw [h2]
      exact hp
    · exact absurd rfl hp
  have hps := parse_text hg hr hrz (by omega) (show ks.length + 30 ≤ p0.length + p1.size + 1000 by omega)
  rw [← e1] at hps
  have e3 : t ++ p1 = catL ((l ++ ks).map lineT) ++ rest := by
    rw [List.map_append, catL_app, ← h2]
    conv => lhs; rw [e1]
    rw [ByteArray.append_assoc]
  have hg3 : ∀ x ∈ l ++ ks, good x := fun x hx => (List.mem_append.1 hx).elim (h3 x) (hg x)
  have hpj := parse_text hg3 hr hrz (by simp; omega) (show (l ++ ks).length + 30 ≤ p0.length + p1.size + 1000 by simp; omega)
  rw [← e3] at hpj
  refine OK.is ?_
  unfold tappetlaw26_TraceBack
  rw [awake_fu (by omega)]
  simp only [Option.bind_some]
  refine OK.ite_false rfl ?_
  rw [print_fu (by omega), h1]
  simp only [Option.bind_some, hpt]
  refine OK.bind2 (R := fun o => o = false) ?_ (fun o ho => ?_)
  · refine OK.ite_false (by simp) (OK.ite_false (by simp) ?_)
    rcases h5 with ⟨rfl, rfl⟩ | ⟨rfl, rfl, rfl, hpl⟩
    · refine OK.ite_true (by simp) ?_
      rw [logs_refl]
      simp only [Option.bind_some]
      exact OK.ite_false rfl (OK.ite_false (by simp) (OK.ret rfl))
    · refine OK.ite_false (by simp) (OK.ite_true (by simp) (OK.ite_false (sne _) ?_))
      rw [plains_fu (by omega), hpl]
      exact OK.ret rfl
  subst ho
  refine OK.ite_false rfl ?_
  have hcat : ∀ {Q : ByteArray → Prop}, Q (t ++ p1) → OK (catB t p1) Q := fun h => cat_ok (by omega) h
  rcases hps with ⟨r1, r2⟩ | ⟨r1, r2⟩
  · rw [r2]
    simp only [Option.bind_some]
    refine OK.ite_false (by simp) ?_
    have hall : ks.all plainB = true := List.all_eq_true.2 (fun x hx => (hg x hx).2)
    rw [print_fu (by omega), Print_eq (by omega) (fun x hx => (hg x hx).1), hall]
    simp only [if_true, Option.bind_some]
    refine OK.bind (hcat ?_)
    rcases hpj with ⟨_, hj⟩ | ⟨hj, _⟩
    · rw [hj]
      simp only [Option.bind_some]
      refine OK.bind2 (R := fun o => o = true) ?_ (fun o ho => OK.ret ho)
      refine OK.ite_true (by simp) (OK.ite_true ?_ (OK.ite_true (by simp) ?_))
      · rw [sEq_iff]
        conv => rhs; rw [e1, r1, ByteArray.append_empty]
      · refine OK.bind (OK.hasRoom (by simp; omega) (OK.bind (OK.hasRoom (by simp; omega) ?_)))
        rw [List.nil_append, logs_refl]
        exact OK.ret rfl
    · exact absurd r1 hj
  · rw [r2]
    simp only [Option.bind_some]
    refine OK.ite_true (by simp) ?_
    refine OK.bind (hcat ?_)
    rcases hpj with ⟨hj, _⟩ | ⟨_, hj⟩
    · exact absurd hj r1
    · rw [hj]
      simp only [Option.bind_some]
      refine OK.ret ?_
      rw [w64_eq (by omega) (by omega)]
      simp
      omega
end Go.Proofs.YtalllncanpcmfaaDoor
