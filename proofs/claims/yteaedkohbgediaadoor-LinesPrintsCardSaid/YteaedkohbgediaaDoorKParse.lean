/- Parse: a text is its lines. -/
import Derived.Test.YteaedkohbgediaaDoorKRead
set_option linter.unusedVariables false
set_option linter.unusedSimpArgs false
namespace Go.Proofs.YteaedkohbgediaaDoor
open Go.Sx

/-! ### Fuel -/
theorem order_out {k : Int} (h : k < 0 ∨ 22 < k) : lines_order k = some (⟨[100, 97, 115].toArray⟩) := by
  unfold lines_order
  have e : ∀ c : Int, 0 ≤ c → c ≤ 22 → (k == c) = false := by
    intro c h0 h1
    rw [beq_eq_false_iff_ne]
    omega
  simp [e 0 (by omega) (by omega), e 11 (by omega) (by omega), e 12 (by omega) (by omega), e 13 (by omega) (by omega), e 14 (by omega) (by omega), e 15 (by omega) (by omega), e 16 (by omega) (by omega), e 17 (by omega) (by omega),
    e 18 (by omega) (by omega), e 19 (by omega) (by omega), e 20 (by omega) (by omega), e 21 (by omega) (by omega), e 22 (by omega) (by omega)]
def okO (o : ByteArray) : Bool := decide (o.size ≤ 3) && (List.range o.size).all (fun p => runeEnd o p == p + 1 && (sidx o p == some (runeAt o p)))
theorem okO_all : ∀ k : Fin 23, (match lines_order ((k : Nat) : Int) with | some o => okO o | none => false) = true := by decide +kernel
theorem order_any (k : Int) : ∃ o, lines_order k = some o ∧ o.size ≤ 3 ∧ (∀ p, p < o.size → runeEnd o p = p + 1) ∧ ∀ p, p < o.size → sidx o p = some (runeAt o p) := by
  have fin : ∀ o, okO o = true → o.size ≤ 3 ∧ (∀ p, p < o.size → runeEnd o p = p + 1) ∧ ∀ p, p < o.size → sidx o p = some (runeAt o p) := by
    intro o h
    unfold okO at h
    simp only [Bool.and_eq_true, decide_eq_true_eq, List.all_eq_true, List.mem_range, beq_iff_eq] at h
    exact ⟨h.1, fun p hp => (h.2 p hp).1, fun p hp => (h.2 p hp).2⟩
  by_cases h : k < 0 ∨ 22 < k
  · exact ⟨_, order_out h, fin _ (by decide +kernel)⟩
  · obtain ⟨q, rfl⟩ := Int.eq_ofNat_of_zero_le (show 0 ≤ k by omega)
    have := okO_all ⟨q, by omega⟩
    simp only at this
    split at this
    · rename_i o ho
      exact ⟨o, ho, fin o this⟩
    · cases this
theorem loop_fu {x : api_Inst} {o : ByteArray} (ho : ∀ p, p < o.size → runeEnd o p = p + 1) : ∀ (n fu fv : Nat) (ws : List ByteArray) (p : Nat), o.size = p + n → n < fu → n < fv → loop (lines_line_l1 x o) fu (ws, p) = loop (lines_line_l1 x o) fv (ws, p) := by
  intro n
  induction n with
  | zero =>
    intro fu fv ws p hp h1 h2
    obtain ⟨fu, rfl⟩ : ∃ f, fu = f + 1 := ⟨fu - 1, by omega⟩
    obtain ⟨fv, rfl⟩ : ∃ f, fv = f + 1 := ⟨fv - 1, by omega⟩
    show lines_line_l1 x o (loop (lines_line_l1 x o) fu) (ws, p) = lines_line_l1 x o (loop (lines_line_l1 x o) fv) (ws, p)
    rw [line_end (by omega), line_end (by omega)]
  | succ n ih =>
    intro fu fv ws p hp h1 h2
    obtain ⟨fu, rfl⟩ : ∃ f, fu = f + 1 := ⟨fu - 1, by omega⟩
    obtain ⟨fv, rfl⟩ : ∃ f, fv = f + 1 := ⟨fv - 1, by omega⟩
    show lines_line_l1 x o (loop (lines_line_l1 x o) fu) (ws, p) = lines_line_l1 x o (loop (lines_line_l1 x o) fv) (ws, p)
    rw [line_step (by omega), line_step (by omega), ho p (by omega)]
    cases fieldW x (runeAt o p) with
    | none => rfl
    | some w =>
      cases room (ws.length + 1) 16 with
      | none => rfl
      | some u => exact ih fu fv _ _ (by omega) (by omega) (by omega)
theorem line_fu {fu : Nat} (h : 4 ≤ fu) (x : api_Inst) : lines_line fu x = lines_line 1000 x := by
  obtain ⟨o, h1, h2, h3, _⟩ := order_any x.Op
  unfold lines_line
  cases ops_Name x.Op with
  | none => rfl
  | some nm =>
    simp only [Option.bind_some, h1]
    rw [loop_fu h3 o.size fu 1000 [nm] 0 (by omega) (by omega) (by omega)]
theorem print_fu {fu : Nat} (h : 4 ≤ fu) (l : List api_Inst) : lines_Print fu l = lines_Print 1000 l := by
  have : lines_Print_l1 fu = lines_Print_l1 1000 := by
    funext p i again s
    unfold lines_Print_l1
    simp only [line_fu h]
  unfold lines_Print
  rw [this]
theorem read_fu {fu : Nat} (h : 4 ≤ fu) (s : ByteArray) : lines_read fu s = lines_read 1000 s := by
  unfold lines_read
  simp only [line_fu h]
theorem parseL_fu {fu : Nat} (h : 4 ≤ fu) : lines_Parse_l1 fu = lines_Parse_l1 1000 := by
  funext again s
  unfold lines_Parse_l1
  simp only [read_fu h]

/-! ### Texts -/
theorem catL_from (l : List ByteArray) : ∀ b : ByteArray, l.foldl (· ++ ·) b = b ++ catL l := by
  induction l with
  | nil => intro b; simp [catL]
  | cons a l ih =>
    intro b
    unfold catL
    rw [List.foldl_cons, List.foldl_cons, ih, ih (ByteArray.empty ++ a), ByteArray.empty_append, ByteArray.append_assoc]
theorem catL_cons (a : ByteArray) (l : List ByteArray) : catL (a :: l) = a ++ catL l := by
  conv => lhs; unfold catL
  rw [List.foldl_cons, catL_from, ByteArray.empty_append]
theorem catL_nil : catL [] = ByteArray.empty := rfl
theorem catL_app : ∀ (l m : List ByteArray), catL (l ++ m) = catL l ++ catL m
  | [], m => by rw [List.nil_append, catL_nil, ByteArray.empty_append]
  | a :: l, m => by rw [List.cons_append, catL_cons, catL_cons, catL_app l m, ByteArray.append_assoc]
theorem sEq_iff {a b : ByteArray} : sEq a b = true ↔ a = b := by
  unfold sEq
  rw [ByteArray.toList_eq, ByteArray.toList_eq, beq_iff_eq]
  exact ⟨ba_ext, fun h => by rw [h]⟩
theorem sNe_size {a : ByteArray} (h : 0 < a.size) : sNe a ByteArray.empty = true := by
  unfold sNe
  cases hs : sEq a ByteArray.empty with
  | false => rfl
  | true =>
    rw [sEq_iff.1 hs] at h
    exact absurd h (by decide)
theorem app_list (a b : ByteArray) : (a ++ b).data.toList = a.data.toList ++ b.data.toList := by rw [ByteArray.data_append, Array.toList_append]
theorem cut_hit {a r : ByteArray} (h : NoB 10 a.data.toList) (hz : (a ++ nl ++ r).size ≤ 9223372036854775806) : strings_Cut (a ++ nl ++ r) (⟨[10].toArray⟩) = some (a, r, true) := by
  have hd : (a ++ nl ++ r).data.toList = a.data.toList ++ 10 :: r.data.toList := by rw [app_list, app_list]; simp [nl]
  have hsz : (a ++ nl ++ r).size = a.size + 1 + r.size := by rw [ByteArray.size_append, ByteArray.size_append]; rfl
  have hi : stringslite_Index (a ++ nl ++ r) (⟨[10].toArray⟩) = some (a.size : Int) := by
    unfold stringslite_Index
    show some (Lib.indexByte (a ++ nl ++ r).data.toList 10) = _
    rw [hd, byte_hit h, Lib.size_eq]
  have e1 : scut (a ++ nl ++ r) 0 (a.size : Int) = some a := by
    unfold scut
    rw [if_pos (by omega)]
    refine congrArg some (ba_ext ?_)
    rw [Lib.extract_data, hd]
    show List.take ((a.size : Int).toNat - 0) (List.drop 0 (a.data.toList ++ 10 :: r.data.toList)) = a.data.toList
    rw [List.drop_zero, Nat.sub_zero, Int.toNat_natCast, Lib.size_eq, List.take_left]
  have e2 : scut (a ++ nl ++ r) (w64 ((a.size : Int) + ((⟨[10].toArray⟩ : ByteArray).size : Int))) ((a ++ nl ++ r).size : Int) = some r := by
    rw [show ((⟨[10].toArray⟩ : ByteArray).size : Int) = 1 from rfl, w64_eq (by omega) (by omega)]
    unfold scut
    rw [if_pos (by omega)]
    refine congrArg some (ba_ext ?_)
    rw [Lib.extract_data, hd, List.take_of_length_le (by rw [List.length_drop, ← hd, ← Lib.size_eq]; omega)]
    rw [show ((a.size : Int) + 1).toNat = a.data.toList.length + 1 by rw [← Lib.size_eq]; omega]
    exact drop_mid _ _ _
  unfold strings_Cut stringslite_Cut
  rw [hi]
  simp only [Option.bind_some]
  rw [if_pos (by simp), e1]
  simp only [Option.bind_some, e2]
theorem cut_miss {a : ByteArray} (h : NoB 10 a.data.toList) : strings_Cut a (⟨[10].toArray⟩) = some (a, ByteArray.empty, false) := by
  have hi : stringslite_Index a (⟨[10].toArray⟩) = some (-1) := by
    unfold stringslite_Index
    show some (Lib.indexByte a.data.toList 10) = _
    rw [byte_miss h]
  unfold strings_Cut stringslite_Cut
  rw [hi]
  rfl
def good (x : api_Inst) : Prop := rightB x = true ∧ immOk x
theorem lineT_size {x : api_Inst} (h : good x) : 0 < (lineT x).size ∧ (lineT x).size ≤ 40 := by
  obtain ⟨r, h1, h2, h3, h4⟩ := lineT_ok h.1 h.2
  rw [h2, ByteArray.size_append, show nl.size = 1 from rfl]
  omega
theorem parse_step {x : api_Inst} (hx : good x) {rest : ByteArray} {acc : List api_Inst} {n : Int} {again} (hz : (lineT x ++ rest).size ≤ 9223372036854775806) (ha : (acc.length + 1) * 40 ≤ 140737488355328) (h0 : 0 ≤ n) (h1 : n ≤ 9223372036854775806) :
    lines_Parse_l1 1000 again (lineT x ++ rest, acc, n) = again (rest, acc ++ [x], n + 1) := by
  obtain ⟨r, e1, e2, e3, e4⟩ := lineT_ok hx.1 hx.2
  have hs : 0 < (lineT x ++ rest).size := by
    have := (lineT_size hx).1
    rw [ByteArray.size_append]; omega
  unfold lines_Parse_l1
  rw [if_pos (sNe_size hs)]
  simp only
  rw [e2] at hz ⊢
  rw [cut_hit e4 hz]
  simp only [Option.bind_some]
  rw [read_line hx.1 hx.2 e1]
  simp only [Option.bind_some, Bool.not_true, Bool.or_self, Bool.false_eq_true, if_false]
  rw [show room (acc.length + [x].length) 40 = some () from by unfold room; rw [if_pos (by simpa using ha)]]
  simp only [Option.bind_some]
  rw [w64_eq (by omega) (by omega)]
theorem parse_loop : ∀ (xs : List api_Inst) (acc : List api_Inst) (n : Int) (fu : Nat) (rest : ByteArray), (∀ x ∈ xs, good x) → (acc.length + xs.length) * 40 ≤ 140737488355328 → 0 ≤ n → n + xs.length ≤ 9223372036854775806 → (catL (xs.map lineT) ++ rest).size ≤ 9223372036854775806 →
    loop (lines_Parse_l1 1000) (fu + xs.length) (catL (xs.map lineT) ++ rest, acc, n) = loop (lines_Parse_l1 1000) fu (rest, acc ++ xs, n + xs.length)
  | [], acc, n, fu, rest, _, _, _, _, _ => by
    simp [catL_nil]
  | x :: xs, acc, n, fu, rest, hg, ha, h0, h1, hz => by
    simp only [List.map_cons, catL_cons, ByteArray.append_assoc, List.length_cons] at hz ha h1 ⊢
    have hz2 : (catL (xs.map lineT) ++ rest).size ≤ 9223372036854775806 := by rw [ByteArray.size_append] at hz; omega
    show lines_Parse_l1 1000 (loop (lines_Parse_l1 1000) (fu + xs.length)) (lineT x ++ (catL (xs.map lineT) ++ rest), acc, n) = _
    rw [parse_step (hg x (List.mem_cons_self ..)) hz (by omega) h0 (by omega)]
    rw [parse_loop xs (acc ++ [x]) (n + 1) fu rest (fun y hy => hg y (List.mem_cons_of_mem _ hy)) (by simp; omega) (by omega) (by omega) hz2]
    rw [List.append_assoc, List.singleton_append]
    congr 3
    omega
theorem parse_end {acc : List api_Inst} {n : Int} {fu : Nat} : loop (lines_Parse_l1 1000) (fu + 1) (ByteArray.empty, acc, n) = some (.inl acc) := by
  show lines_Parse_l1 1000 (loop (lines_Parse_l1 1000) fu) (ByteArray.empty, acc, n) = _
  unfold lines_Parse_l1
  rw [if_neg (by rw [show sNe ByteArray.empty ByteArray.empty = false by decide +kernel]; decide)]
/-- PARSE OF PRINTED LINES -/
theorem parse_lines {xs : List api_Inst} {fu : Nat} (hg : ∀ x ∈ xs, good x) (hl : xs.length * 40 ≤ 140737488355328) (hf : xs.length + 4 ≤ fu) : lines_Parse fu (catL (xs.map lineT)) = some (xs, 0, 0) := by
  have hz : ∀ ys : List api_Inst, (∀ x ∈ ys, good x) → (catL (ys.map lineT)).size ≤ ys.length * 40 := by
    intro ys
    induction ys with
    | nil => intro _; exact Nat.le_refl _
    | cons y ys ih =>
      intro h
      have h1 := (lineT_size (h y (List.mem_cons_self ..))).2
      have h2 := ih (fun z hz => h z (List.mem_cons_of_mem _ hz))
      rw [List.map_cons, catL_cons, ByteArray.size_append, List.length_cons]
      omega
  obtain ⟨k, rfl⟩ : ∃ k, fu = k + 1 + xs.length := ⟨fu - 1 - xs.length, by omega⟩
  have := hz xs hg
  unfold lines_Parse
  rw [parseL_fu (by omega)]
  have h2 := parse_loop xs [] 1 (k + 1) ByteArray.empty hg (by simpa using hl) (by omega) (by omega) (by rw [ByteArray.append_empty]; omega)
  rw [ByteArray.append_empty] at h2
  rw [h2, parse_end]
  rfl
theorem awake_fu {fu : Nat} (h : 1000 ≤ fu) : tappetlaw03_awake fu = some true := by
  have h1 : lines_Print 1000 [api_Inst.mk 1 1 2 3 0] = some (⟨[97, 100, 100, 32, 114, 49, 32, 114, 50, 32, 114, 51, 10].toArray⟩, 0) := by decide +kernel
  have h2 : (⟨[106, 108, 116, 32, 114, 52, 32, 45, 49, 32, 50, 10].toArray⟩ : ByteArray) = catL ([api_Inst.mk 18 2 4 8 (-1)].map lineT) := by decide +kernel
  unfold tappetlaw03_awake
  rw [print_fu (by omega), h1, h2]
  simp only [Option.bind_some]
  rw [parse_lines (fun x hx => by rw [List.mem_singleton] at hx; subst hx; exact ⟨by decide +kernel, by unfold immOk; decide⟩) (by decide) (by simp; omega)]
  decide +kernel
theorem alike_refl (l : List api_Inst) : tappetlaw03_alike l l = some true := by
  refine OK.is ?_
  unfold tappetlaw03_alike
  refine OK.ite_false (by simp) ?_
  refine OK.bind2 (OK.count (Q := fun o => o = .inl ()) (fun i _ => True) trivial (fun i s again hi _ k => ?_) (fun s _ => rfl)) (fun o ho => by subst ho; exact OK.ret rfl)
  unfold tappetlaw03_alike_l1
  refine OK.bind (OK.getN hi (fun x hx => ?_))
  refine OK.bind (OK.getN hi (fun y hy => ?_))
  rw [hx] at hy
  cases hy
  refine OK.ite_false (by simp) (k _ trivial)
end Go.Proofs.YteaedkohbgediaaDoor
