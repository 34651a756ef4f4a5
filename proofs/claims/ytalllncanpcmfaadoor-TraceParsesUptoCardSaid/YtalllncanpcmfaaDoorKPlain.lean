/- What a line is read as: the entry with the fields that its mark does not show made zero. What is plain: the program's answer and the reference's. -/
import Derived.Test.YtalllncanpcmfaaDoorKRef
import Derived.Test.YtalllncanpcmfaaDoorKBack
set_option linter.unusedVariables false
set_option linter.unusedSimpArgs false
namespace Go.Proofs.YtalllncanpcmfaaDoor
open Go.Sx

/-! ### Reading a word -/
theorem head_of {x : api_Entry} {c : Int} (hc : Let20 c) : sidx (fW x c) 0 = some c := by
  have hr := let_range hc
  have h : (fW x c).data.toList[0]? = some (UInt8.ofNat c.toNat) := rfl
  have := sidx_eq h
  rw [show ((0 : Nat) : Int) = 0 from rfl] at this
  rw [this, UInt8.toNat_ofNat', Nat.mod_eq_of_lt (by omega)]
  congr 1
  omega
theorem tail_of {x : api_Entry} {c : Int} : scut (fW x c) 1 ((fW x c).size : Int) = some ⟨(if wide c then Lib.decDigits (fld x c).toNat else Lib.itoa (fld x c)).toArray⟩ := by
  have hz : 1 ≤ (fW x c).size := by
    rw [Lib.size_eq]
    show 1 ≤ (fTxt x c).length
    unfold fTxt
    rw [List.length_cons]
    omega
  unfold scut
  rw [if_pos (by omega)]
  refine congrArg some (ba_ext ?_)
  rw [Lib.extract_data, Int.toNat_natCast]
  show List.take ((fW x c).size - 1) (List.drop 1 (fTxt x c)) = _
  rw [Lib.size_eq]
  show List.take ((fTxt x c).length - 1) (List.drop 1 (fTxt x c)) = _
  unfold fTxt
  simp
theorem parse_u_of {n : Int} (h : u64 n) : strconv_ParseUint ⟨(Lib.decDigits n.toNat).toArray⟩ 10 64 = some (n, false) := by
  have hn : n.toNat ≤ 18446744073709551615 := by have := h.1; have := h.2; omega
  have h20 := Lib.nDigits_le20 n.toNat (by omega)
  have hl : (⟨(Lib.decDigits n.toNat).toArray⟩ : ByteArray).size ≤ 20 := by rw [Lib.size_eq]; simp only [List.toList_toArray]; rw [Lib.decDigits_length]; exact h20
  have hd := dec_digits n.toNat
  have hp := parse_digits (M := 18446744073709551615) (Nat.le_refl _) (Lib.decDigits n.toNat) 0 hd.1 (by rw [hd.2.1]; exact hn)
  unfold strconv_ParseUint
  rw [if_pos ⟨rfl, rfl, by omega⟩]
  have hb : Lib.parseUintB 64 (Lib.decDigits n.toNat) = .ok n.toNat := by
    unfold Lib.parseUintB
    cases hdd : Lib.decDigits n.toNat with
    | nil => exact absurd hdd hd.2.2
    | cons a r =>
      rw [hd.2.1, hdd] at hp
      exact hp
  simp only [hb]
  rw [show ((n.toNat : Nat) : Int) = n by have := h.1; omega]
theorem parse_i_of {n : Int} (h : i64 n) : strconv_ParseInt ⟨(Lib.itoa n).toArray⟩ 10 64 = some (n, false) := by
  have hl := Lib.itoa_length_le n h.1 h.2
  have hz : (⟨(Lib.itoa n).toArray⟩ : ByteArray).size ≤ 21 := by rw [Lib.size_eq]; simp only [List.toList_toArray]; omega
  unfold strconv_ParseInt
  rw [if_pos ⟨rfl, rfl, by omega⟩]
  have hb := parse_itoa h.1 h.2
  simp only [hb]
theorem read_eq {x e : api_Entry} (h : wfE x) {c : Int} (hc : Let20 c) : trace_read e c (fW x c) = some (true, setf e c (fld x c)) := by
  have hr := let_range hc
  unfold trace_read
  have hz := (fW_size h hc).2
  have h1 : sEq (fW x c) ByteArray.empty = false := by
    cases hs : sEq (fW x c) ByteArray.empty with
    | false => rfl
    | true =>
      rw [sEq_iff.1 hs] at hz
      exact absurd hz (by decide)
  rw [h1]
  simp only [Bool.false_eq_true, if_false]
  rw [head_of hc]
  simp only [Option.bind_some]
  have hw32 : IntKind.i32.wrap c = c := by
    rw [IntKind.wrap_i32]
    omega
  rw [hw32, if_neg (by simp), tail_of]
  simp only [Option.bind_some]
  cases hw : wide c with
  | true =>
    simp only [if_true]
    rw [parse_u_of (fld_wide h hc hw)]
    simp only [Option.bind_some]
    cases hc <;> first | rfl | exact absurd hw (by decide)
  | false =>
    simp only [Bool.false_eq_true, if_false]
    rw [parse_i_of (fld_int h hc hw)]
    simp only [Option.bind_some]
    cases hc <;> first | rfl | exact absurd hw (by decide)
/-! ### Filling in -/
def fill (x : api_Entry) (e : api_Entry) (l : List Int) : api_Entry := l.foldl (fun e c => setf e c (fld x c)) e
theorem fill_cons (x e : api_Entry) (c : Int) (l : List Int) : fill x e (c :: l) = fill x (setf e c (fld x c)) l := rfl
theorem fld_bit (x : api_Entry) : fld x 98 = 0 ∨ fld x 98 = 1 := by
  show (if x.Res.Found then (1 : Int) else 0) = 0 ∨ (if x.Res.Found then (1 : Int) else 0) = 1
  cases x.Res.Found
  · exact .inl rfl
  · exact .inr rfl
theorem fill_fld {x : api_Entry} {d : Int} (hd : Let20 d) : ∀ (l : List Int) (e : api_Entry), (∀ c ∈ l, Let20 c) → fld (fill x e l) d = if d ∈ l then fld x d else fld e d
  | [], e, _ => by simp [fill]
  | c :: l, e, hl => by
    rw [fill_cons, fill_fld hd l _ (fun y hy => hl y (List.mem_cons_of_mem _ hy)), fld_set (hl c (List.mem_cons_self ..)) hd (fun e => by subst e; exact fld_bit x)]
    by_cases h1 : d ∈ l
    · rw [if_pos h1, if_pos (List.mem_cons_of_mem _ h1)]
    · by_cases h2 : d = c
      · subst h2; simp [h1]
      · rw [if_neg h1, if_neg h2, if_neg (by simp [h1, h2])]
theorem fill_what {x : api_Entry} : ∀ (l : List Int) (e : api_Entry), (∀ c ∈ l, Let20 c) → (fill x e l).What = e.What ∧ (fill x e l).Res.Out = e.Res.Out
  | [], e, _ => ⟨rfl, rfl⟩
  | c :: l, e, hl => by
    have h := fill_what (x := x) l (setf e c (fld x c)) (fun y hy => hl y (List.mem_cons_of_mem _ hy))
    have h2 := setf_what (e := e) (v := fld x c) (hl c (List.mem_cons_self ..))
    rw [fill_cons]
    exact ⟨h.1.trans h2.1, h.2.trans h2.2⟩
theorem fill_wf {x : api_Entry} (hx : wfE x) : ∀ (l : List Int) (e : api_Entry), (∀ c ∈ l, Let20 c) → wfE e → wfE (fill x e l)
  | [], e, _, h => h
  | c :: l, e, hl, h => by
    have hc := hl c (List.mem_cons_self ..)
    rw [fill_cons]
    exact fill_wf hx l _ (fun y hy => hl y (List.mem_cons_of_mem _ hy)) (setf_wf h hc (fld_wide hx hc) (fld_int hx hc))
def zeroE (m : Int) (out : Bool) : api_Entry := ⟨m, 0, 0, 0, 0, 0, 0, 0, 0, 0, ⟨0, 0, 0, 0⟩, ⟨0, false, 0, out, 0, 0⟩, 0, 0⟩
theorem zero_fld (m : Int) (out : Bool) {c : Int} (hc : Let20 c) : fld (zeroE m out) c = 0 := by cases hc <;> rfl
theorem zero_wf {m : Int} (h0 : 1 ≤ m) (h1 : m ≤ 17) (out : Bool) : wfE (zeroE m out) :=
  ⟨⟨by show _ ≤ m; omega, by show m ≤ _; omega⟩, i64_0, i64_0, i64_0, i64_0, i64_0, i64_0, i64_0, i64_0, i64_0, i64_0, i64_0, u64_0, u64_0, i64_0, u64_0, u64_0, u64_0, u64_0, i64_0⟩
def restr (x : api_Entry) : api_Entry := fill x (zeroE x.What (x.Res.Out && hasR x.What)) (chs x.What x.Res.Out)
theorem chs_out {m : Int} (h0 : 1 ≤ m) (h1 : m ≤ 17) (out : Bool) : chs m (out && hasR m) = chs m out := by
  obtain ⟨f, T⟩ := tab h0 h1
  cases hh : hasR m with
  | true => rw [Bool.and_true]
  | false =>
    rw [Bool.and_false]
    cases out with
    | false => rfl
    | true => unfold chs; rw [T.same hh]
theorem lineB_eq {x y : api_Entry} (h0 : x.What = y.What) (h1 : chs x.What x.Res.Out = chs y.What y.Res.Out) (h : ∀ c ∈ chs x.What x.Res.Out, fld x c = fld y c) : lineB x = lineB y := by
  unfold lineB wds
  rw [← h0] at h1 ⊢
  rw [← h1]
  congr 4
  refine List.map_congr_left (fun c hc => ?_)
  unfold fW fTxt
  rw [h c hc]
structure Rest (x : api_Entry) : Prop where
  wf : wfE (restr x)
  what : (restr x).What = x.What
  out : (restr x).Res.Out = (x.Res.Out && hasR x.What)
  fld : ∀ c, Let20 c → fld (restr x) c = if c ∈ chs x.What x.Res.Out then fld x c else 0
  line : lineB (restr x) = lineB x
theorem rest_is {x : api_Entry} (hx : wfE x) (h0 : 1 ≤ x.What) (h1 : x.What ≤ 17) : Rest x := by
  obtain ⟨f, T⟩ := tab h0 h1
  have O := T.o x.Res.Out
  have hw := fill_what (x := x) (chs x.What x.Res.Out) (zeroE x.What (x.Res.Out && hasR x.What)) O.all
  have hf : ∀ c, Let20 c → fld (restr x) c = if c ∈ chs x.What x.Res.Out then fld x c else 0 := fun c hc => by
    have := fill_fld (x := x) hc (chs x.What x.Res.Out) (zeroE x.What (x.Res.Out && hasR x.What)) O.all
    rw [zero_fld _ _ hc] at this
    exact this
  refine ⟨fill_wf hx _ _ O.all (zero_wf h0 h1 _), hw.1, hw.2, hf, ?_⟩
  have e1 : (restr x).What = x.What := hw.1
  have e2 : (restr x).Res.Out = (x.Res.Out && hasR x.What) := hw.2
  refine (lineB_eq (x := x) (y := restr x) e1.symm ?_ (fun c hc => ?_)).symm
  · rw [e1, e2, chs_out h0 h1]
  · rw [hf c (O.all c hc), if_pos hc]
/-! ### Reading a line -/
theorem pl_loop {x : api_Entry} (hx : wfE x) {ws : List ByteArray} {e0 : api_Entry} {o : ByteArray} (hz : o.size ≤ 20) (hws : ∀ p, p < o.size → ∃ c, (bytesOf o)[p]? = some c ∧ ws[p + 1]? = some (fW x c))
    (hat : ∀ p, p < o.size → some (runeAt o p) = (bytesOf o)[p]?) (hend : ∀ p, p < o.size → runeEnd o p = p + 1) (hall : ∀ c ∈ bytesOf o, Let20 c) : ∀ (n fu : Nat) (e : api_Entry) (p : Nat), o.size = p + n → n < fu →
    loop (trace_parsed_l1 ws (e0, o)) fu (e, p) = some (.inl (fill x e ((bytesOf o).drop p))) := by
  intro n
  induction n with
  | zero =>
    intro fu e p hp hf
    obtain ⟨fu, rfl⟩ : ∃ f, fu = f + 1 := ⟨fu - 1, by omega⟩
    show trace_parsed_l1 ws (e0, o) (loop (trace_parsed_l1 ws (e0, o)) fu) (e, p) = _
    unfold trace_parsed_l1
    rw [if_neg (by simp; omega), List.drop_of_length_le (by rw [bytesOf_len]; omega)]
    rfl
  | succ n ih =>
    intro fu e p hp hf
    obtain ⟨fu, rfl⟩ : ∃ f, fu = f + 1 := ⟨fu - 1, by omega⟩
    have ih' := ih fu
    show trace_parsed_l1 ws (e0, o) (loop (trace_parsed_l1 ws (e0, o)) fu) (e, p) = _
    generalize loop (trace_parsed_l1 ws (e0, o)) fu = K at ih'
    obtain ⟨c, hc, hw⟩ := hws p (by omega)
    have hL := hall _ (List.mem_of_getElem? hc)
    have hr : runeAt o p = c := by
      have := hat p (by omega)
      rw [hc] at this
      exact Option.some.inj this
    unfold trace_parsed_l1
    have hi : idx ws (w64 ((p : Int) + 1)) = some (fW x c) := by
      rw [w64_eq (by omega) (by omega)]
      unfold idx
      rw [if_pos (by omega), show ((p : Int) + 1).toNat = p + 1 by omega]
      exact hw
    rw [if_pos (by simp; omega), hi]
    simp only [Option.bind_some, hr]
    rw [read_eq hx hL]
    simp only [Option.bind_some, Bool.not_true, Bool.false_eq_true, if_false]
    rw [hend p (by omega), ih' _ (p + 1) (by omega) (by omega)]
    have hd : (bytesOf o).drop p = c :: (bytesOf o).drop (p + 1) := by
      have := List.getElem?_eq_some_iff.1 hc
      obtain ⟨hlt, he⟩ := this
      rw [← he, List.getElem_cons_drop]
    rw [hd, fill_cons]
theorem line_words {x : api_Entry} (hx : wfE x) (h0 : 1 ≤ x.What) (h1 : x.What ≤ 17) : (lineB x).data.toList = (nm x.What).data.toList ++ rest32 ((chs x.What x.Res.Out).map (fW x)) ∧ NoB 32 (nm x.What).data.toList ∧ (∀ w ∈ (chs x.What x.Res.Out).map (fW x), NoB 32 w.data.toList) ∧ (lineB x).size ≤ 500 := by
  obtain ⟨f, T⟩ := tab h0 h1
  have O := T.o x.Res.Out
  refine ⟨?_, T.sp, fun w hw => ?_, ?_⟩
  · unfold lineB wds
    rw [app_list]
  · obtain ⟨c, hc, rfl⟩ := List.mem_map.1 hw
    intro b hb e
    have := fTxt_bytes (x := x) (O.all c hc) b hb
    subst e
    exact absurd this.1 (by decide)
  · have := wds_size hx O.all
    have hz := O.size
    have hn := T.size
    rw [chs_len] at this
    unfold lineB
    rw [ByteArray.size_append]
    omega
/-- A LINE READ -/
theorem parsed_line {x : api_Entry} (hx : wfE x) (h0 : 1 ≤ x.What) (h1 : x.What ≤ 17) : trace_parsed 1000 (lineB x) = some (restr x, true) := by
  obtain ⟨f, T⟩ := tab h0 h1
  have O := T.o x.Res.Out
  have R := rest_is hx h0 h1
  obtain ⟨q1, q2, q3, q4⟩ := line_words hx h0 h1
  have hsp : strings_Split (lineB x) (⟨[32].toArray⟩) = some (nm x.What :: (chs x.What x.Res.Out).map (fW x)) := by
    unfold strings_Split
    rw [if_pos ⟨by omega, by decide⟩]
    exact congrArg some (split_words q1 q2 q3)
  have hlen : (nm x.What :: (chs x.What x.Res.Out).map (fW x)).length = (ltr x.What x.Res.Out).size + 1 := by rw [List.length_cons, List.length_map, chs_len]
  have hO := O.size
  have hOf := (T.o false).size
  have hmore := T.more
  unfold trace_parsed
  rw [hsp]
  simp only [Option.bind_some]
  rw [show idx (nm x.What :: (chs x.What x.Res.Out).map (fW x)) 0 = some (nm x.What) from rfl]
  simp only [Option.bind_some]
  rw [T.find]
  simp only [Option.bind_some]
  rw [if_neg (by simp; omega), T.i]
  simp only [Option.bind_some]
  rw [(T.o false).l, T.suf, (T.o true).l]
  simp only [Option.bind_some]
  have hb1 : (if (((nm x.What :: (chs x.What x.Res.Out).map (fW x)).length : Int) == w64 (((ltr x.What false).size : Int) + 3)) = true then some (hasR x.What) else some false) = some (x.Res.Out && hasR x.What) := by
    rw [hlen, w64_eq (by omega) (by omega)]
    cases ho : x.Res.Out with
    | false => rw [if_neg (by simp; try omega)]; rfl
    | true =>
      cases hh : hasR x.What with
      | false =>
        rw [hh] at hmore
        rw [if_neg (by rw [T.same hh]; simp; try omega)]
        rfl
      | true =>
        rw [hh] at hmore
        rw [if_pos (by rw [hmore]; simp; try omega)]
        rfl
  rw [hb1]
  simp only [Option.bind_some]
  have hb2 : (if (x.Res.Out && hasR x.What) = true then some (zeroE x.What true, ltr x.What true) else some (zeroE x.What false, ltr x.What false)) = some (zeroE x.What (x.Res.Out && hasR x.What), ltr x.What (x.Res.Out && hasR x.What)) := by
    cases (x.Res.Out && hasR x.What) <;> rfl
  have hb2' : (if (x.Res.Out && hasR x.What) = true then some ((api_Entry.mk (api_Entry.mk x.What 0 0 0 0 0 0 0 0 0 (api_Item.mk 0 0 0 0) (api_Res.mk 0 false 0 false 0 0) 0 0).What 0 0 0 0 0 0 0 0 0 (api_Item.mk 0 0 0 0) (api_Res.mk 0 false 0 true 0 0) 0 0), ltr x.What true) else some ((api_Entry.mk x.What 0 0 0 0 0 0 0 0 0 (api_Item.mk 0 0 0 0) (api_Res.mk 0 false 0 false 0 0) 0 0), ltr x.What false)) = some (zeroE x.What (x.Res.Out && hasR x.What), ltr x.What (x.Res.Out && hasR x.What)) := hb2
  refine (congrArg (fun q => Option.bind q _) hb2').trans ?_
  simp only [Option.bind_some]
  have hcs := chs_out h0 h1 x.Res.Out
  have hsz : (ltr x.What (x.Res.Out && hasR x.What)).size = (ltr x.What x.Res.Out).size := by rw [← chs_len, ← chs_len, hcs]
  rw [if_neg (by rw [hlen, hsz, w64_eq (by omega) (by omega)]; simp)]
  have Oo := T.o (x.Res.Out && hasR x.What)
  have hws : ∀ p, p < (ltr x.What (x.Res.Out && hasR x.What)).size → ∃ c, (bytesOf (ltr x.What (x.Res.Out && hasR x.What)))[p]? = some c ∧ (nm x.What :: (chs x.What x.Res.Out).map (fW x))[p + 1]? = some (fW x c) := by
    intro p hp
    have hlt : p < (bytesOf (ltr x.What (x.Res.Out && hasR x.What))).length := by rw [bytesOf_len]; exact hp
    refine ⟨_, List.getElem?_eq_getElem hlt, ?_⟩
    rw [List.getElem?_cons_succ, List.getElem?_map, ← hcs]
    show Option.map (fW x) (bytesOf (ltr x.What (x.Res.Out && hasR x.What)))[p]? = _
    rw [List.getElem?_eq_getElem hlt]
    rfl
  rw [pl_loop (e0 := zeroE x.What (x.Res.Out && hasR x.What)) hx Oo.size hws Oo.at_ Oo.end_ Oo.all (ltr x.What (x.Res.Out && hasR x.What)).size 1000 _ 0 (by omega) (by have := Oo.size; omega)]
  simp only [Option.bind_some, List.drop_zero]
  have hfill : fill x (zeroE x.What (x.Res.Out && hasR x.What)) (bytesOf (ltr x.What (x.Res.Out && hasR x.What))) = restr x := by
    show fill x _ (chs x.What (x.Res.Out && hasR x.What)) = _
    rw [hcs]
    rfl
  rw [hfill, line_is R.wf (by rw [R.what]; exact h0) (by rw [R.what]; exact h1), R.line]
  simp only [Option.bind_some]
  rw [sEq_iff.2 rfl]
end Go.Proofs.YtalllncanpcmfaaDoor
