/- The table of letters; a line's bytes: the program's and the reference's. -/
import Derived.Test.YtalllncanpcmfaaDoorKLet
set_option linter.unusedVariables false
set_option linter.unusedSimpArgs false
namespace Go.Proofs.YtalllncanpcmfaaDoor
open Go.Sx

def ltr (m : Int) (out : Bool) : ByteArray := (tappetref26_fields m out).getD ByteArray.empty
def nm (m : Int) : ByteArray := ((tab_g0[m.toNat]?).map (·.name)).getD ByteArray.empty
def chs (m : Int) (out : Bool) : List Int := bytesOf (ltr m out)
def hasR (m : Int) : Bool := (chs m false).contains 121
def chkO (f : trace_form) (k : Nat) (out : Bool) : Bool := match trace_letters f out, tappetref26_fields (k : Int) out with
  | some a, some b => sEq a b && (List.range b.size).all (fun p => runeAt b p == (bytesOf b).getD p 0 && runeEnd b p == p + 1) && (bytesOf b).all (fun c => lets20.contains c) && decide ((bytesOf b).Nodup) && decide (b.size ≤ 20) && ((bytesOf b).contains 121 == hasR (k : Int))
  | _, _ => false
def chkT (k : Nat) : Bool := match tab_g0[k]?, tappetref26_Name (k : Int) with
  | some f, some n => chkO f k true && chkO f k false && (strings_HasSuffix f.fields (⟨[82].toArray⟩) == some (hasR (k : Int))) && decide ((ltr (k : Int) true).size = (ltr (k : Int) false).size + (if hasR (k : Int) then 2 else 0)) &&
      (hasR (k : Int) || sEq (ltr (k : Int) true) (ltr (k : Int) false)) && f.name.data.toList.all (fun b => b != 32 && b != 10) && decide (f.name.size ≤ 10) && decide (0 < f.name.size) && sEq n f.name && (trace_find f.name == some (k : Int)) &&
      (List.range 18).all (fun j => j == k || !sEq (nm (j : Int)) f.name)
  | _, _ => false
theorem chkT_all : ∀ k : Fin 17, chkT ((k : Nat) + 1) = true := by decide +kernel
structure TabO (f : trace_form) (m : Int) (out : Bool) : Prop where
  l : trace_letters f out = some (ltr m out)
  r : tappetref26_fields m out = some (ltr m out)
  at_ : ∀ p, p < (ltr m out).size → some (runeAt (ltr m out) p) = (chs m out)[p]?
  end_ : ∀ p, p < (ltr m out).size → runeEnd (ltr m out) p = p + 1
  all : ∀ c ∈ chs m out, Let20 c
  nodup : (chs m out).Nodup
  size : (ltr m out).size ≤ 20
  y : (chs m out).contains 121 = hasR m
structure Tab (f : trace_form) (m : Int) : Prop where
  i : idx tab_g0 m = some f
  name : f.name = nm m
  ref : tappetref26_Name m = some (nm m)
  o : ∀ out, TabO f m out
  suf : strings_HasSuffix f.fields (⟨[82].toArray⟩) = some (hasR m)
  more : (ltr m true).size = (ltr m false).size + (if hasR m then 2 else 0)
  same : hasR m = false → ltr m true = ltr m false
  sp : NoB 32 (nm m).data.toList
  nl : NoB 10 (nm m).data.toList
  size : (nm m).size ≤ 10 ∧ 0 < (nm m).size
  find : trace_find (nm m) = some m
  other : ∀ j : Int, 0 ≤ j → j ≤ 17 → j ≠ m → nm j ≠ nm m
theorem chs_len {m : Int} {out : Bool} : (chs m out).length = (ltr m out).size := by unfold chs; exact bytesOf_len _
theorem chkO_is {f : trace_form} {k : Nat} {out : Bool} (h : chkO f k out = true) : TabO f (k : Int) out := by
  unfold chkO at h
  split at h
  · rename_i a b ha hb
    have hl : ltr (k : Int) out = b := by unfold ltr; rw [hb]; rfl
    simp only [Bool.and_eq_true, List.all_eq_true, List.mem_range, decide_eq_true_eq, beq_iff_eq] at h
    obtain ⟨⟨⟨⟨⟨h1, h2⟩, h3⟩, h4⟩, h5⟩, h6⟩ := h
    have hab := sEq_iff.1 h1
    have hc : chs (k : Int) out = bytesOf b := by unfold chs; rw [hl]
    refine ⟨by rw [hl, ha, hab], by rw [hl, hb], fun p hp => ?_, fun p hp => ?_, fun c hc' => ?_, by rw [hc]; exact h4, by rw [hl]; exact h5, by rw [hc]; exact h6⟩
    · rw [hl] at hp ⊢
      rw [hc, (h2 p hp).1]
      have : p < (bytesOf b).length := by rw [bytesOf_len]; exact hp
      rw [List.getD_eq_getElem?_getD, List.getElem?_eq_getElem this]
      rfl
    · rw [hl] at hp ⊢
      exact (h2 p hp).2
    · rw [hc] at hc'
      have := h3 c hc'
      exact let_of (by simpa using this)
  · cases h
theorem tab {m : Int} (h0 : 1 ≤ m) (h1 : m ≤ 17) : ∃ f, Tab f m := by
  obtain ⟨k, rfl⟩ : ∃ k : Nat, m = (k : Int) := ⟨m.toNat, by omega⟩
  have h := chkT_all ⟨k - 1, by omega⟩
  simp only [show k - 1 + 1 = k by omega] at h
  unfold chkT at h
  split at h
  · rename_i f n hf hn
    simp only [Bool.and_eq_true, List.all_eq_true, List.mem_range, decide_eq_true_eq, beq_iff_eq, Bool.or_eq_true, bne_iff_ne, Bool.not_eq_true'] at h
    obtain ⟨⟨⟨⟨⟨⟨⟨⟨⟨⟨q1, q2⟩, q3⟩, q4⟩, q5⟩, q6⟩, q7⟩, q8⟩, q9⟩, q10⟩, q11⟩ := h
    have hnm : f.name = nm (k : Int) := by unfold nm; rw [Int.toNat_natCast, hf]; rfl
    rw [hnm] at q6 q7 q8 q9 q10 q11
    refine ⟨f, ⟨by unfold idx; rw [if_pos (by omega)]; exact hf, hnm, by rw [hn, sEq_iff.1 q9], fun out => ?_, q3, q4, fun e => ?_, fun b hb => (q6 b hb).1, fun b hb => (q6 b hb).2, ⟨q7, q8⟩, q10, fun j j0 j1 hj => ?_⟩⟩
    · cases out
      · exact chkO_is q2
      · exact chkO_is q1
    · rcases q5 with q5 | q5
      · rw [q5] at e; cases e
      · exact sEq_iff.1 q5
    · rcases q11 j.toNat (by omega) with h | h
      · exact absurd (by omega : j = (k : Int)) hj
      · rw [show ((j.toNat : Nat) : Int) = j by omega] at h
        intro e
        rw [sEq_iff.2 e] at h
        cases h
  · cases h
/-! ### Lines -/
def wds (x : api_Entry) (l : List Int) : ByteArray := ⟨(rest32 (l.map (fW x))).toArray⟩
def lineB (x : api_Entry) : ByteArray := nm x.What ++ wds x (chs x.What x.Res.Out)
theorem catB_eq {a b : ByteArray} (h : a.size + b.size ≤ 9223372036854775807) : catB a b = some (a ++ b) := by unfold catB; rw [if_pos h]
theorem wds_cons (x : api_Entry) (c : Int) (l : List Int) : wds x (c :: l) = (⟨[32].toArray⟩ ++ fW x c) ++ wds x l := by
  apply ba_ext
  unfold wds
  rw [List.map_cons, app_list, app_list]
  simp only [List.toList_toArray, rest32_cons]
  simp
theorem wds_nil (x : api_Entry) : wds x [] = ByteArray.empty := rfl
theorem wds_size {x : api_Entry} (h : wfE x) : ∀ {l : List Int}, (∀ c ∈ l, Let20 c) → (wds x l).size ≤ 23 * l.length
  | [], _ => by rw [wds_nil]; decide
  | c :: l, hl => by
    have ih := wds_size h (l := l) (fun d hd => hl d (List.mem_cons_of_mem _ hd))
    have := (fW_size h (hl c (List.mem_cons_self ..))).1
    have h1 : (⟨[32].toArray⟩ : ByteArray).size = 1 := rfl
    rw [wds_cons, ByteArray.size_append, ByteArray.size_append, h1, List.length_cons]
    omega
theorem byte_of {o : ByteArray} {p : Nat} {c : Int} (h : (bytesOf o)[p]? = some c) : sidx o (p : Int) = some c := by
  unfold bytesOf at h
  rw [List.getElem?_map, Option.map_eq_some_iff] at h
  obtain ⟨b, hb, rfl⟩ := h
  exact sidx_eq hb
theorem one_cut {o : ByteArray} {p : Nat} {c : Int} (hz : o.size ≤ 1000) (h : (bytesOf o)[p]? = some c) : scut o (p : Int) (w64 ((p : Int) + 1)) = some ⟨[UInt8.ofNat c.toNat].toArray⟩ := by
  have hp : p < o.size := by
    have := (List.getElem?_eq_some_iff.1 h).1
    rw [bytesOf_len] at this
    exact this
  unfold bytesOf at h
  rw [List.getElem?_map, Option.map_eq_some_iff] at h
  obtain ⟨b, hb, rfl⟩ := h
  rw [w64_eq (by omega) (by omega)]
  unfold scut
  rw [if_pos (by omega)]
  refine congrArg some (ba_ext ?_)
  rw [Lib.extract_data, show ((p : Int) + 1).toNat = p + 1 by omega, Int.toNat_natCast, show p + 1 - p = 1 by omega]
  have : o.data.toList.drop p = b :: o.data.toList.drop (p + 1) := by
    have := List.getElem?_eq_some_iff.1 hb
    obtain ⟨hlt, he⟩ := this
    rw [← he, List.getElem_cons_drop]
  rw [this]
  simp
section
variable {x : api_Entry} {o : ByteArray}
theorem tl_loop (hx : wfE x) (hat : ∀ p, p < o.size → some (runeAt o p) = (bytesOf o)[p]?) (hend : ∀ p, p < o.size → runeEnd o p = p + 1) (hall : ∀ c ∈ bytesOf o, Let20 c) : ∀ (n fu : Nat) (s : ByteArray) (p : Nat), o.size = p + n → n < fu → s.size + 23 * n ≤ 1000 →
    loop (trace_line_l1 x o) fu (s, p) = some (s ++ wds x ((bytesOf o).drop p)) := by
  intro n
  induction n with
  | zero =>
    intro fu s p hp hf hs
    obtain ⟨fu, rfl⟩ : ∃ f, fu = f + 1 := ⟨fu - 1, by omega⟩
    show trace_line_l1 x o (loop (trace_line_l1 x o) fu) (s, p) = _
    rw [lend (by omega), List.drop_of_length_le (by rw [bytesOf_len]; omega), wds_nil, ByteArray.append_empty]
  | succ n ih =>
    intro fu s p hp hf hs
    obtain ⟨fu, rfl⟩ : ∃ f, fu = f + 1 := ⟨fu - 1, by omega⟩
    show trace_line_l1 x o (loop (trace_line_l1 x o) fu) (s, p) = _
    have hc := hat p (by omega)
    have hL := hall _ (List.mem_of_getElem? hc.symm)
    have hz := (fW_size hx hL).1
    have h1 : (⟨[32].toArray⟩ : ByteArray).size = 1 := rfl
    rw [lstep (by omega), word_eq hx hL]
    simp only [Option.bind_some]
    rw [catB_eq (by omega)]
    simp only [Option.bind_some]
    have hz2 : ((⟨[32].toArray⟩ : ByteArray) ++ fW x (runeAt o p)).size ≤ 23 := by rw [ByteArray.size_append, h1]; omega
    rw [catB_eq (by omega)]
    simp only [Option.bind_some]
    rw [hend p (by omega), ih fu _ (p + 1) (by omega) (by omega) (by rw [ByteArray.size_append]; omega)]
    have hd : (bytesOf o).drop p = runeAt o p :: (bytesOf o).drop (p + 1) := by
      have := List.getElem?_eq_some_iff.1 hc.symm
      obtain ⟨hlt, he⟩ := this
      rw [← he, List.getElem_cons_drop]
    rw [hd, wds_cons, ByteArray.append_assoc]
end
/-- THE PROGRAM's LINE -/
theorem line_is {x : api_Entry} (hx : wfE x) (h0 : 1 ≤ x.What) (h1 : x.What ≤ 17) : trace_line 1000 x = some (lineB x) := by
  obtain ⟨f, T⟩ := tab h0 h1
  have O := T.o x.Res.Out
  have hz := O.size
  unfold trace_line trace_of
  rw [if_neg (by simp; omega), T.i]
  simp only [Option.bind_some]
  rw [O.l]
  simp only [Option.bind_some]
  rw [tl_loop hx O.at_ O.end_ O.all (ltr x.What x.Res.Out).size 1000 _ 0 (by omega) (by omega) (by have := T.size; rw [T.name]; omega)]
  rw [T.name]
  rfl
theorem unsigned_eq (x : api_Entry) {c : Int} (hc : Let20 c) : tappetref26_unsigned x c = some (if wide c then fld x c else 0, wide c) := by cases hc <;> rfl
theorem signed_eq (x : api_Entry) {c : Int} (hc : Let20 c) (hw : wide c = false) : tappetref26_signed x c = some (fld x c) := by
  cases hc with
  | c_b =>
    unfold tappetref26_signed
    show (if x.Res.Found then some (1 : Int) else some 0) = some (if x.Res.Found then 1 else 0)
    split <;> rfl
  | _ => first | rfl | exact absurd hw (by decide)
theorem fW_app {x : api_Entry} {c : Int} : fW x c = ⟨[UInt8.ofNat c.toNat].toArray⟩ ++ (if wide c then decT (fld x c).toNat else numT (fld x c)) := by
  apply ba_ext
  rw [app_list]
  unfold fW fTxt decT numT
  cases wide c <;> rfl
section
variable {x : api_Entry} {o : ByteArray} {fu : Nat}
theorem rl_step (hx : wfE x) (hz : o.size ≤ 20) (hf : 30 ≤ fu) {c : Int} {p : Nat} (hc : (bytesOf o)[p]? = some c) (hL : Let20 c) {s : ByteArray} (hs : s.size ≤ 1000) (again : ByteArray → Option ByteArray) :
    tappetref26_Line_l1 fu x o p again s = again (s ++ (⟨[32].toArray⟩ ++ fW x c)) := by
  have hzW := (fW_size hx hL).1
  have h1 : (⟨[32].toArray⟩ : ByteArray).size = 1 := rfl
  have h2 : (⟨[UInt8.ofNat c.toNat].toArray⟩ : ByteArray).size = 1 := rfl
  unfold tappetref26_Line_l1
  rw [byte_of hc]
  simp only [Option.bind_some]
  rw [unsigned_eq x hL]
  simp only [Option.bind_some]
  rw [catB_eq (by omega), one_cut (by omega) hc]
  simp only [Option.bind_some]
  have hz2 : (s ++ (⟨[32].toArray⟩ : ByteArray)).size = s.size + 1 := by rw [ByteArray.size_append, h1]
  rw [catB_eq (by omega)]
  simp only [Option.bind_some]
  have hz3 : (s ++ (⟨[32].toArray⟩ : ByteArray) ++ ⟨[UInt8.ofNat c.toNat].toArray⟩).size = s.size + 2 := by rw [ByteArray.size_append, h2, hz2]
  have fin : (s ++ (⟨[32].toArray⟩ : ByteArray) ++ ⟨[UInt8.ofNat c.toNat].toArray⟩ ++ (if wide c then decT (fld x c).toNat else numT (fld x c))) = s ++ (⟨[32].toArray⟩ ++ fW x c) := by
    rw [fW_app]
    simp only [ByteArray.append_assoc]
  have hzt : (if wide c then decT (fld x c).toNat else numT (fld x c)).size ≤ 22 := by
    rw [fW_app, ByteArray.size_append, h2] at hzW
    omega
  rw [← fin]
  cases hw : wide c with
  | true =>
    rw [hw] at hzt
    simp only [if_true] at hzt ⊢
    have hu := fld_wide hx hL hw
    have := digits_eq (fld x c).toNat 21 fu (by have := hu.1; have := hu.2; omega) (by decide) (Nat.le_refl _) (by omega) (by have := hu.1; have := hu.2; omega)
    rw [show (((fld x c).toNat : Nat) : Int) = fld x c by have := hu.1; omega] at this
    rw [this]
    simp only [Option.bind_some]
    rw [catB_eq (by omega)]
    rfl
  | false =>
    rw [hw] at hzt
    simp only [Bool.false_eq_true, if_false] at hzt ⊢
    have hi := fld_int hx hL hw
    rw [signed_eq x hL hw]
    simp only [Option.bind_some]
    rw [number_eq (by omega) hi.1 hi.2]
    simp only [Option.bind_some]
    rw [catB_eq (by omega)]
    rfl
theorem rl_loop (hx : wfE x) (hz : o.size ≤ 20) (hf : 30 ≤ fu) (hall : ∀ c ∈ bytesOf o, Let20 c) : ∀ (n : Nat) (s : ByteArray) (p : Nat), o.size = p + n → s.size + 23 * n ≤ 1000 →
    forN (tappetref26_Line_l1 fu x o) (fun (s : ByteArray) => s) n p s = some (s ++ wds x ((bytesOf o).drop p)) := by
  intro n
  induction n with
  | zero =>
    intro s p hp hs
    rw [List.drop_of_length_le (by rw [bytesOf_len]; omega), wds_nil, ByteArray.append_empty]
    rfl
  | succ n ih =>
    intro s p hp hs
    show tappetref26_Line_l1 fu x o p (forN (tappetref26_Line_l1 fu x o) (fun (s : ByteArray) => s) n (p + 1)) s = _
    have hlt : p < (bytesOf o).length := by rw [bytesOf_len]; omega
    have hc : (bytesOf o)[p]? = some (bytesOf o)[p] := List.getElem?_eq_getElem hlt
    have hd : (bytesOf o).drop p = (bytesOf o)[p] :: (bytesOf o).drop (p + 1) := by rw [List.getElem_cons_drop]
    generalize (bytesOf o)[p] = c at hc hd
    have hL := hall _ (List.mem_of_getElem? hc)
    have hzW := (fW_size hx hL).1
    have h1 : (⟨[32].toArray⟩ : ByteArray).size = 1 := rfl
    rw [rl_step hx hz hf hc hL (by omega), ih _ (p + 1) (by omega) (by rw [ByteArray.size_append, ByteArray.size_append, h1]; omega), hd, wds_cons, ByteArray.append_assoc]
end
/-- THE REFERENCE's LINE IS THE LINE -/
theorem refLine_is {fu : Nat} (hf : 30 ≤ fu) {x : api_Entry} (hx : wfE x) (h0 : 1 ≤ x.What) (h1 : x.What ≤ 17) : tappetref26_Line fu x = some (lineB x) := by
  obtain ⟨f, T⟩ := tab h0 h1
  have O := T.o x.Res.Out
  have hz := O.size
  unfold tappetref26_Line
  rw [T.ref]
  simp only [Option.bind_some]
  rw [O.r]
  simp only [Option.bind_some]
  rw [show room (ltr x.What x.Res.Out).size 1 = some () by unfold room; rw [if_pos (by omega)]]
  simp only [Option.bind_some]
  rw [rl_loop hx O.size hf O.all (ltr x.What x.Res.Out).size _ 0 (by omega) (by have := T.size; omega)]
  rfl
end Go.Proofs.YtalllncanpcmfaaDoor
