/- What the reference reads: the same entries. -/
import Derived.Test.YtalllncanpcmfaaDoorKSet
set_option linter.unusedVariables false
set_option linter.unusedSimpArgs false
namespace Go.Proofs.YtalllncanpcmfaaDoor
open Go.Sx

/-! ### Words -/
theorem text_words : ∀ (N : Nat) (l : List UInt8), l.length ≤ N → ∃ (w : ByteArray) (r : List ByteArray), l = w.data.toList ++ rest32 r ∧ NoB 32 w.data.toList ∧ (∀ x ∈ r, NoB 32 x.data.toList)
  | N, l, h => by
    rcases first_byte 32 l with hn | ⟨a, b, rfl, ha⟩
    · exact ⟨⟨l.toArray⟩, [], by simp [rest32_nil], by simpa using hn, fun x hx => by cases hx⟩
    · cases N with
      | zero => simp at h
      | succ N =>
        obtain ⟨w, r, e, h1, h2⟩ := text_words N b (by simp at h; omega)
        refine ⟨⟨a.toArray⟩, w :: r, by rw [rest32_cons, e], by simpa using ha, fun x hx => ?_⟩
        rcases List.mem_cons.1 hx with rfl | hx
        · exact h1
        · exact h2 x hx
theorem rest32_len : ∀ r : List ByteArray, r.length ≤ (rest32 r).length
  | [] => Nat.zero_le _
  | x :: r => by
    have := rest32_len r
    rw [rest32_cons, List.length_cons, List.length_cons, List.length_append]
    omega
section
variable {s : ByteArray}
theorem byte_at {pre post : List UInt8} {c : UInt8} (h : s.data.toList = pre ++ c :: post) : sidx s (pre.length : Int) = some (c.toNat : Int) := sidx_eq (by rw [h]; simp)
theorem words_scan : ∀ (b a : List UInt8) (fu : Nat) (out : List ByteArray) (pre post : List UInt8), s.data.toList = pre ++ (a ++ b ++ post) → NoB 32 b → s.size ≤ 9223372036854775800 →
    loop (tappetref26_Read_l1 s) (fu + b.length) (out, (pre.length : Int), ((pre.length + a.length : Nat) : Int)) = loop (tappetref26_Read_l1 s) fu (out, (pre.length : Int), ((pre.length + a.length + b.length : Nat) : Int))
  | [], a, fu, out, pre, post, _, _, _ => by simp
  | c :: b, a, fu, out, pre, post, h, hn, hz => by
    show tappetref26_Read_l1 s (loop (tappetref26_Read_l1 s) (fu + b.length)) (out, (pre.length : Int), ((pre.length + a.length : Nat) : Int)) = _
    have hsz : s.size = pre.length + a.length + (b.length + 1) + post.length := by rw [Lib.size_eq, h]; simp; omega
    have hb : sidx s ((pre.length + a.length : Nat) : Int) = some (c.toNat : Int) := by
      have := byte_at (s := s) (pre := pre ++ a) (c := c) (post := b ++ post) (by rw [h]; simp)
      rw [List.length_append] at this
      exact this
    have hc : ((c.toNat : Int) == 32) = false := by
      have h1 := hn c (List.mem_cons_self ..)
      rw [beq_eq_false_iff_ne]
      intro e
      apply h1
      apply UInt8.toNat_inj.1
      rw [show (32 : UInt8).toNat = 32 from rfl]
      omega
    unfold tappetref26_Read_l1
    simp only
    rw [if_pos (by simp; omega), if_neg (by simp; omega), hb]
    simp only [Option.bind_some, hc, Bool.false_eq_true, if_false]
    rw [w64_eq (by omega) (by omega)]
    have := words_scan b (a ++ [c]) fu out pre post (by rw [h]; simp) (fun x hx => hn x (List.mem_cons_of_mem _ hx)) hz
    rw [List.length_append, List.length_singleton] at this
    rw [show ((pre.length + a.length : Nat) : Int) + 1 = ((pre.length + (a.length + 1) : Nat) : Int) by omega]
    unfold tappetref26_Read_l1 at this
    rw [this, List.length_cons]
    congr 3
    omega
theorem part_of {pre w post : List UInt8} (h : s.data.toList = pre ++ (w ++ post)) : scut s (pre.length : Int) ((pre.length + w.length : Nat) : Int) = some ⟨w.toArray⟩ := by
  have hsz : s.size = pre.length + w.length + post.length := by rw [Lib.size_eq, h]; simp; omega
  unfold scut
  rw [if_pos (by omega)]
  refine congrArg some (ba_ext ?_)
  rw [Lib.extract_data, h, Int.toNat_natCast, Int.toNat_natCast, List.drop_left, show pre.length + w.length - pre.length = w.length by omega, List.take_left]
theorem words_loop : ∀ (r : List ByteArray) (w : ByteArray) (fu : Nat) (out : List ByteArray) (pre : List UInt8), s.data.toList = pre ++ (w.data.toList ++ rest32 r) → NoB 32 w.data.toList → (∀ x ∈ r, NoB 32 x.data.toList) → s.size ≤ 1099511627776 → out.length ≤ pre.length →
    (w.data.toList ++ rest32 r).length + 2 ≤ fu → loop (tappetref26_Read_l1 s) fu (out, (pre.length : Int), (pre.length : Int)) = some (out ++ w :: r)
  | r, w, fu, out, pre, h, h1, h2, hz, ho, hf => by
    have hwz := Lib.size_eq w
    rw [List.length_append] at hf
    obtain ⟨g, rfl⟩ : ∃ g, fu = g + 1 + w.data.toList.length := ⟨fu - 1 - w.data.toList.length, by omega⟩
    have hs := words_scan (s := s) w.data.toList [] (g + 1) out pre (rest32 r) (by rw [h]; simp) h1 (by omega)
    simp only [List.length_nil, Nat.add_zero] at hs
    rw [hs]
    show tappetref26_Read_l1 s (loop (tappetref26_Read_l1 s) g) (out, (pre.length : Int), ((pre.length + w.data.toList.length : Nat) : Int)) = _
    have hsz : s.size = pre.length + w.data.toList.length + (rest32 r).length := by rw [Lib.size_eq, h]; simp; omega
    have hp : scut s (pre.length : Int) ((pre.length + w.data.toList.length : Nat) : Int) = some w := by
      rw [part_of h]
    have hrm : room (out.length + [w].length) 16 = some () := by
      unfold room
      rw [if_pos (by simp; omega)]
    unfold tappetref26_Read_l1
    simp only
    rw [if_pos (by simp; omega)]
    cases r with
    | nil =>
      rw [rest32_nil, List.length_nil] at hsz
      rw [if_pos (by rw [hsz]; simp)]
      simp only [Option.bind_some, if_true, hp, hrm]
      rw [w64_eq (by omega) (by omega)]
      obtain ⟨g, rfl⟩ : ∃ f, g = f + 1 := ⟨g - 1, by simp [rest32_nil] at hf; omega⟩
      show tappetref26_Read_l1 s (loop (tappetref26_Read_l1 s) g) (out ++ [w], _, _) = _
      unfold tappetref26_Read_l1
      rw [if_neg (by simp; omega)]
    | cons x r =>
      rw [rest32_cons] at h hsz
      simp only [List.length_cons] at hsz
      have hb : sidx s ((pre.length + w.data.toList.length : Nat) : Int) = some 32 := by
        have := byte_at (s := s) (pre := pre ++ w.data.toList) (c := 32) (post := x.data.toList ++ rest32 r) (by rw [h]; simp)
        rw [List.length_append] at this
        exact this
      rw [if_neg (by simp; omega), hb]
      simp only [Option.bind_some, beq_self_eq_true, if_true, hp, hrm]
      rw [w64_eq (by omega) (by omega)]
      have hxz := Lib.size_eq x
      have ih := words_loop r x g (out ++ [w]) (pre ++ w.data.toList ++ [32]) (by rw [h]; simp) (h2 x (List.mem_cons_self ..)) (fun y hy => h2 y (List.mem_cons_of_mem _ hy)) hz (by simp; omega)
        (by simp only [rest32_cons, List.length_append, List.length_cons] at hf ⊢; omega)
      rw [List.length_append, List.length_append, List.length_singleton] at ih
      rw [show ((pre.length + w.data.toList.length : Nat) : Int) + 1 = ((pre.length + w.data.toList.length + 1 : Nat) : Int) by omega]
      unfold tappetref26_Read_l1 at ih
      rw [ih, List.append_assoc]
      rfl
end
theorem words_eq {s w : ByteArray} {r : List ByteArray} {fu : Nat} (h : s.data.toList = w.data.toList ++ rest32 r) (h1 : NoB 32 w.data.toList) (h2 : ∀ x ∈ r, NoB 32 x.data.toList) (hz : s.size ≤ 1099511627776) (hf : s.size + 2 ≤ fu) : loop (tappetref26_Read_l1 s) fu (([] : List ByteArray), 0, 0) = some (w :: r) := by
  have := words_loop (s := s) r w fu [] [] (by simpa using h) h1 h2 hz (Nat.le_refl _) (by rw [← h, ← Lib.size_eq]; exact hf)
  exact this
/-! ### One name -/
theorem idx_head (w : ByteArray) (r : List ByteArray) : idx (w :: r) 0 = some w := rfl
section
variable {fu : Nat} {s : ByteArray}
theorem read_skip {w : ByteArray} {r : List ByteArray} {m : Int} (h0 : 1 ≤ m) (h1 : m ≤ 17) (hn : nm m ≠ w) (again : Int → Option (Unit ⊕ (api_Entry × Bool))) : tappetref26_Read_l2 fu s (w :: r) again m = again (m + 1) := by
  obtain ⟨f, T⟩ := tab h0 h1
  unfold tappetref26_Read_l2
  rw [if_pos (by simp; omega), idx_head]
  simp only [Option.bind_some]
  rw [T.ref]
  simp only [Option.bind_some]
  have : sNe (nm m) w = true := by
    unfold sNe
    cases h : sEq (nm m) w with
    | false => rfl
    | true => exact absurd (sEq_iff.1 h) hn
  rw [if_pos this, w64_eq (by omega) (by omega)]
theorem read_hit {r : List ByteArray} {m : Int} (h0 : 1 ≤ m) (h1 : m ≤ 17) (hf : 1048600 ≤ fu) (hr : ∀ x ∈ nm m :: r, x.size ≤ 1048576) (hrl : r.length ≤ 1048576) (again : Int → Option (Unit ⊕ (api_Entry × Bool))) :
    OK (tappetref26_Read_l2 fu s (nm m :: r) again m) (fun o => match o with | .inl _ => True | .inr q => q.2 = true → wfE q.1 ∧ bare q.1 ∧ lineB q.1 = s) := by
  obtain ⟨f, T⟩ := tab h0 h1
  have hOf := (T.o false).size
  unfold tappetref26_Read_l2
  rw [if_pos (by simp; omega), idx_head]
  simp only [Option.bind_some]
  rw [T.ref]
  simp only [Option.bind_some]
  have sne : sNe (nm m) (nm m) = false := by unfold sNe; rw [sEq_iff.2 rfl]; rfl
  rw [if_neg (by rw [sne]; decide), (T.o false).r]
  simp only [Option.bind_some]
  refine OK.bind2 (R := fun b => b = true → hasR m = true) ?_ (fun b hb => ?_)
  · refine OK.ite (fun _ => ?_) (fun _ => OK.ret (fun e => by cases e))
    rw [has_eq (by omega)]
    exact OK.ret (fun e => e)
  refine OK.bind2 (R := fun o => ∃ out, o = (zeroE m out, ltr m out) ∧ (out = true → hasR m = true)) ?_ (fun o ho => ?_)
  · refine OK.ite (fun e => ?_) (fun e => OK.ret ⟨false, rfl, fun e => by cases e⟩)
    rw [(T.o true).r]
    exact OK.ret ⟨true, rfl, fun _ => hb e⟩
  obtain ⟨out, rfl, hout⟩ := ho
  have O := T.o out
  have hO := O.size
  refine OK.ite (fun _ => OK.ret (fun e => by cases e)) (fun e => ?_)
  have hlen : (nm m :: r).length = (ltr m out).size + 1 := by
    simp only [bne_eq_false_iff_eq] at e
    rw [w64_eq (by omega) (by omega)] at e
    omega
  refine OK.bind2 (R := fun q => match q with | .inl t => wfE t ∧ t.What = m ∧ t.Res.Out = out ∧ ∀ c, Let20 c → c ∉ chs m out → fld t c = 0 | .inr q => q.2 = false) ?_ (fun q hq => ?_)
  · refine OK.bind (OK.hasRoom (by show (ltr m out).size * 1 ≤ _; omega) ?_)
    refine OK.count (fun i t => wfE t ∧ t.What = m ∧ t.Res.Out = out ∧ ∀ c, Let20 c → c ∉ (chs m out).take i → fld t c = 0) ⟨zero_wf h0 h1 out, rfl, rfl, fun c hc _ => zero_fld m out hc⟩ (fun i t again hi hs k => ?_) (fun t ht => ?_)
    · have hi : i < (ltr m out).size := hi
      obtain ⟨k1, k2, k3, k4⟩ := hs
      have hlt : i < (chs m out).length := by rw [chs_len]; exact hi
      have hc : (chs m out)[i]? = some (chs m out)[i] := List.getElem?_eq_getElem hlt
      generalize (chs m out)[i] = c at hc
      have hL := O.all c (List.mem_of_getElem? hc)
      have hlt2 : i + 1 < (nm m :: r).length := by omega
      have hw : (nm m :: r)[i + 1]? = some (nm m :: r)[i + 1] := List.getElem?_eq_getElem hlt2
      have hwz := hr _ (List.mem_of_getElem? hw)
      generalize (nm m :: r)[i + 1] = w at hw hwz
      have hix : idx (nm m :: r) (w64 ((i : Int) + 1)) = some w := by
        rw [w64_eq (by omega) (by omega)]
        unfold idx
        rw [if_pos (by omega), show ((i : Int) + 1).toNat = i + 1 by omega]
        exact hw
      unfold tappetref26_Read_l3
      have hbc : sidx (ltr m out) (i : Int) = some c := byte_of hc
      refine OK.bind2 (R := fun p => p.2 = true → ∃ v, p.1 = setf t c v ∧ (wide c = true → u64 v) ∧ (wide c = false → i64 v)) ?_ (fun p hp => ?_)
      · show OK ((sidx (ltr m out) (i : Int)).bind _) _
        rw [hbc]
        simp only [Option.bind_some]
        rw [hix]
        simp only [Option.bind_some]
        exact OK.bind2 (set_ok hL hwz (by omega)) (fun y hy => OK.ret hy)
      · refine OK.ite (fun _ => OK.ret rfl) (fun e => ?_)
        have hp2 : p.2 = true := by simpa using e
        obtain ⟨v, v1, v2, v3⟩ := hp hp2
        rw [v1]
        have sw := setf_what (e := t) (v := v) hL
        refine k _ ⟨setf_wf k1 hL v2 v3, sw.1.trans k2, sw.2.trans k3, fun d hd hn => ?_⟩
        rw [List.take_add_one, hc] at hn
        simp only [Option.toList_some, List.mem_append, List.mem_singleton, not_or] at hn
        rw [fld_other hL hd hn.2]
        exact k4 d hd hn.1
    · obtain ⟨t1, t2, t3, t4⟩ := ht
      refine ⟨t1, t2, t3, fun c hc hn => t4 c hc ?_⟩
      show c ∉ (chs m out).take (ltr m out).size
      rw [← chs_len, List.take_length]
      exact hn
  · cases q with
    | inr q => exact OK.ret (fun e => by rw [show q.2 = false from hq] at e; cases e)
    | inl t =>
      obtain ⟨t1, t2, t3, t4⟩ := hq
      simp only
      rw [refLine_is (by omega) t1 (by rw [t2]; exact h0) (by rw [t2]; exact h1)]
      simp only [Option.bind_some]
      refine OK.ret (fun e => ⟨t1, ⟨by rw [t2]; exact h0, by rw [t2]; exact h1, ?_, ?_⟩, sEq_iff.1 e⟩)
      · rw [t2, t3]; exact t4
      · rw [t2, t3]; exact hout
theorem read_own {x : api_Entry} (hx : wfE x) (hb : bare x) (hf : 100 ≤ fu) (again : Int → Option (Unit ⊕ (api_Entry × Bool))) :
    tappetref26_Read_l2 fu (lineB x) (nm x.What :: (chs x.What x.Res.Out).map (fW x)) again x.What = some (.inr (x, true)) := by
  have h0 := hb.1
  have h1 := hb.2.1
  obtain ⟨f, T⟩ := tab h0 h1
  have O := T.o x.Res.Out
  have hO := O.size
  have hOf := (T.o false).size
  have hmore := T.more
  have hlen : (nm x.What :: (chs x.What x.Res.Out).map (fW x)).length = (ltr x.What x.Res.Out).size + 1 := by rw [List.length_cons, List.length_map, chs_len]
  refine OK.is ?_
  unfold tappetref26_Read_l2
  rw [if_pos (by simp; omega), idx_head]
  simp only [Option.bind_some]
  rw [T.ref]
  simp only [Option.bind_some]
  have sne : sNe (nm x.What) (nm x.What) = false := by unfold sNe; rw [sEq_iff.2 rfl]; rfl
  rw [if_neg (by rw [sne]; decide), (T.o false).r]
  simp only [Option.bind_some]
  refine OK.bind2 (R := fun b => b = x.Res.Out) ?_ (fun b hb2 => ?_)
  · rw [hlen, w64_eq (by omega) (by omega)]
    cases ho : x.Res.Out with
    | false => exact OK.ite_false (by simp; try omega) (OK.ret rfl)
    | true =>
      have hh := hb.2.2.2 ho
      rw [hh] at hmore
      refine OK.ite_true (by rw [hmore]; simp; try omega) ?_
      rw [has_eq (by omega)]
      exact OK.ret hh
  subst hb2
  refine OK.bind2 (R := fun o => o = (zeroE x.What x.Res.Out, ltr x.What x.Res.Out)) ?_ (fun o ho => ?_)
  · refine OK.ite (fun e => ?_) (fun e => OK.ret (by rw [e]; rfl))
    rw [(T.o true).r]
    exact OK.ret (by rw [e]; rfl)
  subst ho
  refine OK.ite_false (by rw [hlen]; show (_ != w64 (((ltr x.What x.Res.Out).size : Int) + 1)) = false; rw [w64_eq (by omega) (by omega)]; simp) ?_
  refine OK.bind2 (R := fun q => q = .inl x) ?_ (fun q hq => ?_)
  · refine OK.bind (OK.hasRoom (by show (ltr x.What x.Res.Out).size * 1 ≤ _; omega) ?_)
    refine OK.count (fun i t => t = fill x (zeroE x.What x.Res.Out) ((chs x.What x.Res.Out).take i)) rfl (fun i t again hi hs k => ?_) (fun t ht => ?_)
    · have hi : i < (ltr x.What x.Res.Out).size := hi
      have hlt : i < (chs x.What x.Res.Out).length := by rw [chs_len]; exact hi
      have hc : (chs x.What x.Res.Out)[i]? = some (chs x.What x.Res.Out)[i] := List.getElem?_eq_getElem hlt
      generalize (chs x.What x.Res.Out)[i] = c at hc
      have hL := O.all c (List.mem_of_getElem? hc)
      have hix : idx (nm x.What :: (chs x.What x.Res.Out).map (fW x)) (w64 ((i : Int) + 1)) = some (fW x c) := by
        rw [w64_eq (by omega) (by omega)]
        unfold idx
        rw [if_pos (by omega), show ((i : Int) + 1).toNat = i + 1 by omega, List.getElem?_cons_succ, List.getElem?_map, hc]
        rfl
      have hbc : sidx (ltr x.What x.Res.Out) (i : Int) = some c := byte_of hc
      unfold tappetref26_Read_l3
      refine OK.bind2 (R := fun p => p = (setf t c (fld x c), true)) ?_ (fun p hp => ?_)
      · show OK ((sidx (ltr x.What x.Res.Out) (i : Int)).bind _) _
        rw [hbc]
        simp only [Option.bind_some]
        rw [hix]
        simp only [Option.bind_some]
        rw [set_eq hf hx hL]
        exact OK.ret rfl
      · subst hp
        refine OK.ite_false rfl (k _ ?_)
        rw [List.take_add_one, hc, hs]
        unfold fill
        rw [List.foldl_append]
        rfl
    · have ht : t = fill x (zeroE x.What x.Res.Out) ((chs x.What x.Res.Out).take (ltr x.What x.Res.Out).size) := ht
      rw [← chs_len, List.take_length] at ht
      have hre := (bare_restr hx h0 h1).2 hb
      have hoo : (x.Res.Out && hasR x.What) = x.Res.Out := by
        cases ho : x.Res.Out with
        | false => rfl
        | true => rw [hb.2.2.2 ho]; rfl
      unfold restr at hre
      rw [hoo] at hre
      rw [ht, hre]
  · subst hq
    simp only
    rw [refLine_is (by omega) hx h0 h1]
    simp only [Option.bind_some]
    rw [sEq_iff.2 rfl]
    exact OK.ret rfl
end
/-! ### Any line -/
theorem rest32_sizes : ∀ (r : List ByteArray), ∀ x ∈ r, x.size ≤ (rest32 r).length
  | [], x, h => by cases h
  | y :: r, x, h => by
    rw [rest32_cons, List.length_cons, List.length_append]
    rcases List.mem_cons.1 h with rfl | h
    · rw [Lib.size_eq]; omega
    · have := rest32_sizes r x h
      omega
theorem refRead_total {fu : Nat} {s : ByteArray} (hs : s.size ≤ 1048575) (hf : 1048600 ≤ fu) : ∃ i b, tappetref26_Read fu s = some (i, b) ∧ (b = true → wfE i ∧ bare i ∧ lineB i = s) := by
  obtain ⟨w, r, hd, h1, h2⟩ := text_words s.data.toList.length s.data.toList (Nat.le_refl _)
  have hwd := words_eq (fu := fu) hd h1 h2 (by omega) (by omega)
  have hsz : s.size = w.size + (rest32 r).length := by rw [Lib.size_eq, hd, List.length_append, ← Lib.size_eq]
  have hrl := rest32_len r
  have hws : ∀ x ∈ w :: r, x.size ≤ 1048576 := by
    intro x hx
    rcases List.mem_cons.1 hx with rfl | hx
    · omega
    · have := rest32_sizes r x hx
      omega
  have goal : OK (tappetref26_Read fu s) (fun q => q.2 = true → wfE q.1 ∧ bare q.1 ∧ lineB q.1 = s) := by
    unfold tappetref26_Read
    rw [hwd]
    simp only [Option.bind_some]
    refine OK.bind2 (R := fun o => match o with | .inl _ => True | .inr q => q.2 = true → wfE q.1 ∧ bare q.1 ∧ lineB q.1 = s) ?_ (fun o ho => ?_)
    · refine OK.rounds (fun m : Int => 1 ≤ m ∧ m ≤ 18) (fun m => (18 - m).toNat) (fun m again hm k => ?_) fu 1 ⟨by decide, by decide⟩ (by show (18 - (1 : Int)).toNat < fu; omega)
      by_cases h17 : m ≤ 17
      · by_cases hn : nm m = w
        · subst hn
          exact read_hit hm.1 h17 hf hws (by omega) again
        · rw [read_skip hm.1 h17 hn]
          exact k _ ⟨by omega, by omega⟩ (by show (18 - (m + 1)).toNat < (18 - m).toNat; omega)
      · unfold tappetref26_Read_l2
        exact OK.ite_false (by simp; omega) (OK.ret trivial)
    · cases o with
      | inl _ => exact OK.ret (fun e => by cases e)
      | inr q => exact OK.ret ho
  obtain ⟨⟨i, b⟩, g1, g2⟩ := goal
  exact ⟨i, b, g1, g2⟩
theorem refRead_line {fu : Nat} {x : api_Entry} (hx : wfE x) (hb : bare x) (hf : 1048600 ≤ fu) : tappetref26_Read fu (lineB x) = some (x, true) := by
  obtain ⟨q1, q2, q3, q4⟩ := line_words hx hb.1 hb.2.1
  have hwd := words_eq (fu := fu) q1 q2 q3 (by omega) (by omega)
  refine OK.is ?_
  unfold tappetref26_Read
  rw [hwd]
  simp only [Option.bind_some]
  refine OK.bind2 (R := fun o => o = .inr (x, true)) ?_ (fun o ho => by subst ho; exact OK.ret rfl)
  refine OK.rounds (fun m : Int => 1 ≤ m ∧ m ≤ x.What) (fun m => (18 - m).toNat) (fun m again hm k => ?_) fu 1 ⟨by decide, hb.1⟩ (by show (18 - (1 : Int)).toNat < fu; omega)
  have h17 := hb.2.1
  by_cases he : m = x.What
  · subst he
    rw [read_own hx hb (by omega)]
    exact OK.ret rfl
  · obtain ⟨f, T⟩ := tab hb.1 hb.2.1
    rw [read_skip hm.1 (by omega) (T.other m (by omega) (by omega) he)]
    exact k _ ⟨by omega, by omega⟩ (by show (18 - (m + 1)).toNat < (18 - m).toNat; omega)
/-- both read a line alike -/
theorem read_alike {fu : Nat} {s : ByteArray} (hs : s.size ≤ 1048575) (hf : 1048600 ≤ fu) : (∃ x, good x ∧ trace_line 1000 x = some s ∧ trace_parsed 1000 s = some (x, true) ∧ tappetref26_Read fu s = some (x, true)) ∨
    (∃ i j, trace_parsed 1000 s = some (i, false) ∧ tappetref26_Read fu s = some (j, false)) := by
  obtain ⟨i, b, h1, h2⟩ := parsed_total (s := s) (by omega)
  obtain ⟨j, c, h3, h4⟩ := refRead_total (s := s) (fu := fu) (by omega) hf
  cases b with
  | true =>
    have hp := plain_of (by omega) h1
    have hb := (plain_bare hp.1).1 hp.2.1
    have hl := line_is hp.1 hb.1 hb.2.1
    rw [hp.2.2] at hl
    cases hl
    exact .inl ⟨i, ⟨hp.1, hp.2.1⟩, hp.2.2, h1, refRead_line hp.1 hb hf⟩
  | false =>
    cases c with
    | false => exact .inr ⟨i, j, h1, h3⟩
    | true =>
      obtain ⟨w, hb, hl⟩ := h4 rfl
      have := parsed_line w hb.1 hb.2.1
      rw [hl, h1] at this
      cases this
end Go.Proofs.YtalllncanpcmfaaDoor
