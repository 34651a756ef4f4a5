/- Decode answers for all bytes; the maps of what it takes apart are a module's. -/
import Derived.Test.YtdnogiegiclcfaaGreatDoorKJudged
set_option linter.unusedVariables false
set_option linter.unusedSimpArgs false
namespace Go.Proofs.YtdnogiegiclcfaaGreatDoor
open Go.Sx

def GetOK (b : List Int) (r : Int × Int × Int) : Prop := 0 ≤ r.1 ∧ 0 ≤ r.2.1 ∧ r.2.1 ≤ b.length
theorem w64_lo {x : Int} (h : -9223372036854775808 ≤ x) (h2 : x < 9223372036854775808) : w64 x = x := w64_eq h (by omega)
theorem get_ok {b : List Int} (hb : b.length ≤ 140737488355328) : OK (leb_Get b) (GetOK b) := by
  unfold leb_Get
  refine OK.bind2 (OK.count (Q := fun o => match o with | .inl _ => True | .inr r => GetOK b r) (fun i s => i ≤ 9 ∧ 0 ≤ s) ⟨by omega, by omega⟩ (fun i s again hi hI k => ?_) (fun s hI => trivial)) (fun o ho => ?_)
  · unfold leb_Get_l1
    refine OK.getN hi (fun x hx => ?_) |> OK.bind
    refine OK.ite (fun _ => OK.ret ⟨by simp, by simp, by simp⟩) (fun hc => ?_)
    have h7 : w64 (7 * (i : Int)) = 7 * (i : Int) := w64_lo (by omega) (by omega)
    rw [h7, nn_some (by omega)]
    simp only [Option.bind_some]
    have hr := rng_or s (bShl .u64 (wu64 (bAnd .u8 x 127)) (7 * (i : Int)))
    refine OK.ite (fun hlt => OK.ret ⟨hr.1, ?_, ?_⟩) (fun hge => k _ ⟨?_, hr.1⟩)
    · simp only
      rw [w64_lo (by omega) (by omega)]; omega
    · simp only
      rw [w64_lo (by omega) (by omega)]; omega
    · -- the tenth byte is at most 1
      simp only [Bool.or_eq_false_iff, Bool.and_eq_false_iff, decide_eq_false_iff_not, beq_eq_false_iff_ne, ne_eq] at hc hge
      have : i ≠ 9 := by
        intro e
        subst e
        rcases hc.1 with h | h
        · exact h rfl
        · exact hge (by omega)
      omega
  · cases o with
    | inl _ => exact OK.ret ⟨by simp, by simp, by simp⟩
    | inr r => exact OK.ret ho
theorem getInt_ok {b : List Int} (hb : b.length ≤ 140737488355328) : OK (leb_GetInt b) (fun r => 0 ≤ r.2.1 ∧ r.2.1 ≤ b.length) := by
  unfold leb_GetInt
  refine OK.bind2 (get_ok hb) (fun r hr => OK.ret ⟨hr.2.1, hr.2.2⟩)

structure RI (b : List Int) (r : wire_reader) : Prop where
  eb : r.b = b
  lo : 0 ≤ r.at_
  hi : r.at_ ≤ b.length + 1
  ok : r.e = 0 → r.at_ ≤ b.length
theorem fail_ok {b : List Int} {r : wire_reader} (h : RI b r) {e : Int} (he : e ≠ 0) : OK (wire_reader_fail r e) (fun r' => RI b r' ∧ r'.e ≠ 0) := by
  unfold wire_reader_fail
  refine OK.ite (fun _ => OK.ret ⟨⟨h.eb, h.lo, h.hi, fun e0 => absurd e0 he⟩, he⟩) (fun hn => OK.ret ⟨h, by simpa using hn⟩)
theorem begin_ok {b : List Int} (hb : b.length ≤ 140737488355328) : OK (wire_reader_begin 1000 ⟨b, 0, 0, 0⟩) (RI b) := by
  unfold wire_reader_begin
  refine OK.bind2 (OK.rounds (Q := RI b) (RI b) (fun s => (3 - s.at_).toNat) ?_ 1000 _ ⟨rfl, by simp, by simp; omega, fun _ => by simp⟩ (by simp)) (fun _ h => OK.ret h)
  intro s again h k
  unfold wire_reader_begin_l1
  refine OK.ite (fun hc => ?_) (fun _ => OK.ret h)
  simp only [Bool.and_eq_true, decide_eq_true_eq, beq_iff_eq] at hc
  have h1 := h.lo
  have h2 := h.ok hc.2
  have hw : w64 (s.at_ + 1) = s.at_ + 1 := w64_lo (by omega) (by omega)
  have hI : RI b ⟨s.b, s.at_, s.at_, s.e⟩ := ⟨h.eb, h.lo, h.hi, h.ok⟩
  refine OK.bind2 (R := fun o => o.b = b ∧ o.at_ = s.at_ ∧ (o.e = 0 → s.at_ < b.length)) ?_ (fun o ho => ?_)
  · refine OK.ite (fun hge => ?_) (fun hlt => ?_)
    · unfold wire_reader_fail
      refine OK.bind2 (R := fun o => o.b = b ∧ o.at_ = s.at_ ∧ o.e ≠ 0) (OK.ite (fun _ => OK.ret ⟨h.eb, rfl, show (_ : Int) ≠ 0 from (by simp)⟩) (fun hn => OK.ret ⟨h.eb, rfl, by simpa using hn⟩)) (fun o ho => OK.ret ⟨ho.1, ho.2.1, fun e => absurd e ho.2.2⟩)
    · have hlt' : s.at_ < b.length := by
        have e := h.eb
        simp [e] at hlt
        omega
      refine OK.bind (OK.get h1 (by rw [h.eb]; exact hlt') (fun x hx => ?_))
      have hs : ∃ c, sidx (⟨[84, 80, 1].toArray⟩) s.at_ = some c := by
        have : s.at_ = 0 ∨ s.at_ = 1 ∨ s.at_ = 2 := by omega
        rcases this with e | e | e <;> rw [e] <;> exact ⟨_, rfl⟩
      obtain ⟨c, hs⟩ := hs
      rw [hs]
      simp only [Option.bind_some]
      refine OK.ite (fun _ => ?_) (fun _ => OK.ret ⟨h.eb, rfl, fun _ => hlt'⟩)
      unfold wire_reader_fail
      refine OK.bind2 (R := fun o => o.b = b ∧ o.at_ = s.at_ ∧ o.e ≠ 0) (OK.ite (fun _ => OK.ret ⟨h.eb, rfl, show (_ : Int) ≠ 0 from (by simp)⟩) (fun hn => OK.ret ⟨h.eb, rfl, by simpa using hn⟩)) (fun o ho => OK.ret ⟨ho.1, ho.2.1, fun e => absurd e ho.2.2⟩)
  · obtain ⟨h3, h4, h5⟩ := ho
    rw [h4, hw]
    exact k _ ⟨h3, by simp; omega, by simp; omega, fun e => by have := h5 e; simp; omega⟩ (by simp; omega)
theorem number_ok {b : List Int} (hb : b.length ≤ 140737488355328) {r : wire_reader} (h : RI b r) {m e : Int} (h0 : 0 ≤ m) (hm : m < 1000) (he : e ≠ 0) :
    OK (wire_reader_number r m e) (fun p => RI b p.2 ∧ 0 ≤ p.1 ∧ p.1 ≤ m) := by
  unfold wire_reader_number
  refine OK.ite (fun hc => OK.ret ⟨h, by simp, by simpa using h0⟩) (fun hc => ?_)
  have e0 : r.e = 0 := by simpa using hc
  have h1 := h.lo
  have h2 := h.ok e0
  rw [h.eb]
  have hcut : cut b r.at_ (b.length : Int) = some (b.drop r.at_.toNat) := by
    unfold cut
    rw [if_pos ⟨h1, by omega, by omega⟩]
    simp
  rw [hcut]
  simp only [Option.bind_some]
  refine OK.bind2 (get_ok (by simp; omega)) (fun g hg => ?_)
  have hg2 := hg.2.2
  have hg1 := hg.2.1
  simp only [List.length_drop] at hg2
  have hw : w64 (r.at_ + g.2.1) = r.at_ + g.2.1 := w64_lo (by omega) (by omega)
  rw [hw]
  have hI : RI b ⟨b, r.at_ + g.2.1, r.at_, r.e⟩ := ⟨rfl, by simp; omega, by simp; omega, fun _ => by simp; omega⟩
  refine OK.ite (fun hbad => ?_) (fun _ => OK.ite (fun _ => ?_) (fun hle => OK.ret ⟨hI, ?_, ?_⟩))
  · refine OK.bind2 (fail_ok hI (by simpa using hbad)) (fun q hq => OK.ret ⟨hq.1, by simp, by simpa using h0⟩)
  · refine OK.bind2 (fail_ok hI he) (fun q hq => OK.ret ⟨hq.1, by simp, by simpa using h0⟩)
  · have : g.1 ≤ m := by simpa using hle
    rw [w64_lo (by have := hg.1; omega) (by omega)]; exact hg.1
  · have : g.1 ≤ m := by simpa using hle
    rw [w64_lo (by have := hg.1; omega) (by omega)]; exact this
theorem opsRight1 (i : api_Inst) : OK (ops_Right [i]) (fun _ => True) := by
  unfold ops_Right
  refine OK.bind2 (OK.count (Q := fun _ => True) (fun _ _ => True) trivial (fun j s again hj _ k => ?_) (fun _ _ => trivial)) (fun o _ => ?_)
  · unfold ops_Right_l1
    refine OK.bind (OK.getN hj (fun x hx => ?_))
    rw [opsRight_eq]
    simp only [Option.bind_some]
    exact OK.ite (fun _ => OK.ret trivial) (fun _ => k _ trivial)
  · cases o <;> exact OK.ret trivial
theorem inst_ok {b : List Int} (hb : b.length ≤ 140737488355328) {r : wire_reader} (h : RI b r) : OK (wire_reader_inst r) (fun p => RI b p.2) := by
  unfold wire_reader_inst
  refine OK.bind2 (number_ok hb h (by decide) (by decide) (by decide)) (fun a ha => ?_)
  refine OK.bind2 (number_ok hb ha.1 (by decide) (by decide) (by decide)) (fun c hc => ?_)
  refine OK.bind2 (number_ok hb hc.1 (by decide) (by decide) (by decide)) (fun d hd => ?_)
  refine OK.bind2 (number_ok hb hd.1 (by decide) (by decide) (by decide)) (fun f hf => ?_)
  have hF := hf.1
  refine OK.ite (fun _ => OK.ret hF) (fun hc0 => ?_)
  have e0 : f.2.e = 0 := by simpa using hc0
  have h1 := hF.lo
  have h2 := hF.ok e0
  rw [hF.eb]
  have hcut : cut b f.2.at_ (b.length : Int) = some (b.drop f.2.at_.toNat) := by
    unfold cut
    rw [if_pos ⟨h1, by omega, by omega⟩]
    simp
  rw [hcut]
  simp only [Option.bind_some]
  refine OK.bind2 (getInt_ok (by simp; omega)) (fun g hg => ?_)
  have hg2 := hg.2
  have hg1 := hg.1
  simp only [List.length_drop] at hg2
  have hw : w64 (f.2.at_ + g.2.1) = f.2.at_ + g.2.1 := w64_lo (by omega) (by omega)
  rw [hw]
  have hI : ∀ q, RI b ⟨b, f.2.at_ + g.2.1, q, f.2.e⟩ := fun q => ⟨rfl, by simp; omega, by simp; omega, fun _ => by simp; omega⟩
  refine OK.ite (fun hbad => ?_) (fun _ => OK.bind2 (opsRight1 _) (fun t _ => OK.ite (fun _ => ?_) (fun _ => OK.ret (hI _))))
  · exact OK.bind2 (fail_ok (hI _) (by simpa using hbad)) (fun q hq => OK.ret hq.1)
  · exact OK.bind2 (fail_ok (hI _) (by decide)) (fun q hq => OK.ret hq.1)
theorem decode_ok {b : List Int} (hb : b.length ≤ 140737488355328) : OK (wire_Decode 1000 b) (fun r => r.2.2 = 0 → GoodM r.1.Maps ∧ r.1.Code.length ≤ 64) := by
  unfold wire_Decode
  refine OK.bind2 (begin_ok hb) (fun r0 h0 => ?_)
  refine OK.bind2 (number_ok hb h0 (by decide) (by decide) (by decide)) (fun n hn => ?_)
  refine OK.bind2 (OK.rounds (Q := fun o => RI b o.1 ∧ (∀ x ∈ o.2, 0 ≤ x ∧ x < 4) ∧ o.2.Nodup ∧ (o.2.length : Int) ≤ 4)
    (fun s => RI b s.1 ∧ (∀ x ∈ s.2.1, 0 ≤ x ∧ x < 4) ∧ s.2.1.Nodup ∧ s.2.2 = s.2.1.length ∧ s.2.2 ≤ n.1) (fun s => (n.1 - s.2.2).toNat) ?_ 1000 _ ?_ ?_) (fun o ho => ?_)
  · intro s again h k
    obtain ⟨h1, h2, h3, h4, h5⟩ := h
    unfold wire_Decode_l1
    refine OK.ite (fun hc => ?_) (fun _ => OK.ret ⟨h1, h2, h3, by simp; omega⟩)
    have hlt : s.2.2 < n.1 := by simpa using hc
    refine OK.bind2 (number_ok hb h1 (by decide) (by decide) (by decide)) (fun q hq => ?_)
    rw [contains_eq]
    simp only [Option.bind_some]
    refine OK.bind2 (R := fun o => RI b o ∧ (o.e = 0 → q.1 ∉ s.2.1)) (OK.ite (fun hct => OK.bind2 (fail_ok hq.1 (by decide)) (fun z hz => OK.ret ⟨hz.1, fun e => absurd e hz.2⟩)) (fun hct => OK.ret ⟨hq.1, fun _ => by simpa using hct⟩)) (fun o ho => ?_)
    refine OK.ite (fun _ => OK.ret ⟨ho.1, h2, h3, by simp; omega⟩) (fun he => ?_)
    have hnin := ho.2 (by simpa using he)
    refine OK.bind (OK.hasRoom (by simp; omega) ?_)
    have hw : w64 (s.2.2 + 1) = s.2.2 + 1 := w64_lo (by omega) (by omega)
    rw [hw]
    refine k _ ⟨ho.1, ?_, ?_, by simp; omega, by simp; omega⟩ (by simp; omega)
    · intro x hx
      rcases List.mem_append.1 hx with hx | hx
      · exact h2 x hx
      · simp at hx; subst hx; exact ⟨hq.2.1, by have := hq.2.2; omega⟩
    · simp only
      rw [List.nodup_append]
      refine ⟨h3, by simp, fun a ha c hc e => ?_⟩
      simp at hc
      subst hc; subst e
      exact hnin ha
  · exact ⟨hn.1, by simp, by simp, by simp, hn.2.1⟩
  · have := hn.2.2; simp; omega
  refine OK.bind2 (number_ok hb ho.1 (by decide) (by decide) (by decide)) (fun c hc => ?_)
  refine OK.bind2 (R := RI b) (OK.ite (fun _ => OK.bind2 (fail_ok hc.1 (by decide)) (fun z hz => OK.ret hz.1)) (fun _ => OK.ret hc.1)) (fun r2 h2 => ?_)
  refine OK.bind2 (OK.rounds (Q := fun o => RI b o.1 ∧ (o.2.length : Int) ≤ 64) (fun s => RI b s.1 ∧ s.2.2 = s.2.1.length ∧ s.2.2 ≤ c.1) (fun s => (c.1 - s.2.2).toNat) ?_ 1000 _ ?_ ?_) (fun o2 ho2 => ?_)
  · intro s again h k
    obtain ⟨h1, h3, h4⟩ := h
    have hc2 := hc.2.2
    unfold wire_Decode_l2
    refine OK.ite (fun hcc => ?_) (fun _ => OK.ret ⟨h1, by simp; omega⟩)
    simp only [Bool.and_eq_true, decide_eq_true_eq, beq_iff_eq] at hcc
    refine OK.bind2 (inst_ok hb h1) (fun q hq => ?_)
    refine OK.bind (OK.hasRoom (by simp; omega) ?_)
    have hw : w64 (s.2.2 + 1) = s.2.2 + 1 := w64_lo (by omega) (by omega)
    rw [hw]
    exact k _ ⟨hq, by simp; omega, by simp; omega⟩ (by simp; omega)
  · exact ⟨h2, by simp, hc.2.1⟩
  · have := hc.2.2; simp; omega
  refine OK.bind2 (R := fun _ => True) (OK.ite (fun hcc => OK.bind2 (fail_ok (b := b) (r := ⟨o2.1.b, o2.1.at_, o2.1.at_, o2.1.e⟩) ⟨ho2.1.eb, ho2.1.lo, ho2.1.hi, ho2.1.ok⟩ (e := 13) (by decide)) (fun z hz => OK.ret trivial)) (fun _ => OK.ret trivial)) (fun r3 _ => ?_)
  refine OK.ite (fun he => OK.ret (fun h => ?_)) (fun _ => OK.ret (fun _ => ⟨⟨ho.2.1, ho.2.2.1, by have := ho.2.2.2; simp; omega⟩, by have := ho2.2; simp; omega⟩))
  exact absurd h (by simpa using he)
end Go.Proofs.YtdnogiegiclcfaaGreatDoor
