/- Texts KTr3, KTr4, KTr5, K1EngineSteps of this proof. -/
import Derived.Test.YtgmmfjpmahcocaaGreatDoorKAllR
import Derived.Test.YtgmmfjpmahcocaaGreatDoorD1
set_option linter.unusedVariables false
set_option linter.unusedSimpArgs false
namespace Go.Proofs.YtgmmfjpmahcocaaGreatDoor
open Go.Sx
theorem asks_same : ∀ k : Fin 5, ∃ sg l, sigs_of ((k : Nat) : Int) = some (sg, true) /\ sg.asks = ((k : Nat) : Int) /\ sg.isAsked = true /\ sigs_Args 1000 ((k : Nat) : Int) = some l /\ decide ((l.length : Int) > 2) = ((((k : Nat) : Int) == 2) || (((k : Nat) : Int) == 4)) := by
 intro k
 have h : ∀ k : Fin 5, ((sigs_of ((k : Nat) : Int)).map (fun r => r.2 && r.1.isAsked && (r.1.asks == ((k : Nat) : Int)))) = some true /\ ((sigs_Args 1000 ((k : Nat) : Int)).map (fun l => decide ((l.length : Int) > 2) == ((((k : Nat) : Int) == 2) || (((k : Nat) : Int) == 4)))) = some true := by decide +kernel
 obtain ⟨h1, h2⟩ := h k
 obtain ⟨⟨sg, b⟩, g1, g2⟩ := Option.map_eq_some_iff.1 h1
 obtain ⟨l, g3, g4⟩ := Option.map_eq_some_iff.1 h2
 simp only [Bool.and_eq_true, beq_iff_eq] at g2 g4
 obtain ⟨⟨rfl, g5⟩, g6⟩ := g2
 exact ⟨sg, l, g1, g6, g5, g3, g4⟩
theorem told_not : ∀ k : Fin 2, ∃ sg b, sigs_of (((k : Nat) : Int) + 5) = some (sg, b) /\ sg.isAsked = false := by
 intro k
 have h : ∀ k : Fin 2, ((sigs_of (((k : Nat) : Int) + 5)).map (fun r => !r.1.isAsked)) = some true := by decide +kernel
 obtain ⟨⟨sg, b⟩, g1, g2⟩ := Option.map_eq_some_iff.1 (h k)
 exact ⟨sg, b, g1, by simpa using g2⟩
theorem value_same {h : Int} (h0 : 0 <= h) (h4 : h <= 4) (r : api_Res) : sigs_Value h r = tappetref08_Value h r := by
 have : h = 0 \/ h = 1 \/ h = 2 \/ h = 3 \/ h = 4 := by omega
 unfold sigs_Value tappetref08_Value
 rcases this with rfl | rfl | rfl | rfl | rfl
 ·rfl
 ·cases e : r.Found <;> simp [e]
 ·cases e : (r.E == 0) <;> simp [e]
 ·cases e : r.Found <;> simp [e]
 ·rfl
section
variable {m : api_Module} {j : judge_judge} {M : engine_Machine} {p : Nat} {b : tappetref10_Book}
theorem code_at (hR : Run m j M p) {i : api_Inst} (hi : m.Code[p]? = some i) : idx M.module.Code M.at_ = some i /\ idx (st m M b).M.Code (st m M b).At = some i := by
 obtain ⟨x, hx1, hx2⟩ := idx_lt hR.lt
 rw [hi] at hx1; cases hx1
 constructor
 ·rw [hR.mod, hR.at_]; exact hx2
 ·show idx m.Code M.at_ = _
  rw [hR.at_]; exact hx2
theorem wait_same (hR : Run m j M p) (h1 : M.state = 1) : ∃ a, engine_Machine_Step 1000 M = some (a, M) /\ tappetref11_State_Step 1000 (st m M b) = some (a, st m M b) := by
 obtain ⟨i, hi, _⟩ := idx_lt hR.lt
 obtain ⟨c1, c2⟩ := code_at (b := b) hR hi
 have o : ((st m M b).Mode == 1) = true := by show (M.state == 1) = true; rw [h1]; rfl
 unfold engine_Machine_Step tappetref11_State_Step
 rw [c2, if_pos (by rw [h1]; rfl)]
 simp only [Option.bind_some]
 rw [if_pos o]
 exact ⟨_, rfl, rfl⟩
theorem over_same (hg : Good m.Code) (hR : Run m j M p) (h2 : M.state = 2) : ∃ a, engine_Machine_Step 1000 M = some (a, M) /\ tappetref11_State_Step 1000 (st m M b) = some (a, st m M b) := by
 obtain ⟨i, hi, _⟩ := idx_lt hR.lt
 obtain ⟨c1, c2⟩ := code_at (b := b) hR hi
 have hA := right_A (hg.fine.right hi)
 have gA : idx (st m M b).Regs i.A = some (M.regs i.A.toNat) := arrL_get _ hA.1 hA.2
 have o : ((st m M b).Mode == 1) = false := by show (M.state == 1) = false; rw [h2]; rfl
 have o2 : ((st m M b).Mode == 2) = true := by show (M.state == 2) = true; rw [h2]; rfl
 have e1 : (M.state == 1) = false := by rw [h2]; rfl
 have e2 : (M.state == 2) = true := by rw [h2]; rfl
 unfold engine_Machine_Step tappetref11_State_Step
 simp only [c1, c2, e1, e2, o, o2, gA, ain8 hA.1 hA.2, Option.bind_some, Bool.false_eq_true, if_false, if_true]
 exact ⟨_, rfl, rfl⟩
theorem answer_off (h1 : M.state ≠ 1) (c : api_Res) : engine_Machine_Answer M c = some (2, M) /\ tappetref11_State_Answer (st m M b) c = some (2, st m M b) := by
 unfold engine_Machine_Answer tappetref11_State_Answer
 constructor
 ·rw [if_pos (by simpa using h1)]
 ·rw [if_pos (show ((st m M b).Mode != 1) = true by show (M.state != 1) = true; simpa using h1)]
theorem answer_same (hR : Run m j M p) (h1 : M.state = 1) {i : api_Inst} (hi : m.Code[p]? = some i) (h0 : 0 <= i.Imm) (h4 : i.Imm <= 4) (c : api_Res) {r : Int × engine_Machine} (hr : engine_Machine_Answer M c = some r) :
  r.1 = 0 /\ r.2.scratch = M.scratch /\ tappetref11_State_Answer (st m M b) c = some (0, st m r.2 b) := by
 obtain ⟨c1, c2⟩ := code_at (b := b) hR hi
 have o : ((st m M b).Mode != 1) = false := by show (M.state != 1) = false; rw [h1]; rfl
 have e1 : (M.state != 1) = false := by rw [h1]; rfl
 have g0 : idx (st m M b).Regs 0 = some (M.regs 0) := arrL_get _ (by decide) (by decide)
 have set0 : ∀ v, (st m M b).Regs.set (Int.toNat 0) v = arrL 8 (aset M.regs 0 v) := fun v => arrL_set _ _ _
 unfold engine_Machine_Answer at hr
 unfold tappetref11_State_Answer tappetref11_State_on
 simp only [c1, e1, Option.bind_some, Bool.false_eq_true, if_false] at hr
 simp only [c2, o, g0, set0, <- value_same h0 h4, Option.bind_some, Bool.false_eq_true, if_false]
 obtain ⟨v, hv, hr⟩ := bind_some' hr
 cases hr
 rw [hv]
 exact ⟨rfl, rfl, rfl⟩
theorem step_same (hS : Sound m j) (hR : Run m j M p) (h0 : M.state = 0) (hB : Bk M.scratch b) (hb : b.Asks.length <= 800) :
  ∃ a M1 b1, engine_Machine_Step 1000 M = some (a, M1) /\ tappetref11_State_Step 1000 (st m M b) = some (a, st m M1 b1) /\ Bk M1.scratch b1 /\ b1.Asks.length <= b.Asks.length + 1 := by
 obtain ⟨i, hi, _⟩ := idx_lt hR.lt
 obtain ⟨c1, c2⟩ := code_at (b := b) hR hi
 have hg := hS.good
 have hn := hg.n64
 have hlt := hR.lt
 have hr := hg.fine.right hi
 have hop := right_op hr
 have hA := right_A hr
 have gA : idx (st m M b).Regs i.A = some (M.regs i.A.toNat) := arrL_get _ hA.1 hA.2
 have o : ((st m M b).Mode == 1) = false := by show (M.state == 1) = false; rw [h0]; rfl
 have o2 : ((st m M b).Mode == 2) = false := by show (M.state == 2) = false; rw [h0]; rfl
 have e1 : (M.state == 1) = false := by rw [h0]; rfl
 have e2 : (M.state == 2) = false := by rw [h0]; rfl
 obtain ⟨rr, hrr, _⟩ := step_ok' hS hR h0 hi
 have hB0 : Bk (engine_Machine.mk M.Event M.module M.scratch M.regs M.turns M.at_ (w64 (M.steps + 1)) M.state).scratch b := hB
 unfold engine_Machine_Step at hrr
 simp only [c1, e1, e2, Option.bind_some, Bool.false_eq_true, if_false] at hrr
 unfold engine_Machine_Step tappetref11_State_Step
 simp only [c1, c2, e1, e2, o, o2, Option.bind_some, Bool.false_eq_true, if_false]
 rcases Bool.eq_false_or_eq_true (i.Op == 21) with e21 | e21
 ·have e : i.Op = 21 := by simpa using e21
  have him := right_imm hr e
  obtain ⟨n, hn6⟩ := Int.eq_ofNat_of_zero_le him.1
  simp only [e21, if_true] at hrr |-
  have g1 : idx (st m M b).Regs 1 = some (M.regs 1) := arrL_get _ (by decide) (by decide)
  have g2 : idx (st m M b).Regs 2 = some (M.regs 2) := arrL_get _ (by decide) (by decide)
  have g3 : idx (st m M b).Regs 3 = some (M.regs 3) := arrL_get _ (by decide) (by decide)
  have g0 : idx (st m M b).Regs 0 = some (M.regs 0) := arrL_get _ (by decide) (by decide)
  have set0 : ∀ v, (st m M b).Regs.set (Int.toNat 0) v = arrL 8 (aset M.regs 0 v) := fun v => arrL_set _ _ _
  unfold engine_Machine_call sigs_Asks at hrr |-
  unfold tappetref11_State_call tappetref11_State_on
  by_cases h4 : n <= 4
  ·obtain ⟨sg, l, s1, s2, s3, s4, s5⟩ := asks_same ⟨n, by omega⟩
   have s1' : sigs_of i.Imm = some (sg, true) := by rw [hn6]; exact s1
   have s2' : sg.asks = i.Imm := by rw [hn6]; exact s2
   have s4' : sigs_Args 1000 i.Imm = some l := by rw [hn6]; exact s4
   have s5' : decide ((l.length : Int) > 2) = ((i.Imm == 2) || (i.Imm == 4)) := by rw [hn6]; exact s5
   have c4 : decide (i.Imm <= 4) = true := by simp; omega
   simp only [s1', s3, s4', s5', if_true, Option.bind_some] at hrr |-
   have gM : idx (st m M b).M.Maps (M.regs 1) = idx M.module.Maps (M.regs 1) := by show idx m.Maps _ = _; rw [hR.mod]
   simp only [c4, g1, g2, g3, gM, if_true, Option.bind_some]
   cases hm : idx M.module.Maps (M.regs 1) with
   | none => rw [hm] at hrr; cases hrr
   | some mp =>
    simp only [Option.bind_some]
    rcases Bool.eq_false_or_eq_true ((i.Imm == 2) || (i.Imm == 4)) with e6 | e6
    ·simp only [e6, if_true, Option.bind_some, s2']
     exact ⟨_, _, b, rfl, rfl, hB, by omega⟩
    ·simp only [e6, Bool.false_eq_true, if_false, Option.bind_some, s2']
     exact ⟨_, _, b, rfl, rfl, hB, by omega⟩
  ·obtain ⟨sg, bb, s1, s3⟩ := told_not ⟨n - 5, by omega⟩
   have s1' : sigs_of i.Imm = some (sg, bb) := by
    have : i.Imm = (((n - 5 : Nat) : Nat) : Int) + 5 := by omega
    rw [this]; exact s1
   have c4 : decide (i.Imm <= 4) = false := by simp; omega
   simp only [s1', s3, c4, Bool.false_eq_true, if_false, Option.bind_some]
   rcases Bool.eq_false_or_eq_true (i.Imm == 5) with e5 | e5
   ·obtain ⟨v, x, C, b', v1, v2, v3, v4⟩ := mark_same hB hb (w64 (M.regs 1))
    have v2' : tappetref10_Book_Mark 1000 (st m M b).S (w64 (M.regs 1)) = some (v, x, b') := v2
    simp only [e5, if_true, v1, v2', g1, g0, set0, Option.bind_some]
    exact ⟨_, _, b', rfl, rfl, v3, v4⟩
   ·simp only [e5, Bool.false_eq_true, if_false, g1, g0, set0, Option.bind_some]
    exact ⟨_, _, b, rfl, rfl, hB, by omega⟩
 simp only [e21, Bool.false_eq_true, if_false]
 rcases Bool.eq_false_or_eq_true (i.Op == 22) with e22 | e22
 ·simp only [e22, if_true, gA, ain8 hA.1 hA.2, Option.bind_some]
  exact ⟨_, _, b, rfl, rfl, hB, by omega⟩
 simp only [e22, Bool.false_eq_true, if_false]
 have n21 : i.Op ≠ 21 := by simpa using e21
 have n22 : i.Op ≠ 22 := by simpa using e22
 simp only [refGoes_eq, Option.bind_some]
 have hst0 : (tappetref11_State.mk (st m M b).M (st m M b).E (st m M b).S (st m M b).Regs (st m M b).Turns (st m M b).At (w64 ((st m M b).Steps + 1)) (st m M b).Mode) = st m ⟨M.Event, M.module, M.scratch, M.regs, M.turns, M.at_, w64 (M.steps + 1), M.state⟩ b := rfl
 simp only [hst0]
 by_cases hj : i.Op <= 14
 ·obtain ⟨M1, b1, r1, r2, r3, r4, r5, r6⟩ := lays_same (m := m) (M := ⟨M.Event, M.module, M.scratch, M.regs, M.turns, M.at_, w64 (M.steps + 1), M.state⟩) (b := b) hB hb hR.u hr hj
  have hl : (goesB i).2.1 = false := by rw [goes_plain hr (by omega)]
  simp only [hl, Bool.false_eq_true, if_false, Bool.not_false, if_true, r1, r4, Option.bind_some]
  unfold tappetref11_State_on
  refine ⟨_, _, b1, rfl, ?_, r5, r6⟩
  simp only [Option.bind_some]
  have : (st m M1 b1).At = M.at_ := r2
  rw [this]
  rfl
 ·have hld : i.Op = 20 -> 0 <= i.D /\ i.D <= 64 := fun e => by
   have := hg.fine.loop hi e
   omega
  obtain ⟨d, M1, g, r1, r2, r3, r4, r5, r6⟩ := goes_same (m := m) (M := ⟨M.Event, M.module, M.scratch, M.regs, M.turns, M.at_, w64 (M.steps + 1), M.state⟩) (b := b) (p := p) (by omega) hR.at_ hR.u hr (by omega) (by omega) hld
  have hl : (goesB i).2.1 = true := by
   by_cases e : i.Op = 20
   ·rw [goes_loop hr e]
   ·rw [goes_jump hr (by omega) (by omega)]
  simp only [hl, if_true, r1, r5, Option.bind_some]
  have r6 : w64 (M.at_ + d) = (if g then w64 (M.at_ + (goesB i).1) else w64 (M.at_ + 1)) := r6
  have r4 : M1.scratch = M.scratch := r4
  have hat : (st m M1 b).At = M.at_ := r2
  cases g with
  | true =>
   simp only [if_true] at r6 |-
   refine ⟨_, _, b, rfl, ?_, by rw [r4]; exact hB, by omega⟩
   rw [hat, r6]
   rfl
  | false =>
   simp only [Bool.false_eq_true, if_false, Bool.not_true] at r6 |-
   unfold tappetref11_State_on
   refine ⟨_, _, b, rfl, ?_, by rw [r4]; exact hB, by omega⟩
   simp only [Option.bind_some]
   rw [hat, r6]
   rfl
end
end Go.Proofs.YtgmmfjpmahcocaaGreatDoor
set_option linter.unusedVariables false
set_option linter.unusedSimpArgs false
namespace Go.Proofs.YtgmmfjpmahcocaaGreatDoor
open Go.Sx
theorem refnew_bad {m : api_Module} {o : Option judge_judge} {p e : Int} (h : judge_judged 1000 m = some (o, p, e)) (he : e ≠ 0) (E : api_Event) (b : tappetref10_Book) : tappetref11_New 1000 m E b = some (none, e) := by
 obtain ⟨known, q, e2, h1, h2⟩ := all_judge (fu := 1000) (by decide) m
 rw [Judge_eq h] at h1
 cases h1
 unfold tappetref11_New
 rw [h2]
 simp only [Option.bind_some]
 rw [if_pos (by simpa using he)]
theorem refnew_good {m : api_Module} {o : Option judge_judge} {p : Int} (h : judge_judged 1000 m = some (o, p, 0)) (E : api_Event) {S : scratch_Scratch} {b : tappetref10_Book} (hB : Bk S b) (hb : b.Asks.length <= 700) :
  ∃ b', tappetref11_New 1000 m E b = some (some (st m (newM m E S.Counters) b'), 0) /\ Bk (newM m E S.Counters).scratch b' /\ b'.Asks.length <= b.Asks.length + 1 := by
 obtain ⟨known, q, e2, h1, h2⟩ := all_judge (fu := 1000) (by decide) m
 rw [Judge_eq h] at h1
 cases h1
 obtain ⟨b', w1, w2, w3⟩ := wipe_same hB (by omega)
 unfold tappetref11_New
 rw [h2]
 simp only [Option.bind_some]
 rw [if_neg (by decide), w1]
 simp only [Option.bind_some]
 refine ⟨b', ?_, w2, w3⟩
 have m8 : mkLen 8 8 = some 8 := by decide
 have m64 : mkLen 64 8 = some 64 := by decide
 rw [m8, m64]
 rfl
theorem awake_ok : tappetlaw11_awake 1000 = some true := by decide +kernel
end Go.Proofs.YtgmmfjpmahcocaaGreatDoor
set_option linter.unusedVariables false
set_option linter.unusedSimpArgs false
namespace Go.Proofs.YtgmmfjpmahcocaaGreatDoor
open Go.Sx
theorem regs_eq (M : engine_Machine) : engine_Machine_Regs M = some (arrL 8 M.regs) := by
 unfold engine_Machine_Regs slices_Clone_uint64_uint64
 rw [room_ok (by simp [arrL_len])]
 simp
theorem held_same {m : api_Module} {j : judge_judge} (hg : Good m.Code) {M : engine_Machine} {p : Nat} {b : tappetref10_Book} (hR : Run m j M p) : tappetlaw11_held M (st m M b) = some true := by
 obtain ⟨i, hi, _⟩ := idx_lt hR.lt
 obtain ⟨c1, c2⟩ := code_at (b := b) hR hi
 have hA := right_A (hg.fine.right hi)
 have gA : idx (st m M b).Regs i.A = some (M.regs i.A.toNat) := arrL_get _ hA.1 hA.2
 obtain ⟨v, v1, v2⟩ : ∃ v, engine_Machine_Over M = some v /\ tappetref11_State_Over (st m M b) = some v := by
  unfold engine_Machine_Over tappetref11_State_Over
  by_cases h2 : M.state = 2
  ·have e1 : (M.state != 2) = false := by rw [h2]; rfl
   have e2 : ((st m M b).Mode != 2) = false := e1
   simp only [e1, e2, c1, c2, gA, ain8 hA.1 hA.2, Option.bind_some, Bool.false_eq_true, if_false]
   exact ⟨_, rfl, rfl⟩
  ·have e1 : (M.state != 2) = true := by simpa using h2
   have e2 : ((st m M b).Mode != 2) = true := e1
   simp only [e1, e2, if_true]
   exact ⟨_, rfl, rfl⟩
 unfold tappetlaw11_held
 rw [v1, v2, regs_eq]
 simp only [Option.bind_some]
 refine OK.is (OK.bind2 (R := fun o => o = false) ?_ (fun o ho => ?_))
 ·unfold engine_Machine_At engine_Machine_Steps
  simp only [Option.bind_some]
  refine OK.ite_false (by show (M.at_ != M.at_) = false; simp) (OK.ite_false (by show (M.steps != M.steps) = false; simp) (OK.ite_false (by simp) (OK.ite_false (by simp) (OK.ret ?_))))
  rw [arrL_len]; rfl
 subst ho
 refine OK.ite_false rfl (OK.bind2 (OK.count (Q := fun o => o = Sum.inl ()) (fun _ _ => True) trivial (fun q s again hq _ kk => ?_) (fun _ _ => rfl)) (fun o ho => ?_))
 ·unfold tappetlaw11_held_l1
  have g1 : idx (arrL 8 M.regs) (q : Int) = some (M.regs q) := by rw [arrL_get _ (by omega) (by omega)]; simp
  have g2 : idx (st m M b).Regs (q : Int) = some (M.regs q) := g1
  rw [g1, g2]
  simp only [Option.bind_some]
  exact OK.ite_false (by simp) (kk () trivial)
 subst ho
 show OK ((idx (arrL 8 M.regs) 0).bind _) _
 rw [arrL_get _ (by decide) (by decide)]
 exact OK.ret rfl
theorem steps_l3 {m : api_Module} {j : judge_judge} (hS : Sound m j) {p0 : tappetlaw11_Run} (hres : ∀ r ∈ p0.Res, u64 r.Val) {M : engine_Machine} {p : Nat} {b : tappetref10_Book} (hR : Run m j M p) (h0 : M.state = 0) (hB : Bk M.scratch b) (hb : b.Asks.length <= 10) (hp : pot m.Code M.turns p m.Code.length <= 256) :
  OK (forN (tappetlaw11_EngineSteps_l3 1000 p0) (fun (s2198 : engine_Machine × tappetref11_State × Int) => (.inl ())) 520 0 (M, st m M b, 0)) (fun o => o = Sum.inr true) := by
 refine OK.count (fun n (s : engine_Machine × tappetref11_State × Int) => ∃ p b, s.2.1 = st m s.1 b /\ Run m j s.1 p /\ s.1.state = 0 /\ Bk s.1.scratch b /\ b.Asks.length <= 10 + n /\ pot m.Code s.1.turns p m.Code.length + n <= 256 /\ 0 <= s.2.2 /\ s.2.2 <= n)
  ⟨p, b, rfl, hR, h0, hB, by omega, by simpa using hp, Int.le_refl _, by simp⟩ (fun n s again hn hI k => ?_) (fun s hI => ?_)
 ·obtain ⟨M, t, used⟩ := s
  obtain ⟨p, b, ht, hR, h0, hB, hb, hp, hu0, hu⟩ := hI
  simp only at ht hR h0 hB hb hp hu0 hu
  subst ht
  unfold tappetlaw11_EngineSteps_l3
  obtain ⟨i, hi, _⟩ := idx_lt hR.lt
  obtain ⟨r, hs1, hst, _⟩ := step_ok' hS hR h0 hi
  obtain ⟨a, M1, b1, g1, g2, g3, g4⟩ := step_same hS hR h0 hB (by omega)
  rw [g1] at hs1
  cases hs1
  have hR1 : ∃ q, Run m j M1 q := by
   cases hst with
   | ends a b c d => exact ⟨_, d⟩
   | asks a b c d e f g => exact ⟨_, e⟩
   | goes a b c => obtain ⟨q, hq, _⟩ := c; exact ⟨_, hq⟩
  obtain ⟨q1, hR1⟩ := hR1
  refine OK.bind2 (R := fun o => o = (M, false)) ?_ (fun o ho => ?_)
  ·refine OK.ite (fun _ => OK.ite (fun _ => ?_) (fun _ => OK.ret rfl)) (fun _ => OK.ret rfl)
   show OK ((engine_Machine_Answer M _).bind _) _
   rw [(answer_off (m := m) (b := b) (show M.state ≠ 1 by omega) _).1]
   exact OK.ret rfl
  subst ho
  refine OK.ite_false rfl ?_
  refine OK.bind2 (R := fun o => o = (M1, st m M1 b1, false)) ?_ (fun o ho => ?_)
  ·show OK ((engine_Machine_Step 1000 M).bind _) _
   rw [g1]
   show OK ((tappetref11_State_Step 1000 (st m M b)).bind _) _
   rw [g2]
   simp only [Option.bind_some]
   refine OK.ite_false (by simp) ?_
   show OK ((tappetlaw11_held M1 (st m M1 b1)).bind _) _
   rw [held_same hS.good hR1]
   exact OK.ret rfl
  subst ho
  refine OK.ite_false rfl ?_
  cases hst with
  | ends e1 e2 e3 e4 =>
   simp only at e3
   refine OK.ite_true (by show (M1.state == 2) = true; rw [e3]; rfl) ?_
   obtain ⟨a2, w1, w2⟩ := over_same (b := b1) hS.good hR1 e3
   refine OK.bind2 (R := fun o => o = true) ?_ (fun o ho => by subst ho; exact OK.ret rfl)
   show OK ((engine_Machine_Step 1000 M1).bind _) _
   rw [w1]
   show OK ((tappetref11_State_Step 1000 (st m M1 b1)).bind _) _
   rw [w2]
   simp only [Option.bind_some]
   refine OK.ite_true (by simp) ?_
   show OK ((engine_Machine_Answer M1 _).bind _) _
   rw [(answer_off (m := m) (b := b1) (show M1.state ≠ 1 by omega) _).1]
   simp only [Option.bind_some]
   refine OK.ite_true rfl ?_
   show OK ((tappetlaw11_held M1 (st m M1 b1)).bind _) _
   rw [held_same hS.good hR1]
   exact OK.ret rfl
  | asks e1 e2 e3 e4 e5 e6 e7 =>
   simp only at e4 e5 e6
   refine OK.ite_false (by show (M1.state == 2) = false; rw [e4]; rfl) (OK.ite_false (by show (M1.state != 1) = false; rw [e4]; rfl) ?_)
   obtain ⟨a2, w1, w2⟩ := wait_same (b := b1) e5 e4
   show OK ((engine_Machine_Step 1000 M1).bind _) _
   rw [w1]
   show OK ((tappetref11_State_Step 1000 (st m M1 b1)).bind _) _
   rw [w2]
   simp only [Option.bind_some]
   refine OK.ite_false (by simp) (OK.ite (fun _ => ?_) (fun hl => ?_))
   ·show OK ((tappetlaw11_held M1 (st m M1 b1)).bind _) _
    rw [held_same hS.good hR1]
    exact OK.ret rfl
   ·have hl : used < p0.Res.length := by
     have := of_decide_eq_false hl
     omega
    have him := right_imm (hS.good.fine.right hi) e1
    refine OK.bind2 (R := fun o => ∃ M2 q, o = (M2, st m M2 b1, false) /\ Run m j M2 q /\ M2.state = 0 /\ M2.scratch = M1.scratch /\ pot m.Code M2.turns q m.Code.length + 1 <= pot m.Code M1.turns p m.Code.length) ?_ (fun o ho => ?_)
    ·refine OK.bind (OK.get hu0 hl (fun c hc => ?_))
     obtain ⟨⟨e, M2⟩, hr2, he, s0, q, hR2, hq, hN⟩ := answer_ok hS e5 e4 hi e1 e2 (hres c (List.mem_of_getElem? hc))
     obtain ⟨_, x2, x3⟩ := answer_same (b := b1) e5 e4 hi him.1 e2 c hr2
     simp only at he s0 hR2 hq x2 x3
     subst he
     show OK ((engine_Machine_Answer M1 c).bind _) _
     rw [hr2]
     simp only [Option.bind_some]
     refine OK.ite_false rfl ?_
     show OK ((tappetref11_State_Answer (st m M1 b1) c).bind _) _
     rw [x3]
     simp only [Option.bind_some]
     refine OK.ite_false rfl ?_
     show OK ((tappetlaw11_held M2 (st m M2 b1)).bind _) _
     rw [held_same hS.good hR2]
     exact OK.ret ⟨M2, q, rfl, hR2, s0, x2, hq⟩
    ·obtain ⟨M2, q, rfl, hR2, s0, x2, hq⟩ := ho
     refine OK.ite_false rfl ?_
     rw [e6] at hq
     have e9 : w64 (used + 1) = used + 1 := w64_eq (by omega) (by omega)
     exact k _ ⟨q, b1, rfl, hR2, s0, by show Bk M2.scratch b1; rw [x2]; exact g3, by omega, by show pot m.Code M2.turns q m.Code.length + _ <= 256; omega, by show 0 <= w64 (used + 1); omega, by show w64 (used + 1) <= _; omega⟩
  | goes e1 e2 e3 =>
   simp only at e2 e3
   obtain ⟨q, hR2, hq, _⟩ := e3
   refine OK.ite_false (by show (M1.state == 2) = false; rw [e2]; rfl) (OK.ite_true (by show (M1.state != 1) = true; rw [e2]; rfl) ?_)
   exact k _ ⟨q, b1, rfl, hR2, e2, g3, by omega, by show pot m.Code M1.turns q m.Code.length + _ <= 256; omega, hu0, by show used <= _; omega⟩
 ·obtain ⟨p, b, _, hR, _, _, _, hp, _, _⟩ := hI
  have := pot_pos hS.good hR.fit hR.lt
  omega
theorem wipes_c {l : List api_Inst} (hl : l.length <= 900) : OK (loop tappetlaw11_EngineSteps_l1 1000 (l, 0)) (fun _ => True) := by
 refine OK.rounds (fun (s : (List api_Inst) × Int) => s.1.length <= 900 /\ 0 <= s.2 /\ s.2 <= s.1.length) (fun s => (s.1.length - s.2).toNat) (fun s again hI k => ?_) 1000 _ ⟨hl, Int.le_refl _, by simp⟩ (by simp; omega)
 obtain ⟨a, b, c⟩ := hI
 unfold tappetlaw11_EngineSteps_l1
 refine OK.ite (fun h => OK.bind (OK.get b (by simpa using h) (fun x _ => ?_))) (fun _ => OK.ret trivial)
 have h : s.2 < s.1.length := by simpa using h
 have e : w64 (s.2 + 1) = s.2 + 1 := w64_eq (by omega) (by omega)
 rw [e]
 exact k _ ⟨by simpa using a, by show 0 <= s.2 + 1; omega, by show s.2 + 1 <= ((s.1.set _ _).length : Int); rw [List.length_set]; omega⟩ (by show (((s.1.set _ _).length : Int) - (s.2 + 1)).toNat < _; rw [List.length_set]; omega)
theorem wipes_m {l : List Int} (hl : l.length <= 900) : OK (loop tappetlaw11_EngineSteps_l2 1000 (l, 0)) (fun _ => True) := by
 refine OK.rounds (fun (s : (List Int) × Int) => s.1.length <= 900 /\ 0 <= s.2 /\ s.2 <= s.1.length) (fun s => (s.1.length - s.2).toNat) (fun s again hI k => ?_) 1000 _ ⟨hl, Int.le_refl _, by simp⟩ (by simp; omega)
 obtain ⟨a, b, c⟩ := hI
 unfold tappetlaw11_EngineSteps_l2
 refine OK.ite (fun h => OK.bind (OK.get b (by simpa using h) (fun x _ => ?_))) (fun _ => OK.ret trivial)
 have h : s.2 < s.1.length := by simpa using h
 have e : w64 (s.2 + 1) = s.2 + 1 := w64_eq (by omega) (by omega)
 rw [e]
 exact k _ ⟨by simpa using a, by show 0 <= s.2 + 1; omega, by show s.2 + 1 <= ((s.1.set _ _).length : Int); rw [List.length_set]; omega⟩ (by show (((s.1.set _ _).length : Int) - (s.2 + 1)).toNat < _; rw [List.length_set]; omega)
theorem start_same : ∃ W C b, scratch_Words_Store ⟨fun _ => 0⟩ 4 44 = some (0, W) /\ scratch_Counters_Raise 1000 ⟨fun _ => 0⟩ ([1, 2, 3] : List Int) = some C /\ (∃ x b0, tappetref10_Book_Store ⟨[]⟩ 4 44 = some (x, b0) /\ tappetref10_Book_Raise 1000 b0 ([1, 2, 3] : List Int) = some b) /\ Bk ⟨W, C⟩ b /\ b.Asks.length <= 4 := by
 refine ⟨⟨aset (fun _ => 0) 4 44⟩, ⟨aset (aset (aset (fun _ => 0) 0 1) 1 2) 2 3⟩, ⟨[⟨1, 4, 44⟩, ⟨3, 0, 1⟩, ⟨3, 1, 2⟩, ⟨3, 2, 3⟩]⟩, rfl, rfl, ⟨0, ⟨[⟨1, 4, 44⟩]⟩, rfl, rfl⟩, ⟨fun t h0 h1 => ?_, fun t h0 h1 => ?_⟩, by simp⟩
 ·have key : ∀ n : Fin 16, bwR [tappetref10_Ask.mk 3 2 3, ⟨3, 1, 2⟩, ⟨3, 0, 1⟩, ⟨1, 4, 44⟩] ((n : Nat) : Int) = aset (fun _ => (0 : Int)) 4 44 (n : Nat) := by decide +kernel
  have := key ⟨t.toNat, by omega⟩
  rw [show (((⟨t.toNat, by omega⟩ : Fin 16) : Nat) : Int) = t by simp; omega] at this
  exact this
 ·have key : ∀ n : Fin 16, cs [tappetref10_Ask.mk 1 4 44, ⟨3, 0, 1⟩, ⟨3, 1, 2⟩, ⟨3, 2, 3⟩] ((n : Nat) : Int) = aset (aset (aset (fun _ => (0 : Int)) 0 1) 1 2) 2 3 (n : Nat) := by decide +kernel
  have := key ⟨t.toNat, by omega⟩
  rw [show (((⟨t.toNat, by omega⟩ : Fin 16) : Nat) : Int) = t by simp; omega] at this
  exact this
theorem engineSteps_law (p0 : tappetlaw11_Run) (h1 : p0.M.Maps.length * 8 <= 140737488355328) (h2 : p0.M.Code.length * 40 <= 140737488355328) (hE : u64 p0.E.A /\ u64 p0.E.B) (hres : ∀ r ∈ p0.Res, u64 r.Val) (h3 : p0.Res.length * 48 <= 140737488355328) :
  tappetlaw11_EngineSteps 1000 p0 = some true := by
 unfold tappetlaw11_EngineSteps
 rw [awake_ok]
 obtain ⟨W, C, b, k1, k2, ⟨x, b0, k3, k4⟩, hB, hb⟩ := start_same
 obtain ⟨o, p, e, hj, hc⟩ := judged_cases p0.M
 have sn : scratch_New = some ⟨⟨fun _ => 0⟩, ⟨fun _ => 0⟩⟩ := rfl
 simp only [sn, Option.bind_some, copied_eq _ h1 h2, Bool.not_true, Bool.false_eq_true, if_false, k1, k2, k3, k4, Judge_eq hj]
 rcases hc with ⟨he, _⟩ | ⟨rfl, rfl, j, rfl, hS⟩
 ·have he' : (e != 0) = true := by simpa using he
  simp only [he', if_true, refnew_bad hj he, Option.bind_some]
  show some (e == e) = some true
  simp
 ·obtain ⟨b', n1, n2, n3⟩ := refnew_good hj p0.E (S := ⟨W, C⟩) hB (by omega)
  have hz := sumT_nonneg hS.good.fine p0.M.Code.length
  have hcost := hS.good.cost
  have hps := pot_start hS.good (q := 0)
  have z : ((0 : Int) != 0) = false := rfl
  simp only [z, Bool.false_eq_true, if_false, Option.bind_some, scratch_Words_Wipe, clone_i h1, clone_c h2, n1]
  have hn64 := hS.good.n64
  have hm4 := hS.goodM.2.2
  refine OK.is ?_
  show OK ((loop tappetlaw11_EngineSteps_l1 1000 (p0.M.Code, 0)).bind _) _
  refine OK.bind2 (wipes_c (by omega)) (fun _ _ => OK.bind2 (wipes_m (by omega)) (fun _ _ => ?_))
  refine OK.bind2 (steps_l3 hS hres (run0 hS hE C) rfl n2 (by omega) (by show pot p0.M.Code (fun _ => 0) 0 p0.M.Code.length <= _; omega)) (fun o ho => ?_)
  subst ho
  exact OK.ret rfl
end Go.Proofs.YtgmmfjpmahcocaaGreatDoor
set_option linter.unusedSimpArgs false
set_option linter.unusedVariables false
namespace Go.Proofs.YtgmmfjpmahcocaaGreatDoor
open Go.Sx
theorem lit_u64 {n : Int} (h : (Lit.int .u64 n).wf = true) : u64 n := by
 simp only [Lit.wf, Bool.and_eq_true, decide_eq_true_eq] at h
 exact ⟨h.1, Int.lt_of_le_of_lt h.2 (by decide)⟩
theorem engineSteps_true (p0 : tappetlaw11_Run) (g0 : G_tappetlaw11_Run p0) : ∃ fu, tappetlaw11_EngineSteps fu p0 = some true := by
 obtain ⟨gM, gE, gR, _⟩ := g0
 refine ⟨1000, engineSteps_law p0 ?_ ?_ ⟨lit_u64 gE.1, lit_u64 gE.2⟩ (fun r hr => lit_u64 (gR.2 r hr).2.2.1) ?_⟩
 ·have := gM.1.1; simp only [reachBytes] at this; omega
 ·have := gM.2.1; simp only [reachBytes] at this; omega
 ·have := gR.1; simp only [reachBytes] at this; omega
end Go.Proofs.YtgmmfjpmahcocaaGreatDoor
