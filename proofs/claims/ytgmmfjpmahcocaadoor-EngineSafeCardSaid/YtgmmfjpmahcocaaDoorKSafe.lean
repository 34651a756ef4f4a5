/- EngineSafe: what the judge knows at each place is so, and the cost bounds the steps. -/
import Derived.Test.YtgmmfjpmahcocaaDoorKEng
set_option linter.unusedVariables false
set_option linter.unusedSimpArgs false
namespace Go.Proofs.YtgmmfjpmahcocaaDoor
open Go.Sx

theorem awake_ok : tappetlaw11_awake 1000 = some true := by decide +kernel
theorem idx_arr {α : Type} (f : Nat → α) {r : Nat} (h : r < 8) : idx (arrL 8 f) (r : Int) = some (f r) := by
  unfold idx
  rw [if_pos (by simp [arrL, h])]
  simp [arrL, h]
theorem Regs_eq (M : engine_Machine) : engine_Machine_Regs M = some (arrL 8 M.regs) := by
  unfold engine_Machine_Regs slices_Clone_uint64_uint64 room
  rw [if_pos (by simp [arrL])]
  simp
theorem safe_l2 {ts : List (List api_Type)} {x : Nat → api_Type} {at_ : Int} {regs : Nat → Int} {e : Int} (ht : idx ts at_ = some (arrL 8 x)) (hw : ∀ r, r < 8 → WT 4 (x r)) (hs : Sems x regs) (hu : U64s regs) :
    forN (tappetlaw11_EngineSafe_l2 (ts, e) at_ (arrL 8 regs)) (fun (s5161 : Unit) => (.inl ())) 8 0 () = some (.inl ()) := by
  refine OK.is (OK.count (Q := fun o => o = Sum.inl ()) (fun _ _ => True) trivial (fun q s again hq _ kk => ?_) (fun _ _ => rfl))
  unfold tappetlaw11_EngineSafe_l2
  simp only [ht, Option.bind_some, idx_arr _ hq]
  have hsq := hs q hq
  have huq := hu q hq
  refine OK.bind2 (R := fun o => o = false) ?_ (fun o ho => by subst ho; exact kk () trivial)
  refine OK.ite (fun e1 => ?_) (fun e1 => OK.ite (fun e2 => OK.ret ?_) (fun _ => OK.ret rfl))
  · have e1 : (x q).Kind = 1 := by simpa using e1
    obtain ⟨a, b⟩ := hsq.1 e1
    refine OK.ite_false (by simp; omega) (OK.ite_false (by simp; omega) (OK.ite_false (by rw [e1]; rfl) (OK.ret rfl)))
  · have e2 : (x q).Kind = 2 := by simpa using e2
    have := hsq.2 e2
    have hb : 0 ≤ (x q).Map ∧ (x q).Map < 4 := by
      rcases hw q hq with h | h | h
      · rw [h] at e2; simp [zeroT] at e2
      · omega
      · exact h.2.2
    rw [wu64_eq hb.1 (by omega), this]
    simp
theorem WT.most {n : Nat} {x : api_Type} (h : WT n x) (hn : n ≤ 4) : WT 4 x := by
  rcases h with h | h | h
  · exact .inl h
  · exact .inr (.inl h)
  · exact .inr (.inr ⟨h.1, h.2.1, h.2.2.1, by have := h.2.2.2; omega⟩)
theorem kind4 {m : api_Module} {j : judge_judge} {M : engine_Machine} {p : Nat} {i : api_Inst} {r : api_Act × engine_Machine} (h : Stepped m j M p i r) :
    (r.1.Kind = 4) ∨ (r.1.Kind = 2 ∧ r.2.state = 1 ∧ i.Op = 21 ∧ i.Imm ≤ 4 ∧ Run m j r.2 p ∧ r.2.turns = M.turns) ∨ (r.1.Kind ≠ 4 ∧ r.1.Kind ≠ 2 ∧ r.2.state = 0 ∧ Came m j M r.2 p) := by
  cases h with
  | ends a b c d => exact .inl b
  | asks a b c d e f => exact .inr (.inl ⟨c, d, a, b, e, f⟩)
  | goes a b c => exact .inr (.inr ⟨by omega, by omega, b, c⟩)
theorem engineSafe_law (p0 : tappetlaw11_Run) (h1 : p0.M.Maps.length * 8 ≤ 140737488355328) (h2 : p0.M.Code.length * 40 ≤ 140737488355328) (hE : u64 p0.E.A ∧ u64 p0.E.B) (hres : ∀ r ∈ p0.Res, u64 r.Val) (h3 : p0.Res.length * 48 ≤ 140737488355328) :
    tappetlaw11_EngineSafe 1000 p0 = some true := by
  refine OK.is ?_
  unfold tappetlaw11_EngineSafe
  rw [awake_ok]
  simp only [Option.bind_some]
  refine OK.ite_false rfl ?_
  rw [copied_eq _ h1 h2]
  simp only [Option.bind_some]
  obtain ⟨o, p, e, hj, hc⟩ := judged_cases p0.M
  rw [Types_ok _ hj (okAt (judged_ok p0.M) hj), show scratch_New = some ⟨⟨fun _ => 0⟩, ⟨fun _ => 0⟩⟩ from rfl]
  simp only [Option.bind_some]
  rcases hc with ⟨he, _⟩ | ⟨rfl, rfl, j, rfl, hS⟩
  · exact OK.ite_true (by simpa using he) (OK.ret rfl)
  refine OK.ite_false rfl ?_
  rw [New_eq h1 h2 hj]
  simp only [Option.bind_some, if_true]
  refine OK.some_ (OK.ite_false rfl ?_)
  have hg := hS.good
  have hlt : (typesOf j).length = p0.M.Code.length := by rw [types_len, hS.up.ji.lenC]
  refine OK.bind2 (OK.count (Q := fun o => o = Sum.inr true)
    (fun k s => ∃ q, Run p0.M j s.1 q ∧ s.1.state = 0 ∧ 0 ≤ s.2 ∧ s.2 ≤ (k : Int) ∧ pot p0.M.Code s.1.turns q p0.M.Code.length + k ≤ 256)
    ⟨0, run0 hS hE _, rfl, by simp, by simp, by have := hg.cost; have := pot_start hg (q := 0); simpa [newM] using (by omega : pot p0.M.Code (fun _ => 0) 0 p0.M.Code.length ≤ 256)⟩ (fun k s again hk hI kk => ?_) (fun s hI => ?_)) (fun o ho => by subst ho; exact OK.ret rfl)
  · obtain ⟨q, hR, h0, hs0, hsk, hp⟩ := hI
    have hq := hR.lt
    unfold tappetlaw11_EngineSafe_l1 engine_Machine_At
    simp only [Option.bind_some]
    obtain ⟨hany, x, hx, hsm⟩ := hR.known
    have hkn : known j q = arrL 8 x := by unfold known; rw [hany, hx]
    have hidx : idx (typesOf j) s.1.at_ = some (arrL 8 x) := by
      rw [hR.at_]
      obtain ⟨y, hy1, hy2⟩ := idx_lt (xs := typesOf j) (p := q) (by omega)
      rw [types_at (by rw [hS.up.ji.lenC]; exact hq), hkn] at hy1
      cases hy1
      exact hy2
    have e1 : decide (s.1.at_ < 0) = false := by rw [hR.at_]; simp
    have e2 : decide (s.1.at_ ≥ ((typesOf j).length : Int)) = false := by rw [hR.at_, hlt]; simp; omega
    rw [e1, e2, hidx]
    simp only [Option.bind_some, Bool.false_eq_true, if_false, arrL_len, bne_self_eq_false, Regs_eq]
    refine OK.ite_false (by simp) (OK.ite_false (by simp) ?_)
    rw [safe_l2 (e := 0) hidx (fun r hr => (hS.up.ji.wt q x hx r hr).most hS.goodM.2.2) hsm hR.u]
    simp only [Option.bind_some]
    obtain ⟨i, hi, _⟩ := idx_lt hq
    refine OK.bind2 (step_ok' hS hR h0 hi) (fun r hr => ?_)
    rcases kind4 hr.1 with e | ⟨e, es, eo, em, eR, et⟩ | ⟨en4, en2, es, q', eR, ep⟩
    · exact OK.ite_true (by simpa using e) (OK.ret rfl)
    · refine OK.ite_false (by rw [e]; rfl) (OK.ite_true (by rw [e]; rfl) ?_)
      refine OK.bind2 (R := fun o => u64 o.Val) ?_ (fun o ho => ?_)
      · refine OK.ite (fun hlt => OK.bind (OK.get hs0 (by simpa using hlt) (fun y hy => OK.ret (hres y (List.mem_of_getElem? hy))))) (fun _ => OK.ret ?_)
        exact wu64_rng _
      refine OK.bind2 (answer_ok hS eR es hi eo em ho) (fun r2 hr2 => ?_)
      obtain ⟨_, b, q', hR', hp'⟩ := hr2
      refine kk _ ⟨q', hR', b, ?_, ?_, ?_⟩
      · show 0 ≤ w64 (s.2 + 1); rw [w64_eq (by omega) (by omega)]; omega
      · show w64 (s.2 + 1) ≤ _; rw [w64_eq (by omega) (by omega)]; omega
      · rw [et] at hp'
        show pot p0.M.Code r2.2.turns q' p0.M.Code.length + ((k + 1 : Nat) : Int) ≤ 256
        omega
    · refine OK.ite_false (by simpa using en4) (OK.ite_false (by simpa using en2) ?_)
      exact kk _ ⟨q', eR, es, hs0, by show s.2 ≤ ((k + 1 : Nat) : Int); omega, by show pot p0.M.Code r.2.turns q' p0.M.Code.length + ((k + 1 : Nat) : Int) ≤ 256; omega⟩
  · exfalso
    obtain ⟨q, hR, h0, _, _, hp⟩ := hI
    have := pot_pos hg hR.fit hR.lt
    omega
end Go.Proofs.YtgmmfjpmahcocaaDoor
