/- A machine that is always answered: its trace ends within the measure, along Next. -/
import Derived.Test.YtgmmfjpmahcocaaGreatDoorKEng
import Derived.Test.YtgmmfjpmahcocaaGreatDoorKNx
set_option linter.unusedVariables false
set_option linter.unusedSimpArgs false
namespace Go.Proofs.YtgmmfjpmahcocaaGreatDoor
open Go.Sx

def Nxt (m : api_Module) (p q : Nat) : Prop := ∃ i, m.Code[p]? = some i ∧ (q : Int) ∈ nx i p
inductive Chain (m : api_Module) : Nat → List api_Act → Prop
  | last {p : Nat} {a : api_Act} : a.Pc = (p : Int) → a.Kind = 4 → p < m.Code.length → Chain m p [a]
  | more {p q : Nat} {a : api_Act} {l : List api_Act} : a.Pc = (p : Int) → p < m.Code.length → (a.Kind = 2 → a.Item.Map ∈ m.Maps ∧ 0 ≤ a.Item.Op ∧ a.Item.Op < 5) → Nxt m p q → Chain m q l → Chain m p (a :: l)
theorem Chain.head {m : api_Module} {p : Nat} {l : List api_Act} (h : Chain m p l) : ∃ a t, l = a :: t ∧ a.Pc = (p : Int) := by
  cases h with
  | last a b c => exact ⟨_, _, rfl, a⟩
  | more a b c d e => exact ⟨_, _, rfl, a⟩
theorem Chain.at {m : api_Module} {p : Nat} {l : List api_Act} (h : Chain m p l) : ∀ (i : Nat) (a : api_Act), l[i]? = some a → ∃ pa : Nat, a.Pc = (pa : Int) ∧ pa < m.Code.length ∧ (a.Kind = 2 → a.Item.Map ∈ m.Maps ∧ 0 ≤ a.Item.Op ∧ a.Item.Op < 5) ∧ (i + 1 < l.length → ∃ b q, l[i + 1]? = some b ∧ b.Pc = ((q : Nat) : Int) ∧ Nxt m pa q) := by
  induction h with
  | @last p a h1 h2 h3 =>
    intro i b hb
    cases i with
    | zero => simp at hb; subst hb; exact ⟨p, h1, h3, fun h => by omega, fun h => by simp at h⟩
    | succ i => simp at hb
  | @more p q a l h1 h2 h3 h4 h5 ih =>
    intro i b hb
    cases i with
    | zero =>
      simp at hb; subst hb
      obtain ⟨b, t, rfl, hbq⟩ := h5.head
      exact ⟨p, h1, h2, h3, fun _ => ⟨b, q, by simp, hbq, h4⟩⟩
    | succ i =>
      obtain ⟨pa, x1, x2, x3, x4⟩ := ih i b (by simpa using hb)
      exact ⟨pa, x1, x2, x3, fun h => by simpa using x4 (by simpa using h)⟩
theorem Chain.end {m : api_Module} {p : Nat} {l : List api_Act} (h : Chain m p l) : 1 ≤ l.length ∧ ∃ a, l[l.length - 1]? = some a ∧ a.Kind = 4 := by
  induction h with
  | @last p a h1 h2 h3 => exact ⟨by simp, a, by simp, h2⟩
  | @more p q a l h1 h2 h3 h4 h5 ih =>
    obtain ⟨x, b, y, z⟩ := ih
    refine ⟨by simp, b, ?_, z⟩
    rw [List.length_cons, Nat.add_sub_cancel, show l.length = (l.length - 1) + 1 by omega, List.getElem?_cons_succ]
    exact y
theorem room_ok {n b : Nat} (h : n * b ≤ 140737488355328) : room n b = some () := by
  unfold room
  rw [if_pos h]
theorem cut_tail {c : api_Res} (l : List api_Res) : cut (c :: l) 1 ((c :: l).length : Int) = some l := by
  unfold cut
  rw [if_pos (by simp; omega)]
  simp
theorem nxt_of {m : api_Module} {p q : Nat} (h : ∃ i, m.Code[p]? = some i ∧ ((goesB i).2.1 = true ∧ (q : Int) = p + (goesB i).1 ∨ (goesB i).2.2 = true ∧ (q : Int) = p + 1)) : Nxt m p q := by
  obtain ⟨i, hi, h⟩ := h
  exact ⟨i, hi, mem_nx.2 h⟩
theorem trace_loop {m : api_Module} {j : judge_judge} (hS : Sound m j) : ∀ (k : Nat) (M : engine_Machine) (p : Nat), Run m j M p → M.state = 0 → pot m.Code M.turns p m.Code.length ≤ k → ∀ (fu : Nat) (rs : List api_Res) (acc : List api_Act), (∀ r ∈ rs, u64 r.Val) → k ≤ rs.length → k ≤ fu → acc.length + k ≤ 1000 →
    ∃ l, loop (engine_Trace_l1 1000) fu (rs, M, acc) = some (acc ++ l, 0) ∧ Chain m p l ∧ l.length ≤ k := by
  intro k
  induction k with
  | zero =>
    intro M p h _ hp
    have := pot_pos hS.good h.fit h.lt
    omega
  | succ k ih =>
    intro M p h h0 hp fu rs acc hrs hk hf hr
    obtain ⟨i, hi, _⟩ := idx_lt h.lt
    obtain ⟨⟨a, M1⟩, h1, hst, hpc⟩ := step_ok' hS h h0 hi
    simp only at hpc
    obtain ⟨fu, rfl⟩ : ∃ f, fu = f + 1 := ⟨fu - 1, by omega⟩
    cases hst with
    | ends e1 e2 e3 e4 =>
      simp only at e2
      refine ⟨[a], ?_, .last hpc e2 h.lt, by simp⟩
      show engine_Trace_l1 1000 (loop (engine_Trace_l1 1000) fu) (rs, M, acc) = _
      unfold engine_Trace_l1
      simp only [h1, Option.bind_some]
      rw [room_ok (by simp; omega)]
      simp only [Option.bind_some, e2]
      rfl
    | asks e1 e2 e3 e4 e5 e6 e7 =>
      simp only at e3 e4 e6 e7
      obtain ⟨c, rs, rfl⟩ : ∃ c r, rs = c :: r := by
        cases rs with
        | nil => simp at hk
        | cons c r => exact ⟨c, r, rfl⟩
      obtain ⟨⟨e, M2⟩, hr2, _, s0, q, hR, hq, hN⟩ := answer_ok hS e5 e4 hi e1 e2 (hrs c (by simp))
      simp only at hR hq s0
      rw [e6] at hq
      obtain ⟨l, hl, hc, hn⟩ := ih M2 q hR s0 (by omega) fu rs (acc ++ [a]) (fun r hr => hrs r (by simp [hr])) (by simp at hk; omega) (by omega) (by simp; omega)
      have key : ∀ again : ((List api_Res) × engine_Machine × (List api_Act)) → Option ((List api_Act) × Int), engine_Trace_l1 1000 again (c :: rs, M, acc) = again (rs, M2, acc ++ [a]) := by
        intro again
        unfold engine_Trace_l1
        simp only [h1, Option.bind_some]
        rw [room_ok (by simp; omega)]
        have e4' : (a.Kind == 4) = false := by simp; omega
        have e2' : (a.Kind == 2) = true := by simp; omega
        have e0' : (((c :: rs).length : Int) == 0) = false := by rw [List.length_cons]; simp; omega
        have ei : idx (c :: rs) 0 = some c := by
          have := idxN (xs := c :: rs) (i := 0) (by simp)
          simpa using this
        simp only [Option.bind_some, e4', e2', e0', ei, hr2, cut_tail]
        simp only [Bool.false_eq_true, if_false, if_true, Option.bind_some, e0', ei, hr2, cut_tail]
      refine ⟨a :: l, ?_, .more hpc h.lt (fun _ => e7) (nxt_of hN) hc, by simp; omega⟩
      show engine_Trace_l1 1000 (loop (engine_Trace_l1 1000) fu) (c :: rs, M, acc) = _
      rw [key, hl]
      simp
    | goes e1 e2 e3 =>
      simp only at e1 e2
      obtain ⟨q, hR, hq, hN⟩ := e3
      simp only at hR hq
      obtain ⟨l, hl, hc, hn⟩ := ih M1 q hR e2 (by omega) fu rs (acc ++ [a]) hrs (by omega) (by omega) (by simp; omega)
      have key : ∀ again : ((List api_Res) × engine_Machine × (List api_Act)) → Option ((List api_Act) × Int), engine_Trace_l1 1000 again (rs, M, acc) = again (rs, M1, acc ++ [a]) := by
        intro again
        unfold engine_Trace_l1
        simp only [h1, Option.bind_some]
        rw [room_ok (by simp; omega)]
        have e4' : (a.Kind == 4) = false := by simp; omega
        have e2' : (a.Kind == 2) = false := by simp; omega
        simp only [Option.bind_some, e4', e2']
        simp only [Bool.false_eq_true, if_false, Option.bind_some]
      refine ⟨a :: l, ?_, .more hpc h.lt (fun e => by omega) (nxt_of hN) hc, by simp; omega⟩
      show engine_Trace_l1 1000 (loop (engine_Trace_l1 1000) fu) (rs, M, acc) = _
      rw [key, hl]
      simp
theorem Trace_good {m : api_Module} (h1 : m.Maps.length * 8 ≤ 140737488355328) (h2 : m.Code.length * 40 ≤ 140737488355328) {j : judge_judge} (hj : judge_judged 1000 m = some (some j, 0, 0)) (hS : Sound m j) {E : api_Event} (hE : u64 E.A ∧ u64 E.B) {rs : List api_Res}
    (hrs : ∀ r ∈ rs, u64 r.Val) (hn : sumT m.Code m.Code.length ≤ rs.length) : ∃ l, engine_Trace 1000 m E rs = some (l, 0) ∧ Chain m 0 l ∧ l.length ≤ (sumT m.Code m.Code.length).toNat := by
  have g := hS.good
  have hc := g.cost
  have hz := sumT_nonneg g.fine m.Code.length
  have hp := pot_start g (q := 0)
  obtain ⟨l, hl, hch, hln⟩ := trace_loop hS (sumT m.Code m.Code.length).toNat (newM m E ⟨fun _ => 0⟩) 0 (run0 hS hE _) rfl (by show pot m.Code (fun _ => 0) 0 m.Code.length ≤ _; omega) 1000 rs [] hrs (by omega) (by omega) (by simp; omega)
  refine ⟨l, ?_, hch, hln⟩
  unfold engine_Trace
  rw [show scratch_New = some ⟨⟨fun _ => 0⟩, ⟨fun _ => 0⟩⟩ from rfl]
  simp only [Option.bind_some]
  rw [New_eq h1 h2 hj]
  simp only [Option.bind_some, if_true]
  show (if ((0 : Int) != 0) = true then some (([] : List api_Act), (0 : Int)) else loop (engine_Trace_l1 1000) 1000 (rs, newM m E ⟨fun _ => 0⟩, ([] : List api_Act))) = _
  rw [if_neg (by decide), hl]
  simp
theorem Trace_bad {m : api_Module} (h1 : m.Maps.length * 8 ≤ 140737488355328) (h2 : m.Code.length * 40 ≤ 140737488355328) {o : Option judge_judge} {p e : Int} (hj : judge_judged 1000 m = some (o, p, e)) (he : e ≠ 0) {E : api_Event} {rs : List api_Res} : engine_Trace 1000 m E rs = some ([], e) := by
  unfold engine_Trace
  rw [show scratch_New = some ⟨⟨fun _ => 0⟩, ⟨fun _ => 0⟩⟩ from rfl]
  simp only [Option.bind_some]
  rw [New_eq h1 h2 hj]
  simp only [Option.bind_some, if_neg he]
  show (if (e != 0) = true then some (([] : List api_Act), e) else _) = _
  rw [if_pos (by simpa using he)]
end Go.Proofs.YtgmmfjpmahcocaaGreatDoor
