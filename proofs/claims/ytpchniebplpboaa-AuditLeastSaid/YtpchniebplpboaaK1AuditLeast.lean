/- The plain law: All is the least place that one of the five tells; entries of other marks are passed over. -/
import Derived.Test.YtpchniebplpboaaKFine
set_option linter.unusedVariables false
set_option linter.unusedSimpArgs false
namespace Go.Proofs.Ytpchniebplpboaa
open Go.Sx

def rules (c : api_Config) : List I_audit_rule := [.inl (maps0 c), .inr (.inl ⟨[], [], []⟩), .inr (.inr (.inr (.inl ⟨[], [], 0⟩))), .inr (.inr (.inr (.inr ⟨[], [], []⟩))), .inr (.inr (.inl ⟨c.Ring, 0, []⟩))]
theorem rules_fine {fu : Nat} (hfu : 101 < fu) {c : api_Config} (ok : okC c = true) {es : List api_Entry} (hn : es.length < 1000000000000) (he : ∀ e ∈ es, KeyOK e) : ∀ x ∈ rules c, Fine fu es x := by
  intro x hx
  simp only [rules, List.mem_cons, List.not_mem_nil, or_false] at hx
  rcases hx with rfl | rfl | rfl | rfl | rfl
  · exact maps_fine hfu es 0 _ _ (by omega) (mrs0 ok) he
  · exact calls_fine fu es _
  · exact runs_fine fu es _
  · exact grace_fine fu es 0 _ (by omega) (by simp) (by simp)
  · exact events_fine fu es 0 _ (by omega) (fun h l hl => by cases hl)
theorem All_is {fu : Nat} (hfu : 101 < fu) {c : api_Config} (ok : okC c = true) {es : List api_Entry} (hf : ∀ x ∈ rules c, Fine fu es x) : audit_All fu c es = some (told 0 (wrs fu es (rules c)), 0) := by
  unfold audit_All audit_newCalls audit_newRuns audit_newGrace audit_newEvents
  rw [newMaps_is hfu, if_pos ok]
  simp only [Option.bind_some]
  rw [if_neg (by decide), first_is]
  rw [show firstR fu 0 es [(.inl (maps0 c)), (.inr (.inl ⟨[], [], []⟩)), (.inr (.inr (.inr (.inl ⟨[], [], 0⟩)))), (.inr (.inr (.inr (.inr ⟨[], [], []⟩)))), (.inr (.inr (.inl ⟨c.Ring, 0, []⟩)))] = some (told 0 (wrs fu es (rules c))) from firstR_told es 0 (rules c) hf]
  rfl
def lst (v s : Int) : Int := if v ≥ 0 ∧ (s < 0 ∨ v < s) then v else s
theorem lst_told (a b : Option Nat) : lst (told 0 b) (told 0 a) = told 0 (omin a b) := by
  cases a with
  | none =>
    cases b with
    | none => rfl
    | some b => simp [lst, told, omin]
  | some a =>
    cases b with
    | none => simp [lst, told, omin]
    | some b =>
      simp only [lst, told, omin, Nat.zero_add]
      split <;> omega
theorem four_is (c r g e s : Int) : forN (tappetlaw27_AuditLeast_l1 c r g e) (fun (s : Int) => s) 4 0 s = some (lst e (lst g (lst r (lst c s)))) := by
  have h := forN_each (b := tappetlaw27_AuditLeast_l1 c r g e) (out := fun (s : Int) => s) (l := [c, r, g, e]) (B := fun _ x again s => again (lst x s)) (fun i again s => by
    unfold tappetlaw27_AuditLeast_l1
    cases hx : Go.Sx.idx [c, r, g, e] (i : Int) with
    | none => rfl
    | some x =>
      simp only [Option.bind_some]
      unfold lst
      by_cases h1 : x ≥ 0
      · by_cases h2 : s < 0
        · simp [h1, h2]
        · by_cases h3 : x < s
          · simp [h1, h2, h3]
          · simp [h1, h2, h3]
      · simp [h1]) s
  exact h
theorem ends_is (p1 : List api_Entry) (hl : p1.length * 176 ≤ 140737488355328) : forN (tappetlaw27_AuditLeast_l2 p1) (fun (s : List api_Entry) => s) p1.length 0 [] = some (p1.filter (fun e => e.What == 15 || e.What == 14)) := by
  rw [forN_each (b := tappetlaw27_AuditLeast_l2 p1) (l := p1) (B := fun _ x again s => if (x.What == 15 || x.What == 14) then (room (s.length + ([x]).length) 176).bind fun _ => again (s ++ [x]) else again s) (fun i again s => by
    unfold tappetlaw27_AuditLeast_l2
    cases hx : Go.Sx.idx p1 (i : Int) with
    | none => rfl
    | some x =>
      simp only [Option.bind_some]
      by_cases h1 : (x.What == 15) = true
      · simp [h1]
      · simp only [Bool.not_eq_true] at h1
        by_cases h2 : (x.What == 14) = true
        · simp [h1, h2]
        · simp only [Bool.not_eq_true] at h2
          simp [h1, h2])]
  suffices H : ∀ (l : List api_Entry) (i : Nat) (s : List api_Entry), (s.length + l.length) * 176 ≤ 140737488355328 → each (fun _ x (again : List api_Entry → Option (List api_Entry)) s => if (x.What == 15 || x.What == 14) then (room (s.length + ([x]).length) 176).bind fun _ => again (s ++ [x]) else again s) (fun s => s) i l s = some (s ++ l.filter (fun e => e.What == 15 || e.What == 14)) by
    have := H p1 0 [] (by simpa using hl)
    simpa using this
  intro l
  induction l with
  | nil => intro i s _; simp [each]
  | cons x l ih =>
    intro i s hs
    simp only [List.length_cons] at hs
    simp only [each]
    by_cases h : (x.What == 15 || x.What == 14) = true
    · have hr : room (s.length + ([x]).length) 176 = some () := by unfold room; rw [if_pos (by simp; omega)]
      rw [if_pos h, hr]
      simp only [Option.bind_some]
      rw [ih (i + 1) (s ++ [x]) (by simp; omega), List.filter_cons_of_pos (p := fun e : api_Entry => e.What == 15 || e.What == 14) (a := x) h]
      simp
    · rw [if_neg h, ih (i + 1) s (by omega), List.filter_cons_of_neg (p := fun e : api_Entry => e.What == 15 || e.What == 14) (a := x) h]
theorem auditLeast_true (p0 : api_Config) (p1 : List api_Entry) (g0 : G_api_Config p0) (g1 : p1.length * 176 ≤ reachBytes ∧ ∀ y25 ∈ p1, G_api_Entry y25) : ∃ fu, tappetlaw27_AuditLeast fu p0 p1 = some true := by
  refine ⟨4000, ?_⟩
  have hb : p1.length * 176 ≤ 140737488351232 := g1.1
  have hn : p1.length < 1000000000000 := by omega
  have he : ∀ e ∈ p1, KeyOK e := fun e h => key_ok (g1.2 e h)
  unfold tappetlaw27_AuditLeast
  rw [awake_is]
  simp only [Option.bind_some, Bool.not_true, Bool.false_eq_true, if_false]
  by_cases ok : okC p0 = true
  · have hf := rules_fine (fu := 4000) (by omega) ok hn he
    have hm : audit_Maps 4000 p0 p1 = some (told 0 (wr 4000 p1 (.inl (maps0 p0))), 0) := by
      unfold audit_Maps
      rw [newMaps_is (by omega), if_pos ok]
      simp only [Option.bind_some]
      rw [if_neg (by decide), first_one, one_told 0 (hf _ (by simp [rules]))]; rfl
    have hc : audit_Calls 4000 p1 = some (told 0 (wr 4000 p1 (.inr (.inl ⟨[], [], []⟩)))) := by
      unfold audit_Calls audit_newCalls
      simp only [Option.bind_some]
      rw [first_one, one_told 0 (hf _ (by simp [rules]))]; rfl
    have hr : audit_Runs 4000 p1 = some (told 0 (wr 4000 p1 (.inr (.inr (.inr (.inl ⟨[], [], 0⟩)))))) := by
      unfold audit_Runs audit_newRuns
      simp only [Option.bind_some]
      rw [first_one, one_told 0 (hf _ (by simp [rules]))]; rfl
    have hg : audit_Grace 4000 p1 = some (told 0 (wr 4000 p1 (.inr (.inr (.inr (.inr ⟨[], [], []⟩)))))) := by
      unfold audit_Grace audit_newGrace
      simp only [Option.bind_some]
      rw [first_one, one_told 0 (hf _ (by simp [rules]))]; rfl
    have hv : audit_Events 4000 p0.Ring p1 = some (told 0 (wr 4000 p1 (.inr (.inr (.inl ⟨p0.Ring, 0, []⟩))))) := by
      unfold audit_Events audit_newEvents
      simp only [Option.bind_some]
      rw [first_one, one_told 0 (hf _ (by simp [rules]))]; rfl
    have hends : ∀ x ∈ rules p0, ∀ e ∈ p1.filter (fun e => e.What == 15 || e.What == 14), I_audit_rule_right 4000 x e = some (true, x) := fun x _ e h => skip_right 4000 x e (by
      have := (List.mem_filter.1 h).2
      simpa using this)
    obtain ⟨hfe, hwe⟩ := wrs_none hends
    rw [All_is (by omega) ok hf, hm]
    simp only [Option.bind_some]
    rw [if_neg (by decide), if_neg (by decide), hc]
    simp only [Option.bind_some, hr, hg, hv]
    rw [four_is, ends_is p1 (by omega)]
    simp only [Option.bind_some]
    rw [All_is (by omega) ok hfe, hwe]
    simp only [Option.bind_some, lst_told]
    have e1 : wrs 4000 p1 (rules p0) = omin (omin (omin (omin (wr 4000 p1 (.inl (maps0 p0))) (wr 4000 p1 (.inr (.inl ⟨[], [], []⟩)))) (wr 4000 p1 (.inr (.inr (.inr (.inl ⟨[], [], 0⟩)))))) (wr 4000 p1 (.inr (.inr (.inr (.inr ⟨[], [], []⟩)))))) (wr 4000 p1 (.inr (.inr (.inl ⟨p0.Ring, 0, []⟩)))) := by
      simp only [rules, wrs, omin_none, omin_assoc]
    rw [← e1]
    have h1 : -1 ≤ told 0 (wrs 4000 p1 (rules p0)) ∧ told 0 (wrs 4000 p1 (rules p0)) < p1.length := by
      cases hw : wrs 4000 p1 (rules p0) with
      | none => simp [told]; omega
      | some k =>
        have := wrs_lt hw
        simp only [told]; omega
    generalize told 0 (wrs 4000 p1 (rules p0)) = t at h1 ⊢
    simp [h1.1, h1.2, told]
  · have h1 : audit_All 4000 p0 p1 = some (0, 2) := by
      unfold audit_All
      rw [newMaps_is (by omega), if_neg ok]; rfl
    have h2 : audit_Maps 4000 p0 p1 = some (0, 2) := by
      unfold audit_Maps
      rw [newMaps_is (by omega), if_neg ok]; rfl
    rw [h1, h2]; rfl
end Go.Proofs.Ytpchniebplpboaa
