/- EngineEnds: the plain law. -/
import Derived.Test.YtgmmfjpmahcocaaGreatDoorKTrace
set_option linter.unusedVariables false
set_option linter.unusedSimpArgs false
namespace Go.Proofs.YtgmmfjpmahcocaaGreatDoor
open Go.Sx

theorem awake_ok : tappetlaw11_awake 1000 = some true := by decide +kernel
theorem Cost_ok (code : List api_Inst) : ∃ c e : Int, flow_Cost code = some (c, e) ∧ 0 ≤ c ∧ c ≤ 257 ∧ (Good code → c = sumT code code.length) := by
  unfold flow_Cost
  obtain ⟨r, h1, h2, h3, h4⟩ := check_one code
  rw [h1]
  simp only [Option.bind_some]
  by_cases hr : r.2 = 0
  · have hg := (h3 hr).2
    have hz := sumT_nonneg hg.fine code.length
    have hc := hg.cost
    rw [if_neg (by simp [hr]), flowCost hg.n64 hg.fine]
    have : mn (sumT code code.length) = sumT code code.length := by unfold mn; rw [if_pos (by omega)]
    exact ⟨_, 0, by rw [this]; rfl, by omega, by omega, fun _ => rfl⟩
  · rw [if_pos (by simpa using hr)]
    exact ⟨0, r.2, rfl, by omega, by omega, fun h => absurd (h4 h) hr⟩
theorem ends_l1 (p0 : tappetlaw11_Run) (hres : ∀ r ∈ p0.Res, u64 r.Val) {c e : Int} (h0 : 0 ≤ c) (h1 : c ≤ 257) : ∃ rs, loop (tappetlaw11_EngineEnds_l1 p0 (c, e)) 1000 (([] : List api_Res), 0) = some rs ∧ (rs.length : Int) = c ∧ ∀ r ∈ rs, u64 r.Val := by
  refine OK.rounds (fun (s : (List api_Res) × Int) => (s.1.length : Int) = s.2 ∧ s.2 ≤ c ∧ ∀ r ∈ s.1, u64 r.Val) (fun s => (c - s.2).toNat) (fun s again hI k => ?_) 1000 _ ⟨rfl, h0, fun r hr => by simp at hr⟩ (by simp; omega)
  obtain ⟨a, b, d⟩ := hI
  unfold tappetlaw11_EngineEnds_l1
  refine OK.ite (fun hlt => ?_) (fun hlt => OK.ret ⟨by simp at hlt; omega, d⟩)
  have hlt : s.2 < c := by simpa using hlt
  refine OK.bind2 (R := fun o => u64 o.Val) ?_ (fun o ho => OK.bind (OK.hasRoom (by simp; omega) ?_))
  · refine OK.ite (fun hl => OK.bind (OK.get (by omega) (by simpa using hl) (fun y hy => OK.ret (hres y (List.mem_of_getElem? hy))))) (fun _ => OK.ret ?_)
    exact wu64_rng _
  · have e1 : w64 (s.2 + 1) = s.2 + 1 := w64_eq (by omega) (by omega)
    refine k _ ⟨?_, ?_, ?_⟩ ?_
    · show ((s.1 ++ [o]).length : Int) = w64 (s.2 + 1); rw [e1]; simp; omega
    · show w64 (s.2 + 1) ≤ c; rw [e1]; omega
    · intro r hr
      rcases List.mem_append.1 hr with h | h
      · exact d r h
      · simp at h; subst h; exact ho
    · show (c - w64 (s.2 + 1)).toNat < (c - s.2).toNat; rw [e1]; omega
theorem ends_l3 (p0 : tappetlaw11_Run) {r : (List api_Act) × Int} {i : Nat} {a : api_Act} (ha : r.1[i]? = some a) (hm : a.Item.Map ∈ p0.M.Maps) : forN (tappetlaw11_EngineEnds_l3 p0 r i) (fun (s3853 : Bool) => s3853) (p0.M.Maps).length 0 false = some true := by
  have hi := (List.getElem?_eq_some_iff.1 ha).1
  have hia : idx r.1 (i : Int) = some a := by
    obtain ⟨x, x1, x2⟩ := idx_lt hi
    rw [ha] at x1; cases x1; exact x2
  refine OK.is (OK.count (fun n s => (∃ t : Nat, t < n ∧ p0.M.Maps[t]? = some a.Item.Map) → s = true) (fun h => by obtain ⟨t, h, _⟩ := h; omega) (fun n s again hn hI k => ?_) (fun s hI => ?_))
  · unfold tappetlaw11_EngineEnds_l3
    refine OK.ite (fun e => k _ (fun _ => rfl)) (fun e => ?_)
    obtain ⟨x, x1, x2⟩ := idx_lt hn
    rw [x2, hia]
    simp only [Option.bind_some]
    refine k _ (fun h => ?_)
    obtain ⟨t, ht, hx⟩ := h
    by_cases e2 : t = n
    · subst e2
      rw [x1] at hx; cases hx
      simp
    · have := hI ⟨t, by omega, hx⟩
      rw [this] at e; cases e
  · obtain ⟨t, ht⟩ := List.mem_iff_getElem?.1 hm
    exact hI ⟨t, (List.getElem?_eq_some_iff.1 ht).1, ht⟩
theorem ends_l4 {r : (List api_Act) × Int} {i : Nat} {l : List Int} {e : Int} {b : Bool} (hl : l.length ≤ 2) (hi : i < 1000) (h : b = true ∨ ∃ a, r.1[i + 1]? = some a ∧ a.Pc ∈ l) : loop (tappetlaw11_EngineEnds_l4 r i (l, e)) 1000 (b, 0) = some true := by
  refine OK.is (OK.rounds (fun (s : Bool × Int) => 0 ≤ s.2 ∧ s.2 ≤ l.length ∧ (s.1 = true ∨ ∃ a t, r.1[i + 1]? = some a ∧ l[t]? = some a.Pc ∧ s.2 ≤ (t : Nat))) (fun s => (l.length - s.2).toNat) (fun s again hI k => ?_) 1000 _ ⟨by simp, by simp, ?_⟩ (by simp; omega))
  · obtain ⟨a, b, c⟩ := hI
    unfold tappetlaw11_EngineEnds_l4
    refine OK.ite (fun hc => ?_) (fun hc => OK.ret ?_)
    · simp at hc
      obtain ⟨hc1, hc2⟩ := hc
      rcases c with c | ⟨x, t, y1, y2, y3⟩
      · rw [c] at hc2; cases hc2
      have ht := (List.getElem?_eq_some_iff.1 y2).1
      refine OK.bind (OK.get a (by omega) (fun z hz => ?_))
      have hi1 : w64 ((i : Int) + 1) = ((i + 1 : Nat) : Int) := by rw [w64_eq (by omega) (by omega)]; simp
      have hx : idx r.1 (w64 ((i : Int) + 1)) = some x := by
        rw [hi1]
        obtain ⟨u, u1, u2⟩ := idx_lt (List.getElem?_eq_some_iff.1 y1).1
        rw [y1] at u1; cases u1; exact u2
      rw [hx]
      simp only [Option.bind_some]
      have e1 : w64 (s.2 + 1) = s.2 + 1 := w64_eq (by omega) (by omega)
      refine k _ ⟨by show 0 ≤ w64 (s.2 + 1); rw [e1]; omega, by show w64 (s.2 + 1) ≤ _; rw [e1]; omega, ?_⟩ (by show (l.length - w64 (s.2 + 1)).toNat < (l.length - s.2).toNat; rw [e1]; omega)
      by_cases e2 : s.2 = t
      · left
        rw [e2, Int.toNat_natCast, y2] at hz
        cases hz
        simp
      · right
        exact ⟨x, t, y1, y2, by show w64 (s.2 + 1) ≤ _; rw [e1]; omega⟩
    · rcases c with c | ⟨x, t, y1, y2, y3⟩
      · exact c
      · have ht := (List.getElem?_eq_some_iff.1 y2).1
        cases hs : s.1 with
        | true => rfl
        | false => exfalso; rw [hs] at hc; simp at hc; omega
  · rcases h with h | ⟨a, h1, h2⟩
    · exact .inl h
    · obtain ⟨t, ht⟩ := List.mem_iff_getElem?.1 h2
      exact .inr ⟨a, t, h1, ht, by simp⟩
theorem nx_len (i : api_Inst) (p : Int) : (nx i p).length ≤ 2 := by
  unfold nx
  split
  · split
    · split
      · simp
      · split <;> simp
    · simp
  · split <;> simp
theorem engineEnds_law (p0 : tappetlaw11_Run) (h1 : p0.M.Maps.length * 8 ≤ 140737488355328) (h2 : p0.M.Code.length * 40 ≤ 140737488355328) (hE : u64 p0.E.A ∧ u64 p0.E.B) (hres : ∀ r ∈ p0.Res, u64 r.Val) (h3 : p0.Res.length * 48 ≤ 140737488355328) :
    tappetlaw11_EngineEnds 1000 p0 = some true := by
  unfold tappetlaw11_EngineEnds
  rw [awake_ok]
  simp only [Option.bind_some, copied_eq _ h1 h2, Bool.not_true, Bool.false_eq_true, if_false]
  obtain ⟨o, p, e, hj, hc⟩ := judged_cases p0.M
  rw [Judge_eq hj]
  simp only [Option.bind_some]
  obtain ⟨c, ce, c1, c2, c3, c4⟩ := Cost_ok p0.M.Code
  rw [c1]
  simp only [Option.bind_some]
  obtain ⟨rs, l1, l2, l3⟩ := ends_l1 p0 hres (e := ce) c2 c3
  rw [l1]
  simp only [Option.bind_some]
  rcases hc with ⟨he, _⟩ | ⟨rfl, rfl, j, rfl, hS⟩
  · rw [Trace_bad h1 h2 hj he]
    simp only [Option.bind_some]
    rw [if_pos (by simpa using he)]
    simp
  have g := hS.good
  have hn := g.n64
  have hcost := g.cost
  have hz := sumT_nonneg g.fine p0.M.Code.length
  have hce := c4 g
  obtain ⟨l, t1, t2, t3⟩ := Trace_good h1 h2 hj hS hE l3 (by omega)
  rw [t1]
  simp only [Option.bind_some]
  rw [if_neg (by decide)]
  obtain ⟨x1, a, x2, x3⟩ := t2.end
  obtain ⟨b, t, x4, x5⟩ := t2.head
  have hlen : w64 ((l.length : Int) - 1) = ((l.length - 1 : Nat) : Int) := by rw [w64_eq (by omega) (by omega)]; omega
  have hia : idx l ((l.length - 1 : Nat) : Int) = some a := by
    obtain ⟨u, u1, u2⟩ := idx_lt (xs := l) (p := l.length - 1) (by omega)
    rw [x2] at u1; cases u1; exact u2
  have hib : idx l 0 = some b := by
    obtain ⟨u, u1, u2⟩ := idx_lt (xs := l) (p := 0) (by omega)
    rw [x4] at u1; simp at u1; subst u1; simpa using u2
  refine OK.is (OK.bind2 (R := fun o => o = false) ?_ (fun o ho => ?_))
  · refine OK.ite_false (by decide) (OK.ite_false (by simp; omega) (OK.ite_false (by simp; omega) ?_))
    rw [hlen, hia, hib]
    simp only [Option.bind_some]
    refine OK.ite_false (by simp [x3]) (OK.ret (by simp [x5]))
  subst ho
  refine OK.ite_false rfl ?_
  refine OK.bind2 (OK.count (Q := fun o => o = Sum.inl ()) (fun _ _ => True) trivial (fun q s again hq _ kk => ?_) (fun _ _ => rfl)) (fun o ho => by subst ho; exact OK.ret rfl)
  unfold tappetlaw11_EngineEnds_l2
  obtain ⟨v, v1, v2⟩ := idx_lt hq
  obtain ⟨pa, y1, y2, y3, y4⟩ := t2.at q v v1
  rw [v2]
  simp only [Option.bind_some]
  refine OK.bind2 (R := fun o => o = Sum.inl ()) ?_ (fun o ho => ?_)
  · refine OK.ite (fun hk => ?_) (fun _ => OK.ret rfl)
    obtain ⟨z1, z2, z3⟩ := y3 (by simpa using hk)
    rw [ends_l3 p0 (r := (l, 0)) v1 z1]
    simp only [Option.bind_some]
    refine OK.bind2 (R := fun o => o = false) (OK.ite_false rfl (OK.ite_false (by simp; omega) (OK.ret (by simp; omega)))) (fun o ho => ?_)
    subst ho
    exact OK.ite_false rfl (OK.ret rfl)
  subst ho
  obtain ⟨i, hi, _⟩ := idx_lt y2
  rw [y1, next_good g hi]
  simp only [Option.bind_some]
  rw [hlen]
  have hnl := nx_len i pa
  refine OK.ite_false ?_ ?_
  · by_cases e : q + 1 < l.length
    · obtain ⟨b2, q2, w1, w2, i2, w3, w4⟩ := y4 e
      rw [hi] at w3; cases w3
      have : (nx i pa).length ≠ 0 := fun h0 => by rw [List.length_eq_zero_iff.1 h0] at w4; simp at w4
      simp
      intro h0
      exact absurd (by rw [h0]; rfl) this
    · have : q = l.length - 1 := by clear y4; omega
      simp [this]
  rw [ends_l4 hnl (by omega) ?_]
  · simp only [Option.bind_some]
    exact OK.ite_false rfl (kk () trivial)
  · by_cases e : q + 1 < l.length
    · obtain ⟨b2, q2, w1, w2, i2, w3, w4⟩ := y4 e
      rw [hi] at w3; cases w3
      exact .inr ⟨b2, w1, by rw [w2]; exact w4⟩
    · left
      have : q = l.length - 1 := by clear y4; omega
      simp [this]
end Go.Proofs.YtgmmfjpmahcocaaGreatDoor
