/- The plain law: bytes are loaded just where they are a module's that is judged good and names maps that there are, as long as there is room. -/
import Derived.Test.YtdnogiegiclcfaaGreatDoorKReg5
import Derived.Test.YtdnogiegiclcfaaGreatDoorD1
set_option linter.unusedVariables false
set_option linter.unusedSimpArgs false
namespace Go.Proofs.YtdnogiegiclcfaaGreatDoor
open Go.Sx
set_option maxRecDepth 100000 in
theorem awake_isL : tappetlaw24_awake 1000 = some true := by decide +kernel
theorem same_self (m : api_Module) : tappetref04_Same m m = some true := by
  unfold tappetref04_Same
  rw [if_neg (by simp)]
  refine OK.is (OK.bind2 (OK.count (Q := fun o => ∃ u, o = .inl u) (fun _ _ => True) trivial (fun i s again hi _ k => ?_) (fun s _ => ⟨(), rfl⟩)) (fun o ho => ?_))
  · unfold tappetref04_Same_l1
    obtain ⟨x, hx, _⟩ := idx_get (l := m.Maps) (t := (i : Int)) (by omega) (by omega)
    simp only [hx, Option.bind_some, bne_self_eq_false, Bool.false_eq_true, if_false]
    exact k _ trivial
  · obtain ⟨u, rfl⟩ := ho
    refine OK.bind2 (OK.count (Q := fun o => ∃ u, o = .inl u) (fun _ _ => True) trivial (fun i s again hi _ k => ?_) (fun s _ => ⟨(), rfl⟩)) (fun o ho => ?_)
    · unfold tappetref04_Same_l2
      obtain ⟨x, hx, _⟩ := idx_get (l := m.Code) (t := (i : Int)) (by omega) (by omega)
      simp only [hx, Option.bind_some, beq_self_eq_true, Bool.and_self, Bool.not_true, Bool.false_eq_true, if_false]
      exact k _ trivial
    · obtain ⟨u, rfl⟩ := ho
      exact OK.ret rfl
structure LoadI (M : Nat) (m : api_Module) (k : Nat) (r : registry_Registry) : Prop where
  inv : RegI 1 M 1 k r
  given : r.given = k
  len : r.progs.length = k
  live : ∀ e ∈ r.progs, e.2.retiring = 0
  get : ∀ p : Int, 1 ≤ p → p ≤ k → mget r.progs p = some ⟨m, 0⟩
theorem LoadI.liveN {M : Nat} {m : api_Module} {k : Nat} {r : registry_Registry} (h : LoadI M m k r) : OK (registry_Registry_Live r) (fun l => l.length = k) := by
  rw [live_is h.inv]
  refine OK.ret ?_
  rw [List.length_mergeSort]
  unfold alive
  rw [List.length_map, List.filter_eq_self.2 (fun e he => by simpa using h.live e he)]
  exact h.len
theorem LoadI.next {M : Nat} {m : api_Module} {k : Nat} {r : registry_Registry} (h : LoadI M m k r) (hk : k < 16) (hok : GoodM m.Maps ∧ (∀ x ∈ m.Maps, x < M) ∧ m.Code.length ≤ 64) : LoadI M m (k + 1) (added r m) := by
  have hf := fresh_key h.inv
  have e : (added r m).progs = r.progs ++ [(r.given + 1, ⟨m, 0⟩)] := mput_new hf
  refine ⟨added_inv h.inv (by omega) (by rw [h.len]; omega) hok, ?_, ?_, ?_, ?_⟩
  · simp [added, h.given]
  · rw [e]; simp [h.len]
  · rw [e]
    intro x hx
    rcases List.mem_append.1 hx with hx | hx
    · exact h.live x hx
    · simp at hx; subst hx; rfl
  · intro p h1 h2
    simp only [added, mget_mput]
    by_cases e1 : r.given + 1 = p
    · rw [if_pos e1]
    · rw [if_neg e1]
      have := h.given
      exact h.get p h1 (by omega)
theorem registryLoads_true (p0 : Int) (p1 : List Int) (g0 : (Lit.int .i64 p0).wf = true) (g1 : p1.length * 1 ≤ reachBytes ∧ ∀ y22 ∈ p1, (Lit.int .u8 y22).wf = true) : ∃ fu, tappetlaw24_RegistryLoads fu p0 p1 = some true := by
  refine ⟨1000, OK.is ?_⟩
  have hB : p1.length ≤ 140737488355328 := by
    have h1 := g1.1
    have h2 : reachBytes ≤ 140737488355328 := by decide
    omega
  unfold tappetlaw24_RegistryLoads
  rw [awake_isL]
  simp only [Option.bind_some, Bool.not_true, Bool.false_eq_true, if_false]
  by_cases hp : 0 ≤ p0 ∧ p0 ≤ 4
  · obtain ⟨M, rfl⟩ := Int.eq_ofNat_of_zero_le hp.1
    obtain ⟨r, hr, hi, h1, h2, h3, h4, h5⟩ := new_is (H := 1) (M := M) (W := 1) (by omega) (by omega) (by omega) (by omega) (by omega)
    have hr' : registry_New 1 M 1 = some (some r, 0) := hr
    rw [hr']
    simp only [Option.bind_some]
    refine OK.some_ (OK.ite_false (by simp) ?_)
    refine OK.bind (OK.hasRoom (by simp; omega) ?_)
    simp only [List.nil_append]
    obtain ⟨d, hd, hdk⟩ := decode_ok hB
    obtain ⟨j, hj, _⟩ := Judge_ok d.1
    let bad : Int := if d.2.2 ≠ 0 then d.2.2 else if j.2 ≠ 0 then j.2 else if d.1.Maps.any (fun x => decide ((M : Int) ≤ x)) then 41 else 0
    have hv : verdict M p1 = some (d.1, bad) := by
      unfold verdict
      rw [hd]
      simp only [Option.bind_some, hj, bad]
      by_cases e1 : d.2.2 = 0
      · by_cases e2 : j.2 = 0
        · simp [e1, e2]
        · simp [e1, e2]
      · simp [e1]
    have hok : bad = 0 → GoodM d.1.Maps ∧ (∀ x ∈ d.1.Maps, x < (M : Int)) ∧ d.1.Code.length ≤ 64 := by
      have := verdict_ok M hB
      rw [hv] at this
      obtain ⟨v, e, hv2⟩ := this
      cases e
      exact hv2
    rw [hd]
    simp only [Option.bind_some, hj]
    refine OK.bind2 (R := fun b => b = if d.2.2 ≠ 0 then d.2.2 else j.2) (OK.ite (fun he => OK.ret (by simp at he; simp [he])) (fun he => OK.ret (by simp at he; simp [he]))) (fun b hb => ?_)
    refine OK.bind2 (R := fun b => b = bad) ?_ (fun b' hb' => ?_)
    · by_cases hb0 : b = 0
      · have hd0 : d.2.2 = 0 ∧ j.2 = 0 := by
          rw [hb0] at hb
          split at hb
          · rename_i e; exact absurd hb.symm e
          · rename_i e; exact ⟨by simpa using e, hb.symm⟩
        have hg := (hdk hd0.1).1
        have hml : d.1.Maps.length ≤ 4 := hg.2.2
        have ebad : bad = if d.1.Maps.any (fun x => decide ((M : Int) ≤ x)) then 41 else 0 := by simp [bad, hd0.1, hd0.2]
        refine OK.rounds (fun s => ∃ i : Nat, i ≤ d.1.Maps.length ∧ s.2 = (i : Int) ∧ ((s.1 = 0 ∧ ∀ x ∈ d.1.Maps.take i, x < (M : Int)) ∨ (s.1 = 41 ∧ ∃ x ∈ d.1.Maps, (M : Int) ≤ x))) (fun s => d.1.Maps.length - s.2.toNat) ?_ 1000 _ ⟨0, by omega, rfl, .inl ⟨hb0, by simp⟩⟩ (by simp; omega)
        rintro ⟨s, i0⟩ again ⟨i, hi1, e1, hs⟩ kk
        simp only at e1 hs
        subst e1
        have hbad1 : (∃ x ∈ d.1.Maps, (M : Int) ≤ x) → bad = 41 := by
          rintro ⟨x, hx, hx2⟩
          rw [ebad, if_pos (List.any_eq_true.2 ⟨x, hx, by simpa using hx2⟩)]
        unfold tappetlaw24_RegistryLoads_l1
        refine OK.ite (fun hc => ?_) (fun hc => OK.ret ?_)
        · simp only [Bool.and_eq_true, beq_iff_eq, decide_eq_true_eq] at hc
          have hs0 : s = 0 ∧ ∀ x ∈ d.1.Maps.take i, x < (M : Int) := by
            rcases hs with h9 | h9
            · exact h9
            · omega
          refine OK.bind (OK.getN (by omega) (fun x hx => ?_))
          have hw : w64 ((i : Int) + 1) = ((i + 1 : Nat) : Int) := by rw [w64_lo (by omega) (by omega)]; simp
          rw [hw]
          refine OK.ite (fun hxm => kk _ ⟨i + 1, by omega, rfl, .inr ⟨rfl, x, List.mem_of_getElem? hx, by simpa using hxm⟩⟩ (by simp; omega)) (fun hxm => kk _ ⟨i + 1, by omega, rfl, .inl ⟨hs0.1, fun y hy => ?_⟩⟩ (by simp; omega))
          rw [take_snoc hx] at hy
          rcases List.mem_append.1 hy with hy | hy
          · exact hs0.2 y hy
          · simp at hy hxm; omega
        · rcases hs with ⟨h8, h9⟩ | ⟨h8, h9⟩
          · have hil : i = d.1.Maps.length := by
              simp [h8] at hc
              omega
            subst hil
            rw [List.take_length] at h9
            rw [h8, ebad, if_neg]
            intro ha
            obtain ⟨x, hx, hx2⟩ := List.any_eq_true.1 ha
            have := h9 x hx
            simp at hx2
            omega
          · rw [h8, hbad1 h9]
      · -- an error already: the loop does nothing
        have hbb : b = bad := by
          simp only [bad]
          by_cases e1 : d.2.2 = 0
          · have e2 : j.2 ≠ 0 := by
              intro e2
              apply hb0
              rw [hb]; simp [e1, e2]
            rw [hb]; simp [e1, e2]
          · rw [hb]; simp [e1]
        refine OK.rounds (fun s => s = (b, 0)) (fun s => 0) ?_ 1000 _ rfl (by omega)
        rintro s again rfl kk
        unfold tappetlaw24_RegistryLoads_l1
        exact OK.ite_false (by simp [hb0]) (OK.ret hbb)
    · subst hb'
      have hv1 : ∀ (q : registry_Registry), q.maps = M → verdict q.maps p1 = some (d.1, bad) := fun q hq => by rw [hq]; exact hv
      by_cases hbad : bad = 0
      · have hgood := hok hbad
        refine OK.bind2 (OK.rounds (Q := fun o => ∃ q, o = .inl q ∧ LoadI M d.1 16 q) (fun s => ∃ k : Nat, k ≤ 16 ∧ s.2 = ((k + 1 : Nat) : Int) ∧ LoadI M d.1 k s.1) (fun s => 17 - s.2.toNat) ?_ 1000 _ ⟨0, by omega, rfl, ⟨hi, h1, by rw [h3]; rfl, by rw [h3]; simp, fun p a b => by omega⟩⟩ (by simp)) (fun o ho => ?_)
        · rintro ⟨q, k0⟩ again ⟨k, hk, e1, hq⟩ kk
          simp only at e1 hq
          subst e1
          unfold tappetlaw24_RegistryLoads_l2
          refine OK.ite (fun hc => ?_) (fun hc => OK.ret ⟨_, rfl, ?_⟩)
          · have hk2 : k < 16 := by simp at hc; omega
            refine OK.bind (OK.hasRoom (by simp; omega) ?_)
            simp only [List.nil_append]
            have hL : registry_Registry_Load 1000 q p1 = some (q.given + 1, 0, added q d.1) := by
              rw [load_is hq.inv (hv1 q hq.inv.maps) (fun e => by rw [hq.inv.maps]; exact hok e)]
              simp only
              rw [if_neg (by simpa using hbad), if_neg (by rw [hq.len]; omega)]
            rw [hL]
            simp only [Option.bind_some]
            refine OK.ite_false (by simp [hbad]) (OK.ite_false (by simp [hq.given]) ?_)
            have hw : w64 (((k + 1 : Nat) : Int) + 1) = ((k + 1 + 1 : Nat) : Int) := by rw [w64_lo (by omega) (by omega)]; simp
            rw [hw]
            exact kk _ ⟨k + 1, by omega, rfl, hq.next hk2 hgood⟩ (by simp; omega)
          · have : k = 16 := by simp at hc; omega
            subst this
            exact hq
        · obtain ⟨q, rfl, hq⟩ := ho
          refine OK.bind (OK.hasRoom (by simp; omega) ?_)
          have hL : registry_Registry_Load 1000 q p1 = some (0, 40, q) := by
            rw [load_is hq.inv (hv1 q hq.inv.maps) (fun e => by rw [hq.inv.maps]; exact hok e)]
            simp only
            rw [if_neg (by simpa using hbad), if_pos (by rw [hq.len]; omega)]
          simp only [List.nil_append, hL, Option.bind_some]
          refine OK.bind2 (R := fun b => b = false) (OK.ite_false (by simp) (OK.ite_false (by simp) (OK.bind2 hq.liveN (fun l hl => OK.ret (by simp [hl]))))) (fun b hb => ?_)
          subst hb
          refine OK.ite_false rfl ?_
          have hm3 : registry_Registry_Module q 3 = some (d.1, true) := by rw [module_is hq.inv, hq.get 3 (by omega) (by omega)]
          simp only [hm3, Option.bind_some]
          have hml : d.1.Maps.length ≤ 4 := hgood.1.2.2
          have hcl := hgood.2.2
          refine OK.bind2 (OK.rounds (Q := fun _ => True) (fun s => 0 ≤ s.2 ∧ s.1.length = d.1.Code.length) (fun s => d.1.Code.length - s.2.toNat) ?_ 1000 _ ⟨by simp, rfl⟩ (by simp; omega)) (fun _ _ => ?_)
          · rintro ⟨s, i⟩ again ⟨i1, i2⟩ kk
            simp only at i1 i2
            unfold tappetlaw24_RegistryLoads_l3
            refine OK.ite (fun hc => ?_) (fun _ => OK.ret trivial)
            have hlt : i < (s.length : Int) := by simpa using hc
            refine OK.bind (OK.get i1 hlt (fun x hx => ?_))
            rw [w64_lo (by omega) (by omega)]
            exact kk _ ⟨by simp; omega, by simpa using i2⟩ (by simp; omega)
          refine OK.bind2 (OK.rounds (Q := fun _ => True) (fun s => 0 ≤ s.2 ∧ s.1.length = d.1.Maps.length) (fun s => d.1.Maps.length - s.2.toNat) ?_ 1000 _ ⟨by simp, rfl⟩ (by simp; omega)) (fun _ _ => ?_)
          · rintro ⟨s, i⟩ again ⟨i1, i2⟩ kk
            simp only at i1 i2
            unfold tappetlaw24_RegistryLoads_l4
            refine OK.ite (fun hc => ?_) (fun _ => OK.ret trivial)
            have hlt : i < (s.length : Int) := by simpa using hc
            refine OK.bind (OK.get i1 hlt (fun x hx => ?_))
            rw [w64_lo (by omega) (by omega)]
            exact kk _ ⟨by simp; omega, by simpa using i2⟩ (by simp; omega)
          simp only [if_true, same_self, Option.bind_some]
          exact OK.ret rfl
      · refine OK.bind2 (OK.rounds (Q := fun o => o = .inr true) (fun s => s = (r, 1)) (fun s => 0) ?_ 1000 _ rfl (by omega)) (fun o ho => by rw [ho]; exact OK.ret rfl)
        rintro s again rfl kk
        unfold tappetlaw24_RegistryLoads_l2
        refine OK.ite_true (by simp) (OK.bind (OK.hasRoom (by simp; omega) ?_))
        simp only [List.nil_append]
        have hL : registry_Registry_Load 1000 r p1 = some (0, bad, r) := by
          rw [load_is hi (hv1 r hi.maps) (fun e => by rw [hi.maps]; exact hok e)]
          simp only
          rw [if_pos (by simpa using hbad)]
        rw [hL]
        simp only [Option.bind_some]
        refine OK.ite_true (by simp [hbad]) (OK.bind2 (R := fun b => b = true) (OK.ite_true (by simp) (OK.ite_true (by simp) ?_)) (fun b hb => OK.ret (by rw [hb])))
        rw [live_is hi]
        simp only [Option.bind_some]
        refine OK.ret ?_
        have : alive r.progs = [] := by rw [h3]; rfl
        rw [this]
        simp
  · rw [new_bad (by omega)]
    simp only [Option.bind_some]
    exact OK.none_ (OK.ret rfl)
end Go.Proofs.YtdnogiegiclcfaaGreatDoor
