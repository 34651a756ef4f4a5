/- The plain law: a map's Count is how many programs, live or retiring, name it; each program that goes is told once. -/
import Derived.Test.YtdnogiegiclcfaaGreatDoorKReg5
import Derived.Test.YtdnogiegiclcfaaGreatDoorD1
set_option linter.unusedVariables false
set_option linter.unusedSimpArgs false
namespace Go.Proofs.YtdnogiegiclcfaaGreatDoor
open Go.Sx
set_option maxRecDepth 100000 in
theorem awake_isR : tappetlaw24_awake 1000 = some true := by decide +kernel
structure RefsI (k : Nat) (r : registry_Registry) (gone : List Bool) : Prop where
  inv : RegI 3 4 2 k r
  small : k ≤ 120
  len : gone.length = 130
  gone : ∀ p : Nat, gone[p]? = some true → (p : Int) ≤ r.given ∧ mget r.progs p = none
def mapsOf (r : registry_Registry) (p : Int) : List Int := match mget r.progs p with
  | some x => x.module.Maps
  | none => []
theorem count_filter {α : Type} [DecidableEq α] {l : List α} (h : l.Nodup) (m : α) : l.count m = if m ∈ l then 1 else 0 := by
  split
  · rename_i hm; rw [h.count]; simp [hm]
  · rename_i hm; exact List.count_eq_zero.2 hm
theorem holds_len {k : Nat} {r : registry_Registry} (h : RegI 3 4 2 k r) (m : Int) {l : List Int} (hp : l.Perm (r.progs.map (·.1))) : (holds m r.Refs.held).length = (l.filter (fun p => decide (m ∈ mapsOf r p))).length := by
  rw [(hp.filter _).length_eq]
  unfold holds
  rw [h.held, List.length_map, List.filter_map, List.filter_map, List.length_map, List.length_map]
  congr 1
  refine List.filter_congr (fun e he => ?_)
  have : mget r.progs e.1 = some e.2 := mget_mem h.keys he
  simp [mapsOf, this]
theorem all_perm {k : Nat} {r : registry_Registry} (h : RegI 3 4 2 k r) : ((alive r.progs).mergeSort (fun x y => decide (x ≤ y)) ++ r.waiting).Perm (r.progs.map (·.1)) := by
  have hp := List.mergeSort_perm (alive r.progs) (fun x y => decide (x ≤ y))
  have hnd : ((alive r.progs).mergeSort (fun x y => decide (x ≤ y)) ++ r.waiting).Nodup := by
    refine List.nodup_append.2 ⟨hp.nodup_iff.2 (alive_nodup h), h.wnd, fun a ha b hb e => ?_⟩
    subst e
    obtain ⟨x, hx, h0⟩ := (mem_alive h a).1 (hp.mem_iff.1 ha)
    obtain ⟨y, hy, h1⟩ := (h.wait a).1 hb
    rw [hx] at hy
    cases hy
    omega
  refine (List.perm_ext_iff_of_nodup hnd h.keys).2 (fun a => ?_)
  rw [List.mem_append, hp.mem_iff, mem_alive h, h.wait]
  constructor
  · rintro (⟨x, hx, _⟩ | ⟨x, hx, _⟩) <;> exact List.mem_map_of_mem (f := fun (q : Int × registry_program) => q.1) (mem_mget hx)
  · intro ha
    obtain ⟨e, he, rfl⟩ := List.mem_map.1 ha
    have hx : mget r.progs e.1 = some e.2 := mget_mem h.keys he
    have h0 := (h.prog _ _ hx).2.2.2.2.2.1
    by_cases e0 : e.2.retiring = 0
    · exact .inl ⟨_, hx, e0⟩
    · exact .inr ⟨_, hx, by omega⟩
theorem inner_count (l : List Int) (h4 : l.length ≤ 4) (hnd : l.Nodup) (m : Nat) (s : Int) (h0 : 0 ≤ s) (h1 : s ≤ 1000) (mo : api_Module × Bool) (hm : mo.1.Maps = l) :
    forN (tappetlaw24_RegistryRefs_l5 m mo) (fun (s : Int) => s) l.length 0 s = some (s + (l.count (m : Int) : Nat)) := by
  refine OK.is (OK.count (fun i t => t = s + ((l.take i).count (m : Int) : Nat)) (by simp) (fun i t again hi hI k => ?_) (fun t hI => by rw [List.take_length] at hI; exact hI))
  subst hI
  unfold tappetlaw24_RegistryRefs_l5
  rw [hm]
  refine OK.bind (OK.getN hi (fun x hx => ?_))
  have hc : (l.take i).count (m : Int) ≤ (l.take i).length := List.count_le_length
  have hc2 : (l.take i).length ≤ i := by simp; omega
  refine OK.ite (fun hc => k _ ?_) (fun hc => k _ ?_)
  · rw [take_snoc hx, List.count_append, w64_lo (by omega) (by omega)]
    have : x = (m : Int) := by simpa using hc
    rw [this]
    simp
    omega
  · rw [take_snoc hx, List.count_append]
    have : ¬ x = (m : Int) := by simpa using hc
    have h0 : List.count (m : Int) [x] = 0 := List.count_eq_zero.2 (by simp; omega)
    rw [h0]
    simp
theorem mid_count {k : Nat} {r : registry_Registry} {gone : List Bool} (h : RefsI k r gone) (a b : List Int) (hab : a ++ b = (alive r.progs).mergeSort (fun x y => decide (x ≤ y)) ++ r.waiting) (m : Nat) :
    OK (forN (tappetlaw24_RegistryRefs_l4 130 (r, gone) a b m) (fun (s : Int) => (.inl s : Int ⊕ Bool)) (a ++ b).length 0 0) (fun o => o = .inl (((a ++ b).filter (fun p => decide ((m : Int) ∈ mapsOf r p))).length : Int)) := by
  have hperm := all_perm h.inv
  rw [← hab] at hperm
  have hlen : (a ++ b).length ≤ 16 := by rw [hperm.length_eq, List.length_map]; exact h.inv.len
  refine OK.count (σ := Int) (Q := fun (o : Int ⊕ Bool) => o = .inl (((a ++ b).filter (fun p => decide ((m : Int) ∈ mapsOf r p))).length : Int)) (fun i s => s = (((a ++ b).take i).filter (fun p => decide ((m : Int) ∈ mapsOf r p))).length) rfl (fun i s again hi hI kk => ?_) (fun s hI => by rw [List.take_length] at hI; rw [hI])
  subst hI
  unfold tappetlaw24_RegistryRefs_l4
  refine OK.bind (OK.getN hi (fun p hp => ?_))
  have hmem : p ∈ r.progs.map (·.1) := hperm.mem_iff.1 (List.mem_of_getElem? hp)
  obtain ⟨e, he, rfl⟩ := List.mem_map.1 hmem
  have hx : mget r.progs e.1 = some e.2 := mget_mem h.inv.keys he
  have hpr := h.inv.prog _ _ hx
  have hg := h.inv.given
  have hk := h.small
  have hmod : registry_Registry_Module r e.1 = some (e.2.module, true) := by rw [module_is h.inv, hx]
  rw [hmod]
  simp only [Option.bind_some]
  have hng : idx gone e.1 = some false := by
    obtain ⟨y, hy, hy2⟩ := idx_get (l := gone) (t := e.1) (by omega) (by rw [h.len]; omega)
    cases y with
    | false => exact hy
    | true =>
      have := (h.gone e.1.toNat hy2).2
      rw [show ((e.1.toNat : Nat) : Int) = e.1 by omega, hx] at this
      cases this
  refine OK.bind2 (R := fun o => o = false) (OK.ite_false (by simp) (OK.ite_false (by simp; omega) (OK.ite_false (by simp; omega) (by rw [hng]; exact OK.ret rfl)))) (fun o ho => ?_)
  subst ho
  refine OK.ite_false rfl ?_
  have hfl : (((a ++ b).take i).filter (fun p => decide ((m : Int) ∈ mapsOf r p))).length ≤ 16 := by
    refine Nat.le_trans (List.length_filter_le _ _) ?_
    rw [List.length_take]
    omega
  rw [inner_count e.2.module.Maps hpr.2.2.1.2.2 hpr.2.2.1.2.1 m _ (by omega) (by omega) (e.2.module, true) rfl]
  simp only [Option.bind_some]
  refine kk _ ?_
  rw [take_snoc hp, List.filter_append, List.length_append, count_filter hpr.2.2.1.2.1]
  have hmo : mapsOf r e.1 = e.2.module.Maps := by simp [mapsOf, hx]
  by_cases hin : (m : Int) ∈ e.2.module.Maps
  · simp [hmo, hin]
  · simp [hmo, hin]
theorem refs_counts {k : Nat} {r : registry_Registry} {gone : List Bool} (h : RefsI k r gone) (a b : List Int) (ha : a = (alive r.progs).mergeSort (fun x y => decide (x ≤ y))) (hb : b = r.waiting) :
    OK (forN (tappetlaw24_RegistryRefs_l3 130 (r, gone) a b) (fun (s : Unit) => (.inl () : Unit ⊕ Bool)) 4 0 ()) (fun o => o = .inl ()) := by
  subst ha; subst hb
  refine OK.count (fun _ _ => True) trivial (fun m s again hi _ kk => ?_) (fun _ _ => rfl)
  unfold tappetlaw24_RegistryRefs_l3
  refine OK.bind2 (mid_count h _ _ rfl m) (fun o ho => ?_)
  subst ho
  have hl : r.Refs.held.length ≤ 16 := by rw [h.inv.held, List.length_map]; exact h.inv.len
  have hc := count_is r.Refs (m : Int) (by omega) (by omega) (by rw [h.inv.rmaps]; omega)
  simp only [hc, Option.bind_some]
  rw [holds_len h.inv (m : Int) (all_perm h.inv)]
  refine OK.ite_false (by simp) (kk _ trivial)
theorem refs_step {k : Nat} {r : registry_Registry} {gone : List Bool} (h : RefsI k r gone) (script : List tappetlaw24_Op) (hB : ∀ o ∈ script, o.Bytes.length ≤ 140737488355328) (again : (registry_Registry × List Bool × Int) → Option ((registry_Registry × List Bool) ⊕ Bool))
    (Q : ((registry_Registry × List Bool) ⊕ Bool) → Prop) (ka : ∀ r' gone', RefsI (k + 1) r' gone' → OK (again (r', gone', ((k + 1 : Nat) : Int))) Q) (ke : Q (.inl (r, gone))) : OK (tappetlaw24_RegistryRefs_l1 1000 script 130 again (r, gone, (k : Int))) Q := by
  have hinv := h.inv
  have hsm := h.small
  unfold tappetlaw24_RegistryRefs_l1
  refine OK.ite (fun hc => ?_) (fun _ => OK.ret ke)
  simp only [Bool.and_eq_true, decide_eq_true_eq] at hc
  have hk : k < 120 := by omega
  have hw : w64 ((k : Int) + 1) = ((k + 1 : Nat) : Int) := by rw [w64_lo (by omega) (by omega)]; simp
  refine OK.bind (OK.getN (by omega) (fun o ho => ?_))
  have hg0 := hinv.given0
  have hg1 := hinv.given
  rw [hw]
  refine OK.bind2 (R := fun x => ∃ r' gone', x = .inl (r', gone') ∧ RefsI (k + 1) r' gone') ?_ (fun x hx => ?_)
  · refine OK.ite (fun hk5 => ?_) (fun hk5 => ?_)
    · rw [settle_is hinv]
      simp only [Option.bind_some]
      have hnd : (goneOf r o.A).Nodup := hinv.wnd.sublist (gone_sub r o.A)
      have hS := settled_inv hinv (by omega) o.A
      refine OK.bind2 (OK.count (Q := fun x => ∃ g', x = .inl g' ∧ RefsI (k + 1) (settled r (goneOf r o.A)) g') (fun i g' => g'.length = 130 ∧ ∀ p : Nat, g'[p]? = some true ↔ (gone[p]? = some true ∨ (p : Int) ∈ (goneOf r o.A).take i)) ⟨h.len, fun p => by simp⟩ (fun i s again hi hI kk => ?_) (fun s hI => ⟨s, rfl, ?_⟩)) (fun x hx => ?_)
      · obtain ⟨hl, hI⟩ := hI
        unfold tappetlaw24_RegistryRefs_l2
        have hget : ∃ p, (goneOf r o.A)[i]? = some p := ⟨_, List.getElem?_eq_getElem hi⟩
        obtain ⟨p, hp⟩ := hget
        obtain ⟨x, hx, h0, _⟩ := gone_in hinv (List.mem_of_getElem? hp)
        have hpr := hinv.prog p x hx
        have hip : idx (goneOf r o.A) (i : Int) = some p := by
          unfold idx
          rw [if_pos (by omega)]
          simpa using hp
        have hnot : idx s p = some false := by
          obtain ⟨y, hy, hy2⟩ := idx_get (l := s) (t := p) (by omega) (by rw [hl]; omega)
          cases y with
          | false => exact hy
          | true =>
            have e : ((p.toNat : Nat) : Int) = p := by omega
            rcases (hI p.toNat).1 hy2 with h9 | h9
            · have := (h.gone _ h9).2
              rw [e, hx] at this
              cases this
            · rw [e] at h9
              exfalso
              obtain ⟨q, hq, hq2⟩ := List.mem_iff_getElem.1 h9
              rw [List.length_take] at hq
              rw [List.getElem_take] at hq2
              have e3 : (goneOf r o.A)[i] = p := by
                have := (List.getElem?_eq_some_iff.1 hp).2
                exact this
              have := (List.getElem_inj hnd).1 (hq2.trans e3.symm)
              omega
        rw [hip]
        simp only [Option.bind_some]
        refine OK.bind2 (R := fun b => b = false) (OK.ite_false (by simp; omega) (OK.ite_false (by simp; omega) (by rw [hnot]; exact OK.ret rfl))) (fun b hb => ?_)
        subst hb
        refine OK.ite_false rfl ?_
        rw [hnot]
        simp only [Option.bind_some]
        refine kk _ ⟨by simpa using hl, fun q => ?_⟩
        rw [List.getElem?_set, take_snoc hp, List.mem_append]
        by_cases e : p.toNat = q
        · subst e
          rw [if_pos rfl, if_pos (by omega)]
          have e : ((p.toNat : Nat) : Int) = p := by omega
          simp [e]
        · rw [if_neg e, hI q]
          have e2 : ¬ (q : Int) = p := by omega
          simp [e2]
      · obtain ⟨hl, hI⟩ := hI
        rw [List.take_length] at hI
        refine ⟨hS, by omega, hl, fun p hp => ?_⟩
        rcases (hI p).1 hp with h9 | h9
        · obtain ⟨h7, h8⟩ := h.gone p h9
          refine ⟨h7, ?_⟩
          rw [settled_get hinv]
          split
          · rfl
          · exact h8
        · obtain ⟨x, hx, _⟩ := gone_in hinv h9
          refine ⟨(hinv.prog _ _ hx).2.1, ?_⟩
          rw [settled_get hinv, if_pos h9]
      · obtain ⟨g', rfl, hg'⟩ := hx
        exact OK.ret ⟨_, _, rfl, hg'⟩
    · refine OK.bind2 (play_ok hinv (by omega) o (hB o (List.mem_of_getElem? ho))) (fun q hq => ?_)
      obtain ⟨hp, hi'⟩ := hq
      obtain ⟨v, e, r'⟩ := q
      simp only at hi' ⊢
      have hgr : RefsI (k + 1) r' gone := by
        refine ⟨hi', by omega, h.len, fun p hpp => ?_⟩
        obtain ⟨h7, h8⟩ := h.gone p hpp
        cases hp with
        | loadNo hk h1 h2 h3 => simp only at h3; subst h3; exact ⟨h7, h8⟩
        | load m hk h1 h2 h3 =>
          simp only at h3
          subst h3
          refine ⟨by simp only [added]; omega, ?_⟩
          simp only [added, mget_mput]
          rw [if_neg (by omega)]
          exact h8
        | place hk h =>
          by_cases he : e = 0
          · obtain ⟨_, _, l, _, h3⟩ := h.yes he
            simp only at h3
            subst h3
            exact ⟨h7, h8⟩
          · have h3 := (h.no he).2
            simp only at h3
            subst h3
            exact ⟨h7, h8⟩
        | detach t hk h1 h2 h3 => simp only at h3; subst h3; exact ⟨h7, h8⟩
        | retireNo hk h1 h2 h3 => simp only at h3; subst h3; exact ⟨h7, h8⟩
        | retire x hk h1 hx h0 h3 =>
          simp only at h3
          subst h3
          refine ⟨h7, ?_⟩
          simp only [retired, mget_mset]
          split
          · rename_i hc
            rw [hc.1] at hx
            rw [hx] at h8
            cases h8
          · exact h8
        | settle hk h1 h3 =>
          simp [hk] at hk5
        | enterNo hk h1 h2 h3 => simp only at h3; subst h3; exact ⟨h7, h8⟩
        | enter hk h1 h4 h5 h6 h3 => simp only at h3; subst h3; exact ⟨h7, h8⟩
        | leaveNo hk h1 h2 h3 => simp only at h3; subst h3; exact ⟨h7, h8⟩
        | leave hk h1 h2 h3 => simp only at h3; subst h3; exact ⟨h7, h8⟩
        | advance hk h1 h3 => simp only at h3; subst h3; exact ⟨h7, h8⟩
      refine OK.bind2 (R := fun b => b = false) (OK.ite (fun hk0 => OK.ite (fun he => ?_) (fun _ => OK.ret rfl)) (fun _ => OK.ret rfl)) (fun b hb => ?_)
      · have hk0 : o.Kind = 0 := by simpa using hk0
        have he : e = 0 := by simpa using he
        subst he
        cases hp with
        | load m hk h1 h2 h3 =>
          simp only at h2
          subst h2
          refine OK.ite_false (by simp; omega) (OK.ite_false (by simp; omega) ?_)
          obtain ⟨y, hy, hy2⟩ := idx_get (l := gone) (t := r.given + 1) (by omega) (by rw [h.len]; omega)
          cases y with
          | false => rw [hy]; exact OK.ret rfl
          | true =>
            have := (h.gone _ hy2).1
            omega
        | loadNo hk h1 h2 h3 => exact absurd rfl h1
        | place hk h => omega
        | detach t hk h1 h2 h3 => omega
        | retireNo hk h1 h2 h3 => omega
        | retire x hk h1 hx h0 h3 => omega
        | settle hk h1 h3 => omega
        | enterNo hk h1 h2 h3 => omega
        | enter hk h1 h4 h5 h6 h3 => omega
        | leaveNo hk h1 h2 h3 => omega
        | leave hk h1 h2 h3 => omega
        | advance hk h1 h3 => exact absurd hk0 hk.1
      · subst hb
        exact OK.ite_false rfl (OK.ret ⟨_, _, rfl, hgr⟩)
  · obtain ⟨r', gone', rfl, h'⟩ := hx
    simp only
    rw [live_is h'.inv, retiring_is h'.inv]
    simp only [Option.bind_some]
    have hperm := all_perm h'.inv
    have hlen := hperm.length_eq
    rw [List.length_append, List.length_map] at hlen
    have h16 := h'.inv.len
    refine OK.bind (OK.hasRoom (by omega) ?_)
    refine OK.bind2 (refs_counts h' _ _ rfl rfl) (fun x hx => ?_)
    subst hx
    exact ka _ _ h'
theorem registryRefs_true (p0 : List tappetlaw24_Op) (g0 : p0.length * 48 ≤ reachBytes ∧ ∀ y45 ∈ p0, G_tappetlaw24_Op y45) : ∃ fu, tappetlaw24_RegistryRefs fu p0 = some true := by
  refine ⟨1000, OK.is ?_⟩
  have hB : ∀ o ∈ p0, o.Bytes.length ≤ 140737488355328 := fun o ho => by
    have h1 : o.Bytes.length * 1 ≤ reachBytes := (g0.2 o ho).2.2.2.1
    have h2 : reachBytes ≤ 140737488355328 := by decide
    omega
  unfold tappetlaw24_RegistryRefs
  rw [awake_isR]
  simp only [Option.bind_some, Bool.not_true, Bool.false_eq_true, if_false]
  obtain ⟨r, hr, hi, h1, h2, h3, h4, h5⟩ := new_is (H := 3) (M := 4) (W := 2) (by omega) (by omega) (by omega) (by omega) (by omega)
  have hr' : registry_New 3 4 2 = some (some r, 0) := hr
  rw [hr']
  simp only [Option.bind_some]
  refine OK.some_ (OK.ite_false (by simp) ?_)
  have hmk : mkLen 130 1 = some 130 := by unfold mkLen; rw [if_pos ⟨by decide, by decide⟩]; rfl
  rw [hmk]
  simp only [Option.bind_some]
  refine OK.bind2 (OK.rounds (Q := fun o => ∃ k q g, o = .inl (q, g) ∧ RefsI k q g) (fun s => ∃ k : Nat, s.2.2 = (k : Int) ∧ RefsI k s.1 s.2.1) (fun s => 121 - s.2.2.toNat) ?_ 1000 _ ⟨0, rfl, hi, by omega, by simp, fun p hp => ?_⟩ (by simp)) (fun o ho => ?_)
  · rintro ⟨q, g, i⟩ again ⟨k, e1, hk⟩ ka
    simp only at e1 hk
    subst e1
    refine refs_step hk p0 hB again _ (fun r' g' h' => ka _ ⟨k + 1, rfl, h'⟩ ?_) ⟨k, q, g, rfl, hk⟩
    have := h'.small
    simp only
    omega
  · simp only [List.getElem?_replicate] at hp
    split at hp
    · cases hp
    · cases hp
  · obtain ⟨k, q, g, rfl, hq⟩ := ho
    simp only
    refine OK.bind (OK.bind (OK.hasRoom (by omega) ?_))
    refine (OK.count (Q := fun o => o = .inl ()) (fun i s => RegI 3 4 2 (k + i) s ∧ ∀ p, mget q.progs p = none → mget s.progs p = none) ⟨hq.inv, fun p hp => hp⟩ (fun i s again hi hI kk => ?_) (fun s _ => rfl)).mono (fun o ho => by rw [ho]; exact OK.ret rfl)
    obtain ⟨hs, hn⟩ := hI
    have hks := hq.small
    unfold tappetlaw24_RegistryRefs_l6
    rw [module_is hs]
    simp only [Option.bind_some]
    refine OK.bind2 (attach_ok hs 0 (i : Int)) (fun t ht => ?_)
    obtain ⟨y, hy, hy2⟩ := idx_get (l := g) (t := (i : Int)) (by omega) (by rw [hq.len]; omega)
    rw [hy]
    simp only [Option.bind_some]
    refine OK.bind2 (R := fun b => b = false) (OK.ite (fun hyt => ?_) (fun _ => OK.ret rfl)) (fun b hb => ?_)
    · subst hyt
      have hnone := hn _ (hq.gone _ (by simpa using hy2)).2
      rw [hnone]
      have hgo := ht.gone (by omega) (by rw [hs.hooks]; decide) hnone
      refine OK.ite_false rfl (OK.ite_false (by simp [hgo.1]) (OK.ret (by simp [hgo.2])))
    · subst hb
      refine OK.ite_false rfl (kk _ ⟨?_, fun p hp => ?_⟩)
      · exact ht.inv hs (by omega)
      · by_cases he : t.2.1 = 0
        · obtain ⟨_, _, l, _, h9⟩ := ht.yes he
          rw [h9]
          exact hn p hp
        · rw [(ht.no he).2]
          exact hn p hp
end Go.Proofs.YtdnogiegiclcfaaGreatDoor
