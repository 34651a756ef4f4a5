/- The plain law: programs are numbered 1, 2, 3 .. as they are loaded; versions likewise; what was loaded is live till it is retired. -/
import Derived.Test.YtdnogiegiclcfaaGreatDoorKReg5
import Derived.Test.YtdnogiegiclcfaaGreatDoorD1
set_option linter.unusedVariables false
set_option linter.unusedSimpArgs false
namespace Go.Proofs.YtdnogiegiclcfaaGreatDoor
open Go.Sx
set_option maxRecDepth 100000 in
theorem awake_is : tappetlaw24_awake 1000 = some true := by decide +kernel
structure NumI (k : Nat) (s : registry_Registry × Int × Int × List Bool × Int) : Prop where
  inv : RegI 3 4 2 k s.1
  last : s.2.1 = s.1.given
  ver : s.2.2.1 = s.1.Table.Versions.last
  len : s.2.2.2.1.length = 130
  ret : ∀ (p : Nat), 1 ≤ p → (p : Int) ≤ s.1.given → s.2.2.2.1[p]? = some (!decide (∃ x, mget s.1.progs p = some x ∧ x.retiring = 0))
  new : ∀ (p : Nat), s.1.given < p → p < 130 → s.2.2.2.1[p]? = some false
  at_ : s.2.2.2.2 = (k : Int)
  small : k ≤ 120
theorem ints_is (a b : List Int) : tappetlaw24_ints a b = some (decide (a = b)) := by
  unfold tappetlaw24_ints
  by_cases hl : a.length = b.length
  · rw [if_neg (by simp [hl])]
    refine OK.is (OK.bind2 (OK.count (Q := fun o => match o with | .inl _ => a = b | .inr q => q = false ∧ a ≠ b) (fun i _ => a.take i = b.take i) (by simp) (fun i s again hi hI k => ?_) (fun s hI => ?_)) (fun o ho => ?_))
    · unfold tappetlaw24_ints_l1
      refine OK.bind (OK.getN hi (fun x hx => OK.bind (OK.getN (by omega) (fun y hy => ?_))))
      refine OK.ite (fun hc => OK.ret ⟨rfl, fun e => ?_⟩) (fun hc => k _ ?_)
      · subst e
        rw [hx] at hy
        cases hy
        simp at hc
      · have : x = y := by simpa using hc
        subst this
        rw [take_snoc hx, take_snoc hy, hI]
    · rw [List.take_length, hl, List.take_length] at hI
      exact hI
    · cases o with
      | inl _ => exact OK.ret (by simp [ho])
      | inr q => exact OK.ret (by rw [ho.1]; simp [ho.2])
  · rw [if_pos (by simp; omega)]
    have : a ≠ b := fun e => hl (by rw [e])
    simp [this]
def liveL (ret : List Bool) (n : Nat) : List Int := ((List.range n).map (fun i => ((i + 1 : Nat) : Int))).filter (fun p => ret[p.toNat]? == some false)
theorem liveL_succ (ret : List Bool) (n : Nat) : liveL ret (n + 1) = liveL ret n ++ (if ret[n + 1]? == some false then [((n + 1 : Nat) : Int)] else []) := by
  unfold liveL
  rw [List.range_succ, List.map_append, List.filter_append]
  congr 1
  simp only [List.map_cons, List.map_nil, List.filter_cons, List.filter_nil, Int.toNat_natCast]
theorem liveL_len (ret : List Bool) (n : Nat) : (liveL ret n).length ≤ n := by
  unfold liveL
  refine Nat.le_trans (List.length_filter_le _ _) (by simp)
theorem liveL_mem (ret : List Bool) (n : Nat) (p : Int) : p ∈ liveL ret n ↔ 1 ≤ p ∧ p ≤ n ∧ ret[p.toNat]? = some false := by
  unfold liveL
  simp only [List.mem_filter, List.mem_map, List.mem_range, beq_iff_eq]
  constructor
  · rintro ⟨⟨i, hi, rfl⟩, h⟩
    exact ⟨by omega, by omega, h⟩
  · rintro ⟨h1, h2, h3⟩
    exact ⟨⟨p.toNat - 1, by omega, by omega⟩, h3⟩
theorem liveL_sorted (ret : List Bool) (n : Nat) : (liveL ret n).Pairwise (fun x y => x < y) := by
  unfold liveL
  refine List.Pairwise.filter _ ?_
  rw [List.pairwise_map]
  exact List.pairwise_lt_range.imp (fun h => by omega)
theorem live_loop (t : Int × Int × List Bool) (hl : t.2.2.length = 130) (g : Nat) (hg : t.1 = (g : Int)) (hg2 : g < 130) : loop (tappetlaw24_RegistryNumbers_l2 t) 1000 (([] : List Int), 1) = some (liveL t.2.2 g) := by
  refine OK.is (OK.rounds (fun s => ∃ i : Nat, i ≤ g ∧ s.2 = ((i + 1 : Nat) : Int) ∧ s.1 = liveL t.2.2 i) (fun s => (g + 1) - s.2.toNat) ?_ 1000 _ ⟨0, by omega, rfl, rfl⟩ (by simp; omega))
  rintro ⟨s, k⟩ again ⟨i, hi, e1, e2⟩ kk
  simp only at e1 e2
  subst e1; subst e2
  unfold tappetlaw24_RegistryNumbers_l2
  simp only [hg]
  refine OK.ite (fun hc => ?_) (fun hc => OK.ret ?_)
  · have hlt : i + 1 ≤ g := by simp at hc; omega
    refine OK.bind (OK.getN (by omega) (fun x hx => ?_))
    have hw : w64 (((i + 1 : Nat) : Int) + 1) = ((i + 1 + 1 : Nat) : Int) := by rw [w64_lo (by omega) (by omega)]; simp
    rw [hw]
    have hll := liveL_len t.2.2 i
    refine OK.ite (fun hx0 => OK.bind (OK.hasRoom (by simp; omega) (kk _ ⟨i + 1, hlt, rfl, ?_⟩ (by simp; omega)))) (fun hx1 => kk _ ⟨i + 1, hlt, rfl, ?_⟩ (by simp; omega))
    · simp only
      rw [liveL_succ, hx, if_pos (by simpa using hx0)]
    · simp only
      rw [liveL_succ, hx, if_neg (by simpa using hx1)]
      simp
  · have : i = g := by simp at hc; omega
    rw [this]
theorem NumI.live {k : Nat} {s : registry_Registry × Int × Int × List Bool × Int} (h : NumI k s) (g : Nat) (hg : s.1.given = (g : Int)) : registry_Registry_Live s.1 = some (liveL s.2.2.2.1 g) := by
  rw [live_is h.inv]
  congr 1
  refine sorted_eq (alive_nodup h.inv) ((liveL_sorted _ _).imp (fun h => by omega)) ((liveL_sorted _ _).imp (fun h => by omega)) (fun p => ?_)
  rw [mem_alive h.inv, liveL_mem]
  constructor
  · rintro ⟨x, hx, h0⟩
    have hp := h.inv.prog p x hx
    refine ⟨hp.1, by omega, ?_⟩
    have := h.ret p.toNat (by omega) (by omega)
    rw [this]
    have e : ((p.toNat : Nat) : Int) = p := by omega
    rw [e]
    have : ∃ x, mget s.1.progs p = some x ∧ x.retiring = 0 := ⟨x, hx, h0⟩
    simp [this]
  · rintro ⟨h1, h2, h3⟩
    have := h.ret p.toNat (by omega) (by omega)
    rw [this] at h3
    have e : ((p.toNat : Nat) : Int) = p := by omega
    rw [e] at h3
    simpa using h3
theorem numbers_step {fu_ : Unit} {k : Nat} {s : registry_Registry × Int × Int × List Bool × Int} (h : NumI k s) (script : List tappetlaw24_Op) (hB : ∀ o ∈ script, o.Bytes.length ≤ 140737488355328) (again : (registry_Registry × Int × Int × List Bool × Int) → Option (Unit ⊕ Bool))
    (ka : ∀ s', NumI (k + 1) s' → OK (again s') (fun o => ∃ u, o = .inl u)) : OK (tappetlaw24_RegistryNumbers_l1 1000 script again s) (fun o => ∃ u, o = .inl u) := by
  obtain ⟨r, last, ver, ret, i⟩ := s
  have hinv := h.inv
  have hlast := h.last
  have hver := h.ver
  have hlen := h.len
  have hret := h.ret
  have hat := h.at_
  have hnew := h.new
  have hsm := h.small
  simp only at hinv hlast hver hlen hret hat hnew
  subst hlast; subst hver; subst hat
  unfold tappetlaw24_RegistryNumbers_l1
  refine OK.ite (fun hc => ?_) (fun _ => OK.ret ⟨(), rfl⟩)
  simp only [Bool.and_eq_true, decide_eq_true_eq] at hc
  have hk : k < 120 := by omega
  have hw : w64 ((k : Int) + 1) = ((k + 1 : Nat) : Int) := by rw [w64_lo (by omega) (by omega)]; simp
  refine OK.bind (OK.getN (by omega) (fun o ho => ?_))
  have hg0 := hinv.given0
  have hg1 := hinv.given
  have hl0 := hinv.last0
  have hl1 := hinv.last
  have hwg : w64 (r.given + 1) = r.given + 1 := w64_lo (by omega) (by omega)
  have hwl : w64 (r.Table.Versions.last + 1) = r.Table.Versions.last + 1 := w64_lo (by omega) (by omega)
  refine OK.bind2 (play_ok hinv (by omega) o (hB o (List.mem_of_getElem? ho))) (fun q hq => ?_)
  obtain ⟨hp, hi'⟩ := hq
  obtain ⟨v, e, r'⟩ := q
  simp only at hi' ⊢
  rw [hw]
  -- a call that is refused changes nothing of what is counted
  have hsame : ∀ (r' : registry_Registry), RegI 3 4 2 (k + 1) r' → r'.given = r.given → r'.Table.Versions.last = r.Table.Versions.last → (∀ p, (∃ x, mget r'.progs p = some x ∧ x.retiring = 0) ↔ (∃ x, mget r.progs p = some x ∧ x.retiring = 0)) →
      NumI (k + 1) (r', r.given, r.Table.Versions.last, ret, ((k + 1 : Nat) : Int)) := fun r' hi e1 e2 e3 =>
    { inv := hi, last := e1.symm, ver := e2.symm, len := hlen, ret := fun p h1 h2 => by
        simp only at h2 ⊢
        rw [hret p h1 (by omega)]
        congr 2
        simp only [e3]
      , new := fun p h1 h2 => hnew p (by simp only at h1; omega) h2, at_ := rfl, small := by omega }
  -- behind a call that is done: what is live is told
  have hdone : ∀ (t : Int × Int × List Bool), NumI (k + 1) (r', t.1, t.2.1, t.2.2, ((k + 1 : Nat) : Int)) →
      OK ((loop (tappetlaw24_RegistryNumbers_l2 t) 1000 (([] : List Int), 1)).bind fun o2976 =>
          ((registry_Registry_Live r').bind fun r3172 =>
          (tappetlaw24_ints r3172 o2976).bind fun r3181 =>
          if (!r3181) then
            some true
          else
            (hooks_Versions_Last r'.Table.Versions).bind fun r3208 =>
            some (r3208 != t.2.1)).bind fun o3169 =>
          if o3169 then
            some (.inr false)
          else
            again (r', t.1, t.2.1, t.2.2, ((k + 1 : Nat) : Int))) (fun o => ∃ u, o = .inl u) := by
    intro t ht
    have hg := ht.inv.given
    have hg0 := ht.inv.given0
    obtain ⟨g, hgg⟩ := Int.eq_ofNat_of_zero_le hg0
    have h1 := ht.last
    have h2 := ht.ver
    simp only at h1 h2 hgg hg
    rw [live_loop t ht.len g (by omega) (by omega)]
    simp only [Option.bind_some]
    have hlv := ht.live g hgg
    simp only at hlv
    rw [hlv]
    simp only [Option.bind_some, ints_is, decide_true, Bool.not_true, Bool.false_eq_true, if_false]
    unfold hooks_Versions_Last
    simp only [Option.bind_some, h2, bne_self_eq_false, Bool.false_eq_true, if_false]
    have := ka _ ht
    rw [h2] at this
    exact this
  by_cases he : e = 0
  · refine OK.ite_false (by simpa using he) ?_
    subst he
    refine OK.bind2 (R := fun x => ∃ t : Int × Int × List Bool, x = .inl t ∧ NumI (k + 1) (r', t.1, t.2.1, t.2.2, ((k + 1 : Nat) : Int))) ?_ (fun x hx => by obtain ⟨t, rfl, ht⟩ := hx; exact hdone t ht)
    cases hp with
    | loadNo hk h1 h2 h3 => exact absurd rfl h1
    | retireNo hk h1 h2 h3 => exact absurd rfl h1
    | enterNo hk h1 h2 h3 => exact absurd rfl h1
    | leaveNo hk h1 h2 h3 => exact absurd rfl h1
    | load m hk h1 h2 h3 =>
      simp only at h2 h3
      subst h2; subst h3
      refine OK.ite_true (by simp [hk]) (OK.ite_false (by simp [hwg]) (OK.ret ⟨_, rfl, ?_⟩))
      rw [hwg]
      have hf := fresh_key hinv
      refine { inv := hi', last := rfl, ver := rfl, len := hlen, ret := fun p h1 h2 => ?_, new := fun p h1 h2 => hnew p (by simp only [added] at h1; omega) h2, at_ := rfl, small := by omega }
      simp only [added] at h2 ⊢
      by_cases e1 : (p : Int) = r.given + 1
      · have hnr : ret[p]? = some false := hnew p (by omega) (by omega)
        rw [hnr, e1]
        simp [mget_mput]
      · rw [hret p h1 (by omega)]
        congr 2
        have : ¬ r.given + 1 = (p : Int) := fun e2 => e1 e2.symm
        simp [mget_mput, this]
    | place hk h =>
      obtain ⟨h1, ⟨x, hx, h0⟩, l, hl, h2⟩ := h.yes rfl
      simp only at h1 h2
      subst h1
      have hp := hinv.prog o.B x hx
      have hrb := hret o.B.toNat (by omega) (by omega)
      have eB : ((o.B.toNat : Nat) : Int) = o.B := by omega
      have hex : ∃ x, mget r.progs o.B = some x ∧ x.retiring = 0 := ⟨x, hx, h0⟩
      have hrf : idx ret o.B = some false := by
        unfold idx
        rw [if_pos (by omega), hrb, eB]
        simp [hex]
      have hk0 : ¬ o.Kind = 0 := by rcases hk with e | e <;> omega
      refine OK.ite_false (by simp [hk0]) ?_
      refine OK.bind2 (R := fun b => b = true) (OK.ite (fun _ => OK.ret (by assumption)) (fun hn => OK.ret (by rcases hk with e | e <;> simp [e] at hn ⊢))) (fun b hb => ?_)
      subst hb
      refine OK.ite_true rfl ?_
      refine OK.bind2 (R := fun b => b = false) (OK.ite_false (by simp [hwl]) (OK.ite_false (by simp; omega) (OK.ite_false (by simp; omega) ?_))) (fun b hb => ?_)
      · rw [hrf]
        exact OK.ret rfl
      · subst hb
        refine OK.ite_false rfl (OK.ret ⟨_, rfl, ?_⟩)
        rw [hwl]
        subst h2
        exact { inv := hi', last := rfl, ver := rfl, len := hlen, ret := hret, new := hnew, at_ := rfl, small := by omega }
    | detach t hk h1 h2 h3 =>
      simp only at h3
      refine OK.ite_false (by simp [hk]) (OK.bind2 (R := fun b => b = false) (OK.ite_false (by simp [hk]) (OK.ret (by simp [hk]))) (fun b hb => ?_))
      subst hb
      refine OK.ite_false rfl (OK.ite_false (by simp [hk]) (OK.ret ⟨_, rfl, ?_⟩))
      subst h3
      exact hsame _ hi' rfl (by simp only [withT]; rw [h2]) (fun _ => Iff.rfl)
    | retire x hk h1 hx h0 h3 =>
      simp only at h3
      have hp := hinv.prog o.B x hx
      have hrb := hret o.B.toNat (by omega) (by omega)
      have eB : ((o.B.toNat : Nat) : Int) = o.B := by omega
      have hex : ∃ x, mget r.progs o.B = some x ∧ x.retiring = 0 := ⟨x, hx, h0⟩
      have hrf : idx ret o.B = some false := by
        unfold idx
        rw [if_pos (by omega), hrb, eB]
        simp [hex]
      refine OK.ite_false (by simp [hk]) (OK.bind2 (R := fun b => b = false) (OK.ite_false (by simp [hk]) (OK.ret (by simp [hk]))) (fun b hb => ?_))
      subst hb
      refine OK.ite_false rfl (OK.ite_true (by simp [hk]) ?_)
      refine OK.bind2 (R := fun b => b = false) (OK.ite_false (by simp; omega) (OK.ite_false (by simp; omega) ?_)) (fun b hb => ?_)
      · rw [hrf]
        exact OK.ret rfl
      · subst hb
        refine OK.ite_false rfl ?_
        rw [hrf]
        simp only [Option.bind_some]
        refine OK.ret ⟨_, rfl, ?_⟩
        subst h3
        refine { inv := hi', last := rfl, ver := rfl, len := by simpa using hlen, ret := fun p h1 h2 => ?_, new := fun p h1 h2 => ?_, at_ := rfl, small := by omega }
        rotate_left
        · simp only [retired] at h1 ⊢
          rw [List.getElem?_set, if_neg (by omega)]
          exact hnew p h1 h2
        have hnow := hinv.now1
        simp only [retired] at h2 ⊢
        rw [List.getElem?_set]
        by_cases e1 : o.B.toNat = p
        · rw [if_pos e1, if_pos (by omega)]
          have e2 : (p : Int) = o.B := by omega
          rw [e2]
          simp [mget_mset, hx]
          omega
        · rw [if_neg e1, hret p h1 h2]
          have e2 : ¬ o.B = (p : Int) := by omega
          congr 2
          simp [mget_mset, e2]
    | settle hk h1 h3 =>
      simp only at h3
      refine OK.ite_false (by simp [hk]) (OK.bind2 (R := fun b => b = false) (OK.ite_false (by simp [hk]) (OK.ret (by simp [hk]))) (fun b hb => ?_))
      subst hb
      refine OK.ite_false rfl (OK.ite_false (by simp [hk]) (OK.ret ⟨_, rfl, ?_⟩))
      subst h3
      refine hsame _ hi' rfl rfl (fun p => ?_)
      simp only [settled_get hinv]
      by_cases hg : p ∈ goneOf r o.A
      · obtain ⟨x, hx, h0, _⟩ := gone_in hinv hg
        simp [hg, hx]
        omega
      · simp [hg]
    | enter hk h1 h4 h5 h6 h3 =>
      simp only at h3
      refine OK.ite_false (by simp [hk]) (OK.bind2 (R := fun b => b = false) (OK.ite_false (by simp [hk]) (OK.ret (by simp [hk]))) (fun b hb => ?_))
      subst hb
      refine OK.ite_false rfl (OK.ite_false (by simp [hk]) (OK.ret ⟨_, rfl, ?_⟩))
      subst h3
      exact hsame _ hi' rfl rfl (fun _ => Iff.rfl)
    | leave hk h1 h2 h3 =>
      simp only at h3
      refine OK.ite_false (by simp [hk]) (OK.bind2 (R := fun b => b = false) (OK.ite_false (by simp [hk]) (OK.ret (by simp [hk]))) (fun b hb => ?_))
      subst hb
      refine OK.ite_false rfl (OK.ite_false (by simp [hk]) (OK.ret ⟨_, rfl, ?_⟩))
      subst h3
      exact hsame _ hi' rfl rfl (fun _ => Iff.rfl)
    | advance hk h1 h3 =>
      simp only at h3
      obtain ⟨k0, k1, k2, k3, k4, _⟩ := hk
      refine OK.ite_false (by simp [k0]) (OK.bind2 (R := fun b => b = false) (OK.ite_false (by simp [k1]) (OK.ret (by simp [k2]))) (fun b hb => ?_))
      subst hb
      refine OK.ite_false rfl (OK.ite_false (by simp [k4]) (OK.ret ⟨_, rfl, ?_⟩))
      subst h3
      exact hsame _ hi' rfl rfl (fun _ => Iff.rfl)
  · have hv : v = 0 ∧ r'.given = r.given ∧ r'.Table.Versions.last = r.Table.Versions.last ∧ ∀ p, (∃ x, mget r'.progs p = some x ∧ x.retiring = 0) ↔ (∃ x, mget r.progs p = some x ∧ x.retiring = 0) := by
      cases hp with
      | loadNo hk h1 h2 h3 => simp only at h2 h3; subst h3; exact ⟨h2, rfl, rfl, fun _ => Iff.rfl⟩
      | retireNo hk h1 h2 h3 => simp only at h2 h3; subst h3; exact ⟨h2, rfl, rfl, fun _ => Iff.rfl⟩
      | enterNo hk h1 h2 h3 => simp only at h2 h3; subst h3; exact ⟨h2, rfl, rfl, fun _ => Iff.rfl⟩
      | leaveNo hk h1 h2 h3 => simp only at h2 h3; subst h3; exact ⟨h2, rfl, rfl, fun _ => Iff.rfl⟩
      | load m hk h1 h2 h3 => exact absurd h1 he
      | place hk h =>
        have := h.no he
        simp only at this
        obtain ⟨h2, h3⟩ := this
        subst h3
        exact ⟨h2, rfl, rfl, fun _ => Iff.rfl⟩
      | detach t hk h1 h2 h3 => simp only at h1 h3; subst h3; exact ⟨h1, rfl, by simp only [withT]; rw [h2], fun _ => Iff.rfl⟩
      | retire x hk h1 hx h0 h3 => exact absurd h1 he
      | settle hk h1 h3 => exact absurd h1 he
      | enter hk h1 h4 h5 h6 h3 => exact absurd h1 he
      | leave hk h1 h2 h3 => exact absurd h1 he
      | advance hk h1 h3 => exact absurd h1 he
    exact OK.ite_true (by simpa using he) (OK.ite_false (by simpa using hv.1) (ka _ (hsame _ hi' hv.2.1 hv.2.2.1 hv.2.2.2)))
theorem registryNumbers_true (p0 : List tappetlaw24_Op) (g0 : p0.length * 48 ≤ reachBytes ∧ ∀ y45 ∈ p0, G_tappetlaw24_Op y45) : ∃ fu, tappetlaw24_RegistryNumbers fu p0 = some true := by
  refine ⟨1000, OK.is ?_⟩
  have hB : ∀ o ∈ p0, o.Bytes.length ≤ 140737488355328 := fun o ho => by
    have h1 : o.Bytes.length * 1 ≤ reachBytes := (g0.2 o ho).2.2.2.1
    have h2 : reachBytes ≤ 140737488355328 := by decide
    omega
  unfold tappetlaw24_RegistryNumbers
  rw [awake_is]
  simp only [Option.bind_some, Bool.not_true, Bool.false_eq_true, if_false]
  obtain ⟨r, hr, hi, h1, h2, h3, h4, h5⟩ := new_is (H := 3) (M := 4) (W := 2) (by omega) (by omega) (by omega) (by omega) (by omega)
  have hr' : registry_New 3 4 2 = some (some r, 0) := hr
  rw [hr']
  simp only [Option.bind_some]
  refine OK.some_ (OK.ite_false (by simp) ?_)
  refine OK.bind (OK.mkl (by omega) (by decide) ?_)
  refine OK.bind2 (OK.rounds (Q := fun o => ∃ u, o = .inl u) (fun s => ∃ k, NumI k s) (fun s => 121 - s.2.2.2.2.toNat) ?_ 1000 _ ⟨0, ?_⟩ (by simp)) (fun o ho => by obtain ⟨u, rfl⟩ := ho; exact OK.ret rfl)
  · rintro s again ⟨k, hk⟩ ka
    refine numbers_step (fu_ := ()) hk p0 hB again (fun s' hs' => ka s' ⟨_, hs'⟩ ?_)
    have e1 := hk.at_
    have e2 := hs'.at_
    have e3 := hs'.small
    simp only [e1, e2]
    omega
  · exact { inv := hi, last := h1.symm, ver := h2.symm, len := by simp, ret := fun p hp1 hp2 => by simp only at hp2; omega, new := fun p _ hp => by show (List.replicate 130 false)[p]? = some false; rw [List.getElem?_replicate, if_pos hp], at_ := rfl, small := by omega }
end Go.Proofs.YtdnogiegiclcfaaGreatDoor
