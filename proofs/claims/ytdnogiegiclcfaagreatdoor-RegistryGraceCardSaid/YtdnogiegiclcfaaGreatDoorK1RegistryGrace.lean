/- The plain law: a program that is let go of was retired, and every worker that was in then has left since. -/
import Derived.Test.YtdnogiegiclcfaaGreatDoorKReg5
import Derived.Test.YtdnogiegiclcfaaGreatDoorD1
set_option linter.unusedVariables false
set_option linter.unusedSimpArgs false
namespace Go.Proofs.YtdnogiegiclcfaaGreatDoor
open Go.Sx
set_option maxRecDepth 100000 in
theorem awake_isG : tappetlaw24_awake 1000 = some true := by decide +kernel
def StillIn (r : registry_Registry) (i : Nat) (e : Int) : Prop := ∃ v, r.Clock.in_[i]? = some v ∧ v ≠ 0 ∧ v < e
structure GraceI (k : Nat) (r : registry_Registry) (waits : List (List Bool)) : Prop where
  inv : RegI 3 4 2 k r
  small : k ≤ 120
  len : waits.length = 130
  been : ∀ (p : Nat) w, waits[p]? = some w → w ≠ [] → w.length = 2 ∧ 1 ≤ p ∧ (p : Int) ≤ r.given ∧ ∀ x, mget r.progs p = some x → 0 < x.retiring
  two : ∀ p ∈ r.waiting, ∃ a b, waits[p.toNat]? = some [a, b] ∧ ∀ x, mget r.progs p = some x → (a = true → StillIn r 0 x.retiring) ∧ (b = true → StillIn r 1 x.retiring)
theorem GraceI.same {k : Nat} {r r' : registry_Registry} {waits : List (List Bool)} (h : GraceI k r waits) (hk : k < 120) (hi : RegI 3 4 2 (k + 1) r') (e1 : r.given ≤ r'.given) (e2 : ∀ p x, p ≤ r.given → mget r'.progs p = some x → mget r.progs p = some x) (e3 : r'.waiting ⊆ r.waiting)
    (e4 : ∀ i e, StillIn r i e → StillIn r' i e) : GraceI (k + 1) r' waits := by
  refine ⟨hi, by omega, h.len, fun p w hw hn => ?_, fun p hp => ?_⟩
  · obtain ⟨h1, h2, h3, h4⟩ := h.been p w hw hn
    exact ⟨h1, h2, by omega, fun x hx => h4 x (e2 _ x h3 hx)⟩
  · obtain ⟨a, b, h1, h2⟩ := h.two p (e3 hp)
    refine ⟨a, b, h1, fun x hx => ?_⟩
    have hpg : p ≤ r.given := by
      obtain ⟨y, hy, _⟩ := (h.inv.wait p).1 (e3 hp)
      exact (h.inv.prog _ _ hy).2.1
    have := h2 x (e2 p x hpg hx)
    exact ⟨fun ha => e4 _ _ (this.1 ha), fun hb => e4 _ _ (this.2 hb)⟩
theorem in_is {k : Nat} {r : registry_Registry} (h : RegI 3 4 2 k r) {i : Nat} (hi : i < 2) : ∃ v, r.Clock.in_[i]? = some v ∧ epoch_Clock_In r.Clock (i : Int) = some (v, v != 0) := by
  obtain ⟨v, hv, hv2⟩ := idx_get (l := r.Clock.in_) (t := (i : Int)) (by omega) (by rw [h.wk]; omega)
  refine ⟨v, by simpa using hv2, ?_⟩
  unfold epoch_Clock_In epoch_Clock_known
  simp only [Option.bind_some]
  rw [if_neg (by rw [h.wk]; simp; omega), hv]
  rfl
theorem strike_ok (o : tappetlaw24_Op) (waits : List (List Bool)) (hl : waits.length = 130) (h2 : ∀ (p : Nat) w, waits[p]? = some w → w ≠ [] → w.length = 2) (a0 : 0 ≤ o.A) (a1 : o.A ≤ 1) :
    OK (forN (tappetlaw24_RegistryGrace_l3 o) (fun (s : List (List Bool)) => s) 130 0 waits) (fun l => l.length = 130 ∧ ∀ p : Nat, l[p]? = (waits[p]?).map (fun w => w.set o.A.toNat false)) := by
  refine OK.count (fun i s => s.length = 130 ∧ ∀ p : Nat, s[p]? = if p < i then (waits[p]?).map (fun w => w.set o.A.toNat false) else waits[p]?) ⟨hl, fun p => by simp⟩ (fun i s again hi hI k => ?_) (fun s hI => ⟨hI.1, fun p => ?_⟩)
  · obtain ⟨hsl, hs⟩ := hI
    unfold tappetlaw24_RegistryGrace_l3
    refine OK.bind (OK.getN (by omega) (fun w hw => ?_))
    have hw0 : waits[i]? = some w := by have := hs i; rw [if_neg (by omega)] at this; rw [← this]; exact hw
    refine OK.ite (fun hc => ?_) (fun hc => k _ ⟨hsl, fun p => ?_⟩)
    · have hne : w ≠ [] := by rintro rfl; simp at hc
      have hwl := h2 i w hw0 hne
      obtain ⟨y, hy, _⟩ := idx_get (l := w) a0 (by omega)
      rw [hy]
      simp only [Option.bind_some]
      refine k _ ⟨by simpa using hsl, fun p => ?_⟩
      simp only [Int.toNat_natCast]
      rw [List.getElem?_set]
      by_cases e : i = p
      · subst e
        rw [if_pos rfl, if_pos (by omega), if_pos (by omega), hw0]
        rfl
      · rw [if_neg e, hs p]
        by_cases h9 : p < i
        · rw [if_pos h9, if_pos (by omega)]
        · rw [if_neg h9, if_neg (by omega)]
    · have hwn : w = [] := by
        cases w with
        | nil => rfl
        | cons x l => simp at hc
      rw [hs p]
      by_cases h9 : p < i
      · rw [if_pos h9, if_pos (by omega)]
      · rw [if_neg h9]
        by_cases e : p = i
        · subst e
          rw [if_pos (by omega), hw0, hwn]
          rfl
        · rw [if_neg (by omega)]
  · have := hI.2 p
    by_cases hp : p < 130
    · rw [if_pos hp] at this; exact this
    · rw [List.getElem?_eq_none (by omega), List.getElem?_eq_none (by omega)]
      rfl
theorem grace_step {k : Nat} {r : registry_Registry} {waits : List (List Bool)} (h : GraceI k r waits) (script : List tappetlaw24_Op) (hB : ∀ o ∈ script, o.Bytes.length ≤ 140737488355328) (again : (registry_Registry × List (List Bool) × Int) → Option (registry_Registry ⊕ Bool))
    (Q : (registry_Registry ⊕ Bool) → Prop) (ka : ∀ r' waits', GraceI (k + 1) r' waits' → OK (again (r', waits', ((k + 1 : Nat) : Int))) Q) (ke : Q (.inl r)) : OK (tappetlaw24_RegistryGrace_l1 1000 script 130 again (r, waits, (k : Int))) Q := by
  have hinv := h.inv
  have hsm := h.small
  unfold tappetlaw24_RegistryGrace_l1
  refine OK.ite (fun hc => ?_) (fun _ => OK.ret ke)
  simp only [Bool.and_eq_true, decide_eq_true_eq] at hc
  have hk : k < 120 := by omega
  have hw : w64 ((k : Int) + 1) = ((k + 1 : Nat) : Int) := by rw [w64_lo (by omega) (by omega)]; simp
  refine OK.bind (OK.getN (by omega) (fun o ho => ?_))
  have hg0 := hinv.given0
  have hg1 := hinv.given
  rw [hw]
  have hmono : RegI 3 4 2 (k + 1) r := hinv.mono (by omega) (by omega)
  have hsame : GraceI (k + 1) r waits := h.same hk hmono (Int.le_refl _) (fun p x _ hx => hx) (fun _ hx => hx) (fun _ _ hs => hs)
  refine OK.ite (fun hk4 => ?_) (fun hk4 => OK.ite (fun hk5 => ?_) (fun hk5 => OK.ite (fun hk7 => ?_) (fun hk7 => ?_)))
  · refine OK.bind2 (retire_ok hinv o.B) (fun q hq => ?_)
    obtain ⟨v, e, r'⟩ := q
    simp only at hq ⊢
    rcases hq with ⟨h1, h2, h3⟩ | ⟨h1, h2, x, hx, h0, h3⟩
    · subst h3
      exact OK.ite_true (by simpa using h1) (ka _ _ hsame)
    · subst h1
      have hS := retired_inv hinv (by omega) hx h0
      refine OK.ite_false (by simp) ?_
      have hpr := hinv.prog _ _ hx
      have eB : ((o.B.toNat : Nat) : Int) = o.B := by omega
      obtain ⟨w, hwi, hwi2⟩ := idx_get (l := waits) (t := o.B) (by omega) (by rw [h.len]; omega)
      have hw0 : w = [] := by
        apply Classical.byContradiction
        intro hn
        have := (h.been _ w hwi2 hn).2.2.2 x (by rw [eB]; exact hx)
        omega
      refine OK.bind2 (R := fun b => b = false) (OK.ite_false (by simp; omega) (OK.ite_false (by simp; omega) (by rw [hwi]; exact OK.ret (by rw [hw0]; rfl)))) (fun b hb => ?_)
      subst hb; subst h3
      refine OK.ite_false rfl ?_
      obtain ⟨a, ha, ha2⟩ := in_is hS (i := 0) (by omega)
      obtain ⟨b, hb, hb2⟩ := in_is hS (i := 1) (by omega)
      have ha2' : epoch_Clock_In (retired r o.B x).Clock 0 = some (a, a != 0) := ha2
      have hb2' : epoch_Clock_In (retired r o.B x).Clock 1 = some (b, b != 0) := hb2
      rw [ha2', hb2', hwi]
      simp only [Option.bind_some]
      refine ka _ _ ⟨hS, by omega, by simpa using h.len, fun p w hw hn => ?_, fun p hp => ?_⟩
      · have hget : ∀ q, mget (retired r o.B x).progs q = if o.B = q then some ⟨x.module, r.Clock.now + 1⟩ else mget r.progs q := fun q => by simp [retired, mget_mset, hx]
        rw [List.getElem?_set] at hw
        by_cases e : o.B.toNat = p
        · rw [if_pos e, if_pos (by rw [h.len]; omega)] at hw
          cases hw
          refine ⟨rfl, by omega, by simp only [retired]; omega, fun y hy => ?_⟩
          rw [hget, if_pos (by omega)] at hy
          cases hy
          have := hinv.now1
          simp; omega
        · rw [if_neg e] at hw
          obtain ⟨c1, c2, c3, c4⟩ := h.been p w hw hn
          refine ⟨c1, c2, c3, fun y hy => ?_⟩
          rw [hget, if_neg (by omega)] at hy
          exact c4 y hy
      · have hget : ∀ q, mget (retired r o.B x).progs q = if o.B = q then some ⟨x.module, r.Clock.now + 1⟩ else mget r.progs q := fun q => by simp [retired, mget_mset, hx]
        have hp : p ∈ r.waiting ++ [o.B] := hp
        by_cases e : o.B = p
        · subst e
          refine ⟨a != 0, b != 0, by rw [List.getElem?_set, if_pos rfl, if_pos (by rw [h.len]; omega)], fun y hy => ?_⟩
          rw [hget, if_pos rfl] at hy
          cases hy
          have hca := hinv.cin a (List.mem_of_getElem? (show r.Clock.in_[0]? = some a from ha))
          have hcb := hinv.cin b (List.mem_of_getElem? (show r.Clock.in_[1]? = some b from hb))
          exact ⟨fun hn => ⟨a, ha, by simpa using hn, by simp; omega⟩, fun hn => ⟨b, hb, by simpa using hn, by simp; omega⟩⟩
        · have hp' : p ∈ r.waiting := by
            rcases List.mem_append.1 hp with h9 | h9
            · exact h9
            · simp at h9; omega
          obtain ⟨c, d, h8, h9⟩ := h.two p hp'
          have hpp : 1 ≤ p := by
            obtain ⟨y, hy, _⟩ := (hinv.wait p).1 hp'
            exact (hinv.prog _ _ hy).1
          refine ⟨c, d, by rw [List.getElem?_set, if_neg (by omega)]; exact h8, fun y hy => ?_⟩
          rw [hget, if_neg e] at hy
          exact h9 y hy
  · rw [settle_is hinv]
    simp only [Option.bind_some]
    have hS := settled_inv hinv (by omega) o.A
    refine OK.bind2 (OK.count (Q := fun x => ∃ u, x = .inl u) (fun _ _ => True) trivial (fun i s again hi _ kk => ?_) (fun s _ => ⟨(), rfl⟩)) (fun x hx => ?_)
    · unfold tappetlaw24_RegistryGrace_l2
      refine OK.bind2 (R := fun b => b = false) (OK.bind (OK.getN hi (fun p hp => ?_))) (fun b hb => by subst hb; exact OK.ite_false rfl (kk _ trivial))
      have hmem := List.mem_of_getElem? hp
      obtain ⟨x, hx, h0, hsafe⟩ := gone_in hinv hmem
      have hpr := hinv.prog p x hx
      obtain ⟨a, b, h8, h9⟩ := h.two p ((gone_sub r o.A).subset hmem)
      have hab := h9 x hx
      have hna : a = false := by
        cases a with
        | false => rfl
        | true =>
          obtain ⟨v, hv, hv0, hv1⟩ := hab.1 rfl
          rcases hsafe v (List.mem_of_getElem? hv) with h7 | h7 <;> omega
      have hnb : b = false := by
        cases b with
        | false => rfl
        | true =>
          obtain ⟨v, hv, hv0, hv1⟩ := hab.2 rfl
          rcases hsafe v (List.mem_of_getElem? hv) with h7 | h7 <;> omega
      subst hna; subst hnb
      refine OK.ite_false (by simp; omega) (OK.ite_false (by simp; omega) ?_)
      have hix : idx waits p = some [false, false] := by
        unfold idx
        rw [if_pos (by omega), h8]
      simp only [hix, Option.bind_some]
      exact OK.ret rfl
    · obtain ⟨u, rfl⟩ := hx
      have hlen := takeB_len (safeP r) r.waiting o.A
      refine OK.ite_false ?_ ?_
      · have hlen' : ((goneOf r o.A).length : Int) ≤ if 0 < o.A then o.A else 0 := hlen
        have hmx : (if 0 < o.A then o.A else 0) ≤ imax 0 o.A := by unfold imax; split <;> omega
        simp only [decide_eq_false_iff_not]
        omega
      · refine ka _ _ (h.same hk hS (Int.le_refl _) (fun p x _ hx => ?_) (fun x hx => ?_) (fun _ _ hs => hs))
        · rw [settled_get hinv] at hx
          split at hx
          · cases hx
          · exact hx
        · exact (List.mem_filter.1 hx).1
  · refine OK.bind2 (leave_ok hinv o.A) (fun q hq => ?_)
    rcases hq with ⟨h1, h2, _⟩ | ⟨h1, h4, h5, h3⟩
    · refine OK.ite_true (by simpa using h1) ?_
      rw [h2]
      exact ka _ _ hsame
    · refine OK.ite_false (by simpa using h1) (OK.ite_false (by simp; omega) (OK.bind2 (OK.bind (OK.hasRoom (by omega) (strike_ok o waits h.len (fun p w hw hn => (h.been p w hw hn).1) h4 (by omega)))) (fun l hl => ?_)))
      have hS := leave_inv hinv (by omega) o.A
      rw [h3]
      refine ka _ _ ⟨hS, by omega, hl.1, fun p w hw hn => ?_, fun p hp => ?_⟩
      · rw [hl.2] at hw
        cases hwp : waits[p]? with
        | none => rw [hwp] at hw; cases hw
        | some w0 =>
          rw [hwp] at hw
          simp only [Option.map_some, Option.some.injEq] at hw
          have hn0 : w0 ≠ [] := by rintro rfl; apply hn; rw [← hw]; rfl
          obtain ⟨c1, c2, c3, c4⟩ := h.been p w0 hwp hn0
          exact ⟨by rw [← hw]; simpa using c1, c2, c3, c4⟩
      · obtain ⟨a, b, h8, h9⟩ := h.two p hp
        have hA : o.A = 0 ∨ o.A = 1 := by omega
        rcases hA with hA | hA
        · refine ⟨false, b, by rw [hl.2, h8, hA]; rfl, fun x hx => ⟨fun hf => (by cases hf), fun hb => ?_⟩⟩
          obtain ⟨v, hv, hv0, hv1⟩ := (h9 x hx).2 hb
          refine ⟨v, ?_, hv0, hv1⟩
          show (r.Clock.in_.set o.A.toNat 0)[1]? = some v
          rw [List.getElem?_set, if_neg (by omega)]
          exact hv
        · refine ⟨a, false, by rw [hl.2, h8, hA]; rfl, fun x hx => ⟨fun ha => ?_, fun hf => (by cases hf)⟩⟩
          obtain ⟨v, hv, hv0, hv1⟩ := (h9 x hx).1 ha
          refine ⟨v, ?_, hv0, hv1⟩
          show (r.Clock.in_.set o.A.toNat 0)[0]? = some v
          rw [List.getElem?_set, if_neg (by omega)]
          exact hv
  · refine OK.bind2 (play_ok hinv (by omega) o (hB o (List.mem_of_getElem? ho))) (fun q hq => ?_)
    obtain ⟨hp, hi'⟩ := hq
    obtain ⟨v, e, r'⟩ := q
    simp only at hi' ⊢
    have hk4 : ¬ o.Kind = 4 := by simpa using hk4
    have hk5 : ¬ o.Kind = 5 := by simpa using hk5
    have hk7 : ¬ o.Kind = 7 := by simpa using hk7
    refine ka _ _ ?_
    cases hp with
    | loadNo hk h1 h2 h3 => simp only at h3; subst h3; exact hsame
    | load m hk0 h1 h2 h3 =>
      simp only at h3
      subst h3
      refine h.same hk hi' (by simp only [added]; omega) (fun p x hpg hx => ?_) (fun _ hx => hx) (fun _ _ hs => hs)
      simp only [added, mget_mput] at hx
      rw [if_neg (by omega)] at hx
      exact hx
    | place hk0 hpl =>
      by_cases he : e = 0
      · obtain ⟨_, _, l, _, h3⟩ := hpl.yes he
        simp only at h3
        subst h3
        exact h.same hk hi' (Int.le_refl _) (fun p x _ hx => hx) (fun _ hx => hx) (fun _ _ hs => hs)
      · have h3 := (hpl.no he).2
        simp only at h3
        subst h3
        exact hsame
    | detach t hk0 h1 h2 h3 => simp only at h3; subst h3; exact h.same hk hi' (Int.le_refl _) (fun p x _ hx => hx) (fun _ hx => hx) (fun _ _ hs => hs)
    | retireNo hk0 h1 h2 h3 => exact absurd hk0 hk4
    | retire x hk0 h1 hx h0 h3 => exact absurd hk0 hk4
    | settle hk0 h1 h3 => exact absurd hk0 hk5
    | enterNo hk0 h1 h2 h3 => simp only at h3; subst h3; exact hsame
    | enter hk0 h1 h4 h5 h6 h3 =>
      simp only at h3
      subst h3
      refine h.same hk hi' (Int.le_refl _) (fun p x _ hx => hx) (fun _ hx => hx) (fun i e hs => ?_)
      obtain ⟨v, hv, hv0, hv1⟩ := hs
      refine ⟨v, ?_, hv0, hv1⟩
      show (r.Clock.in_.set o.A.toNat r.Clock.now)[i]? = some v
      rw [List.getElem?_set]
      by_cases e : o.A.toNat = i
      · subst e
        rw [h6] at hv
        cases hv
        exact absurd rfl hv0
      · rw [if_neg e]; exact hv
    | leaveNo hk0 h1 h2 h3 => exact absurd hk0 hk7
    | leave hk0 h1 h2 h3 => exact absurd hk0 hk7
    | advance hk0 h1 h3 => simp only at h3; subst h3; exact h.same hk hi' (Int.le_refl _) (fun p x _ hx => hx) (fun _ hx => hx) (fun _ _ hs => hs)
theorem registryGrace_true (p0 : List tappetlaw24_Op) (g0 : p0.length * 48 ≤ reachBytes ∧ ∀ y45 ∈ p0, G_tappetlaw24_Op y45) : ∃ fu, tappetlaw24_RegistryGrace fu p0 = some true := by
  refine ⟨1000, OK.is ?_⟩
  have hB : ∀ o ∈ p0, o.Bytes.length ≤ 140737488355328 := fun o ho => by
    have h1 : o.Bytes.length * 1 ≤ reachBytes := (g0.2 o ho).2.2.2.1
    have h2 : reachBytes ≤ 140737488355328 := by decide
    omega
  unfold tappetlaw24_RegistryGrace
  rw [awake_isG]
  simp only [Option.bind_some, Bool.not_true, Bool.false_eq_true, if_false]
  obtain ⟨r, hr, hi, h1, h2, h3, h4, h5⟩ := new_is (H := 3) (M := 4) (W := 2) (by omega) (by omega) (by omega) (by omega) (by omega)
  have hr' : registry_New 3 4 2 = some (some r, 0) := hr
  rw [hr']
  simp only [Option.bind_some]
  refine OK.some_ (OK.ite_false (by simp) ?_)
  have hmk : mkLen 130 24 = some 130 := by unfold mkLen; rw [if_pos ⟨by decide, by decide⟩]; rfl
  rw [hmk]
  simp only [Option.bind_some]
  refine OK.bind2 (OK.rounds (Q := fun o => ∃ k q w, o = .inl q ∧ GraceI k q w) (fun s => ∃ k : Nat, s.2.2 = (k : Int) ∧ GraceI k s.1 s.2.1) (fun s => 121 - s.2.2.toNat) ?_ 1000 _ ⟨0, rfl, hi, by omega, by simp, fun p w hp hn => ?_, fun p hp => ?_⟩ (by simp)) (fun o ho => ?_)
  · rintro ⟨q, g, i⟩ again ⟨k, e1, hk⟩ ka
    simp only at e1 hk
    subst e1
    refine grace_step hk p0 hB again _ (fun r' g' h' => ka _ ⟨k + 1, rfl, h'⟩ ?_) ⟨k, q, g, rfl, hk⟩
    have := h'.small
    simp only
    omega
  · simp only [List.getElem?_replicate] at hp
    split at hp
    · cases hp; exact absurd rfl hn
    · cases hp
  · simp only at hp
    rw [h4] at hp
    cases hp
  · obtain ⟨k, q, w, rfl, hq⟩ := ho
    simp only
    have hks := hq.small
    have hq0 := hq.inv
    refine OK.bind2 (leave_ok hq0 0) (fun c1 hc1 => ?_)
    have h1 : RegI 3 4 2 (k + 1) (withC q c1.2) ∧ c1.2.in_[0]? = some 0 := by
      rcases hc1 with ⟨_, e2, e3⟩ | ⟨_, _, _, e2⟩
      · rw [e2]
        exact ⟨hq0.mono (by omega) (by omega), e3 (by omega) (by omega)⟩
      · rw [e2]
        refine ⟨leave_inv hq0 (by omega) 0, ?_⟩
        show (q.Clock.in_.set 0 0)[0]? = some 0
        rw [List.getElem?_set, if_pos rfl, if_pos (by rw [hq0.wk]; omega)]
    obtain ⟨hi1, hz0⟩ := h1
    refine OK.bind2 (leave_ok hi1 1) (fun c2 hc2 => ?_)
    have h2 : RegI 3 4 2 (k + 1 + 1) (withC q c2.2) ∧ c2.2.in_[0]? = some 0 ∧ c2.2.in_[1]? = some 0 := by
      rcases hc2 with ⟨_, e2, e3⟩ | ⟨_, _, _, e2⟩
      · rw [e2]
        exact ⟨hi1.mono (by omega) (by omega), hz0, e3 (by omega) (by omega)⟩
      · rw [e2]
        have hwk := hi1.wk
        refine ⟨leave_inv hi1 (by omega) 1, ?_, ?_⟩
        · show (c1.2.in_.set 1 0)[0]? = some 0
          rw [List.getElem?_set, if_neg (by omega)]
          exact hz0
        · show (c1.2.in_.set 1 0)[1]? = some 0
          rw [List.getElem?_set, if_pos rfl, if_pos (by show 1 < (withC q c1.2).Clock.in_.length; rw [hwk]; omega)]
    obtain ⟨hi2, hz0, hz1⟩ := h2
    have hall : ∀ e ∈ c2.2.in_, e = 0 := by
      intro e he
      obtain ⟨j, hj, rfl⟩ := List.mem_iff_getElem.1 he
      have hwk : c2.2.in_.length = 2 := hi2.wk
      have : j = 0 ∨ j = 1 := by omega
      rcases this with rfl | rfl
      · exact (List.getElem?_eq_some_iff.1 hz0).2
      · exact (List.getElem?_eq_some_iff.1 hz1).2
    have hret := retiring_is hi2
    have hret' : registry_Registry_Retiring ⟨q.Table, q.Refs, c2.2, q.hooks, q.maps, q.given, q.progs, q.waiting⟩ = some q.waiting := hret
    have hset := settle_is hi2 1000
    have hwl := hi2.wlen
    have hl16 := hi2.len
    have hgone : goneOf (withC q c2.2) 1000 = q.waiting := by
      unfold goneOf
      refine takeB_all _ _ _ (by show ((withC q c2.2).waiting.length : Int) ≤ 1000; omega) (fun p hp => ?_)
      obtain ⟨x, hx, _⟩ := (hi2.wait p).1 hp
      unfold safeP
      rw [hx]
      simp only [decide_eq_true_eq]
      exact fun e he => .inl (hall e he)
    rw [hgone] at hset
    have hset' : registry_Registry_Settle 1000 ⟨q.Table, q.Refs, c2.2, q.hooks, q.maps, q.given, q.progs, q.waiting⟩ 1000 = some (q.waiting, settled (withC q c2.2) q.waiting) := hset
    have hS := settled_inv hi2 (by omega) 1000
    rw [hgone] at hS
    have hret2 := retiring_is hS
    rw [hret', hset']
    simp only [Option.bind_some, beq_self_eq_true, if_true, hret2]
    refine OK.ret ?_
    have : (settled (withC q c2.2) q.waiting).waiting = [] := by
      show q.waiting.filter _ = []
      rw [List.filter_eq_nil_iff]
      intro a ha
      simp [ha]
    rw [this]
    rfl
end Go.Proofs.YtdnogiegiclcfaaGreatDoor
