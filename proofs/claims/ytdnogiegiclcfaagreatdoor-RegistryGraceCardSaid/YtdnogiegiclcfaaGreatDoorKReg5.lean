/- Settling; a call of a script; the live programs. -/
import Derived.Test.YtdnogiegiclcfaaGreatDoorKReg4
set_option linter.unusedVariables false
set_option linter.unusedSimpArgs false
namespace Go.Proofs.YtdnogiegiclcfaaGreatDoor
open Go.Sx
variable {H M W n : Nat} {r : registry_Registry}

theorem Keys.mdels {α : Type} {m : List (Int × α)} (h : Keys m) (g : List Int) : Keys (mdels m g) := by
  induction g generalizing m with
  | nil => exact h
  | cons x g ih => exact ih (h.mdel x)
theorem mget_mdels {α : Type} {m : List (Int × α)} (h : Keys m) (g : List Int) (q : Int) : mget (mdels m g) q = if q ∈ g then none else mget m q := by
  induction g generalizing m with
  | nil => simp [mdels]
  | cons x g ih =>
    simp only [mdels]
    rw [ih (h.mdel x), mget_mdel h]
    by_cases h1 : q ∈ g
    · simp [h1]
    · by_cases h2 : x = q
      · subst h2; simp
      · have : ¬ q = x := fun e => h2 e.symm
        simp [h1, h2, this]
theorem mdels_map {α β : Type} (f : α → β) (g : List Int) (m : List (Int × α)) : (mdels m g).map (fun p => (p.1, f p.2)) = mdels (m.map (fun p => (p.1, f p.2))) g := by
  induction g generalizing m with
  | nil => rfl
  | cons x g ih => simp only [mdels]; rw [ih, mdel_map]
def settled (r : registry_Registry) (g : List Int) : registry_Registry :=
  ⟨r.Table, ⟨r.Refs.maps, mdels r.Refs.held g⟩, r.Clock, r.hooks, r.maps, r.given, mdels r.progs g, r.waiting.filter (fun x => decide (x ∉ g))⟩
theorem drop1_is (p : refs_Refs) (x : Int) : ∃ e, refs_Refs_Drop p [x] = some (e, ⟨p.maps, mdel p.held x⟩) := by
  rw [drop_is, if_pos (by simp)]
  by_cases h : (mget p.held x).isSome = true
  · rw [if_pos (by simpa using h)]
    exact ⟨_, rfl⟩
  · rw [if_neg (by simpa using h)]
    have : mget p.held x = none := by cases hh : mget p.held x with
      | none => rfl
      | some v => rw [hh] at h; simp at h
    rw [mdel_none this]
    exact ⟨_, rfl⟩
theorem settle_l2 (r : registry_Registry) (g : List Int) : forN (registry_Registry_Settle_l2 g) (fun (s : registry_Registry) => s) g.length 0 r = some ⟨r.Table, ⟨r.Refs.maps, mdels r.Refs.held g⟩, r.Clock, r.hooks, r.maps, r.given, mdels r.progs g, r.waiting⟩ := by
  refine OK.is (OK.count (fun i s => s = ⟨r.Table, ⟨r.Refs.maps, mdels r.Refs.held (g.take i)⟩, r.Clock, r.hooks, r.maps, r.given, mdels r.progs (g.take i), r.waiting⟩) rfl (fun i s again hi hI k => ?_) (fun s hI => ?_))
  · subst hI
    unfold registry_Registry_Settle_l2
    refine OK.bind (OK.getN hi (fun x hx => ?_))
    obtain ⟨e, he⟩ := drop1_is ⟨r.Refs.maps, mdels r.Refs.held (g.take i)⟩ x
    simp only [he, Option.bind_some]
    refine k _ ?_
    rw [take_snoc hx, mdels_snoc, mdels_snoc]
  · rw [List.take_length] at hI
    exact hI
theorem gone_sub (r : registry_Registry) (most : Int) : (goneOf r most).Sublist r.waiting := takeB_sub _ _ _
theorem settle_is (h : RegI H M W n r) (most : Int) : registry_Registry_Settle 1000 r most = some (goneOf r most, settled r (goneOf r most)) := by
  refine OK.is ?_
  unfold registry_Registry_Settle
  refine OK.bind2 (settle_l1 h most) (fun g hg => ?_)
  rw [settle_l2]
  simp only [Option.bind_some]
  have hw := h.wlen
  have hl := h.len
  rw [delete_is _ _ (by omega)]
  simp only [Option.bind_some]
  exact OK.ret (by rw [hg]; rfl)
theorem gone_in (h : RegI H M W n r) {most p : Int} (hp : p ∈ goneOf r most) : ∃ x, mget r.progs p = some x ∧ 0 < x.retiring ∧ ∀ e ∈ r.Clock.in_, e = 0 ∨ x.retiring ≤ e := by
  obtain ⟨x, hx, h0⟩ := (h.wait p).1 ((gone_sub r most).subset hp)
  refine ⟨x, hx, h0, ?_⟩
  have := takeB_P _ _ _ p hp
  unfold safeP at this
  rw [hx] at this
  simpa using this
theorem settled_get (h : RegI H M W n r) (g : List Int) (q : Int) : mget (settled r g).progs q = if q ∈ g then none else mget r.progs q := mget_mdels h.keys g q
theorem settled_inv (h : RegI H M W n r) (hb : n + 1 ≤ 1000) (most : Int) : RegI H M W (n + 1) (settled r (goneOf r most)) := by
  have h' := h.mono (n' := n + 1) (by omega) hb
  refine { hooks := h'.hooks, hl := h'.hl, maps := h'.maps, rmaps := h'.rmaps, wk := h'.wk, small := h'.small, bound := hb, given0 := h'.given0, given := h'.given, last0 := h'.last0, last := h'.last, now1 := h'.now1, now := h'.now, cin := h'.cin, keys := h.keys.mdels _, len := ?_, prog := fun p x hx => ?_, held := ?_, wnd := h.wnd.sublist List.filter_sublist, wait := fun p => ?_ }
  · have := mdels_len (goneOf r most) r.progs
    have h2 := h.len
    simp only [settled]; omega
  · rw [settled_get h] at hx
    split at hx
    · cases hx
    · exact h.prog p x hx
  · simp only [settled]
    rw [h.held]
    exact (mdels_map (fun (z : registry_program) => z.module.Maps) _ _).symm
  · rw [settled_get h]
    simp only [settled, List.mem_filter, decide_eq_true_eq, h.wait p]
    by_cases hp : p ∈ goneOf r most
    · simp [hp]
    · simp [hp]

inductive Played (r : registry_Registry) (W : Nat) (o : tappetlaw24_Op) (q : Int × Int × registry_Registry) : Prop
  | loadNo (hk : o.Kind = 0) (h1 : q.2.1 ≠ 0) (h2 : q.1 = 0) (h3 : q.2.2 = r)
  | load (m : api_Module) (hk : o.Kind = 0) (h1 : q.2.1 = 0) (h2 : q.1 = r.given + 1) (h3 : q.2.2 = added r m)
  | place (hk : o.Kind = 1 ∨ o.Kind = 2) (h : Placed r o.A o.B q)
  | detach (t : hooks_Table) (hk : o.Kind = 3) (h1 : q.1 = 0) (h2 : t.Versions = r.Table.Versions) (h3 : q.2.2 = withT r t)
  | retireNo (hk : o.Kind = 4) (h1 : q.2.1 ≠ 0) (h2 : q.1 = 0) (h3 : q.2.2 = r)
  | retire (x : registry_program) (hk : o.Kind = 4) (h1 : q.2.1 = 0) (hx : mget r.progs o.B = some x) (h0 : x.retiring = 0) (h3 : q.2.2 = retired r o.B x)
  | settle (hk : o.Kind = 5) (h1 : q.2.1 = 0) (h3 : q.2.2 = settled r (goneOf r o.A))
  | enterNo (hk : o.Kind = 6) (h1 : q.2.1 ≠ 0) (h2 : q.1 = 0) (h3 : q.2.2 = r)
  | enter (hk : o.Kind = 6) (h1 : q.2.1 = 0) (h4 : 0 ≤ o.A) (h5 : o.A < W) (h6 : r.Clock.in_[o.A.toNat]? = some 0) (h3 : q.2.2 = withC r ⟨r.Clock.now, r.Clock.in_.set o.A.toNat r.Clock.now⟩)
  | leaveNo (hk : o.Kind = 7) (h1 : q.2.1 ≠ 0) (h2 : q.1 = 0) (h3 : q.2.2 = r)
  | leave (hk : o.Kind = 7) (h1 : q.2.1 = 0) (h2 : q.1 = 0) (h3 : q.2.2 = withC r ⟨r.Clock.now, r.Clock.in_.set o.A.toNat 0⟩)
  | advance (hk : o.Kind ≠ 0 ∧ o.Kind ≠ 1 ∧ o.Kind ≠ 2 ∧ o.Kind ≠ 3 ∧ o.Kind ≠ 4 ∧ o.Kind ≠ 5 ∧ o.Kind ≠ 6 ∧ o.Kind ≠ 7) (h1 : q.2.1 = 0) (h3 : q.2.2 = withC r ⟨r.Clock.now + 1, r.Clock.in_⟩)
theorem play_ok (h : RegI H M W n r) (hb : n + 1 ≤ 1000) (o : tappetlaw24_Op) (hB : o.Bytes.length ≤ 140737488355328) : OK (tappetlaw24_play 1000 r o) (fun q => Played r W o q ∧ RegI H M W (n + 1) q.2.2) := by
  unfold tappetlaw24_play
  refine OK.ite (fun hk => ?_) (fun k0 => OK.ite (fun hk => ?_) (fun k1 => OK.ite (fun hk => ?_) (fun k2 => OK.ite (fun hk => ?_) (fun k3 => OK.ite (fun hk => ?_) (fun k4 => OK.ite (fun hk => ?_) (fun k5 => OK.ite (fun hk => ?_) (fun k6 => OK.ite (fun hk => ?_) (fun k7 => ?_))))))))
  · have hk : o.Kind = 0 := by simpa using hk
    refine OK.bind (OK.hasRoom (by simp; omega) ?_)
    simp only [List.nil_append]
    obtain ⟨v, hv, hok⟩ := verdict_ok r.maps hB
    rw [load_is h hv hok]
    simp only [Option.bind_some]
    refine OK.ret ?_
    by_cases h1 : v.2 ≠ 0
    · simp only [if_pos h1]
      exact ⟨.loadNo hk h1 rfl rfl, h.mono (by omega) hb⟩
    · simp only [if_neg h1]
      by_cases h2 : 16 ≤ r.progs.length
      · simp only [if_pos h2]
        exact ⟨.loadNo hk (by simp) rfl rfl, h.mono (by omega) hb⟩
      · simp only [if_neg h2]
        have := hok (by simpa using h1)
        exact ⟨.load v.1 hk rfl rfl rfl, added_inv h hb h2 ⟨this.1, by rw [← h.maps]; exact this.2.1, this.2.2⟩⟩
  · have hk : o.Kind = 1 := by simpa using hk
    refine OK.bind2 (attach_ok h o.A o.B) (fun q hq => OK.ret ⟨.place (.inl hk) hq, hq.inv h hb⟩)
  · have hk : o.Kind = 2 := by simpa using hk
    refine OK.bind2 (swap_ok h o.A o.B) (fun q hq => OK.ret ⟨.place (.inr hk) hq, hq.inv h hb⟩)
  · have hk : o.Kind = 3 := by simpa using hk
    refine OK.bind2 (detach_ok h o.A) (fun q hq => OK.ret ⟨.detach q.2 hk rfl ?_ rfl, detach_inv h hb hq⟩)
    rcases hq with ⟨_, e⟩ | ⟨_, l, _, e⟩ <;> rw [e]
  · have hk : o.Kind = 4 := by simpa using hk
    refine OK.bind2 (retire_ok h o.B) (fun q hq => OK.ret ?_)
    rcases hq with ⟨h1, h2, h3⟩ | ⟨h1, h2, x, hx, h0, h3⟩
    · exact ⟨.retireNo hk h1 h2 h3, by simp only; rw [h3]; exact h.mono (by omega) hb⟩
    · exact ⟨.retire x hk h1 hx h0 h3, by simp only; rw [h3]; exact retired_inv h hb hx h0⟩
  · have hk : o.Kind = 5 := by simpa using hk
    rw [settle_is h]
    simp only [Option.bind_some]
    exact OK.ret ⟨.settle hk rfl rfl, settled_inv h hb _⟩
  · have hk : o.Kind = 6 := by simpa using hk
    refine OK.bind2 (enter_ok h o.A) (fun q hq => OK.ret ?_)
    rcases hq with ⟨h1, h2, h3⟩ | ⟨h1, h2, h4, h5, h6, h3⟩
    · exact ⟨.enterNo hk h1 h2 (by simp only; rw [h3]), by simp only; rw [h3]; exact h.mono (by omega) hb⟩
    · exact ⟨.enter hk h1 h4 h5 h6 (by simp only; rw [h3]; rfl), by simp only; rw [h3]; exact enter_inv h hb _⟩
  · have hk : o.Kind = 7 := by simpa using hk
    refine OK.bind2 (leave_ok h o.A) (fun q hq => OK.ret ?_)
    rcases hq with ⟨h1, h2, _⟩ | ⟨h1, h4, h5, h3⟩
    · exact ⟨.leaveNo hk h1 rfl (by simp only; rw [h2]), by simp only; rw [h2]; exact h.mono (by omega) hb⟩
    · exact ⟨.leave hk h1 rfl (by simp only; rw [h3]; rfl), by simp only; rw [h3]; exact leave_inv h hb _⟩
  · rw [advance_is h]
    simp only [Option.bind_some]
    refine OK.ret ⟨.advance ?_ rfl rfl, advance_inv h hb⟩
    simp only [beq_eq_false_iff_ne, ne_eq] at k0 k1 k2 k3 k4 k5 k6 k7
    exact ⟨k0, k1, k2, k3, k4, k5, k6, k7⟩

theorem retiring_is (h : RegI H M W n r) : registry_Registry_Retiring r = some r.waiting := by
  have hw := h.wlen
  have hl := h.len
  unfold registry_Registry_Retiring
  rw [clone_is _ (by omega)]
  rfl
end Go.Proofs.YtdnogiegiclcfaaGreatDoor
