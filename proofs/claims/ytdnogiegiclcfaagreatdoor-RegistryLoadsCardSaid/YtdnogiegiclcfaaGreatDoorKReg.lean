/- What the registry's functions compute, in plain words. -/
import Derived.Test.YtdnogiegiclcfaaGreatDoorKRefs
set_option linter.unusedVariables false
set_option linter.unusedSimpArgs false
namespace Go.Proofs.YtdnogiegiclcfaaGreatDoor
open Go.Sx

theorem mget_map {α β : Type} (f : α → β) (m : List (Int × α)) (k : Int) : mget (m.map (fun p => (p.1, f p.2))) k = (mget m k).map f := by
  induction m with
  | nil => rfl
  | cons p m ih =>
    by_cases h : p.1 = k
    · simp [mget, h]
    · simp [mget, h, ih]
structure RegI (H M W : Nat) (n : Nat) (r : registry_Registry) : Prop where
  hooks : r.hooks = H
  hl : r.Table.hooks.length = H
  maps : r.maps = M
  rmaps : r.Refs.maps = M
  wk : r.Clock.in_.length = W
  small : H ≤ 4 ∧ M ≤ 4 ∧ W ≤ 4
  bound : n ≤ 1000
  given0 : 0 ≤ r.given
  given : r.given ≤ n
  last0 : 0 ≤ r.Table.Versions.last
  last : r.Table.Versions.last ≤ n
  now1 : 1 ≤ r.Clock.now
  now : r.Clock.now ≤ n + 1
  cin : ∀ e ∈ r.Clock.in_, 0 ≤ e ∧ e ≤ r.Clock.now
  keys : Keys r.progs
  len : r.progs.length ≤ 16
  prog : ∀ p x, mget r.progs p = some x → 1 ≤ p ∧ p ≤ r.given ∧ GoodM x.module.Maps ∧ (∀ m ∈ x.module.Maps, m < M) ∧ x.module.Code.length ≤ 64 ∧ 0 ≤ x.retiring ∧ x.retiring ≤ r.Clock.now
  held : r.Refs.held = r.progs.map (fun p => (p.1, p.2.module.Maps))
  wnd : r.waiting.Nodup
  wait : ∀ p, p ∈ r.waiting ↔ ∃ x, mget r.progs p = some x ∧ 0 < x.retiring
theorem RegI.mono {H M W n n' : Nat} {r : registry_Registry} (h : RegI H M W n r) (hn : n ≤ n') (hb : n' ≤ 1000) : RegI H M W n' r :=
  { h with bound := hb, given := by have := h.given; omega, last := by have := h.last; omega, now := by have := h.now; omega }
theorem new_is {H M W : Nat} (hH : 1 ≤ H) (hH4 : H ≤ 4) (hM : M ≤ 4) (hW : 1 ≤ W) (hW4 : W ≤ 4) : ∃ r, registry_New H M W = some (some r, 0) ∧ RegI H M W 0 r ∧ r.given = 0 ∧ r.Table.Versions.last = 0 ∧ r.progs = [] ∧ r.waiting = [] ∧ r.Clock.in_ = List.replicate W 0 := by
  have h1 : hooks_New H = some (some ⟨⟨0⟩, List.replicate H ⟨0, 0⟩⟩, 0) := by
    unfold hooks_New
    rw [if_neg (by simp; omega)]
    have : mkLen (H : Int) 16 = some H := by unfold mkLen; rw [if_pos ⟨by omega, by simp; omega⟩]; simp
    simp [this]
  have h2 : refs_New M = some (some ⟨M, []⟩, 0) := by
    unfold refs_New
    rw [if_neg (by simp; omega)]
  have h3 : epoch_New W = some (some ⟨1, List.replicate W 0⟩, 0) := by
    unfold epoch_New
    rw [if_neg (by simp; omega)]
    have : mkLen (W : Int) 8 = some W := by unfold mkLen; rw [if_pos ⟨by omega, by simp; omega⟩]; simp
    simp [this]
  refine ⟨_, by unfold registry_New; rw [h1, h2, h3]; rfl, ?_, rfl, rfl, rfl, rfl, rfl⟩
  exact { hooks := rfl, hl := by simp, maps := rfl, rmaps := rfl, wk := by simp, small := ⟨hH4, hM, hW4⟩, bound := by omega, given0 := by simp, given := by simp, last0 := by simp, last := by simp, now1 := by simp, now := by simp, cin := fun e he => by simp at he; simp [he.2], keys := List.nodup_nil, len := by simp, prog := fun p x hx => by simp [mget] at hx, held := rfl, wnd := List.nodup_nil, wait := fun p => by simp [mget] }
theorem new_bad {h m w : Int} (hb : ¬ (1 ≤ h ∧ h ≤ 4 ∧ 0 ≤ m ∧ m ≤ 4 ∧ 1 ≤ w ∧ w ≤ 4)) : registry_New h m w = some (none, 2) := by
  unfold registry_New hooks_New refs_New epoch_New
  by_cases h1 : 1 ≤ h ∧ h ≤ 4
  · have e1 : mkLen h 16 = some h.toNat := by unfold mkLen; rw [if_pos ⟨by omega, by omega⟩]
    rw [if_neg (by simp; omega), e1]
    by_cases h2 : 0 ≤ m ∧ m ≤ 4
    · rw [if_neg (by simp; omega)]
      rw [if_pos (by simp; omega)]
      rfl
    · rw [if_pos (by simp; omega)]
      by_cases h3 : 1 ≤ w ∧ w ≤ 4
      · have e3 : mkLen w 8 = some w.toNat := by unfold mkLen; rw [if_pos ⟨by omega, by omega⟩]
        rw [if_neg (by simp; omega), e3]
        rfl
      · rw [if_pos (by simp; omega)]
        rfl
  · rw [if_pos (by simp; omega)]
    by_cases h2 : 0 ≤ m ∧ m ≤ 4
    · rw [if_neg (by simp; omega)]
      by_cases h3 : 1 ≤ w ∧ w ≤ 4
      · have e3 : mkLen w 8 = some w.toNat := by unfold mkLen; rw [if_pos ⟨by omega, by omega⟩]
        rw [if_neg (by simp; omega), e3]
        rfl
      · rw [if_pos (by simp; omega)]
        rfl
    · rw [if_pos (by simp; omega)]
      by_cases h3 : 1 ≤ w ∧ w ≤ 4
      · have e3 : mkLen w 8 = some w.toNat := by unfold mkLen; rw [if_pos ⟨by omega, by omega⟩]
        rw [if_neg (by simp; omega), e3]
        rfl
      · rw [if_pos (by simp; omega)]
        rfl
end Go.Proofs.YtdnogiegiclcfaaGreatDoor
