/- What the registry's functions compute, in plain words. -/
import Derived.Test.YtdnogiegiclcfaaGreatDoorKRefs
set_option linter.unusedVariables false
set_option linter.unusedSimpArgs false
namespace Go.Proofs.YtdnogiegiclcfaaGreatDoor
open Go.Sx

theorem mget_mset {α : Type} (m : List (Int × α)) (k : Int) (x : α) (q : Int) : mget (mset m k x) q = if k = q ∧ (mget m k).isSome then some x else mget m q := by
  induction m with
  | nil => simp [mset, mpos, mget]
  | cons p m ih =>
    by_cases h : p.1 = k
    · subst h
      have e : mset (p :: m) p.1 x = (p.1, x) :: m := by simp [mset, mpos]
      rw [e]
      by_cases h2 : p.1 = q
      · subst h2; simp [mget]
      · simp [mget, h2]
    · have e : mset (p :: m) k x = p :: mset m k x := by
        unfold mset
        simp only [mpos, beq_iff_eq, h, if_false]
        cases mpos m k <;> simp
      rw [e]
      simp only [mget, beq_iff_eq, h, if_false]
      rw [ih]
      by_cases h2 : p.1 = q
      · have : ¬ k = q := by omega
        simp [h2, this]
      · simp [h2]
theorem mset_map {α : Type} (m : List (Int × α)) (k : Int) (x : α) : (mset m k x).map (·.1) = m.map (·.1) := by
  induction m with
  | nil => simp [mset, mpos]
  | cons p m ih =>
    by_cases h : p.1 = k
    · subst h; simp [mset, mpos]
    · have e : mset (p :: m) k x = p :: mset m k x := by
        unfold mset
        simp only [mpos, beq_iff_eq, h, if_false]
        cases mpos m k <;> simp
      rw [e]
      simp [ih]
theorem mset_len {α : Type} (m : List (Int × α)) (k : Int) (x : α) : (mset m k x).length = m.length := by
  have := congrArg List.length (mset_map m k x)
  simpa using this
theorem mset_proj {α β : Type} (f : α → β) (m : List (Int × α)) (k : Int) (x y : α) (h : mget m k = some y) (hf : f x = f y) : (mset m k x).map (fun p => (p.1, f p.2)) = m.map (fun p => (p.1, f p.2)) := by
  induction m with
  | nil => simp [mset, mpos]
  | cons p m ih =>
    by_cases hp : p.1 = k
    · subst hp
      simp [mget] at h
      subst h
      simp [mset, mpos, hf]
    · have e : mset (p :: m) k x = p :: mset m k x := by
        unfold mset
        simp only [mpos, beq_iff_eq, hp, if_false]
        cases mpos m k <;> simp
      rw [e]
      simp only [mget, beq_iff_eq, hp, if_false] at h
      simp [ih h]
theorem mdel_map {α β : Type} (f : α → β) (m : List (Int × α)) (k : Int) : (mdel m k).map (fun p => (p.1, f p.2)) = mdel (m.map (fun p => (p.1, f p.2))) k := by
  induction m with
  | nil => rfl
  | cons p m ih =>
    by_cases h : p.1 = k
    · simp [mdel, h]
    · simp [mdel, h, ih]
theorem mget_map {α β : Type} (f : α → β) (m : List (Int × α)) (k : Int) : mget (m.map (fun p => (p.1, f p.2))) k = (mget m k).map f := by
  induction m with
  | nil => rfl
  | cons p m ih =>
    by_cases h : p.1 = k
    · simp [mget, h]
    · simp [mget, h, ih]
theorem mem_mget {α : Type} {m : List (Int × α)} {k : Int} {x : α} (h : mget m k = some x) : (k, x) ∈ m := by
  obtain ⟨j, _, h2⟩ := mpos_get h
  exact List.mem_of_getElem? h2
structure RegI (H M W : Nat) (n : Nat) (r : registry_Registry) : Prop where
  hooks : r.hooks = H
  hl : r.Table.hooks.length = H
  maps : r.maps = M
  rmaps : r.Refs.maps = M
  wk : r.Clock.in_.length = W
  small : H ≤ 4 ∧ M ≤ 4 ∧ W ≤ 4
  bound : n ≤ 1000
  given0 : 0 ≤ r.given
  given : r.given ≤ n
  last0 : 0 ≤ r.Table.Versions.last
  last : r.Table.Versions.last ≤ n
  now1 : 1 ≤ r.Clock.now
  now : r.Clock.now ≤ n + 1
  cin : ∀ e ∈ r.Clock.in_, 0 ≤ e ∧ e ≤ r.Clock.now
  keys : Keys r.progs
  len : r.progs.length ≤ 16
  prog : ∀ p x, mget r.progs p = some x → 1 ≤ p ∧ p ≤ r.given ∧ GoodM x.module.Maps ∧ (∀ m ∈ x.module.Maps, m < M) ∧ x.module.Code.length ≤ 64 ∧ 0 ≤ x.retiring ∧ x.retiring ≤ r.Clock.now
  held : r.Refs.held = r.progs.map (fun p => (p.1, p.2.module.Maps))
  wnd : r.waiting.Nodup
  wait : ∀ p, p ∈ r.waiting ↔ ∃ x, mget r.progs p = some x ∧ 0 < x.retiring
theorem RegI.mono {H M W n n' : Nat} {r : registry_Registry} (h : RegI H M W n r) (hn : n ≤ n') (hb : n' ≤ 1000) : RegI H M W n' r :=
  { h with bound := hb, given := by have := h.given; omega, last := by have := h.last; omega, now := by have := h.now; omega }
theorem RegI.wlen {H M W n : Nat} {r : registry_Registry} (h : RegI H M W n r) : r.waiting.length ≤ r.progs.length := by
  have hsub : r.waiting ⊆ r.progs.map (·.1) := fun p hp => by
    obtain ⟨x, hx, _⟩ := (h.wait p).1 hp
    exact List.mem_map_of_mem (f := fun (q : Int × registry_program) => q.1) (mem_mget hx)
  have := List.Nodup.length_le_of_subset h.wnd hsub
  simpa using this

theorem new_is {H M W : Nat} (hH : 1 ≤ H) (hH4 : H ≤ 4) (hM : M ≤ 4) (hW : 1 ≤ W) (hW4 : W ≤ 4) : ∃ r, registry_New H M W = some (some r, 0) ∧ RegI H M W 0 r ∧ r.given = 0 ∧ r.Table.Versions.last = 0 ∧ r.progs = [] ∧ r.waiting = [] ∧ r.Clock.in_ = List.replicate W 0 := by
  have h1 : hooks_New H = some (some ⟨⟨0⟩, List.replicate H ⟨0, 0⟩⟩, 0) := by
    unfold hooks_New
    rw [if_neg (by simp; omega)]
    have : mkLen (H : Int) 16 = some H := by unfold mkLen; rw [if_pos ⟨by omega, by simp; omega⟩]; simp
    simp [this]
  have h2 : refs_New M = some (some ⟨M, []⟩, 0) := by
    unfold refs_New
    rw [if_neg (by simp; omega)]
  have h3 : epoch_New W = some (some ⟨1, List.replicate W 0⟩, 0) := by
    unfold epoch_New
    rw [if_neg (by simp; omega)]
    have : mkLen (W : Int) 8 = some W := by unfold mkLen; rw [if_pos ⟨by omega, by simp; omega⟩]; simp
    simp [this]
  refine ⟨_, by unfold registry_New; rw [h1, h2, h3]; rfl, ?_, rfl, rfl, rfl, rfl, rfl⟩
  exact { hooks := rfl, hl := by simp, maps := rfl, rmaps := rfl, wk := by simp, small := ⟨hH4, hM, hW4⟩, bound := by omega, given0 := by simp, given := by simp, last0 := by simp, last := by simp, now1 := by simp, now := by simp, cin := fun e he => by simp at he; simp [he.2], keys := List.nodup_nil, len := by simp, prog := fun p x hx => by simp [mget] at hx, held := rfl, wnd := List.nodup_nil, wait := fun p => by simp [mget] }
end Go.Proofs.YtdnogiegiclcfaaGreatDoor
