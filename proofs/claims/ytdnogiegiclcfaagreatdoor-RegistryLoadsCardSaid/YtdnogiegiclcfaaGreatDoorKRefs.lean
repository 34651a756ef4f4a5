/- What the functions of refs compute, in plain words. -/
import Derived.Test.YtdnogiegiclcfaaGreatDoorO1
import Derived.Test.YtdnogiegiclcfaaGreatDoorKWire
set_option linter.unusedSimpArgs false
namespace Go.Proofs.YtdnogiegiclcfaaGreatDoor
open Go.Sx
set_option linter.unusedVariables false

def goodM (k : Int) (ms : List Int) : Prop := ms.Nodup ∧ ∀ m ∈ ms, 0 ≤ m ∧ m < k
theorem goodM.take {k : Int} {ms : List Int} (h : goodM k ms) (i : Nat) : goodM k (ms.take i) :=
  ⟨h.1.sublist (List.take_sublist _ _), fun m hm => h.2 m (List.mem_of_mem_take hm)⟩
theorem goodM_snoc {k : Int} {ms : List Int} {x : Int} (h : goodM k (ms ++ [x])) : 0 ≤ x ∧ x < k ∧ x ∉ ms := by
  have h2 := h.2 x (by simp)
  have h1 := List.nodup_append.1 h.1
  exact ⟨h2.1, h2.2, fun hx => h1.2.2 x hx x (by simp) rfl⟩
theorem take_snoc {ms : List Int} {i : Nat} {x : Int} (h : ms[i]? = some x) : ms.take (i + 1) = ms.take i ++ [x] := by
  rw [List.take_add_one, h]; rfl
theorem hold_loop (p0 : refs_Refs) (p2 : List Int) : OK (forN (refs_Refs_Hold_l1 p0 p2) (fun (s : Unit) => (.inl ())) p2.length 0 ()) (fun o => match o with | .inl _ => goodM p0.maps p2 | .inr r => r = (2, p0) ∧ ¬ goodM p0.maps p2) := by
  refine OK.count (fun i _ => goodM p0.maps (p2.take i)) ⟨by simp, by simp⟩ ?_ ?_
  · intro i s again hi h k
    unfold refs_Refs_Hold_l1
    refine OK.bind (OK.getN hi (fun x hx => ?_))
    have bad : (goodM p0.maps (p2.take (i + 1)) → False) → OK (some (Sum.inr (2, p0) : Unit ⊕ (Int × refs_Refs))) (fun o => match o with | .inl _ => goodM p0.maps p2 | .inr r => r = (2, p0) ∧ ¬ goodM p0.maps p2) :=
      fun hb => OK.ret ⟨rfl, fun hg => hb (hg.take _)⟩
    have ts := take_snoc hx
    refine OK.bind (OK.ite (fun h1 => OK.ret ?_) (fun h1 => OK.ite (fun h2 => OK.ret ?_) (fun h2 => ?_)))
    · simp only [if_true]
      refine bad (fun hg => ?_)
      rw [ts] at hg
      have := goodM_snoc hg
      simp at h1
      omega
    · simp only [if_true]
      refine bad (fun hg => ?_)
      rw [ts] at hg
      have := goodM_snoc hg
      simp at h2
      omega
    · rw [cut_pre (by omega)]
      simp only [Option.bind_some, contains_is]
      refine OK.ret ?_
      simp only [decide_eq_true_eq]
      split
      · rename_i hc
        refine bad (fun hg => ?_)
        rw [ts] at hg
        exact (goodM_snoc hg).2.2 hc
      · rename_i hc
        refine k _ ?_
        rw [ts]
        simp at h1 h2
        refine ⟨List.nodup_append.2 ⟨h.1, by simp, fun a ha b hb e => ?_⟩, fun m hm => ?_⟩
        · simp at hb; subst hb; subst e; exact hc ha
        · rcases List.mem_append.1 hm with hm | hm
          · exact h.2 m hm
          · simp at hm; subst hm; exact ⟨h1, h2⟩
  · intro s h
    rw [List.take_length] at h
    exact h
theorem clone_is (xs : List Int) (h : xs.length * 8 ≤ 140737488355328) : slices_Clone_int_int xs = some xs := by
  unfold slices_Clone_int_int room
  rw [if_pos (by simpa using h)]
  rfl
open Classical in
theorem hold_is (p0 : refs_Refs) (p : Int) (ms : List Int) (h : ms.length * 8 ≤ 140737488355328) :
    refs_Refs_Hold p0 p ms = some (if goodM p0.maps ms then (if (mget p0.held p).isSome then (42, p0) else (0, ⟨p0.maps, mput p0.held p ms⟩)) else (2, p0)) := by
  obtain ⟨o, h1, h2⟩ := hold_loop p0 ms
  unfold refs_Refs_Hold
  rw [h1]
  rcases o with u | r
  · simp only [Option.bind_some, if_pos h2]
    by_cases hm : (mget p0.held p).isSome = true
    · simp only [if_pos hm]
    · simp only [if_neg hm, clone_is ms h, Option.bind_some]
  · simp only [Option.bind_some, if_neg h2.2, h2.1]
def mdels {α : Type} (m : List (Int × α)) : List Int → List (Int × α)
  | [] => m
  | p :: r => mdels (mdel m p) r
theorem mget_mput {α : Type} (m : List (Int × α)) (k : Int) (x : α) (q : Int) : mget (mput m k x) q = if k = q then some x else mget m q := by
  induction m with
  | nil => simp [mput, mget]
  | cons p m ih =>
    unfold mput
    by_cases h : p.1 == k
    · rw [if_pos h]
      have hk : p.1 = k := by simpa using h
      unfold mget
      simp only
      by_cases e : k = q
      · simp [e]
      · have : (p.1 == q) = false := by simp; omega
        simp [e, hk]
    · rw [if_neg h]
      unfold mget
      have hk : p.1 ≠ k := by simpa using h
      by_cases e : p.1 == q
      · have : p.1 = q := by simpa using e
        rw [if_pos e, if_pos e, if_neg (by omega)]
      · rw [if_neg e, if_neg e, ih]
theorem mput_len {α : Type} (m : List (Int × α)) (k : Int) (x : α) : (mput m k x).length ≤ m.length + 1 := by
  induction m with
  | nil => simp [mput]
  | cons p m ih =>
    unfold mput
    split
    · simp
    · simp; omega
def Keys {α : Type} (m : List (Int × α)) : Prop := (m.map (·.1)).Nodup
theorem mget_none {α : Type} {m : List (Int × α)} {k : Int} : mget m k = none ↔ k ∉ m.map (·.1) := by
  induction m with
  | nil => simp [mget]
  | cons p m ih =>
    unfold mget
    by_cases h : p.1 == k
    · have : p.1 = k := by simpa using h
      simp [h, this]
    · have : p.1 ≠ k := by simpa using h
      rw [if_neg h, ih]
      simp [Ne.symm this]
theorem mput_new {α : Type} {m : List (Int × α)} {k : Int} {x : α} (h : mget m k = none) : mput m k x = m ++ [(k, x)] := mput_none h
theorem Keys.mput {α : Type} {m : List (Int × α)} (h : Keys m) {k : Int} {x : α} (hn : mget m k = none) : Keys (mput m k x) := by
  rw [mput_new hn]
  unfold Keys
  rw [List.map_append]
  refine List.nodup_append.2 ⟨h, by simp, fun a ha b hb e => ?_⟩
  simp at hb
  subst hb; subst e
  exact mget_none.1 hn ha
theorem mdel_keys {α : Type} (m : List (Int × α)) (k : Int) : (mdel m k).Sublist m := by
  induction m with
  | nil => exact List.Sublist.refl _
  | cons p m ih =>
    unfold mdel
    split
    · exact List.sublist_cons_self _ _
    · exact ih.cons_cons _
theorem Keys.mdel {α : Type} {m : List (Int × α)} (h : Keys m) (k : Int) : Keys (mdel m k) := h.sublist ((mdel_keys m k).map _)
end Go.Proofs.YtdnogiegiclcfaaGreatDoor
