/- Maps with keys that are apart. -/
import Derived.Test.YtpchniebplpboaaF1
set_option linter.unusedVariables false
set_option linter.unusedSimpArgs false
namespace Go.Proofs.Ytpchniebplpboaa
open Go.Sx
def Keys {α : Type} (m : List (Int × α)) : Prop := (m.map (·.1)).Nodup
theorem mget_none {α : Type} {m : List (Int × α)} {k : Int} : mget m k = none ↔ k ∉ m.map (·.1) := by
  induction m with
  | nil => simp [mget]
  | cons p m ih =>
    unfold mget
    by_cases h : p.1 == k
    · have : p.1 = k := by simpa using h
      simp [h, this]
    · have : p.1 ≠ k := by simpa using h
      rw [if_neg h, ih]
      simp [Ne.symm this]
theorem mput_new {α : Type} {m : List (Int × α)} {k : Int} {x : α} (h : mget m k = none) : mput m k x = m ++ [(k, x)] := mput_none h
theorem Keys.mput {α : Type} {m : List (Int × α)} (h : Keys m) {k : Int} {x : α} (hn : mget m k = none) : Keys (mput m k x) := by
  rw [mput_new hn]
  unfold Keys
  rw [List.map_append]
  refine List.nodup_append.2 ⟨h, by simp, fun a ha b hb e => ?_⟩
  simp at hb
  subst hb; subst e
  exact mget_none.1 hn ha
theorem mdel_keys {α : Type} (m : List (Int × α)) (k : Int) : (mdel m k).Sublist m := by
  induction m with
  | nil => exact List.Sublist.refl _
  | cons p m ih =>
    unfold mdel
    split
    · exact List.sublist_cons_self _ _
    · exact ih.cons_cons _
theorem Keys.mdel {α : Type} {m : List (Int × α)} (h : Keys m) (k : Int) : Keys (mdel m k) := h.sublist ((mdel_keys m k).map _)
theorem mget_mdel {α : Type} {m : List (Int × α)} (h : Keys m) (k q : Int) : mget (mdel m k) q = if k = q then none else mget m q := by
  induction m with
  | nil => simp [Sx.mdel, mget]
  | cons p m ih =>
    have hn := List.nodup_cons.1 (show (p.1 :: m.map (·.1)).Nodup from h)
    unfold Sx.mdel
    by_cases e : p.1 == k
    · have e' : p.1 = k := by simpa using e
      rw [if_pos e]
      by_cases e2 : k = q
      · rw [if_pos e2]
        subst e2
        exact mget_none.2 (by rw [← e']; exact hn.1)
      · rw [if_neg e2]
        have : (p.1 == q) = false := by simp; omega
        conv => rhs; unfold mget
        simp [this]
    · have e' : p.1 ≠ k := by simpa using e
      rw [if_neg e]
      unfold mget
      by_cases e3 : p.1 == q
      · have : p.1 = q := by simpa using e3
        rw [if_pos e3, if_pos e3, if_neg (by omega)]
      · rw [if_neg e3, if_neg e3]
        exact ih hn.2

theorem mget_mset {α : Type} (m : List (Int × α)) (k : Int) (x : α) (q : Int) : mget (mset m k x) q = if k = q ∧ (mget m k).isSome then some x else mget m q := by
  induction m with
  | nil => simp [mset, mpos, mget]
  | cons p m ih =>
    by_cases h : p.1 = k
    · subst h
      have e : mset (p :: m) p.1 x = (p.1, x) :: m := by simp [mset, mpos]
      rw [e]
      by_cases h2 : p.1 = q
      · subst h2; simp [mget]
      · simp [mget, h2]
    · have e : mset (p :: m) k x = p :: mset m k x := by
        unfold mset
        simp only [mpos, beq_iff_eq, h, if_false]
        cases mpos m k <;> simp
      rw [e]
      simp only [mget, beq_iff_eq, h, if_false]
      rw [ih]
      by_cases h2 : p.1 = q
      · have : ¬ k = q := by omega
        simp [h2, this]
      · simp [h2]
theorem mset_map {α : Type} (m : List (Int × α)) (k : Int) (x : α) : (mset m k x).map (·.1) = m.map (·.1) := by
  induction m with
  | nil => simp [mset, mpos]
  | cons p m ih =>
    by_cases h : p.1 = k
    · subst h; simp [mset, mpos]
    · have e : mset (p :: m) k x = p :: mset m k x := by
        unfold mset
        simp only [mpos, beq_iff_eq, h, if_false]
        cases mpos m k <;> simp
      rw [e]
      simp [ih]
theorem Keys.mset {α : Type} {m : List (Int × α)} (h : Keys m) (k : Int) (x : α) : Keys (mset m k x) := by
  unfold Keys
  rw [mset_map]
  exact h
theorem mput_keys {α : Type} (m : List (Int × α)) (k : Int) (x : α) (h : (mget m k).isSome = true) : (mput m k x).map (·.1) = m.map (·.1) := by
  induction m with
  | nil => simp [mget] at h
  | cons p m ih =>
    unfold Sx.mput
    by_cases e : p.1 = k
    · simp [e]
    · have : (mget m k).isSome = true := by simpa [mget, e] using h
      simp [e, ih this]
theorem Keys.mput' {α : Type} {m : List (Int × α)} (h : Keys m) (k : Int) (x : α) : Keys (Sx.mput m k x) := by
  cases hm : mget m k with
  | none => exact h.mput hm
  | some y =>
    unfold Keys
    rw [mput_keys m k x (by rw [hm]; rfl)]
    exact h
theorem mget_mput {α : Type} (m : List (Int × α)) (k : Int) (x : α) (q : Int) : mget (mput m k x) q = if k = q then some x else mget m q := by
  induction m with
  | nil =>
    by_cases h : k = q
    · simp [mput, mget, h]
    · simp [mput, mget, h]
  | cons p m ih =>
    by_cases h : p.1 = k
    · subst h
      by_cases h2 : p.1 = q
      · simp [mput, mget, h2]
      · simp [mput, mget, h2]
    · by_cases h2 : p.1 = q
      · subst h2
        have : ¬ k = p.1 := fun e => h e.symm
        simp [mput, mget, h, this]
      · simp [mput, mget, h, h2, ih]
end Go.Proofs.Ytpchniebplpboaa
