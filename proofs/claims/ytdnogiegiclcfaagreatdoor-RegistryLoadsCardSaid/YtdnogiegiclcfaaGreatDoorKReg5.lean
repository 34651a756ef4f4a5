/- Settling; a call of a script; the live programs. -/
import Derived.Test.YtdnogiegiclcfaaGreatDoorKReg4
set_option linter.unusedVariables false
set_option linter.unusedSimpArgs false
namespace Go.Proofs.YtdnogiegiclcfaaGreatDoor
open Go.Sx
variable {H M W n : Nat} {r : registry_Registry}

theorem Keys.mdels {α : Type} {m : List (Int × α)} (h : Keys m) (g : List Int) : Keys (mdels m g) := by
  induction g generalizing m with
  | nil => exact h
  | cons x g ih => exact ih (h.mdel x)
def settled (r : registry_Registry) (g : List Int) : registry_Registry :=
  ⟨r.Table, ⟨r.Refs.maps, mdels r.Refs.held g⟩, r.Clock, r.hooks, r.maps, r.given, mdels r.progs g, r.waiting.filter (fun x => decide (x ∉ g))⟩
inductive Played (r : registry_Registry) (W : Nat) (o : tappetlaw24_Op) (q : Int × Int × registry_Registry) : Prop
  | loadNo (hk : o.Kind = 0) (h1 : q.2.1 ≠ 0) (h2 : q.1 = 0) (h3 : q.2.2 = r)
  | load (m : api_Module) (hk : o.Kind = 0) (h1 : q.2.1 = 0) (h2 : q.1 = r.given + 1) (h3 : q.2.2 = added r m)
  | place (hk : o.Kind = 1 ∨ o.Kind = 2) (h : Placed r o.A o.B q)
  | detach (t : hooks_Table) (hk : o.Kind = 3) (h1 : q.1 = 0) (h2 : t.Versions = r.Table.Versions) (h3 : q.2.2 = withT r t)
  | retireNo (hk : o.Kind = 4) (h1 : q.2.1 ≠ 0) (h2 : q.1 = 0) (h3 : q.2.2 = r)
  | retire (x : registry_program) (hk : o.Kind = 4) (h1 : q.2.1 = 0) (hx : mget r.progs o.B = some x) (h0 : x.retiring = 0) (h3 : q.2.2 = retired r o.B x)
  | settle (hk : o.Kind = 5) (h1 : q.2.1 = 0) (h3 : q.2.2 = settled r (goneOf r o.A))
  | enterNo (hk : o.Kind = 6) (h1 : q.2.1 ≠ 0) (h2 : q.1 = 0) (h3 : q.2.2 = r)
  | enter (hk : o.Kind = 6) (h1 : q.2.1 = 0) (h4 : 0 ≤ o.A) (h5 : o.A < W) (h6 : r.Clock.in_[o.A.toNat]? = some 0) (h3 : q.2.2 = withC r ⟨r.Clock.now, r.Clock.in_.set o.A.toNat r.Clock.now⟩)
  | leaveNo (hk : o.Kind = 7) (h1 : q.2.1 ≠ 0) (h2 : q.1 = 0) (h3 : q.2.2 = r)
  | leave (hk : o.Kind = 7) (h1 : q.2.1 = 0) (h2 : q.1 = 0) (h3 : q.2.2 = withC r ⟨r.Clock.now, r.Clock.in_.set o.A.toNat 0⟩)
  | advance (hk : o.Kind ≠ 0 ∧ o.Kind ≠ 1 ∧ o.Kind ≠ 2 ∧ o.Kind ≠ 3 ∧ o.Kind ≠ 4 ∧ o.Kind ≠ 5 ∧ o.Kind ≠ 6 ∧ o.Kind ≠ 7) (h1 : q.2.1 = 0) (h3 : q.2.2 = withC r ⟨r.Clock.now + 1, r.Clock.in_⟩)
theorem live_is (h : RegI H M W n r) : registry_Registry_Live r = some ((alive r.progs).mergeSort fun x y => decide (x ≤ y)) := by
  have hl : (alive r.progs).length ≤ r.progs.length := by
    unfold alive
    rw [List.length_map]
    exact List.length_filter_le _ _
  have hl2 := h.len
  unfold registry_Registry_Live
  rw [live_run, if_pos (.inr (by simp only [List.length_nil, Nat.zero_add]; omega))]
  unfold registry_Registry_Live_f1 slices_Sort_int_int
  simp only [List.nil_append]
  rw [if_pos (by omega)]
  rfl
theorem module_is (h : RegI H M W n r) (p : Int) : registry_Registry_Module r p = some (match mget r.progs p with | some x => (x.module, true) | none => (⟨[], []⟩, false)) := by
  unfold registry_Registry_Module
  cases hg : mget r.progs p with
  | none => rfl
  | some x =>
    have hx := h.prog p x hg
    have h4 : x.module.Maps.length ≤ 4 := hx.2.2.1.2.2
    have h64 := hx.2.2.2.2.1
    rw [if_neg (by simp)]
    simp only [Option.bind_some]
    rw [clone_is _ (by omega)]
    unfold slices_Clone_tappet_api_Inst_tappet_api_Inst room
    rw [if_pos (by simp; omega)]
    rfl
end Go.Proofs.YtdnogiegiclcfaaGreatDoor
