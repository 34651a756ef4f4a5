/- The registry's operations, one by one. -/
import Derived.Test.YtdnogiegiclcfaaGreatDoorKReg
set_option linter.unusedVariables false
set_option linter.unusedSimpArgs false
namespace Go.Proofs.YtdnogiegiclcfaaGreatDoor
open Go.Sx
variable {H M W n : Nat} {r : registry_Registry}

def verdict (maps : Int) (b : List Int) : Option (api_Module × Int) := (wire_Decode 1000 b).bind fun d => if d.2.2 != 0 then some (d.1, d.2.2) else
  (judge_Judge 1000 d.1).bind fun j => if j.2 != 0 then some (d.1, j.2) else some (d.1, if d.1.Maps.any (fun x => decide (maps ≤ x)) then 41 else 0)
theorem verdict_ok (maps : Int) {b : List Int} (hb : b.length ≤ 140737488355328) : OK (verdict maps b) (fun v => v.2 = 0 → GoodM v.1.Maps ∧ (∀ x ∈ v.1.Maps, x < maps) ∧ v.1.Code.length ≤ 64) := by
  unfold verdict
  refine OK.bind2 (decode_ok hb) (fun d hd => OK.ite (fun he => OK.ret (fun e => absurd e (by simpa using he))) (fun he => ?_))
  have hg := hd (by simpa using he)
  refine OK.bind2 (Judge_ok d.1) (fun j _ => OK.ite (fun he => OK.ret (fun e => absurd e (by simpa using he))) (fun _ => OK.ret (fun e => ⟨hg.1, fun x hx => ?_, hg.2⟩)))
  apply Classical.byContradiction
  intro hc
  have : d.1.Maps.any (fun x => decide (maps ≤ x)) = true := List.any_eq_true.2 ⟨x, hx, by simp; omega⟩
  rw [this] at e
  simp at e
def added (r : registry_Registry) (m : api_Module) : registry_Registry := ⟨r.Table, ⟨r.Refs.maps, mput r.Refs.held (r.given + 1) m.Maps⟩, r.Clock, r.hooks, r.maps, r.given + 1, mput r.progs (r.given + 1) ⟨m, 0⟩, r.waiting⟩
theorem fresh_key (h : RegI H M W n r) : mget r.progs (r.given + 1) = none := by
  cases hg : mget r.progs (r.given + 1) with
  | none => rfl
  | some x => have := (h.prog _ _ hg).2.1; omega
theorem held_get (h : RegI H M W n r) (p : Int) : mget r.Refs.held p = (mget r.progs p).map (·.module.Maps) := by rw [h.held]; exact mget_map (fun (x : registry_program) => x.module.Maps) _ _
theorem load_l1 (r : registry_Registry) (d : api_Module × Int × Int) : OK (forN (registry_Registry_Load_l1 r d) (fun (s : Unit) => (.inl ())) d.1.Maps.length 0 ()) (fun o => match o with | .inl _ => ∀ x ∈ d.1.Maps, x < r.maps | .inr q => q = (0, 41, r) ∧ ¬ ∀ x ∈ d.1.Maps, x < r.maps) := by
  refine OK.count (fun i _ => ∀ x ∈ d.1.Maps.take i, x < r.maps) (by simp) ?_ ?_
  · intro i s again hi hI k
    unfold registry_Registry_Load_l1
    refine OK.bind (OK.getN hi (fun x hx => OK.ite (fun hc => OK.ret ⟨rfl, fun hall => ?_⟩) (fun hc => k _ ?_)))
    · have := hall x (List.mem_of_getElem? hx)
      simp at hc
      omega
    · intro y hy
      rw [take_snoc hx] at hy
      rcases List.mem_append.1 hy with hy | hy
      · exact hI y hy
      · simp at hy hc; omega
  · intro s hI
    rw [List.take_length] at hI
    exact hI
theorem load_is (h : RegI H M W n r) {b : List Int} {v : api_Module × Int} (hv : verdict r.maps b = some v) (hok : v.2 = 0 → GoodM v.1.Maps ∧ (∀ x ∈ v.1.Maps, x < r.maps) ∧ v.1.Code.length ≤ 64) :
    registry_Registry_Load 1000 r b = some (if v.2 ≠ 0 then (0, v.2, r) else if 16 ≤ r.progs.length then (0, 40, r) else (r.given + 1, 0, added r v.1)) := by
  unfold verdict at hv
  unfold registry_Registry_Load
  cases hd : wire_Decode 1000 b with
  | none => rw [hd] at hv; simp at hv
  | some d =>
    rw [hd] at hv
    simp only [Option.bind_some] at hv ⊢
    by_cases he : d.2.2 = 0
    · rw [if_neg (by simp [he])] at hv ⊢
      cases hj : judge_Judge 1000 d.1 with
      | none => rw [hj] at hv; simp at hv
      | some j =>
        rw [hj] at hv
        simp only [Option.bind_some] at hv ⊢
        by_cases hje : j.2 = 0
        · rw [if_neg (by simp [hje])] at hv ⊢
          simp only [Option.some.injEq] at hv
          obtain ⟨o, h1, h2⟩ := load_l1 r d
          rw [h1]
          simp only [Option.bind_some]
          cases o with
          | inr q =>
            obtain ⟨rfl, hn⟩ := h2
            have : d.1.Maps.any (fun x => decide (r.maps ≤ x)) = true := by
              apply Classical.byContradiction
              intro hc
              refine hn (fun x hx => ?_)
              apply Classical.byContradiction
              intro hlt
              exact hc (List.any_eq_true.2 ⟨x, hx, by simp; omega⟩)
            rw [this] at hv
            subst hv
            simp
          | inl u =>
            have : d.1.Maps.any (fun x => decide (r.maps ≤ x)) = false := by
              rw [Bool.eq_false_iff]
              intro hc
              obtain ⟨x, hx, hx2⟩ := List.any_eq_true.1 hc
              have := h2 x hx
              simp at hx2
              omega
            rw [this] at hv
            subst hv
            have hgood := hok rfl
            simp only
            by_cases hl : 16 ≤ r.progs.length
            · rw [if_pos (by simp; omega)]
              simp [hl]
            · rw [if_neg (by simp; omega)]
              have hg0 := h.given0
              have hg1 := h.given
              have hb := h.bound
              have hw : w64 (r.given + 1) = r.given + 1 := w64_lo (by omega) (by omega)
              have hgm : goodM r.Refs.maps d.1.Maps := ⟨hgood.1.2.1, fun m hm => ⟨(hgood.1.1 m hm).1, by rw [h.rmaps, ← h.maps]; exact hgood.2.1 m hm⟩⟩
              have hnone : mget r.Refs.held (r.given + 1) = none := by rw [held_get h, fresh_key h]; rfl
              rw [hw, hold_is _ _ _ (by have : d.1.Maps.length ≤ 4 := hgood.1.2.2; omega), if_pos hgm, hnone]
              simp [hl, added]
        · rw [if_pos (by simp [hje])] at hv ⊢
          simp only [Option.some.injEq] at hv
          subst hv
          simp [hje]
    · rw [if_pos (by simp [he])] at hv ⊢
      simp only [Option.some.injEq] at hv
      subst hv
      simp [he]
theorem added_inv (h : RegI H M W n r) (hb : n + 1 ≤ 1000) {m : api_Module} (hl : ¬ 16 ≤ r.progs.length) (hok : GoodM m.Maps ∧ (∀ x ∈ m.Maps, x < M) ∧ m.Code.length ≤ 64) : RegI H M W (n + 1) (added r m) := by
  have hf := fresh_key h
  have hg0 := h.given0
  have hg1 := h.given
  refine { hooks := h.hooks, hl := h.hl, maps := h.maps, rmaps := h.rmaps, wk := h.wk, small := h.small, bound := hb, given0 := by simp [added]; omega, given := by simp [added]; omega, last0 := h.last0, last := by have := h.last; simp [added]; omega, now1 := h.now1, now := by have := h.now; simp [added]; omega, cin := h.cin, keys := h.keys.mput hf, len := ?_, prog := ?_, held := ?_, wnd := h.wnd, wait := ?_ }
  · have := mput_len r.progs (r.given + 1) ⟨m, 0⟩
    simp only [added]; omega
  · intro p x hx
    simp only [added, mget_mput] at hx ⊢
    split at hx
    · rename_i e
      cases hx
      exact ⟨by omega, by omega, hok.1, hok.2.1, hok.2.2, by simp, by have := h.now1; simp; omega⟩
    · have := h.prog p x hx
      exact ⟨this.1, by omega, this.2.2⟩
  · simp only [added]
    have e2 : mget r.Refs.held (r.given + 1) = none := by rw [held_get h, hf]; rfl
    rw [mput_new hf, mput_new e2, h.held]
    simp
  · intro p
    rw [show (added r m).waiting = r.waiting from rfl, h.wait p]
    simp only [added, mget_mput]
    constructor
    · rintro ⟨x, hx, h0⟩
      refine ⟨x, ?_, h0⟩
      rw [if_neg (fun e => by subst e; rw [hf] at hx; cases hx)]
      exact hx
    · rintro ⟨x, hx, h0⟩
      split at hx
      · cases hx; simp at h0
      · exact ⟨x, hx, h0⟩

def withT (r : registry_Registry) (t : hooks_Table) : registry_Registry := ⟨t, r.Refs, r.Clock, r.hooks, r.maps, r.given, r.progs, r.waiting⟩
theorem withT_inv (h : RegI H M W n r) (hb : n + 1 ≤ 1000) {t : hooks_Table} (h1 : t.hooks.length = H) (h2 : 0 ≤ t.Versions.last) (h3 : t.Versions.last ≤ n + 1) : RegI H M W (n + 1) (withT r t) :=
  { h.mono (n' := n + 1) (by omega) hb with hl := h1, last0 := h2, last := by simp [withT]; omega }
theorem idx_get {α : Type} {l : List α} {t : Int} (h0 : 0 ≤ t) (h1 : t < l.length) : ∃ x, idx l t = some x ∧ l[t.toNat]? = some x := by
  have hl : t.toNat < l.length := by omega
  refine ⟨l[t.toNat], ?_, List.getElem?_eq_getElem hl⟩
  unfold idx
  rw [if_pos h0, List.getElem?_eq_getElem hl]
structure Placed (r : registry_Registry) (k p : Int) (q : Int × Int × registry_Registry) : Prop where
  no : q.2.1 ≠ 0 → q.1 = 0 ∧ q.2.2 = r
  yes : q.2.1 = 0 → q.1 = r.Table.Versions.last + 1 ∧ (∃ x, mget r.progs p = some x ∧ x.retiring = 0) ∧ ∃ l, l.length = r.Table.hooks.length ∧ q.2.2 = withT r ⟨⟨r.Table.Versions.last + 1⟩, l⟩
  gone : 0 ≤ k → k < r.hooks → mget r.progs p = none → q.1 = 0 ∧ q.2.1 = 41
theorem Placed.inv (h : RegI H M W n r) (hb : n + 1 ≤ 1000) {k p : Int} {q : Int × Int × registry_Registry} (hq : Placed r k p q) : RegI H M W (n + 1) q.2.2 := by
  by_cases e : q.2.1 = 0
  · obtain ⟨_, _, l, hl, e2⟩ := hq.yes e
    rw [e2]
    have h0 := h.last0
    have h1 := h.last
    exact withT_inv h hb (by rw [hl]; exact h.hl) (by simp; omega) (by simp; omega)
  · rw [(hq.no e).2]
    exact h.mono (by omega) hb
end Go.Proofs.YtdnogiegiclcfaaGreatDoor
