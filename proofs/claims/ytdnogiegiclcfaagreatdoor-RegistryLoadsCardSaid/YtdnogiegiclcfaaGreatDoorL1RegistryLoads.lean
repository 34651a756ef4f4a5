/- THE STATEMENT RegistryLoadsCardSaid IS PROVED (the tied card): for every input the law returns true, and what was there before the call is as it was. The listed tables read as the program's text lays them; the card ties that to the text. -/
import Derived.Test.YtdnogiegiclcfaaGreatDoorRows
import Derived.Test.YtdnogiegiclcfaaGreatDoorCards
import Derived.Test.YtdnogiegiclcfaaGreatDoorTie
import Derived.Test.YtdnogiegiclcfaaGreatDoorLaid
import Derived.Test.YtdnogiegiclcfaaGreatDoorW1
import Derived.Test.YtdnogiegiclcfaaGreatDoorD1
import Derived.Test.YtdnogiegiclcfaaGreatDoorK1RegistryLoads
set_option linter.unusedVariables false
set_option linter.unusedSimpArgs false
namespace Go.Proofs.YtdnogiegiclcfaaGreatDoor
open Go.Sx Go.ChangeShapes Go.WideShapes Go.ChangeAt Go.RowKit

theorem registryLoads_met (os : Os) : laidMet Tryz.prog Rows.registryLoadsRow.laid ((laidWorld Tryz.prog os [(0, (laidCells (H := Unit) Rows.laid_tappet_ops_forms).getD []), (1, (laidCells (H := Unit) Rows.laid_tappet_sigs_table).getD [])]).forCall (fun _ _ => 0) ⟨#[], #[.int .i64 0, .slice none 0 0], []⟩).memory :=
  laidMet_of_run' 8 (by kernel_rfl) (by kernel_rfl)
set_option maxRecDepth 100000 in
theorem registryLoads_lifted (os : Os) (started : os.Started) (H : Type) (enc : TypeId × Value → H) (F : Stop.Interp) :
    ReturnsInHanded {} Tryz.checked os 3 .any ((OpenSpec.ofChange Rows.registryLoadsSpec).preRow enc Tryz.prog Tryz.f3 Rows.registryLoadsRow.domain false Rows.registryLoadsRow.laid) (((OpenSpec.ofChange Rows.registryLoadsSpec).at F).post enc Tryz.prog Tryz.f3 false true false false) := by
  obtain ⟨x, hx⟩ : ∃ x, DataW.whole enc Tryz.prog ((laidWorld Tryz.prog os [(0, (laidCells (H := Unit) Rows.laid_tappet_ops_forms).getD []), (1, (laidCells (H := Unit) Rows.laid_tappet_sigs_table).getD [])]).forCall (fun _ _ => 0) ⟨#[], #[.int .i64 0, .slice none 0 0], []⟩).memory Tryz.f3.params.toList Rows.registryLoadsSpec.vars false (#[.int .i64 0, .slice none 0 0] : Array Value).toList 8 = some x := Option.isSome_iff_exists.1 (by kernel_rfl)
  refine lawRow_lifted (C := Tryz.checked) (tb := 4) H enc (by kernel_rfl) started (by kernel_rfl) Tryz.func3
    (witness_row_at (enc := enc) (C := Tryz.checked) false (laidWorld Tryz.prog os [(0, (laidCells (H := Unit) Rows.laid_tappet_ops_forms).getD []), (1, (laidCells (H := Unit) Rows.laid_tappet_sigs_table).getD [])]) #[.int .i64 0, .slice none 0 0] rfl (by kernel_rfl) (by kernel_rfl) (by kernel_rfl)
      (OpenSpec.preRow_of_cond 8 hx (by rfl) (fun k hk => by cases hk) (by kernel_rfl) (registryLoads_met os)))
    (by kernel_rfl) rfl (by kernel_rfl) rfl (by kernel_rfl) ?_ ?_
  · intro ds hl
    match ds, hl with
    | [d0, d1], _ => exact ⟨rfl, rfl, rfl⟩
  · intro W base args ds ps hL hval0 hA0 hw0
    have hval : ∀ (j : Nat) t v, Tryz.f3.params[j]? = some t → args[j]? = some v → Value.okWide Tryz.prog W .any base t v := hval0
    have hA : DataW.TrodAll enc Tryz.prog W 0 (fun _ => true) true [3, 22] args.toList ds ps := hA0
    have hw : ∀ n ∈ DataW.weightsEach Tryz.prog [3, 22] ds, n ≤ reachBytes := hw0
    clear hval0 hA0 hw0
    obtain ⟨args⟩ := args
    obtain ⟨v0, vs0, ds0, ps0, e0, k0, hA, hw⟩ := Go.Sx.trodAll_cons hA hw
    obtain ⟨v1, vs1, ds1, ps1, e1, k1, hA, hw⟩ := Go.Sx.trodAll_cons hA hw
    have en := Go.Sx.trodAll_nil hA
    have ea : args = [v0, v1] := by rw [show args = _ from e0, e1, en]
    subst ea
    obtain ⟨a0, c0, g0⟩ := k0 _ _ _ (Dec.int (t := 3) (k := .i64) (by kernel_rfl))
    have f0 := cell_val (P := Tryz.prog) (w := W) (hval 0 3 v0 rfl rfl) c0 (.inl ⟨.i64, by kernel_rfl⟩)
    subst f0
    obtain ⟨a1, ⟨u1, c1, m1⟩, g1⟩ := k1 _ _ _ (Dec.slice (t := 22) (e := 5) (sz := 1) (bytes := 1) (Dec.int (t := 5) (k := .u8) (by kernel_rfl)) (by kernel_rfl) (by kernel_rfl) (by decide) (by kernel_rfl))
    have f1 := cell_val (P := Tryz.prog) (w := W) (hval 1 22 v1 rfl rfl) c1 (.inr (.inr (.inr ⟨5, by kernel_rfl⟩)))
    subst f1
    obtain ⟨fu, hfu⟩ := registryLoads_true a0 a1 g0 g1
    have t0 : Rd W (fp []) (.slice (some ⟨0, 0, none⟩) 23 23) enc_ops_form 2 tab_g0 := laid_rd (t := 259) (enc := enc_ops_form) (sz := 2) (xs := tab_g0) (m := 23) 0 5 hL rfl (by kernel_rfl) (by kernel_rfl) (by kernel_rfl) (by kernel_rfl) (fun _ => rfl) (by kernel_rfl) (by kernel_rfl)
    have t1 : Rd W (fp []) (.slice (some ⟨1, 0, none⟩) 7 7) enc_sigs_sig 5 tab_g1 := laid_rd (t := 260) (enc := enc_sigs_sig) (sz := 5) (xs := tab_g1) (m := 7) 1 5 hL rfl (by kernel_rfl) (by kernel_rfl) (by kernel_rfl) (by kernel_rfl) (fun _ => rfl) (by kernel_rfl) (by kernel_rfl)
    exact (tappetlaw24_RegistryLoads_ok W fu a0 v1 a1 true hfu (St.zero W) m1 t0 t1).mono fun e w' ⟨he, hst⟩ => ⟨he, hst.chg⟩

theorem registryLoads_said : Rows.RegistryLoadsSaid :=
  OpenClaim.holds_of_cond 3 Tryz.f3 rfl rfl rfl rfl rfl rfl rfl ⟨rfl, rfl, rfl, rfl, rfl⟩ rfl rfl rfl rfl rfl (by kernel_rfl) Tryz.func3 (by kernel_rfl)
    (of_decide_eq_true (by kernel_rfl)) (by unfold Func.isWrapper; first | (rw [if_pos (by decide +kernel)]; kernel_rfl) | (rw [if_neg (by decide +kernel)]; exact ⟨rfl, rfl⟩))
    (fun os started H enc _ F => by rw [OpenClaim.pre_eq_preRow]; exact registryLoads_lifted os started H enc F)
theorem registryLoads_plain (f : FuncId) (fn : Func) (hf : Tryz.pinned.checked.prog.funcNamed "tappet/tappetlaw24.RegistryLoads" = some f) (hfn : Tryz.pinned.checked.prog.funcs[f]? = some fn) :
    false = Tryz.pinned.checked.prog.looks [] ∧ ∀ (j : Nat) t, fn.params[j]? = some t → Tryz.pinned.checked.prog.wantsStandIn t = false := by
  obtain rfl : f = 3 := Option.some.inj ((show Tryz.prog.funcNamed "tappet/tappetlaw24.RegistryLoads" = some 3 by kernel_rfl).symm.trans hf) |>.symm
  obtain rfl : fn = Tryz.f3 := (Option.some.inj (Tryz.func3.symm.trans hfn)).symm
  refine ⟨by kernel_rfl, fun j t ht => ?_⟩
  have ht2 : t ∈ Tryz.f3.params := Array.mem_of_getElem? ht
  rw [Tryz.params3] at ht2
  simp only [List.mem_toArray, List.mem_cons, List.not_mem_nil, or_false] at ht2
  rcases ht2 with rfl | rfl
  · exact (show Tryz.prog.wantsStandIn 3 = false by kernel_rfl)
  · exact (show Tryz.prog.wantsStandIn 22 = false by kernel_rfl)
theorem registryLoadsCard_holds : Rows.RegistryLoadsCardSaid :=
  Claim7.holds_tied_plain_at .later [] _ _ _ _ registryLoads_said (fun _ h => by cases h) (by kernel_rfl) (fun _ h => by cases h) registryLoads_row_tie rfl ⟨rfl, rfl⟩ (by kernel_rfl) rfl registryLoads_plain (by kernel_rfl)
#print axioms registryLoadsCard_holds
end Go.Proofs.YtdnogiegiclcfaaGreatDoor
