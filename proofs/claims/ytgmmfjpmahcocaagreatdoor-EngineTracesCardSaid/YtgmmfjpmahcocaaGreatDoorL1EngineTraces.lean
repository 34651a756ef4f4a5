import Derived.Test.YtgmmfjpmahcocaaGreatDoorRows
import Derived.Test.YtgmmfjpmahcocaaGreatDoorCards
import Derived.Test.YtgmmfjpmahcocaaGreatDoorTie
import Derived.Test.YtgmmfjpmahcocaaGreatDoorLaid
import Derived.Test.YtgmmfjpmahcocaaGreatDoorW1
import Derived.Test.YtgmmfjpmahcocaaGreatDoorK1EngineTraces
set_option linter.unusedVariables false
set_option linter.unusedSimpArgs false
namespace Go.Proofs.YtgmmfjpmahcocaaGreatDoor
open Go.Sx Go.ChangeShapes Go.WideShapes Go.ChangeAt Go.RowKit
theorem zf2 (os : Os) : laidMet Tryz.prog Rows.engineTracesRow.laid ((zgE Tryz.prog os [(0, (xz (H := Unit) Rows.laid_tappet_ops_forms).getD []), (1, (xz (H := Unit) Rows.laid_tappet_sigs_table).getD [])]).forCall (fun _ _ => 0) ⟨#[], #[.agg #[.slice none 0 0, .slice none 0 0, .int .u64 0, .int .u64 0, .slice none 0 0, .int .i64 0]], []⟩).memory :=
 laidMet_of_run' 8 (by kernel_rfl) (by kernel_rfl)
set_option maxRecDepth 100000 in
theorem zeQ (os : Os) (started : os.Started) (H : Type) (enc : TypeId × Value -> H) (F : Stop.Interp) :
  ReturnsInHanded {} Tryz.checked os 3 .any ((OpenSpec.ofChange Rows.engineTracesSpec).preRow enc Tryz.prog Tryz.f3 Rows.engineTracesRow.domain false Rows.engineTracesRow.laid) (((OpenSpec.ofChange Rows.engineTracesSpec).at F).post enc Tryz.prog Tryz.f3 false true false false) := by
 obtain ⟨x, hx⟩ : ∃ x, DataW.whole enc Tryz.prog ((zgE Tryz.prog os [(0, (xz (H := Unit) Rows.laid_tappet_ops_forms).getD []), (1, (xz (H := Unit) Rows.laid_tappet_sigs_table).getD [])]).forCall (fun _ _ => 0) ⟨#[], #[.agg #[.slice none 0 0, .slice none 0 0, .int .u64 0, .int .u64 0, .slice none 0 0, .int .i64 0]], []⟩).memory Tryz.f3.params.toList Rows.engineTracesSpec.vars false (#[.agg #[.slice none 0 0, .slice none 0 0, .int .u64 0, .int .u64 0, .slice none 0 0, .int .i64 0]] : Array Value).toList 8 = some x := Option.isSome_iff_exists.1 (by kernel_rfl)
 refine zhx (C := Tryz.checked) (tb := 4) H enc (by kernel_rfl) started (by kernel_rfl) Tryz.func3
  (witness_row_at (enc := enc) (C := Tryz.checked) false (zgE Tryz.prog os [(0, (xz (H := Unit) Rows.laid_tappet_ops_forms).getD []), (1, (xz (H := Unit) Rows.laid_tappet_sigs_table).getD [])]) #[.agg #[.slice none 0 0, .slice none 0 0, .int .u64 0, .int .u64 0, .slice none 0 0, .int .i64 0]] rfl (by kernel_rfl) (by kernel_rfl) (by kernel_rfl)
   (OpenSpec.preRow_of_cond 8 hx (by rfl) (fun k hk => by cases hk) (by kernel_rfl) (zf2 os)))
  (by kernel_rfl) rfl (by kernel_rfl) rfl (by kernel_rfl) ?_ ?_
 ·intro ds hl
  match ds, hl with
  | [d0], _ => exact ⟨rfl, rfl, rfl⟩
 ·intro W base args ds ps hL hval0 hA0 hw0
  have hval : ∀ (j : Nat) t v, Tryz.f3.params[j]? = some t -> args[j]? = some v -> Value.okWide Tryz.prog W .any base t v := hval0
  have hA : DataW.TrodAll enc Tryz.prog W 0 (fun _ => true) true [31] args.toList ds ps := hA0
  have hw : ∀ n ∈ DataW.weightsEach Tryz.prog [31] ds, n <= reachBytes := hw0
  clear hval0 hA0 hw0
  obtain ⟨args⟩ := args
  obtain ⟨v0, vs0, ds0, ps0, e0, k0, hA, hw⟩ := Go.Sx.trodAll_cons hA hw
  have en := Go.Sx.trodAll_nil hA
  have ea : args = [v0] := by rw [show args = _ from e0, en]
  subst ea
  obtain ⟨a0, ⟨us0, c0, q0⟩, g0⟩ := k0 _ _ _ zeL
  obtain ⟨_, _, rfl, ⟨v0_0, rfl, m0_0⟩, ⟨_, _, rfl, ⟨v0_1, rfl, m0_1⟩, ⟨v0_2, rfl, m0_2⟩⟩⟩ := q0
  have f0 : v0 = .agg [v0_0, v0_1, .int .u64 a0.E.A, .int .u64 a0.E.B, v0_2, .int .i64 a0.Odd].toArray := zlg (P := Tryz.prog) (w := W) (hval 0 31 v0 rfl rfl) c0 (by kernel_rfl)
  subst f0
  obtain ⟨fu, hfu⟩ := zfI a0 g0
  have t0 : Rd W (fp []) (.slice (some ⟨0, 0, none⟩) 23 23) zJ 2 vJ := zkZ (t := 209) (enc := zJ) (sz := 2) (xs := vJ) (m := 23) 0 5 hL rfl (by kernel_rfl) (by kernel_rfl) (by kernel_rfl) (by kernel_rfl) (fun _ => rfl) (by kernel_rfl) (by kernel_rfl)
  have t1 : Rd W (fp []) (.slice (some ⟨1, 0, none⟩) 7 7) qi 5 zbe := zkZ (t := 227) (enc := qi) (sz := 5) (xs := zbe) (m := 7) 1 5 hL rfl (by kernel_rfl) (by kernel_rfl) (by kernel_rfl) (by kernel_rfl) (fun _ => rfl) (by kernel_rfl) (by kernel_rfl)
  exact (zce W fu v0_0 v0_1 v0_2 a0 true hfu (St.zero W) m0_0 m0_1 m0_2 t0 t1).mono fun e w' ⟨he, hst⟩ => ⟨he, hst.chg⟩
theorem zfO : Rows.EngineTracesSaid :=
 OpenClaim.holds_of_cond 3 Tryz.f3 rfl rfl rfl rfl rfl rfl rfl ⟨rfl, rfl, rfl, rfl, rfl⟩ rfl rfl rfl rfl rfl (by kernel_rfl) Tryz.func3 (by kernel_rfl)
  (of_decide_eq_true (by kernel_rfl)) (by unfold Func.isWrapper; first | (rw [if_pos (by decide +kernel)]; kernel_rfl) | (rw [if_neg (by decide +kernel)]; exact ⟨rfl, rfl⟩))
  (fun os started H enc _ F => by rw [OpenClaim.pre_eq_preRow]; exact zeQ os started H enc F)
theorem zfm (f : FuncId) (fn : Func) (hf : Tryz.pinned.checked.prog.funcNamed "tappet/tappetlaw11.EngineTraces" = some f) (hfn : Tryz.pinned.checked.prog.funcs[f]? = some fn) :
  false = Tryz.pinned.checked.prog.looks [] /\ ∀ (j : Nat) t, fn.params[j]? = some t -> Tryz.pinned.checked.prog.wantsStandIn t = false := by
 obtain rfl : f = 3 := Option.some.inj ((show Tryz.prog.funcNamed "tappet/tappetlaw11.EngineTraces" = some 3 by kernel_rfl).symm.trans hf) |>.symm
 obtain rfl : fn = Tryz.f3 := (Option.some.inj (Tryz.func3.symm.trans hfn)).symm
 refine ⟨by kernel_rfl, fun j t ht => ?_⟩
 have ht2 : t ∈ Tryz.f3.params := Array.mem_of_getElem? ht
 rw [Tryz.params3] at ht2
 simp only [List.mem_toArray, List.mem_cons, List.not_mem_nil, or_false] at ht2
 subst ht2
 exact (show Tryz.prog.wantsStandIn 31 = false by kernel_rfl)
theorem engineTracesCard_holds : Rows.EngineTracesCardSaid :=
 Claim7.holds_tied_plain_at .later [] _ _ _ _ zfO (fun _ h => by cases h) (by kernel_rfl) (fun _ h => by cases h) engineTraces_row_tie rfl ⟨rfl, rfl⟩ (by kernel_rfl) rfl zfm (by kernel_rfl)
#print axioms engineTracesCard_holds
end Go.Proofs.YtgmmfjpmahcocaaGreatDoor
