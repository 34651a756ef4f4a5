/- Texts L1WorkerPlays of this proof. -/
import Derived.Test.YtbmknhpfkpmigaaGreatDoorRows
import Derived.Test.YtbmknhpfkpmigaaGreatDoorCards
import Derived.Test.YtbmknhpfkpmigaaGreatDoorTie
import Derived.Test.YtbmknhpfkpmigaaGreatDoorLib
import Derived.Test.YtbmknhpfkpmigaaGreatDoorW1
import Derived.Test.YtbmknhpfkpmigaaGreatDoorD1
import Derived.Test.YtbmknhpfkpmigaaGreatDoorKTr3
set_option linter.unusedVariables false
set_option linter.unusedSimpArgs false
namespace Go.Proofs.YtbmknhpfkpmigaaGreatDoor
open Go.Sx Go.ChangeShapes Go.WideShapes Go.ChangeAt Go.RowKit
theorem zg8 (os : Os) : laidMet Tryz.prog Rows.workerPlaysRow.laid ((zha Tryz.prog os [(1, (vh (H := Unit) Rows.laid_tappet_ops_forms).getD []), (0, (vh (H := Unit) Rows.laid_tappet_sigs_table).getD [])]).forCall (fun _ _ => 0) ⟨#[], #[.slice none 0 0], []⟩).memory :=
 laidMet_of_run' 8 (by kernel_rfl) (by kernel_rfl)
set_option maxRecDepth 100000 in
theorem zfH (os : Os) (started : os.Started) (H : Type) (enc : TypeId × Value -> H) (F : Stop.Interp) :
  ReturnsInHanded {} Tryz.checked os 3 .any ((OpenSpec.ofChange Rows.workerPlaysSpec).preRow enc Tryz.prog Tryz.f3 Rows.workerPlaysRow.domain false Rows.workerPlaysRow.laid) (((OpenSpec.ofChange Rows.workerPlaysSpec).at F).post enc Tryz.prog Tryz.f3 false true false false) := by
 obtain ⟨x, hx⟩ : ∃ x, DataW.whole enc Tryz.prog ((zha Tryz.prog os [(1, (vh (H := Unit) Rows.laid_tappet_ops_forms).getD []), (0, (vh (H := Unit) Rows.laid_tappet_sigs_table).getD [])]).forCall (fun _ _ => 0) ⟨#[], #[.slice none 0 0], []⟩).memory Tryz.f3.params.toList Rows.workerPlaysSpec.vars false (#[.slice none 0 0] : Array Value).toList 8 = some x := Option.isSome_iff_exists.1 (by kernel_rfl)
 refine zia (C := Tryz.checked) (tb := 4) H enc (by kernel_rfl) started (by kernel_rfl) Tryz.func3
  (witness_row_at (enc := enc) (C := Tryz.checked) false (zha Tryz.prog os [(1, (vh (H := Unit) Rows.laid_tappet_ops_forms).getD []), (0, (vh (H := Unit) Rows.laid_tappet_sigs_table).getD [])]) #[.slice none 0 0] rfl (by kernel_rfl) (by kernel_rfl) (by kernel_rfl)
   (OpenSpec.preRow_of_cond 8 hx (by rfl) (fun k hk => by cases hk) (by kernel_rfl) (zg8 os)))
  (by kernel_rfl) rfl (by kernel_rfl) rfl (by kernel_rfl) ?_ ?_
 ·intro ds hl
  match ds, hl with
  | [d0], _ => exact ⟨rfl, rfl, rfl⟩
 ·intro W base args ds ps hL hval0 hA0 hw0
  have hval : ∀ (j : Nat) t v, Tryz.f3.params[j]? = some t -> args[j]? = some v -> Value.okWide Tryz.prog W .any base t v := hval0
  have hA : DataW.TrodAll enc Tryz.prog W 0 (fun _ => true) true [22] args.toList ds ps := hA0
  have hw : ∀ n ∈ DataW.weightsEach Tryz.prog [22] ds, n <= reachBytes := hw0
  clear hval0 hA0 hw0
  obtain ⟨args⟩ := args
  obtain ⟨v0, vs0, ds0, ps0, e0, k0, hA, hw⟩ := Go.Sx.trodAll_cons hA hw
  have en := Go.Sx.trodAll_nil hA
  have ea : args = [v0] := by rw [show args = _ from e0, en]
  subst ea
  obtain ⟨a0, ⟨u0, c0, m0⟩, g0⟩ := k0 _ _ _ (Dec.sliceN (t := 22) (e := 42) (sz := 15) (bytes := 152) zfi (by kernel_rfl) (by kernel_rfl) (by decide) (by kernel_rfl))
  have f0 := zmU (P := Tryz.prog) (w := W) (hval 0 22 v0 rfl rfl) c0 (.inr (.inr (.inr ⟨42, by kernel_rfl⟩)))
  subst f0
  obtain ⟨fu, hfu⟩ := zgg a0 g0
  have t0 : Rd W (fp []) (.slice (some ⟨0, 0, none⟩) 7 7) zM 5 zap := zml (t := 359) (enc := zM) (sz := 5) (xs := zap) (m := 7) 1 5 hL rfl (by kernel_rfl) (by kernel_rfl) (by kernel_rfl) (by kernel_rfl) (fun _ => rfl) (by kernel_rfl) (by kernel_rfl)
  have t1 : Rd W (fp []) (.slice (some ⟨1, 0, none⟩) 23 23) zJ 2 zad := zml (t := 382) (enc := zJ) (sz := 2) (xs := zad) (m := 23) 0 5 hL rfl (by kernel_rfl) (by kernel_rfl) (by kernel_rfl) (by kernel_rfl) (fun _ => rfl) (by kernel_rfl) (by kernel_rfl)
  exact (zcI W W (fp []) fu v0 a0 true hfu (St.zero W) (Bor.refl _ _) m0 t0 t1).mono fun e w' ⟨he, hst⟩ => ⟨he, hst.chg⟩
theorem zgj : Rows.WorkerPlaysSaid :=
 OpenClaim.holds_of_cond 3 Tryz.f3 rfl rfl rfl rfl rfl rfl rfl ⟨rfl, rfl, rfl, rfl, rfl⟩ rfl rfl rfl rfl rfl (by kernel_rfl) Tryz.func3 (by kernel_rfl)
  (of_decide_eq_true (by kernel_rfl)) (by unfold Func.isWrapper; first | (rw [if_pos (by decide +kernel)]; kernel_rfl) | (rw [if_neg (by decide +kernel)]; exact ⟨rfl, rfl⟩))
  (fun os started H enc _ F => by rw [OpenClaim.pre_eq_preRow]; exact zfH os started H enc F)
theorem zf1 (f : FuncId) (fn : Func) (hf : Tryz.pinned.checked.prog.funcNamed "tappet/tappetlaw23.WorkerPlays" = some f) (hfn : Tryz.pinned.checked.prog.funcs[f]? = some fn) :
  false = Tryz.pinned.checked.prog.looks [] /\ ∀ (j : Nat) t, fn.params[j]? = some t -> Tryz.pinned.checked.prog.wantsStandIn t = false := by
 obtain rfl : f = 3 := Option.some.inj ((show Tryz.prog.funcNamed "tappet/tappetlaw23.WorkerPlays" = some 3 by kernel_rfl).symm.trans hf) |>.symm
 obtain rfl : fn = Tryz.f3 := (Option.some.inj (Tryz.func3.symm.trans hfn)).symm
 refine ⟨by kernel_rfl, fun j t ht => ?_⟩
 have ht2 : t ∈ Tryz.f3.params := Array.mem_of_getElem? ht
 rw [Tryz.params3] at ht2
 simp only [List.mem_toArray, List.mem_cons, List.not_mem_nil, or_false] at ht2
 subst ht2
 exact (show Tryz.prog.wantsStandIn 22 = false by kernel_rfl)
theorem workerPlaysCard_holds : Rows.WorkerPlaysCardSaid :=
 Claim7.holds_tied_plain_at .later [] _ _ _ _ zgj (fun _ h => by cases h) (by kernel_rfl) (fun _ h => by cases h) workerPlays_row_tie rfl ⟨rfl, rfl⟩ (by kernel_rfl) rfl zf1 (by kernel_rfl)
#print axioms workerPlaysCard_holds
end Go.Proofs.YtbmknhpfkpmigaaGreatDoor
