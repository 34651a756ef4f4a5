/- Texts L1WorkerAparta of this proof. -/
import Derived.Test.YtbmknhpfkpmigaaGreatDoorCards
import Derived.Test.YtbmknhpfkpmigaaGreatDoorTie
import Derived.Test.YtbmknhpfkpmigaaGreatDoorW1
import Derived.Test.YtbmknhpfkpmigaaGreatDoorKTr3
set_option linter.unusedVariables false
set_option linter.unusedSimpArgs false
namespace Go.Proofs.YtbmknhpfkpmigaaGreatDoor
open Go.Sx Go.ChangeShapes Go.WideShapes Go.ChangeAt Go.RowKit
theorem zg9 (os : Os) : laidMet Tryz.prog Rows.workerApartRow.laid ((zhb Tryz.prog os [(1, (vh (H := Unit) Rows.laid_tappet_ops_forms).getD []), (0, (vh (H := Unit) Rows.laid_tappet_sigs_table).getD [])]).forCall (fun _ _ => 0) ⟨#[], #[.slice none 0 0, .slice none 0 0], []⟩).memory :=
 laidMet_of_run' 8 (by kernel_rfl) (by kernel_rfl)
set_option maxRecDepth 100000 in
theorem zfJ (os : Os) (started : os.Started) (H : Type) (enc : TypeId × Value -> H) (F : Stop.Interp) :
  ReturnsInHanded {} Tryz.checked os 4 .any ((OpenSpec.ofChange Rows.workerApartSpec).preRow enc Tryz.prog Tryz.f4 Rows.workerApartRow.domain false Rows.workerApartRow.laid) (((OpenSpec.ofChange Rows.workerApartSpec).at F).post enc Tryz.prog Tryz.f4 false true false false) := by
 obtain ⟨x, hx⟩ : ∃ x, DataW.whole enc Tryz.prog ((zhb Tryz.prog os [(1, (vh (H := Unit) Rows.laid_tappet_ops_forms).getD []), (0, (vh (H := Unit) Rows.laid_tappet_sigs_table).getD [])]).forCall (fun _ _ => 0) ⟨#[], #[.slice none 0 0, .slice none 0 0], []⟩).memory Tryz.f4.params.toList Rows.workerApartSpec.vars false (#[.slice none 0 0, .slice none 0 0] : Array Value).toList 8 = some x := Option.isSome_iff_exists.1 (by kernel_rfl)
 refine zib (C := Tryz.checked) (tb := 4) H enc (by kernel_rfl) started (by kernel_rfl) Tryz.func4
  (witness_row_at (enc := enc) (C := Tryz.checked) false (zhb Tryz.prog os [(1, (vh (H := Unit) Rows.laid_tappet_ops_forms).getD []), (0, (vh (H := Unit) Rows.laid_tappet_sigs_table).getD [])]) #[.slice none 0 0, .slice none 0 0] rfl (by kernel_rfl) (by kernel_rfl) (by kernel_rfl)
   (OpenSpec.preRow_of_cond 8 hx (by rfl) (fun k hk => by cases hk) (by kernel_rfl) (zg9 os)))
  (by kernel_rfl) rfl (by kernel_rfl) rfl (by kernel_rfl) ?_ ?_
 ·intro ds hl
  match ds, hl with
  | [d0, d1], _ => exact ⟨rfl, rfl, rfl⟩
 ·intro W base args ds ps hL hval0 hA0 hw0
  have hval : ∀ (j : Nat) t v, Tryz.f4.params[j]? = some t -> args[j]? = some v -> Value.okWide Tryz.prog W .any base t v := hval0
  have hA : DataW.TrodAll enc Tryz.prog W 0 (fun _ => true) true [22, 22] args.toList ds ps := hA0
  have hw : ∀ n ∈ DataW.weightsEach Tryz.prog [22, 22] ds, n <= reachBytes := hw0
  clear hval0 hA0 hw0
  obtain ⟨args⟩ := args
  obtain ⟨v0, vs0, ds0, ps0, e0, k0, hA, hw⟩ := Go.Sx.trodAll_cons hA hw
  obtain ⟨v1, vs1, ds1, ps1, e1, k1, hA, hw⟩ := Go.Sx.trodAll_cons hA hw
  have en := Go.Sx.trodAll_nil hA
  have ea : args = [v0, v1] := by rw [show args = _ from e0, e1, en]
  subst ea
  obtain ⟨a0, ⟨u0, c0, m0⟩, g0⟩ := k0 _ _ _ (Dec.sliceN (t := 22) (e := 42) (sz := 15) (bytes := 152) zcM (by kernel_rfl) (by kernel_rfl) (by decide) (by kernel_rfl))
  have f0 := zj2 (P := Tryz.prog) (w := W) (hval 0 22 v0 rfl rfl) c0 (.inr (.inr (.inr ⟨42, by kernel_rfl⟩)))
  subst f0
  obtain ⟨a1, ⟨u1, c1, m1⟩, g1⟩ := k1 _ _ _ (Dec.sliceN (t := 22) (e := 42) (sz := 15) (bytes := 152) zcM (by kernel_rfl) (by kernel_rfl) (by decide) (by kernel_rfl))
  have f1 := zj2 (P := Tryz.prog) (w := W) (hval 1 22 v1 rfl rfl) c1 (.inr (.inr (.inr ⟨42, by kernel_rfl⟩)))
  subst f1
  obtain ⟨fu, hfu⟩ := zgh a0 a1 g0 g1
  have t0 : Rd W (fp []) (.slice (some ⟨0, 0, none⟩) 7 7) zM 5 zaq := zmq (t := 359) (enc := zM) (sz := 5) (xs := zaq) (m := 7) 1 5 hL rfl (by kernel_rfl) (by kernel_rfl) (by kernel_rfl) (by kernel_rfl) (fun _ => rfl) (by kernel_rfl) (by kernel_rfl)
  have t1 : Rd W (fp []) (.slice (some ⟨1, 0, none⟩) 23 23) zJ 2 zaf := zmq (t := 382) (enc := zJ) (sz := 2) (xs := zaf) (m := 23) 0 5 hL rfl (by kernel_rfl) (by kernel_rfl) (by kernel_rfl) (by kernel_rfl) (fun _ => rfl) (by kernel_rfl) (by kernel_rfl)
  exact (zcJ W W (fp []) fu v0 a0 v1 a1 true hfu (St.zero W) (Bor.refl _ _) m0 m1 t0 t1).mono fun e w' ⟨he, hst⟩ => ⟨he, hst.chg⟩
end Go.Proofs.YtbmknhpfkpmigaaGreatDoor
