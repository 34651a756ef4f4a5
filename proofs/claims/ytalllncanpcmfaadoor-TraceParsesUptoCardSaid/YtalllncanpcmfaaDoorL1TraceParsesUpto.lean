/- THE STATEMENT TraceParsesUptoCardSaid IS PROVED (the tied card; what is read is of bulk at most 1048576): for every input the law returns true, and what was there before the call is as it was. The listed tables read as the program's text lays them; the card ties that to the text. -/
import Derived.Test.YtalllncanpcmfaaDoorRows
import Derived.Test.YtalllncanpcmfaaDoorCards
import Derived.Test.YtalllncanpcmfaaDoorTie
import Derived.Test.YtalllncanpcmfaaDoorUpto
import Derived.Test.YtalllncanpcmfaaDoorW1
import Derived.Test.YtalllncanpcmfaaDoorD1
import Derived.Test.YtalllncanpcmfaaDoorK1TraceParsesUpto
set_option linter.unusedVariables false
namespace Go.Proofs.YtalllncanpcmfaaDoor
open Go.Sx Go.ChangeShapes Go.WideShapes Go.ChangeAt Go.RowKit

theorem traceParsesUpto_met (os : Os) : laidMet Tryd.prog Rows.traceParsesUptoRow.laid ((laidWorldB Tryd.prog os [errObj 150 Rows.laid_strconv_ErrRange, errObj 150 Rows.laid_strconv_ErrSyntax] [(7, (laidCells (H := Unit) Rows.laid_math_bits_deBruijn32tab).getD []), (8, (laidCells (H := Unit) Rows.laid_math_bits_deBruijn64tab).getD []), (4, (laidCells (H := Unit) Rows.laid_internal_strconv_uint64pow10).getD []), (6, (laidCells (H := Unit) Rows.laid_unicode_utf8_acceptRanges).getD []), (3, errAt Tryd.prog 148 0), (2, errAt Tryd.prog 148 1), (0, (laidCells (H := Unit) Rows.laid_tappet_trace_forms).getD []), (5, (laidCells (H := Unit) Rows.laid_unicode_utf8_first).getD [])]).forCall (fun _ _ => 0) ⟨#[], #[.string ByteArray.empty], []⟩).memory :=
  laidMet_of_run' 8 (by kernel_rfl) (by kernel_rfl)
set_option maxRecDepth 100000 in
theorem traceParsesUpto_lifted (os : Os) (started : os.Started) (H : Type) (enc : TypeId × Value → H) (F : Stop.Interp) :
    ReturnsInHanded {} Tryd.checked os 3 .any ((Rows.OpenSpec.upto Rows.traceParsesSpec).preRow enc Tryd.prog Tryd.f3 Rows.traceParsesUptoRow.domain false Rows.traceParsesUptoRow.laid) (((Rows.OpenSpec.upto Rows.traceParsesSpec).at F).post enc Tryd.prog Tryd.f3 false true false false) := by
  obtain ⟨pl, hx⟩ : ∃ pl, DataW.whole enc Tryd.prog ((laidWorldB Tryd.prog os [errObj 150 Rows.laid_strconv_ErrRange, errObj 150 Rows.laid_strconv_ErrSyntax] [(7, (laidCells (H := Unit) Rows.laid_math_bits_deBruijn32tab).getD []), (8, (laidCells (H := Unit) Rows.laid_math_bits_deBruijn64tab).getD []), (4, (laidCells (H := Unit) Rows.laid_internal_strconv_uint64pow10).getD []), (6, (laidCells (H := Unit) Rows.laid_unicode_utf8_acceptRanges).getD []), (3, errAt Tryd.prog 148 0), (2, errAt Tryd.prog 148 1), (0, (laidCells (H := Unit) Rows.laid_tappet_trace_forms).getD []), (5, (laidCells (H := Unit) Rows.laid_unicode_utf8_first).getD [])]).forCall (fun _ _ => 0) ⟨#[], #[.string ByteArray.empty], []⟩).memory Tryd.f3.params.toList Rows.traceParsesSpec.vars false (#[.string ByteArray.empty] : Array Value).toList 8 = some ([.lit (.string [])], [], pl) := ⟨[], by kernel_rfl⟩
  refine lawRow_lifted3 (C := Tryd.checked) (tb := 4) H enc (by kernel_rfl) started (by kernel_rfl) Tryd.func3
    (witness_row_at (enc := enc) (C := Tryd.checked) false (laidWorldB Tryd.prog os [errObj 150 Rows.laid_strconv_ErrRange, errObj 150 Rows.laid_strconv_ErrSyntax] [(7, (laidCells (H := Unit) Rows.laid_math_bits_deBruijn32tab).getD []), (8, (laidCells (H := Unit) Rows.laid_math_bits_deBruijn64tab).getD []), (4, (laidCells (H := Unit) Rows.laid_internal_strconv_uint64pow10).getD []), (6, (laidCells (H := Unit) Rows.laid_unicode_utf8_acceptRanges).getD []), (3, errAt Tryd.prog 148 0), (2, errAt Tryd.prog 148 1), (0, (laidCells (H := Unit) Rows.laid_tappet_trace_forms).getD []), (5, (laidCells (H := Unit) Rows.laid_unicode_utf8_first).getD [])]) #[.string ByteArray.empty] rfl (by kernel_rfl) (by kernel_rfl) (by kernel_rfl)
      (OpenSpec.preRow_of_cond 8 hx (by rfl) (fun k hk => by cases hk; kernel_rfl) (by kernel_rfl) (traceParsesUpto_met os)))
    (by kernel_rfl) rfl (by kernel_rfl) rfl (by kernel_rfl) ?_ ?_
  · intro ds hl
    match ds, hl with
    | [d0], _ => exact ⟨rfl, rfl, rfl⟩
  · intro W base args ds ps hL hsh hK hval0 hA0 hw0
    have hval : ∀ (j : Nat) t v, Tryd.f3.params[j]? = some t → args[j]? = some v → Value.okWide Tryd.prog W .any base t v := hval0
    have hA : DataW.TrodAll enc Tryd.prog W 0 (fun _ => true) true [9] args.toList ds ps := hA0
    have hA9 := hA
    have hw : ∀ n ∈ DataW.weightsEach Tryd.prog [9] ds, n ≤ reachBytes := hw0
    clear hval0 hA0 hw0
    obtain ⟨args⟩ := args
    obtain ⟨v0, vs0, ds0, ps0, e0, k0, hA, hw⟩ := Go.Sx.trodAll_cons hA hw
    have en := Go.Sx.trodAll_nil hA
    have ea : args = [v0] := by rw [show args = _ from e0, en]
    subst ea
    obtain ⟨a0, c0, g0⟩ := k0 _ _ _ (Dec.string (t := 9) (by kernel_rfl))
    have f0 := cell_val (P := Tryd.prog) (w := W) (hval 0 9 v0 rfl rfl) c0 (.inr (.inr (.inl (by kernel_rfl))))
    subst f0
    have b0 := upto_text hK (trodAll_text (i := 0) hA9 rfl Tryd.underlying9 rfl)
    obtain ⟨fu, hfu⟩ := traceParsesUpto_true a0 g0 b0
    have t0 : Rd W (fp []) (.slice (some ⟨0, 0, none⟩) 18 18) enc_trace_form 2 tab_g0 := laid_rd (t := 85) (enc := enc_trace_form) (sz := 2) (xs := tab_g0) (m := 18) 6 5 hL rfl (by kernel_rfl) (by kernel_rfl) (by kernel_rfl) (by kernel_rfl) (fun _ => rfl) (by kernel_rfl) (by kernel_rfl)
    obtain ⟨cp, Tp, fzp, hp1, hp2⟩ := laid_heap (g := 4) (t := 139) 2 5 hL rfl (by kernel_rfl) (by kernel_rfl) (by kernel_rfl)
    have tL : LibG Tryd.prog 4 1 2 3 W (fp []) := ⟨libG_pow hp1 hp2 (by kernel_rfl), Tryd.laysM145.s1_3 W hsh, laid_iface (g := 2) (t := 64) 5 hL rfl (by kernel_rfl) (by kernel_rfl) Tryd.underlying64, laid_iface (g := 3) (t := 64) 4 hL rfl (by kernel_rfl) (by kernel_rfl) Tryd.underlying64, by simp [fp], by simp [fp], by simp [fp], by simp [fp]⟩
    exact (tappetlaw26_TraceParses_ok W fu a0 true hfu (St.zero W) t0 tL).mono fun e w' ⟨he, hst⟩ => ⟨he, hst.chg⟩

theorem traceParsesUpto_said : Rows.TraceParsesUptoSaid :=
  OpenClaim.holds_of_cond 3 Tryd.f3 rfl rfl rfl rfl rfl rfl rfl ⟨rfl, rfl, rfl, rfl, rfl⟩ rfl rfl rfl rfl rfl (by kernel_rfl) Tryd.func3 (by kernel_rfl)
    (of_decide_eq_true (by kernel_rfl)) (by unfold Func.isWrapper; first | (rw [if_pos (by decide +kernel)]; kernel_rfl) | (rw [if_neg (by decide +kernel)]; exact ⟨rfl, rfl⟩))
    (fun os started H enc _ F => by rw [OpenClaim.pre_eq_preRow]; exact traceParsesUpto_lifted os started H enc F)
theorem traceParsesUpto_plain (f : FuncId) (fn : Func) (hf : Tryd.pinned.checked.prog.funcNamed "tappet/tappetlaw26.TraceParses" = some f) (hfn : Tryd.pinned.checked.prog.funcs[f]? = some fn) :
    true = Tryd.pinned.checked.prog.looks [] ∧ ∀ (j : Nat) t, fn.params[j]? = some t → Tryd.pinned.checked.prog.wantsStandIn t = false := by
  obtain rfl : f = 3 := Option.some.inj ((show Tryd.prog.funcNamed "tappet/tappetlaw26.TraceParses" = some 3 by kernel_rfl).symm.trans hf) |>.symm
  obtain rfl : fn = Tryd.f3 := (Option.some.inj (Tryd.func3.symm.trans hfn)).symm
  refine ⟨by kernel_rfl, fun j t ht => ?_⟩
  have ht2 : t ∈ Tryd.f3.params := Array.mem_of_getElem? ht
  rw [Tryd.params3] at ht2
  simp only [List.mem_toArray, List.mem_cons, List.not_mem_nil, or_false] at ht2
  subst ht2
  exact (show Tryd.prog.wantsStandIn 9 = false by kernel_rfl)
theorem traceParsesUptoCard_holds : Rows.TraceParsesUptoCardSaid :=
  Claim7.holds_tied_plain_at .later [] _ _ _ _ traceParsesUpto_said (fun _ h => by cases h) (by kernel_rfl) (fun _ h => by cases h) traceParsesUpto_row_tie rfl ⟨rfl, rfl⟩ (by kernel_rfl) rfl traceParsesUpto_plain (by kernel_rfl)
#print axioms traceParsesUptoCard_holds
end Go.Proofs.YtalllncanpcmfaaDoor
