/- Lemmas. -/
import Derived.Test.YtplmgfkghomelaaGreatDoorCards
import Derived.Test.YtplmgfkghomelaaGreatDoorTie
import Derived.Test.YtplmgfkghomelaaGreatDoorW1
import Derived.Test.YtplmgfkghomelaaGreatDoorKT5
set_option linter.unusedVariables false
set_option linter.unusedSimpArgs false
namespace Go.Proofs.YtplmgfkghomelaaGreatDoor
open Go.Sx Go.ChangeShapes Go.WideShapes Go.ChangeAt Go.RowKit
theorem Ah(os:Os):laidMet Tryz.prog Rows.wholeFullRow.laid ((tJ Tryz.prog os [(0,(vv (H:=Unit) Rows.laid_tappet_ops_forms).getD []),(1,(vv (H:=Unit) Rows.laid_tappet_sigs_table).getD [])]).forCall (λ_ _=>0) ⟨#[],#[.agg #[.int .i64 0,.int .i64 0,.int .i64 0,.int .i64 0,.slice none 0 0,.slice none 0 0,.slice none 0 0]],[]⟩).memory:=
 laidMet_of_run' 8 (by kernel_rfl) (by kernel_rfl)
set_option maxRecDepth 100000 in
theorem rG(os:Os)(started:os.Started)(H:Type)(enc:TypeId×Value->H)(F:Stop.Interp):
  ReturnsInHanded {} Tryz.checked os 6 .any ((OpenSpec.ofChange Rows.wholeFullSpec).preRow enc Tryz.prog Tryz.f6 Rows.wholeFullRow.domain false Rows.wholeFullRow.laid) (((OpenSpec.ofChange Rows.wholeFullSpec).at F).post enc Tryz.prog Tryz.f6 false true false false):=by
 obtain ⟨x,hx⟩:∃x,DataW.whole enc Tryz.prog ((tJ Tryz.prog os [(0,(vv (H:=Unit) Rows.laid_tappet_ops_forms).getD []),(1,(vv (H:=Unit) Rows.laid_tappet_sigs_table).getD [])]).forCall (λ_ _=>0) ⟨#[],#[.agg #[.int .i64 0,.int .i64 0,.int .i64 0,.int .i64 0,.slice none 0 0,.slice none 0 0,.slice none 0 0]],[]⟩).memory Tryz.f6.params.toList Rows.wholeFullSpec.vars false (#[.agg #[.int .i64 0,.int .i64 0,.int .i64 0,.int .i64 0,.slice none 0 0,.slice none 0 0,.slice none 0 0]]:Array Value).toList 8=some x:=Option.isSome_iff_exists.1 (by kernel_rfl)
 refine Aj (C:=Tryz.checked) (tb:=4) H enc (by kernel_rfl) started (by kernel_rfl) Tryz.func6
  (witness_row_at (enc:=enc) (C:=Tryz.checked) false (tJ Tryz.prog os [(0,(vv (H:=Unit) Rows.laid_tappet_ops_forms).getD []),(1,(vv (H:=Unit) Rows.laid_tappet_sigs_table).getD [])]) #[.agg #[.int .i64 0,.int .i64 0,.int .i64 0,.int .i64 0,.slice none 0 0,.slice none 0 0,.slice none 0 0]] rfl (by kernel_rfl) (by kernel_rfl) (by kernel_rfl)
   (OpenSpec.preRow_of_cond 8 hx (by rfl) (λk hk=>by cases hk) (by kernel_rfl) (Ah os)))
  (by kernel_rfl) rfl (by kernel_rfl) rfl (by kernel_rfl) ?_ ?_
 ·intro ds hl
  match ds,hl with
  |[d0],_=>exact ⟨rfl,rfl,rfl⟩
 ·intro W base args ds ps hL hval0 hA0 hw0;have hval:∀(j:Nat) t v,Tryz.f6.params[j]? =some t->args[j]? =some v->Value.okWide Tryz.prog W .any base t v:=hval0;have hA:DataW.TrodAll enc Tryz.prog W 0 (λ_=>true) true [58] args.toList ds ps:=hA0;have hw:∀n∈DataW.weightsEach Tryz.prog [58] ds,n<=reachBytes:=hw0;clear hval0 hA0 hw0;obtain ⟨args⟩:=args;obtain ⟨v0,vs0,ds0,ps0,e0,k0,hA,hw⟩:=Go.Sx.trodAll_cons hA hw;have en:=Go.Sx.trodAll_nil hA;have ea:args=[v0]:=by rw [show args=_ from e0,en]
  subst ea;obtain ⟨a0,⟨us0,c0,q0⟩,g0⟩:=k0 _ _ _ nC;obtain ⟨_,_,rfl,⟨v0_0,rfl,m0_0⟩,⟨_,_,rfl,⟨v0_1,rfl,m0_1⟩,⟨v0_2,rfl,m0_2⟩⟩⟩:=q0;have f0:v0=.agg [.int .i64 a0.C.Sa,.int .i64 a0.C.Sf,.int .i64 a0.C.Sj,.int .i64 a0.C.SS,v0_0,v0_1,v0_2].toArray:=Kd (P:=Tryz.prog) (w:=W) (hval 0 58 v0 rfl rfl) c0 (by kernel_rfl);subst f0;obtain ⟨fu,hfu⟩:=ut a0 g0;have t0:Rd W (fp []) (.slice (some ⟨0,0,none⟩) 23 23) zW 2 xE:=I6 (t:=341) (enc:=zW) (sz:=2) (xs:=xE) (m:=23) 0 5 hL rfl (by kernel_rfl) (by kernel_rfl) (by kernel_rfl) (by kernel_rfl) (λ_=>rfl) (by kernel_rfl) (by kernel_rfl);have t1:Rd W (fp []) (.slice (some ⟨1,0,none⟩) 7 7) qk 5 ae:=I6 (t:=434) (enc:=qk) (sz:=5) (xs:=ae) (m:=7) 1 5 hL rfl (by kernel_rfl) (by kernel_rfl) (by kernel_rfl) (by kernel_rfl) (λ_=>rfl) (by kernel_rfl) (by kernel_rfl);exact (lF W fu v0_0 v0_1 v0_2 a0 true hfu (St.zero W) m0_0 m0_1 m0_2 t0 t1).mono λe w' ⟨he,hst⟩=>⟨he,hst.chg⟩
end Go.Proofs.YtplmgfkghomelaaGreatDoor
