/- Lemmas. -/
import Derived.Test.YtplmgfkghomelaaGreatDoorCards
import Derived.Test.YtplmgfkghomelaaGreatDoorTie
import Derived.Test.YtplmgfkghomelaaGreatDoorW1
import Derived.Test.YtplmgfkghomelaaGreatDoorKH24
set_option linter.unusedVariables false
set_option linter.unusedSimpArgs false
namespace Go.Proofs.YtplmgfkghomelaaGreatDoor
open Go.Sx Go.ChangeShapes Go.WideShapes Go.ChangeAt Go.RowKit
theorem pe(os:Os):laidMet Tryz.prog Rows.hostGrowsUptoRow.laid ((ta Tryz.prog os [(0,(vt (H:=Unit) Rows.laid_tappet_ops_forms).getD []),(1,(vt (H:=Unit) Rows.laid_tappet_sigs_table).getD [])]).forCall (λ_ _=>0) ⟨#[],#[.agg #[.int .i64 0,.int .i64 0,.int .i64 0,.int .i64 0,.slice none 0 0,.slice none 0 0,.slice none 0 0]],[]⟩).memory:=
 laidMet_of_run' 8 (by kernel_rfl) (by kernel_rfl)
set_option maxRecDepth 100000 in
theorem mi(os:Os)(started:os.Started)(H:Type)(enc:TypeId×Value->H)(F:Stop.Interp):
  ReturnsInHanded {} Tryz.checked os 3 .any ((Rows.OpenSpec.upto Rows.hostGrowsSpec).preRow enc Tryz.prog Tryz.f3 Rows.hostGrowsUptoRow.domain false Rows.hostGrowsUptoRow.laid) (((Rows.OpenSpec.upto Rows.hostGrowsSpec).at F).post enc Tryz.prog Tryz.f3 false true false false):=by
 obtain ⟨pl,hx⟩:∃pl,DataW.whole enc Tryz.prog ((ta Tryz.prog os [(0,(vt (H:=Unit) Rows.laid_tappet_ops_forms).getD []),(1,(vt (H:=Unit) Rows.laid_tappet_sigs_table).getD [])]).forCall (λ_ _=>0) ⟨#[],#[.agg #[.int .i64 0,.int .i64 0,.int .i64 0,.int .i64 0,.slice none 0 0,.slice none 0 0,.slice none 0 0]],[]⟩).memory Tryz.f3.params.toList Rows.hostGrowsSpec.vars false (#[.agg #[.int .i64 0,.int .i64 0,.int .i64 0,.int .i64 0,.slice none 0 0,.slice none 0 0,.slice none 0 0]]:Array Value).toList 8=some ([.agg [.agg [.lit (.int .i64 0),.lit (.int .i64 0),.lit (.int .i64 0),.lit (.int .i64 0),.nil],.nil,.nil]],[],pl):=⟨[],by kernel_rfl⟩
 refine tX (C:=Tryz.checked) (tb:=4) H enc (by kernel_rfl) started (by kernel_rfl) Tryz.func3
  (witness_row_at (enc:=enc) (C:=Tryz.checked) false (ta Tryz.prog os [(0,(vt (H:=Unit) Rows.laid_tappet_ops_forms).getD []),(1,(vt (H:=Unit) Rows.laid_tappet_sigs_table).getD [])]) #[.agg #[.int .i64 0,.int .i64 0,.int .i64 0,.int .i64 0,.slice none 0 0,.slice none 0 0,.slice none 0 0]] rfl (by kernel_rfl) (by kernel_rfl) (by kernel_rfl)
   (OpenSpec.preRow_of_cond 8 hx (by rfl) (λk hk=>by cases hk;kernel_rfl) (by kernel_rfl) (pe os)))
  (by kernel_rfl) rfl (by kernel_rfl) rfl (by kernel_rfl) ?_ ?_
 ·intro ds hl
  match ds,hl with
  |[d0],_=>exact ⟨rfl,rfl,rfl⟩
 ·intro W base args ds ps hL hsh hK hval0 hA0 hw0;have hval:∀(j:Nat) t v,Tryz.f3.params[j]? =some t->args[j]? =some v->Value.okWide Tryz.prog W .any base t v:=hval0;have hA:DataW.TrodAll enc Tryz.prog W 0 (λ_=>true) true [28] args.toList ds ps:=hA0;have hA9:=hA;have hw:∀n∈DataW.weightsEach Tryz.prog [28] ds,n<=reachBytes:=hw0;clear hval0 hA0 hw0;obtain ⟨args⟩:=args;have hkU:Rows.uptoBulkAll ds<=1048576:=of_decide_eq_true hK;obtain ⟨v0,vs0,ds0,ps0,e0,k0,hA,hw,hkU⟩:=wO hA hw hkU;have en:=Go.Sx.trodAll_nil hA;have ea:args=[v0]:=by rw [show args=_ from e0,en]
  subst ea;obtain ⟨a0,⟨us0,c0,q0⟩,g0⟩:=k0 _ _ _ kM;obtain ⟨_,_,rfl,⟨v0_0,rfl,m0_0⟩,⟨_,_,rfl,⟨v0_1,rfl,m0_1⟩,⟨v0_2,rfl,m0_2⟩⟩⟩:=q0;have f0:v0=.agg [.int .i64 a0.C.QM,.int .i64 a0.C.QP,.int .i64 a0.C.QY,.int .i64 a0.C.RJ,v0_0,v0_1,v0_2].toArray:=Jg (P:=Tryz.prog) (w:=W) (hval 0 28 v0 rfl rfl) c0 (by kernel_rfl);subst f0;obtain ⟨fu,hfu⟩:=nM a0 g0;have t0:Rd W (fp []) (.slice (some ⟨0,0,none⟩) 23 23) zV 2 xR:=Ia (t:=341) (enc:=zV) (sz:=2) (xs:=xR) (m:=23) 0 5 hL rfl (by kernel_rfl) (by kernel_rfl) (by kernel_rfl) (by kernel_rfl) (λ_=>rfl) (by kernel_rfl) (by kernel_rfl);have t1:Rd W (fp []) (.slice (some ⟨1,0,none⟩) 7 7) qk 5 aw:=Ia (t:=434) (enc:=qk) (sz:=5) (xs:=aw) (m:=7) 1 5 hL rfl (by kernel_rfl) (by kernel_rfl) (by kernel_rfl) (by kernel_rfl) (λ_=>rfl) (by kernel_rfl) (by kernel_rfl);exact (kg W fu v0_0 v0_1 v0_2 a0 true hfu (St.zero W) m0_0 m0_1 m0_2 t0 t1).mono λe w' ⟨he,hst⟩=>⟨he,hst.chg⟩
end Go.Proofs.YtplmgfkghomelaaGreatDoor
