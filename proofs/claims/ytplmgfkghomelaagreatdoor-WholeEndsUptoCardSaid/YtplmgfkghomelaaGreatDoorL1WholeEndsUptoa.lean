/- Lemmas. -/
import Derived.Test.YtplmgfkghomelaaGreatDoorCards
import Derived.Test.YtplmgfkghomelaaGreatDoorTie
import Derived.Test.YtplmgfkghomelaaGreatDoorW1
import Derived.Test.YtplmgfkghomelaaGreatDoorKQ8
set_option linter.all false
namespace Go.Proofs.YtplmgfkghomelaaGreatDoor
open Go.Sx Go.ChangeShapes Go.WideShapes Go.ChangeAt Go.RowKit
theorem rL(os:Os):laidMet Tryz.prog Rows.wholeEndsUptoRow.laid ((uN Tryz.prog os [(0,(vE (H:=Unit) Rows.laid_tappet_ops_forms).getD []),(1,(vE (H:=Unit) Rows.laid_tappet_sigs_table).getD [])]).forCall (λ_ _=>0) ⟨#[],#[.agg #[.int .i64 0,.int .i64 0,.int .i64 0,.int .i64 0,.slice none 0 0,.slice none 0 0,.slice none 0 0]],[]⟩).memory:=
 laidMet_of_run' 8 (by kernel_rfl) (by kernel_rfl)
set_option maxRecDepth 100000 in
theorem nS(os:Os)(s:os.Started)(H:Type)(enc:TypeId×Value->H)(F:Stop.Interp):
  ReturnsInHanded {} Tryz.checked os 7 .any ((Rows.OpenSpec.upto Rows.wholeEndsSpec).preRow enc Tryz.prog Tryz.f7 Rows.wholeEndsUptoRow.domain false Rows.wholeEndsUptoRow.laid) (((Rows.OpenSpec.upto Rows.wholeEndsSpec).at F).post enc Tryz.prog Tryz.f7 false true false false):=by
 obtain ⟨z,D⟩:∃z,DataW.whole enc Tryz.prog ((uN Tryz.prog os [(0,(vE (H:=Unit) Rows.laid_tappet_ops_forms).getD []),(1,(vE (H:=Unit) Rows.laid_tappet_sigs_table).getD [])]).forCall (λ_ _=>0) ⟨#[],#[.agg #[.int .i64 0,.int .i64 0,.int .i64 0,.int .i64 0,.slice none 0 0,.slice none 0 0,.slice none 0 0]],[]⟩).memory Tryz.f7.params.toList Rows.wholeEndsSpec.vars false (#[.agg #[.int .i64 0,.int .i64 0,.int .i64 0,.int .i64 0,.slice none 0 0,.slice none 0 0,.slice none 0 0]]:Array Value).toList 8=some ([.agg [.agg [.lit (.int .i64 0),.lit (.int .i64 0),.lit (.int .i64 0),.lit (.int .i64 0),.nil],.nil,.nil]],[],z):=⟨[],by kernel_rfl⟩
 refine wy (C:=Tryz.checked) (tb:=4) H enc (by kernel_rfl) s (by kernel_rfl) Tryz.func7
  (witness_row_at (enc:=enc) (C:=Tryz.checked) false (uN Tryz.prog os [(0,(vE (H:=Unit) Rows.laid_tappet_ops_forms).getD []),(1,(vE (H:=Unit) Rows.laid_tappet_sigs_table).getD [])]) #[.agg #[.int .i64 0,.int .i64 0,.int .i64 0,.int .i64 0,.slice none 0 0,.slice none 0 0,.slice none 0 0]] rfl (by kernel_rfl) (by kernel_rfl) (by kernel_rfl)
   (OpenSpec.preRow_of_cond 8 D (by rfl) (λk E=>by cases E;kernel_rfl) (by kernel_rfl) (rL os)))
  (by kernel_rfl) rfl (by kernel_rfl) rfl (by kernel_rfl) ?_ ?_
 ·intro f hl
  match f,hl with
  |[d0],_=>exact ⟨rfl,rfl,rfl⟩
 ·intro W base args f G A I J h g i;have l:∀(j:Nat) t v,Tryz.f7.params[j]? =some t->args[j]? =some v->Value.okWide Tryz.prog W .any base t v:=h;have u:DataW.TrodAll enc Tryz.prog W 0 (λ_=>true) true [58] args.toList f G:=g;have K:=u;have B:∀n∈DataW.weightsEach Tryz.prog [58] f,n<=reachBytes:=i;clear h g i;obtain ⟨args⟩:=args;have o:Rows.uptoBulkAll f<=1048576:=of_decide_eq_true J;obtain ⟨v0,L,M,N,O,Q,u,B,o⟩:=Bp u B o;have R:=Go.Sx.trodAll_nil u;have S:args=[v0]:=by rw [show args=_ from O,R]
  subst S;obtain ⟨d,⟨T,U,V⟩,X⟩:=Q _ _ _ nO;obtain ⟨_,_,rfl,⟨a,rfl,p⟩,⟨_,_,rfl,⟨b,rfl,q⟩,⟨c,rfl,r⟩⟩⟩:=V;have Y:v0=.agg [.int .i64 d.C.SS,.int .i64 d.C.SR,.int .i64 d.C.Ti,.int .i64 d.C.TM,a,b,c].toArray:=KM (P:=Tryz.prog) (w:=W) (l 0 58 v0 rfl rfl) U (by kernel_rfl);subst Y;obtain ⟨Z,x⟩:=px d X;have t0:Rd W (fp []) (.slice (some ⟨0,0,none⟩) 23 23) zX 2 xV:=JJ (t:=341) (enc:=zX) (sz:=2) (xs:=xV) (m:=23) 0 5 A rfl (by kernel_rfl) (by kernel_rfl) (by kernel_rfl) (by kernel_rfl) (λ_=>rfl) (by kernel_rfl) (by kernel_rfl);have t1:Rd W (fp []) (.slice (some ⟨1,0,none⟩) 7 7) qo 5 aG:=JJ (t:=434) (enc:=qo) (sz:=5) (xs:=aG) (m:=7) 1 5 A rfl (by kernel_rfl) (by kernel_rfl) (by kernel_rfl) (by kernel_rfl) (λ_=>rfl) (by kernel_rfl) (by kernel_rfl);exact (mj W Z a b c d true x (St.zero W) p q r t0 t1).mono λe w' ⟨he,y⟩=>⟨he,y.chg⟩
end Go.Proofs.YtplmgfkghomelaaGreatDoor
