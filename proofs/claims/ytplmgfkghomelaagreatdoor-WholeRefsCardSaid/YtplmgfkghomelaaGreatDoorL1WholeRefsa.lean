/- Lemmas. -/
import Derived.Test.YtplmgfkghomelaaGreatDoorCards
import Derived.Test.YtplmgfkghomelaaGreatDoorTie
import Derived.Test.YtplmgfkghomelaaGreatDoorW1
import Derived.Test.YtplmgfkghomelaaGreatDoorKV2
set_option linter.all false
namespace Go.Proofs.YtplmgfkghomelaaGreatDoor
open Go.Sx Go.ChangeShapes Go.WideShapes Go.ChangeAt Go.RowKit
theorem Bm(os:Os):laidMet Tryz.prog Rows.wholeRefsRow.laid ((uU Tryz.prog os [(0,(vF (H:=Unit) Rows.laid_tappet_ops_forms).getD []),(1,(vF (H:=Unit) Rows.laid_tappet_sigs_table).getD [])]).forCall (λ_ _=>0) ⟨#[],#[.agg #[.int .i64 0,.int .i64 0,.int .i64 0,.int .i64 0,.slice none 0 0,.slice none 0 0,.slice none 0 0]],[]⟩).memory:=
 laidMet_of_run' 8 (by kernel_rfl) (by kernel_rfl)
set_option maxRecDepth 100000 in
theorem tj(os:Os)(s:os.Started)(H:Type)(enc:TypeId×Value->H)(F:Stop.Interp):
  ReturnsInHanded {} Tryz.checked os 9 .any ((OpenSpec.ofChange Rows.wholeRefsSpec).preRow enc Tryz.prog Tryz.f9 Rows.wholeRefsRow.domain false Rows.wholeRefsRow.laid) (((OpenSpec.ofChange Rows.wholeRefsSpec).at F).post enc Tryz.prog Tryz.f9 false true false false):=by
 obtain ⟨x,B⟩:∃x,DataW.whole enc Tryz.prog ((uU Tryz.prog os [(0,(vF (H:=Unit) Rows.laid_tappet_ops_forms).getD []),(1,(vF (H:=Unit) Rows.laid_tappet_sigs_table).getD [])]).forCall (λ_ _=>0) ⟨#[],#[.agg #[.int .i64 0,.int .i64 0,.int .i64 0,.int .i64 0,.slice none 0 0,.slice none 0 0,.slice none 0 0]],[]⟩).memory Tryz.f9.params.toList Rows.wholeRefsSpec.vars false (#[.agg #[.int .i64 0,.int .i64 0,.int .i64 0,.int .i64 0,.slice none 0 0,.slice none 0 0,.slice none 0 0]]:Array Value).toList 8=some x:=Option.isSome_iff_exists.1 (by kernel_rfl)
 refine Bp (C:=Tryz.checked) (tb:=4) H enc (by kernel_rfl) s (by kernel_rfl) Tryz.func9
  (witness_row_at (enc:=enc) (C:=Tryz.checked) false (uU Tryz.prog os [(0,(vF (H:=Unit) Rows.laid_tappet_ops_forms).getD []),(1,(vF (H:=Unit) Rows.laid_tappet_sigs_table).getD [])]) #[.agg #[.int .i64 0,.int .i64 0,.int .i64 0,.int .i64 0,.slice none 0 0,.slice none 0 0,.slice none 0 0]] rfl (by kernel_rfl) (by kernel_rfl) (by kernel_rfl)
   (OpenSpec.preRow_of_cond 8 B (by rfl) (λk D=>by cases D) (by kernel_rfl) (Bm os)))
  (by kernel_rfl) rfl (by kernel_rfl) rfl (by kernel_rfl) ?_ ?_
 ·intro q hl
  match q,hl with
  |[Z],_=>exact ⟨rfl,rfl,rfl⟩
 ·intro W base args q E z h f g;have i:∀(j:Nat) t v,Tryz.f9.params[j]? =some t->args[j]? =some v->Value.okWide Tryz.prog W .any base t v:=h;have r:DataW.TrodAll enc Tryz.prog W 0 (λ_=>true) true [58] args.toList q E:=f;have A:∀n∈DataW.weightsEach Tryz.prog [58] q,n<=reachBytes:=g;clear h f g;obtain ⟨args⟩:=args;obtain ⟨v0,G,I,J,K,L,r,A⟩:=Go.Sx.trodAll_cons r A;have M:=Go.Sx.trodAll_nil r;have N:args=[v0]:=by rw [show args=_ from K,M]
  subst N;obtain ⟨d,⟨O,Q,R⟩,S⟩:=L _ _ _ oK;obtain ⟨_,_,rfl,⟨a,rfl,l⟩,⟨_,_,rfl,⟨b,rfl,o⟩,⟨c,rfl,p⟩⟩⟩:=R;have T:v0=.agg [.int .i64 d.C.Uc,.int .i64 d.C.Ui,.int .i64 d.C.Up,.int .i64 d.C.UT,a,b,c].toArray:=Lj (P:=Tryz.prog) (w:=W) (i 0 58 v0 rfl rfl) Q (by kernel_rfl);subst T;obtain ⟨U,u⟩:=wE d S;have V:Rd W (fp []) (.slice (some ⟨0,0,none⟩) 23 23) zY 2 xM:=Kg (t:=341) (enc:=zY) (sz:=2) (xs:=xM) (m:=23) 0 5 z rfl (by kernel_rfl) (by kernel_rfl) (by kernel_rfl) (by kernel_rfl) (λ_=>rfl) (by kernel_rfl) (by kernel_rfl);have X:Rd W (fp []) (.slice (some ⟨1,0,none⟩) 7 7) qi 5 aw:=Kg (t:=434) (enc:=qi) (sz:=5) (xs:=aw) (m:=7) 1 5 z rfl (by kernel_rfl) (by kernel_rfl) (by kernel_rfl) (by kernel_rfl) (λ_=>rfl) (by kernel_rfl) (by kernel_rfl);exact (mE W U a b c d true u (St.zero W) l o p V X).mono λe w' ⟨Y,y⟩=>⟨Y,y.chg⟩
end Go.Proofs.YtplmgfkghomelaaGreatDoor
