/- THE STATEMENT RegistryPlaysCardSaid IS PROVED (the tied card): for every input the law returns true, and what was there before the call is as it was. The listed tables read as the program's text lays them; the card ties that to the text. -/
import Derived.Test.YtbmknhpfkpmigaaGreatDoorCards
import Derived.Test.YtbmknhpfkpmigaaGreatDoorTie
import Derived.Test.YtbmknhpfkpmigaaGreatDoorW1
import Derived.Test.YtbmknhpfkpmigaaGreatDoorKRegS3
set_option linter.unusedVariables false
set_option linter.unusedSimpArgs false
namespace Go.Proofs.YtbmknhpfkpmigaaGreatDoor
open Go.Sx Go.ChangeShapes Go.WideShapes Go.ChangeAt Go.RowKit
theorem zgV (os:Os):laidMet Tryz.prog Rows.registryPlaysRow.laid ((zh4 Tryz.prog os [(1,(vo (H:=Unit) Rows.laid_tappet_ops_forms).getD []),(0,(vo (H:=Unit) Rows.laid_tappet_sigs_table).getD [])]).forCall (fun _ _=>0) ⟨#[],#[.int .i64 0,.int .i64 0,.slice none 0 0],[]⟩).memory:=
 laidMet_of_run' 8 (by kernel_rfl) (by kernel_rfl)
set_option maxRecDepth 100000 in
theorem zfF (os:Os) (started:os.Started) (H:Type) (enc:TypeId×Value->H) (F:Stop.Interp):
  ReturnsInHanded {} Tryz.checked os 5 .any ((OpenSpec.ofChange Rows.registryPlaysSpec).preRow enc Tryz.prog Tryz.f5 Rows.registryPlaysRow.domain false Rows.registryPlaysRow.laid) (((OpenSpec.ofChange Rows.registryPlaysSpec).at F).post enc Tryz.prog Tryz.f5 false true false false):=by
 obtain ⟨x,hx⟩: ∃ x,DataW.whole enc Tryz.prog ((zh4 Tryz.prog os [(1,(vo (H:=Unit) Rows.laid_tappet_ops_forms).getD []),(0,(vo (H:=Unit) Rows.laid_tappet_sigs_table).getD [])]).forCall (fun _ _=>0) ⟨#[],#[.int .i64 0,.int .i64 0,.slice none 0 0],[]⟩).memory Tryz.f5.params.toList Rows.registryPlaysSpec.vars false (#[.int .i64 0,.int .i64 0,.slice none 0 0]:Array Value).toList 8=some x:=Option.isSome_iff_exists.1 (by kernel_rfl)
 refine zji (C:=Tryz.checked) (tb:=4) H enc (by kernel_rfl) started (by kernel_rfl) Tryz.func5
  (witness_row_at (enc:=enc) (C:=Tryz.checked) false (zh4 Tryz.prog os [(1,(vo (H:=Unit) Rows.laid_tappet_ops_forms).getD []),(0,(vo (H:=Unit) Rows.laid_tappet_sigs_table).getD [])]) #[.int .i64 0,.int .i64 0,.slice none 0 0] rfl (by kernel_rfl) (by kernel_rfl) (by kernel_rfl)
   (OpenSpec.preRow_of_cond 8 hx (by rfl) (fun k hk=>by cases hk) (by kernel_rfl) (zgV os)))
  (by kernel_rfl) rfl (by kernel_rfl) rfl (by kernel_rfl) ?_ ?_
 ·intro ds hl
  match ds,hl with
  | [d0,d1,d2],_=>exact ⟨rfl,rfl,rfl⟩
 ·intro W base args ds ps hL hval0 hA0 hw0
  have hval: ∀ (j:Nat) t v,Tryz.f5.params[j]? =some t->args[j]? =some v->Value.okWide Tryz.prog W .any base t v:=hval0
  have hA:DataW.TrodAll enc Tryz.prog W 0 (fun _=>true) true [3,3,46] args.toList ds ps:=hA0
  have hw: ∀ n∈DataW.weightsEach Tryz.prog [3,3,46] ds,n<=reachBytes:=hw0
  clear hval0 hA0 hw0
  obtain ⟨args⟩:=args
  obtain ⟨v0,vs0,ds0,ps0,e0,k0,hA,hw⟩:=Go.Sx.trodAll_cons hA hw
  obtain ⟨v1,vs1,ds1,ps1,e1,k1,hA,hw⟩:=Go.Sx.trodAll_cons hA hw
  obtain ⟨v2,vs2,ds2,ps2,e2,k2,hA,hw⟩:=Go.Sx.trodAll_cons hA hw
  have en:=Go.Sx.trodAll_nil hA
  have ea:args= [v0,v1,v2]:=by rw [show args=_ from e0,e1,e2,en]
  subst ea
  obtain ⟨a0,c0,g0⟩:=k0 _ _ _ (Dec.int (t:=3) (k:= .i64) (by kernel_rfl))
  have f0:=ziW (P:=Tryz.prog) (w:=W) (hval 0 3 v0 rfl rfl) c0 (.inl ⟨.i64,by kernel_rfl⟩)
  subst f0
  obtain ⟨a1,c1,g1⟩:=k1 _ _ _ (Dec.int (t:=3) (k:= .i64) (by kernel_rfl))
  have f1:=ziW (P:=Tryz.prog) (w:=W) (hval 1 3 v1 rfl rfl) c1 (.inl ⟨.i64,by kernel_rfl⟩)
  subst f1
  obtain ⟨a2,⟨u2,c2,m2⟩,g2⟩:=k2 _ _ _ (Dec.sliceN (t:=46) (e:=56) (sz:=4) (bytes:=48) zgc (by kernel_rfl) (by kernel_rfl) (by decide) (by kernel_rfl))
  have f2:=ziW (P:=Tryz.prog) (w:=W) (hval 2 46 v2 rfl rfl) c2 (.inr (.inr (.inr ⟨56,by kernel_rfl⟩)))
  subst f2
  obtain ⟨fu,hfu⟩:=zgk a0 a1 a2 g0 g1 g2
  have t0:Rd W (fp []) (.slice (some ⟨0,0,none⟩) 7 7) qL 5 zcH:=zn6 (t:=359) (enc:=qL) (sz:=5) (xs:=zcH) (m:=7) 1 5 hL rfl (by kernel_rfl) (by kernel_rfl) (by kernel_rfl) (by kernel_rfl) (fun _=>rfl) (by kernel_rfl) (by kernel_rfl)
  have t1:Rd W (fp []) (.slice (some ⟨1,0,none⟩) 23 23) zI 2 vT:=zn6 (t:=382) (enc:=zI) (sz:=2) (xs:=vT) (m:=23) 0 5 hL rfl (by kernel_rfl) (by kernel_rfl) (by kernel_rfl) (by kernel_rfl) (fun _=>rfl) (by kernel_rfl) (by kernel_rfl)
  exact (zdg W fu a0 a1 v2 a2 true hfu (St.zero W) m2 t0 t1).mono fun e w' ⟨he,hst⟩=>⟨he,hst.chg⟩
theorem zgy:Rows.RegistryPlaysSaid:=
 OpenClaim.holds_of_cond 5 Tryz.f5 rfl rfl rfl rfl rfl rfl rfl ⟨rfl,rfl,rfl,rfl,rfl⟩ rfl rfl rfl rfl rfl (by kernel_rfl) Tryz.func5 (by kernel_rfl)
  (of_decide_eq_true (by kernel_rfl)) (by unfold Func.isWrapper;first | (rw [if_pos (by decide+kernel)];kernel_rfl) | (rw [if_neg (by decide+kernel)];exact ⟨rfl,rfl⟩))
  (fun os started H enc _ F=>by rw [OpenClaim.pre_eq_preRow];exact zfF os started H enc F)
theorem zf2 (f:FuncId) (fn:Func) (hf:Tryz.pinned.checked.prog.funcNamed "tappet/tappetlaw24.RegistryPlays" =some f) (hfn:Tryz.pinned.checked.prog.funcs[f]? =some fn):
  false=Tryz.pinned.checked.prog.looks []/\ ∀ (j:Nat) t,fn.params[j]? =some t->Tryz.pinned.checked.prog.wantsStandIn t=false:=by
 obtain rfl:f=5:=Option.some.inj ((show Tryz.prog.funcNamed "tappet/tappetlaw24.RegistryPlays" =some 5 by kernel_rfl).symm.trans hf) |>.symm
 obtain rfl:fn=Tryz.f5:=(Option.some.inj (Tryz.func5.symm.trans hfn)).symm
 refine ⟨by kernel_rfl,fun j t ht=> ?_⟩
 have ht2:t∈Tryz.f5.params:=Array.mem_of_getElem? ht
 rw [Tryz.params5] at ht2
 simp only [List.mem_toArray,List.mem_cons,List.not_mem_nil,or_false] at ht2
 rcases ht2 with rfl | rfl | rfl
 ·exact (show Tryz.prog.wantsStandIn 3=false by kernel_rfl)
 ·exact (show Tryz.prog.wantsStandIn 3=false by kernel_rfl)
 ·exact (show Tryz.prog.wantsStandIn 46=false by kernel_rfl)
theorem registryPlaysCard_holds:Rows.RegistryPlaysCardSaid:=
 Claim7.holds_tied_plain_at .later [] _ _ _ _ zgy (fun _ h=>by cases h) (by kernel_rfl) (fun _ h=>by cases h) registryPlays_row_tie rfl ⟨rfl,rfl⟩ (by kernel_rfl) rfl zf2 (by kernel_rfl)
#print axioms registryPlaysCard_holds
end Go.Proofs.YtbmknhpfkpmigaaGreatDoor
