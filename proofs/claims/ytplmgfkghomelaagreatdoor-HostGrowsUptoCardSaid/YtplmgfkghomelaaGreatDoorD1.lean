/- Lemmas. -/
import Derived.Test.YtplmgfkghomelaaGreatDoorF1
import Derived.Test.YtplmgfkghomelaaGreatDoorEng9
set_option linter.unusedVariables false
set_option linter.unusedSimpArgs false
namespace Go.Proofs.YtplmgfkghomelaaGreatDoor
open Go.Sx Go.ChangeShapes Go.WideShapes Go.ChangeAt Go.RowKit
def NL:Rp (List je):=lM 81 (xc) 2 (λ_=>rfl) (by decide)
def Pt:Rp zR:=qo (λ(x:zR)vs=>[.int .i64 x.QM,.int .i64 x.QP,.int .i64 x.QY,.int .i64 x.RJ,vs.getD 0 undef]) 5 (λ_ _=>rfl) (λx=>x.Maps) (NL)
def Pu:Rp (List (List zI)):=iA 56 oM (by decide)
def Pv:Rp jk:=qo (λ(x:jk)vs=>[.int .i64 x.C.QM,.int .i64 x.C.QP,.int .i64 x.C.QY,.int .i64 x.C.RJ,vs.getD 0 undef,vs.getD 1 undef,vs.getD 2 undef]) 7 (λ_ _=>rfl) (λx=>(x.C.Maps,(x.RK,x.Se))) (qw NL (qw Pu Cj))
def pz(x:je):Prop:=((Lit.int .i64 x.QJ).wf=true)/\((Lit.int .i64 x.Th).wf=true)
theorem tH:Dec Tryz.prog 81 (λ_ _ a cs=>cs=xc a) pz:=by
 intro H enc w base spare held fuel cs x h hw;obtain ⟨hl,hf⟩:=Dec.parts (L:=[(79,0,1),(3,1,1)]) (by kernel_rfl) (by simp) h hw;have hl:cs.length=2:=hl.trans (by kernel_rfl)
 match cs,hl with
 |[c0,c1],_=>
 obtain ⟨a0,e0,g0⟩:=hf _ _ _ 0 79 0 1 rfl (Dec.int (t:=79) (k:=.i64) (by kernel_rfl));have e0:[c0]=(zx .i64) a0:=e0;cases e0;obtain ⟨a1,e1,g1⟩:=hf _ _ _ 1 3 1 1 rfl (Dec.int (t:=3) (k:=.i64) (by kernel_rfl));have e1:[c1]=(zx .i64) a1:=e1;cases e1;exact ⟨⟨a0,a1⟩,rfl,g0,g1⟩
def nq(x:zR):Prop:=((Lit.int .i64 x.QM).wf=true)/\((Lit.int .i64 x.QP).wf=true)/\((Lit.int .i64 x.QY).wf=true)/\((Lit.int .i64 x.RJ).wf=true)/\((x.Maps.length*16<=reachBytes/\∀y22∈x.Maps,pz y22)/\x.Maps.length<=1048575)
theorem rU:ie Tryz.prog 24 Pt.rd nq:=by
 intro H enc w base spare held fuel cs x h hw hk;obtain ⟨hl,hf⟩:=ie.parts (L:=[(3,0,1),(3,1,1),(3,2,1),(3,3,1),(22,4,1)]) (by kernel_rfl) (by simp) h hw hk;have hl:cs.length=5:=hl.trans (by kernel_rfl)
 match cs,hl with
 |[c0,c1,c2,c3,c4],_=>
 obtain ⟨a0,e0,g0⟩:=hf _ _ _ 0 3 0 1 rfl (ie.of (Dec.int (t:=3) (k:=.i64) (by kernel_rfl)));have e0:[c0]=(zx .i64) a0:=e0;cases e0;obtain ⟨a1,e1,g1⟩:=hf _ _ _ 1 3 1 1 rfl (ie.of (Dec.int (t:=3) (k:=.i64) (by kernel_rfl)));have e1:[c1]=(zx .i64) a1:=e1;cases e1;obtain ⟨a2,e2,g2⟩:=hf _ _ _ 2 3 2 1 rfl (ie.of (Dec.int (t:=3) (k:=.i64) (by kernel_rfl)));have e2:[c2]=(zx .i64) a2:=e2;cases e2;obtain ⟨a3,e3,g3⟩:=hf _ _ _ 3 3 3 1 rfl (ie.of (Dec.int (t:=3) (k:=.i64) (by kernel_rfl)));have e3:[c3]=(zx .i64) a3:=e3;cases e3;obtain ⟨a4,⟨v4,e4,m4⟩,g4⟩:=hf _ _ _ 4 22 4 1 rfl (ie.slice (t:=22) (e:=81) (sz:=2) (bytes:=16) (ie.of tH) (by kernel_rfl) (by kernel_rfl) (by decide) (by kernel_rfl));have e4:[c4]=[v4]:=e4;cases e4;exact ⟨⟨a0,a1,a2,a3,a4⟩,⟨[_],rfl,⟨_,rfl,m4⟩⟩,g0,g1,g2,g3,g4⟩
def oI(x:zh):Prop:=((Lit.int .i64 x.Rv).wf=true)/\((Lit.int .i64 x.Op).wf=true)/\((Lit.int .u64 x.RH).wf=true)/\((Lit.int .u64 x.Rz).wf=true)
theorem pA:Dec Tryz.prog 46 (λ_ _ a cs=>cs=qn a) oI:=by
 intro H enc w base spare held fuel cs x h hw;obtain ⟨hl,hf⟩:=Dec.parts (L:=[(3,0,1),(43,1,1),(44,2,1),(44,3,1)]) (by kernel_rfl) (by simp) h hw;have hl:cs.length=4:=hl.trans (by kernel_rfl)
 match cs,hl with
 |[c0,c1,c2,c3],_=>
 obtain ⟨a0,e0,g0⟩:=hf _ _ _ 0 3 0 1 rfl (Dec.int (t:=3) (k:=.i64) (by kernel_rfl));have e0:[c0]=(zx .i64) a0:=e0;cases e0;obtain ⟨a1,e1,g1⟩:=hf _ _ _ 1 43 1 1 rfl (Dec.int (t:=43) (k:=.i64) (by kernel_rfl));have e1:[c1]=(zx .i64) a1:=e1;cases e1;obtain ⟨a2,e2,g2⟩:=hf _ _ _ 2 44 2 1 rfl (Dec.int (t:=44) (k:=.u64) (by kernel_rfl));have e2:[c2]=(zx .u64) a2:=e2;cases e2;obtain ⟨a3,e3,g3⟩:=hf _ _ _ 3 44 3 1 rfl (Dec.int (t:=44) (k:=.u64) (by kernel_rfl));have e3:[c3]=(zx .u64) a3:=e3;cases e3;exact ⟨⟨a0,a1,a2,a3⟩,rfl,g0,g1,g2,g3⟩
def rV(x:qO):Prop:=((Lit.int .u64 x.A).wf=true)/\((Lit.int .u64 x.B).wf=true)
theorem uJ:Dec Tryz.prog 68 (λ_ _ a cs=>cs=nw a) rV:=by
 intro H enc w base spare held fuel cs x h hw;obtain ⟨hl,hf⟩:=Dec.parts (L:=[(44,0,1),(44,1,1)]) (by kernel_rfl) (by simp) h hw;have hl:cs.length=2:=hl.trans (by kernel_rfl)
 match cs,hl with
 |[c0,c1],_=>
 obtain ⟨a0,e0,g0⟩:=hf _ _ _ 0 44 0 1 rfl (Dec.int (t:=44) (k:=.u64) (by kernel_rfl));have e0:[c0]=(zx .u64) a0:=e0;cases e0;obtain ⟨a1,e1,g1⟩:=hf _ _ _ 1 44 1 1 rfl (Dec.int (t:=44) (k:=.u64) (by kernel_rfl));have e1:[c1]=(zx .u64) a1:=e1;cases e1;exact ⟨⟨a0,a1⟩,rfl,g0,g1⟩
def oJ(x:zI):Prop:=((Lit.int .i64 x.QJ).wf=true)/\(oI x.Item)/\((x.Rk.length*32<=reachBytes/\∀y64∈x.Rk,oI y64)/\x.Rk.length<=1048575)/\((Lit.int .i64 x.Rv).wf=true)/\((Lit.int .i64 x.Ry).wf=true)/\((Lit.int .i64 x.RM).wf=true)/\(rV x.Ra)/\((x.Rf.length*1<=reachBytes/\∀y69∈x.Rf,(Lit.int .u8 y69).wf=true)/\x.Rf.length<=1048575)
theorem Ae:ie Tryz.prog 71 iI.rd oJ:=by
 intro H enc w base spare held fuel cs x h hw hk;obtain ⟨hl,hf⟩:=ie.parts (L:=[(66,0,1),(46,1,4),(64,5,1),(3,6,1),(3,7,1),(3,8,1),(68,9,2),(69,11,1)]) (by kernel_rfl) (by simp) h hw hk;have hl:cs.length=12:=hl.trans (by kernel_rfl)
 match cs,hl with
 |[c0,c1,c2,c3,c4,c5,c6,c7,c8,c9,c10,c11],_=>
 obtain ⟨a0,e0,g0⟩:=hf _ _ _ 0 66 0 1 rfl (ie.of (Dec.int (t:=66) (k:=.i64) (by kernel_rfl)));have e0:[c0]=(zx .i64) a0:=e0;cases e0;obtain ⟨a1,e1,g1⟩:=hf _ _ _ 1 46 1 4 rfl (ie.of pA);have e1:[c1,c2,c3,c4]=qn a1:=e1;cases e1;obtain ⟨a2,⟨v2,e2,m2⟩,g2⟩:=hf _ _ _ 2 64 5 1 rfl (ie.slice (t:=64) (e:=46) (sz:=4) (bytes:=32) (ie.of pA) (by kernel_rfl) (by kernel_rfl) (by decide) (by kernel_rfl));have e2:[c5]=[v2]:=e2;cases e2;obtain ⟨a3,e3,g3⟩:=hf _ _ _ 3 3 6 1 rfl (ie.of (Dec.int (t:=3) (k:=.i64) (by kernel_rfl)));have e3:[c6]=(zx .i64) a3:=e3;cases e3;obtain ⟨a4,e4,g4⟩:=hf _ _ _ 4 3 7 1 rfl (ie.of (Dec.int (t:=3) (k:=.i64) (by kernel_rfl)));have e4:[c7]=(zx .i64) a4:=e4;cases e4;obtain ⟨a5,e5,g5⟩:=hf _ _ _ 5 3 8 1 rfl (ie.of (Dec.int (t:=3) (k:=.i64) (by kernel_rfl)));have e5:[c8]=(zx .i64) a5:=e5;cases e5;obtain ⟨a6,e6,g6⟩:=hf _ _ _ 6 68 9 2 rfl (ie.of uJ);have e6:[c9,c10]=nw a6:=e6;cases e6;obtain ⟨a7,⟨v7,e7,m7⟩,g7⟩:=hf _ _ _ 7 69 11 1 rfl (ie.slice (t:=69) (e:=5) (sz:=1) (bytes:=1) (ie.of (Dec.int (t:=5) (k:=.u8) (by kernel_rfl))) (by kernel_rfl) (by kernel_rfl) (by decide) (by kernel_rfl));have e7:[c11]=[v7]:=e7;cases e7;exact ⟨⟨a0,a1,a2,a3,a4,a5,a6,a7⟩,⟨[_,_],rfl,⟨[_],[_],rfl,⟨_,rfl,m2⟩,⟨_,rfl,m7⟩⟩⟩,g0,g1,g2,g3,g4,g5,g6,g7⟩
def fH(x:jk):Prop:=(nq x.C)/\((x.RK.length*24<=reachBytes/\∀y25∈x.RK,(y25.length*128<=reachBytes/\∀y56∈y25,oJ y56)/\y25.length<=1048575)/\x.RK.length<=1048575)/\((x.Se.length*8<=reachBytes/\∀y26∈x.Se,(Lit.int .i64 y26).wf=true)/\x.Se.length<=1048575)
theorem kM:ie Tryz.prog 28 Pv.rd fH:=by
 intro H enc w base spare held fuel cs x h hw hk;obtain ⟨hl,hf⟩:=ie.parts (L:=[(24,0,5),(25,5,1),(26,6,1)]) (by kernel_rfl) (by simp) h hw hk;have hl:cs.length=7:=hl.trans (by kernel_rfl)
 match cs,hl with
 |[c0,c1,c2,c3,c4,c5,c6],_=>
 obtain ⟨a0,⟨us0,e0,q0⟩,g0⟩:=hf _ _ _ 0 24 0 5 rfl rU;obtain ⟨v0_0,rfl,m0_0⟩:=q0;have e0:[c0,c1,c2,c3,c4]=[.int .i64 a0.QM,.int .i64 a0.QP,.int .i64 a0.QY,.int .i64 a0.RJ,v0_0]:=e0;cases e0;obtain ⟨a1,⟨v1,e1,m1⟩,g1⟩:=hf _ _ _ 1 25 5 1 rfl (ie.sliceN (t:=25) (e:=56) (sz:=1) (bytes:=24) (ie.sliceN (t:=56) (e:=71) (sz:=12) (bytes:=128) Ae (by kernel_rfl) (by kernel_rfl) (by decide) (by kernel_rfl)) (by kernel_rfl) (by kernel_rfl) (by decide) (by kernel_rfl));have e1:[c5]=[v1]:=e1;cases e1;obtain ⟨a2,⟨v2,e2,m2⟩,g2⟩:=hf _ _ _ 2 26 6 1 rfl (ie.slice (t:=26) (e:=3) (sz:=1) (bytes:=8) (ie.of (Dec.int (t:=3) (k:=.i64) (by kernel_rfl))) (by kernel_rfl) (by kernel_rfl) (by decide) (by kernel_rfl));have e2:[c6]=[v2]:=e2;cases e2;exact ⟨⟨a0,a1,a2⟩,⟨[_,_,_],rfl,⟨[_],[_,_],rfl,⟨_,rfl,m0_0⟩,⟨[_],[_],rfl,⟨_,rfl,m1⟩,⟨_,rfl,m2⟩⟩⟩⟩,g0,g1,g2⟩
end Go.Proofs.YtplmgfkghomelaaGreatDoor
