/- Lemmas. -/
import Derived.Test.YtplmgfkghomelaaGreatDoorProg
import Derived.Test.YtplmgfkghomelaaGreatDoorF1
set_option linter.unusedVariables false
set_option linter.unusedSimpArgs false
namespace Go.Proofs.YtplmgfkghomelaaGreatDoor
open Go.Sx
def OY:Rp (List jL):=mU 81 (xe) 2 (λ_=>rfl) (by decide)
def Qw:Rp zH:=qL (λ(x:zH)vs=>[.int .i64 x.Sa,.int .i64 x.Sf,.int .i64 x.Sj,.int .i64 x.SS,vs.getD 0 undef]) 5 (λ_ _=>rfl) (λx=>x.Maps) (OY)
def Qx:Rp (List (List zK)):=kH 56 wu (by decide)
def Qy:Rp qq:=qL (λ(x:qq)vs=>[.int .i64 x.C.Sa,.int .i64 x.C.Sf,.int .i64 x.C.Sj,.int .i64 x.C.SS,vs.getD 0 undef,vs.getD 1 undef,vs.getD 2 undef]) 7 (λ_ _=>rfl) (λx=>(x.C.Maps,(x.SM,x.Tj))) (jp OY (jp Qx C4))
def pT(x:jL):Prop:=((Lit.int .i64 x.RZ).wf=true)/\((Lit.int .i64 x.Ur).wf=true)
theorem uj:Dec Tryz.prog 81 (λ_ _ a cs=>cs=xe a) pT:=by
 intro H enc w base spare held fuel cs x h hw;obtain ⟨hl,hf⟩:=Dec.parts (L:=[(79,0,1),(3,1,1)]) (by kernel_rfl) (by simp) h hw;have hl:cs.length=2:=hl.trans (by kernel_rfl)
 match cs,hl with
 |[c0,c1],_=>
 obtain ⟨a0,e0,g0⟩:=hf _ _ _ 0 79 0 1 rfl (Dec.int (t:=79) (k:=.i64) (by kernel_rfl));have e0:[c0]=(zx .i64) a0:=e0;cases e0;obtain ⟨a1,e1,g1⟩:=hf _ _ _ 1 3 1 1 rfl (Dec.int (t:=3) (k:=.i64) (by kernel_rfl));have e1:[c1]=(zx .i64) a1:=e1;cases e1;exact ⟨⟨a0,a1⟩,rfl,g0,g1⟩
def pU(x:zH):Prop:=((Lit.int .i64 x.Sa).wf=true)/\((Lit.int .i64 x.Sf).wf=true)/\((Lit.int .i64 x.Sj).wf=true)/\((Lit.int .i64 x.SS).wf=true)/\(x.Maps.length*16<=reachBytes/\∀y22∈x.Maps,pT y22)
theorem uk:Dec Tryz.prog 24 Qw.rd pU:=by
 intro H enc w base spare held fuel cs x h hw;obtain ⟨hl,hf⟩:=Dec.parts (L:=[(3,0,1),(3,1,1),(3,2,1),(3,3,1),(22,4,1)]) (by kernel_rfl) (by simp) h hw;have hl:cs.length=5:=hl.trans (by kernel_rfl)
 match cs,hl with
 |[c0,c1,c2,c3,c4],_=>
 obtain ⟨a0,e0,g0⟩:=hf _ _ _ 0 3 0 1 rfl (Dec.int (t:=3) (k:=.i64) (by kernel_rfl));have e0:[c0]=(zx .i64) a0:=e0;cases e0;obtain ⟨a1,e1,g1⟩:=hf _ _ _ 1 3 1 1 rfl (Dec.int (t:=3) (k:=.i64) (by kernel_rfl));have e1:[c1]=(zx .i64) a1:=e1;cases e1;obtain ⟨a2,e2,g2⟩:=hf _ _ _ 2 3 2 1 rfl (Dec.int (t:=3) (k:=.i64) (by kernel_rfl));have e2:[c2]=(zx .i64) a2:=e2;cases e2;obtain ⟨a3,e3,g3⟩:=hf _ _ _ 3 3 3 1 rfl (Dec.int (t:=3) (k:=.i64) (by kernel_rfl));have e3:[c3]=(zx .i64) a3:=e3;cases e3;obtain ⟨a4,⟨v4,e4,m4⟩,g4⟩:=hf _ _ _ 4 22 4 1 rfl (Dec.slice (t:=22) (e:=81) (sz:=2) (bytes:=16) uj (by kernel_rfl) (by kernel_rfl) (by decide) (by kernel_rfl));have e4:[c4]=[v4]:=e4;cases e4;exact ⟨⟨a0,a1,a2,a3,a4⟩,⟨[_],rfl,⟨_,rfl,m4⟩⟩,g0,g1,g2,g3,g4⟩
def pj(x:zg):Prop:=((Lit.int .i64 x.SO).wf=true)/\((Lit.int .i64 x.Op).wf=true)/\((Lit.int .u64 x.Tc).wf=true)/\((Lit.int .u64 x.SV).wf=true)
theorem pV:Dec Tryz.prog 46 (λ_ _ a cs=>cs=qj a) pj:=by
 intro H enc w base spare held fuel cs x h hw;obtain ⟨hl,hf⟩:=Dec.parts (L:=[(3,0,1),(43,1,1),(44,2,1),(44,3,1)]) (by kernel_rfl) (by simp) h hw;have hl:cs.length=4:=hl.trans (by kernel_rfl)
 match cs,hl with
 |[c0,c1,c2,c3],_=>
 obtain ⟨a0,e0,g0⟩:=hf _ _ _ 0 3 0 1 rfl (Dec.int (t:=3) (k:=.i64) (by kernel_rfl));have e0:[c0]=(zx .i64) a0:=e0;cases e0;obtain ⟨a1,e1,g1⟩:=hf _ _ _ 1 43 1 1 rfl (Dec.int (t:=43) (k:=.i64) (by kernel_rfl));have e1:[c1]=(zx .i64) a1:=e1;cases e1;obtain ⟨a2,e2,g2⟩:=hf _ _ _ 2 44 2 1 rfl (Dec.int (t:=44) (k:=.u64) (by kernel_rfl));have e2:[c2]=(zx .u64) a2:=e2;cases e2;obtain ⟨a3,e3,g3⟩:=hf _ _ _ 3 44 3 1 rfl (Dec.int (t:=44) (k:=.u64) (by kernel_rfl));have e3:[c3]=(zx .u64) a3:=e3;cases e3;exact ⟨⟨a0,a1,a2,a3⟩,rfl,g0,g1,g2,g3⟩
def sE(x:qv):Prop:=((Lit.int .u64 x.A).wf=true)/\((Lit.int .u64 x.B).wf=true)
theorem wl:Dec Tryz.prog 68 (λ_ _ a cs=>cs=ol a) sE:=by
 intro H enc w base spare held fuel cs x h hw;obtain ⟨hl,hf⟩:=Dec.parts (L:=[(44,0,1),(44,1,1)]) (by kernel_rfl) (by simp) h hw;have hl:cs.length=2:=hl.trans (by kernel_rfl)
 match cs,hl with
 |[c0,c1],_=>
 obtain ⟨a0,e0,g0⟩:=hf _ _ _ 0 44 0 1 rfl (Dec.int (t:=44) (k:=.u64) (by kernel_rfl));have e0:[c0]=(zx .u64) a0:=e0;cases e0;obtain ⟨a1,e1,g1⟩:=hf _ _ _ 1 44 1 1 rfl (Dec.int (t:=44) (k:=.u64) (by kernel_rfl));have e1:[c1]=(zx .u64) a1:=e1;cases e1;exact ⟨⟨a0,a1⟩,rfl,g0,g1⟩
def sF(x:zK):Prop:=((Lit.int .i64 x.RZ).wf=true)/\(pj x.Item)/\(x.SI.length*32<=reachBytes/\∀y64∈x.SI,pj y64)/\((Lit.int .i64 x.SO).wf=true)/\((Lit.int .i64 x.SJ).wf=true)/\((Lit.int .i64 x.Tf).wf=true)/\(sE x.Sz)/\(x.SC.length*1<=reachBytes/\∀y69∈x.SC,(Lit.int .u8 y69).wf=true)
theorem CX:Dec Tryz.prog 71 nD.rd sF:=by
 intro H enc w base spare held fuel cs x h hw;obtain ⟨hl,hf⟩:=Dec.parts (L:=[(66,0,1),(46,1,4),(64,5,1),(3,6,1),(3,7,1),(3,8,1),(68,9,2),(69,11,1)]) (by kernel_rfl) (by simp) h hw;have hl:cs.length=12:=hl.trans (by kernel_rfl)
 match cs,hl with
 |[c0,c1,c2,c3,c4,c5,c6,c7,c8,c9,c10,c11],_=>
 obtain ⟨a0,e0,g0⟩:=hf _ _ _ 0 66 0 1 rfl (Dec.int (t:=66) (k:=.i64) (by kernel_rfl));have e0:[c0]=(zx .i64) a0:=e0;cases e0;obtain ⟨a1,e1,g1⟩:=hf _ _ _ 1 46 1 4 rfl pV;have e1:[c1,c2,c3,c4]=qj a1:=e1;cases e1;obtain ⟨a2,⟨v2,e2,m2⟩,g2⟩:=hf _ _ _ 2 64 5 1 rfl (Dec.slice (t:=64) (e:=46) (sz:=4) (bytes:=32) pV (by kernel_rfl) (by kernel_rfl) (by decide) (by kernel_rfl));have e2:[c5]=[v2]:=e2;cases e2;obtain ⟨a3,e3,g3⟩:=hf _ _ _ 3 3 6 1 rfl (Dec.int (t:=3) (k:=.i64) (by kernel_rfl));have e3:[c6]=(zx .i64) a3:=e3;cases e3;obtain ⟨a4,e4,g4⟩:=hf _ _ _ 4 3 7 1 rfl (Dec.int (t:=3) (k:=.i64) (by kernel_rfl));have e4:[c7]=(zx .i64) a4:=e4;cases e4;obtain ⟨a5,e5,g5⟩:=hf _ _ _ 5 3 8 1 rfl (Dec.int (t:=3) (k:=.i64) (by kernel_rfl));have e5:[c8]=(zx .i64) a5:=e5;cases e5;obtain ⟨a6,e6,g6⟩:=hf _ _ _ 6 68 9 2 rfl wl;have e6:[c9,c10]=ol a6:=e6;cases e6;obtain ⟨a7,⟨v7,e7,m7⟩,g7⟩:=hf _ _ _ 7 69 11 1 rfl (Dec.slice (t:=69) (e:=5) (sz:=1) (bytes:=1) (Dec.int (t:=5) (k:=.u8) (by kernel_rfl)) (by kernel_rfl) (by kernel_rfl) (by decide) (by kernel_rfl));have e7:[c11]=[v7]:=e7;cases e7;exact ⟨⟨a0,a1,a2,a3,a4,a5,a6,a7⟩,⟨[_,_],rfl,⟨[_],[_],rfl,⟨_,rfl,m2⟩,⟨_,rfl,m7⟩⟩⟩,g0,g1,g2,g3,g4,g5,g6,g7⟩
def iV(x:qq):Prop:=(pU x.C)/\(x.SM.length*24<=reachBytes/\∀y25∈x.SM,y25.length*128<=reachBytes/\∀y56∈y25,sF y56)/\(x.Tj.length*8<=reachBytes/\∀y26∈x.Tj,(Lit.int .i64 y26).wf=true)
theorem nC:Dec Tryz.prog 58 Qy.rd iV:=by
 intro H enc w base spare held fuel cs x h hw;obtain ⟨hl,hf⟩:=Dec.parts (L:=[(24,0,5),(25,5,1),(26,6,1)]) (by kernel_rfl) (by simp) h hw;have hl:cs.length=7:=hl.trans (by kernel_rfl)
 match cs,hl with
 |[c0,c1,c2,c3,c4,c5,c6],_=>
 obtain ⟨a0,⟨us0,e0,q0⟩,g0⟩:=hf _ _ _ 0 24 0 5 rfl uk;obtain ⟨v0_0,rfl,m0_0⟩:=q0;have e0:[c0,c1,c2,c3,c4]=[.int .i64 a0.Sa,.int .i64 a0.Sf,.int .i64 a0.Sj,.int .i64 a0.SS,v0_0]:=e0;cases e0;obtain ⟨a1,⟨v1,e1,m1⟩,g1⟩:=hf _ _ _ 1 25 5 1 rfl (Dec.sliceN (t:=25) (e:=56) (sz:=1) (bytes:=24) (Dec.sliceN (t:=56) (e:=71) (sz:=12) (bytes:=128) CX (by kernel_rfl) (by kernel_rfl) (by decide) (by kernel_rfl)) (by kernel_rfl) (by kernel_rfl) (by decide) (by kernel_rfl));have e1:[c5]=[v1]:=e1;cases e1;obtain ⟨a2,⟨v2,e2,m2⟩,g2⟩:=hf _ _ _ 2 26 6 1 rfl (Dec.slice (t:=26) (e:=3) (sz:=1) (bytes:=8) (Dec.int (t:=3) (k:=.i64) (by kernel_rfl)) (by kernel_rfl) (by kernel_rfl) (by decide) (by kernel_rfl));have e2:[c6]=[v2]:=e2;cases e2;exact ⟨⟨a0,a1,a2⟩,⟨[_,_,_],rfl,⟨[_],[_,_],rfl,⟨_,rfl,m0_0⟩,⟨[_],[_],rfl,⟨_,rfl,m1⟩,⟨_,rfl,m2⟩⟩⟩⟩,g0,g1,g2⟩
end Go.Proofs.YtplmgfkghomelaaGreatDoor
