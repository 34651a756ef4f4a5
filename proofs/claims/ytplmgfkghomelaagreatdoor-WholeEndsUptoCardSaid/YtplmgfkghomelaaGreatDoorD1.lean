/- Lemmas. -/
import Derived.Test.YtplmgfkghomelaaGreatDoorF1
import Derived.Test.YtplmgfkghomelaaGreatDoorEng9
set_option linter.all false
namespace Go.Proofs.YtplmgfkghomelaaGreatDoor
open Go.Sx Go.ChangeShapes Go.WideShapes Go.ChangeAt Go.RowKit
def PC:Rp (List jJ):=nL 81 (xE) 2 (λ_=>rfl) (by decide)
def Q9:Rp zG:=qK (λ(x:zG)v=>[.int .i64 x.SS,.int .i64 x.SR,.int .i64 x.Ti,.int .i64 x.TM,v.getD 0 undef]) 5 (λ_ _=>rfl) (λx=>x.Maps) (PC)
def Ra:Rp (List (List zJ)):=lx 56 BV (by decide)
def Rb:Rp qt:=qK (λ(x:qt)v=>[.int .i64 x.C.SS,.int .i64 x.C.SR,.int .i64 x.C.Ti,.int .i64 x.C.TM,v.getD 0 undef,v.getD 1 undef,v.getD 2 undef]) 7 (λ_ _=>rfl) (λx=>(x.C.Maps,(x.Tg,x.TZ))) (jn PC (jn Ra DF))
def rV(x:jJ):Prop:=((Lit.int .i64 x.SV).wf=true)/\((Lit.int .i64 x.Vg).wf=true)
theorem wj:Dec Tryz.prog 81 (λ_ _ a c=>c=xE a) rV:=by
 intro H j w base spare held f c x h l;obtain ⟨hl,d⟩:=Dec.parts (L:=[(79,0,1),(3,1,1)]) (by kernel_rfl) (by simp) h l;have hl:c.length=2:=hl.trans (by kernel_rfl)
 match c,hl with
 |[m,n],_=>
 obtain ⟨g,e,o⟩:=d _ _ _ 0 79 0 1 rfl (Dec.int (t:=79) (k:=.i64) (by kernel_rfl));have e:[m]=(zC .i64) g:=e;cases e;obtain ⟨i,b,p⟩:=d _ _ _ 1 3 1 1 rfl (Dec.int (t:=3) (k:=.i64) (by kernel_rfl));have b:[n]=(zC .i64) i:=b;cases b;exact ⟨⟨g,i⟩,rfl,o,p⟩
def oV(x:zG):Prop:=((Lit.int .i64 x.SS).wf=true)/\((Lit.int .i64 x.SR).wf=true)/\((Lit.int .i64 x.Ti).wf=true)/\((Lit.int .i64 x.TM).wf=true)/\((x.Maps.length*16<=reachBytes/\∀y∈x.Maps,rV y)/\x.Maps.length<=1048575)
theorem tK:iV Tryz.prog 24 Q9.rd oV:=by
 intro H p w base spare held i j x h q r;obtain ⟨hl,a⟩:=iV.parts (L:=[(3,0,1),(3,1,1),(3,2,1),(3,3,1),(22,4,1)]) (by kernel_rfl) (by simp) h q r;have hl:j.length=5:=hl.trans (by kernel_rfl)
 match j,hl with
 |[s,u,v,y,z],_=>
 obtain ⟨l,b,A⟩:=a _ _ _ 0 3 0 1 rfl (iV.of (Dec.int (t:=3) (k:=.i64) (by kernel_rfl)));have b:[s]=(zC .i64) l:=b;cases b;obtain ⟨m,c,B⟩:=a _ _ _ 1 3 1 1 rfl (iV.of (Dec.int (t:=3) (k:=.i64) (by kernel_rfl)));have c:[u]=(zC .i64) m:=c;cases c;obtain ⟨n,d,C⟩:=a _ _ _ 2 3 2 1 rfl (iV.of (Dec.int (t:=3) (k:=.i64) (by kernel_rfl)));have d:[v]=(zC .i64) n:=d;cases d;obtain ⟨o,f,D⟩:=a _ _ _ 3 3 3 1 rfl (iV.of (Dec.int (t:=3) (k:=.i64) (by kernel_rfl)));have f:[y]=(zC .i64) o:=f;cases f;obtain ⟨E,⟨v4,g,F⟩,G⟩:=a _ _ _ 4 22 4 1 rfl (iV.slice (t:=22) (e:=81) (sz:=2) (bytes:=16) (iV.of wj) (by kernel_rfl) (by kernel_rfl) (by decide) (by kernel_rfl));have g:[z]=[v4]:=g;cases g;exact ⟨⟨l,m,n,o,E⟩,⟨[_],rfl,⟨_,rfl,F⟩⟩,A,B,C,D,G⟩
def rl(x:zg):Prop:=((Lit.int .i64 x.TB).wf=true)/\((Lit.int .i64 x.Op).wf=true)/\((Lit.int .u64 x.TQ).wf=true)/\((Lit.int .u64 x.TL).wf=true)
theorem rW:Dec Tryz.prog 46 (λ_ _ a c=>c=qh a) rl:=by
 intro H o w base spare held i c x h p;obtain ⟨hl,b⟩:=Dec.parts (L:=[(3,0,1),(43,1,1),(44,2,1),(44,3,1)]) (by kernel_rfl) (by simp) h p;have hl:c.length=4:=hl.trans (by kernel_rfl)
 match c,hl with
 |[q,r,s,u],_=>
 obtain ⟨j,e,v⟩:=b _ _ _ 0 3 0 1 rfl (Dec.int (t:=3) (k:=.i64) (by kernel_rfl));have e:[q]=(zC .i64) j:=e;cases e;obtain ⟨l,d,y⟩:=b _ _ _ 1 43 1 1 rfl (Dec.int (t:=43) (k:=.i64) (by kernel_rfl));have d:[r]=(zC .i64) l:=d;cases d;obtain ⟨m,f,z⟩:=b _ _ _ 2 44 2 1 rfl (Dec.int (t:=44) (k:=.u64) (by kernel_rfl));have f:[s]=(zC .u64) m:=f;cases f;obtain ⟨n,g,A⟩:=b _ _ _ 3 44 3 1 rfl (Dec.int (t:=44) (k:=.u64) (by kernel_rfl));have g:[u]=(zC .u64) n:=g;cases g;exact ⟨⟨j,l,m,n⟩,rfl,v,y,z,A⟩
def tM(x:qr):Prop:=((Lit.int .u64 x.A).wf=true)/\((Lit.int .u64 x.B).wf=true)
theorem Ad:Dec Tryz.prog 68 (λ_ _ a c=>c=oY a) tM:=by
 intro H j w base spare held f c x h l;obtain ⟨hl,d⟩:=Dec.parts (L:=[(44,0,1),(44,1,1)]) (by kernel_rfl) (by simp) h l;have hl:c.length=2:=hl.trans (by kernel_rfl)
 match c,hl with
 |[m,n],_=>
 obtain ⟨g,e,o⟩:=d _ _ _ 0 44 0 1 rfl (Dec.int (t:=44) (k:=.u64) (by kernel_rfl));have e:[m]=(zC .u64) g:=e;cases e;obtain ⟨i,b,p⟩:=d _ _ _ 1 44 1 1 rfl (Dec.int (t:=44) (k:=.u64) (by kernel_rfl));have b:[n]=(zC .u64) i:=b;cases b;exact ⟨⟨g,i⟩,rfl,o,p⟩
def rm(x:zJ):Prop:=((Lit.int .i64 x.SV).wf=true)/\(rl x.Item)/\((x.Tw.length*32<=reachBytes/\∀y∈x.Tw,rl y)/\x.Tw.length<=1048575)/\((Lit.int .i64 x.TB).wf=true)/\((Lit.int .i64 x.TC).wf=true)/\((Lit.int .i64 x.TS).wf=true)/\(tM x.Tq)/\((x.Tu.length*1<=reachBytes/\∀a∈x.Tu,(Lit.int .u8 a).wf=true)/\x.Tu.length<=1048575)
theorem BM:iV Tryz.prog 71 ow.rd rm:=by
 intro H z w base spare held o p x h A B;obtain ⟨hl,a⟩:=iV.parts (L:=[(66,0,1),(46,1,4),(64,5,1),(3,6,1),(3,7,1),(3,8,1),(68,9,2),(69,11,1)]) (by kernel_rfl) (by simp) h A B;have hl:p.length=12:=hl.trans (by kernel_rfl)
 match p,hl with
 |[C,D,E,F,G,I,J,K,M,N,c,b],_=>
 obtain ⟨q,d,O⟩:=a _ _ _ 0 66 0 1 rfl (iV.of (Dec.int (t:=66) (k:=.i64) (by kernel_rfl)));have d:[C]=(zC .i64) q:=d;cases d;obtain ⟨r,f,P⟩:=a _ _ _ 1 46 1 4 rfl (iV.of rW);have f:[D,E,F,G]=qh r:=f;cases f;obtain ⟨Q,⟨R,g,S⟩,T⟩:=a _ _ _ 2 64 5 1 rfl (iV.slice (t:=64) (e:=46) (sz:=4) (bytes:=32) (iV.of rW) (by kernel_rfl) (by kernel_rfl) (by decide) (by kernel_rfl));have g:[I]=[R]:=g;cases g;obtain ⟨s,i,U⟩:=a _ _ _ 3 3 6 1 rfl (iV.of (Dec.int (t:=3) (k:=.i64) (by kernel_rfl)));have i:[J]=(zC .i64) s:=i;cases i;obtain ⟨u,j,V⟩:=a _ _ _ 4 3 7 1 rfl (iV.of (Dec.int (t:=3) (k:=.i64) (by kernel_rfl)));have j:[K]=(zC .i64) u:=j;cases j;obtain ⟨v,l,W⟩:=a _ _ _ 5 3 8 1 rfl (iV.of (Dec.int (t:=3) (k:=.i64) (by kernel_rfl)));have l:[M]=(zC .i64) v:=l;cases l;obtain ⟨y,m,X⟩:=a _ _ _ 6 68 9 2 rfl (iV.of Ad);have m:[N,c]=oY y:=m;cases m;obtain ⟨Y,⟨Z,n,m7⟩,g7⟩:=a _ _ _ 7 69 11 1 rfl (iV.slice (t:=69) (e:=5) (sz:=1) (bytes:=1) (iV.of (Dec.int (t:=5) (k:=.u8) (by kernel_rfl))) (by kernel_rfl) (by kernel_rfl) (by decide) (by kernel_rfl));have n:[b]=[Z]:=n;cases n;exact ⟨⟨q,r,Q,s,u,v,y,Y⟩,⟨[_,_],rfl,⟨[_],[_],rfl,⟨_,rfl,S⟩,⟨_,rfl,m7⟩⟩⟩,O,P,T,U,V,W,X,g7⟩
def iF(x:qt):Prop:=(oV x.C)/\((x.Tg.length*24<=reachBytes/\∀y∈x.Tg,(y.length*128<=reachBytes/\∀a∈y,rm a)/\y.length<=1048575)/\x.Tg.length<=1048575)/\((x.TZ.length*8<=reachBytes/\∀b∈x.TZ,(Lit.int .i64 b).wf=true)/\x.TZ.length<=1048575)
theorem nO:iV Tryz.prog 58 Rb.rd iF:=by
 intro H j w base spare held g i x h l n;obtain ⟨hl,b⟩:=iV.parts (L:=[(24,0,5),(25,5,1),(26,6,1)]) (by kernel_rfl) (by simp) h l n;have hl:i.length=7:=hl.trans (by kernel_rfl)
 match i,hl with
 |[o,p,q,r,s,u,y],_=>
 obtain ⟨a,⟨z,c,A⟩,B⟩:=b _ _ _ 0 24 0 5 rfl tK;obtain ⟨v,rfl,m⟩:=A;have c:[o,p,q,r,s]=[.int .i64 a.SS,.int .i64 a.SR,.int .i64 a.Ti,.int .i64 a.TM,v]:=c;cases c;obtain ⟨C,⟨v1,d,D⟩,E⟩:=b _ _ _ 1 25 5 1 rfl (iV.sliceN (t:=25) (e:=56) (sz:=1) (bytes:=24) (iV.sliceN (t:=56) (e:=71) (sz:=12) (bytes:=128) BM (by kernel_rfl) (by kernel_rfl) (by decide) (by kernel_rfl)) (by kernel_rfl) (by kernel_rfl) (by decide) (by kernel_rfl));have d:[u]=[v1]:=d;cases d;obtain ⟨F,⟨G,f,I⟩,J⟩:=b _ _ _ 2 26 6 1 rfl (iV.slice (t:=26) (e:=3) (sz:=1) (bytes:=8) (iV.of (Dec.int (t:=3) (k:=.i64) (by kernel_rfl))) (by kernel_rfl) (by kernel_rfl) (by decide) (by kernel_rfl));have f:[y]=[G]:=f;cases f;exact ⟨⟨a,C,F⟩,⟨[_,_,_],rfl,⟨[_],[_,_],rfl,⟨_,rfl,m⟩,⟨[_],[_],rfl,⟨_,rfl,D⟩,⟨_,rfl,I⟩⟩⟩⟩,B,E,J⟩
end Go.Proofs.YtplmgfkghomelaaGreatDoor
