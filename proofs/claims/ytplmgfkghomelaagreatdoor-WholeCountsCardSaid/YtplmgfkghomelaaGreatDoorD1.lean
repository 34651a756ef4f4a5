/- Lemmas. -/
import Derived.Test.YtplmgfkghomelaaGreatDoorProg
import Derived.Test.YtplmgfkghomelaaGreatDoorF1
set_option linter.all false
namespace Go.Proofs.YtplmgfkghomelaaGreatDoor
open Go.Sx
def Pm:Rp (List jL):=nt 81 (xB) 2 (λ_=>rfl) (by decide)
def QQ:Rp zH:=qO (λ(x:zH)v=>[.int .i64 x.Sl,.int .i64 x.Sw,.int .i64 x.SA,.int .i64 x.Td,v.getD 0 undef]) 5 (λ_ _=>rfl) (λx=>x.Maps) (Pm)
def QR:Rp (List (List zO)):=kS 56 BE (by decide)
def QS:Rp qZ:=qO (λ(x:qZ)v=>[.int .i64 x.C.Sl,.int .i64 x.C.Sw,.int .i64 x.C.SA,.int .i64 x.C.Td,v.getD 0 undef,v.getD 1 undef,v.getD 2 undef]) 7 (λ_ _=>rfl) (λx=>(x.C.Maps,(x.Tl,x.Th))) (jq Pm (jq QR kY))
def rG(x:jL):Prop:=((Lit.int .i64 x.Sm).wf=true)/\((Lit.int .i64 x.UC).wf=true)
theorem uO:Dec Tryz.prog 81 (λ_ _ a c=>c=xB a) rG:=by
 intro H j w base spare held f c x h l;obtain ⟨hl,d⟩:=Dec.parts (L:=[(79,0,1),(3,1,1)]) (by kernel_rfl) (by simp) h l;have hl:c.length=2:=hl.trans (by kernel_rfl)
 match c,hl with
 |[m,n],_=>
 obtain ⟨g,e,o⟩:=d _ _ _ 0 79 0 1 rfl (Dec.int (t:=79) (k:=.i64) (by kernel_rfl));have e:[m]=(zy .i64) g:=e;cases e;obtain ⟨i,b,p⟩:=d _ _ _ 1 3 1 1 rfl (Dec.int (t:=3) (k:=.i64) (by kernel_rfl));have b:[n]=(zy .i64) i:=b;cases b;exact ⟨⟨g,i⟩,rfl,o,p⟩
def rH(x:zH):Prop:=((Lit.int .i64 x.Sl).wf=true)/\((Lit.int .i64 x.Sw).wf=true)/\((Lit.int .i64 x.SA).wf=true)/\((Lit.int .i64 x.Td).wf=true)/\(x.Maps.length*16<=reachBytes/\∀y∈x.Maps,rG y)
theorem uP:Dec Tryz.prog 24 QQ.rd rH:=by
 intro H p w base spare held i j x h q;obtain ⟨hl,a⟩:=Dec.parts (L:=[(3,0,1),(3,1,1),(3,2,1),(3,3,1),(22,4,1)]) (by kernel_rfl) (by simp) h q;have hl:j.length=5:=hl.trans (by kernel_rfl)
 match j,hl with
 |[r,s,u,v,y],_=>
 obtain ⟨l,b,z⟩:=a _ _ _ 0 3 0 1 rfl (Dec.int (t:=3) (k:=.i64) (by kernel_rfl));have b:[r]=(zy .i64) l:=b;cases b;obtain ⟨m,c,A⟩:=a _ _ _ 1 3 1 1 rfl (Dec.int (t:=3) (k:=.i64) (by kernel_rfl));have c:[s]=(zy .i64) m:=c;cases c;obtain ⟨n,d,B⟩:=a _ _ _ 2 3 2 1 rfl (Dec.int (t:=3) (k:=.i64) (by kernel_rfl));have d:[u]=(zy .i64) n:=d;cases d;obtain ⟨o,f,C⟩:=a _ _ _ 3 3 3 1 rfl (Dec.int (t:=3) (k:=.i64) (by kernel_rfl));have f:[v]=(zy .i64) o:=f;cases f;obtain ⟨D,⟨v4,g,E⟩,F⟩:=a _ _ _ 4 22 4 1 rfl (Dec.slice (t:=22) (e:=81) (sz:=2) (bytes:=16) uO (by kernel_rfl) (by kernel_rfl) (by decide) (by kernel_rfl));have g:[y]=[v4]:=g;cases g;exact ⟨⟨l,m,n,o,D⟩,⟨[_],rfl,⟨_,rfl,E⟩⟩,z,A,B,C,F⟩
def pP(x:zg):Prop:=((Lit.int .i64 x.Tc).wf=true)/\((Lit.int .i64 x.Op).wf=true)/\((Lit.int .u64 x.Ts).wf=true)/\((Lit.int .u64 x.Tp).wf=true)
theorem rJ:Dec Tryz.prog 46 (λ_ _ a c=>c=qh a) pP:=by
 intro H o w base spare held i c x h p;obtain ⟨hl,b⟩:=Dec.parts (L:=[(3,0,1),(43,1,1),(44,2,1),(44,3,1)]) (by kernel_rfl) (by simp) h p;have hl:c.length=4:=hl.trans (by kernel_rfl)
 match c,hl with
 |[q,r,s,u],_=>
 obtain ⟨j,e,v⟩:=b _ _ _ 0 3 0 1 rfl (Dec.int (t:=3) (k:=.i64) (by kernel_rfl));have e:[q]=(zy .i64) j:=e;cases e;obtain ⟨l,d,y⟩:=b _ _ _ 1 43 1 1 rfl (Dec.int (t:=43) (k:=.i64) (by kernel_rfl));have d:[r]=(zy .i64) l:=d;cases d;obtain ⟨m,f,z⟩:=b _ _ _ 2 44 2 1 rfl (Dec.int (t:=44) (k:=.u64) (by kernel_rfl));have f:[s]=(zy .u64) m:=f;cases f;obtain ⟨n,g,A⟩:=b _ _ _ 3 44 3 1 rfl (Dec.int (t:=44) (k:=.u64) (by kernel_rfl));have g:[u]=(zy .u64) n:=g;cases g;exact ⟨⟨j,l,m,n⟩,rfl,v,y,z,A⟩
def sZ(x:qt):Prop:=((Lit.int .u64 x.A).wf=true)/\((Lit.int .u64 x.B).wf=true)
theorem wU:Dec Tryz.prog 68 (λ_ _ a c=>c=oJ a) sZ:=by
 intro H j w base spare held f c x h l;obtain ⟨hl,d⟩:=Dec.parts (L:=[(44,0,1),(44,1,1)]) (by kernel_rfl) (by simp) h l;have hl:c.length=2:=hl.trans (by kernel_rfl)
 match c,hl with
 |[m,n],_=>
 obtain ⟨g,e,o⟩:=d _ _ _ 0 44 0 1 rfl (Dec.int (t:=44) (k:=.u64) (by kernel_rfl));have e:[m]=(zy .u64) g:=e;cases e;obtain ⟨i,b,p⟩:=d _ _ _ 1 44 1 1 rfl (Dec.int (t:=44) (k:=.u64) (by kernel_rfl));have b:[n]=(zy .u64) i:=b;cases b;exact ⟨⟨g,i⟩,rfl,o,p⟩
def ta(x:zO):Prop:=((Lit.int .i64 x.Sm).wf=true)/\(pP x.Item)/\(x.SV.length*32<=reachBytes/\∀y∈x.SV,pP y)/\((Lit.int .i64 x.Tc).wf=true)/\((Lit.int .i64 x.SS).wf=true)/\((Lit.int .i64 x.Tu).wf=true)/\(sZ x.SK)/\(x.SM.length*1<=reachBytes/\∀a∈x.SM,(Lit.int .u8 a).wf=true)
theorem Dk:Dec Tryz.prog 71 nW.rd ta:=by
 intro H z w base spare held o p x h A;obtain ⟨hl,a⟩:=Dec.parts (L:=[(66,0,1),(46,1,4),(64,5,1),(3,6,1),(3,7,1),(3,8,1),(68,9,2),(69,11,1)]) (by kernel_rfl) (by simp) h A;have hl:p.length=12:=hl.trans (by kernel_rfl)
 match p,hl with
 |[B,C,D,E,F,G,I,J,K,M,c,b],_=>
 obtain ⟨q,d,N⟩:=a _ _ _ 0 66 0 1 rfl (Dec.int (t:=66) (k:=.i64) (by kernel_rfl));have d:[B]=(zy .i64) q:=d;cases d;obtain ⟨r,f,O⟩:=a _ _ _ 1 46 1 4 rfl rJ;have f:[C,D,E,F]=qh r:=f;cases f;obtain ⟨P,⟨Q,g,R⟩,S⟩:=a _ _ _ 2 64 5 1 rfl (Dec.slice (t:=64) (e:=46) (sz:=4) (bytes:=32) rJ (by kernel_rfl) (by kernel_rfl) (by decide) (by kernel_rfl));have g:[G]=[Q]:=g;cases g;obtain ⟨s,i,T⟩:=a _ _ _ 3 3 6 1 rfl (Dec.int (t:=3) (k:=.i64) (by kernel_rfl));have i:[I]=(zy .i64) s:=i;cases i;obtain ⟨u,j,U⟩:=a _ _ _ 4 3 7 1 rfl (Dec.int (t:=3) (k:=.i64) (by kernel_rfl));have j:[J]=(zy .i64) u:=j;cases j;obtain ⟨v,l,V⟩:=a _ _ _ 5 3 8 1 rfl (Dec.int (t:=3) (k:=.i64) (by kernel_rfl));have l:[K]=(zy .i64) v:=l;cases l;obtain ⟨y,m,W⟩:=a _ _ _ 6 68 9 2 rfl wU;have m:[M,c]=oJ y:=m;cases m;obtain ⟨X,⟨Y,n,Z⟩,g7⟩:=a _ _ _ 7 69 11 1 rfl (Dec.slice (t:=69) (e:=5) (sz:=1) (bytes:=1) (Dec.int (t:=5) (k:=.u8) (by kernel_rfl)) (by kernel_rfl) (by kernel_rfl) (by decide) (by kernel_rfl));have n:[b]=[Y]:=n;cases n;exact ⟨⟨q,r,P,s,u,v,y,X⟩,⟨[_,_],rfl,⟨[_],[_],rfl,⟨_,rfl,R⟩,⟨_,rfl,Z⟩⟩⟩,N,O,S,T,U,V,W,g7⟩
def ki(x:qZ):Prop:=(rH x.C)/\(x.Tl.length*24<=reachBytes/\∀y∈x.Tl,y.length*128<=reachBytes/\∀a∈y,ta a)/\(x.Th.length*8<=reachBytes/\∀b∈x.Th,(Lit.int .i64 b).wf=true)
theorem nV:Dec Tryz.prog 58 QS.rd ki:=by
 intro H j w base spare held g i x h l;obtain ⟨hl,b⟩:=Dec.parts (L:=[(24,0,5),(25,5,1),(26,6,1)]) (by kernel_rfl) (by simp) h l;have hl:i.length=7:=hl.trans (by kernel_rfl)
 match i,hl with
 |[n,o,p,q,r,s,u],_=>
 obtain ⟨a,⟨y,c,z⟩,A⟩:=b _ _ _ 0 24 0 5 rfl uP;obtain ⟨v,rfl,m⟩:=z;have c:[n,o,p,q,r]=[.int .i64 a.Sl,.int .i64 a.Sw,.int .i64 a.SA,.int .i64 a.Td,v]:=c;cases c;obtain ⟨B,⟨v1,d,C⟩,D⟩:=b _ _ _ 1 25 5 1 rfl (Dec.sliceN (t:=25) (e:=56) (sz:=1) (bytes:=24) (Dec.sliceN (t:=56) (e:=71) (sz:=12) (bytes:=128) Dk (by kernel_rfl) (by kernel_rfl) (by decide) (by kernel_rfl)) (by kernel_rfl) (by kernel_rfl) (by decide) (by kernel_rfl));have d:[s]=[v1]:=d;cases d;obtain ⟨E,⟨F,f,G⟩,I⟩:=b _ _ _ 2 26 6 1 rfl (Dec.slice (t:=26) (e:=3) (sz:=1) (bytes:=8) (Dec.int (t:=3) (k:=.i64) (by kernel_rfl)) (by kernel_rfl) (by kernel_rfl) (by decide) (by kernel_rfl));have f:[u]=[F]:=f;cases f;exact ⟨⟨a,B,E⟩,⟨[_,_,_],rfl,⟨[_],[_,_],rfl,⟨_,rfl,m⟩,⟨[_],[_],rfl,⟨_,rfl,C⟩,⟨_,rfl,G⟩⟩⟩⟩,A,D,I⟩
end Go.Proofs.YtplmgfkghomelaaGreatDoor
