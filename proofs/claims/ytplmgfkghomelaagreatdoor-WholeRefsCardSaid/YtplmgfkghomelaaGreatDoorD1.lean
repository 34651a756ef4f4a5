/- Lemmas. -/
import Derived.Test.YtplmgfkghomelaaGreatDoorProg
import Derived.Test.YtplmgfkghomelaaGreatDoorF1
set_option linter.all false
namespace Go.Proofs.YtplmgfkghomelaaGreatDoor
open Go.Sx
def Ql:Rp (List jM):=nF 81 (xj) 2 (λ_=>rfl) (by decide)
def R4:Rp zH:=qv (λ(x:zH)v=>[.int .i64 x.Uc,.int .i64 x.Ui,.int .i64 x.Up,.int .i64 x.UT,v.getD 0 undef]) 5 (λ_ _=>rfl) (λx=>x.Maps) (Ql)
def R5:Rp (List (List zF)):=lO 56 Au (by decide)
def R6:Rp qw:=qv (λ(x:qw)v=>[.int .i64 x.C.Uc,.int .i64 x.C.Ui,.int .i64 x.C.Up,.int .i64 x.C.UT,v.getD 0 undef,v.getD 1 undef,v.getD 2 undef]) 7 (λ_ _=>rfl) (λx=>(x.C.Maps,(x.UG,x.Vg))) (jo Ql (jo R5 B6))
def sJ(x:jM):Prop:=((Lit.int .i64 x.TY).wf=true)/\((Lit.int .i64 x.Wo).wf=true)
theorem wx:Dec Tryz.prog 81 (λ_ _ a c=>c=xj a) sJ:=by
 intro H j w base spare held f c x h l;obtain ⟨hl,d⟩:=Dec.parts (L:=[(79,0,1),(3,1,1)]) (by kernel_rfl) (by simp) h l;have hl:c.length=2:=hl.trans (by kernel_rfl)
 match c,hl with
 |[m,n],_=>
 obtain ⟨g,e,o⟩:=d _ _ _ 0 79 0 1 rfl (Dec.int (t:=79) (k:=.i64) (by kernel_rfl));have e:[m]=(zu .i64) g:=e;cases e;obtain ⟨i,b,p⟩:=d _ _ _ 1 3 1 1 rfl (Dec.int (t:=3) (k:=.i64) (by kernel_rfl));have b:[n]=(zu .i64) i:=b;cases b;exact ⟨⟨g,i⟩,rfl,o,p⟩
def sK(x:zH):Prop:=((Lit.int .i64 x.Uc).wf=true)/\((Lit.int .i64 x.Ui).wf=true)/\((Lit.int .i64 x.Up).wf=true)/\((Lit.int .i64 x.UT).wf=true)/\(x.Maps.length*16<=reachBytes/\∀y∈x.Maps,sJ y)
theorem wy:Dec Tryz.prog 24 R4.rd sK:=by
 intro H p w base spare held i j x h q;obtain ⟨hl,a⟩:=Dec.parts (L:=[(3,0,1),(3,1,1),(3,2,1),(3,3,1),(22,4,1)]) (by kernel_rfl) (by simp) h q;have hl:j.length=5:=hl.trans (by kernel_rfl)
 match j,hl with
 |[r,s,u,v,y],_=>
 obtain ⟨l,b,z⟩:=a _ _ _ 0 3 0 1 rfl (Dec.int (t:=3) (k:=.i64) (by kernel_rfl));have b:[r]=(zu .i64) l:=b;cases b;obtain ⟨m,c,A⟩:=a _ _ _ 1 3 1 1 rfl (Dec.int (t:=3) (k:=.i64) (by kernel_rfl));have c:[s]=(zu .i64) m:=c;cases c;obtain ⟨n,d,B⟩:=a _ _ _ 2 3 2 1 rfl (Dec.int (t:=3) (k:=.i64) (by kernel_rfl));have d:[u]=(zu .i64) n:=d;cases d;obtain ⟨o,f,C⟩:=a _ _ _ 3 3 3 1 rfl (Dec.int (t:=3) (k:=.i64) (by kernel_rfl));have f:[v]=(zu .i64) o:=f;cases f;obtain ⟨D,⟨v4,g,E⟩,F⟩:=a _ _ _ 4 22 4 1 rfl (Dec.slice (t:=22) (e:=81) (sz:=2) (bytes:=16) wx (by kernel_rfl) (by kernel_rfl) (by decide) (by kernel_rfl));have g:[y]=[v4]:=g;cases g;exact ⟨⟨l,m,n,o,D⟩,⟨[_],rfl,⟨_,rfl,E⟩⟩,z,A,B,C,F⟩
def rN(x:zg):Prop:=((Lit.int .i64 x.UI).wf=true)/\((Lit.int .i64 x.Op).wf=true)/\((Lit.int .u64 x.UV).wf=true)/\((Lit.int .u64 x.UQ).wf=true)
theorem sL:Dec Tryz.prog 46 (λ_ _ a c=>c=qh a) rN:=by
 intro H o w base spare held i c x h p;obtain ⟨hl,b⟩:=Dec.parts (L:=[(3,0,1),(43,1,1),(44,2,1),(44,3,1)]) (by kernel_rfl) (by simp) h p;have hl:c.length=4:=hl.trans (by kernel_rfl)
 match c,hl with
 |[q,r,s,u],_=>
 obtain ⟨j,e,v⟩:=b _ _ _ 0 3 0 1 rfl (Dec.int (t:=3) (k:=.i64) (by kernel_rfl));have e:[q]=(zu .i64) j:=e;cases e;obtain ⟨l,d,y⟩:=b _ _ _ 1 43 1 1 rfl (Dec.int (t:=43) (k:=.i64) (by kernel_rfl));have d:[r]=(zu .i64) l:=d;cases d;obtain ⟨m,f,z⟩:=b _ _ _ 2 44 2 1 rfl (Dec.int (t:=44) (k:=.u64) (by kernel_rfl));have f:[s]=(zu .u64) m:=f;cases f;obtain ⟨n,g,A⟩:=b _ _ _ 3 44 3 1 rfl (Dec.int (t:=44) (k:=.u64) (by kernel_rfl));have g:[u]=(zu .u64) n:=g;cases g;exact ⟨⟨j,l,m,n⟩,rfl,v,y,z,A⟩
def tY(x:qr):Prop:=((Lit.int .u64 x.A).wf=true)/\((Lit.int .u64 x.B).wf=true)
theorem An:Dec Tryz.prog 68 (λ_ _ a c=>c=pz a) tY:=by
 intro H j w base spare held f c x h l;obtain ⟨hl,d⟩:=Dec.parts (L:=[(44,0,1),(44,1,1)]) (by kernel_rfl) (by simp) h l;have hl:c.length=2:=hl.trans (by kernel_rfl)
 match c,hl with
 |[m,n],_=>
 obtain ⟨g,e,o⟩:=d _ _ _ 0 44 0 1 rfl (Dec.int (t:=44) (k:=.u64) (by kernel_rfl));have e:[m]=(zu .u64) g:=e;cases e;obtain ⟨i,b,p⟩:=d _ _ _ 1 44 1 1 rfl (Dec.int (t:=44) (k:=.u64) (by kernel_rfl));have b:[n]=(zu .u64) i:=b;cases b;exact ⟨⟨g,i⟩,rfl,o,p⟩
def ua(x:zF):Prop:=((Lit.int .i64 x.TY).wf=true)/\(rN x.Item)/\(x.UC.length*32<=reachBytes/\∀y∈x.UC,rN y)/\((Lit.int .i64 x.UI).wf=true)/\((Lit.int .i64 x.UF).wf=true)/\((Lit.int .i64 x.UA).wf=true)/\(tY x.Uv)/\(x.Uq.length*1<=reachBytes/\∀a∈x.Uq,(Lit.int .u8 a).wf=true)
theorem DV:Dec Tryz.prog 71 oL.rd ua:=by
 intro H z w base spare held o p x h A;obtain ⟨hl,a⟩:=Dec.parts (L:=[(66,0,1),(46,1,4),(64,5,1),(3,6,1),(3,7,1),(3,8,1),(68,9,2),(69,11,1)]) (by kernel_rfl) (by simp) h A;have hl:p.length=12:=hl.trans (by kernel_rfl)
 match p,hl with
 |[B,C,D,E,F,G,I,J,K,M,c,b],_=>
 obtain ⟨q,d,N⟩:=a _ _ _ 0 66 0 1 rfl (Dec.int (t:=66) (k:=.i64) (by kernel_rfl));have d:[B]=(zu .i64) q:=d;cases d;obtain ⟨r,f,O⟩:=a _ _ _ 1 46 1 4 rfl sL;have f:[C,D,E,F]=qh r:=f;cases f;obtain ⟨P,⟨Q,g,R⟩,S⟩:=a _ _ _ 2 64 5 1 rfl (Dec.slice (t:=64) (e:=46) (sz:=4) (bytes:=32) sL (by kernel_rfl) (by kernel_rfl) (by decide) (by kernel_rfl));have g:[G]=[Q]:=g;cases g;obtain ⟨s,i,T⟩:=a _ _ _ 3 3 6 1 rfl (Dec.int (t:=3) (k:=.i64) (by kernel_rfl));have i:[I]=(zu .i64) s:=i;cases i;obtain ⟨u,j,U⟩:=a _ _ _ 4 3 7 1 rfl (Dec.int (t:=3) (k:=.i64) (by kernel_rfl));have j:[J]=(zu .i64) u:=j;cases j;obtain ⟨v,l,V⟩:=a _ _ _ 5 3 8 1 rfl (Dec.int (t:=3) (k:=.i64) (by kernel_rfl));have l:[K]=(zu .i64) v:=l;cases l;obtain ⟨y,m,W⟩:=a _ _ _ 6 68 9 2 rfl An;have m:[M,c]=pz y:=m;cases m;obtain ⟨X,⟨Y,n,Z⟩,g7⟩:=a _ _ _ 7 69 11 1 rfl (Dec.slice (t:=69) (e:=5) (sz:=1) (bytes:=1) (Dec.int (t:=5) (k:=.u8) (by kernel_rfl)) (by kernel_rfl) (by kernel_rfl) (by decide) (by kernel_rfl));have n:[b]=[Y]:=n;cases n;exact ⟨⟨q,r,P,s,u,v,y,X⟩,⟨[_,_],rfl,⟨[_],[_],rfl,⟨_,rfl,R⟩,⟨_,rfl,Z⟩⟩⟩,N,O,S,T,U,V,W,g7⟩
def kT(x:qw):Prop:=(sK x.C)/\(x.UG.length*24<=reachBytes/\∀y∈x.UG,y.length*128<=reachBytes/\∀a∈y,ua a)/\(x.Vg.length*8<=reachBytes/\∀b∈x.Vg,(Lit.int .i64 b).wf=true)
theorem oK:Dec Tryz.prog 58 R6.rd kT:=by
 intro H j w base spare held g i x h l;obtain ⟨hl,b⟩:=Dec.parts (L:=[(24,0,5),(25,5,1),(26,6,1)]) (by kernel_rfl) (by simp) h l;have hl:i.length=7:=hl.trans (by kernel_rfl)
 match i,hl with
 |[n,o,p,q,r,s,u],_=>
 obtain ⟨a,⟨y,c,z⟩,A⟩:=b _ _ _ 0 24 0 5 rfl wy;obtain ⟨v,rfl,m⟩:=z;have c:[n,o,p,q,r]=[.int .i64 a.Uc,.int .i64 a.Ui,.int .i64 a.Up,.int .i64 a.UT,v]:=c;cases c;obtain ⟨B,⟨v1,d,C⟩,D⟩:=b _ _ _ 1 25 5 1 rfl (Dec.sliceN (t:=25) (e:=56) (sz:=1) (bytes:=24) (Dec.sliceN (t:=56) (e:=71) (sz:=12) (bytes:=128) DV (by kernel_rfl) (by kernel_rfl) (by decide) (by kernel_rfl)) (by kernel_rfl) (by kernel_rfl) (by decide) (by kernel_rfl));have d:[s]=[v1]:=d;cases d;obtain ⟨E,⟨F,f,G⟩,I⟩:=b _ _ _ 2 26 6 1 rfl (Dec.slice (t:=26) (e:=3) (sz:=1) (bytes:=8) (Dec.int (t:=3) (k:=.i64) (by kernel_rfl)) (by kernel_rfl) (by kernel_rfl) (by decide) (by kernel_rfl));have f:[u]=[F]:=f;cases f;exact ⟨⟨a,B,E⟩,⟨[_,_,_],rfl,⟨[_],[_,_],rfl,⟨_,rfl,m⟩,⟨[_],[_],rfl,⟨_,rfl,C⟩,⟨_,rfl,G⟩⟩⟩⟩,A,D,I⟩
end Go.Proofs.YtplmgfkghomelaaGreatDoor
