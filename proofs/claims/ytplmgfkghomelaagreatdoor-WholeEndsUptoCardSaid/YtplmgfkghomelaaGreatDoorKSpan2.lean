/- Lemmas. -/
import Derived.Test.YtplmgfkghomelaaGreatDoorKOps
set_option linter.all false
namespace Go.Proofs.YtplmgfkghomelaaGreatDoor
open Go.Sx
variable {i:zf}{a e f:zh}{n q y:Nat}{j j' c:zj}{m:zE}{α:Type}{xs:List α}{code:List zf}{x z:Nat->zi}{d:Int}{o r:zi}{h:Bool}{v:α}{l:List Int}{Q:(zj⊕((Option zj)×Int×Int))->Prop}
theorem SW.full:SW ⟨0,18446744073709551615⟩:=⟨by simp,by simp,by simp⟩
theorem SW.one(h:0<=d)(a:d<18446744073709551616):SW ⟨d,d⟩:=⟨h,by simp,a⟩
theorem SW.zero:SW ⟨0,0⟩:=⟨by simp,by simp,by simp⟩
theorem Q3(n:Nat):iU .u64 (n:Int) 32=((n / 4294967296:Nat):Int):=FX 32 (by omega)
theorem OE(n:Nat)(h:n<18446744073709551616):wW .u64 (n:Int) 4294967295=((n%4294967296:Nat):Int):=by
 rw [FW (by omega) (by omega) (by omega) (by omega)]
 have:(n:Int).toNat &&& (4294967295:Int).toNat=n%2^32:=by
  rw [<- Nat.and_two_pow_sub_one_eq_mod];rfl
 rw [this]
theorem wuN(h:n<18446744073709551616):xZ (n:Int)=(n:Int):=vd (by omega) (by omega)
theorem Qy{x:Nat}(u:x<18446744073709551616)(v:y<18446744073709551616):∃m:Nat,kQ (x:Int) (y:Int)=some ((m:Int),xZ ((x:Int)*(y:Int)))/\m=x*y / 18446744073709551616:=by
 obtain ⟨b,h⟩:∃q,q=x%4294967296:=⟨_,rfl⟩
 obtain ⟨c,i⟩:∃q,q=x / 4294967296:=⟨_,rfl⟩
 obtain ⟨d,j⟩:∃q,q=y%4294967296:=⟨_,rfl⟩
 obtain ⟨e,k⟩:∃q,q=y / 4294967296:=⟨_,rfl⟩
 have C:x=c*4294967296+b:=by omega
 have D:y=e*4294967296+d:=by omega
 have w:b*d<=4294967295*4294967295:=Sz (by omega) (by omega);have z:b*e<=4294967295*4294967295:=Sz (by omega) (by omega);have A:c*d<=4294967295*4294967295:=Sz (by omega) (by omega);have B:c*e<=4294967295*4294967295:=Sz (by omega) (by omega)
 have l:x*y=c*e*18446744073709551616+(c*d+b*e)*4294967296+b*d:=by
  grind
 unfold kQ;simp only [Q3,OE x u,OE y v,<- h,<- i,<- j,<- k,<- Int.natCast_mul];generalize o:b*d=p at*
 generalize r:b*e=f at*
 generalize s:c*d=a at*
 generalize t:c*e=g at*
 rw [wuN (n:=p) (by omega),wuN (n:=f) (by omega),wuN (n:=a) (by omega),wuN (n:=g) (by omega)];simp only [Q3,<- Int.natCast_add];rw [wuN (n:=a+p / 4294967296) (by omega)];simp only [Q3,<- Int.natCast_add];rw [OE _ (by omega),wuN (n:=g+(a+p / 4294967296) / 4294967296) (by omega)];simp only [<- Int.natCast_add];rw [wuN (n:=(a+p / 4294967296)%4294967296+f) (by omega)];simp only [Q3,<- Int.natCast_add];rw [wuN (by omega)];refine ⟨_,rfl,?_⟩;rw [l];omega
theorem iv:cq=some ⟨0,18446744073709551615⟩:=rfl
theorem lh(s:zh):vL s=some (decide (s.Lo<=s.Hi)):=rfl
theorem Qz(b:SW a)(c:SW e):OK (lL a e) SW:=by
 obtain ⟨d,f,g⟩:=b;obtain ⟨i,j,k⟩:=c;unfold lL Gq;rw [d7 ⟨by omega,by omega,by omega,by omega⟩];simp only [zbs,iv];refine d5 (λh=>b9 SW.full) (λh=>b9 ?_);have l:=yv h;refine ⟨(xe _).1,?_,?_⟩
 ·grind [xZ,vd]
 grind
theorem G0(j:SW a)(k:SW e):OK (cw a e) SW:=by
 obtain ⟨d,b⟩:=a;obtain ⟨f,c⟩:=e;obtain ⟨g,l,m⟩:=j;obtain ⟨i,n,o⟩:=k;simp only at g l m i n o;obtain ⟨d,rfl⟩:=zof g;obtain ⟨f,rfl⟩:=zof i;obtain ⟨b,rfl⟩:=zof (show 0<=b by omega);obtain ⟨c,rfl⟩:=zof (show 0<=c by omega);unfold cw;obtain ⟨s,p,t⟩:=Qy (x:=b) (y:=c) (by omega) (by omega);simp only [p,zbs,iv];refine d5 (λh=>b9 SW.full) (λh=>b9 ?_);have u:=yv h
 have q:b*c<18446744073709551616:=by
  grind
 have r:d*f<=b*c:=Sz (by omega) (by omega);simp only [<- Int.natCast_mul];rw [wuN q,wuN (by omega)];exact ⟨Int.natCast_nonneg _,yz.2 r,by grind⟩
theorem A8(a b:Nat):(a:Int).tdiv (b:Int)=((a / b:Nat):Int):=rfl
theorem G1(l:SW a)(f:SW e):OK (cx a e) SW:=by
 obtain ⟨g,b⟩:=a;obtain ⟨c,d⟩:=e;obtain ⟨i,m,j⟩:=l;obtain ⟨k,n,o⟩:=f;simp only at i m j k n o;unfold cx;refine d5 (λh=>b9 ⟨by simp,by simp;omega,by simpa using j⟩) (λh=> ?_);have f:c≠0:=by simpa using h
 rw [ng (show d≠0 by omega)];simp only [zbs];rw [ng f];obtain ⟨g,rfl⟩:=zof i;obtain ⟨c,rfl⟩:=zof k;obtain ⟨b,rfl⟩:=zof (show 0<=b by omega);obtain ⟨d,rfl⟩:=zof (show 0<=d by omega);simp only [zbs,A8];have p:g / d<=b / c:=p9 (Nat.div_le_div_right (by omega)) (Nat.div_le_div_left (by omega) (by omega));have q:=Nat.div_le_self b c;rw [wuN (by omega),wuN (by omega)];exact b9 ⟨Int.natCast_nonneg _,yz.2 p,by grind⟩
theorem OG(b:SW a)(c:SW e):OK (ic a e) SW:=by
 obtain ⟨f,g,d⟩:=id b;obtain ⟨i,j,k⟩:=c;unfold ic;refine d5 (λh=>b9 ⟨by simp,by simp;omega,by simpa using d⟩) (λh=> ?_);refine d5 (λh=>b9 b) (λl=>b9 ?_);have c:e.Lo≠0:=by simpa using h
 rw [vd (by omega) (by omega)];refine ⟨by simp,?_,?_⟩<;>(unfold nM;simp only;split<;>omega)
theorem Jw(h:0<=d)(b:d<18446744073709551616):OK (fQ d) (λr=>d<=r/\r<18446744073709551616):=by
 obtain ⟨d,rfl⟩:=zof h;obtain ⟨k,c,a,f,_⟩:=tA (n:=d) (by omega);unfold fQ;simp only [a,zbs];rw [fE (by omega)];refine b9 ?_
 have e:wX .u64 1 (k:Int)=((2^k%18446744073709551616:Nat):Int):=by
  grind [pO]
 rw [e];by_cases g:k=64
 ·grind [xZ,tz,xe]
 ·have i:(2:Nat)^k<=2^63:=Nat.pow_le_pow_right (by omega) (by omega)
  grind [vd]
theorem OH(q:SW a)(r:SW f):OK (ie a f) SW:=by
 obtain ⟨g,c⟩:=a;obtain ⟨b,A⟩:=f;obtain ⟨l,s,t⟩:=q;obtain ⟨m,u,v⟩:=r;simp only at l s t m u v;obtain ⟨g,rfl⟩:=zof l;obtain ⟨b,rfl⟩:=zof m;obtain ⟨c,rfl⟩:=zof (show 0<=c by omega);obtain ⟨k,B,w,p,C,D⟩:=tA (n:=c) (by omega);unfold ie xT;simp only [w,zbs,iv];refine d6 (R:=λo=>o=false->(k=0\/k+b<=64)) ?_ (λo x=> ?_)
 ·refine d5 (λ_=>b9 (by simp)) (λ_=>d5 (λy=> ?_) (λy=>b9 (λ_=>.inl ?_)))
  ·refine d5 (λ_=>b9 (by simp)) (λE=>b9 (λF=>.inr ?_))
   grind [vd]
  grind
 ·refine d5 (λ_=>b9 SW.full) (λh=> ?_);rw [fE (by omega)];simp only [zbs];refine b9 ?_
  have e:∀n:Nat,wX .u64 (n:Int) (b:Int)=((n*2^(min b 64)%18446744073709551616:Nat):Int):=by
   grind [pO]
  rw [e,e];rcases x h with i|i
  ·have d:c=0:=by subst i;simp at p;omega
   have j:g=0:=by omega
   subst d;subst j;exact ⟨by simp,by simp,by simp⟩
  ·rw [show min b 64=b by omega]
   have d:c*2^b<18446744073709551616:=by
    have j:c*2^b<2^k*2^b:=Nat.mul_lt_mul_of_pos_right p (Nat.pow_pos (by omega));rw [<- Nat.pow_add] at j;have G:(2:Nat)^(k+b)<=2^64:=Nat.pow_le_pow_right (by omega) i;omega
   have z:g*2^b<=c*2^b:=p7 _ (by omega);rw [SA d,SA (by omega)];exact ⟨Int.natCast_nonneg _,yz.2 z,Int.ofNat_lt.2 d⟩
theorem A9{op a b:Int}(c:0<=a)(d:a<18446744073709551616)(f:0<=b)(i:b<18446744073709551616):OK (gB op a b) (λr=>0<=r.1/\r.1<18446744073709551616/\r.2=(decide (1<=op)&&decide (op<=10))):=by
 unfold gB
 have q:∀k:Int,1<=k->k<=10->(op==k)=true->true=(decide (1<=op)&&decide (op<=10)):=by
  grind
 refine d5 (λh=>b9 ⟨(xe _).1,(xe _).2,q 1 (by omega) (by omega) h⟩) (λj=> ?_);refine d5 (λh=>b9 ⟨(xe _).1,(xe _).2,q 2 (by omega) (by omega) h⟩) (λl=> ?_);refine d5 (λh=>b9 ⟨(xe _).1,(xe _).2,q 3 (by omega) (by omega) h⟩) (λm=> ?_);refine d5 (λh=> ?_) (λo=> ?_)
 ·refine d5 (λ_=>b9 ⟨by simp,by simp,q 4 (by omega) (by omega) h⟩) (λg=> ?_)
  grind [ng,b9,xe]
 refine d5 (λh=> ?_) (λp=> ?_)
 ·refine d5 (λ_=>b9 ⟨c,d,q 5 (by omega) (by omega) h⟩) (λg=> ?_);rw [ng (by simpa using g)];obtain ⟨a,rfl⟩:=zof c;obtain ⟨b,rfl⟩:=zof f;have e:(a:Int).tmod (b:Int)=((a%b:Nat):Int):=rfl;have:=Nat.mod_le a b
  grind [b9]
 refine d5 (λh=>b9 ⟨(EB _ _).1,(EB _ _).2,q 6 (by omega) (by omega) h⟩) (λs=> ?_);refine d5 (λh=>b9 ⟨(CL _ _).1,(CL _ _).2,q 7 (by omega) (by omega) h⟩) (λt=> ?_);refine d5 (λh=>b9 ⟨(Ju _ _).1,(Ju _ _).2,q 8 (by omega) (by omega) h⟩) (λu=> ?_);refine d5 (λh=> ?_) (λv=> ?_)
 ·grind [fE,b9,Jv]
 refine d5 (λh=> ?_) (λn=>b9 ⟨by simp,by simp,?_⟩)
 ·rw [fE f];have:=EC (y:=b) c d;exact b9 ⟨this.1,by grind,q 10 (by omega) (by omega) h⟩
 grind
theorem QA{op:Int}(d:SW a)(f:SW e):OK (oC op a e) (λr=>SW r.1):=by
 obtain ⟨i,m,j⟩:=id d;obtain ⟨k,n,p⟩:=id f;unfold oC;refine d6 (A9 (op:=op) (a:=a.Lo) (b:=e.Lo) i (by omega) k (by omega)) (λr l=> ?_);simp only [lh,zbs];refine d6 (R:=λo=>o=false->1<=op/\op<=10) ?_ (λo q=> ?_)
 ·refine d5 (λ_=>b9 (by simp)) (λh=> ?_)
  have s:1<=op/\op<=10:=by
   grind
  exact d5 (λ_=>b9 (by simp)) (λ_=>b9 (λ_=>s))
 refine d5 (λ_=>b9 SW.zero) (λh=> ?_);obtain ⟨u,v⟩:=q h;refine d6 (R:=λ_=>True) ?_ (λ_ _=> ?_)
 ·unfold xT;exact d5 (λ_=>b9 trivial) (λ_=>b9 trivial)
 refine d5 (λ_=>b9 (SW.one l.1 l.2.1)) (λ_=> ?_);have fwd:∀{o:Option zh},OK o SW->OK (o.bind λr=>some (r,true)) (λr=>SW r.1):=λh=>d6 h (λx g=>b9 g)
 refine d5 (λ_=>fwd (Qz d f)) (λ_=> ?_);refine d5 (λ_=>d5 (λ_=>fwd (b9 SW.full)) (λh=>b9 ?_)) (λ_=> ?_)
 ·have h:=yv h;rw [vd (by omega) (by omega),vd (by omega) (by omega)];exact ⟨by simp;omega,by simp;omega,by simp;omega⟩
 refine d5 (λ_=>fwd (G0 d f)) (λ_=> ?_);refine d5 (λ_=>fwd (G1 d f)) (λ_=> ?_);refine d5 (λ_=>fwd (OG d f)) (λ_=> ?_);refine d5 (λ_=>b9 ⟨by simp,?_,?_⟩) (λ_=> ?_)
 ·grind [nM]
 ·grind [nM]
 have t:=EA (x:=a.Hi) (y:=e.Hi) (by omega) j (by omega) p;have c:=CL a.Hi e.Hi;refine d5 (λ_=>d6 (Jw c.1 c.2) (λx g=>b9 ⟨?_,?_,?_⟩)) (λ_=> ?_)
 ·grind [oT]
 ·grind [oT]
 ·exact g.2
 refine d5 (λ_=>d6 (Jw c.1 c.2) (λx g=>b9 ⟨by simp,?_,?_⟩)) (λ_=> ?_)
 ·show 0<=x;omega
 ·exact g.2
 refine d5 (λ_=>fwd (OH d f)) (λ_=> ?_);rw [fE (show 0<=e.Hi by omega)];simp only [zbs];rw [fE k];refine b9 ⟨(EC i (by omega)).1,A7 i m n,?_⟩;have:=(EC (y:=e.Lo) (show 0<=a.Hi by omega) j).2
 grind
open Go.Sx
def pJ:zi:=⟨0,⟨0,0⟩,0⟩
def WT(n:Nat)(x:zi):Prop:=x=pJ\/(x.SV=1/\SW x.Tv/\x.TB=0)\/(x.SV=2/\x.Tv=⟨0,0⟩/\0<=x.TB/\x.TB<n)
theorem WT.span(h:WT n o):SW o.Tv:=by
 rcases h with rfl|h|h
 ·exact SW.zero
 ·exact h.2.1
 grind [SW.zero]
theorem WT.num(h:SW a):WT n ⟨1,a,0⟩:=.inr (.inl ⟨rfl,h,rfl⟩)
theorem WT.zero:WT n pJ:=.inl rfl
theorem kY(s:zh):vg s=some ⟨1,s,0⟩:=rfl
theorem mS(h:SW a):vL a=some true:=by rw [lh,decide_eq_true h.2.1]
theorem SW.join(h:SW a)(b:SW e):SW ⟨nM (nM 18446744073709551615 a.Lo) e.Lo,oT (oT 0 a.Hi) e.Hi⟩:=by
 obtain ⟨c,d,f⟩:=h;obtain ⟨g,i,j⟩:=b;unfold nM oT;refine ⟨?_,?_,?_⟩<;>simp only<;>(repeat' split)<;>omega
theorem N7(h:SW a)(b:SW e):mG [a,e]=some (⟨nM (nM 18446744073709551615 a.Lo) e.Lo,oT (oT 0 a.Hi) e.Hi⟩,true):=by
 unfold mG;simp [jM,sd,idx,mS h,mS b]
def Ej(a b:zi):zi:=
 if (a.SV !=b.SV)||(a.TB !=b.TB) then pJ
 else if a.SV==1 then ⟨1,⟨nM (nM 18446744073709551615 a.Tv.Lo) b.Tv.Lo,oT (oT 0 a.Tv.Hi) b.Tv.Hi⟩,0⟩
 else a
theorem Co(h:SW o.Tv)(a:SW r.Tv):fR o r=some (Ej o r):=by
 unfold fR Ej;rw [N7 h a];split
 ·rfl
 ·split<;>rfl
theorem WT.join(h:WT n o)(a:WT n r):WT n (Ej o r):=by
 unfold Ej;split
 ·exact WT.zero
 ·split
  ·exact WT.num (SW.join h.span a.span)
  ·exact h
theorem IX(b:SW a)(c:SW e):eI [a,e]=some (if oT (oT 0 a.Lo) e.Lo<=nM (nM 18446744073709551615 a.Hi) e.Hi then (⟨oT (oT 0 a.Lo) e.Lo,nM (nM 18446744073709551615 a.Hi) e.Hi⟩,true) else (⟨0,0⟩,false)):=by
 unfold eI;simp only [iv,zbs];by_cases h:oT (oT 0 a.Lo) e.Lo<=nM (nM 18446744073709551615 a.Hi) e.Hi
 ·simp [jM,mH,idx,Int.not_lt.2 b.2.1,Int.not_lt.2 c.2.1,lh,h]
 ·simp [jM,mH,idx,Int.not_lt.2 b.2.1,Int.not_lt.2 c.2.1,lh,h]
theorem Ek(b:SW a)(c:SW e):OK (eI [a,e]) (λr=>SW r.1):=by
 refine ⟨_,IX b c,?_⟩;obtain ⟨d,f,g⟩:=b;obtain ⟨i,j,k⟩:=c;split
 ·rename_i h
  refine ⟨?_,h,?_⟩
  ·grind [oT]
  grind [nM]
 ·exact SW.zero
theorem FG(op a b:Int):OK (aZ op a b) (λr=>r.2=inB op 16 19):=by
 unfold aZ
 have q:∀k:Int,16<=k->k<=19->(op==k)=true->true=inB op 16 19:=by
  grind [inB]
 refine d5 (λh=>b9 (q 16 (by omega) (by omega) h)) (λn=> ?_);refine d5 (λh=>b9 (q 17 (by omega) (by omega) h)) (λc=> ?_);refine d5 (λh=>b9 (q 18 (by omega) (by omega) h)) (λd=> ?_);refine d5 (λh=>b9 (q 19 (by omega) (by omega) h)) (λe=>b9 ?_)
 grind [inB]
theorem Cp{op:Int}(b:SW a)(f:SW e):OK (dT op a e h) (λr=>SW r.1):=by
 obtain ⟨l,p,m⟩:=id b;obtain ⟨n,q,s⟩:=id f;unfold dT;refine d6 (FG op 0 0) (λr t=> ?_);simp only [mS b,mS f,zbs];refine d6 (R:=λ_=>True) (d5 (λ_=>b9 trivial) (λ_=>d5 (λ_=>b9 trivial) (λ_=>b9 trivial))) (λo _=> ?_);refine d5 (λ_=>b9 SW.zero) (λ_=> ?_);unfold xT;simp only [zbs];refine d5 (λ_=>b9 b) (λi=> ?_);have i:e.Lo=e.Hi:=by simpa using i
 refine d6 (R:=λ_=>True) (d5 (λ_=>b9 trivial) (λ_=>d5 (λ_=>b9 trivial) (λ_=>b9 trivial))) (λo _=> ?_);refine d5 (λ_=>d5 (λ_=>b9 SW.zero) (λj=> ?_)) (λ_=> ?_)
 ·have j:e.Lo≠0:=by simpa using j
  refine d6 (Ek b ?_) (λx c=>b9 c);rw [vd (by omega) (by omega)];exact ⟨by simp,by simp;omega,by simp;omega⟩
 refine d6 (R:=λ_=>True) (d5 (λ_=>b9 trivial) (λ_=>b9 trivial)) (λo _=> ?_);refine d5 (λ_=>d6 (Ek b ⟨n,by simp;omega,by simp⟩) (λx c=>b9 c)) (λ_=> ?_);refine d6 (R:=λ_=>True) (d5 (λ_=>b9 trivial) (λ_=>d5 (λ_=>b9 trivial) (λ_=>b9 trivial))) (λo _=> ?_);refine d5 (λ_=>d6 (Ek b f) (λx c=>b9 c)) (λ_=> ?_);refine d5 (λ_=>b9 SW.zero) (λg=> ?_)
 have g:¬ (a.Lo=e.Lo/\a.Hi=e.Hi):=by
  grind
 refine d5 (λd=>b9 ?_) (λd=> ?_)
 ·have d:a.Lo=e.Lo:=by simpa using d
  rw [vd (by omega) (by omega)];exact ⟨by simp;omega,by simp;omega,by simpa using m⟩
 refine d5 (λk=>b9 ?_) (λ_=>b9 b);have d:a.Lo≠e.Lo:=by simpa using d
 have k:a.Hi=e.Lo:=by simpa using k
 rw [vd (by omega) (by omega)];exact ⟨by simpa using l,by simp;omega,by simp;omega⟩
theorem kr(l:List zi):OK (vK l) (λ_=>True):=by
 unfold vK;refine d6 (i7 (Q:=λ_=>True) (λ_ _=>True) trivial (λi s a h _ k=> ?_) (λ_ _=>trivial)) (λo _=> ?_)
 ·unfold lJ;exact g9 (j4 h (λx _=>d5 (λ_=>b9 trivial) (λ_=>k _ trivial)))
 grind [b9]
theorem tx(l:List Int):OK (fm l) (λr=>r=0->∀x∈l,x=0):=by
 unfold fm;refine d6 (i7 (Q:=λo=>match o with|.inl _=>∀x∈l,x=0|.inr r=>r≠0) (λi _=>∀q x,q<i->l[q]? =some x->x=0) (λq x h=>by omega) (λi s a c d k=> ?_) (λ_ d=> ?_)) (λo f=> ?_)
 ·unfold oa;refine g9 (j4 c (λx b=>d5 (λh=>b9 (by simpa using h)) (λh=>k _ (λq y e g=> ?_))))
  grind
 ·intro x b;obtain ⟨q,e⟩:=List.mem_iff_getElem?.1 b
  grind
 grind [b9]
theorem pK(a b:zh):OK (dR a b) (λr=>r=true↔a.Lo<=a.Hi/\b.Lo<=a.Lo/\a.Hi<=b.Hi):=by
 unfold dR;rw [lh];simp only [zbs];refine d6 (R:=λr=>r=true↔a.Lo<=a.Hi/\b.Lo<=a.Lo/\a.Hi<=b.Hi) ?_ (λx d=>b9 d);refine d5 (λh=>d5 (λc=>b9 ?_) (λc=>b9 ?_)) (λh=>b9 ?_)
 ·simp at h c |-;omega
 ·simp at h c |-;omega
 ·simp at h |-;omega
def El(a b:zi):Prop:=(b.SV=1->a.SV=1/\a.Tv.Lo<=a.Tv.Hi/\b.Tv.Lo<=a.Tv.Lo/\a.Tv.Hi<=b.Tv.Hi)/\(b.SV=2->a=b)
theorem N8(h:((o.SV==r.SV)&&(((o.Tv.Lo==r.Tv.Lo)&&((o.Tv.Hi==r.Tv.Hi)&&true))&&((o.TB==r.TB)&&true)))=true):o=r:=by
 obtain ⟨k,⟨l,b⟩,m⟩:=o;obtain ⟨c,⟨d,a⟩,e⟩:=r
 grind
theorem Ef(a b:zi):OK (kP a b) (λr=>r=true->El a b):=by
 unfold kP;refine d5 (λc=> ?_) (λc=>d5 (λd=>b9 ?_) (λd=>b9 ?_))
 ·have c:b.SV=1:=by simpa using c
  refine d6 (R:=λr=>r=true->El a b) ?_ (λx f=>b9 f);refine d5 (λd=>d6 (pK _ _) (λx f=>b9 (λe=>⟨λ_=>⟨by simpa using d,f.1 e⟩,λg=>by omega⟩))) (λ_=>b9 (λe=>by cases e))
 ·intro h;have c:b.SV≠1:=by simpa using c
  exact ⟨λe=>absurd e c,λ_=>N8 h⟩
 ·intro _;have c:b.SV≠1:=by simpa using c
  have d:b.SV≠2:=by simpa using d
  exact ⟨λe=>absurd e c,λe=>absurd e d⟩
theorem AL(t:zi):OK (gK t) (λ_=>True):=by
 unfold gK;exact d6 (pK _ _) (λx _=>d5 (λ_=>b9 trivial) (λ_=>b9 trivial))
theorem oI(h:xd i=true)(a:¬ (15<=i.Op/\i.Op<=20)):0<=i.D/\i.D<8:=by
 unfold xd at h;simp only [inB,uv] at h;simp only [zae,s9,zdq,w6] at h
 iterate 11 (all_goals (try split at h))
 all_goals simp only [zae,s9,zdq,w6,zfe] at h
 all_goals omega
theorem oJ(h:xd i=true):0<=i.A/\i.A<8:=by
 unfold xd at h;simp only [inB,uv] at h;simp only [zae,s9,zdq,w6] at h
 iterate 11 (all_goals (try split at h))
 all_goals simp only [zae,s9,zdq,w6,zfe] at h
 all_goals omega
theorem nE(h:xd i=true):0<=i.Op/\i.Op<=22:=by
 unfold xd at h;simp only [inB,uv] at h;simp only [zae,s9,zdq,w6] at h
 iterate 11 (all_goals (try split at h))
 all_goals simp only [zae,s9,zdq,w6,zfe] at h
 all_goals omega
theorem bA(h:xd i=true)(a:i.Op<=12\/(16<=i.Op/\i.Op<=19)):i.B=8\/(0<=i.B/\i.B<8):=by
 unfold xd at h;simp only [inB,uv,Pr] at h;simp only [zae,s9,zdq,w6] at h
 iterate 11 (all_goals (try split at h))
 all_goals simp only [zae,s9,zdq,w6,zfe] at h
 all_goals omega
theorem mU(h:xd i=true)(a:i.Op=21):0<=i.TJ/\i.TJ<=6:=by
 unfold xd at h;simp only [inB,uv] at h;simp [a] at h;omega
theorem oK(h:xd i=true)(a:i.Op=14):0<=i.TJ/\i.TJ<=3:=by
 grind [xd,inB,uv]
theorem GJ(h:0<=d)(a:d<8):ain 8 d=some d.toNat:=by grind [ain]
theorem Qq(h:q<n):ain n (q:Int)=some q:=by grind [ain]
theorem FH(op:Int)(b:0<=op)(d:op<23):∃f,fb op=some (f,true)/\jv f 100=some (decide (op<=11)||decide (op=13)||decide (op=14))/\jv f 115=some (decide (op<=12)||(decide (16<=op)&&decide (op<=19))):=by
 have h:∀k:Fin 23,∃f,fb ((k:Nat):Int)=some (f,true)/\jv f 100=some (decide (((k:Nat):Int)<=11)||decide (((k:Nat):Int)=13)||decide (((k:Nat):Int)=14))/\jv f 115=some (decide (((k:Nat):Int)<=12)||(decide (16<=((k:Nat):Int))&&decide (((k:Nat):Int)<=19))):=by
  intro k
  have c:∃f,fb ((k:Nat):Int)=some (f,true):=by
   obtain ⟨f,a,_⟩:=I5 ((k:Nat):Int) (by omega) (by omega);exact ⟨f,a⟩
  obtain ⟨f,a⟩:=c;have key:∀k:Fin 23,((fb ((k:Nat):Int)).bind λr=>jv r.1 100)=some (decide (((k:Nat):Int)<=11)||decide (((k:Nat):Int)=13)||decide (((k:Nat):Int)=14))/\((fb ((k:Nat):Int)).bind λr=>jv r.1 115)=some (decide (((k:Nat):Int)<=12)||(decide (16<=((k:Nat):Int))&&decide (((k:Nat):Int)<=19))):=by decide+kernel
  grind
 obtain ⟨n,rfl⟩:=zof b;exact h ⟨n,by omega⟩
theorem Cq(h:xd i=true):OK (cP i) (λr=>r.2=true->0<=r.1/\r.1<8):=by
 have a:=nE h;obtain ⟨f,b,c,_⟩:=FH i.Op a.1 (by omega);unfold cP;simp only [fD,h,b,c,zbs];refine d5 (λe=>by cases e) (λ_=>d5 (λe=>b9 (λ_=>oI h (by simp at e;omega))) (λ_=>b9 (λ_=>by simp)))
theorem sy(h:xd i=false):OK (cP i) (λr=>r.2=true->0<=r.1/\r.1<8):=by
 grind [cP,fD,b9]
theorem Ct(h:xd i=true):kN i=some (decide (i.Op<=12)||(decide (16<=i.Op)&&decide (i.Op<=19))):=by
 have a:=nE h
 grind [FH,kN,fD]
def MT(i:zf)(k:Nat->zi):zi:=if i.B==8 then ⟨1,⟨xZ i.TJ,xZ i.TJ⟩,0⟩ else k i.B.toNat
theorem FI(h:i.B=8\/(0<=i.B/\i.B<8)):eh i x=some (MT i x):=by
 unfold eh MT;rcases zft (i.B==8) with e|e
 ·rw [d7 e,d7 e];rfl
 grind [GJ]
theorem AM(h:i.B=8\/(0<=i.B/\i.B<8))(a:∀r,r<8->WT n (x r)):WT n (MT i x):=by
 grind [MT,WT.num,SW.one,xe]
structure JI (m:zE) (j:zj):Prop where
 UV:j.Tu=m
 UK:j.came.length=m.Code.length
 UJ:j.any.length=m.Code.length
 lps:j.loops=lps m.Code m.Code.length
 wt:∀(q:Nat)(x:Nat->zi),j.came[q]? =some x->∀r,r<8->WT m.Maps.length (x r)
theorem aO{p:Nat}(h:p<xs.length):∃x,xs[p]? =some x/\idx xs (p:Int)=some x:=⟨xs[p],zeg h,J9 h⟩
theorem MU(h:q≠n):(xs.set n v)[q]? =xs[q]? :=SB (λe=>h e.symm)
theorem JI.put(h:JI m j){p:Nat}(e:∀r,r<8->WT m.Maps.length (x r))(A:List Bool)(b:A.length=m.Code.length):JI m {j with came:=j.came.set p x,any:=A}:=
 ⟨h.UV,by simpa using h.UK,b,h.lps,λq y a r c=>by
  simp only at a;by_cases d:q=p
  ·grind
  ·rw [MU d] at a;exact h.wt q y a r c⟩
theorem mV(h:∀r,r<8->WT n (x r))(a:WT n o):∀r,r<8->WT n (aset x q o r):=by
 grind [aset]
theorem IY(h:JI m j)(k:n<m.Code.length)(l:∀r,r<8->WT m.Maps.length (x r)):
  OK (je j (n:Int) x) (λj'=>JI m j'/\j'.any=j.any.set n true/\∀q,q≠n->j'.came[q]? =j.came[q]?):=by
 unfold je;obtain ⟨a,E,t⟩:=aO (xs:=j.any) (p:=n) (by rw [h.UJ];exact k)
 obtain ⟨c,F,u⟩:=aO (xs:=j.came) (p:=n) (by rw [h.UK];exact k)
 simp only [t,u,zbs,l8];refine d5 (λ_=>b9 ⟨h.put l _ (by simpa using h.UJ),rfl,λq w=>MU w⟩) (λA=> ?_);have B:a=true:=by simpa using A
 have d:j.any.set n true=j.any:=by
  apply o5
  grind
 refine d6 (i7 (λ_ s=>JI m s/\s.any=j.any.set n true/\∀q,q≠n->s.came[q]? =j.came[q]?) ⟨h,d.symm,λ_ _=>rfl⟩ (λi s v g b C=> ?_) (λs b=>b)) (λo D=>b9 D);unfold dS;obtain ⟨y,e,f⟩:=aO (xs:=s.came) (p:=n) (by rw [b.1.UK];exact k)
 have z:=b.1.wt n y e i g;simp only [f,Qq g,zbs,Co z.span (l i g).span,l8];exact C _ ⟨b.1.put (mV (b.1.wt n y e) (z.join (l i g))) _ b.1.UJ,b.2.1,λq w=>by grind⟩
theorem FJ{lo:Nat}(h:lo<=n)(a:n<=xs.length):cut xs (lo:Int) (n:Int)=some ((xs.take n).drop lo):=by
 unfold cut;rw [d7 ⟨by omega,by omega,by omega⟩];simp
theorem FK(h:JI m j)(y:uZ m.Code)(A:n<m.Code.length):
  OK (xr j (n:Int)) (λj'=>JI m j'/\j'.any=j.any/\∀q,q≠n->j'.came[q]? =j.came[q]?):=by
 unfold xr;refine d6 (i7 (Q:=λj'=>JI m j'/\j'.any=j.any/\∀q,q≠n->j'.came[q]? =j.came[q]?) (λ_ s=>JI m {j with came:=s}/\∀q,q≠n->s[q]? =j.came[q]?) ⟨⟨h.UV,h.UK,h.UJ,h.lps,h.wt⟩,λ_ _=>rfl⟩ (λi s c t b k=> ?_) (λs b=>⟨b.1,rfl,b.2⟩)) (λo u=>b9 u);unfold dj;refine g9 (j4 t (λl hl=>d5 (λ_=>k _ b) (λI=> ?_)));rw [h.lps] at hl;obtain ⟨a,g,J,v,w,rfl⟩:=oF.1 (zmg hl);have B:=y.TX.loop v w;have K:=y.Vi;have C:(jG g a).Ui=(((a:Int)-g.D).toNat:Int):=by show (a:Int)-g.D=_;omega
 have E:w64 ((jG g a).At+1)=((a+1:Nat):Int):=by show w64 ((a:Int)+1)=_;rw [qe (by omega) (by omega)];simp
 rw [C,E,h.UV,FJ (by omega) (by omega)];simp only [zbs];refine d6 (i7 (λ_ s=>JI m {j with came:=s}/\∀q,q≠n->s[q]? =j.came[q]?) b (λi s c t b k=> ?_) (λs b=>b)) (λo u=>k _ u);unfold di;refine g9 (j4 t (λx L=> ?_))
 have d:OK (cP x) (λr=>r.2=true->0<=r.1/\r.1<8):=by
  grind [xd,Cq,sy]
 refine d6 d (λr d=>d5 (λ_=>k _ b) (λF=> ?_));have d:=d (by simpa using F);obtain ⟨z,e,f⟩:=aO (xs:=s) (p:=n) (by rw [show s.length=m.Code.length from b.1.UK];exact A)
 simp only [f,GJ d.1 d.2,zbs,iv,kY,l8];refine d5 (λ_=>k _ ⟨b.1.put (mV (b.1.wt n z e) (WT.num SW.full)) _ b.1.UJ,λq G=>by grind⟩) (λ_=>k _ ⟨b.1.put (mV (b.1.wt n z e) WT.zero) _ b.1.UJ,λq G=>by grind⟩)
open Go.Sx
def Way(code:List zf)(p q:Nat):Prop:=∃i,code[p]? =some i/\((jr i).2.2=true/\q=p+1\/(jr i).2.1=true/\0<(jr i).1/\(q:Int)=p+(jr i).1)
structure GK (code:List zf) (p:Nat) (j j':zj):Prop where
 same:∀q:Nat,q<=p->j'.came[q]? =j.came[q]? /\j'.any[q]? =j.any[q]?
 keep:∀q:Nat,j.any[q]? =some true->j'.any[q]? =some true
 new:∀q:Nat,j'.any[q]? =some true->j.any[q]? =some true\/Way code p q
theorem GK.refl(code:List zf)(p:Nat)(j:zj):GK code p j j:=⟨λ_ _=>⟨rfl,rfl⟩,λ_ h=>h,λ_ h=>.inl h⟩
theorem GK.trans(h:GK code n j j')(k:GK code n j' c):GK code n j c:=
 ⟨λq a=>⟨(k.same q a).1.trans (h.same q a).1,(k.same q a).2.trans (h.same q a).2⟩,λq a=>k.keep q (h.keep q a),λq a=>(k.new q a).elim (λe=>h.new q e) .inr⟩
theorem N9(b:j.any.length=code.length)(c:n<q)(d:Way code n q)(e:j'.any=j.any.set q true)(a:∀t,t≠q->j'.came[t]? =j.came[t]?):GK code n j j':=by
 refine ⟨λt h=>⟨a t (by omega),by grind⟩,λt h=> ?_,λt h=> ?_⟩
 ·grind
 grind
theorem IZ(h:(jr i).2.1=true):(0<(jr i).1/\15<=i.Op/\i.Op<=19/\(jr i).2.2=(i.Op !=15))\/((jr i).1<0/\i.Op=20/\(jr i).2.2=true):=by
 unfold jr at h |-;by_cases a:eL i=true
 ·have:=sB a
  grind
 ·rw [d8 a] at h |-;by_cases hl:ma i=true
  ·have:=FL hl
   grind
  grind
theorem I0(h:JI m j)(g:uZ m.Code)(O:n<m.Code.length)(e:∀r,r<8->WT m.Maps.length (z r)):
  OK (xU j (n:Int) z) (λj'=>JI m j'/\GK m.Code n j j'):=by
 have U:=g.Vi;obtain ⟨i,b,A⟩:=aO O;have f:=g.TX.right b;unfold xU;rw [h.UV,A];simp only [nF,zbs];have I:w64 ((n:Int)+1)=((n+1:Nat):Int):=by grind [qe]
 have step:∀{j:zj} {q:Nat} {z:Nat->zi},JI m j->n<q->q<m.Code.length->Way m.Code n q->(∀r,r<8->WT m.Maps.length (z r))->OK (je j (q:Int) z) (λj'=>JI m j'/\GK m.Code n j j'):=
  λJ B C P e=>(IY J C e).mono (λj' c=>⟨c.1,N9 J.UJ B P c.2.1 c.2.2⟩)
 refine d5 (λQ=>d6 (d5 (λa=> ?_) (λ_=>b9 ⟨h,GK.refl _ _ _⟩)) (λo k=>b9 k)) (λQ=> ?_)
 ·rw [I];exact d6 (step h (by omega) (g.TX.on b a) ⟨i,b,.inl ⟨a,rfl⟩⟩ e) (λx l=>b9 l)
 have hl:(jr i).2.1=true/\0<=(jr i).1:=by grind
 have S:0<(jr i).1:=by
  rcases IZ hl.1 with K|K
  ·exact K.1
  ·omega
 have d:=g.TX.leads b hl.1;obtain ⟨q,B⟩:=zof d.1;have eq:w64 ((n:Int)+(jr i).1)=(q:Int):=by grind [qe]
 have D:(q:Int)=n+(jr i).1:=B.symm;have E:Way m.Code n q:=⟨i,b,.inr ⟨hl.1,S,D⟩⟩
 refine d5 (λ_=> ?_) (λa=> ?_)
 ·grind
 have a:(jr i).2.2=true:=by simpa using a
 have p:16<=i.Op/\i.Op<=19:=by
  grind [IZ]
 have L:=bA f (.inr p);have M:=oJ f;rw [FI L];simp only [zbs];refine d6 (i7 (λ_ s=>JI m s/\GK m.Code n j s) ⟨h,GK.refl _ _ _⟩ (λt s F T u N=> ?_) (λs u=>u)) (λo k=>b9 k);unfold dU;refine g9 (j4 (by simpa using T) (λx l=> ?_));refine d6 (R:=λ(o:Int)=>∃v:Nat,o=(v:Int)/\n<v/\v<m.Code.length/\Way m.Code n v) ?_ (λo k=> ?_)
 ·refine d5 (λ_=>b9 ⟨n+1,I,by omega,g.TX.on b a,i,b,.inl ⟨a,rfl⟩⟩) (λ_=>b9 ⟨q,eq,by omega,by omega,E⟩)
 obtain ⟨v,rfl,w,y,G⟩:=k;rw [GJ M.1 M.2];simp only [zbs];refine d6 (R:=λr=>SW r.1) (d6 (Cp (e _ (by omega)).span (AM L e).span) (λr f=>b9 f)) (λr f=> ?_);refine d5 (λ_=> ?_) (λ_=>N _ u);simp only [kY,zbs];exact d6 (step u.1 w y G (mV e (WT.num f))) (λx l=>N _ ⟨l.1,u.2.trans l.2⟩)
theorem Em:∀k:Fin 7,∃l,xW 2199023255552 ((k:Nat):Int)=some l/\l.length<=3:=by
 have h:∀k:Fin 7,∃n:Fin 4,(xW 2199023255552 ((k:Nat):Int)).map (·.length)=some (n:Nat):=by decide+kernel
 intro k;obtain ⟨n,a⟩:=h k;obtain ⟨l,b,c⟩:=yn.1 a
 grind
theorem Cu:∀k:Fin 7,∃s,dl ((k:Nat):Int)=some (s,true)/\0<=s.most/\s.most<18446744073709551616:=by
 intro k;have h:∀k:Fin 7,((dl ((k:Nat):Int)).map (λr=>r.2&&decide (0<=r.1.most)&&decide (r.1.most<18446744073709551616)))=some true:=by decide+kernel
 obtain ⟨⟨s,b⟩,a,c⟩:=yn.1 (h k)
 grind
theorem I1(k:Fin 7){l:List zi}(h:xW 2199023255552 ((k:Nat):Int)=some l)(b:List zi):OK (fq 2199023255552 ((k:Nat):Int) b) (λ_=>True):=by
 obtain ⟨s,c,_⟩:=Cu k;unfold fq;simp only [c,h,zbs];refine d5 (λ_=>b9 trivial) (λ_=>d5 (λ_=>b9 trivial) (λhl=> ?_))
 have hl:l.length=b.length:=by
  grind
 refine d6 (i7 (Q:=λ_=>True) (λ_ _=>True) trivial (λi s a d _ e=> ?_) (λ_ _=>trivial)) (λo _=> ?_)
 ·unfold lK;refine g9 (j4 d (λx _=>g9 (j4 (by omega) (λy _=> ?_))));refine d5 (λ_=>b9 trivial) (λ_=>d6 (R:=λ_=>True) ?_ (λo _=>d5 (λ_=>b9 trivial) (λ_=>e _ trivial)));exact d5 (λ_=>d6 (pK _ _) (λx _=>b9 trivial)) (λ_=>b9 trivial)
 grind [b9]
def One(m:zE)(j:zj)(p:Nat)(r:(Nat->zi)×Int):Prop:=
 r.2=0->(∀q,q<8->WT m.Maps.length (r.1 q))/\∀i,m.Code[p]? =some i->i.Op=20->∀q,q<8->∀x h,j.came[p]? =some x->j.came[((p:Int)-i.D).toNat]? =some h->El (x q) (h q)
theorem MV(h:JI m j)(A:uZ m.Code)(hp:y<m.Code.length):
  OK (vw 2199023255552 j (y:Int)) (One m j y):=by
 have B:=A.Vi;obtain ⟨i,hi,C⟩:=aO hp;obtain ⟨k,E,F⟩:=aO (xs:=j.came) (p:=y) (by rw [h.UK];exact hp)
 have G:=h.wt y k E;have f:=A.TX.right hi;have hop:=nE f;have hA:=oJ f;unfold vw;rw [h.UV,C,F];simp only [zbs,Ct f]
 have d:∀{r:(Nat->zi)×Int},i.Op≠20->(r.2=0->∀q,q<8->WT m.Maps.length (r.1 q))->One m j y r:=by
  intro r hne hw z
  grind
 refine d6 (R:=λt=>WT m.Maps.length t) ?_ (λs hs=> ?_)
 ·refine d5 (λhsrc=> ?_) (λ_=>b9 WT.zero)
  grind [bA,FI,b9,AM]
 rw [GJ hA.1 hA.2];simp only [zbs,iv,kY];have hD:¬ (15<=i.Op/\i.Op<=20)->ain 8 i.D=some i.D.toNat:=λh=>GJ (oI f h).1 (oI f h).2
 have I:∀{v:zi} {t:Nat},WT m.Maps.length v->∀q,q<8->WT m.Maps.length (aset k t v q):=λhv=>mV G hv
 refine d5 (λe=> ?_) (λe0=> ?_)
 ·have e:i.Op=0:=by simpa using e
  refine d5 (λ_=>b9 (d (by omega) (λh=>by simp at h))) (λ_=> ?_)
  grind [b9]
 refine d5 (λe=> ?_) (λJ=> ?_)
 ·have e:i.Op=11:=by simpa using e
  rw [hD (by omega)];simp only [zbs];exact d6 (kr _) (λa _=>d6 (AL _) (λb _=>d6 (tx _) (λc _=>b9 (d (by omega) (λ_=>I (WT.num SW.full))))))
 refine d5 (λe=> ?_) (λK=> ?_)
 ·grind [d6,kr,AL,tx,b9]
 refine d5 (λe=> ?_) (λL=> ?_)
 ·grind [b9,WT.num,SW.full]
 refine d5 (λe=> ?_) (λM=> ?_)
 ·have e:i.Op=14:=by simpa using e
  have g:=oK f e;rw [hD (by omega)];simp only [zbs];refine d5 (λ_=>b9 (d (by omega) (λh=>by simp at h))) (λhlt=>b9 (d (by omega) (λ_=>I (.inr (.inr ⟨rfl,rfl,g.1,?_⟩)))))
  grind
 refine d5 (λe=> ?_) (λN=> ?_)
 ·grind [b9]
 refine d6 (R:=λo=>o=inB i.Op 16 19) ?_ (λo ho=> ?_)
 ·refine d5 (λe=>b9 ?_) (λe=>d5 (λe=>b9 ?_) (λe2=>d5 (λe=>b9 ?_) (λe3=>b9 ?_)))
  ·grind [inB]
  ·grind [inB]
  ·grind [inB]
  grind [inB]
 refine d5 (λe=> ?_) (λe16=> ?_)
 ·grind [inB,d6,kr,b9]
 refine d5 (λe=> ?_) (λO=> ?_)
 ·have e:i.Op=20:=by simpa using e
  have hlp:=A.TX.loop hi e;have ew:w64 ((y:Int)-i.D)=(((y:Int)-i.D).toNat:Int):=by grind [qe]
  obtain ⟨hd,hd1,P⟩:=aO (xs:=j.came) (p:=((y:Int)-i.D).toNat) (by rw [h.UK];omega);refine d6 (kr _) (λa _=>d5 (λha=>b9 (λz=>absurd z (by simpa using ha))) (λ_=> ?_));refine d6 (i7 (Q:=λo=>match o with|.inl _=>∀q,q<8->El (k q) (hd q)|.inr r=>r.2≠0) (λt _=>∀q,q<t->El (k q) (hd q)) (λq hq=>by omega) (λt s S ht hI kk=> ?_) (λ_ hI=>hI)) (λo ho=> ?_)
  ·unfold eH;simp only [Qq ht,ew,P,zbs];refine d6 (Ef _ _) (λr f=>d5 (λ_=>b9 (by simp)) (λB=>kk _ (λq hq=> ?_)))
   grind
  ·cases o with
   |inl _=>
    refine b9 (λ_=>⟨G,λi' hi' _ q hq x hx h1 h2=> ?_⟩)
    grind
   |inr r=>exact b9 (λz=>absurd z ho)
 refine d5 (λe=> ?_) (λT=> ?_)
 ·have e:i.Op=21:=by simpa using e
  have g:=mU f e;obtain ⟨n,B⟩:=zof g.1;rw [B];obtain ⟨l,hl,hl3⟩:=Em ⟨n,by omega⟩;obtain ⟨sg,U,V,W⟩:=Cu ⟨n,by omega⟩;have X:xW 2199023255552 (n:Int)=some l:=hl;have u:dl (n:Int)=some (sg,true):=U;simp only [X,zbs];have ec:w64 (1+(l.length:Int))=((1+l.length:Nat):Int):=by grind [qe]
  have ec1:(1:Int)=((1:Nat):Int):=rfl
  have w:∃Y,cut (H1 8 k) 1 (w64 (1+(l.length:Int)))=some Y:=by
   rw [ec];exact ⟨_,FJ (lo:=1) (by omega) (by grind [oU])⟩
  obtain ⟨Y,Z⟩:=w;rw [Z];simp only [zbs];refine d6 (I1 ⟨n,by omega⟩ hl Y) (λr _=> ?_);unfold hZ;simp only [u,zbs];refine b9 (d (by omega) (λ_=> ?_));exact I (WT.num ⟨by simp,by simpa using V,by simpa using W⟩)
 refine d5 (λe=> ?_) (λe22=> ?_)
 ·grind [d6,kr,b9]
 simp only [beq_eq_false_iff_ne,ne_eq] at e0 J K L M N O T e22
 have e16':¬ (16<=i.Op/\i.Op<=19):=by
  grind [inB]
 refine d6 (QA (G _ (by omega)).span hs.span) (λr f=> ?_)
 grind [d6,kr,b9,WT.num]
open Go.Sx
theorem ur(l:List Int)(m:Int):qa l m=some (l.contains m):=by
 unfold qa xg;rw [rA (λi=>if (l[i]? ==some m) then some (i:Int) else none) (N:=l.length)]
 ·simp only [zbs];cases a:fC (λi=>if (l[i]? ==some m) then some (i:Int) else none) l.length 0 with
  |some v=>
   grind [gN,Ap]
  |none=>
   have:=gO a
   have h:m∉l:=by
    intro h;obtain ⟨j,b,rfl⟩:=w7.1 h
    grind
   simp [Ap,h]
 grind [aX,J9]
def ut(l:List Int):Prop:=(∀x∈l,0<=x/\x<4)/\l.Nodup/\l.length<=4
theorem wO(h:n<l.length):(l.take (n+1)).Nodup↔(l.take n).Nodup/\l[n]∉l.take n:=by
 rw [yc,zeg h]
 grind
theorem I2(l:List Int):OK (kL l) (λr=>r=true↔ut l):=by
 unfold kL;refine d6 (i7 (Q:=λo=>match o with|.inl _=>(∀x∈l,0<=x/\x<4)/\l.Nodup|.inr r=>r=false/\¬ ut l) (λi _=>(∀x∈l.take i,0<=x/\x<4)/\(l.take i).Nodup) (by simp) (λi s c a d k=> ?_) (λs d=> ?_)) (λo b=> ?_)
 ·unfold pg;simp only [J9 a,zbs,Au (show i<=l.length by omega),ur];refine d6 (R:=λo=>o=true↔¬ (0<=l[i]/\l[i]<4/\l[i]∉l.take i)) ?_ (λo b=> ?_)
  ·refine d5 (λh=>b9 ?_) (λh=>d5 (λf=>b9 ?_) (λf=>b9 ?_))
   ·grind
   ·grind
   grind
  refine d5 (λh=>b9 ⟨rfl,λe=> ?_⟩) (λh=>k _ ?_)
  ·have:=(wO a).1 (e.2.1.sublist (List.take_sublist _ _));have m:=e.1 l[i] (yo _)
   grind
  ·have g:0<=l[i]/\l[i]<4/\l[i]∉l.take i:=Classical.byContradiction (λn=>by grind);refine ⟨λx j=> ?_,(wO a).2 ⟨d.2,g.2.2⟩⟩;rw [yc,zeg a] at j
   grind
 ·simpa using d
 ·cases o with
  |inl _=>
   refine b9 ?_;simp only [zdq];exact ⟨λh=>⟨b.1,b.2,by omega⟩,λh=>by have:=h.2.2;omega⟩
  |inr r=>exact b9 ⟨λh=>(by grind),λh=>absurd h b.2⟩
def Pq(code:List zf)(j:zj):Prop:=∀(q a:Nat)(i:zf),j.any[q]? =some true->code[a]? =some i->i.Op=20->(a:Int)-i.D<q->q<=a->j.any[((a:Int)-i.D).toNat]? =some true
theorem Pq.ways(l:uZ code)(h:Pq code j)(m:j.any[n]? =some true)(f:GK code n j j'):Pq code j':=by
 intro q a c p b d r s;have t:=l.TX.loop b d;rcases f.new q p with u|⟨i,o,e⟩
 ·exact f.keep _ (h q a c u b d r s)
 ·
  by_cases g:(a:Int)-c.D<=n/\n<=a
  ·by_cases v:(n:Int)=a-c.D
   ·rw [<- v];exact f.keep _ (by simpa using m)
   ·exact f.keep _ (h n a c m b d (by omega) g.2)
  ·exfalso
   rcases e with ⟨w,rfl⟩|⟨hl,x,k⟩
   ·omega
   ·refine l.en n (zes.1 o).1 ⟨i,o,hl,x,a,c,q,(zes.1 b).1,b,d,k,(xx b d).2 ⟨by omega,by omega⟩,?_,by omega⟩
    grind [qW,xx]
structure GL (m:zE) (n:Nat) (j:zj):Prop where
 ji:JI m j
 zero:j.any[0]? =some true
 Vv:Pq m.Code j
 UL:∀(p:Nat)(i:zf),p<n->m.Code[p]? =some i->i.Op=20->j.any[p]? =some true->∀q,q<8->∀x h,j.came[p]? =some x->j.came[((p:Int)-i.D).toNat]? =some h->El (x q) (h q)
theorem D8(h:GL m n j)(g:uZ m.Code)(s:n<m.Code.length)(c:zj->Option (zj⊕((Option zj)×Int×Int))) (D:∀j',GL m (n+1) j'->OK (c j') Q) (E:∀e,e≠0->Q (.inr (none,(n:Int),e))):OK (cy 2199023255552 n c j) Q:=by
 unfold cy;obtain ⟨a,N,v⟩:=aO (xs:=j.any) (p:=n) (by rw [h.ji.UJ];exact s)
 simp only [v,zbs];refine d5 (λw=> ?_) (λw=> ?_)
 ·have w:a=false:=by simpa using w
  refine D j {h with UL:=λp i F t u b=> ?_};by_cases e:p=n
  ·grind
  ·exact h.UL p i (by omega) t u b
 have y:j.any[n]? =some true:=by grind
 refine d6 (FK h.ji g s) (λG ⟨k,d,l⟩=> ?_);refine d6 (MV k g s) (λr z=> ?_);refine d5 (λe=>b9 (E _ (by simpa using e))) (λe=> ?_);have z:=z (by simpa using e);refine d6 (I0 k g s z.1) (λI ⟨A,o⟩=>D I ?_);have B:Pq m.Code G:=by intro q a J;rw [d];exact h.Vv q a J
 refine ⟨A,o.keep _ (by rw [d];exact h.zero),B.ways g (by rw [d];exact y) o,λp i F t u b q K x L C f=> ?_⟩
 have M:=g.TX.loop t u;rw [(o.same p (by omega)).1] at C;rw [(o.same _ (by omega)).1] at f;rw [(o.same p (by omega)).2,d] at b;by_cases e:p=n
 ·grind
 ·rw [l p e] at C;rw [l _ (by omega)] at f;exact h.UL p i (by omega) t u b q K x L C f
structure Qr (m:zE) (r:(Option zj)×Int×Int):Prop where
 Vt:r.2.1=0\/0<=r.2.1/\r.2.1<m.Code.length
 Ux:r.2.2=0->r.2.1=0/\uZ m.Code/\ut m.Maps/\∃j,r.1=some j/\GL m m.Code.length j
 bad:r.2.2≠0->r.1=none
theorem Qs(h:uZ m.Code):GL m 0 ⟨m,List.replicate m.Code.length (λ_=>pJ),(List.replicate m.Code.length false).set 0 true,lps m.Code m.Code.length⟩:=by
 have b:=h.n1;refine ⟨⟨rfl,by simp,by simp,rfl,λq x c r _=> ?_⟩,by grind,λq a d e f g j k=> ?_,λp i l=>by omega⟩
 ·grind [OO,WT.zero]
 grind
theorem Cw(m:zE):OK (jZ 2199023255552 m) (Qr m):=by
 unfold jZ;refine d6 (I2 _) (λg a=> ?_);refine d5 (λ_=>b9 ⟨.inl rfl,λh=>by simp at h,λ_=>rfl⟩) (λf=> ?_);have a:=a.1 (by simpa using f);obtain ⟨r,q,t,u,y⟩:=ub m.Code;simp only [q,zbs];refine d5 (λl=>b9 ⟨t,λh=>absurd h (by simpa using l),λ_=>rfl⟩) (λl=> ?_);have d:=(u (by simpa using l)).2;have z:=d.Vi;have v:=d.n1;refine d6 (R:=λo=>o=zj.mk m (List.replicate m.Code.length (λ_=>pJ)) (List.replicate m.Code.length false) []) ?_ (λo c=> ?_)
 ·grind [g9,OK.mkl,b9,pJ]
 subst c;simp only [wF d,zbs]
 have w:idx (List.replicate m.Code.length false) 0=some false:=by
  grind [J9]
 rw [w];simp only [zbs];refine d6 (i7 (Q:=λo=>match o with|.inl j=>GL m m.Code.length j|.inr r=>r.1=none/\r.2.2≠0/\0<=r.2.1/\r.2.1<m.Code.length) (λi s=>GL m i s) ?_ (λi s b p n k=>D8 n d p b k (λe x=>⟨rfl,x,by simp,by simpa using p⟩)) (λs n=>n)) (λo c=> ?_)
 ·grind [Qs]
 ·cases o with
  |inl j=>exact b9 ⟨.inl rfl,λ_=>⟨rfl,d,a,j,rfl,c⟩,λh=>absurd rfl h⟩
  |inr r=>exact b9 ⟨.inr c.2.2,λh=>absurd h c.2.1,λ_=>c.1⟩
theorem Lp(m:zE):OK (vx 2199023255552 m) (λr=>(r.1=0\/0<=r.1/\r.1<m.Code.length)):=by
 unfold vx;refine d6 (Cw m) (λr h=> ?_);obtain ⟨o,p,e⟩:=r;cases o with
 |none=>exact OK.none_ (b9 h.Vt)
 |some j=>exact OK.some_ (b9 h.Vt)
def known(j:zj)(p:Nat):List zi:=match j.any[p]?,j.came[p]? with
 |some true,some c=>H1 8 c
 |_,_=>[]
end Go.Proofs.YtplmgfkghomelaaGreatDoor
