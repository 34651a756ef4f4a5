/- Lemmas. -/
import Derived.Test.YtplmgfkghomelaaGreatDoorKOps
set_option linter.all false
namespace Go.Proofs.YtplmgfkghomelaaGreatDoor
open Go.Sx
variable {i:zf}{a e f:zh}{n q y:Nat}{j j' c:zj}{m:zE}{α:Type}{xs:List α}{code:List zf}{x z:Nat->zi}{d:Int}{o r:zi}{h:Bool}{v:α}{l:List Int}{Q:(zj⊕((Option zj)×Int×Int))->Prop}
theorem SW.full:SW ⟨0,18446744073709551615⟩:=⟨by simp,by simp,by simp⟩
theorem SW.one(h:0<=d)(a:d<18446744073709551616):SW ⟨d,d⟩:=⟨h,by simp,a⟩
theorem SW.zero:SW ⟨0,0⟩:=⟨by simp,by simp,by simp⟩
theorem RU(n:Nat):kr .u64 (n:Int) 32=((n / 4294967296:Nat):Int):=Gj 32 (by omega)
theorem Pr(n:Nat)(h:n<18446744073709551616):Ag .u64 (n:Int) 4294967295=((n%4294967296:Nat):Int):=by
 rw [Gi (by omega) (by omega) (by omega) (by omega)]
 have:(n:Int).toNat &&& (4294967295:Int).toNat=n%2^32:=by
  rw [<- Nat.and_two_pow_sub_one_eq_mod];rfl
 rw [this]
theorem wuN(h:n<18446744073709551616):vc (n:Int)=(n:Int):=vf (by omega) (by omega)
theorem Ri{x:Nat}(u:x<18446744073709551616)(v:y<18446744073709551616):∃m:Nat,lx (x:Int) (y:Int)=some ((m:Int),vc ((x:Int)*(y:Int)))/\m=x*y / 18446744073709551616:=by
 obtain ⟨b,h⟩:∃q,q=x%4294967296:=⟨_,rfl⟩
 obtain ⟨c,i⟩:∃q,q=x / 4294967296:=⟨_,rfl⟩
 obtain ⟨d,j⟩:∃q,q=y%4294967296:=⟨_,rfl⟩
 obtain ⟨e,k⟩:∃q,q=y / 4294967296:=⟨_,rfl⟩
 have C:x=c*4294967296+b:=by omega
 have D:y=e*4294967296+d:=by omega
 have w:b*d<=4294967295*4294967295:=TC (by omega) (by omega);have z:b*e<=4294967295*4294967295:=TC (by omega) (by omega);have A:c*d<=4294967295*4294967295:=TC (by omega) (by omega);have B:c*e<=4294967295*4294967295:=TC (by omega) (by omega)
 have l:x*y=c*e*18446744073709551616+(c*d+b*e)*4294967296+b*d:=by
  grind
 unfold lx;simp only [RU,Pr x u,Pr y v,<- h,<- i,<- j,<- k,<- Int.natCast_mul];generalize o:b*d=p at*
 generalize r:b*e=f at*
 generalize s:c*d=a at*
 generalize t:c*e=g at*
 rw [wuN (n:=p) (by omega),wuN (n:=f) (by omega),wuN (n:=a) (by omega),wuN (n:=g) (by omega)];simp only [RU,<- Int.natCast_add];rw [wuN (n:=a+p / 4294967296) (by omega)];simp only [RU,<- Int.natCast_add];rw [Pr _ (by omega),wuN (n:=g+(a+p / 4294967296) / 4294967296) (by omega)];simp only [<- Int.natCast_add];rw [wuN (n:=(a+p / 4294967296)%4294967296+f) (by omega)];simp only [RU,<- Int.natCast_add];rw [wuN (by omega)];refine ⟨_,rfl,?_⟩;rw [l];omega
theorem iH:cx=some ⟨0,18446744073709551615⟩:=rfl
theorem lJ(s:zh):vO s=some (decide (s.Lo<=s.Hi)):=rfl
theorem Rj(b:SW a)(c:SW e):OK (ma a e) SW:=by
 obtain ⟨d,f,g⟩:=b;obtain ⟨i,j,k⟩:=c;unfold ma GN;rw [d7 ⟨by omega,by omega,by omega,by omega⟩];simp only [zbs,iH];refine d5 (λh=>b9 SW.full) (λh=>b9 ?_);have l:=z8 h;refine ⟨(xh _).1,?_,?_⟩
 ·grind [vc,vf]
 grind
theorem Hq(j:SW a)(k:SW e):OK (cy a e) SW:=by
 obtain ⟨d,b⟩:=a;obtain ⟨f,c⟩:=e;obtain ⟨g,l,m⟩:=j;obtain ⟨i,n,o⟩:=k;simp only at g l m i n o;obtain ⟨d,rfl⟩:=zof g;obtain ⟨f,rfl⟩:=zof i;obtain ⟨b,rfl⟩:=zof (show 0<=b by omega);obtain ⟨c,rfl⟩:=zof (show 0<=c by omega);unfold cy;obtain ⟨s,p,t⟩:=Ri (x:=b) (y:=c) (by omega) (by omega);simp only [p,zbs,iH];refine d5 (λh=>b9 SW.full) (λh=>b9 ?_);have u:=z8 h
 have q:b*c<18446744073709551616:=by
  grind
 have r:d*f<=b*c:=TC (by omega) (by omega);simp only [<- Int.natCast_mul];rw [wuN q,wuN (by omega)];exact ⟨Int.natCast_nonneg _,Tq.2 r,by grind⟩
theorem Bh(a b:Nat):(a:Int).tdiv (b:Int)=((a / b:Nat):Int):=rfl
theorem Hr(l:SW a)(f:SW e):OK (cz a e) SW:=by
 obtain ⟨g,b⟩:=a;obtain ⟨c,d⟩:=e;obtain ⟨i,m,j⟩:=l;obtain ⟨k,n,o⟩:=f;simp only at i m j k n o;unfold cz;refine d5 (λh=>b9 ⟨by simp,by simp;omega,by simpa using j⟩) (λh=> ?_);have f:c≠0:=by simpa using h
 rw [ny (show d≠0 by omega)];simp only [zbs];rw [ny f];obtain ⟨g,rfl⟩:=zof i;obtain ⟨c,rfl⟩:=zof k;obtain ⟨b,rfl⟩:=zof (show 0<=b by omega);obtain ⟨d,rfl⟩:=zof (show 0<=d by omega);simp only [zbs,Bh];have p:g / d<=b / c:=t8 (Nat.div_le_div_right (by omega)) (Nat.div_le_div_left (by omega) (by omega));have q:=Nat.div_le_self b c;rw [wuN (by omega),wuN (by omega)];exact b9 ⟨Int.natCast_nonneg _,Tq.2 p,by grind⟩
theorem Pt(b:SW a)(c:SW e):OK (iv a e) SW:=by
 obtain ⟨f,g,d⟩:=id b;obtain ⟨i,j,k⟩:=c;unfold iv;refine d5 (λh=>b9 ⟨by simp,by simp;omega,by simpa using d⟩) (λh=> ?_);refine d5 (λh=>b9 b) (λl=>b9 ?_);have c:e.Lo≠0:=by simpa using h
 rw [vf (by omega) (by omega)];refine ⟨by simp,?_,?_⟩<;>(unfold od;simp only;split<;>omega)
theorem J5(h:0<=d)(b:d<18446744073709551616):OK (fX d) (λr=>d<=r/\r<18446744073709551616):=by
 obtain ⟨d,rfl⟩:=zof h;obtain ⟨k,c,a,f,_⟩:=tP (n:=d) (by omega);unfold fX;simp only [a,zbs];rw [fL (by omega)];refine b9 ?_
 have e:Ah .u64 1 (k:Int)=((2^k%18446744073709551616:Nat):Int):=by
  grind [rx]
 rw [e];by_cases g:k=64
 ·grind [vc,tO,xh]
 ·have i:(2:Nat)^k<=2^63:=Nat.pow_le_pow_right (by omega) (by omega)
  grind [vf]
theorem Pu(q:SW a)(r:SW f):OK (iw a f) SW:=by
 obtain ⟨g,c⟩:=a;obtain ⟨b,A⟩:=f;obtain ⟨l,s,t⟩:=q;obtain ⟨m,u,v⟩:=r;simp only at l s t m u v;obtain ⟨g,rfl⟩:=zof l;obtain ⟨b,rfl⟩:=zof m;obtain ⟨c,rfl⟩:=zof (show 0<=c by omega);obtain ⟨k,B,w,p,C,D⟩:=tP (n:=c) (by omega);unfold iw xW;simp only [w,zbs,iH];refine d6 (R:=λo=>o=false->(k=0\/k+b<=64)) ?_ (λo x=> ?_)
 ·refine d5 (λ_=>b9 (by simp)) (λ_=>d5 (λy=> ?_) (λy=>b9 (λ_=>.inl ?_)))
  ·refine d5 (λ_=>b9 (by simp)) (λE=>b9 (λF=>.inr ?_))
   grind [vf]
  grind
 ·refine d5 (λ_=>b9 SW.full) (λh=> ?_);rw [fL (by omega)];simp only [zbs];refine b9 ?_
  have e:∀n:Nat,Ah .u64 (n:Int) (b:Int)=((n*2^(min b 64)%18446744073709551616:Nat):Int):=by
   grind [rx]
  rw [e,e];rcases x h with i|i
  ·have d:c=0:=by subst i;simp at p;omega
   have j:g=0:=by omega
   subst d;subst j;exact ⟨by simp,by simp,by simp⟩
  ·rw [show min b 64=b by omega]
   have d:c*2^b<18446744073709551616:=by
    have j:c*2^b<2^k*2^b:=Nat.mul_lt_mul_of_pos_right p (Nat.pow_pos (by omega));rw [<- Nat.pow_add] at j;have G:(2:Nat)^(k+b)<=2^64:=Nat.pow_le_pow_right (by omega) i;omega
   have z:g*2^b<=c*2^b:=r6 _ (by omega);rw [TD d,TD (by omega)];exact ⟨Int.natCast_nonneg _,Tq.2 z,Int.ofNat_lt.2 d⟩
theorem Bi{op a b:Int}(c:0<=a)(d:a<18446744073709551616)(f:0<=b)(i:b<18446744073709551616):OK (gJ op a b) (λr=>0<=r.1/\r.1<18446744073709551616/\r.2=(decide (1<=op)&&decide (op<=10))):=by
 unfold gJ
 have q:∀k:Int,1<=k->k<=10->(op==k)=true->true=(decide (1<=op)&&decide (op<=10)):=by
  grind
 refine d5 (λh=>b9 ⟨(xh _).1,(xh _).2,q 1 (by omega) (by omega) h⟩) (λj=> ?_);refine d5 (λh=>b9 ⟨(xh _).1,(xh _).2,q 2 (by omega) (by omega) h⟩) (λl=> ?_);refine d5 (λh=>b9 ⟨(xh _).1,(xh _).2,q 3 (by omega) (by omega) h⟩) (λm=> ?_);refine d5 (λh=> ?_) (λo=> ?_)
 ·refine d5 (λ_=>b9 ⟨by simp,by simp,q 4 (by omega) (by omega) h⟩) (λg=> ?_)
  grind [ny,b9,xh]
 refine d5 (λh=> ?_) (λp=> ?_)
 ·refine d5 (λ_=>b9 ⟨c,d,q 5 (by omega) (by omega) h⟩) (λg=> ?_);rw [ny (by simpa using g)];obtain ⟨a,rfl⟩:=zof c;obtain ⟨b,rfl⟩:=zof f;have e:(a:Int).tmod (b:Int)=((a%b:Nat):Int):=rfl;have:=Nat.mod_le a b
  grind [b9]
 refine d5 (λh=>b9 ⟨(EX _ _).1,(EX _ _).2,q 6 (by omega) (by omega) h⟩) (λs=> ?_);refine d5 (λh=>b9 ⟨(CR _ _).1,(CR _ _).2,q 7 (by omega) (by omega) h⟩) (λt=> ?_);refine d5 (λh=>b9 ⟨(J3 _ _).1,(J3 _ _).2,q 8 (by omega) (by omega) h⟩) (λu=> ?_);refine d5 (λh=> ?_) (λv=> ?_)
 ·grind [fL,b9,J4]
 refine d5 (λh=> ?_) (λn=>b9 ⟨by simp,by simp,?_⟩)
 ·rw [fL f];have:=EY (y:=b) c d;exact b9 ⟨this.1,by grind,q 10 (by omega) (by omega) h⟩
 grind
theorem Rk{op:Int}(d:SW a)(f:SW e):OK (oS op a e) (λr=>SW r.1):=by
 obtain ⟨i,m,j⟩:=id d;obtain ⟨k,n,p⟩:=id f;unfold oS;refine d6 (Bi (op:=op) (a:=a.Lo) (b:=e.Lo) i (by omega) k (by omega)) (λr l=> ?_);simp only [lJ,zbs];refine d6 (R:=λo=>o=false->1<=op/\op<=10) ?_ (λo q=> ?_)
 ·refine d5 (λ_=>b9 (by simp)) (λh=> ?_)
  have s:1<=op/\op<=10:=by
   grind
  exact d5 (λ_=>b9 (by simp)) (λ_=>b9 (λ_=>s))
 refine d5 (λ_=>b9 SW.zero) (λh=> ?_);obtain ⟨u,v⟩:=q h;refine d6 (R:=λ_=>True) ?_ (λ_ _=> ?_)
 ·unfold xW;exact d5 (λ_=>b9 trivial) (λ_=>b9 trivial)
 refine d5 (λ_=>b9 (SW.one l.1 l.2.1)) (λ_=> ?_);have fwd:∀{o:Option zh},OK o SW->OK (o.bind λr=>some (r,true)) (λr=>SW r.1):=λh=>d6 h (λx g=>b9 g)
 refine d5 (λ_=>fwd (Rj d f)) (λ_=> ?_);refine d5 (λ_=>d5 (λ_=>fwd (b9 SW.full)) (λh=>b9 ?_)) (λ_=> ?_)
 ·have h:=z8 h;rw [vf (by omega) (by omega),vf (by omega) (by omega)];exact ⟨by simp;omega,by simp;omega,by simp;omega⟩
 refine d5 (λ_=>fwd (Hq d f)) (λ_=> ?_);refine d5 (λ_=>fwd (Hr d f)) (λ_=> ?_);refine d5 (λ_=>fwd (Pt d f)) (λ_=> ?_);refine d5 (λ_=>b9 ⟨by simp,?_,?_⟩) (λ_=> ?_)
 ·grind [od]
 ·grind [od]
 have t:=EW (x:=a.Hi) (y:=e.Hi) (by omega) j (by omega) p;have c:=CR a.Hi e.Hi;refine d5 (λ_=>d6 (J5 c.1 c.2) (λx g=>b9 ⟨?_,?_,?_⟩)) (λ_=> ?_)
 ·grind [sC]
 ·grind [sC]
 ·exact g.2
 refine d5 (λ_=>d6 (J5 c.1 c.2) (λx g=>b9 ⟨by simp,?_,?_⟩)) (λ_=> ?_)
 ·show 0<=x;omega
 ·exact g.2
 refine d5 (λ_=>fwd (Pu d f)) (λ_=> ?_);rw [fL (show 0<=e.Hi by omega)];simp only [zbs];rw [fL k];refine b9 ⟨(EY i (by omega)).1,Bg i m n,?_⟩;have:=(EY (y:=e.Lo) (show 0<=a.Hi by omega) j).2
 grind
open Go.Sx
def pY:zi:=⟨0,⟨0,0⟩,0⟩
def WT(n:Nat)(x:zi):Prop:=x=pY\/(x.TY=1/\SW x.Uy/\x.UI=0)\/(x.TY=2/\x.Uy=⟨0,0⟩/\0<=x.UI/\x.UI<n)
theorem WT.span(h:WT n o):SW o.Uy:=by
 rcases h with rfl|h|h
 ·exact SW.zero
 ·exact h.2.1
 grind [SW.zero]
theorem WT.num(h:SW a):WT n ⟨1,a,0⟩:=.inr (.inl ⟨rfl,h,rfl⟩)
theorem WT.zero:WT n pY:=.inl rfl
theorem lF(s:zh):vk s=some ⟨1,s,0⟩:=rfl
theorem np(h:SW a):vO a=some true:=by rw [lJ,decide_eq_true h.2.1]
theorem SW.join(h:SW a)(b:SW e):SW ⟨od (od 18446744073709551615 a.Lo) e.Lo,sC (sC 0 a.Hi) e.Hi⟩:=by
 obtain ⟨c,d,f⟩:=h;obtain ⟨g,i,j⟩:=b;unfold od sC;refine ⟨?_,?_,?_⟩<;>simp only<;>(repeat' split)<;>omega
theorem OR(h:SW a)(b:SW e):mX [a,e]=some (⟨od (od 18446744073709551615 a.Lo) e.Lo,sC (sC 0 a.Hi) e.Hi⟩,true):=by
 unfold mX;simp [jN,sR,idx,np h,np b]
def EH(a b:zi):zi:=
 if (a.TY !=b.TY)||(a.UI !=b.UI) then pY
 else if a.TY==1 then ⟨1,⟨od (od 18446744073709551615 a.Uy.Lo) b.Uy.Lo,sC (sC 0 a.Uy.Hi) b.Uy.Hi⟩,0⟩
 else a
theorem Cy(h:SW o.Uy)(a:SW r.Uy):fY o r=some (EH o r):=by
 unfold fY EH;rw [OR h a];split
 ·rfl
 ·split<;>rfl
theorem WT.join(h:WT n o)(a:WT n r):WT n (EH o r):=by
 unfold EH;split
 ·exact WT.zero
 ·split
  ·exact WT.num (SW.join h.span a.span)
  ·exact h
theorem Js(b:SW a)(c:SW e):eL [a,e]=some (if sC (sC 0 a.Lo) e.Lo<=od (od 18446744073709551615 a.Hi) e.Hi then (⟨sC (sC 0 a.Lo) e.Lo,od (od 18446744073709551615 a.Hi) e.Hi⟩,true) else (⟨0,0⟩,false)):=by
 unfold eL;simp only [iH,zbs];by_cases h:sC (sC 0 a.Lo) e.Lo<=od (od 18446744073709551615 a.Hi) e.Hi
 ·simp [jN,mY,idx,Int.not_lt.2 b.2.1,Int.not_lt.2 c.2.1,lJ,h]
 ·simp [jN,mY,idx,Int.not_lt.2 b.2.1,Int.not_lt.2 c.2.1,lJ,h]
theorem EI(b:SW a)(c:SW e):OK (eL [a,e]) (λr=>SW r.1):=by
 refine ⟨_,Js b c,?_⟩;obtain ⟨d,f,g⟩:=b;obtain ⟨i,j,k⟩:=c;split
 ·rename_i h
  refine ⟨?_,h,?_⟩
  ·grind [sC]
  grind [od]
 ·exact SW.zero
theorem F1(op a b:Int):OK (bm op a b) (λr=>r.2=inB op 16 19):=by
 unfold bm
 have q:∀k:Int,16<=k->k<=19->(op==k)=true->true=inB op 16 19:=by
  grind [inB]
 refine d5 (λh=>b9 (q 16 (by omega) (by omega) h)) (λn=> ?_);refine d5 (λh=>b9 (q 17 (by omega) (by omega) h)) (λc=> ?_);refine d5 (λh=>b9 (q 18 (by omega) (by omega) h)) (λd=> ?_);refine d5 (λh=>b9 (q 19 (by omega) (by omega) h)) (λe=>b9 ?_)
 grind [inB]
theorem Cz{op:Int}(b:SW a)(f:SW e):OK (dY op a e h) (λr=>SW r.1):=by
 obtain ⟨l,p,m⟩:=id b;obtain ⟨n,q,s⟩:=id f;unfold dY;refine d6 (F1 op 0 0) (λr t=> ?_);simp only [np b,np f,zbs];refine d6 (R:=λ_=>True) (d5 (λ_=>b9 trivial) (λ_=>d5 (λ_=>b9 trivial) (λ_=>b9 trivial))) (λo _=> ?_);refine d5 (λ_=>b9 SW.zero) (λ_=> ?_);unfold xW;simp only [zbs];refine d5 (λ_=>b9 b) (λi=> ?_);have i:e.Lo=e.Hi:=by simpa using i
 refine d6 (R:=λ_=>True) (d5 (λ_=>b9 trivial) (λ_=>d5 (λ_=>b9 trivial) (λ_=>b9 trivial))) (λo _=> ?_);refine d5 (λ_=>d5 (λ_=>b9 SW.zero) (λj=> ?_)) (λ_=> ?_)
 ·have j:e.Lo≠0:=by simpa using j
  refine d6 (EI b ?_) (λx c=>b9 c);rw [vf (by omega) (by omega)];exact ⟨by simp,by simp;omega,by simp;omega⟩
 refine d6 (R:=λ_=>True) (d5 (λ_=>b9 trivial) (λ_=>b9 trivial)) (λo _=> ?_);refine d5 (λ_=>d6 (EI b ⟨n,by simp;omega,by simp⟩) (λx c=>b9 c)) (λ_=> ?_);refine d6 (R:=λ_=>True) (d5 (λ_=>b9 trivial) (λ_=>d5 (λ_=>b9 trivial) (λ_=>b9 trivial))) (λo _=> ?_);refine d5 (λ_=>d6 (EI b f) (λx c=>b9 c)) (λ_=> ?_);refine d5 (λ_=>b9 SW.zero) (λg=> ?_)
 have g:¬ (a.Lo=e.Lo/\a.Hi=e.Hi):=by
  grind
 refine d5 (λd=>b9 ?_) (λd=> ?_)
 ·have d:a.Lo=e.Lo:=by simpa using d
  rw [vf (by omega) (by omega)];exact ⟨by simp;omega,by simp;omega,by simpa using m⟩
 refine d5 (λk=>b9 ?_) (λ_=>b9 b);have d:a.Lo≠e.Lo:=by simpa using d
 have k:a.Hi=e.Lo:=by simpa using k
 rw [vf (by omega) (by omega)];exact ⟨by simpa using l,by simp;omega,by simp;omega⟩
theorem kG(l:List zi):OK (vN l) (λ_=>True):=by
 unfold vN;refine d6 (i5 (Q:=λ_=>True) (λ_ _=>True) trivial (λi s a h _ k=> ?_) (λ_ _=>trivial)) (λo _=> ?_)
 ·unfold lY;exact g9 (i9 h (λx _=>d5 (λ_=>b9 trivial) (λ_=>k _ trivial)))
 grind [b9]
theorem tN(l:List Int):OK (fw l) (λr=>r=0->∀x∈l,x=0):=by
 unfold fw;refine d6 (i5 (Q:=λo=>match o with|.inl _=>∀x∈l,x=0|.inr r=>r≠0) (λi _=>∀q x,q<i->l[q]? =some x->x=0) (λq x h=>by omega) (λi s a c d k=> ?_) (λ_ d=> ?_)) (λo f=> ?_)
 ·unfold oA;refine g9 (i9 c (λx b=>d5 (λh=>b9 (by simpa using h)) (λh=>k _ (λq y e g=> ?_))))
  grind
 ·intro x b;obtain ⟨q,e⟩:=List.mem_iff_getElem?.1 b
  grind
 grind [b9]
theorem pZ(a b:zh):OK (dW a b) (λr=>r=true↔a.Lo<=a.Hi/\b.Lo<=a.Lo/\a.Hi<=b.Hi):=by
 unfold dW;rw [lJ];simp only [zbs];refine d6 (R:=λr=>r=true↔a.Lo<=a.Hi/\b.Lo<=a.Lo/\a.Hi<=b.Hi) ?_ (λx d=>b9 d);refine d5 (λh=>d5 (λc=>b9 ?_) (λc=>b9 ?_)) (λh=>b9 ?_)
 ·simp at h c |-;omega
 ·simp at h c |-;omega
 ·simp at h |-;omega
def EJ(a b:zi):Prop:=(b.TY=1->a.TY=1/\a.Uy.Lo<=a.Uy.Hi/\b.Uy.Lo<=a.Uy.Lo/\a.Uy.Hi<=b.Uy.Hi)/\(b.TY=2->a=b)
theorem OT(h:((o.TY==r.TY)&&(((o.Uy.Lo==r.Uy.Lo)&&((o.Uy.Hi==r.Uy.Hi)&&true))&&((o.UI==r.UI)&&true)))=true):o=r:=by
 obtain ⟨k,⟨l,b⟩,m⟩:=o;obtain ⟨c,⟨d,a⟩,e⟩:=r
 grind
theorem ED(a b:zi):OK (lw a b) (λr=>r=true->EJ a b):=by
 unfold lw;refine d5 (λc=> ?_) (λc=>d5 (λd=>b9 ?_) (λd=>b9 ?_))
 ·have c:b.TY=1:=by simpa using c
  refine d6 (R:=λr=>r=true->EJ a b) ?_ (λx f=>b9 f);refine d5 (λd=>d6 (pZ _ _) (λx f=>b9 (λe=>⟨λ_=>⟨by simpa using d,f.1 e⟩,λg=>by omega⟩))) (λ_=>b9 (λe=>by cases e))
 ·intro h;have c:b.TY≠1:=by simpa using c
  exact ⟨λe=>absurd e c,λ_=>OT h⟩
 ·intro _;have c:b.TY≠1:=by simpa using c
  have d:b.TY≠2:=by simpa using d
  exact ⟨λe=>absurd e c,λe=>absurd e d⟩
theorem AW(t:zi):OK (gS t) (λ_=>True):=by
 unfold gS;exact d6 (pZ _ _) (λx _=>d5 (λ_=>b9 trivial) (λ_=>b9 trivial))
theorem oZ(h:xg i=true)(a:¬ (15<=i.Op/\i.Op<=20)):0<=i.D/\i.D<8:=by
 unfold xg at h;simp only [inB,uH] at h;simp only [zae,s7,zdq,x3] at h
 iterate 11 (all_goals (try split at h))
 all_goals simp only [zae,s7,zdq,x3,zfe] at h
 all_goals omega
theorem pe(h:xg i=true):0<=i.A/\i.A<8:=by
 unfold xg at h;simp only [inB,uH] at h;simp only [zae,s7,zdq,x3] at h
 iterate 11 (all_goals (try split at h))
 all_goals simp only [zae,s7,zdq,x3,zfe] at h
 all_goals omega
theorem nW(h:xg i=true):0<=i.Op/\i.Op<=22:=by
 unfold xg at h;simp only [inB,uH] at h;simp only [zae,s7,zdq,x3] at h
 iterate 11 (all_goals (try split at h))
 all_goals simp only [zae,s7,zdq,x3,zfe] at h
 all_goals omega
theorem bE(h:xg i=true)(a:i.Op<=12\/(16<=i.Op/\i.Op<=19)):i.B=8\/(0<=i.B/\i.B<8):=by
 unfold xg at h;simp only [inB,uH,Qb] at h;simp only [zae,s7,zdq,x3] at h
 iterate 11 (all_goals (try split at h))
 all_goals simp only [zae,s7,zdq,x3,zfe] at h
 all_goals omega
theorem nq(h:xg i=true)(a:i.Op=21):0<=i.UN/\i.UN<=6:=by
 unfold xg at h;simp only [inB,uH] at h;simp [a] at h;omega
theorem pf(h:xg i=true)(a:i.Op=14):0<=i.UN/\i.UN<=3:=by
 grind [xg,inB,uH]
theorem Ha(h:0<=d)(a:d<8):ain 8 d=some d.toNat:=by grind [ain]
theorem Q7(h:q<n):ain n (q:Int)=some q:=by grind [ain]
theorem F3(op:Int)(b:0<=op)(d:op<23):∃f,fg op=some (f,true)/\jx f 100=some (decide (op<=11)||decide (op=13)||decide (op=14))/\jx f 115=some (decide (op<=12)||(decide (16<=op)&&decide (op<=19))):=by
 have h:∀k:Fin 23,∃f,fg ((k:Nat):Int)=some (f,true)/\jx f 100=some (decide (((k:Nat):Int)<=11)||decide (((k:Nat):Int)=13)||decide (((k:Nat):Int)=14))/\jx f 115=some (decide (((k:Nat):Int)<=12)||(decide (16<=((k:Nat):Int))&&decide (((k:Nat):Int)<=19))):=by
  intro k
  have c:∃f,fg ((k:Nat):Int)=some (f,true):=by
   obtain ⟨f,a,_⟩:=JA ((k:Nat):Int) (by omega) (by omega);exact ⟨f,a⟩
  obtain ⟨f,a⟩:=c;have key:∀k:Fin 23,((fg ((k:Nat):Int)).bind λr=>jx r.1 100)=some (decide (((k:Nat):Int)<=11)||decide (((k:Nat):Int)=13)||decide (((k:Nat):Int)=14))/\((fg ((k:Nat):Int)).bind λr=>jx r.1 115)=some (decide (((k:Nat):Int)<=12)||(decide (16<=((k:Nat):Int))&&decide (((k:Nat):Int)<=19))):=by decide+kernel
  grind
 obtain ⟨n,rfl⟩:=zof b;exact h ⟨n,by omega⟩
theorem CA(h:xg i=true):OK (cQ i) (λr=>r.2=true->0<=r.1/\r.1<8):=by
 have a:=nW h;obtain ⟨f,b,c,_⟩:=F3 i.Op a.1 (by omega);unfold cQ;simp only [fJ,h,b,c,zbs];refine d5 (λe=>by cases e) (λ_=>d5 (λe=>b9 (λ_=>oZ h (by simp at e;omega))) (λ_=>b9 (λ_=>by simp)))
theorem sT(h:xg i=false):OK (cQ i) (λr=>r.2=true->0<=r.1/\r.1<8):=by
 grind [cQ,fJ,b9]
theorem CB(h:xg i=true):lu i=some (decide (i.Op<=12)||(decide (16<=i.Op)&&decide (i.Op<=19))):=by
 have a:=nW h
 grind [F3,lu,fJ]
def Nw(i:zf)(k:Nat->zi):zi:=if i.B==8 then ⟨1,⟨vc i.UN,vc i.UN⟩,0⟩ else k i.B.toNat
theorem F4(h:i.B=8\/(0<=i.B/\i.B<8)):et i x=some (Nw i x):=by
 unfold et Nw;rcases zft (i.B==8) with e|e
 ·rw [d7 e,d7 e];rfl
 grind [Ha]
theorem AX(h:i.B=8\/(0<=i.B/\i.B<8))(a:∀r,r<8->WT n (x r)):WT n (Nw i x):=by
 grind [Nw,WT.num,SW.one,xh]
structure JI (m:zE) (j:zj):Prop where
 VY:j.Uq=m
 VQ:j.came.length=m.Code.length
 VP:j.any.length=m.Code.length
 lps:j.loops=lps m.Code m.Code.length
 wt:∀(q:Nat)(x:Nat->zi),j.came[q]? =some x->∀r,r<8->WT m.Maps.length (x r)
theorem aR{p:Nat}(h:p<xs.length):∃x,xs[p]? =some x/\idx xs (p:Int)=some x:=⟨xs[p],zeg h,KF h⟩
theorem Nx(h:q≠n):(xs.set n v)[q]? =xs[q]? :=TE (λe=>h e.symm)
theorem JI.put(h:JI m j){p:Nat}(e:∀r,r<8->WT m.Maps.length (x r))(A:List Bool)(b:A.length=m.Code.length):JI m {j with came:=j.came.set p x,any:=A}:=
 ⟨h.VY,by simpa using h.VQ,b,h.lps,λq y a r c=>by
  simp only at a;by_cases d:q=p
  ·grind
  ·rw [Nx d] at a;exact h.wt q y a r c⟩
theorem ns(h:∀r,r<8->WT n (x r))(a:WT n o):∀r,r<8->WT n (aset x q o r):=by
 grind [aset]
theorem Jt(h:JI m j)(k:n<m.Code.length)(l:∀r,r<8->WT m.Maps.length (x r)):
  OK (jf j (n:Int) x) (λj'=>JI m j'/\j'.any=j.any.set n true/\∀q,q≠n->j'.came[q]? =j.came[q]?):=by
 unfold jf;obtain ⟨a,E,t⟩:=aR (xs:=j.any) (p:=n) (by rw [h.VP];exact k)
 obtain ⟨c,F,u⟩:=aR (xs:=j.came) (p:=n) (by rw [h.VQ];exact k)
 simp only [t,u,zbs,l6];refine d5 (λ_=>b9 ⟨h.put l _ (by simpa using h.VP),rfl,λq w=>Nx w⟩) (λA=> ?_);have B:a=true:=by simpa using A
 have d:j.any.set n true=j.any:=by
  apply o4
  grind
 refine d6 (i5 (λ_ s=>JI m s/\s.any=j.any.set n true/\∀q,q≠n->s.came[q]? =j.came[q]?) ⟨h,d.symm,λ_ _=>rfl⟩ (λi s v g b C=> ?_) (λs b=>b)) (λo D=>b9 D);unfold dX;obtain ⟨y,e,f⟩:=aR (xs:=s.came) (p:=n) (by rw [b.1.VQ];exact k)
 have z:=b.1.wt n y e i g;simp only [f,Q7 g,zbs,Cy z.span (l i g).span,l6];exact C _ ⟨b.1.put (ns (b.1.wt n y e) (z.join (l i g))) _ b.1.VP,b.2.1,λq w=>by grind⟩
theorem F5{lo:Nat}(h:lo<=n)(a:n<=xs.length):cut xs (lo:Int) (n:Int)=some ((xs.take n).drop lo):=by
 unfold cut;rw [d7 ⟨by omega,by omega,by omega⟩];simp
theorem F6(h:JI m j)(y:wj m.Code)(A:n<m.Code.length):
  OK (xx j (n:Int)) (λj'=>JI m j'/\j'.any=j.any/\∀q,q≠n->j'.came[q]? =j.came[q]?):=by
 unfold xx;refine d6 (i5 (Q:=λj'=>JI m j'/\j'.any=j.any/\∀q,q≠n->j'.came[q]? =j.came[q]?) (λ_ s=>JI m {j with came:=s}/\∀q,q≠n->s[q]? =j.came[q]?) ⟨⟨h.VY,h.VQ,h.VP,h.lps,h.wt⟩,λ_ _=>rfl⟩ (λi s c t b k=> ?_) (λs b=>⟨b.1,rfl,b.2⟩)) (λo u=>b9 u);unfold dp;refine g9 (i9 t (λl hl=>d5 (λ_=>k _ b) (λI=> ?_)));rw [h.lps] at hl;obtain ⟨a,g,J,v,w,rfl⟩:=oV.1 (zmg hl);have B:=y.Vd.loop v w;have K:=y.Wq;have C:(jH g a).Vm=(((a:Int)-g.D).toNat:Int):=by show (a:Int)-g.D=_;omega
 have E:w64 ((jH g a).At+1)=((a+1:Nat):Int):=by show w64 ((a:Int)+1)=_;rw [qq (by omega) (by omega)];simp
 rw [C,E,h.VY,F5 (by omega) (by omega)];simp only [zbs];refine d6 (i5 (λ_ s=>JI m {j with came:=s}/\∀q,q≠n->s[q]? =j.came[q]?) b (λi s c t b k=> ?_) (λs b=>b)) (λo u=>k _ u);unfold dl;refine g9 (i9 t (λx L=> ?_))
 have d:OK (cQ x) (λr=>r.2=true->0<=r.1/\r.1<8):=by
  grind [xg,CA,sT]
 refine d6 d (λr d=>d5 (λ_=>k _ b) (λF=> ?_));have d:=d (by simpa using F);obtain ⟨z,e,f⟩:=aR (xs:=s) (p:=n) (by rw [show s.length=m.Code.length from b.1.VQ];exact A)
 simp only [f,Ha d.1 d.2,zbs,iH,lF,l6];refine d5 (λ_=>k _ ⟨b.1.put (ns (b.1.wt n z e) (WT.num SW.full)) _ b.1.VP,λq G=>by grind⟩) (λ_=>k _ ⟨b.1.put (ns (b.1.wt n z e) WT.zero) _ b.1.VP,λq G=>by grind⟩)
open Go.Sx
def Way(code:List zf)(p q:Nat):Prop:=∃i,code[p]? =some i/\((jv i).2.2=true/\q=p+1\/(jv i).2.1=true/\0<(jv i).1/\(q:Int)=p+(jv i).1)
structure Hb (code:List zf) (p:Nat) (j j':zj):Prop where
 same:∀q:Nat,q<=p->j'.came[q]? =j.came[q]? /\j'.any[q]? =j.any[q]?
 keep:∀q:Nat,j.any[q]? =some true->j'.any[q]? =some true
 new:∀q:Nat,j'.any[q]? =some true->j.any[q]? =some true\/Way code p q
theorem Hb.refl(code:List zf)(p:Nat)(j:zj):Hb code p j j:=⟨λ_ _=>⟨rfl,rfl⟩,λ_ h=>h,λ_ h=>.inl h⟩
theorem Hb.trans(h:Hb code n j j')(k:Hb code n j' c):Hb code n j c:=
 ⟨λq a=>⟨(k.same q a).1.trans (h.same q a).1,(k.same q a).2.trans (h.same q a).2⟩,λq a=>k.keep q (h.keep q a),λq a=>(k.new q a).elim (λe=>h.new q e) .inr⟩
theorem OU(b:j.any.length=code.length)(c:n<q)(d:Way code n q)(e:j'.any=j.any.set q true)(a:∀t,t≠q->j'.came[t]? =j.came[t]?):Hb code n j j':=by
 refine ⟨λt h=>⟨a t (by omega),by grind⟩,λt h=> ?_,λt h=> ?_⟩
 ·grind
 grind
theorem Ju(h:(jv i).2.1=true):(0<(jv i).1/\15<=i.Op/\i.Op<=19/\(jv i).2.2=(i.Op !=15))\/((jv i).1<0/\i.Op=20/\(jv i).2.2=true):=by
 unfold jv at h |-;by_cases a:eO i=true
 ·have:=sV a
  grind
 ·rw [d8 a] at h |-;by_cases hl:mz i=true
  ·have:=F7 hl
   grind
  grind
theorem Jv(h:JI m j)(g:wj m.Code)(O:n<m.Code.length)(e:∀r,r<8->WT m.Maps.length (z r)):
  OK (xX j (n:Int) z) (λj'=>JI m j'/\Hb m.Code n j j'):=by
 have U:=g.Wq;obtain ⟨i,b,A⟩:=aR O;have f:=g.Vd.right b;unfold xX;rw [h.VY,A];simp only [nX,zbs];have I:w64 ((n:Int)+1)=((n+1:Nat):Int):=by grind [qq]
 have step:∀{j:zj} {q:Nat} {z:Nat->zi},JI m j->n<q->q<m.Code.length->Way m.Code n q->(∀r,r<8->WT m.Maps.length (z r))->OK (jf j (q:Int) z) (λj'=>JI m j'/\Hb m.Code n j j'):=
  λJ B C P e=>(Jt J C e).mono (λj' c=>⟨c.1,OU J.VP B P c.2.1 c.2.2⟩)
 refine d5 (λQ=>d6 (d5 (λa=> ?_) (λ_=>b9 ⟨h,Hb.refl _ _ _⟩)) (λo k=>b9 k)) (λQ=> ?_)
 ·rw [I];exact d6 (step h (by omega) (g.Vd.on b a) ⟨i,b,.inl ⟨a,rfl⟩⟩ e) (λx l=>b9 l)
 have hl:(jv i).2.1=true/\0<=(jv i).1:=by grind
 have S:0<(jv i).1:=by
  rcases Ju hl.1 with K|K
  ·exact K.1
  ·omega
 have d:=g.Vd.leads b hl.1;obtain ⟨q,B⟩:=zof d.1;have eq:w64 ((n:Int)+(jv i).1)=(q:Int):=by grind [qq]
 have D:(q:Int)=n+(jv i).1:=B.symm;have E:Way m.Code n q:=⟨i,b,.inr ⟨hl.1,S,D⟩⟩
 refine d5 (λ_=> ?_) (λa=> ?_)
 ·grind
 have a:(jv i).2.2=true:=by simpa using a
 have p:16<=i.Op/\i.Op<=19:=by
  grind [Ju]
 have L:=bE f (.inr p);have M:=pe f;rw [F4 L];simp only [zbs];refine d6 (i5 (λ_ s=>JI m s/\Hb m.Code n j s) ⟨h,Hb.refl _ _ _⟩ (λt s F T u N=> ?_) (λs u=>u)) (λo k=>b9 k);unfold dZ;refine g9 (i9 (by simpa using T) (λx l=> ?_));refine d6 (R:=λ(o:Int)=>∃v:Nat,o=(v:Int)/\n<v/\v<m.Code.length/\Way m.Code n v) ?_ (λo k=> ?_)
 ·refine d5 (λ_=>b9 ⟨n+1,I,by omega,g.Vd.on b a,i,b,.inl ⟨a,rfl⟩⟩) (λ_=>b9 ⟨q,eq,by omega,by omega,E⟩)
 obtain ⟨v,rfl,w,y,G⟩:=k;rw [Ha M.1 M.2];simp only [zbs];refine d6 (R:=λr=>SW r.1) (d6 (Cz (e _ (by omega)).span (AX L e).span) (λr f=>b9 f)) (λr f=> ?_);refine d5 (λ_=> ?_) (λ_=>N _ u);simp only [lF,zbs];exact d6 (step u.1 w y G (ns e (WT.num f))) (λx l=>N _ ⟨l.1,u.2.trans l.2⟩)
theorem EK:∀k:Fin 7,∃l,xY 2199023255552 ((k:Nat):Int)=some l/\l.length<=3:=by
 have h:∀k:Fin 7,∃n:Fin 4,(xY 2199023255552 ((k:Nat):Int)).map (·.length)=some (n:Nat):=by decide+kernel
 intro k;obtain ⟨n,a⟩:=h k;obtain ⟨l,b,c⟩:=yp.1 a
 grind
theorem CC:∀k:Fin 7,∃s,dq ((k:Nat):Int)=some (s,true)/\0<=s.most/\s.most<18446744073709551616:=by
 intro k;have h:∀k:Fin 7,((dq ((k:Nat):Int)).map (λr=>r.2&&decide (0<=r.1.most)&&decide (r.1.most<18446744073709551616)))=some true:=by decide+kernel
 obtain ⟨⟨s,b⟩,a,c⟩:=yp.1 (h k)
 grind
theorem Jw(k:Fin 7){l:List zi}(h:xY 2199023255552 ((k:Nat):Int)=some l)(b:List zi):OK (fy 2199023255552 ((k:Nat):Int) b) (λ_=>True):=by
 obtain ⟨s,c,_⟩:=CC k;unfold fy;simp only [c,h,zbs];refine d5 (λ_=>b9 trivial) (λ_=>d5 (λ_=>b9 trivial) (λhl=> ?_))
 have hl:l.length=b.length:=by
  grind
 refine d6 (i5 (Q:=λ_=>True) (λ_ _=>True) trivial (λi s a d _ e=> ?_) (λ_ _=>trivial)) (λo _=> ?_)
 ·unfold lZ;refine g9 (i9 d (λx _=>g9 (i9 (by omega) (λy _=> ?_))));refine d5 (λ_=>b9 trivial) (λ_=>d6 (R:=λ_=>True) ?_ (λo _=>d5 (λ_=>b9 trivial) (λ_=>e _ trivial)));exact d5 (λ_=>d6 (pZ _ _) (λx _=>b9 trivial)) (λ_=>b9 trivial)
 grind [b9]
def One(m:zE)(j:zj)(p:Nat)(r:(Nat->zi)×Int):Prop:=
 r.2=0->(∀q,q<8->WT m.Maps.length (r.1 q))/\∀i,m.Code[p]? =some i->i.Op=20->∀q,q<8->∀x h,j.came[p]? =some x->j.came[((p:Int)-i.D).toNat]? =some h->EJ (x q) (h q)
theorem Ny(h:JI m j)(A:wj m.Code)(hp:y<m.Code.length):
  OK (vy 2199023255552 j (y:Int)) (One m j y):=by
 have B:=A.Wq;obtain ⟨i,hi,C⟩:=aR hp;obtain ⟨k,E,F⟩:=aR (xs:=j.came) (p:=y) (by rw [h.VQ];exact hp)
 have G:=h.wt y k E;have f:=A.Vd.right hi;have hop:=nW f;have hA:=pe f;unfold vy;rw [h.VY,C,F];simp only [zbs,CB f]
 have d:∀{r:(Nat->zi)×Int},i.Op≠20->(r.2=0->∀q,q<8->WT m.Maps.length (r.1 q))->One m j y r:=by
  intro r hne hw z
  grind
 refine d6 (R:=λt=>WT m.Maps.length t) ?_ (λs hs=> ?_)
 ·refine d5 (λhsrc=> ?_) (λ_=>b9 WT.zero)
  grind [bE,F4,b9,AX]
 rw [Ha hA.1 hA.2];simp only [zbs,iH,lF];have hD:¬ (15<=i.Op/\i.Op<=20)->ain 8 i.D=some i.D.toNat:=λh=>Ha (oZ f h).1 (oZ f h).2
 have I:∀{v:zi} {t:Nat},WT m.Maps.length v->∀q,q<8->WT m.Maps.length (aset k t v q):=λhv=>ns G hv
 refine d5 (λe=> ?_) (λe0=> ?_)
 ·have e:i.Op=0:=by simpa using e
  refine d5 (λ_=>b9 (d (by omega) (λh=>by simp at h))) (λ_=> ?_)
  grind [b9]
 refine d5 (λe=> ?_) (λJ=> ?_)
 ·have e:i.Op=11:=by simpa using e
  rw [hD (by omega)];simp only [zbs];exact d6 (kG _) (λa _=>d6 (AW _) (λb _=>d6 (tN _) (λc _=>b9 (d (by omega) (λ_=>I (WT.num SW.full))))))
 refine d5 (λe=> ?_) (λK=> ?_)
 ·grind [d6,kG,AW,tN,b9]
 refine d5 (λe=> ?_) (λL=> ?_)
 ·grind [b9,WT.num,SW.full]
 refine d5 (λe=> ?_) (λM=> ?_)
 ·have e:i.Op=14:=by simpa using e
  have g:=pf f e;rw [hD (by omega)];simp only [zbs];refine d5 (λ_=>b9 (d (by omega) (λh=>by simp at h))) (λhlt=>b9 (d (by omega) (λ_=>I (.inr (.inr ⟨rfl,rfl,g.1,?_⟩)))))
  grind
 refine d5 (λe=> ?_) (λN=> ?_)
 ·grind [b9]
 refine d6 (R:=λo=>o=inB i.Op 16 19) ?_ (λo ho=> ?_)
 ·refine d5 (λe=>b9 ?_) (λe=>d5 (λe=>b9 ?_) (λe2=>d5 (λe=>b9 ?_) (λe3=>b9 ?_)))
  ·grind [inB]
  ·grind [inB]
  ·grind [inB]
  grind [inB]
 refine d5 (λe=> ?_) (λe16=> ?_)
 ·grind [inB,d6,kG,b9]
 refine d5 (λe=> ?_) (λO=> ?_)
 ·have e:i.Op=20:=by simpa using e
  have hlp:=A.Vd.loop hi e;have ew:w64 ((y:Int)-i.D)=(((y:Int)-i.D).toNat:Int):=by grind [qq]
  obtain ⟨hd,hd1,P⟩:=aR (xs:=j.came) (p:=((y:Int)-i.D).toNat) (by rw [h.VQ];omega);refine d6 (kG _) (λa _=>d5 (λha=>b9 (λz=>absurd z (by simpa using ha))) (λ_=> ?_));refine d6 (i5 (Q:=λo=>match o with|.inl _=>∀q,q<8->EJ (k q) (hd q)|.inr r=>r.2≠0) (λt _=>∀q,q<t->EJ (k q) (hd q)) (λq hq=>by omega) (λt s S ht hI kk=> ?_) (λ_ hI=>hI)) (λo ho=> ?_)
  ·unfold eK;simp only [Q7 ht,ew,P,zbs];refine d6 (ED _ _) (λr f=>d5 (λ_=>b9 (by simp)) (λB=>kk _ (λq hq=> ?_)))
   grind
  ·cases o with
   |inl _=>
    refine b9 (λ_=>⟨G,λi' hi' _ q hq x hx h1 h2=> ?_⟩)
    grind
   |inr r=>exact b9 (λz=>absurd z ho)
 refine d5 (λe=> ?_) (λT=> ?_)
 ·have e:i.Op=21:=by simpa using e
  have g:=nq f e;obtain ⟨n,B⟩:=zof g.1;rw [B];obtain ⟨l,hl,hl3⟩:=EK ⟨n,by omega⟩;obtain ⟨sg,U,V,W⟩:=CC ⟨n,by omega⟩;have X:xY 2199023255552 (n:Int)=some l:=hl;have u:dq (n:Int)=some (sg,true):=U;simp only [X,zbs];have ec:w64 (1+(l.length:Int))=((1+l.length:Nat):Int):=by grind [qq]
  have ec1:(1:Int)=((1:Nat):Int):=rfl
  have w:∃Y,cut (Iv 8 k) 1 (w64 (1+(l.length:Int)))=some Y:=by
   rw [ec];exact ⟨_,F5 (lo:=1) (by omega) (by grind [pu])⟩
  obtain ⟨Y,Z⟩:=w;rw [Z];simp only [zbs];refine d6 (Jw ⟨n,by omega⟩ hl Y) (λr _=> ?_);unfold iu;simp only [u,zbs];refine b9 (d (by omega) (λ_=> ?_));exact I (WT.num ⟨by simp,by simpa using V,by simpa using W⟩)
 refine d5 (λe=> ?_) (λe22=> ?_)
 ·grind [d6,kG,b9]
 simp only [beq_eq_false_iff_ne,ne_eq] at e0 J K L M N O T e22
 have e16':¬ (16<=i.Op/\i.Op<=19):=by
  grind [inB]
 refine d6 (Rk (G _ (by omega)).span hs.span) (λr f=> ?_)
 grind [d6,kG,b9,WT.num]
open Go.Sx
theorem uF(l:List Int)(m:Int):zW l m=some (l.contains m):=by
 unfold zW xl;rw [rT (λi=>if (l[i]? ==some m) then some (i:Int) else none) (N:=l.length)]
 ·simp only [zbs];cases a:fI (λi=>if (l[i]? ==some m) then some (i:Int) else none) l.length 0 with
  |some v=>
   grind [gV,AB]
  |none=>
   have:=gW a
   have h:m∉l:=by
    intro h;obtain ⟨j,b,rfl⟩:=w6.1 h
    grind
   simp [AB,h]
 grind [ba,KF]
def pg(l:List Int):Prop:=(∀x∈l,0<=x/\x<4)/\l.Nodup/\l.length<=4
theorem wY(h:n<l.length):(l.take (n+1)).Nodup↔(l.take n).Nodup/\l[n]∉l.take n:=by
 rw [yh,zeg h]
 grind
theorem Jx(l:List Int):OK (lh l) (λr=>r=true↔pg l):=by
 unfold lh;refine d6 (i5 (Q:=λo=>match o with|.inl _=>(∀x∈l,0<=x/\x<4)/\l.Nodup|.inr r=>r=false/\¬ pg l) (λi _=>(∀x∈l.take i,0<=x/\x<4)/\(l.take i).Nodup) (by simp) (λi s c a d k=> ?_) (λs d=> ?_)) (λo b=> ?_)
 ·unfold pD;simp only [KF a,zbs,AF (show i<=l.length by omega),uF];refine d6 (R:=λo=>o=true↔¬ (0<=l[i]/\l[i]<4/\l[i]∉l.take i)) ?_ (λo b=> ?_)
  ·refine d5 (λh=>b9 ?_) (λh=>d5 (λf=>b9 ?_) (λf=>b9 ?_))
   ·grind
   ·grind
   grind
  refine d5 (λh=>b9 ⟨rfl,λe=> ?_⟩) (λh=>k _ ?_)
  ·have:=(wY a).1 (e.2.1.sublist (List.take_sublist _ _));have m:=e.1 l[i] (yi _)
   grind
  ·have g:0<=l[i]/\l[i]<4/\l[i]∉l.take i:=Classical.byContradiction (λn=>by grind);refine ⟨λx j=> ?_,(wY a).2 ⟨d.2,g.2.2⟩⟩;rw [yh,zeg a] at j
   grind
 ·simpa using d
 ·cases o with
  |inl _=>
   refine b9 ?_;simp only [zdq];exact ⟨λh=>⟨b.1,b.2,by omega⟩,λh=>by have:=h.2.2;omega⟩
  |inr r=>exact b9 ⟨λh=>(by grind),λh=>absurd h b.2⟩
def Qa(code:List zf)(j:zj):Prop:=∀(q a:Nat)(i:zf),j.any[q]? =some true->code[a]? =some i->i.Op=20->(a:Int)-i.D<q->q<=a->j.any[((a:Int)-i.D).toNat]? =some true
theorem Qa.ways(l:wj code)(h:Qa code j)(m:j.any[n]? =some true)(f:Hb code n j j'):Qa code j':=by
 intro q a c p b d r s;have t:=l.Vd.loop b d;rcases f.new q p with u|⟨i,o,e⟩
 ·exact f.keep _ (h q a c u b d r s)
 ·
  by_cases g:(a:Int)-c.D<=n/\n<=a
  ·by_cases v:(n:Int)=a-c.D
   ·rw [<- v];exact f.keep _ (by simpa using m)
   ·exact f.keep _ (h n a c m b d (by omega) g.2)
  ·exfalso
   rcases e with ⟨w,rfl⟩|⟨hl,x,k⟩
   ·omega
   ·refine l.en n (zes.1 o).1 ⟨i,o,hl,x,a,c,q,(zes.1 b).1,b,d,k,(xD b d).2 ⟨by omega,by omega⟩,?_,by omega⟩
    grind [qW,xD]
structure Hc (m:zE) (n:Nat) (j:zj):Prop where
 ji:JI m j
 zero:j.any[0]? =some true
 WE:Qa m.Code j
 VR:∀(p:Nat)(i:zf),p<n->m.Code[p]? =some i->i.Op=20->j.any[p]? =some true->∀q,q<8->∀x h,j.came[p]? =some x->j.came[((p:Int)-i.D).toNat]? =some h->EJ (x q) (h q)
theorem Ev(h:Hc m n j)(g:wj m.Code)(s:n<m.Code.length)(c:zj->Option (zj⊕((Option zj)×Int×Int))) (D:∀j',Hc m (n+1) j'->OK (c j') Q) (E:∀e,e≠0->Q (.inr (none,(n:Int),e))):OK (cB 2199023255552 n c j) Q:=by
 unfold cB;obtain ⟨a,N,v⟩:=aR (xs:=j.any) (p:=n) (by rw [h.ji.VP];exact s)
 simp only [v,zbs];refine d5 (λw=> ?_) (λw=> ?_)
 ·have w:a=false:=by simpa using w
  refine D j {h with VR:=λp i F t u b=> ?_};by_cases e:p=n
  ·grind
  ·exact h.VR p i (by omega) t u b
 have y:j.any[n]? =some true:=by grind
 refine d6 (F6 h.ji g s) (λG ⟨k,d,l⟩=> ?_);refine d6 (Ny k g s) (λr z=> ?_);refine d5 (λe=>b9 (E _ (by simpa using e))) (λe=> ?_);have z:=z (by simpa using e);refine d6 (Jv k g s z.1) (λI ⟨A,o⟩=>D I ?_);have B:Qa m.Code G:=by intro q a J;rw [d];exact h.WE q a J
 refine ⟨A,o.keep _ (by rw [d];exact h.zero),B.ways g (by rw [d];exact y) o,λp i F t u b q K x L C f=> ?_⟩
 have M:=g.Vd.loop t u;rw [(o.same p (by omega)).1] at C;rw [(o.same _ (by omega)).1] at f;rw [(o.same p (by omega)).2,d] at b;by_cases e:p=n
 ·grind
 ·rw [l p e] at C;rw [l _ (by omega)] at f;exact h.VR p i (by omega) t u b q K x L C f
structure Q8 (m:zE) (r:(Option zj)×Int×Int):Prop where
 WC:r.2.1=0\/0<=r.2.1/\r.2.1<m.Code.length
 VA:r.2.2=0->r.2.1=0/\wj m.Code/\pg m.Maps/\∃j,r.1=some j/\Hc m m.Code.length j
 bad:r.2.2≠0->r.1=none
theorem Q9(h:wj m.Code):Hc m 0 ⟨m,List.replicate m.Code.length (λ_=>pY),(List.replicate m.Code.length false).set 0 true,lps m.Code m.Code.length⟩:=by
 have b:=h.n1;refine ⟨⟨rfl,by simp,by simp,rfl,λq x c r _=> ?_⟩,by grind,λq a d e f g j k=> ?_,λp i l=>by omega⟩
 ·grind [PC,WT.zero]
 grind
theorem CD(m:zE):OK (xb 2199023255552 m) (Q8 m):=by
 unfold xb;refine d6 (Jx _) (λg a=> ?_);refine d5 (λ_=>b9 ⟨.inl rfl,λh=>by simp at h,λ_=>rfl⟩) (λf=> ?_);have a:=a.1 (by simpa using f);obtain ⟨r,q,t,u,y⟩:=ul m.Code;simp only [q,zbs];refine d5 (λl=>b9 ⟨t,λh=>absurd h (by simpa using l),λ_=>rfl⟩) (λl=> ?_);have d:=(u (by simpa using l)).2;have z:=d.Wq;have v:=d.n1;refine d6 (R:=λo=>o=zj.mk m (List.replicate m.Code.length (λ_=>pY)) (List.replicate m.Code.length false) []) ?_ (λo c=> ?_)
 ·grind [g9,OK.mkl,b9,pY]
 subst c;simp only [wP d,zbs]
 have w:idx (List.replicate m.Code.length false) 0=some false:=by
  grind [KF]
 rw [w];simp only [zbs];refine d6 (i5 (Q:=λo=>match o with|.inl j=>Hc m m.Code.length j|.inr r=>r.1=none/\r.2.2≠0/\0<=r.2.1/\r.2.1<m.Code.length) (λi s=>Hc m i s) ?_ (λi s b p n k=>Ev n d p b k (λe x=>⟨rfl,x,by simp,by simpa using p⟩)) (λs n=>n)) (λo c=> ?_)
 ·grind [Q9]
 ·cases o with
  |inl j=>exact b9 ⟨.inl rfl,λ_=>⟨rfl,d,a,j,rfl,c⟩,λh=>absurd rfl h⟩
  |inr r=>exact b9 ⟨.inr c.2.2,λh=>absurd h c.2.1,λ_=>c.1⟩
theorem L3(m:zE):OK (vA 2199023255552 m) (λr=>(r.1=0\/0<=r.1/\r.1<m.Code.length)):=by
 unfold vA;refine d6 (CD m) (λr h=> ?_);obtain ⟨o,p,e⟩:=r;cases o with
 |none=>exact OK.none_ (b9 h.WC)
 |some j=>exact OK.some_ (b9 h.WC)
def known(j:zj)(p:Nat):List zi:=match j.any[p]?,j.came[p]? with
 |some true,some c=>Iv 8 c
 |_,_=>[]
end Go.Proofs.YtplmgfkghomelaaGreatDoor
