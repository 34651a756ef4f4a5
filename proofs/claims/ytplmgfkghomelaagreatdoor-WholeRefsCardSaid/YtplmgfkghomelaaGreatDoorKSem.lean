/- Lemmas. -/
import Derived.Test.YtplmgfkghomelaaGreatDoorKSpan2
set_option linter.all false
namespace Go.Proofs.YtplmgfkghomelaaGreatDoor
open Go.Sx
variable {x y n v:Int}{regs regs':Nat->Int}{j r c:zj}{a b:zh}{i:zf}{m:zE}{q B:Nat}{d f:zi}{e A z C:Nat->zi}{l:List zi}{E:(zj⊕((Option zj)×Int×Int))->Prop}
def inS(s:zh)(n:Int):Prop:=s.Lo<=n/\n<=s.Hi
def sem(x:zi)(n:Int):Prop:=(x.TY=1->inS x.Uy n)/\(x.TY=2->n=x.UI)
def u64(n:Int):Prop:=0<=n/\n<18446744073709551616
theorem mj(h:u64 n):inS ⟨0,18446744073709551615⟩ n:=by
 obtain ⟨a,b⟩:=h;exact ⟨a,by grind⟩
def ar(op x y:Int):Int:=
 if op==1 then vc (x+y) else if op==2 then vc (x-y) else if op==3 then vc (x*y)
 else if op==4 then (if y==0 then 0 else vc (x.tdiv y)) else if op==5 then (if y==0 then x else x.tmod y)
 else if op==6 then Ag .u64 x y else if op==7 then bOr .u64 x y else if op==8 then ND .u64 x y
 else if op==9 then Ah .u64 x y else if op==10 then kr .u64 x y else 0
theorem Bb{op:Int}(b:u64 x)(a:u64 y):gJ op x y=some (ar op x y,decide (1<=op)&&decide (op<=10)):=by
 obtain ⟨r,h,_,_,c⟩:=Bi (op:=op) b.1 b.2 a.1 a.2;rw [h,<- c]
 have key:r.1=ar op x y:=by
  unfold gJ at h;unfold ar;rcases zft (op==1) with e|e
  ·grind
  rw [d8 (by simp [e])] at h |-;rcases zft (op==2) with e|e
  ·grind
  rw [d8 (by simp [e])] at h |-;rcases zft (op==3) with e|e
  ·grind
  rw [d8 (by simp [e])] at h |-;rcases zft (op==4) with e|e
  ·grind [ny]
  rw [d8 (by simp [e])] at h |-;rcases zft (op==5) with e|e
  ·grind [ny]
  rw [d8 (by simp [e])] at h |-;rcases zft (op==6) with e|e
  ·grind
  rw [d8 (by simp [e])] at h |-;rcases zft (op==7) with e|e
  ·grind
  rw [d8 (by simp [e])] at h |-;rcases zft (op==8) with e|e
  ·grind
  rw [d8 (by simp [e])] at h |-;rcases zft (op==9) with e|e
  ·rw [d7 e] at h |-;rw [fL a.1] at h;cases h;rfl
  rw [d8 (by simp [e])] at h |-;rcases zft (op==10) with e|e
  ·rw [d7 e] at h |-;rw [fL a.1] at h;cases h;rfl
  grind
 rw [<- key]
theorem Rf(h:u64 x)(a:u64 y):u64 (ar n x y):=by
 obtain ⟨r,b,c,d,_⟩:=Bi (op:=n) h.1 h.2 a.1 a.2;rw [Bb h a] at b;cases b;exact ⟨c,d⟩
theorem SW.in_(h:SW a)(b:inS a n):u64 n:=⟨by have:=h.1;have:=b.1;omega,by have:=h.2.2;have:=b.2;omega⟩
theorem Rg(c:SW a)(d:SW b)(e:inS a x)(f:inS b y):OK (ma a b) (λr=>inS r (vc (x+y))):=by
 obtain ⟨g,i,j⟩:=c;obtain ⟨k,l,m⟩:=d;obtain ⟨n,o⟩:=e;obtain ⟨p,q⟩:=f;unfold ma GN;rw [d7 ⟨by omega,by omega,by omega,by omega⟩];simp only [zbs,iH];refine d5 (λh=>b9 (mj (xh _))) (λh=>b9 ?_);have s:=z8 h;have t:a.Hi+b.Hi<18446744073709551616:=by omega
 rw [vf (x:=x+y) (by omega) (by omega)];constructor
 ·grind [vc,vf]
 grind
theorem Hn(g:SW a)(i:SW b)(j:inS a x)(k:inS b y):OK (cy a b) (λr=>inS r (vc (x*y))):=by
 have u:=g.in_ j;have n:=i.in_ k;obtain ⟨e,c⟩:=a;obtain ⟨f,d⟩:=b;obtain ⟨l,o,p⟩:=g;obtain ⟨m,q,s⟩:=i;obtain ⟨t,v⟩:=j;obtain ⟨w,z⟩:=k;simp only at l o p m q s t v w z;obtain ⟨e,rfl⟩:=zof l;obtain ⟨f,rfl⟩:=zof m;obtain ⟨c,rfl⟩:=zof (show 0<=c by omega);obtain ⟨d,rfl⟩:=zof (show 0<=d by omega);obtain ⟨x,rfl⟩:=zof u.1;obtain ⟨y,rfl⟩:=zof n.1;unfold cy;obtain ⟨E,A,F⟩:=Ri (x:=c) (y:=d) (by omega) (by omega);simp only [A,zbs,iH];refine d5 (λh=>b9 (mj (xh _))) (λh=>b9 ?_);have G:=z8 h
 have B:c*d<18446744073709551616:=by
  grind
 have C:e*f<=x*y:=TC (by omega) (by omega);have D:x*y<=c*d:=TC (by omega) (by omega);simp only [<- Int.natCast_mul];rw [wuN B,wuN (show x*y<_ by omega),wuN (show e*f<_ by omega)];exact ⟨Tq.2 C,Tq.2 D⟩
theorem Ho(j:SW a)(f:SW b)(k:inS a x)(l:inS b y):OK (cz a b) (λr=>inS r (if y==0 then 0 else vc (x.tdiv y))):=by
 have u:=j.in_ k;have o:=f.in_ l;obtain ⟨g,c⟩:=a;obtain ⟨d,e⟩:=b;obtain ⟨m,p,q⟩:=j;obtain ⟨n,s,t⟩:=f;obtain ⟨v,w⟩:=k;obtain ⟨z,A⟩:=l;simp only at m p q n s t v w z A;obtain ⟨g,rfl⟩:=zof m;obtain ⟨d,rfl⟩:=zof n;obtain ⟨c,rfl⟩:=zof (show 0<=c by omega);obtain ⟨e,rfl⟩:=zof (show 0<=e by omega);obtain ⟨x,rfl⟩:=zof u.1;obtain ⟨y,rfl⟩:=zof o.1;obtain ⟨_,u⟩:=u;unfold cz;refine d5 (λh=>b9 ?_) (λh=> ?_)
 ·split
  ·exact ⟨by simp,by grind⟩
  ·rw [Bh,wuN (by have:=Nat.div_le_self x y;omega)];have:=Nat.div_le_self x y;refine ⟨?_,?_⟩
   ·grind
   grind
 ·have f:(d:Int)≠0:=by simpa using h
  have i:((y:Int)==0)=false:=by simp;omega
  rw [ny (show (e:Int)≠0 by omega)];simp only [zbs];rw [ny f,i];simp only [zbs,Bh];have B:g / e<=x / y:=t8 (Nat.div_le_div_right (by omega)) (Nat.div_le_div_left (by omega) (by omega));have C:x / y<=c / d:=t8 (Nat.div_le_div_right (by omega)) (Nat.div_le_div_left (by omega) (by omega));have D:=Nat.div_le_self c d;rw [wuN (show g / e<_ by omega),wuN (show c / d<_ by omega)];refine b9 ?_;rw [d8 (by simp),wuN (show x / y<_ by omega)];exact ⟨Tq.2 B,Tq.2 C⟩
theorem Pk(g:SW a)(i:SW b)(c:inS a x)(j:inS b y):OK (iv a b) (λr=>inS r (if y==0 then x else x.tmod y)):=by
 have u:=g.in_ c;have k:=i.in_ j;obtain ⟨n,o,p⟩:=id g;obtain ⟨q,s,t⟩:=id i;obtain ⟨v,l⟩:=id c;obtain ⟨w,z⟩:=id j;obtain ⟨x,rfl⟩:=zof u.1;obtain ⟨y,rfl⟩:=zof k.1;have e:(x:Int).tmod (y:Int)=((x%y:Nat):Int):=rfl;have A:=Nat.mod_le x y;unfold iv;refine d5 (λh=>b9 ?_) (λh=> ?_)
 ·split
  ·exact ⟨by grind,l⟩
  ·rw [e];exact ⟨by grind,by grind⟩
 have m:b.Lo≠0:=by simpa using h
 have d:((y:Int)==0)=false:=by simp;omega
 rw [d];simp only [zfe,x5];refine d5 (λf=>b9 ?_) (λf=>b9 ?_)
 ·have f:=yq f;rw [e,TD (by omega)];exact c
 ·rw [e,vf (by omega) (by omega)];have:=Nat.mod_lt x (show 0<y by omega);refine ⟨by grind,?_⟩
  grind [od]
theorem JX(h:0<=n)(d:n<18446744073709551616):OK (fX n) (λr=>∃k:Nat,k<=64/\r=((2^k-1:Nat):Int)/\n.toNat<2^k):=by
 obtain ⟨n,rfl⟩:=zof h;obtain ⟨k,a,b,c,_⟩:=tP (n:=n) (by omega);unfold fX;simp only [b,zbs];rw [fL (by omega)];refine b9 ⟨k,a,?_,by simpa using c⟩
 have e:Ah .u64 1 (k:Int)=((2^k%18446744073709551616:Nat):Int):=by
  grind [rx]
 show vc (Ah .u64 1 (k:Int)-1)=_;rw [e];by_cases f:k=64
 ·grind [tO]
 ·have g:(2:Nat)^k<=2^63:=Nat.pow_le_pow_right (by omega) (by omega)
  grind [vf]
theorem Pm(s:SW a)(t:SW b)(u:inS a x)(v:inS b y):OK (iw a b) (λr=>inS r (Ah .u64 x y)):=by
 have C:=s.in_ u;have Q:=t.in_ v;obtain ⟨f,d⟩:=a;obtain ⟨c,D⟩:=b;obtain ⟨w,E,F⟩:=s;obtain ⟨z,G,I⟩:=t;obtain ⟨J,K⟩:=u;obtain ⟨L,M⟩:=v;simp only at w E F z G I J K L M;obtain ⟨f,rfl⟩:=zof w;obtain ⟨c,rfl⟩:=zof z;obtain ⟨d,rfl⟩:=zof (show 0<=d by omega);obtain ⟨x,rfl⟩:=zof C.1;obtain ⟨k,S,N,A,T,U⟩:=tP (n:=d) (by omega);unfold iw xW;simp only [N,zbs,iH];refine d6 (R:=λo=>o=false->(c:Int)=D/\(k=0\/k+c<=64)) ?_ (λo g=> ?_)
 ·refine d5 (λ_=>b9 (by simp)) (λi=>d5 (λO=> ?_) (λO=>b9 (λ_=>⟨by simpa using i,.inl ?_⟩)))
  ·refine d5 (λ_=>b9 (by simp)) (λV=>b9 (λW=>⟨by simpa using i,.inr ?_⟩))
   grind [vf]
  grind
 ·refine d5 (λ_=>b9 (mj (J4 _ _))) (λh=> ?_);obtain ⟨i,g⟩:=g h;have j:y=(c:Int):=by omega
  subst j;rw [fL (by omega)];simp only [zbs];refine b9 ?_
  have e:∀n:Nat,Ah .u64 (n:Int) (c:Int)=((n*2^(min c 64)%18446744073709551616:Nat):Int):=by
   grind [rx]
  rw [e,e,e];rcases g with l|l
  ·have m:d=0:=by subst l;simp at A;omega
   have p:f=0:=by omega
   have B:x=0:=by omega
   subst m;subst p;subst B;exact ⟨by simp,by simp⟩
  ·rw [show min c 64=c by omega]
   have m:d*2^c<18446744073709551616:=by
    have p:d*2^c<2^k*2^c:=Nat.mul_lt_mul_of_pos_right A (Nat.pow_pos (by omega));rw [<- Nat.pow_add] at p;have B:(2:Nat)^(k+c)<=2^64:=Nat.pow_le_pow_right (by omega) l;omega
   have P:f*2^c<=x*2^c:=r6 _ (by omega);have q:x*2^c<=d*2^c:=r6 _ (by omega);rw [TD m,TD (show x*2^c<_ by omega),TD (show f*2^c<_ by omega)];exact ⟨Tq.2 P,Tq.2 q⟩
theorem Sv(f:SW a)(i:SW b)(d:inS a x)(l:inS b y)(V:1<=n)(W:n<=10):OK (oS n a b) (λr=>inS r.1 (ar n x y)):=by
 have u:=f.in_ d;have j:=i.in_ l;obtain ⟨s,X,C⟩:=id f;obtain ⟨t,Y,D⟩:=id i;obtain ⟨E,F⟩:=id d;obtain ⟨G,I⟩:=id l;unfold oS;rw [Bb (op:=n) (x:=a.Lo) (y:=b.Lo) ⟨s,by omega⟩ ⟨t,by omega⟩];simp only [np f,np i,zbs];refine d6 (R:=λo=>o=false) ?_ (λo m=> ?_)
 ·refine d5 (λh=> ?_) (λh=>d5 (λh=>by cases h) (λ_=>b9 rfl))
  grind
 subst m;refine d5 (λh=>by cases h) (λ_=> ?_);unfold xW;refine d6 (R:=λo=>o=true->a.Lo=a.Hi/\b.Lo=b.Hi) ?_ (λo m=> ?_)
 ·exact d5 (λv=>b9 (λw=>⟨by simpa using v,by simpa using w⟩)) (λ_=>b9 (λh=>by cases h))
 refine d5 (λh=> ?_) (λ_=> ?_)
 ·obtain ⟨A,B⟩:=m h;have J:x=a.Lo:=by omega
  have K:y=b.Lo:=by omega
  subst J;subst K;exact b9 ⟨x4 _,x4 _⟩
 have fwd:∀{o:Option zh} {z:Int},OK o (λr=>inS r z)->OK (o.bind λr=>some (r,true)) (λr=>inS r.1 z):=λh=>d6 h (λx d=>b9 d)
 refine d5 (λe=> ?_) (λA=> ?_)
 ·have e:n=1:=by simpa using e
  subst e;exact fwd (Rg f i d l)
 refine d5 (λe=> ?_) (λB=> ?_)
 ·have e:n=2:=by simpa using e
  subst e;refine d5 (λ_=>fwd (b9 (mj (xh _)))) (λh=>b9 ?_);have h:=z8 h;rw [vf (x:=a.Lo-b.Hi) (by omega) (by omega),vf (x:=a.Hi-b.Lo) (by omega) (by omega),show ar 2 x y=vc (x-y) from rfl,vf (x:=x-y) (by omega) (by omega)];exact ⟨by show a.Lo-b.Hi<=_;omega,by show _<=a.Hi-b.Lo;omega⟩
 refine d5 (λe=> ?_) (λL=> ?_)
 ·have e:n=3:=by simpa using e
  subst e;exact fwd (Hn f i d l)
 refine d5 (λe=> ?_) (λM=> ?_)
 ·have e:n=4:=by simpa using e
  subst e;exact fwd (Ho f i d l)
 refine d5 (λe=> ?_) (λN=> ?_)
 ·have e:n=5:=by simpa using e
  subst e;exact fwd (Pk f i d l)
 refine d5 (λe=> ?_) (λO=> ?_)
 ·have e:n=6:=by simpa using e
  subst e;refine b9 ⟨(EX x y).1,?_⟩;rw [show ar 6 x y=Ag .u64 x y from rfl,Gi u.1 u.2 j.1 j.2];have v:x.toNat &&& y.toNat<=x.toNat:=Nat.and_le_left;have w:x.toNat &&& y.toNat<=y.toNat:=Nat.and_le_right;show _<=od a.Hi b.Hi;unfold od;split<;>omega
 have P:=EW (x:=a.Hi) (y:=b.Hi) (by omega) C (by omega) D;have c:=CR a.Hi b.Hi;refine d5 (λe=> ?_) (λQ=> ?_)
 ·have e:n=7:=by simpa using e
  subst e;refine d6 (JX c.1 c.2) (λr p=>b9 ?_);obtain ⟨k,_,rfl,S⟩:=p;have g:=EW u.1 u.2 j.1 j.2;have q:(x.toNat ||| y.toNat)<2^k:=Nat.or_lt_two_pow (by omega) (by omega);rw [show ar 7 x y=bOr .u64 x y from rfl];rw [J2 u.1 u.2 j.1 j.2] at g |-;refine ⟨?_,?_⟩
  ·show sC a.Lo b.Lo<=_;unfold sC;split<;>omega
  ·show _<=((2^k-1:Nat):Int)
   omega
 refine d5 (λe=> ?_) (λT=> ?_)
 ·have e:n=8:=by simpa using e
  subst e;refine d6 (JX c.1 c.2) (λr p=>b9 ?_);obtain ⟨k,_,rfl,S⟩:=p;have q:(x.toNat ^^^ y.toNat)<2^k:=Nat.xor_lt_two_pow (by omega) (by omega);rw [show ar 8 x y=ND .u64 x y from rfl,Mq u.1 u.2 j.1 j.2];refine ⟨Int.natCast_nonneg _,?_⟩;show _<=((2^k-1:Nat):Int)
  omega
 refine d5 (λe=> ?_) (λU=> ?_)
 ·have e:n=9:=by simpa using e
  subst e;exact fwd (Pm f i d l)
 simp only [beq_eq_false_iff_ne,ne_eq] at A B L M N O Q T U;have e:n=10:=by omega
 subst e;rw [fL (show 0<=b.Hi by omega)];simp only [zbs];rw [fL t];exact b9 ⟨Bg s E I,Bg u.1 F G⟩
def hl(op x y:Int):Bool:=if op==16 then x==y else if op==17 then x !=y else if op==18 then decide (x<y) else if op==19 then decide (x>=y) else false
theorem Ge(op x y:Int):bm op x y=some (hl op x y,inB op 16 19):=by
 obtain ⟨r,h,a⟩:=F1 op x y
 grind [hl,bm]
theorem ES(c:SW a)(d:SW b)(e:inS a x)(h:inS b x):OK (eL [a,b]) (λr=>r.2=true/\inS r.1 x):=by
 refine ⟨_,Js c d,?_⟩;obtain ⟨i,j,k⟩:=c;obtain ⟨l,m,n⟩:=d;obtain ⟨o,p⟩:=e;obtain ⟨y,q⟩:=h;have f:sC (sC 0 a.Lo) b.Lo<=x:=by grind [sC]
 have g:x<=od (od 18446744073709551615 a.Hi) b.Hi:=by grind [od]
 rw [d7 (by omega)];exact ⟨rfl,f,g⟩
theorem JY{op:Int}(f:SW a)(i:SW b)(c:inS a x)(n:inS b y)(F:16<=op)(G:op<=19):OK (dY op a b (hl op x y)) (λr=>r.2=true/\inS r.1 x):=by
 have u:=f.in_ c;have I:=i.in_ n;obtain ⟨J,K,L⟩:=id f;obtain ⟨q,M,N⟩:=id i;obtain ⟨s,t⟩:=id c;obtain ⟨O,P⟩:=id n;have g:inB op 16 19=true:=by simp [inB];omega
 unfold dY;rw [Ge,g];simp only [np f,np i,zbs];refine d6 (R:=λo=>o=false) (d5 (λh=>by cases h) (λ_=>d5 (λh=>by cases h) (λ_=>b9 rfl))) (λo g=> ?_);subst g;refine d5 (λh=>by cases h) (λ_=> ?_);unfold xW;simp only [zbs];refine d5 (λ_=>b9 ⟨rfl,c⟩) (λp=> ?_);have p:b.Lo=b.Hi:=by simpa using p
 have Q:y=b.Lo:=by omega
 have v:(op=16/\hl op x y=(x==y))\/(op=17/\hl op x y=(x !=y))\/(op=18/\hl op x y=decide (x<y))\/(op=19/\hl op x y=decide (x>=y)):=by
  have:op=16\/op=17\/op=18\/op=19:=by omega
  rcases this with rfl|rfl|rfl|rfl
  ·exact .inl ⟨rfl,rfl⟩
  ·exact .inr (.inl ⟨rfl,rfl⟩)
  ·exact .inr (.inr (.inl ⟨rfl,rfl⟩))
  ·exact .inr (.inr (.inr ⟨rfl,rfl⟩))
 refine d6 (R:=λo=>o=true↔(op=18/\hl op x y=true)\/(op=19/\hl op x y=false)) ?_ (λo g=> ?_)
 ·refine d5 (λh=>b9 ?_) (λh=>d5 (λd=>b9 ?_) (λd=>b9 ?_))
  ·simp at h;simp [h]
  ·grind
  grind
 refine d5 (λh=>d5 (λj=> ?_) (λj=> ?_)) (λh=> ?_)
 ·grind
 ·have j:b.Lo≠0:=by simpa using j
  have w:x<y:=by
   grind
  refine d6 (ES (x:=x) f ?_ c ?_) (λr k=>b9 k)
  ·rw [vf (by omega) (by omega)];exact ⟨by simp,by simp;omega,by simp;omega⟩
  ·rw [vf (by omega) (by omega)];exact ⟨u.1,by grind⟩
 have z:¬ ((op=18/\hl op x y=true)\/(op=19/\hl op x y=false)):=λd=>by grind
 refine d6 (R:=λo=>o=true↔op=18\/op=19) ?_ (λo A=> ?_)
 ·refine d5 (λh=>b9 ?_) (λh=>b9 ?_)
  ·grind
  grind
 refine d5 (λh=> ?_) (λh=> ?_)
 ·have B:x>=y:=by
   grind
  refine d6 (ES (x:=x) f ⟨q,by simp;omega,by simp⟩ c ⟨by grind,by grind⟩) (λr k=>b9 k)
 have C:op=16\/op=17:=by
  grind
 refine d6 (R:=λo=>o=true↔x=y) ?_ (λo D=> ?_)
 ·refine d5 (λh=>b9 ?_) (λh=>d5 (λd=>b9 ?_) (λd=>b9 ?_))
  ·grind
  ·grind
  grind
 refine d5 (λh=> ?_) (λh=> ?_)
 ·grind [d6,ES,b9]
 have E:x≠y:=λe=>by grind
 refine d5 (λd=> ?_) (λd=> ?_)
 ·grind
 refine d5 (λl=>b9 ⟨rfl,?_⟩) (λl=> ?_)
 ·have l:a.Lo=b.Lo:=by simpa using l
  rw [vf (by omega) (by omega)];exact ⟨by grind,t⟩
 refine d5 (λm=>b9 ⟨rfl,?_⟩) (λm=>b9 ⟨rfl,c⟩);have m:a.Hi=b.Lo:=by simpa using m
 rw [vf (by omega) (by omega)];exact ⟨s,by grind⟩
theorem Bc(n:Int):sem pY n:=⟨λh=>by simp [pY] at h,λh=>by simp [pY] at h⟩
theorem nv(h:inS a n):sem ⟨1,a,0⟩ n:=⟨λ_=>h,λh=>by simp at h⟩
theorem Mk(j:WT q d)(k:WT q f)(h:sem d n\/sem f n):sem (EH d f) n:=by
 unfold EH;split
 ·exact Bc n
 rename_i c
 have l:d.TY=f.TY/\d.UI=f.UI:=by simpa using c
 split
 ·rename_i a
  have a:d.TY=1:=by simpa using a
  refine nv ?_;have b:inS d.Uy n\/inS f.Uy n:=h.imp (λh=>h.1 a) (λh=>h.1 (by omega));obtain ⟨m,o,p⟩:=j.span;obtain ⟨r,s,t⟩:=k.span;constructor
  ·show od (od 18446744073709551615 d.Uy.Lo) f.Uy.Lo<=n;unfold od;rcases b with ⟨i,g⟩|⟨i,g⟩<;>(repeat' split)<;>omega
  ·show n<=sC (sC 0 d.Uy.Hi) f.Uy.Hi;unfold sC;rcases b with ⟨i,g⟩|⟨i,g⟩<;>(repeat' split)<;>omega
 ·rename_i a
  have a:d.TY≠1:=by simpa using a
  rcases h with h|h
  ·exact h
  ·exact ⟨λe=>absurd e a,λe=>by rw [l.2];exact h.2 (by omega)⟩
theorem Ml(h:EJ d f)(a:sem d n):sem f n:=by
 refine ⟨λe=> ?_,λe=> ?_⟩
 ·obtain ⟨b,c,g,i⟩:=h.1 e;obtain ⟨j,k⟩:=a.1 b;exact ⟨by omega,by omega⟩
 ·have:=h.2 e;subst this;exact a.2 e
theorem ET(h:i.B=8\/(0<=i.B/\i.B<8))(a:∀r,r<8->sem (e r) (regs r)):sem (Nw i e) (if i.B==8 then vc i.UN else regs i.B.toNat):=by
 unfold Nw;split
 ·exact nv ⟨x4 _,x4 _⟩
 grind
open Go.Sx
theorem RT{a:Type}{o:Option a}{x:a}{Q:a->Prop}(h:OK o Q)(e:o=some x):Q x:=by
 obtain ⟨y,b,c⟩:=h
 grind
theorem Gf{a:Type}{o:Option a}{Q R:a->Prop}(h:OK o Q)(k:OK o R):OK o (λx=>Q x/\R x):=by
 obtain ⟨y,b,c⟩:=h;exact ⟨y,b,c,RT k b⟩
def Bd(k:Nat->zi)(regs:Nat->Int):Prop:=∀r,r<8->sem (k r) (regs r)
def uN(regs:Nat->Int):Prop:=∀r,r<8->u64 (regs r)
def iG(x a:Nat->zi):Prop:=∀r n,r<8->u64 n->sem (x r) n->sem (a r) n
theorem iG.refl(x:Nat->zi):iG x x:=λ_ _ _ _ h=>h
theorem iG.trans(h:iG e A)(k:iG A z):iG e z:=λr n a b c=>k r n a b (h r n a b c)
theorem iG.sems(h:iG e A)(b:uN regs)(c:Bd e regs):Bd A regs:=λr a=>h r _ a (b r a) (c r a)
theorem lI(h:Bd e regs)(a:sem d v):Bd (aset e q d) (aset regs q v):=by
 intro r b;unfold aset;split
 ·exact a
 ·exact h r b
theorem Po(h:JI m j)(z:q<m.Code.length)(A:∀r,r<8->WT m.Maps.length (e r)):
  OK (jf j (q:Int) e) (λE=>∃b,E.came[q]? =some b/\iG e b/\∀x,j.any[q]? =some true->j.came[q]? =some x->iG x b):=by
 unfold jf;obtain ⟨a,L,u⟩:=aR (xs:=j.any) (p:=q) (by rw [h.VP];exact z)
 obtain ⟨c,F,v⟩:=aR (xs:=j.came) (p:=q) (by rw [h.VQ];exact z)
 simp only [u,v,zbs,l6];refine d5 (λM=>b9 ⟨e,?_,iG.refl _,λx G=> ?_⟩) (λI=> ?_)
 ·grind
 ·grind
 refine d6 (i5 (λi s=>JI m s/\∃b,s.came[q]? =some b/\(∀r,i<=r->b r=c r)/\∀r,r<i->∀n,(sem (e r) n\/sem (c r) n)->sem (b r) n) ⟨h,c,F,λ_ _=>rfl,λr f=>by omega⟩ (λi s w l y J=> ?_) (λs y=>y)) (λo K=>b9 ?_)
 ·unfold dX;obtain ⟨t,b,d,N,B⟩:=y;obtain ⟨O,g,k⟩:=aR (xs:=s.came) (p:=q) (by grind);rw [d] at g;cases g;have C:=t.wt q b d i l;simp only [k,Q7 l,zbs,Cy C.span (A i l).span,l6];refine J _ ⟨t.put (ns (t.wt q b d) (C.join (A i l))) _ t.VP,aset b i (EH (b i) (e i)),?_,λr f=> ?_,λr f n I=> ?_⟩
  ·grind
  ·grind [aset]
  grind [aset,Mk]
 ·obtain ⟨_,b,d,_,B⟩:=K;refine ⟨b,d,λr n f _ D=>B r f n (.inl D),λx _ G r n f _ D=> ?_⟩
  grind
theorem Mm(h:JI m j)(L:wj m.Code)(O:q<m.Code.length):
  OK (xx j (q:Int)) (λA=>∀x,j.came[q]? =some x->∃b,A.came[q]? =some b/\iG x b):=by
 unfold xx
 have B:∀{c:Nat->zi} {t:Nat} {v:zi},(∀n,u64 n->sem v n)->iG c (aset c t v):=by
  intro c t v M r n e C N
  grind [aset]
 refine d6 (i5 (Q:=λA=>∀x,j.came[q]? =some x->∃b,A.came[q]? =some b/\iG x b) (λ_ s=>JI m {j with came:=s}/\∀x,j.came[q]? =some x->∃b,s[q]? =some b/\iG x b) ⟨⟨h.VY,h.VQ,h.VP,h.lps,h.wt⟩,λx y=>⟨x,y,iG.refl x⟩⟩ (λi s f E d k=> ?_) (λs d=>d.2)) (λo F=>b9 F);unfold dp;refine g9 (i9 E (λl hl=>d5 (λ_=>k _ d) (λT=> ?_)));rw [h.lps] at hl;obtain ⟨a,z,U,G,I,rfl⟩:=oV.1 (zmg hl);have P:=L.Vd.loop G I;have C:=L.Wq;have R:(jH z a).Vm=(((a:Int)-z.D).toNat:Int):=by show (a:Int)-z.D=_;omega
 have S:w64 ((jH z a).At+1)=((a+1:Nat):Int):=by show w64 ((a:Int)+1)=_;rw [qq (by omega) (by omega)];simp
 rw [R,S,h.VY,F5 (by omega) (by omega)];simp only [zbs];refine d6 (i5 (λ_ s=>JI m {j with came:=s}/\∀x,j.came[q]? =some x->∃b,s[q]? =some b/\iG x b) d (λi s f E d k=> ?_) (λs d=>d)) (λo F=>k _ F);unfold dl;refine g9 (i9 E (λx y=> ?_))
 have e:OK (cQ x) (λr=>r.2=true->0<=r.1/\r.1<8):=by
  grind [xg,CA,sT]
 refine d6 e (λr e=>d5 (λ_=>k _ d) (λJ=> ?_));have e:=e (by simpa using J);obtain ⟨K,g,u⟩:=aR (xs:=s) (p:=q) (by rw [show s.length=m.Code.length from d.1.VQ];exact O)
 simp only [u,Ha e.1 e.2,zbs,iH,lF,l6]
 have go:∀{v:zi},WT m.Maps.length v->(∀n,u64 n->sem v n)->JI m {j with came:=s.set q (aset K r.1.toNat v)}/\∀x,j.came[q]? =some x->∃b,(s.set q (aset K r.1.toNat v))[q]? =some b/\iG x b:=by
  intro v M N;refine ⟨d.1.put (ns (d.1.wt q K g) M) _ d.1.VP,λx y=> ?_⟩;obtain ⟨b,w,J⟩:=d.2 x y;rw [g] at w;cases w;refine ⟨_,by rw [y7,d7 rfl,d7 (by grind)],J.trans (B N)⟩
 exact d5 (λ_=>k _ (go (WT.num SW.full) (λn C=>nv (mj C)))) (λ_=>k _ (go WT.zero (λn _=>Bc n)))
structure nw (j j':zj):Prop where
 grow:∀(q:Nat)(x:Nat->zi),j.any[q]? =some true->j.came[q]? =some x->∃x',j'.came[q]? =some x'/\iG x x'
 keep:∀q:Nat,j.any[q]? =some true->j'.any[q]? =some true
theorem nw.refl(j:zj):nw j j:=⟨λq x _ a=>⟨x,a,iG.refl x⟩,λ_ h=>h⟩
theorem nw.trans(h:nw j r)(k:nw r c):nw j c:=
 ⟨λq x a d=>by
  obtain ⟨e,f,g⟩:=h.grow q x a d;obtain ⟨b,i,l⟩:=k.grow q e (h.keep q a) f;exact ⟨b,i,g.trans l⟩,λq a=>k.keep q (h.keep q a)⟩
theorem Mn(h:JI m j)(c:B<m.Code.length)(g:∀r,r<8->WT m.Maps.length (e r)):
  OK (jf j (B:Int) e) (λa=>JI m a/\a.any=j.any.set B true/\(∀q,q≠B->a.came[q]? =j.came[q]?)/\nw j a/\a.any[B]? =some true/\∃b,a.came[B]? =some b/\iG e b):=by
 refine (Gf (Jt h c g) (Po h c g)).mono (λa d=> ?_);obtain ⟨⟨k,i,l⟩,b,n,o,s⟩:=d
 have f:a.any[B]? =some true:=by
  rw [i,y7,d7 rfl,d7 (by rw [h.VP];exact c)]
 refine ⟨k,i,l,⟨λq x p t=> ?_,λq p=> ?_⟩,f,b,n,o⟩
 ·grind [iG.refl]
 grind
def EU(i:zf)(regs:Nat->Int):Int:=if i.B==8 then vc i.UN else regs i.B.toNat
inductive Stp (i:zf) (p:Nat) (regs:Nat->Int):Nat->(Nat->Int)->Prop
 |set:i.Op=0->Stp i p regs (p+1) (aset regs i.D.toNat (EU i regs))
 |arith:1<=i.Op->i.Op<=10->Stp i p regs (p+1) (aset regs i.D.toNat (ar i.Op (regs i.A.toNat) (EU i regs)))
 |any (v:Int):i.Op=11\/i.Op=13->u64 v->Stp i p regs (p+1) (aset regs i.D.toNat v)
 |store:i.Op=12->Stp i p regs (p+1) regs
 |map:i.Op=14->Stp i p regs (p+1) (aset regs i.D.toNat i.UN)
 |jump (q:Nat):i.Op=15->(q:Int)=p+(i.D+1)->Stp i p regs q regs
 |yes (q:Nat):16<=i.Op->i.Op<=19->hl i.Op (regs i.A.toNat) (EU i regs)=true->(q:Int)=p+(i.D+1)->Stp i p regs q regs
 |no:16<=i.Op->i.Op<=19->hl i.Op (regs i.A.toNat) (EU i regs)=false->Stp i p regs (p+1) regs
 |back (q:Nat):i.Op=20->(q:Int)=p-i.D->Stp i p regs q regs
 |on:i.Op=20->Stp i p regs (p+1) regs
 |call (v:Int):i.Op=21->(∀s,dq i.UN=some (s,true)->0<=v/\v<=s.most)->Stp i p regs (p+1) (aset regs 0 v)
structure Ab (m:zE) (i:zf) (k k':Nat->zi):Prop where
 same:15<=i.Op->i.Op<=20->k'=k
 plain:∀(p:Nat) regs q regs',¬ (15<=i.Op/\i.Op<=20)->uN regs->Bd k regs->Stp i p regs q regs'->Bd k' regs'
 UL:16<=i.Op->i.Op<=19->(k i.A.toNat).TY=1/\(Nw i k).TY=1
 VZ:i.Op=21->i.UN<=4->(k 1).TY=2
theorem JZ(l:List zi):OK (vN l) (λr=>r=0->∀x∈l,x.TY=1):=by
 unfold vN;refine d6 (i5 (Q:=λo=>match o with|.inl _=>∀x∈l,x.TY=1|.inr r=>r≠0) (λi _=>∀(q:Nat)(x:zi),q<i->l[q]? =some x->x.TY=1) (λq x h=>by omega) (λi s a c d k=> ?_) (λ_ d=> ?_)) (λo f=> ?_)
 ·unfold lY;refine g9 (i9 c (λx b=>d5 (λh=>b9 (by simp)) (λh=>k _ (λq y e g=> ?_))))
  grind
 ·intro x b;obtain ⟨q,e⟩:=List.mem_iff_getElem?.1 b
  grind
 grind [b9]
theorem J0(k:Fin 7)(e:xY 2199023255552 ((k:Nat):Int)=some l)(c:List zi):OK (fy 2199023255552 ((k:Nat):Int) c) (λr=>r=0->∀(q:Nat)(x y:zi),l[q]? =some x->c[q]? =some y->x.TY=y.TY):=by
 obtain ⟨s,f,_⟩:=CC k;unfold fy;simp only [f,e,zbs];refine d5 (λh=>by cases h) (λ_=>d5 (λ_=>b9 (by simp)) (λhl=> ?_))
 have hl:l.length=c.length:=by
  grind
 refine d6 (i5 (Q:=λo=>match o with|.inl _=>∀(q:Nat)(x y:zi),l[q]? =some x->c[q]? =some y->x.TY=y.TY|.inr r=>r≠0) (λi _=>∀(q:Nat)(x y:zi),q<i->l[q]? =some x->c[q]? =some y->x.TY=y.TY) (λq x y h=>by omega) (λi s d g j m=> ?_) (λ_ j=> ?_)) (λo n=> ?_)
 ·unfold lZ;refine g9 (i9 g (λx p=>g9 (i9 (by omega) (λy t=> ?_))));refine d5 (λ_=>b9 (by simp)) (λu=>d6 (R:=λ_=>True) ?_ (λo _=>d5 (λ_=>b9 (by simp)) (λ_=>m _ (λq a b v e w=> ?_))))
  ·exact d5 (λ_=>d6 (pZ _ _) (λx _=>b9 trivial)) (λ_=>b9 trivial)
  grind
 ·grind
 grind [b9]
theorem Hp:∀k:Fin 7,(k:Nat)<=4->∃l x,xY 2199023255552 ((k:Nat):Int)=some l/\l[0]? =some x/\x.TY=2:=by
 intro k a;have h:∀k:Fin 7,(k:Nat)<=4->(xY 2199023255552 ((k:Nat):Int)).bind (λl=>(l[0]?).map (·.TY))=some 2:=by decide+kernel
 obtain ⟨l,b,c⟩:=z7.1 (h k a)
 grind
theorem Rh(h:JI m j)(T:wj m.Code)(hp:B<m.Code.length):
  OK (vy 2199023255552 j (B:Int)) (λr=>r.2=0->∀i k,m.Code[B]? =some i->j.came[B]? =some k->Ab m i k r.1):=by
 have O:=T.Wq;obtain ⟨i,hi,U⟩:=aR hp;obtain ⟨k,V,W⟩:=aR (xs:=j.came) (p:=B) (by rw [h.VQ];exact hp)
 have hk:=h.wt B k V;have w:=T.Vd.right hi;have hop:=nW w;have hA:=pe w
 have fin:∀{r:(Nat->zi)×Int},(r.2=0->Ab m i k r.1)->r.2=0->∀i' F,m.Code[B]? =some i'->j.came[B]? =some F->Ab m i' F r.1:=by
  grind
 unfold vy;rw [h.VY,U,W];simp only [zbs,CB w];refine d6 (R:=λt=>(i.Op<=12\/(16<=i.Op/\i.Op<=19))->t=Nw i k) ?_ (λs P=> ?_)
 ·refine d5 (λhsrc=> ?_) (λhns=>b9 (λh=> ?_))
  ·grind [bE,F4,b9]
  grind
 rw [Ha hA.1 hA.2];simp only [zbs,iH,lF];have G:¬ (15<=i.Op/\i.Op<=20)->ain 8 i.D=some i.D.toNat:=λh=>Ha (oZ w h).1 (oZ w h).2
 have mk:∀{F:Nat->zi},¬ (15<=i.Op/\i.Op<=20)->i.Op≠21->(∀(B:Nat) regs q regs',uN regs->Bd k regs->Stp i B regs q regs'->Bd F regs')->Ab m i k F:=
  λS X h3=>⟨λa b=>absurd ⟨a,b⟩ S,λB regs q regs' _ y P f=>h3 B regs q regs' y P f,λa b=>absurd ⟨by omega,by omega⟩ S,λa=>absurd a X⟩
 refine d5 (λe=> ?_) (λe0=> ?_)
 ·have e:i.Op=0:=by simpa using e
  refine d5 (λ_=>b9 (fin (λh=>by simp at h))) (λ_=> ?_);rw [G (by omega)];refine b9 (fin (λ_=>mk (by omega) (by omega) (λB regs q regs' y g f=> ?_)));rw [P (.inl (by omega))];cases f with
  |set _=>exact lI g (ET (bE w (.inl (by omega))) g)
  |_=>omega
 refine d5 (λe=> ?_) (λY=> ?_)
 ·have e:i.Op=11:=by simpa using e
  rw [G (by omega)];simp only [zbs];refine d6 (kG _) (λa _=>d6 (AW _) (λb _=>d6 (tN _) (λc _=>b9 (fin (λ_=>mk (by omega) (by omega) (λB regs q regs' y g f=> ?_))))));cases f with
  |any v _ I=>exact lI g (nv (mj I))
  |_=>omega
 refine d5 (λe=> ?_) (λZ=> ?_)
 ·have e:i.Op=12:=by simpa using e
  refine d6 (kG _) (λa _=>d6 (AW _) (λb _=>d6 (tN _) (λc _=>b9 (fin (λ_=>mk (by omega) (by omega) (λB regs q regs' y g f=> ?_))))));cases f with
  |store _=>exact g
  |_=>omega
 refine d5 (λe=> ?_) (λe13=> ?_)
 ·have e:i.Op=13:=by simpa using e
  rw [G (by omega)];refine b9 (fin (λ_=>mk (by omega) (by omega) (λB regs q regs' y g f=> ?_)));cases f with
  |any v _ I=>exact lI g (nv (mj I))
  |_=>omega
 refine d5 (λe=> ?_) (λe14=> ?_)
 ·have e:i.Op=14:=by simpa using e
  rw [G (by omega)];simp only [zbs];refine d5 (λ_=>b9 (fin (λh=>by simp at h))) (λhlt=>b9 (fin (λ_=>mk (by omega) (by omega) (λB regs q regs' y g f=> ?_))));cases f with
  |map _=>exact lI g ⟨λe=>by simp at e,λ_=>rfl⟩
  |_=>omega
 refine d5 (λe=> ?_) (λe15=> ?_)
 ·have e:i.Op=15:=by simpa using e
  exact b9 (fin (λ_=>⟨λ_ _=>rfl,λB regs q regs' u=>absurd ⟨by omega,by omega⟩ u,λa=>by omega,λa=>by omega⟩))
 refine d6 (R:=λo=>o=inB i.Op 16 19) ?_ (λo ho=> ?_)
 ·refine d5 (λe=>b9 ?_) (λe=>d5 (λe=>b9 ?_) (λe2=>d5 (λe=>b9 ?_) (λe3=>b9 ?_)))
  ·grind [inB]
  ·grind [inB]
  ·grind [inB]
  grind [inB]
 refine d5 (λe=> ?_) (λe16=> ?_)
 ·rw [ho] at e;have e:16<=i.Op/\i.Op<=19:=by simpa [inB] using e
  refine d6 (JZ _) (λa ha=>b9 (fin (λh0=>⟨λ_ _=>rfl,λB regs q regs' u=>absurd ⟨by omega,by omega⟩ u,λ_ _=> ?_,λa=>by omega⟩)))
  grind
 refine d5 (λe=> ?_) (λe20=> ?_)
 ·have e:i.Op=20:=by simpa using e
  have lv:Ab m i k k:=⟨λ_ _=>rfl,λB regs q regs' u=>absurd ⟨by omega,by omega⟩ u,λa=>by omega,λa=>by omega⟩
  refine d6 (kG _) (λa _=>d5 (λha=>b9 (fin (λ_=>lv))) (λ_=> ?_));have hlp:=T.Vd.loop hi e;have ew:w64 ((B:Int)-i.D)=(((B:Int)-i.D).toNat:Int):=by grind [qq]
  obtain ⟨hd,E,J⟩:=aR (xs:=j.came) (p:=((B:Int)-i.D).toNat) (by rw [h.VQ];omega);refine d6 (i5 (Q:=λo=>match o with|.inl _=>True|.inr r=>r.2≠0) (λt _=>True) trivial (λt s again ht hI kk=> ?_) (λ_ hI=>trivial)) (λo ho=> ?_)
  ·unfold eK;simp only [Q7 ht,ew,J,zbs];exact d6 (ED _ _) (λr w=>d5 (λ_=>b9 (by simp)) (λO=>kk _ trivial))
  grind [b9,fin]
 refine d5 (λe=> ?_) (λe21=> ?_)
 ·have e:i.Op=21:=by simpa using e
  have him:=nq w e;obtain ⟨n,O⟩:=zof him.1;rw [O];obtain ⟨l,hl,hl3⟩:=EK ⟨n,by omega⟩;obtain ⟨sg,hs1,hs2,hs3⟩:=CC ⟨n,by omega⟩;have K:xY 2199023255552 (n:Int)=some l:=hl;have C:dq (n:Int)=some (sg,true):=hs1;simp only [K,zbs];have ec:w64 (1+(l.length:Int))=((1+l.length:Nat):Int):=by grind [qq]
  have L:cut (Iv 8 k) 1 (w64 (1+(l.length:Int)))=some (((Iv 8 k).take (1+l.length)).drop 1):=by
   rw [ec];exact F5 (lo:=1) (by omega) (by grind [pu])
  rw [L];simp only [zbs];refine d6 (J0 ⟨n,by omega⟩ hl _) (λr hrk=> ?_);unfold iu;simp only [C,zbs];refine b9 (fin (λh0=>⟨λa b=>by omega,λB regs q regs' _ y g f=> ?_,λa b=>by omega,λ_ h4=> ?_⟩))
  ·cases f with
   |call v _ I=>
    have:=I sg (by rw [O];exact C)
    exact lI g (nv ⟨this.1,this.2⟩)
   |_=>omega
  ·obtain ⟨l2,x,S,X,h3⟩:=Hp ⟨n,by omega⟩ (by show n<=4;omega);have M:xY 2199023255552 (n:Int)=some l2:=S;rw [K] at M;cases M;have hll:=(zes.1 X).1
   have hy:(((Iv 8 k).take (1+l.length)).drop 1)[0]? =some (k 1):=by
    rw [TG,List.getElem?_take,d7 (by omega)];rfl
   grind
 refine d5 (λe=> ?_) (λe22=> ?_)
 ·have e:i.Op=22:=by simpa using e
  refine d6 (kG _) (λa _=>b9 (fin (λ_=>mk (by omega) (by omega) (λB regs q regs' y g f=> ?_))));cases f<;>omega
 simp only [beq_eq_false_iff_ne,ne_eq] at e0 Y Z e13 e14 e15 e20 e21 e22
 have e16':¬ (16<=i.Op/\i.Op<=19):=by
  grind [inB]
 have o1:1<=i.Op:=by omega
 have o2:i.Op<=10:=by omega
 have hsb:=bE w (.inl (by omega));have hse:=P (.inl (by omega));have N:WT m.Maps.length s:=by grind [AX]
 obtain ⟨d,E,J⟩:=Rk (op:=i.Op) (hk i.A.toNat (by omega)).span N.span;rw [E];simp only [zbs];rw [G (by omega)];simp only [zbs];refine d6 (JZ _) (λa ha=>b9 (fin (λh0=>mk (by omega) (by omega) (λB regs q regs' y g f=> ?_))));have z:=ha h0;cases f with
 |arith _ _=>
  refine lI g (nv ?_);have hx:=(g i.A.toNat (by omega)).1 (z _ (by simp));have hy:=(ET hsb g).1 (by grind);rw [<- hse] at hy;have hdi:=RT (Sv (hk i.A.toNat (by omega)).span N.span hx hy o1 o2) E;exact hdi
 |_=>omega
open Go.Sx
theorem rq(h:uN regs)(a:u64 v):uN (aset regs q v):=by
 intro r b;unfold aset;split
 ·exact a
 ·exact h r b
theorem Be(h:uN regs)(a:i.B=8\/(0<=i.B/\i.B<8)):u64 (EU i regs):=by
 unfold EU;split
 ·exact xh _
 ·rename_i e
  have:i.B≠8:=by simpa using e
  exact h _ (by omega)
theorem Stp.u64s(b:xg i=true)(h:Stp i B regs q regs')(a:uN regs):uN regs':=by
 have p:=pe b;cases h with
 |set e=>exact rq a (Be a (bE b (.inl (by omega))))
 |arith c d=>exact rq a (Rf (a _ (by omega)) (Be a (bE b (.inl (by omega)))))
 |any v e f=>exact rq a f
 |store e=>exact a
 |map e=>
  have:=pf b e;exact rq a ⟨this.1,by omega⟩
 |jump q c d=>exact a
 |yes q c d k r=>exact a
 |no c d k=>exact a
 |back q c d=>exact a
 |on e=>exact a
 |call v e f=>
  have g:=nq b e;obtain ⟨n,l⟩:=zof g.1;obtain ⟨s,j,m,o⟩:=CC ⟨n,by omega⟩;have:=f s (by rw [l];exact j)
  exact rq a ⟨this.1,by omega⟩
theorem Ac(a:xg i=true)(h:¬ (15<=i.Op/\i.Op<=20)):jv i=(0,false,i.Op !=22):=by
 grind [jv,eO,inB,hl,mz]
theorem cH(h:xg i=true)(a:15<=i.Op)(b:i.Op<=19):jv i=(i.D+1,true,i.Op !=15):=by
 grind [jv,eO,inB]
theorem rr(a:xg i=true)(h:i.Op=20):jv i=(-i.D,true,true):=by
 grind [jv,eO,inB,hl,mz]
def At(j:zj)(q:Nat)(regs:Nat->Int):Prop:=j.any[q]? =some true/\∃x,j.came[q]? =some x/\Bd x regs
theorem At.grow(h:At j q regs)(c:uN regs)(a:nw j r):At r q regs:=by
 obtain ⟨b,x,d,e⟩:=h;obtain ⟨f,g,i⟩:=a.grow q x b d;exact ⟨a.keep q b,f,g,i.sems c e⟩
theorem EV(h:JI m j)(b:q<m.Code.length)(c:∀r,r<8->WT m.Maps.length (e r)):
  OK (jf j (q:Int) e) (λa=>JI m a/\nw j a/\∀regs,uN regs->Bd e regs->At a q regs):=
 (Mn h b c).mono (λa ⟨d,_,_,f,g,x,i,k⟩=>⟨d,f,λregs l n=>⟨g,x,i,k.sems l n⟩⟩)
theorem Pp(h:JI m j)(K:wj m.Code)(hp:B<m.Code.length)(V:m.Code[B]? =some i)(F:∀r,r<8->WT m.Maps.length (C r))(hk0:∀r,r<8->WT m.Maps.length (z r))(n:Ab m i z C):
  OK (xX j (B:Int) C) (λp=>nw j p/\∀regs q regs',uN regs->Bd z regs->Stp i B regs q regs'->(i.Op=20->q=B+1)->At p q regs'):=by
 have hn:=K.Wq;have l:=K.Vd.right V
 have Y:idx m.Code (B:Int)=some i:=by
  obtain ⟨x,hx1,hx2⟩:=aR hp
  grind
 have G:w64 ((B:Int)+1)=((B+1:Nat):Int):=by grind [qq]
 unfold xX;rw [h.VY,Y];simp only [nX,zbs];refine d5 (λL=>d6 (R:=λp=>nw j p/\∀regs q regs',uN regs->Bd z regs->Stp i B regs q regs'->(i.Op=20->q=B+1)->At p q regs') (d5 (λc=> ?_) (λc=>b9 ?_)) (λo Z=>b9 Z)) (λL=> ?_)
 ·
  rw [G];refine d6 (EV h (K.Vd.on V c) F) (λp ⟨_,h2,h3⟩=>b9 ⟨h2,λregs q regs' g k b W=> ?_⟩);have M:=b.u64s l g;by_cases a:15<=i.Op/\i.Op<=20
  ·have h20:i.Op=20:=by
    by_cases e:i.Op=20
    ·exact e
    ·exfalso
     rw [cH l a.1 (by omega)] at L;have:=nW l;have hD:=sV (i:=i) (by grind [eO,inB]);simp at L;omega
   rw [W h20];refine h3 regs' M ?_;rw [n.same a.1 a.2];cases b with
   |on _=>exact k
   |back q G e2=>exact k
   |_=>omega
  ·have hq:q=B+1:=by cases b<;>first|rfl|omega
   rw [hq];exact h3 regs' M (n.plain B regs q regs' a g k b)
 ·
  refine ⟨nw.refl j,λregs q regs' g k b W=> ?_⟩
  exfalso
  have c:(jv i).2.2=false:=by simpa using c
  by_cases a:15<=i.Op/\i.Op<=20
  ·by_cases e:i.Op=20
   ·grind [rr]
   ·rw [cH l a.1 (by omega)] at L;have hD:=sV (i:=i) (by grind [eO,inB]);simp at L;omega
  ·rw [Ac l a] at c;have:i.Op=22:=by simpa using c
   cases b<;>omega
 have N:(jv i).2.1=true/\0<=(jv i).1:=by grind
 have a:15<=i.Op/\i.Op<=19:=by
  rcases Ju N.1 with h1|h1
  ·grind
  ·omega
 have hgo:=cH l a.1 a.2;have d:=K.Vd.leads V N.1;rw [hgo] at d |-;simp only at d |-;obtain ⟨O,hq1⟩:=zof d.1;have P:w64 ((B:Int)+(i.D+1))=(O:Int):=by grind [qq]
 have v:=n.same a.1 (by omega);subst v;refine d5 (λhj=> ?_) (λhj=> ?_)
 ·have h15:i.Op=15:=by simpa using hj
  rw [P];refine d6 (EV h (by omega) F) (λp ⟨_,h2,h3⟩=>b9 ⟨h2,λregs q regs' g k b W=> ?_⟩);cases b with
  |jump q G e2=>
   grind
  |_=>omega
 have w:16<=i.Op:=by
  grind
 have c:(jv i).2.2=true:=by grind
 have k:=bE l (.inr ⟨w,a.2⟩);have hA:=pe l;have u:=n.UL w a.2;rw [F4 k];simp only [zbs];have Q:=AX k F
 refine d6 (i5 (λt s=>JI m s/\nw j s/\(0<t->∀regs,uN regs->Bd C regs->hl i.Op (regs i.A.toNat) (EU i regs)=true->At s O regs)/\(1<t->∀regs,uN regs->Bd C regs->hl i.Op (regs i.A.toNat) (EU i regs)=false->At s (B+1) regs))
  ⟨h,nw.refl j,λh=>by omega,λh=>by omega⟩ (λt s y ht S kk=> ?_) (λs S=>S)) (λp T=>b9 ⟨T.2.1,λregs q regs' g k b W=> ?_⟩)
 ·unfold dZ;refine g9 (i9 (by simpa using ht) (λx I=> ?_))
  have ht2:t=0/\x=true\/t=1/\x=false:=by
   grind
  refine d6 (R:=λ(o:Int)=>∃J:Nat,o=(J:Int)/\J<m.Code.length/\(x=true->J=O)/\(x=false->J=B+1)) ?_ (λo Z=> ?_)
  ·refine d5 (λI=>b9 ⟨B+1,G,K.Vd.on V c,λh=>by simp [h] at I,λ_=>rfl⟩) (λI=>b9 ⟨O,P,by omega,λ_=>rfl,λh=>by simp [h] at I⟩)
  obtain ⟨J,rfl,hq',hqt,hqf⟩:=Z;rw [Ha hA.1 hA.2];simp only [zbs];refine d6 (R:=λr=>SW r.1/\∀regs,uN regs->Bd C regs->hl i.Op (regs i.A.toNat) (EU i regs)=x->r.2=true/\inS r.1 (regs i.A.toNat)) ?_ (λr hr2=> ?_)
  ·obtain ⟨r0,hr0,hr1⟩:=Cz (op:=i.Op) (h:=x) (F i.A.toNat (by omega)).span Q.span;rw [hr0];refine b9 ⟨hr1,λregs g f X=> ?_⟩;have I:=(f i.A.toNat (by omega)).1 u.1;have hy:=(ET (regs:=regs) k f).1 u.2;have:=JY (op:=i.Op) (F i.A.toNat (by omega)).span Q.span I hy w a.2
   grind [vc,EU,RT]
  have add:∀{E:zj},JI m E->nw s E->((∀regs,uN regs->Bd C regs->hl i.Op (regs i.A.toNat) (EU i regs)=x->At E J regs))->OK (y E) (λs=>JI m s/\nw j s/\(0<2->∀regs,uN regs->Bd C regs->hl i.Op (regs i.A.toNat) (EU i regs)=true->At s O regs)/\(1<2->∀regs,uN regs->Bd C regs->hl i.Op (regs i.A.toNat) (EU i regs)=false->At s (B+1) regs)):=by
   intro E hs' U hat;refine kk E ⟨hs',S.2.1.trans U,λ_ regs g f X=> ?_,λh1 regs g f X=> ?_⟩
   ·rcases ht2 with ⟨rfl,hxx⟩|⟨rfl,hxx⟩
    ·grind
    ·exact (S.2.2.1 (by omega) regs g f X).grow g U
   grind
  refine d5 (λ_=> ?_) (λhf=> ?_)
  ·simp only [lF,zbs];refine d6 (EV S.1 hq' (ns F (WT.num hr2.1))) (λE ⟨a1,a2,a3⟩=>add a1 a2 (λregs g f X=>a3 regs g (λr l=> ?_)));unfold aset;split
   ·grind [nv]
   ·exact f r l
  grind
 ·cases b with
  |yes q G e2 e3 e4=>
   grind
  |no G e2 e3=>exact T.2.2.2 (by simp) _ g k e3
  |_=>omega
structure Snd (m:zE) (n:Nat) (j:zj):Prop where
 zero:∀regs,uN regs->At j 0 regs
 step:∀(p:Nat)(i:zf)(x:Nat->zi),p<n->m.Code[p]? =some i->j.any[p]? =some true->j.came[p]? =some x->∀regs q regs',uN regs->Bd x regs->Stp i p regs q regs'->At j q regs'
 VZ:∀(p:Nat)(i:zf)(x:Nat->zi),p<n->m.Code[p]? =some i->j.any[p]? =some true->j.came[p]? =some x->i.Op=21->i.UN<=4->(x 1).TY=2
theorem Mo(h:Hc m B j)(N:Snd m B j)(y:wj m.Code)(z:B<m.Code.length)(o:zj->Option (zj⊕((Option zj)×Int×Int))) (hk:∀U,Hc m (B+1) U->Snd m (B+1) U->OK (o U) E) (he:∀e,e≠0->E (.inr (none,(B:Int),e))):OK (cB 2199023255552 B o j) E:=by
 unfold cB;obtain ⟨a,ha,V⟩:=aR (xs:=j.any) (p:=B) (by rw [h.ji.VP];exact z)
 simp only [V,zbs];refine d5 (λO=> ?_) (λO=> ?_)
 ·have O:a=false:=by simpa using O
  have no:∀{p:Nat},p<B+1->j.any[p]? =some true->p<B:=by
   intro p A b;by_cases e:p=B
   ·subst e;rw [ha,O] at b;cases b
   ·omega
  exact hk j {h with VR:=λp i A f n b=>h.VR p i (no A b) f n b}
   ⟨N.zero,λp i x A f b d=>N.step p i x (no A b) f b d,λp i x A f b d=>N.VZ p i x (no A b) f b d⟩
 have W:j.any[B]? =some true:=by rw [ha];simpa using O
 refine d6 (Gf (F6 h.ji y z) (Mm h.ji y z)) (λX g=> ?_);obtain ⟨⟨g,k,s⟩,Y⟩:=g;refine d6 (Gf (Ny g y z) (Rh g y z)) (λr K=> ?_);refine d5 (λe=>b9 (he _ (by simpa using e))) (λe=> ?_);obtain ⟨t,L⟩:=K;have t:=t (by simpa using e);have L:=L (by simpa using e);obtain ⟨Z,l,_⟩:=aR z;obtain ⟨k0,C,_⟩:=aR (xs:=X.came) (p:=B) (by rw [g.VQ];exact z)
 have P:=L Z k0 l C
 have g1:nw j X:=⟨λq x I d=>by
  by_cases e:q=B
  ·subst e;exact Y x d
  ·exact ⟨x,by rw [s q e];exact d,iG.refl x⟩,λq I=>by rw [k];exact I⟩
 refine d6 (Gf (Jv g y z t.1) (Pp g y z l t.1 (g.wt B k0 C) P)) (λj2 F=> ?_);obtain ⟨⟨F,u⟩,g2,Q⟩:=F;have hcl:Qa m.Code X:=by intro q a ia;rw [k];exact h.WE q a ia
 have M:Hc m (B+1) j2:=by
  refine ⟨F,u.keep _ (by rw [k];exact h.zero),hcl.ways y (by rw [k];exact W) u,λp i A f n b q I x hh d G=> ?_⟩
  have hlp:=y.Vd.loop f n;rw [(u.same p (by omega)).1] at d;rw [(u.same _ (by omega)).1] at G;rw [(u.same p (by omega)).2,k] at b;by_cases e:p=B
  ·subst e;exact t.2 i f n q I x hh d G
  ·rw [s p e] at d;rw [s _ (by omega)] at G;exact h.VR p i (by omega) f n b q I x hh d G
 refine hk j2 M ⟨λregs J=>((N.zero regs J).grow J g1).grow J g2,λp i x A f b d regs q regs' J hs v=> ?_,λp i x A f b d n R=> ?_⟩
 ·have K:=y.Vd.right f;by_cases e:p=B
  ·subst e;obtain rfl:i=Z:=by rw [f] at l;exact i8 l
   have w:=d;rw [(u.same p (k9 _)).1,C] at w;cases w;by_cases hb:i.Op=20->q=p+1
   ·exact Q regs q regs' J hs v hb
   ·
    have n:i.Op=20:=Classical.byContradiction (λhne=>hb (λe=>absurd e hne));have hlp:=y.Vd.loop f n
    have I:(q:Int)=p-i.D/\regs'=regs:=by
     cases v with
     |back q e1 e2=>exact ⟨e2,rfl⟩
     |on e1=>exact absurd (λ_=>rfl) hb
     |_=>omega
    obtain ⟨I,rfl⟩:=I;have c:=M.WE p p i b f n (by omega) (k9 _);have S:((p:Int)-i.D).toNat=q:=by omega
    rw [S] at c;obtain ⟨hd,T,_⟩:=aR (xs:=j2.came) (p:=q) (by rw [F.VQ];omega);exact ⟨c,hd,T,λr K=>Ml (M.VR p i (by omega) f n b r K _ hd d (by rw [S];exact T)) (hs r K)⟩
  ·have w:=d;rw [(u.same p (by omega)).1,s p e] at w;have c:=b;rw [(u.same p (by omega)).2,k] at c;have:=N.step p i x (by omega) f c w regs q regs' J hs v;exact (this.grow (v.u64s K J) g1).grow (v.u64s K J) g2
 ·by_cases e:p=B
  ·subst e;obtain rfl:i=Z:=by rw [f] at l;exact i8 l
   rw [(u.same p (k9 _)).1,C] at d;cases d;exact P.VZ n R
  ·rw [(u.same p (by omega)).1,s p e] at d;rw [(u.same p (by omega)).2,k] at b;exact N.VZ p i x (by omega) f b d n R
theorem CQ(m:zE):OK (xb 2199023255552 m) (λr=>r.2.2=0->∃j,r.1=some j/\wj m.Code/\pg m.Maps/\Hc m m.Code.length j/\Snd m m.Code.length j):=by
 unfold xb;refine d6 (Jx _) (λg d=> ?_);refine d5 (λ_=>b9 (λh=>by simp at h)) (λn=> ?_);have d:=d.1 (by simpa using n);obtain ⟨r,u,E,v,F⟩:=ul m.Code;simp only [u,zbs];refine d5 (λq=>b9 (λh=>absurd h (by simpa using q))) (λq=> ?_);have f:=(v (by simpa using q)).2;have G:=f.Wq;have w:=f.n1;refine d6 (R:=λo=>o=zj.mk m (List.replicate m.Code.length (λ_=>pY)) (List.replicate m.Code.length false) []) ?_ (λo t=> ?_)
 ·grind [g9,OK.mkl,b9,pY]
 subst t;simp only [wP f,zbs]
 have y:idx (List.replicate m.Code.length false) 0=some false:=by
  grind [KF]
 rw [y];simp only [zbs];refine d6 (i5 (Q:=λo=>match o with|.inl j=>Hc m m.Code.length j/\Snd m m.Code.length j|.inr r=>r.2.2≠0) (λi s=>Hc m i s/\Snd m i s) ⟨?_,⟨λregs _=> ?_,λp i x z=>by omega,λp i x z=>by omega⟩⟩ (λi s c A l k=>Mo l.1 l.2 f A c (λB a b=>k B ⟨a,b⟩) (λe C=>C)) (λs l=>l)) (λo t=> ?_)
 ·grind [Q9]
 ·obtain ⟨x,D,_⟩:=aR (xs:=List.replicate m.Code.length (λ_:Nat=>pY)) (p:=0) (by simp;omega);refine ⟨?_,x,by simpa using D,λr _=> ?_⟩
  ·grind
  grind [pY,Bc]
 grind [b9]
end Go.Proofs.YtplmgfkghomelaaGreatDoor
