/- Lemmas. -/
import Derived.Test.YtplmgfkghomelaaGreatDoorKSpan2
set_option linter.unusedVariables false
set_option linter.unusedSimpArgs false
namespace Go.Proofs.YtplmgfkghomelaaGreatDoor
section
open Go.Sx
def inS(s:zh)(n:Int):Prop:=s.Lo<=n/\n<=s.Hi
def sem(x:zi)(n:Int):Prop:=(x.RZ=1->inS x.SD n)/\(x.RZ=2->n=x.SO)
def u64(n:Int):Prop:=0<=n/\n<18446744073709551616
theorem kZ{n:Int}(h:u64 n):inS ⟨0,18446744073709551615⟩ n:=by
 obtain ⟨h0,h1⟩:=h;exact ⟨h0,by grind⟩
def ar(op x y:Int):Int:=
 if op==1 then xS (x+y) else if op==2 then xS (x-y) else if op==3 then xS (x*y)
 else if op==4 then (if y==0 then 0 else xS (x.tdiv y)) else if op==5 then (if y==0 then x else x.tmod y)
 else if op==6 then wc .u64 x y else if op==7 then bOr .u64 x y else if op==8 then Mo .u64 x y
 else if op==9 then wd .u64 x y else if op==10 then iE .u64 x y else 0
theorem wX{op x y:Int}(hx:u64 x)(hy:u64 y):ga op x y=some (ar op x y,decide (1<=op)&&decide (op<=10)):=by
 obtain ⟨r,h1,_,_,h4⟩:=Ae (op:=op) hx.1 hx.2 hy.1 hy.2;rw [h1,<- h4]
 have key:r.1=ar op x y:=by
  unfold ga at h1;unfold ar;rcases zft (op==1) with e|e
  ·grind
  rw [d8 (by simp [e])] at h1 |-;rcases zft (op==2) with e|e
  ·grind
  rw [d8 (by simp [e])] at h1 |-;rcases zft (op==3) with e|e
  ·grind
  rw [d8 (by simp [e])] at h1 |-;rcases zft (op==4) with e|e
  ·grind [my]
  rw [d8 (by simp [e])] at h1 |-;rcases zft (op==5) with e|e
  ·grind [my]
  rw [d8 (by simp [e])] at h1 |-;rcases zft (op==6) with e|e
  ·grind
  rw [d8 (by simp [e])] at h1 |-;rcases zft (op==7) with e|e
  ·grind
  rw [d8 (by simp [e])] at h1 |-;rcases zft (op==8) with e|e
  ·grind
  rw [d8 (by simp [e])] at h1 |-;rcases zft (op==9) with e|e
  ·rw [d7 e] at h1 |-;rw [fd hy.1] at h1;cases h1;rfl
  rw [d8 (by simp [e])] at h1 |-;rcases zft (op==10) with e|e
  ·rw [d7 e] at h1 |-;rw [fd hy.1] at h1;cases h1;rfl
  grind
 rw [<- key]
theorem PT{op x y:Int}(hx:u64 x)(hy:u64 y):u64 (ar op x y):=by
 obtain ⟨r,h1,h2,h3,_⟩:=Ae (op:=op) hx.1 hx.2 hy.1 hy.2;rw [wX hx hy] at h1;cases h1;exact ⟨h2,h3⟩
theorem SW.in_{s:zh}{n:Int}(h:SW s)(hn:inS s n):u64 n:=⟨by have:=h.1;have:=hn.1;omega,by have:=h.2.2;have:=hn.2;omega⟩
section
variable {a b:zh} {x y:Int}
theorem PU(ha:SW a)(hb:SW b)(hx:inS a x)(hy:inS b y):OK (kV a b) (λr=>inS r (xS (x+y))):=by
 obtain ⟨a0,a1,a2⟩:=ha;obtain ⟨b0,b1,b2⟩:=hb;obtain ⟨x0,x1⟩:=hx;obtain ⟨y0,y1⟩:=hy;unfold kV FM;rw [d7 ⟨by omega,by omega,by omega,by omega⟩];simp only [zbs,gY];refine d5 (λh=>b9 (kZ (xc _))) (λh=>b9 ?_);have h1:=yu h;have h2:a.Hi+b.Hi<18446744073709551616:=by omega
 rw [xR (x:=x+y) (by omega) (by omega)];constructor
 ·grind [xS,xR]
 grind
theorem Gh(ha:SW a)(hb:SW b)(hx:inS a x)(hy:inS b y):OK (bU a b) (λr=>inS r (xS (x*y))):=by
 have ux:=ha.in_ hx;have uy:=hb.in_ hy;obtain ⟨al,ah⟩:=a;obtain ⟨bl,bh⟩:=b;obtain ⟨a0,a1,a2⟩:=ha;obtain ⟨b0,b1,b2⟩:=hb;obtain ⟨x0,x1⟩:=hx;obtain ⟨y0,y1⟩:=hy;simp only at a0 a1 a2 b0 b1 b2 x0 x1 y0 y1;obtain ⟨al,rfl⟩:=zof a0;obtain ⟨bl,rfl⟩:=zof b0;obtain ⟨ah,rfl⟩:=zof (show 0<=ah by omega);obtain ⟨bh,rfl⟩:=zof (show 0<=bh by omega);obtain ⟨x,rfl⟩:=zof ux.1;obtain ⟨y,rfl⟩:=zof uy.1;unfold bU;obtain ⟨hi,h1,h2⟩:=PW (x:=ah) (y:=bh) (by omega) (by omega);simp only [h1,zbs,gY];refine d5 (λh=>b9 (kZ (xc _))) (λh=>b9 ?_);have h3:=yu h
 have h4:ah*bh<18446744073709551616:=by
  grind
 have h5:al*bl<=x*y:=z3 (by omega) (by omega);have h6:x*y<=ah*bh:=z3 (by omega) (by omega);simp only [<- Int.natCast_mul];rw [wuN h4,wuN (show x*y<_ by omega),wuN (show al*bl<_ by omega)];exact ⟨yv.2 h5,yv.2 h6⟩
theorem Gi(ha:SW a)(hb:SW b)(hx:inS a x)(hy:inS b y):OK (bV a b) (λr=>inS r (if y==0 then 0 else xS (x.tdiv y))):=by
 have ux:=ha.in_ hx;have uy:=hb.in_ hy;obtain ⟨al,ah⟩:=a;obtain ⟨bl,bh⟩:=b;obtain ⟨a0,a1,a2⟩:=ha;obtain ⟨b0,b1,b2⟩:=hb;obtain ⟨x0,x1⟩:=hx;obtain ⟨y0,y1⟩:=hy;simp only at a0 a1 a2 b0 b1 b2 x0 x1 y0 y1;obtain ⟨al,rfl⟩:=zof a0;obtain ⟨bl,rfl⟩:=zof b0;obtain ⟨ah,rfl⟩:=zof (show 0<=ah by omega);obtain ⟨bh,rfl⟩:=zof (show 0<=bh by omega);obtain ⟨x,rfl⟩:=zof ux.1;obtain ⟨y,rfl⟩:=zof uy.1;obtain ⟨_,ux⟩:=ux;unfold bV;refine d5 (λh=>b9 ?_) (λh=> ?_)
 ·split
  ·exact ⟨by simp,by grind⟩
  ·rw [Ad,wuN (by have:=Nat.div_le_self x y;omega)];have:=Nat.div_le_self x y;refine ⟨?_,?_⟩
   ·grind
   grind
 ·have hb:(bl:Int)≠0:=by simpa using h
  have hyz:((y:Int)==0)=false:=by simp;omega
  rw [my (show (bh:Int)≠0 by omega)];simp only [zbs];rw [my hb,hyz];simp only [zbs,Ad];have h1:al / bh<=x / y:=s9 (Nat.div_le_div_right (by omega)) (Nat.div_le_div_left (by omega) (by omega));have h2:x / y<=ah / bl:=s9 (Nat.div_le_div_right (by omega)) (Nat.div_le_div_left (by omega) (by omega));have h3:=Nat.div_le_self ah bl;rw [wuN (show al / bh<_ by omega),wuN (show ah / bl<_ by omega)];refine b9 ?_;rw [d8 (by simp),wuN (show x / y<_ by omega)];exact ⟨yv.2 h1,yv.2 h2⟩
theorem NW(ha:SW a)(hb:SW b)(hx:inS a x)(hy:inS b y):OK (gQ a b) (λr=>inS r (if y==0 then x else x.tmod y)):=by
 have ux:=ha.in_ hx;have uy:=hb.in_ hy;obtain ⟨a0,a1,a2⟩:=id ha;obtain ⟨b0,b1,b2⟩:=id hb;obtain ⟨x0,x1⟩:=id hx;obtain ⟨y0,y1⟩:=id hy;obtain ⟨x,rfl⟩:=zof ux.1;obtain ⟨y,rfl⟩:=zof uy.1;have e:(x:Int).tmod (y:Int)=((x%y:Nat):Int):=rfl;have hm:=Nat.mod_le x y;unfold gQ;refine d5 (λh=>b9 ?_) (λh=> ?_)
 ·split
  ·exact ⟨by grind,x1⟩
  ·rw [e];exact ⟨by grind,by grind⟩
 have hb0:b.Lo≠0:=by simpa using h
 have hyz:((y:Int)==0)=false:=by simp;omega
 rw [hyz];simp only [zfe,x3];refine d5 (λh2=>b9 ?_) (λh2=>b9 ?_)
 ·have h2:=yc h2;rw [e,z4 (by omega)];exact hx
 ·rw [e,xR (by omega) (by omega)];have:=Nat.mod_lt x (show 0<y by omega);refine ⟨by grind,?_⟩
  grind [mV]
theorem IJ{n:Int}(h0:0<=n)(h1:n<18446744073709551616):OK (fy n) (λr=>∃k:Nat,k<=64/\r=((2^k-1:Nat):Int)/\n.toNat<2^k):=by
 obtain ⟨n,rfl⟩:=zof h0;obtain ⟨k,k1,k2,k3,_⟩:=sk (n:=n) (by omega);unfold fy;simp only [k2,zbs];rw [fd (by omega)];refine b9 ⟨k,k1,?_,by simpa using k3⟩
 have e:wd .u64 1 (k:Int)=((2^k%18446744073709551616:Nat):Int):=by
  grind [oT]
 show xS (wd .u64 1 (k:Int)-1)=_;rw [e];by_cases hk:k=64
 ·grind [sj]
 ·have h2:(2:Nat)^k<=2^63:=Nat.pow_le_pow_right (by omega) (by omega)
  grind [xR]
theorem NX(ha:SW a)(hb:SW b)(hx:inS a x)(hy:inS b y):OK (gR a b) (λr=>inS r (wd .u64 x y)):=by
 have ux:=ha.in_ hx;have uy:=hb.in_ hy;obtain ⟨al,ah⟩:=a;obtain ⟨bl,bh⟩:=b;obtain ⟨a0,a1,a2⟩:=ha;obtain ⟨b0,b1,b2⟩:=hb;obtain ⟨x0,x1⟩:=hx;obtain ⟨y0,y1⟩:=hy;simp only at a0 a1 a2 b0 b1 b2 x0 x1 y0 y1;obtain ⟨al,rfl⟩:=zof a0;obtain ⟨bl,rfl⟩:=zof b0;obtain ⟨ah,rfl⟩:=zof (show 0<=ah by omega);obtain ⟨x,rfl⟩:=zof ux.1;obtain ⟨k,k1,k2,k3,k4,k5⟩:=sk (n:=ah) (by omega);unfold gR xP;simp only [k2,zbs,gY];refine d6 (R:=λo=>o=false->(bl:Int)=bh/\(k=0\/k+bl<=64)) ?_ (λo ho=> ?_)
 ·refine d5 (λ_=>b9 (by simp)) (λhs=>d5 (λh1=> ?_) (λh1=>b9 (λ_=>⟨by simpa using hs,.inl ?_⟩)))
  ·refine d5 (λ_=>b9 (by simp)) (λh2=>b9 (λh3=>⟨by simpa using hs,.inr ?_⟩))
   grind [xR]
  grind
 ·refine d5 (λ_=>b9 (kZ (IV _ _))) (λh=> ?_);obtain ⟨hs,ho⟩:=ho h;have hyb:y=(bl:Int):=by omega
  subst hyb;rw [fd (by omega)];simp only [zbs];refine b9 ?_
  have e:∀n:Nat,wd .u64 (n:Int) (bl:Int)=((n*2^(min bl 64)%18446744073709551616:Nat):Int):=by
   grind [oT]
  rw [e,e,e];rcases ho with hk|hk
  ·have h6:ah=0:=by subst hk;simp at k3;omega
   have h7:al=0:=by omega
   have h8:x=0:=by omega
   subst h6;subst h7;subst h8;exact ⟨by simp,by simp⟩
  ·rw [show min bl 64=bl by omega]
   have h6:ah*2^bl<18446744073709551616:=by
    have h7:ah*2^bl<2^k*2^bl:=Nat.mul_lt_mul_of_pos_right k3 (Nat.pow_pos (by omega));rw [<- Nat.pow_add] at h7;have h8:(2:Nat)^(k+bl)<=2^64:=Nat.pow_le_pow_right (by omega) hk;omega
   have h9:al*2^bl<=x*2^bl:=o9 _ (by omega);have h10:x*2^bl<=ah*2^bl:=o9 _ (by omega);rw [z4 h6,z4 (show x*2^bl<_ by omega),z4 (show al*2^bl<_ by omega)];exact ⟨yv.2 h9,yv.2 h10⟩
theorem QS{op:Int}(ha:SW a)(hb:SW b)(hx:inS a x)(hy:inS b y)(o1:1<=op)(o2:op<=10):OK (nL op a b) (λr=>inS r.1 (ar op x y)):=by
 have ux:=ha.in_ hx;have uy:=hb.in_ hy;obtain ⟨a0,a1,a2⟩:=id ha;obtain ⟨b0,b1,b2⟩:=id hb;obtain ⟨x0,x1⟩:=id hx;obtain ⟨y0,y1⟩:=id hy;unfold nL;rw [wX (op:=op) (x:=a.Lo) (y:=b.Lo) ⟨a0,by omega⟩ ⟨b0,by omega⟩];simp only [mg ha,mg hb,zbs];refine d6 (R:=λo=>o=false) ?_ (λo ho=> ?_)
 ·refine d5 (λh=> ?_) (λh=>d5 (λh=>by cases h) (λ_=>b9 rfl))
  grind
 subst ho;refine d5 (λh=>by cases h) (λ_=> ?_);unfold xP;refine d6 (R:=λo=>o=true->a.Lo=a.Hi/\b.Lo=b.Hi) ?_ (λo ho=> ?_)
 ·exact d5 (λh1=>b9 (λh2=>⟨by simpa using h1,by simpa using h2⟩)) (λ_=>b9 (λh=>by cases h))
 refine d5 (λh=> ?_) (λ_=> ?_)
 ·obtain ⟨e1,e2⟩:=ho h;have ex:x=a.Lo:=by omega
  have ey:y=b.Lo:=by omega
  subst ex;subst ey;exact b9 ⟨r6 _,r6 _⟩
 have fwd:∀{o:Option zh} {z:Int},OK o (λr=>inS r z)->OK (o.bind λr=>some (r,true)) (λr=>inS r.1 z):=λh=>d6 h (λx hx=>b9 hx)
 refine d5 (λe=> ?_) (λe1=> ?_)
 ·have e:op=1:=by simpa using e
  subst e;exact fwd (PU ha hb hx hy)
 refine d5 (λe=> ?_) (λe2=> ?_)
 ·have e:op=2:=by simpa using e
  subst e;refine d5 (λ_=>fwd (b9 (kZ (xc _)))) (λh=>b9 ?_);have h:=yu h;rw [xR (x:=a.Lo-b.Hi) (by omega) (by omega),xR (x:=a.Hi-b.Lo) (by omega) (by omega),show ar 2 x y=xS (x-y) from rfl,xR (x:=x-y) (by omega) (by omega)];exact ⟨by show a.Lo-b.Hi<=_;omega,by show _<=a.Hi-b.Lo;omega⟩
 refine d5 (λe=> ?_) (λe3=> ?_)
 ·have e:op=3:=by simpa using e
  subst e;exact fwd (Gh ha hb hx hy)
 refine d5 (λe=> ?_) (λe4=> ?_)
 ·have e:op=4:=by simpa using e
  subst e;exact fwd (Gi ha hb hx hy)
 refine d5 (λe=> ?_) (λe5=> ?_)
 ·have e:op=5:=by simpa using e
  subst e;exact fwd (NW ha hb hx hy)
 refine d5 (λe=> ?_) (λe6=> ?_)
 ·have e:op=6:=by simpa using e
  subst e;refine b9 ⟨(DZ x y).1,?_⟩;rw [show ar 6 x y=wc .u64 x y from rfl,Fj ux.1 ux.2 uy.1 uy.2];have h1:x.toNat &&& y.toNat<=x.toNat:=Nat.and_le_left;have h2:x.toNat &&& y.toNat<=y.toNat:=Nat.and_le_right;show _<=mV a.Hi b.Hi;unfold mV;split<;>omega
 have hor:=DY (x:=a.Hi) (y:=b.Hi) (by omega) a2 (by omega) b2;have hor2:=BU a.Hi b.Hi;refine d5 (λe=> ?_) (λe7=> ?_)
 ·have e:op=7:=by simpa using e
  subst e;refine d6 (IJ hor2.1 hor2.2) (λr hr=>b9 ?_);obtain ⟨k,_,rfl,hk⟩:=hr;have g:=DY ux.1 ux.2 uy.1 uy.2;have hlt:(x.toNat ||| y.toNat)<2^k:=Nat.or_lt_two_pow (by omega) (by omega);rw [show ar 7 x y=bOr .u64 x y from rfl];rw [IR ux.1 ux.2 uy.1 uy.2] at g |-;refine ⟨?_,?_⟩
  ·show pN a.Lo b.Lo<=_;unfold pN;split<;>omega
  ·show _<=((2^k-1:Nat):Int)
   omega
 refine d5 (λe=> ?_) (λe8=> ?_)
 ·have e:op=8:=by simpa using e
  subst e;refine d6 (IJ hor2.1 hor2.2) (λr hr=>b9 ?_);obtain ⟨k,_,rfl,hk⟩:=hr;have hlt:(x.toNat ^^^ y.toNat)<2^k:=Nat.xor_lt_two_pow (by omega) (by omega);rw [show ar 8 x y=Mo .u64 x y from rfl,K8 ux.1 ux.2 uy.1 uy.2];refine ⟨Int.natCast_nonneg _,?_⟩;show _<=((2^k-1:Nat):Int)
  omega
 refine d5 (λe=> ?_) (λe9=> ?_)
 ·have e:op=9:=by simpa using e
  subst e;exact fwd (NX ha hb hx hy)
 simp only [beq_eq_false_iff_ne,ne_eq] at e1 e2 e3 e4 e5 e6 e7 e8 e9;have e:op=10:=by omega
 subst e;rw [fd (show 0<=b.Hi by omega)];simp only [zbs];rw [fd b0];exact b9 ⟨Ac a0 x0 y1,Ac ux.1 x1 y0⟩
def hl(op x y:Int):Bool:=if op==16 then x==y else if op==17 then x !=y else if op==18 then decide (x<y) else if op==19 then decide (x>=y) else false
theorem Fe(op x y:Int):aU op x y=some (hl op x y,inB op 16 19):=by
 obtain ⟨r,h1,h2⟩:=EW op x y
 grind [hl,aU]
theorem DU(ha:SW a)(hb:SW b)(hx:inS a x)(hx2:inS b x):OK (dZ [a,b]) (λr=>r.2=true/\inS r.1 x):=by
 refine ⟨_,Ii ha hb,?_⟩;obtain ⟨a0,a1,a2⟩:=ha;obtain ⟨b0,b1,b2⟩:=hb;obtain ⟨x0,x1⟩:=hx;obtain ⟨y0,y1⟩:=hx2;have h1:pN (pN 0 a.Lo) b.Lo<=x:=by grind [pN]
 have h2:x<=mV (mV 18446744073709551615 a.Hi) b.Hi:=by grind [mV]
 rw [d7 (by omega)];exact ⟨rfl,h1,h2⟩
theorem IK{op:Int}(ha:SW a)(hb:SW b)(hx:inS a x)(hy:inS b y)(o1:16<=op)(o2:op<=19):OK (dG op a b (hl op x y)) (λr=>r.2=true/\inS r.1 x):=by
 have ux:=ha.in_ hx;have uy:=hb.in_ hy;obtain ⟨a0,a1,a2⟩:=id ha;obtain ⟨b0,b1,b2⟩:=id hb;obtain ⟨x0,x1⟩:=id hx;obtain ⟨y0,y1⟩:=id hy;have ho:inB op 16 19=true:=by simp [inB];omega
 unfold dG;rw [Fe,ho];simp only [mg ha,mg hb,zbs];refine d6 (R:=λo=>o=false) (d5 (λh=>by cases h) (λ_=>d5 (λh=>by cases h) (λ_=>b9 rfl))) (λo ho=> ?_);subst ho;refine d5 (λh=>by cases h) (λ_=> ?_);unfold xP;simp only [zbs];refine d5 (λ_=>b9 ⟨rfl,hx⟩) (λhs=> ?_);have hs:b.Lo=b.Hi:=by simpa using hs
 have ey:y=b.Lo:=by omega
 have hlv:(op=16/\hl op x y=(x==y))\/(op=17/\hl op x y=(x !=y))\/(op=18/\hl op x y=decide (x<y))\/(op=19/\hl op x y=decide (x>=y)):=by
  have:op=16\/op=17\/op=18\/op=19:=by omega
  rcases this with rfl|rfl|rfl|rfl
  ·exact .inl ⟨rfl,rfl⟩
  ·exact .inr (.inl ⟨rfl,rfl⟩)
  ·exact .inr (.inr (.inl ⟨rfl,rfl⟩))
  ·exact .inr (.inr (.inr ⟨rfl,rfl⟩))
 refine d6 (R:=λo=>o=true↔(op=18/\hl op x y=true)\/(op=19/\hl op x y=false)) ?_ (λo ho=> ?_)
 ·refine d5 (λh=>b9 ?_) (λh=>d5 (λh2=>b9 ?_) (λh2=>b9 ?_))
  ·simp at h;simp [h]
  ·grind
  grind
 refine d5 (λh=>d5 (λhz=> ?_) (λhz=> ?_)) (λh=> ?_)
 ·grind
 ·have hz:b.Lo≠0:=by simpa using hz
  have hlt:x<y:=by
   grind
  refine d6 (DU (x:=x) ha ?_ hx ?_) (λr hr=>b9 hr)
  ·rw [xR (by omega) (by omega)];exact ⟨by simp,by simp;omega,by simp;omega⟩
  ·rw [xR (by omega) (by omega)];exact ⟨ux.1,by grind⟩
 have hn1:¬ ((op=18/\hl op x y=true)\/(op=19/\hl op x y=false)):=λh2=>by grind
 refine d6 (R:=λo=>o=true↔op=18\/op=19) ?_ (λo ho2=> ?_)
 ·refine d5 (λh=>b9 ?_) (λh=>b9 ?_)
  ·grind
  grind
 refine d5 (λh=> ?_) (λh=> ?_)
 ·have hge:x>=y:=by
   grind
  refine d6 (DU (x:=x) ha ⟨b0,by simp;omega,by simp⟩ hx ⟨by grind,by grind⟩) (λr hr=>b9 hr)
 have hne:op=16\/op=17:=by
  grind
 refine d6 (R:=λo=>o=true↔x=y) ?_ (λo ho3=> ?_)
 ·refine d5 (λh=>b9 ?_) (λh=>d5 (λh2=>b9 ?_) (λh2=>b9 ?_))
  ·grind
  ·grind
  grind
 refine d5 (λh=> ?_) (λh=> ?_)
 ·grind [d6,DU,b9]
 have hxy:x≠y:=λe=>by grind
 refine d5 (λh2=> ?_) (λh2=> ?_)
 ·grind
 refine d5 (λh3=>b9 ⟨rfl,?_⟩) (λh3=> ?_)
 ·have h3:a.Lo=b.Lo:=by simpa using h3
  rw [xR (by omega) (by omega)];exact ⟨by grind,x1⟩
 refine d5 (λh4=>b9 ⟨rfl,?_⟩) (λh4=>b9 ⟨rfl,hx⟩);have h4:a.Hi=b.Lo:=by simpa using h4
 rw [xR (by omega) (by omega)];exact ⟨x0,by grind⟩
end
theorem wY(n:Int):sem oO n:=⟨λh=>by simp [oO] at h,λh=>by simp [oO] at h⟩
theorem mu{s:zh}{n:Int}(h:inS s n):sem ⟨1,s,0⟩ n:=⟨λ_=>h,λh=>by simp at h⟩
theorem K2{k:Nat}{a b:zi}{n:Int}(ha:WT k a)(hb:WT k b)(h:sem a n\/sem b n):sem (DK a b) n:=by
 unfold DK;split
 ·exact wY n
 rename_i hne
 have hk:a.RZ=b.RZ/\a.SO=b.SO:=by simpa using hne
 split
 ·rename_i h1
  have h1:a.RZ=1:=by simpa using h1
  refine mu ?_;have hin:inS a.SD n\/inS b.SD n:=h.imp (λh=>h.1 h1) (λh=>h.1 (by omega));obtain ⟨a0,a1,a2⟩:=ha.span;obtain ⟨b0,b1,b2⟩:=hb.span;constructor
  ·show mV (mV 18446744073709551615 a.SD.Lo) b.SD.Lo<=n;unfold mV;rcases hin with ⟨i1,i2⟩|⟨i1,i2⟩<;>(repeat' split)<;>omega
  ·show n<=pN (pN 0 a.SD.Hi) b.SD.Hi;unfold pN;rcases hin with ⟨i1,i2⟩|⟨i1,i2⟩<;>(repeat' split)<;>omega
 ·rename_i h1
  have h1:a.RZ≠1:=by simpa using h1
  rcases h with h|h
  ·exact h
  ·exact ⟨λe=>absurd e h1,λe=>by rw [hk.2];exact h.2 (by omega)⟩
theorem K3{a b:zi}{n:Int}(h:DM a b)(ha:sem a n):sem b n:=by
 refine ⟨λe=> ?_,λe=> ?_⟩
 ·obtain ⟨h1,h2,h3,h4⟩:=h.1 e;obtain ⟨i1,i2⟩:=ha.1 h1;exact ⟨by omega,by omega⟩
 ·have:=h.2 e;subst this;exact ha.2 e
theorem DV{i:zf}{k:Nat->zi}{regs:Nat->Int}(h:i.B=8\/(0<=i.B/\i.B<8))(hk:∀r,r<8->sem (k r) (regs r)):sem (Mj i k) (if i.B==8 then xS i.SU else regs i.B.toNat):=by
 unfold Mj;split
 ·exact mu ⟨r6 _,r6 _⟩
 grind
open Go.Sx
variable {m:zC} {j:zj}
theorem Qp{α:Type}{o:Option α}{x:α}{Q:α->Prop}(h:OK o Q)(e:o=some x):Q x:=by
 obtain ⟨y,h1,h2⟩:=h
 grind
theorem Fg{α:Type}{o:Option α}{Q R:α->Prop}(h:OK o Q)(k:OK o R):OK o (λx=>Q x/\R x):=by
 obtain ⟨y,h1,h2⟩:=h;exact ⟨y,h1,h2,Qp k h1⟩
def wZ(k:Nat->zi)(regs:Nat->Int):Prop:=∀r,r<8->sem (k r) (regs r)
def tA(regs:Nat->Int):Prop:=∀r,r<8->u64 (regs r)
def gX(x x':Nat->zi):Prop:=∀r n,r<8->u64 n->sem (x r) n->sem (x' r) n
theorem gX.refl(x:Nat->zi):gX x x:=λ_ _ _ _ h=>h
theorem gX.trans{x y z:Nat->zi}(h:gX x y)(k:gX y z):gX x z:=λr n hr hn hs=>k r n hr hn (h r n hr hn hs)
theorem gX.sems{x y:Nat->zi}{regs:Nat->Int}(h:gX x y)(hu:tA regs)(hs:wZ x regs):wZ y regs:=λr hr=>h r _ hr (hu r hr) (hs r hr)
theorem kB{k:Nat->zi}{regs:Nat->Int}(h:wZ k regs){t:Nat}{x:zi}{v:Int}(hv:sem x v):wZ (aset k t x) (aset regs t v):=by
 intro r hr;unfold aset;split
 ·exact hv
 ·exact h r hr
theorem NY(h:JI m j){p:Nat}(hp:p<m.Code.length){k:Nat->zi}(hk:∀r,r<8->WT m.Maps.length (k r)):
  OK (jg j (p:Int) k) (λj'=>∃x',j'.came[p]? =some x'/\gX k x'/\∀x,j.any[p]? =some true->j.came[p]? =some x->gX x x'):=by
 unfold jg;obtain ⟨a,ha,ha2⟩:=aJ (xs:=j.any) (p:=p) (by rw [h.TU];exact hp)
 obtain ⟨c,hc,hc2⟩:=aJ (xs:=j.came) (p:=p) (by rw [h.TW];exact hp)
 simp only [ha2,hc2,zbs,k8];refine d5 (λhf=>b9 ⟨k,?_,gX.refl _,λx hx=> ?_⟩) (λhn=> ?_)
 ·grind
 ·grind
 refine d6 (i4 (λi s=>JI m s/\∃x',s.came[p]? =some x'/\(∀r,i<=r->x' r=c r)/\∀r,r<i->∀n,(sem (k r) n\/sem (c r) n)->sem (x' r) n) ⟨h,c,hc,λ_ _=>rfl,λr hr=>by omega⟩ (λi s again hi hI kk=> ?_) (λs hI=>hI)) (λo ho=>b9 ?_)
 ·unfold dF;obtain ⟨hj,x',hx',h1,h2⟩:=hI;obtain ⟨c',hc',hc2'⟩:=aJ (xs:=s.came) (p:=p) (by grind);rw [hx'] at hc';cases hc';have w1:=hj.wt p x' hx' i hi;simp only [hc2',PN hi,zbs,BA w1.span (hk i hi).span,k8];refine kk _ ⟨hj.put (mj (hj.wt p x' hx') (w1.join (hk i hi))) _ hj.TU,aset x' i (DK (x' i) (k i)),?_,λr hr=> ?_,λr hr n hn=> ?_⟩
  ·grind
  ·grind [aset]
  grind [aset,K2]
 ·obtain ⟨_,x',hx',_,h2⟩:=ho;refine ⟨x',hx',λr n hr _ hs=>h2 r hr n (.inl hs),λx _ hx r n hr _ hs=> ?_⟩
  grind
theorem K4(h:JI m j)(hg:ua m.Code){p:Nat}(hp:p<m.Code.length):
  OK (xq j (p:Int)) (λj'=>∀x,j.came[p]? =some x->∃x',j'.came[p]? =some x'/\gX x x'):=by
 unfold xq
 have upd:∀{c:Nat->zi} {t:Nat} {v:zi},(∀n,u64 n->sem v n)->gX c (aset c t v):=by
  intro c t v hv r n hr hn hs
  grind [aset]
 refine d6 (i4 (Q:=λj'=>∀x,j.came[p]? =some x->∃x',j'.came[p]? =some x'/\gX x x') (λ_ s=>JI m {j with came:=s}/\∀x,j.came[p]? =some x->∃x',s[p]? =some x'/\gX x x') ⟨⟨h.Ug,h.TW,h.TU,h.lps,h.wt⟩,λx hx=>⟨x,hx,gX.refl x⟩⟩ (λi s again hi hI k=> ?_) (λs hI=>hI.2)) (λo ho=>b9 ho);unfold cT;refine f9 (i7 hi (λl hl=>d5 (λ_=>k _ hI) (λhh=> ?_)));rw [h.lps] at hl;obtain ⟨a,ia,ha,hia,hop,rfl⟩:=nP.1 (zmg hl);have hlp:=hg.Th.loop hia hop;have hn:=hg.Us;have e1:(jI ia a).Tr=(((a:Int)-ia.D).toNat:Int):=by show (a:Int)-ia.D=_;omega
 have e2:w64 ((jI ia a).At+1)=((a+1:Nat):Int):=by show w64 ((a:Int)+1)=_;rw [qt (by omega) (by omega)];simp
 rw [e1,e2,h.Ug,EZ (by omega) (by omega)];simp only [zbs];refine d6 (i4 (λ_ s=>JI m {j with came:=s}/\∀x,j.came[p]? =some x->∃x',s[p]? =some x'/\gX x x') hI (λi s again hi hI k=> ?_) (λs hI=>hI)) (λo ho=>k _ ho);unfold cR;refine f9 (i7 hi (λx hx=> ?_))
 have hr:OK (cy x) (λr=>r.2=true->0<=r.1/\r.1<8):=by
  grind [xb,BD,rm]
 refine d6 hr (λr hr=>d5 (λ_=>k _ hI) (λhw=> ?_));have hr:=hr (by simpa using hw);obtain ⟨c',hc',hc2'⟩:=aJ (xs:=s) (p:=p) (by rw [show s.length=m.Code.length from hI.1.TW];exact hp)
 simp only [hc2',F7 hr.1 hr.2,zbs,gY,kz,k8]
 have go:∀{v:zi},WT m.Maps.length v->(∀n,u64 n->sem v n)->JI m {j with came:=s.set p (aset c' r.1.toNat v)}/\∀x,j.came[p]? =some x->∃x',(s.set p (aset c' r.1.toNat v))[p]? =some x'/\gX x x':=by
  intro v hv hs;refine ⟨hI.1.put (mj (hI.1.wt p c' hc') hv) _ hI.1.TU,λx hx=> ?_⟩;obtain ⟨x',hx',hw⟩:=hI.2 x hx;rw [hc'] at hx';cases hx';refine ⟨_,by rw [yy,d7 rfl,d7 (by grind)],hw.trans (upd hs)⟩
 exact d5 (λ_=>k _ (go (WT.num SW.full) (λn hn=>mu (kZ hn)))) (λ_=>k _ (go WT.zero (λn _=>wY n)))
structure mw (j j':zj):Prop where
 grow:∀(q:Nat)(x:Nat->zi),j.any[q]? =some true->j.came[q]? =some x->∃x',j'.came[q]? =some x'/\gX x x'
 keep:∀q:Nat,j.any[q]? =some true->j'.any[q]? =some true
theorem mw.refl(j:zj):mw j j:=⟨λq x _ hx=>⟨x,hx,gX.refl x⟩,λ_ h=>h⟩
theorem mw.trans{a b c:zj}(h:mw a b)(k:mw b c):mw a c:=
 ⟨λq x ha hx=>by
  obtain ⟨x',h1,h2⟩:=h.grow q x ha hx;obtain ⟨x'',h3,h4⟩:=k.grow q x' (h.keep q ha) h1;exact ⟨x'',h3,h2.trans h4⟩,λq ha=>k.keep q (h.keep q ha)⟩
theorem K5(h:JI m j){p:Nat}(hp:p<m.Code.length){k:Nat->zi}(hk:∀r,r<8->WT m.Maps.length (k r)):
  OK (jg j (p:Int) k) (λj'=>JI m j'/\j'.any=j.any.set p true/\(∀q,q≠p->j'.came[q]? =j.came[q]?)/\mw j j'/\j'.any[p]? =some true/\∃x',j'.came[p]? =some x'/\gX k x'):=by
 refine (Fg (Ij h hp hk) (NY h hp hk)).mono (λj' hj'=> ?_);obtain ⟨⟨h1,h2,h3⟩,x',h4,h5,h6⟩:=hj'
 have hat:j'.any[p]? =some true:=by
  rw [h2,yy,d7 rfl,d7 (by rw [h.TU];exact hp)]
 refine ⟨h1,h2,h3,⟨λq x ha hx=> ?_,λq ha=> ?_⟩,hat,x',h4,h5⟩
 ·grind [gX.refl]
 grind
def DW(i:zf)(regs:Nat->Int):Int:=if i.B==8 then xS i.SU else regs i.B.toNat
inductive Stp (i:zf) (p:Nat) (regs:Nat->Int):Nat->(Nat->Int)->Prop
 |set:i.Op=0->Stp i p regs (p+1) (aset regs i.D.toNat (DW i regs))
 |arith:1<=i.Op->i.Op<=10->Stp i p regs (p+1) (aset regs i.D.toNat (ar i.Op (regs i.A.toNat) (DW i regs)))
 |any (v:Int):i.Op=11\/i.Op=13->u64 v->Stp i p regs (p+1) (aset regs i.D.toNat v)
 |store:i.Op=12->Stp i p regs (p+1) regs
 |map:i.Op=14->Stp i p regs (p+1) (aset regs i.D.toNat i.SU)
 |jump (q:Nat):i.Op=15->(q:Int)=p+(i.D+1)->Stp i p regs q regs
 |yes (q:Nat):16<=i.Op->i.Op<=19->hl i.Op (regs i.A.toNat) (DW i regs)=true->(q:Int)=p+(i.D+1)->Stp i p regs q regs
 |no:16<=i.Op->i.Op<=19->hl i.Op (regs i.A.toNat) (DW i regs)=false->Stp i p regs (p+1) regs
 |back (q:Nat):i.Op=20->(q:Int)=p-i.D->Stp i p regs q regs
 |on:i.Op=20->Stp i p regs (p+1) regs
 |call (v:Int):i.Op=21->(∀s,cU i.SU=some (s,true)->0<=v/\v<=s.most)->Stp i p regs (p+1) (aset regs 0 v)
structure uW (m:zC) (i:zf) (k k':Nat->zi):Prop where
 same:15<=i.Op->i.Op<=20->k'=k
 plain:∀(p:Nat) regs q regs',¬ (15<=i.Op/\i.Op<=20)->tA regs->wZ k regs->Stp i p regs q regs'->wZ k' regs'
 SK:16<=i.Op->i.Op<=19->(k i.A.toNat).RZ=1/\(Mj i k).RZ=1
 Ue:i.Op=21->i.SU<=4->(k 1).RZ=2
theorem IL(l:List zi):OK (vE l) (λr=>r=0->∀x∈l,x.RZ=1):=by
 unfold vE;refine d6 (i4 (Q:=λo=>match o with|.inl _=>∀x∈l,x.RZ=1|.inr r=>r≠0) (λi _=>∀(q:Nat)(x:zi),q<i->l[q]? =some x->x.RZ=1) (λq x h=>by omega) (λi s again hi hI k=> ?_) (λ_ hI=> ?_)) (λo ho=> ?_)
 ·unfold kT;refine f9 (i7 hi (λx hx=>d5 (λh=>b9 (by simp)) (λh=>k _ (λq y hq hy=> ?_))))
  grind
 ·intro x hx;obtain ⟨q,hq⟩:=List.mem_iff_getElem?.1 hx
  grind
 grind [b9]
theorem IM(k:Fin 7){l:List zi}(ha:xT 2199023255552 ((k:Nat):Int)=some l)(ys:List zi):OK (eT 2199023255552 ((k:Nat):Int) ys) (λr=>r=0->∀(q:Nat)(x y:zi),l[q]? =some x->ys[q]? =some y->x.RZ=y.RZ):=by
 obtain ⟨s,h1,_⟩:=BF k;unfold eT;simp only [h1,ha,zbs];refine d5 (λh=>by cases h) (λ_=>d5 (λ_=>b9 (by simp)) (λhl=> ?_))
 have hl:l.length=ys.length:=by
  grind
 refine d6 (i4 (Q:=λo=>match o with|.inl _=>∀(q:Nat)(x y:zi),l[q]? =some x->ys[q]? =some y->x.RZ=y.RZ|.inr r=>r≠0) (λi _=>∀(q:Nat)(x y:zi),q<i->l[q]? =some x->ys[q]? =some y->x.RZ=y.RZ) (λq x y h=>by omega) (λi s again hi hI kk=> ?_) (λ_ hI=> ?_)) (λo ho=> ?_)
 ·unfold kU;refine f9 (i7 hi (λx hx=>f9 (i7 (by omega) (λy hy=> ?_))));refine d5 (λ_=>b9 (by simp)) (λhk=>d6 (R:=λ_=>True) ?_ (λo _=>d5 (λ_=>b9 (by simp)) (λ_=>kk _ (λq a b hq ha hb=> ?_))))
  ·exact d5 (λ_=>d6 (oP _ _) (λx _=>b9 trivial)) (λ_=>b9 trivial)
  grind
 ·grind
 grind [b9]
theorem Gj:∀k:Fin 7,(k:Nat)<=4->∃l x,xT 2199023255552 ((k:Nat):Int)=some l/\l[0]? =some x/\x.RZ=2:=by
 intro k hk;have h:∀k:Fin 7,(k:Nat)<=4->(xT 2199023255552 ((k:Nat):Int)).bind (λl=>(l[0]?).map (·.RZ))=some 2:=by decide+kernel
 obtain ⟨l,h1,h2⟩:=z6.1 (h k hk)
 grind
theorem PV(h:JI m j)(hg:ua m.Code){p:Nat}(hp:p<m.Code.length):
  OK (vo 2199023255552 j (p:Int)) (λr=>r.2=0->∀i k,m.Code[p]? =some i->j.came[p]? =some k->uW m i k r.1):=by
 have hn:=hg.Us;obtain ⟨i,hi,hi2⟩:=aJ hp;obtain ⟨k,hk1,hk2⟩:=aJ (xs:=j.came) (p:=p) (by rw [h.TW];exact hp)
 have hk:=h.wt p k hk1;have hr:=hg.Th.right hi;have hop:=mO hr;have hA:=nV hr
 have fin:∀{r:(Nat->zi)×Int},(r.2=0->uW m i k r.1)->r.2=0->∀i' k',m.Code[p]? =some i'->j.came[p]? =some k'->uW m i' k' r.1:=by
  grind
 unfold vo;rw [h.Ug,hi2,hk2];simp only [zbs,BE hr];refine d6 (R:=λt=>(i.Op<=12\/(16<=i.Op/\i.Op<=19))->t=Mj i k) ?_ (λs hs=> ?_)
 ·refine d5 (λhsrc=> ?_) (λhns=>b9 (λh=> ?_))
  ·grind [bf,EY,b9]
  grind
 rw [F7 hA.1 hA.2];simp only [zbs,gY,kz];have hD:¬ (15<=i.Op/\i.Op<=20)->ain 8 i.D=some i.D.toNat:=λh=>F7 (nU hr h).1 (nU hr h).2
 have mk:∀{k':Nat->zi},¬ (15<=i.Op/\i.Op<=20)->i.Op≠21->(∀(p:Nat) regs q regs',tA regs->wZ k regs->Stp i p regs q regs'->wZ k' regs')->uW m i k k':=
  λh1 h2 h3=>⟨λa b=>absurd ⟨a,b⟩ h1,λp regs q regs' _ hu hs hst=>h3 p regs q regs' hu hs hst,λa b=>absurd ⟨by omega,by omega⟩ h1,λa=>absurd a h2⟩
 refine d5 (λe=> ?_) (λe0=> ?_)
 ·have e:i.Op=0:=by simpa using e
  refine d5 (λ_=>b9 (fin (λh=>by simp at h))) (λ_=> ?_);rw [hD (by omega)];refine b9 (fin (λ_=>mk (by omega) (by omega) (λp regs q regs' hu hsm hst=> ?_)));rw [hs (.inl (by omega))];cases hst with
  |set _=>exact kB hsm (DV (bf hr (.inl (by omega))) hsm)
  |_=>omega
 refine d5 (λe=> ?_) (λe11=> ?_)
 ·have e:i.Op=11:=by simpa using e
  rw [hD (by omega)];simp only [zbs];refine d6 (iN _) (λa _=>d6 (wS _) (λb _=>d6 (se _) (λc _=>b9 (fin (λ_=>mk (by omega) (by omega) (λp regs q regs' hu hsm hst=> ?_))))));cases hst with
  |any v _ hv=>exact kB hsm (mu (kZ hv))
  |_=>omega
 refine d5 (λe=> ?_) (λe12=> ?_)
 ·have e:i.Op=12:=by simpa using e
  refine d6 (iN _) (λa _=>d6 (wS _) (λb _=>d6 (se _) (λc _=>b9 (fin (λ_=>mk (by omega) (by omega) (λp regs q regs' hu hsm hst=> ?_))))));cases hst with
  |store _=>exact hsm
  |_=>omega
 refine d5 (λe=> ?_) (λe13=> ?_)
 ·have e:i.Op=13:=by simpa using e
  rw [hD (by omega)];refine b9 (fin (λ_=>mk (by omega) (by omega) (λp regs q regs' hu hsm hst=> ?_)));cases hst with
  |any v _ hv=>exact kB hsm (mu (kZ hv))
  |_=>omega
 refine d5 (λe=> ?_) (λe14=> ?_)
 ·have e:i.Op=14:=by simpa using e
  rw [hD (by omega)];simp only [zbs];refine d5 (λ_=>b9 (fin (λh=>by simp at h))) (λhlt=>b9 (fin (λ_=>mk (by omega) (by omega) (λp regs q regs' hu hsm hst=> ?_))));cases hst with
  |map _=>exact kB hsm ⟨λe=>by simp at e,λ_=>rfl⟩
  |_=>omega
 refine d5 (λe=> ?_) (λe15=> ?_)
 ·have e:i.Op=15:=by simpa using e
  exact b9 (fin (λ_=>⟨λ_ _=>rfl,λp regs q regs' hne=>absurd ⟨by omega,by omega⟩ hne,λa=>by omega,λa=>by omega⟩))
 refine d6 (R:=λo=>o=inB i.Op 16 19) ?_ (λo ho=> ?_)
 ·refine d5 (λe=>b9 ?_) (λe=>d5 (λe=>b9 ?_) (λe2=>d5 (λe=>b9 ?_) (λe3=>b9 ?_)))
  ·grind [inB]
  ·grind [inB]
  ·grind [inB]
  grind [inB]
 refine d5 (λe=> ?_) (λe16=> ?_)
 ·rw [ho] at e;have e:16<=i.Op/\i.Op<=19:=by simpa [inB] using e
  refine d6 (IL _) (λa ha=>b9 (fin (λh0=>⟨λ_ _=>rfl,λp regs q regs' hne=>absurd ⟨by omega,by omega⟩ hne,λ_ _=> ?_,λa=>by omega⟩)))
  grind
 refine d5 (λe=> ?_) (λe20=> ?_)
 ·have e:i.Op=20:=by simpa using e
  have lv:uW m i k k:=⟨λ_ _=>rfl,λp regs q regs' hne=>absurd ⟨by omega,by omega⟩ hne,λa=>by omega,λa=>by omega⟩
  refine d6 (iN _) (λa _=>d5 (λha=>b9 (fin (λ_=>lv))) (λ_=> ?_));have hlp:=hg.Th.loop hi e;have ew:w64 ((p:Int)-i.D)=(((p:Int)-i.D).toNat:Int):=by grind [qt]
  obtain ⟨hd,hd1,hd2⟩:=aJ (xs:=j.came) (p:=((p:Int)-i.D).toNat) (by rw [h.TW];omega);refine d6 (i4 (Q:=λo=>match o with|.inl _=>True|.inr r=>r.2≠0) (λt _=>True) trivial (λt s again ht hI kk=> ?_) (λ_ hI=>trivial)) (λo ho=> ?_)
  ·unfold dY;simp only [PN ht,ew,hd2,zbs];exact d6 (DF _ _) (λr hr=>d5 (λ_=>b9 (by simp)) (λhn=>kk _ trivial))
  grind [b9,fin]
 refine d5 (λe=> ?_) (λe21=> ?_)
 ·have e:i.Op=21:=by simpa using e
  have him:=mi hr e;obtain ⟨n,hn⟩:=zof him.1;rw [hn];obtain ⟨l,hl,hl3⟩:=DN ⟨n,by omega⟩;obtain ⟨sg,hs1,hs2,hs3⟩:=BF ⟨n,by omega⟩;have hl':xT 2199023255552 (n:Int)=some l:=hl;have hs1':cU (n:Int)=some (sg,true):=hs1;simp only [hl',zbs];have ec:w64 (1+(l.length:Int))=((1+l.length:Nat):Int):=by grind [qt]
  have hcut:cut (Hj 8 k) 1 (w64 (1+(l.length:Int)))=some (((Hj 8 k).take (1+l.length)).drop 1):=by
   rw [ec];exact EZ (lo:=1) (by omega) (by grind [og])
  rw [hcut];simp only [zbs];refine d6 (IM ⟨n,by omega⟩ hl _) (λr hrk=> ?_);unfold gP;simp only [hs1',zbs];refine b9 (fin (λh0=>⟨λa b=>by omega,λp regs q regs' _ hu hsm hst=> ?_,λa b=>by omega,λ_ h4=> ?_⟩))
  ·cases hst with
   |call v _ hv=>
    have:=hv sg (by rw [hn];exact hs1')
    exact kB hsm (mu ⟨this.1,this.2⟩)
   |_=>omega
  ·obtain ⟨l2,x,h1,h2,h3⟩:=Gj ⟨n,by omega⟩ (by show n<=4;omega);have h1':xT 2199023255552 (n:Int)=some l2:=h1;rw [hl'] at h1';cases h1';have hll:=(zes.1 h2).1
   have hy:(((Hj 8 k).take (1+l.length)).drop 1)[0]? =some (k 1):=by
    rw [List.getElem?_drop,List.getElem?_take,d7 (by omega)];rfl
   grind
 refine d5 (λe=> ?_) (λe22=> ?_)
 ·have e:i.Op=22:=by simpa using e
  refine d6 (iN _) (λa _=>b9 (fin (λ_=>mk (by omega) (by omega) (λp regs q regs' hu hsm hst=> ?_))));cases hst<;>omega
 simp only [beq_eq_false_iff_ne,ne_eq] at e0 e11 e12 e13 e14 e15 e20 e21 e22
 have e16':¬ (16<=i.Op/\i.Op<=19):=by
  grind [inB]
 have o1:1<=i.Op:=by omega
 have o2:i.Op<=10:=by omega
 have hsb:=bf hr (.inl (by omega));have hse:=hs (.inl (by omega));have hws:WT m.Maps.length s:=by grind [wT]
 obtain ⟨d,hd1,hd2⟩:=PY (op:=i.Op) (hk i.A.toNat (by omega)).span hws.span;rw [hd1];simp only [zbs];rw [hD (by omega)];simp only [zbs];refine d6 (IL _) (λa ha=>b9 (fin (λh0=>mk (by omega) (by omega) (λp regs q regs' hu hsm hst=> ?_))));have hkinds:=ha h0;cases hst with
 |arith _ _=>
  refine kB hsm (mu ?_);have hx:=(hsm i.A.toNat (by omega)).1 (hkinds _ (by simp));have hy:=(DV hsb hsm).1 (by grind);rw [<- hse] at hy;have hdi:=Qp (QS (hk i.A.toNat (by omega)).span hws.span hx hy o1 o2) hd1;exact hdi
 |_=>omega
end
open Go.Sx
variable {regs:Nat->Int} {i:zf} {m:zC} {j:zj}
theorem oR(h:tA regs){t:Nat}{v:Int}(hv:u64 v):tA (aset regs t v):=by
 intro r hr;unfold aset;split
 ·exact hv
 ·exact h r hr
theorem Aa(h:tA regs)(hb:i.B=8\/(0<=i.B/\i.B<8)):u64 (DW i regs):=by
 unfold DW;split
 ·exact xc _
 ·rename_i e
  have:i.B≠8:=by simpa using e
  exact h _ (by omega)
theorem Stp.u64s{p q:Nat}{regs':Nat->Int}(hr:xb i=true)(h:Stp i p regs q regs')(hu:tA regs):tA regs':=by
 have hA:=nV hr;cases h with
 |set e=>exact oR hu (Aa hu (bf hr (.inl (by omega))))
 |arith e1 e2=>exact oR hu (PT (hu _ (by omega)) (Aa hu (bf hr (.inl (by omega)))))
 |any v e hv=>exact oR hu hv
 |store e=>exact hu
 |map e=>
  have:=nW hr e;exact oR hu ⟨this.1,by omega⟩
 |jump q e1 e2=>exact hu
 |yes q e1 e2 e3 e4=>exact hu
 |no e1 e2 e3=>exact hu
 |back q e1 e2=>exact hu
 |on e=>exact hu
 |call v e hv=>
  have him:=mi hr e;obtain ⟨n,hn⟩:=zof him.1;obtain ⟨sg,hs1,hs2,hs3⟩:=BF ⟨n,by omega⟩;have:=hv sg (by rw [hn];exact hs1)
  exact oR hu ⟨this.1,by omega⟩
theorem uX(hr:xb i=true)(h:¬ (15<=i.Op/\i.Op<=20)):jv i=(0,false,i.Op !=22):=by
 grind [jv,ek,inB,hl,lz]
theorem cg(hr:xb i=true)(h1:15<=i.Op)(h2:i.Op<=19):jv i=(i.D+1,true,i.Op !=15):=by
 grind [jv,ek,inB]
theorem oS(hr:xb i=true)(h:i.Op=20):jv i=(-i.D,true,true):=by
 grind [jv,ek,inB,hl,lz]
def At(j:zj)(q:Nat)(regs:Nat->Int):Prop:=j.any[q]? =some true/\∃x,j.came[q]? =some x/\wZ x regs
theorem At.grow{j j':zj}{q:Nat}{regs:Nat->Int}(h:At j q regs)(hu:tA regs)(hg:mw j j'):At j' q regs:=by
 obtain ⟨h1,x,h2,h3⟩:=h;obtain ⟨x',h4,h5⟩:=hg.grow q x h1 h2;exact ⟨hg.keep q h1,x',h4,h5.sems hu h3⟩
theorem DX(h:JI m j){p:Nat}(hp:p<m.Code.length){k:Nat->zi}(hk:∀r,r<8->WT m.Maps.length (k r)):
  OK (jg j (p:Int) k) (λj'=>JI m j'/\mw j j'/\∀regs,tA regs->wZ k regs->At j' p regs):=
 (K5 h hp hk).mono (λj' ⟨h1,_,_,h4,h5,x',h6,h7⟩=>⟨h1,h4,λregs hu hs=>⟨h5,x',h6,h7.sems hu hs⟩⟩)
theorem NZ(h:JI m j)(hg:ua m.Code){p:Nat}(hp:p<m.Code.length)(hi:m.Code[p]? =some i){k0 k:Nat->zi}(hk:∀r,r<8->WT m.Maps.length (k r))(hk0:∀r,r<8->WT m.Maps.length (k0 r))(hlv:uW m i k0 k):
  OK (xQ j (p:Int) k) (λj'=>mw j j'/\∀regs q regs',tA regs->wZ k0 regs->Stp i p regs q regs'->(i.Op=20->q=p+1)->At j' q regs'):=by
 have hn:=hg.Us;have hr:=hg.Th.right hi
 have hi2:idx m.Code (p:Int)=some i:=by
  obtain ⟨x,hx1,hx2⟩:=aJ hp
  grind
 have e1:w64 ((p:Int)+1)=((p+1:Nat):Int):=by grind [qt]
 unfold xQ;rw [h.Ug,hi2];simp only [mP,zbs];refine d5 (λhc=>d6 (R:=λj'=>mw j j'/\∀regs q regs',tA regs->wZ k0 regs->Stp i p regs q regs'->(i.Op=20->q=p+1)->At j' q regs') (d5 (λhon=> ?_) (λhon=>b9 ?_)) (λo ho=>b9 ho)) (λhc=> ?_)
 ·
  rw [e1];refine d6 (DX h (hg.Th.on hi hon) hk) (λj' ⟨_,h2,h3⟩=>b9 ⟨h2,λregs q regs' hu hs hst hb=> ?_⟩);have hu':=hst.u64s hr hu;by_cases hop:15<=i.Op/\i.Op<=20
  ·have h20:i.Op=20:=by
    by_cases e:i.Op=20
    ·exact e
    ·exfalso
     rw [cg hr hop.1 (by omega)] at hc;have:=mO hr;have hD:=rq (i:=i) (by grind [ek,inB]);simp at hc;omega
   rw [hb h20];refine h3 regs' hu' ?_;rw [hlv.same hop.1 hop.2];cases hst with
   |on _=>exact hs
   |back q e1 e2=>exact hs
   |_=>omega
  ·have hq:q=p+1:=by cases hst<;>first|rfl|omega
   rw [hq];exact h3 regs' hu' (hlv.plain p regs q regs' hop hu hs hst)
 ·
  refine ⟨mw.refl j,λregs q regs' hu hs hst hb=> ?_⟩
  exfalso
  have hon:(jv i).2.2=false:=by simpa using hon
  by_cases hop:15<=i.Op/\i.Op<=20
  ·by_cases e:i.Op=20
   ·grind [oS]
   ·rw [cg hr hop.1 (by omega)] at hc;have hD:=rq (i:=i) (by grind [ek,inB]);simp at hc;omega
  ·rw [uX hr hop] at hon;have:i.Op=22:=by simpa using hon
   cases hst<;>omega
 have hl1:(jv i).2.1=true/\0<=(jv i).1:=by grind
 have hop:15<=i.Op/\i.Op<=19:=by
  rcases Ik hl1.1 with h1|h1
  ·grind
  ·omega
 have hgo:=cg hr hop.1 hop.2;have hlead:=hg.Th.leads hi hl1.1;rw [hgo] at hlead |-;simp only at hlead |-;obtain ⟨q1,hq1⟩:=zof hlead.1;have eq1:w64 ((p:Int)+(i.D+1))=(q1:Int):=by grind [qt]
 have hsame:=hlv.same hop.1 (by omega);subst hsame;refine d5 (λhj=> ?_) (λhj=> ?_)
 ·have h15:i.Op=15:=by simpa using hj
  rw [eq1];refine d6 (DX h (by omega) hk) (λj' ⟨_,h2,h3⟩=>b9 ⟨h2,λregs q regs' hu hs hst hb=> ?_⟩);cases hst with
  |jump q e1 e2=>
   grind
  |_=>omega
 have h16:16<=i.Op:=by
  grind
 have hon:(jv i).2.2=true:=by grind
 have hs:=bf hr (.inr ⟨h16,hop.2⟩);have hA:=nV hr;have hnum:=hlv.SK h16 hop.2;rw [EY hs];simp only [zbs];have hsw:=wT hs hk
 refine d6 (i4 (λt s=>JI m s/\mw j s/\(0<t->∀regs,tA regs->wZ k regs->hl i.Op (regs i.A.toNat) (DW i regs)=true->At s q1 regs)/\(1<t->∀regs,tA regs->wZ k regs->hl i.Op (regs i.A.toNat) (DW i regs)=false->At s (p+1) regs))
  ⟨h,mw.refl j,λh=>by omega,λh=>by omega⟩ (λt s again ht hI kk=> ?_) (λs hI=>hI)) (λj' hj'=>b9 ⟨hj'.2.1,λregs q regs' hu hs hst hb=> ?_⟩)
 ·unfold dH;refine f9 (i7 (by simpa using ht) (λx hx=> ?_))
  have ht2:t=0/\x=true\/t=1/\x=false:=by
   grind
  refine d6 (R:=λ(o:Int)=>∃q':Nat,o=(q':Int)/\q'<m.Code.length/\(x=true->q'=q1)/\(x=false->q'=p+1)) ?_ (λo ho=> ?_)
  ·refine d5 (λhx=>b9 ⟨p+1,e1,hg.Th.on hi hon,λh=>by simp [h] at hx,λ_=>rfl⟩) (λhx=>b9 ⟨q1,eq1,by omega,λ_=>rfl,λh=>by simp [h] at hx⟩)
  obtain ⟨q',rfl,hq',hqt,hqf⟩:=ho;rw [F7 hA.1 hA.2];simp only [zbs];refine d6 (R:=λr=>SW r.1/\∀regs,tA regs->wZ k regs->hl i.Op (regs i.A.toNat) (DW i regs)=x->r.2=true/\inS r.1 (regs i.A.toNat)) ?_ (λr hr2=> ?_)
  ·obtain ⟨r0,hr0,hr1⟩:=BC (op:=i.Op) (h:=x) (hk i.A.toNat (by omega)).span hsw.span;rw [hr0];refine b9 ⟨hr1,λregs hu hsm hh=> ?_⟩;have hx:=(hsm i.A.toNat (by omega)).1 hnum.1;have hy:=(DV (regs:=regs) hs hsm).1 hnum.2;have:=IK (op:=i.Op) (hk i.A.toNat (by omega)).span hsw.span hx hy h16 hop.2
   grind [xS,DW,Qp]
  have add:∀{s':zj},JI m s'->mw s s'->((∀regs,tA regs->wZ k regs->hl i.Op (regs i.A.toNat) (DW i regs)=x->At s' q' regs))->OK (again s') (λs=>JI m s/\mw j s/\(0<2->∀regs,tA regs->wZ k regs->hl i.Op (regs i.A.toNat) (DW i regs)=true->At s q1 regs)/\(1<2->∀regs,tA regs->wZ k regs->hl i.Op (regs i.A.toNat) (DW i regs)=false->At s (p+1) regs)):=by
   intro s' hs' hgr hat;refine kk s' ⟨hs',hI.2.1.trans hgr,λ_ regs hu hsm hh=> ?_,λh1 regs hu hsm hh=> ?_⟩
   ·rcases ht2 with ⟨rfl,hxx⟩|⟨rfl,hxx⟩
    ·grind
    ·exact (hI.2.2.1 (by omega) regs hu hsm hh).grow hu hgr
   grind
  refine d5 (λ_=> ?_) (λhf=> ?_)
  ·simp only [kz,zbs];refine d6 (DX hI.1 hq' (mj hk (WT.num hr2.1))) (λs' ⟨a1,a2,a3⟩=>add a1 a2 (λregs hu hsm hh=>a3 regs hu (λr hr=> ?_)));unfold aset;split
   ·grind [mu]
   ·exact hsm r hr
  grind
 ·cases hst with
  |yes q e1 e2 e3 e4=>
   grind
  |no e1 e2 e3=>exact hj'.2.2.2 (by simp) _ hu hs e3
  |_=>omega
structure Snd (m:zC) (n:Nat) (j:zj):Prop where
 zero:∀regs,tA regs->At j 0 regs
 step:∀(p:Nat)(i:zf)(x:Nat->zi),p<n->m.Code[p]? =some i->j.any[p]? =some true->j.came[p]? =some x->∀regs q regs',tA regs->wZ x regs->Stp i p regs q regs'->At j q regs'
 Ue:∀(p:Nat)(i:zf)(x:Nat->zi),p<n->m.Code[p]? =some i->j.any[p]? =some true->j.came[p]? =some x->i.Op=21->i.SU<=4->(x 1).RZ=2
theorem K6{n:Nat}(h:F9 m n j)(h2:Snd m n j)(hg:ua m.Code)(hn:n<m.Code.length)(again:zj->Option (zj⊕((Option zj)×Int×Int)))
  {Q:(zj⊕((Option zj)×Int×Int))->Prop} (hk:∀j',F9 m (n+1) j'->Snd m (n+1) j'->OK (again j') Q) (he:∀e,e≠0->Q (.inr (none,(n:Int),e))):OK (bW 2199023255552 n again j) Q:=by
 unfold bW;obtain ⟨a,ha,ha2⟩:=aJ (xs:=j.any) (p:=n) (by rw [h.ji.TU];exact hn)
 simp only [ha2,zbs];refine d5 (λhf=> ?_) (λhf=> ?_)
 ·have hf:a=false:=by simpa using hf
  have no:∀{p:Nat},p<n+1->j.any[p]? =some true->p<n:=by
   intro p hp hany;by_cases e:p=n
   ·subst e;rw [ha,hf] at hany;cases hany
   ·omega
  exact hk j {h with TX:=λp i hp hi ho hany=>h.TX p i (no hp hany) hi ho hany}
   ⟨h2.zero,λp i x hp hi hany hx=>h2.step p i x (no hp hany) hi hany hx,λp i x hp hi hany hx=>h2.Ue p i x (no hp hany) hi hany hx⟩
 have hat:j.any[n]? =some true:=by rw [ha];simpa using hf
 refine d6 (Fg (E0 h.ji hg hn) (K4 h.ji hg hn)) (λj1 hj1=> ?_);obtain ⟨⟨hj1,ha1,hc1⟩,hw1⟩:=hj1;refine d6 (Fg (Ml hj1 hg hn) (PV hj1 hg hn)) (λr hr=> ?_);refine d5 (λe=>b9 (he _ (by simpa using e))) (λe=> ?_);obtain ⟨hr1,hr2⟩:=hr;have hr1:=hr1 (by simpa using e);have hr2:=hr2 (by simpa using e);obtain ⟨i0,hi0,_⟩:=aJ hn;obtain ⟨k0,hk0,_⟩:=aJ (xs:=j1.came) (p:=n) (by rw [hj1.TW];exact hn)
 have hlv:=hr2 i0 k0 hi0 hk0
 have g1:mw j j1:=⟨λq x hq hx=>by
  by_cases e:q=n
  ·subst e;exact hw1 x hx
  ·exact ⟨x,by rw [hc1 q e];exact hx,gX.refl x⟩,λq hq=>by rw [ha1];exact hq⟩
 refine d6 (Fg (Il hj1 hg hn hr1.1) (NZ hj1 hg hn hi0 hr1.1 (hj1.wt n k0 hk0) hlv)) (λj2 hj2=> ?_);obtain ⟨⟨hj2,hw⟩,g2,hst2⟩:=hj2;have hcl:OL m.Code j1:=by intro q a ia;rw [ha1];exact h.UG q a ia
 have hup:F9 m (n+1) j2:=by
  refine ⟨hj2,hw.keep _ (by rw [ha1];exact h.zero),hcl.ways hg (by rw [ha1];exact hat) hw,λp i hp hi ho hany q hq x hh hx hhd=> ?_⟩
  have hlp:=hg.Th.loop hi ho;rw [(hw.same p (by omega)).1] at hx;rw [(hw.same _ (by omega)).1] at hhd;rw [(hw.same p (by omega)).2,ha1] at hany;by_cases e:p=n
  ·subst e;exact hr1.2 i hi ho q hq x hh hx hhd
  ·rw [hc1 p e] at hx;rw [hc1 _ (by omega)] at hhd;exact h.TX p i (by omega) hi ho hany q hq x hh hx hhd
 refine hk j2 hup ⟨λregs hu=>((h2.zero regs hu).grow hu g1).grow hu g2,λp i x hp hi hany hx regs q regs' hu hs hst=> ?_,λp i x hp hi hany hx ho him=> ?_⟩
 ·have hr:=hg.Th.right hi;by_cases e:p=n
  ·subst e;obtain rfl:i=i0:=by rw [hi] at hi0;exact j4 hi0
   have hx2:=hx;rw [(hw.same p (l6 _)).1,hk0] at hx2;cases hx2;by_cases hb:i.Op=20->q=p+1
   ·exact hst2 regs q regs' hu hs hst hb
   ·
    have ho:i.Op=20:=Classical.byContradiction (λhne=>hb (λe=>absurd e hne));have hlp:=hg.Th.loop hi ho
    have hq:(q:Int)=p-i.D/\regs'=regs:=by
     cases hst with
     |back q e1 e2=>exact ⟨e2,rfl⟩
     |on e1=>exact absurd (λ_=>rfl) hb
     |_=>omega
    obtain ⟨hq,rfl⟩:=hq;have hany2:=hup.UG p p i hany hi ho (by omega) (l6 _);have hqn:((p:Int)-i.D).toNat=q:=by omega
    rw [hqn] at hany2;obtain ⟨hd,hd1,_⟩:=aJ (xs:=j2.came) (p:=q) (by rw [hj2.TW];omega);exact ⟨hany2,hd,hd1,λr hr=>K3 (hup.TX p i (by omega) hi ho hany r hr _ hd hx (by rw [hqn];exact hd1)) (hs r hr)⟩
  ·have hx2:=hx;rw [(hw.same p (by omega)).1,hc1 p e] at hx2;have hany2:=hany;rw [(hw.same p (by omega)).2,ha1] at hany2;have:=h2.step p i x (by omega) hi hany2 hx2 regs q regs' hu hs hst;exact (this.grow (hst.u64s hr hu) g1).grow (hst.u64s hr hu) g2
 ·by_cases e:p=n
  ·subst e;obtain rfl:i=i0:=by rw [hi] at hi0;exact j4 hi0
   rw [(hw.same p (l6 _)).1,hk0] at hx;cases hx;exact hlv.Ue ho him
  ·rw [(hw.same p (by omega)).1,hc1 p e] at hx;rw [(hw.same p (by omega)).2,ha1] at hany;exact h2.Ue p i x (by omega) hi hany hx ho him
theorem BT(m:zC):OK (jX 2199023255552 m) (λr=>r.2.2=0->∃j,r.1=some j/\ua m.Code/\th m.Maps/\F9 m m.Code.length j/\Snd m m.Code.length j):=by
 unfold jX;refine d6 (Io _) (λg hgm=> ?_);refine d5 (λ_=>b9 (λh=>by simp at h)) (λhgt=> ?_);have hgm:=hgm.1 (by simpa using hgt);obtain ⟨r,h1,h2,h3,h4⟩:=sS m.Code;simp only [h1,zbs];refine d5 (λhr=>b9 (λh=>absurd h (by simpa using hr))) (λhr=> ?_);have hg:=(h3 (by simpa using hr)).2;have hn:=hg.Us;have hn1:=hg.n1;refine d6 (R:=λo=>o=zj.mk m (List.replicate m.Code.length (λ_=>oO)) (List.replicate m.Code.length false) []) ?_ (λo ho=> ?_)
 ·grind [f9,OK.mkl,b9,oO]
 subst ho;simp only [uI hg,zbs]
 have e0:idx (List.replicate m.Code.length false) 0=some false:=by
  grind [Jw]
 rw [e0];simp only [zbs];refine d6 (i4 (Q:=λo=>match o with|.inl j=>F9 m m.Code.length j/\Snd m m.Code.length j|.inr r=>r.2.2≠0) (λi s=>F9 m i s/\Snd m i s) ⟨?_,⟨λregs _=> ?_,λp i x hp=>by omega,λp i x hp=>by omega⟩⟩ (λi s again hi hI k=>K6 hI.1 hI.2 hg hi again (λj' a b=>k j' ⟨a,b⟩) (λe he=>he)) (λs hI=>hI)) (λo ho=> ?_)
 ·grind [PP]
 ·obtain ⟨x,hx,_⟩:=aJ (xs:=List.replicate m.Code.length (λ_:Nat=>oO)) (p:=0) (by simp;omega);refine ⟨?_,x,by simpa using hx,λr _=> ?_⟩
  ·grind
  grind [oO,wY]
 grind [b9]
end Go.Proofs.YtplmgfkghomelaaGreatDoor
