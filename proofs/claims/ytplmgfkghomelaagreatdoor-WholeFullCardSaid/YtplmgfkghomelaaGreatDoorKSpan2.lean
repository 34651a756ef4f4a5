/- Lemmas. -/
import Derived.Test.YtplmgfkghomelaaGreatDoorKOps
set_option linter.unusedVariables false
set_option linter.unusedSimpArgs false
namespace Go.Proofs.YtplmgfkghomelaaGreatDoor
section
open Go.Sx
theorem SW.full:SW ⟨0,18446744073709551615⟩:=⟨by simp,by simp,by simp⟩
theorem SW.one{n:Int}(h0:0<=n)(h1:n<18446744073709551616):SW ⟨n,n⟩:=⟨h0,by simp,h1⟩
theorem SW.zero:SW ⟨0,0⟩:=⟨by simp,by simp,by simp⟩
theorem Qq(n:Nat):iE .u64 (n:Int) 32=((n / 4294967296:Nat):Int):=Fk 32 (by omega)
theorem N1(n:Nat)(h:n<18446744073709551616):wc .u64 (n:Int) 4294967295=((n%4294967296:Nat):Int):=by
 rw [Fj (by omega) (by omega) (by omega) (by omega)]
 have:(n:Int).toNat &&& (4294967295:Int).toNat=n%2^32:=by
  rw [<- Nat.and_two_pow_sub_one_eq_mod];rfl
 rw [this]
theorem wuN{n:Nat}(h:n<18446744073709551616):xS (n:Int)=(n:Int):=xR (by omega) (by omega)
theorem PW{x y:Nat}(hx:x<18446744073709551616)(hy:y<18446744073709551616):∃hi:Nat,ko (x:Int) (y:Int)=some ((hi:Int),xS ((x:Int)*(y:Int)))/\hi=x*y / 18446744073709551616:=by
 obtain ⟨x0,hx0⟩:∃q,q=x%4294967296:=⟨_,rfl⟩
 obtain ⟨x1,hx1⟩:∃q,q=x / 4294967296:=⟨_,rfl⟩
 obtain ⟨y0,hy0⟩:∃q,q=y%4294967296:=⟨_,rfl⟩
 obtain ⟨y1,hy1⟩:∃q,q=y / 4294967296:=⟨_,rfl⟩
 have ex:x=x1*4294967296+x0:=by omega
 have ey:y=y1*4294967296+y0:=by omega
 have b00:x0*y0<=4294967295*4294967295:=z3 (by omega) (by omega);have b01:x0*y1<=4294967295*4294967295:=z3 (by omega) (by omega);have b10:x1*y0<=4294967295*4294967295:=z3 (by omega) (by omega);have b11:x1*y1<=4294967295*4294967295:=z3 (by omega) (by omega)
 have exy:x*y=x1*y1*18446744073709551616+(x1*y0+x0*y1)*4294967296+x0*y0:=by
  grind
 unfold ko;simp only [Qq,N1 x hx,N1 y hy,<- hx0,<- hx1,<- hy0,<- hy1,<- Int.natCast_mul];generalize hp00:x0*y0=p00 at*
 generalize hp01:x0*y1=p01 at*
 generalize hp10:x1*y0=p10 at*
 generalize hp11:x1*y1=p11 at*
 rw [wuN (n:=p00) (by omega),wuN (n:=p01) (by omega),wuN (n:=p10) (by omega),wuN (n:=p11) (by omega)];simp only [Qq,<- Int.natCast_add];rw [wuN (n:=p10+p00 / 4294967296) (by omega)];simp only [Qq,<- Int.natCast_add];rw [N1 _ (by omega),wuN (n:=p11+(p10+p00 / 4294967296) / 4294967296) (by omega)];simp only [<- Int.natCast_add];rw [wuN (n:=(p10+p00 / 4294967296)%4294967296+p01) (by omega)];simp only [Qq,<- Int.natCast_add];rw [wuN (by omega)];refine ⟨_,rfl,?_⟩;rw [exy];omega
theorem gY:bT=some ⟨0,18446744073709551615⟩:=rfl
theorem kD(s:zh):vF s=some (decide (s.Lo<=s.Hi)):=rfl
theorem PX{a b:zh}(ha:SW a)(hb:SW b):OK (kV a b) SW:=by
 obtain ⟨a0,a1,a2⟩:=ha;obtain ⟨b0,b1,b2⟩:=hb;unfold kV FM;rw [d7 ⟨by omega,by omega,by omega,by omega⟩];simp only [zbs,gY];refine d5 (λh=>b9 SW.full) (λh=>b9 ?_);have h1:=yu h;refine ⟨(xc _).1,?_,?_⟩
 ·grind [xS,xR]
 grind
theorem Gk{a b:zh}(ha:SW a)(hb:SW b):OK (bU a b) SW:=by
 obtain ⟨al,ah⟩:=a;obtain ⟨bl,bh⟩:=b;obtain ⟨a0,a1,a2⟩:=ha;obtain ⟨b0,b1,b2⟩:=hb;simp only at a0 a1 a2 b0 b1 b2;obtain ⟨al,rfl⟩:=zof a0;obtain ⟨bl,rfl⟩:=zof b0;obtain ⟨ah,rfl⟩:=zof (show 0<=ah by omega);obtain ⟨bh,rfl⟩:=zof (show 0<=bh by omega);unfold bU;obtain ⟨hi,h1,h2⟩:=PW (x:=ah) (y:=bh) (by omega) (by omega);simp only [h1,zbs,gY];refine d5 (λh=>b9 SW.full) (λh=>b9 ?_);have h3:=yu h
 have h4:ah*bh<18446744073709551616:=by
  grind
 have h5:al*bl<=ah*bh:=z3 (by omega) (by omega);simp only [<- Int.natCast_mul];rw [wuN h4,wuN (by omega)];exact ⟨Int.natCast_nonneg _,yv.2 h5,by grind⟩
theorem Ad(a b:Nat):(a:Int).tdiv (b:Int)=((a / b:Nat):Int):=rfl
theorem Gl{a b:zh}(ha:SW a)(hb:SW b):OK (bV a b) SW:=by
 obtain ⟨al,ah⟩:=a;obtain ⟨bl,bh⟩:=b;obtain ⟨a0,a1,a2⟩:=ha;obtain ⟨b0,b1,b2⟩:=hb;simp only at a0 a1 a2 b0 b1 b2;unfold bV;refine d5 (λh=>b9 ⟨by simp,by simp;omega,by simpa using a2⟩) (λh=> ?_);have hb:bl≠0:=by simpa using h
 rw [my (show bh≠0 by omega)];simp only [zbs];rw [my hb];obtain ⟨al,rfl⟩:=zof a0;obtain ⟨bl,rfl⟩:=zof b0;obtain ⟨ah,rfl⟩:=zof (show 0<=ah by omega);obtain ⟨bh,rfl⟩:=zof (show 0<=bh by omega);simp only [zbs,Ad];have h1:al / bh<=ah / bl:=s9 (Nat.div_le_div_right (by omega)) (Nat.div_le_div_left (by omega) (by omega));have h2:=Nat.div_le_self ah bl;rw [wuN (by omega),wuN (by omega)];exact b9 ⟨Int.natCast_nonneg _,yv.2 h1,by grind⟩
theorem N2{a b:zh}(ha:SW a)(hb:SW b):OK (gQ a b) SW:=by
 obtain ⟨a0,a1,a2⟩:=id ha;obtain ⟨b0,b1,b2⟩:=hb;unfold gQ;refine d5 (λh=>b9 ⟨by simp,by simp;omega,by simpa using a2⟩) (λh=> ?_);refine d5 (λh=>b9 ha) (λh2=>b9 ?_);have hb:b.Lo≠0:=by simpa using h
 rw [xR (by omega) (by omega)];refine ⟨by simp,?_,?_⟩<;>(unfold mV;simp only;split<;>omega)
theorem IW{n:Int}(h0:0<=n)(h1:n<18446744073709551616):OK (fy n) (λr=>n<=r/\r<18446744073709551616):=by
 obtain ⟨n,rfl⟩:=zof h0;obtain ⟨k,k1,k2,k3,_⟩:=sk (n:=n) (by omega);unfold fy;simp only [k2,zbs];rw [fd (by omega)];refine b9 ?_
 have e:wd .u64 1 (k:Int)=((2^k%18446744073709551616:Nat):Int):=by
  grind [oT]
 rw [e];by_cases hk:k=64
 ·grind [xS,sj,xc]
 ·have h2:(2:Nat)^k<=2^63:=Nat.pow_le_pow_right (by omega) (by omega)
  grind [xR]
theorem N3{a b:zh}(ha:SW a)(hb:SW b):OK (gR a b) SW:=by
 obtain ⟨al,ah⟩:=a;obtain ⟨bl,bh⟩:=b;obtain ⟨a0,a1,a2⟩:=ha;obtain ⟨b0,b1,b2⟩:=hb;simp only at a0 a1 a2 b0 b1 b2;obtain ⟨al,rfl⟩:=zof a0;obtain ⟨bl,rfl⟩:=zof b0;obtain ⟨ah,rfl⟩:=zof (show 0<=ah by omega);obtain ⟨k,k1,k2,k3,k4,k5⟩:=sk (n:=ah) (by omega);unfold gR xP;simp only [k2,zbs,gY];refine d6 (R:=λo=>o=false->(k=0\/k+bl<=64)) ?_ (λo ho=> ?_)
 ·refine d5 (λ_=>b9 (by simp)) (λ_=>d5 (λh1=> ?_) (λh1=>b9 (λ_=>.inl ?_)))
  ·refine d5 (λ_=>b9 (by simp)) (λh2=>b9 (λh3=>.inr ?_))
   grind [xR]
  grind
 ·refine d5 (λ_=>b9 SW.full) (λh=> ?_);rw [fd (by omega)];simp only [zbs];refine b9 ?_
  have e:∀n:Nat,wd .u64 (n:Int) (bl:Int)=((n*2^(min bl 64)%18446744073709551616:Nat):Int):=by
   grind [oT]
  rw [e,e];rcases ho h with hk|hk
  ·have h6:ah=0:=by subst hk;simp at k3;omega
   have h7:al=0:=by omega
   subst h6;subst h7;exact ⟨by simp,by simp,by simp⟩
  ·rw [show min bl 64=bl by omega]
   have h6:ah*2^bl<18446744073709551616:=by
    have h7:ah*2^bl<2^k*2^bl:=Nat.mul_lt_mul_of_pos_right k3 (Nat.pow_pos (by omega));rw [<- Nat.pow_add] at h7;have h8:(2:Nat)^(k+bl)<=2^64:=Nat.pow_le_pow_right (by omega) hk;omega
   have h9:al*2^bl<=ah*2^bl:=o9 _ (by omega);rw [z4 h6,z4 (by omega)];exact ⟨Int.natCast_nonneg _,yv.2 h9,Int.ofNat_lt.2 h6⟩
theorem Ae{op a b:Int}(a0:0<=a)(a1:a<18446744073709551616)(b0:0<=b)(b1:b<18446744073709551616):OK (ga op a b) (λr=>0<=r.1/\r.1<18446744073709551616/\r.2=(decide (1<=op)&&decide (op<=10))):=by
 unfold ga
 have q:∀k:Int,1<=k->k<=10->(op==k)=true->true=(decide (1<=op)&&decide (op<=10)):=by
  grind
 refine d5 (λh=>b9 ⟨(xc _).1,(xc _).2,q 1 (by omega) (by omega) h⟩) (λn1=> ?_);refine d5 (λh=>b9 ⟨(xc _).1,(xc _).2,q 2 (by omega) (by omega) h⟩) (λn2=> ?_);refine d5 (λh=>b9 ⟨(xc _).1,(xc _).2,q 3 (by omega) (by omega) h⟩) (λn3=> ?_);refine d5 (λh=> ?_) (λn4=> ?_)
 ·refine d5 (λ_=>b9 ⟨by simp,by simp,q 4 (by omega) (by omega) h⟩) (λhz=> ?_)
  grind [my,b9,xc]
 refine d5 (λh=> ?_) (λn5=> ?_)
 ·refine d5 (λ_=>b9 ⟨a0,a1,q 5 (by omega) (by omega) h⟩) (λhz=> ?_);rw [my (by simpa using hz)];obtain ⟨a,rfl⟩:=zof a0;obtain ⟨b,rfl⟩:=zof b0;have e:(a:Int).tmod (b:Int)=((a%b:Nat):Int):=rfl;have:=Nat.mod_le a b
  grind [b9]
 refine d5 (λh=>b9 ⟨(DZ _ _).1,(DZ _ _).2,q 6 (by omega) (by omega) h⟩) (λn6=> ?_);refine d5 (λh=>b9 ⟨(BU _ _).1,(BU _ _).2,q 7 (by omega) (by omega) h⟩) (λn7=> ?_);refine d5 (λh=>b9 ⟨(IU _ _).1,(IU _ _).2,q 8 (by omega) (by omega) h⟩) (λn8=> ?_);refine d5 (λh=> ?_) (λn9=> ?_)
 ·grind [fd,b9,IV]
 refine d5 (λh=> ?_) (λn10=>b9 ⟨by simp,by simp,?_⟩)
 ·rw [fd b0];have:=D0 (y:=b) a0 a1;exact b9 ⟨this.1,by grind,q 10 (by omega) (by omega) h⟩
 grind
theorem PY{op:Int}{a b:zh}(ha:SW a)(hb:SW b):OK (nL op a b) (λr=>SW r.1):=by
 obtain ⟨a0,a1,a2⟩:=id ha;obtain ⟨b0,b1,b2⟩:=id hb;unfold nL;refine d6 (Ae (op:=op) (a:=a.Lo) (b:=b.Lo) a0 (by omega) b0 (by omega)) (λr hr=> ?_);simp only [kD,zbs];refine d6 (R:=λo=>o=false->1<=op/\op<=10) ?_ (λo ho=> ?_)
 ·refine d5 (λ_=>b9 (by simp)) (λh=> ?_)
  have h2:1<=op/\op<=10:=by
   grind
  exact d5 (λ_=>b9 (by simp)) (λ_=>b9 (λ_=>h2))
 refine d5 (λ_=>b9 SW.zero) (λh=> ?_);obtain ⟨o1,o2⟩:=ho h;refine d6 (R:=λ_=>True) ?_ (λ_ _=> ?_)
 ·unfold xP;exact d5 (λ_=>b9 trivial) (λ_=>b9 trivial)
 refine d5 (λ_=>b9 (SW.one hr.1 hr.2.1)) (λ_=> ?_);have fwd:∀{o:Option zh},OK o SW->OK (o.bind λr=>some (r,true)) (λr=>SW r.1):=λh=>d6 h (λx hx=>b9 hx)
 refine d5 (λ_=>fwd (PX ha hb)) (λ_=> ?_);refine d5 (λ_=>d5 (λ_=>fwd (b9 SW.full)) (λh=>b9 ?_)) (λ_=> ?_)
 ·have h:=yu h;rw [xR (by omega) (by omega),xR (by omega) (by omega)];exact ⟨by simp;omega,by simp;omega,by simp;omega⟩
 refine d5 (λ_=>fwd (Gk ha hb)) (λ_=> ?_);refine d5 (λ_=>fwd (Gl ha hb)) (λ_=> ?_);refine d5 (λ_=>fwd (N2 ha hb)) (λ_=> ?_);refine d5 (λ_=>b9 ⟨by simp,?_,?_⟩) (λ_=> ?_)
 ·grind [mV]
 ·grind [mV]
 have hor:=DY (x:=a.Hi) (y:=b.Hi) (by omega) a2 (by omega) b2;have hor2:=BU a.Hi b.Hi;refine d5 (λ_=>d6 (IW hor2.1 hor2.2) (λx hx=>b9 ⟨?_,?_,?_⟩)) (λ_=> ?_)
 ·grind [pN]
 ·grind [pN]
 ·exact hx.2
 refine d5 (λ_=>d6 (IW hor2.1 hor2.2) (λx hx=>b9 ⟨by simp,?_,?_⟩)) (λ_=> ?_)
 ·show 0<=x;omega
 ·exact hx.2
 refine d5 (λ_=>fwd (N3 ha hb)) (λ_=> ?_);rw [fd (show 0<=b.Hi by omega)];simp only [zbs];rw [fd b0];refine b9 ⟨(D0 a0 (by omega)).1,Ac a0 a1 b1,?_⟩;have:=(D0 (y:=b.Lo) (show 0<=a.Hi by omega) a2).2
 grind
open Go.Sx
variable {n:Nat} {a:zh} {i:zf} {α:Type} {m:zC} {j:zj} {xs:List α}
def oO:zi:=⟨0,⟨0,0⟩,0⟩
def WT(n:Nat)(x:zi):Prop:=x=oO\/(x.RZ=1/\SW x.SD/\x.SO=0)\/(x.RZ=2/\x.SD=⟨0,0⟩/\0<=x.SO/\x.SO<n)
theorem WT.span{x:zi}(h:WT n x):SW x.SD:=by
 rcases h with rfl|h|h
 ·exact SW.zero
 ·exact h.2.1
 grind [SW.zero]
theorem WT.num{s:zh}(h:SW s):WT n ⟨1,s,0⟩:=.inr (.inl ⟨rfl,h,rfl⟩)
theorem WT.zero:WT n oO:=.inl rfl
theorem kz(s:zh):va s=some ⟨1,s,0⟩:=rfl
theorem mg{s:zh}(h:SW s):vF s=some true:=by rw [kD,decide_eq_true h.2.1]
theorem SW.join{b:zh}(ha:SW a)(hb:SW b):SW ⟨mV (mV 18446744073709551615 a.Lo) b.Lo,pN (pN 0 a.Hi) b.Hi⟩:=by
 obtain ⟨a0,a1,a2⟩:=ha;obtain ⟨b0,b1,b2⟩:=hb;unfold mV pN;refine ⟨?_,?_,?_⟩<;>simp only<;>(repeat' split)<;>omega
theorem NA{b:zh}(ha:SW a)(hb:SW b):lW [a,b]=some (⟨mV (mV 18446744073709551615 a.Lo) b.Lo,pN (pN 0 a.Hi) b.Hi⟩,true):=by
 unfold lW;simp [jN,rh,idx,mg ha,mg hb]
def DK(a b:zi):zi:=
 if (a.RZ !=b.RZ)||(a.SO !=b.SO) then oO
 else if a.RZ==1 then ⟨1,⟨mV (mV 18446744073709551615 a.SD.Lo) b.SD.Lo,pN (pN 0 a.SD.Hi) b.SD.Hi⟩,0⟩
 else a
theorem BA{a b:zi}(ha:SW a.SD)(hb:SW b.SD):fz a b=some (DK a b):=by
 unfold fz DK;rw [NA ha hb];split
 ·rfl
 ·split<;>rfl
theorem WT.join{n:Nat}{a b:zi}(ha:WT n a)(hb:WT n b):WT n (DK a b):=by
 unfold DK;split
 ·exact WT.zero
 ·split
  ·exact WT.num (SW.join ha.span hb.span)
  ·exact ha
theorem Ii{b:zh}(ha:SW a)(hb:SW b):dZ [a,b]=some (if pN (pN 0 a.Lo) b.Lo<=mV (mV 18446744073709551615 a.Hi) b.Hi then (⟨pN (pN 0 a.Lo) b.Lo,mV (mV 18446744073709551615 a.Hi) b.Hi⟩,true) else (⟨0,0⟩,false)):=by
 unfold dZ;simp only [gY,zbs];by_cases h:pN (pN 0 a.Lo) b.Lo<=mV (mV 18446744073709551615 a.Hi) b.Hi
 ·simp [jN,lX,idx,Int.not_lt.2 ha.2.1,Int.not_lt.2 hb.2.1,kD,h]
 ·simp [jN,lX,idx,Int.not_lt.2 ha.2.1,Int.not_lt.2 hb.2.1,kD,h]
theorem DL{b:zh}(ha:SW a)(hb:SW b):OK (dZ [a,b]) (λr=>SW r.1):=by
 refine ⟨_,Ii ha hb,?_⟩;obtain ⟨a0,a1,a2⟩:=ha;obtain ⟨b0,b1,b2⟩:=hb;split
 ·rename_i h
  refine ⟨?_,h,?_⟩
  ·grind [pN]
  grind [mV]
 ·exact SW.zero
theorem EW(op a b:Int):OK (aU op a b) (λr=>r.2=inB op 16 19):=by
 unfold aU
 have q:∀k:Int,16<=k->k<=19->(op==k)=true->true=inB op 16 19:=by
  grind [inB]
 refine d5 (λh=>b9 (q 16 (by omega) (by omega) h)) (λn1=> ?_);refine d5 (λh=>b9 (q 17 (by omega) (by omega) h)) (λn2=> ?_);refine d5 (λh=>b9 (q 18 (by omega) (by omega) h)) (λn3=> ?_);refine d5 (λh=>b9 (q 19 (by omega) (by omega) h)) (λn4=>b9 ?_)
 grind [inB]
theorem BC{op:Int}{b:zh}{h:Bool}(ha:SW a)(hb:SW b):OK (dG op a b h) (λr=>SW r.1):=by
 obtain ⟨a0,a1,a2⟩:=id ha;obtain ⟨b0,b1,b2⟩:=id hb;unfold dG;refine d6 (EW op 0 0) (λr hr=> ?_);simp only [mg ha,mg hb,zbs];refine d6 (R:=λ_=>True) (d5 (λ_=>b9 trivial) (λ_=>d5 (λ_=>b9 trivial) (λ_=>b9 trivial))) (λo _=> ?_);refine d5 (λ_=>b9 SW.zero) (λ_=> ?_);unfold xP;simp only [zbs];refine d5 (λ_=>b9 ha) (λhs=> ?_);have hs:b.Lo=b.Hi:=by simpa using hs
 refine d6 (R:=λ_=>True) (d5 (λ_=>b9 trivial) (λ_=>d5 (λ_=>b9 trivial) (λ_=>b9 trivial))) (λo _=> ?_);refine d5 (λ_=>d5 (λ_=>b9 SW.zero) (λhz=> ?_)) (λ_=> ?_)
 ·have hz:b.Lo≠0:=by simpa using hz
  refine d6 (DL ha ?_) (λx hx=>b9 hx);rw [xR (by omega) (by omega)];exact ⟨by simp,by simp;omega,by simp;omega⟩
 refine d6 (R:=λ_=>True) (d5 (λ_=>b9 trivial) (λ_=>b9 trivial)) (λo _=> ?_);refine d5 (λ_=>d6 (DL ha ⟨b0,by simp;omega,by simp⟩) (λx hx=>b9 hx)) (λ_=> ?_);refine d6 (R:=λ_=>True) (d5 (λ_=>b9 trivial) (λ_=>d5 (λ_=>b9 trivial) (λ_=>b9 trivial))) (λo _=> ?_);refine d5 (λ_=>d6 (DL ha hb) (λx hx=>b9 hx)) (λ_=> ?_);refine d5 (λ_=>b9 SW.zero) (λhne=> ?_)
 have hne:¬ (a.Lo=b.Lo/\a.Hi=b.Hi):=by
  grind
 refine d5 (λh1=>b9 ?_) (λh1=> ?_)
 ·have h1:a.Lo=b.Lo:=by simpa using h1
  rw [xR (by omega) (by omega)];exact ⟨by simp;omega,by simp;omega,by simpa using a2⟩
 refine d5 (λh2=>b9 ?_) (λ_=>b9 ha);have h1:a.Lo≠b.Lo:=by simpa using h1
 have h2:a.Hi=b.Lo:=by simpa using h2
 rw [xR (by omega) (by omega)];exact ⟨by simpa using a0,by simp;omega,by simp;omega⟩
theorem iN(l:List zi):OK (vE l) (λ_=>True):=by
 unfold vE;refine d6 (i4 (Q:=λ_=>True) (λ_ _=>True) trivial (λi s again hi _ k=> ?_) (λ_ _=>trivial)) (λo _=> ?_)
 ·unfold kT;exact f9 (i7 hi (λx _=>d5 (λ_=>b9 trivial) (λ_=>k _ trivial)))
 grind [b9]
theorem se(l:List Int):OK (eS l) (λr=>r=0->∀x∈l,x=0):=by
 unfold eS;refine d6 (i4 (Q:=λo=>match o with|.inl _=>∀x∈l,x=0|.inr r=>r≠0) (λi _=>∀q x,q<i->l[q]? =some x->x=0) (λq x h=>by omega) (λi s again hi hI k=> ?_) (λ_ hI=> ?_)) (λo ho=> ?_)
 ·unfold np;refine f9 (i7 hi (λx hx=>d5 (λh=>b9 (by simpa using h)) (λh=>k _ (λq y hq hy=> ?_))))
  grind
 ·intro x hx;obtain ⟨q,hq⟩:=List.mem_iff_getElem?.1 hx
  grind
 grind [b9]
theorem oP(a b:zh):OK (dE a b) (λr=>r=true↔a.Lo<=a.Hi/\b.Lo<=a.Lo/\a.Hi<=b.Hi):=by
 unfold dE;rw [kD];simp only [zbs];refine d6 (R:=λr=>r=true↔a.Lo<=a.Hi/\b.Lo<=a.Lo/\a.Hi<=b.Hi) ?_ (λx hx=>b9 hx);refine d5 (λh1=>d5 (λh2=>b9 ?_) (λh2=>b9 ?_)) (λh1=>b9 ?_)
 ·simp at h1 h2 |-;omega
 ·simp at h1 h2 |-;omega
 ·simp at h1 |-;omega
def DM(a b:zi):Prop:=(b.RZ=1->a.RZ=1/\a.SD.Lo<=a.SD.Hi/\b.SD.Lo<=a.SD.Lo/\a.SD.Hi<=b.SD.Hi)/\(b.RZ=2->a=b)
theorem NB{a b:zi}(h:((a.RZ==b.RZ)&&(((a.SD.Lo==b.SD.Lo)&&((a.SD.Hi==b.SD.Hi)&&true))&&((a.SO==b.SO)&&true)))=true):a=b:=by
 obtain ⟨k,⟨l,h1⟩,m⟩:=a;obtain ⟨k',⟨l',h1'⟩,m'⟩:=b
 grind
theorem DF(a b:zi):OK (kj a b) (λr=>r=true->DM a b):=by
 unfold kj;refine d5 (λh1=> ?_) (λh1=>d5 (λh2=>b9 ?_) (λh2=>b9 ?_))
 ·have h1:b.RZ=1:=by simpa using h1
  refine d6 (R:=λr=>r=true->DM a b) ?_ (λx hx=>b9 hx);refine d5 (λh2=>d6 (oP _ _) (λx hx=>b9 (λe=>⟨λ_=>⟨by simpa using h2,hx.1 e⟩,λe2=>by omega⟩))) (λ_=>b9 (λe=>by cases e))
 ·intro h;have h1:b.RZ≠1:=by simpa using h1
  exact ⟨λe=>absurd e h1,λ_=>NB h⟩
 ·intro _;have h1:b.RZ≠1:=by simpa using h1
  have h2:b.RZ≠2:=by simpa using h2
  exact ⟨λe=>absurd e h1,λe=>absurd e h2⟩
theorem wS(t:zi):OK (gu t) (λ_=>True):=by
 unfold gu;exact d6 (oP _ _) (λx _=>d5 (λ_=>b9 trivial) (λ_=>b9 trivial))
theorem nU(h:xb i=true)(ho:¬ (15<=i.Op/\i.Op<=20)):0<=i.D/\i.D<8:=by
 unfold xb at h;simp only [inB,tj] at h;simp only [zae,q7,zdq,t8] at h
 iterate 11 (all_goals (try split at h))
 all_goals simp only [zae,q7,zdq,t8,zfe] at h
 all_goals omega
theorem nV(h:xb i=true):0<=i.A/\i.A<8:=by
 unfold xb at h;simp only [inB,tj] at h;simp only [zae,q7,zdq,t8] at h
 iterate 11 (all_goals (try split at h))
 all_goals simp only [zae,q7,zdq,t8,zfe] at h
 all_goals omega
theorem mO(h:xb i=true):0<=i.Op/\i.Op<=22:=by
 unfold xb at h;simp only [inB,tj] at h;simp only [zae,q7,zdq,t8] at h
 iterate 11 (all_goals (try split at h))
 all_goals simp only [zae,q7,zdq,t8,zfe] at h
 all_goals omega
theorem bf(h:xb i=true)(ho:i.Op<=12\/(16<=i.Op/\i.Op<=19)):i.B=8\/(0<=i.B/\i.B<8):=by
 unfold xb at h;simp only [inB,tj,OM] at h;simp only [zae,q7,zdq,t8] at h
 iterate 11 (all_goals (try split at h))
 all_goals simp only [zae,q7,zdq,t8,zfe] at h
 all_goals omega
theorem mi(h:xb i=true)(ho:i.Op=21):0<=i.SU/\i.SU<=6:=by
 unfold xb at h;simp only [inB,tj] at h;simp [ho] at h;omega
theorem nW(h:xb i=true)(ho:i.Op=14):0<=i.SU/\i.SU<=3:=by
 grind [xb,inB,tj]
theorem F7{t:Int}(h0:0<=t)(h1:t<8):ain 8 t=some t.toNat:=by grind [ain]
theorem PN{i:Nat}(h:i<n):ain n (i:Int)=some i:=by grind [ain]
theorem EX(op:Int)(h0:0<=op)(h1:op<23):∃f,eL op=some (f,true)/\jx f 100=some (decide (op<=11)||decide (op=13)||decide (op=14))/\jx f 115=some (decide (op<=12)||(decide (16<=op)&&decide (op<=19))):=by
 have h:∀k:Fin 23,∃f,eL ((k:Nat):Int)=some (f,true)/\jx f 100=some (decide (((k:Nat):Int)<=11)||decide (((k:Nat):Int)=13)||decide (((k:Nat):Int)=14))/\jx f 115=some (decide (((k:Nat):Int)<=12)||(decide (16<=((k:Nat):Int))&&decide (((k:Nat):Int)<=19))):=by
  intro k
  have hk:∃f,eL ((k:Nat):Int)=some (f,true):=by
   obtain ⟨f,hf,_⟩:=Ir ((k:Nat):Int) (by omega) (by omega);exact ⟨f,hf⟩
  obtain ⟨f,hf⟩:=hk;have key:∀k:Fin 23,((eL ((k:Nat):Int)).bind λr=>jx r.1 100)=some (decide (((k:Nat):Int)<=11)||decide (((k:Nat):Int)=13)||decide (((k:Nat):Int)=14))/\((eL ((k:Nat):Int)).bind λr=>jx r.1 115)=some (decide (((k:Nat):Int)<=12)||(decide (16<=((k:Nat):Int))&&decide (((k:Nat):Int)<=19))):=by decide+kernel
  grind
 obtain ⟨n,rfl⟩:=zof h0;exact h ⟨n,by omega⟩
theorem BD(h:xb i=true):OK (cy i) (λr=>r.2=true->0<=r.1/\r.1<8):=by
 have ho:=mO h;obtain ⟨f,h1,h2,_⟩:=EX i.Op ho.1 (by omega);unfold cy;simp only [fc,h,h1,h2,zbs];refine d5 (λe=>by cases e) (λ_=>d5 (λe=>b9 (λ_=>nU h (by simp at e;omega))) (λ_=>b9 (λ_=>by simp)))
theorem rm(h:xb i=false):OK (cy i) (λr=>r.2=true->0<=r.1/\r.1<8):=by
 grind [cy,fc,b9]
theorem BE(h:xb i=true):ki i=some (decide (i.Op<=12)||(decide (16<=i.Op)&&decide (i.Op<=19))):=by
 have ho:=mO h
 grind [EX,ki,fc]
def Mj(i:zf)(k:Nat->zi):zi:=if i.B==8 then ⟨1,⟨xS i.SU,xS i.SU⟩,0⟩ else k i.B.toNat
theorem EY{k:Nat->zi}(h:i.B=8\/(0<=i.B/\i.B<8)):dP i k=some (Mj i k):=by
 unfold dP Mj;rcases zft (i.B==8) with e|e
 ·rw [d7 e,d7 e];rfl
 grind [F7]
theorem wT{k:Nat->zi}(h:i.B=8\/(0<=i.B/\i.B<8))(hk:∀r,r<8->WT n (k r)):WT n (Mj i k):=by
 grind [Mj,WT.num,SW.one,xc]
structure JI (m:zC) (j:zj):Prop where
 Ug:j.SC=m
 TW:j.came.length=m.Code.length
 TU:j.any.length=m.Code.length
 lps:j.loops=lps m.Code m.Code.length
 wt:∀(q:Nat)(x:Nat->zi),j.came[q]? =some x->∀r,r<8->WT m.Maps.length (x r)
theorem aJ{p:Nat}(h:p<xs.length):∃x,xs[p]? =some x/\idx xs (p:Int)=some x:=⟨xs[p],zeg h,Jw h⟩
theorem Mk{p q:Nat}{v:α}(h:q≠p):(xs.set p v)[q]? =xs[q]? :=z5 (λe=>h e.symm)
theorem JI.put(h:JI m j){p:Nat}{x:Nat->zi}(hx:∀r,r<8->WT m.Maps.length (x r))(A:List Bool)(hA:A.length=m.Code.length):JI m {j with came:=j.came.set p x,any:=A}:=
 ⟨h.Ug,by simpa using h.TW,hA,h.lps,λq y hy r hr=>by
  simp only at hy;by_cases hq:q=p
  ·grind
  ·rw [Mk hq] at hy;exact h.wt q y hy r hr⟩
theorem mj{x:Nat->zi}(hx:∀r,r<8->WT n (x r)){t:Nat}{v:zi}(hv:WT n v):∀r,r<8->WT n (aset x t v r):=by
 grind [aset]
theorem Ij(h:JI m j){p:Nat}(hp:p<m.Code.length){k:Nat->zi}(hk:∀r,r<8->WT m.Maps.length (k r)):
  OK (jg j (p:Int) k) (λj'=>JI m j'/\j'.any=j.any.set p true/\∀q,q≠p->j'.came[q]? =j.came[q]?):=by
 unfold jg;obtain ⟨a,ha,ha2⟩:=aJ (xs:=j.any) (p:=p) (by rw [h.TU];exact hp)
 obtain ⟨c,hc,hc2⟩:=aJ (xs:=j.came) (p:=p) (by rw [h.TW];exact hp)
 simp only [ha2,hc2,zbs,k8];refine d5 (λ_=>b9 ⟨h.put hk _ (by simpa using h.TU),rfl,λq hq=>Mk hq⟩) (λhn=> ?_);have hat:a=true:=by simpa using hn
 have hset:j.any.set p true=j.any:=by
  apply m6
  grind
 refine d6 (i4 (λ_ s=>JI m s/\s.any=j.any.set p true/\∀q,q≠p->s.came[q]? =j.came[q]?) ⟨h,hset.symm,λ_ _=>rfl⟩ (λi s again hi hI kk=> ?_) (λs hI=>hI)) (λo ho=>b9 ho);unfold dF;obtain ⟨c',hc',hc2'⟩:=aJ (xs:=s.came) (p:=p) (by rw [hI.1.TW];exact hp)
 have w1:=hI.1.wt p c' hc' i hi;simp only [hc2',PN hi,zbs,BA w1.span (hk i hi).span,k8];exact kk _ ⟨hI.1.put (mj (hI.1.wt p c' hc') (w1.join (hk i hi))) _ hI.1.TU,hI.2.1,λq hq=>by grind⟩
theorem EZ{lo hi:Nat}(h1:lo<=hi)(h2:hi<=xs.length):cut xs (lo:Int) (hi:Int)=some ((xs.take hi).drop lo):=by
 unfold cut;rw [d7 ⟨by omega,by omega,by omega⟩];simp
theorem E0(h:JI m j)(hg:ua m.Code){p:Nat}(hp:p<m.Code.length):
  OK (xq j (p:Int)) (λj'=>JI m j'/\j'.any=j.any/\∀q,q≠p->j'.came[q]? =j.came[q]?):=by
 unfold xq;refine d6 (i4 (Q:=λj'=>JI m j'/\j'.any=j.any/\∀q,q≠p->j'.came[q]? =j.came[q]?) (λ_ s=>JI m {j with came:=s}/\∀q,q≠p->s[q]? =j.came[q]?) ⟨⟨h.Ug,h.TW,h.TU,h.lps,h.wt⟩,λ_ _=>rfl⟩ (λi s again hi hI k=> ?_) (λs hI=>⟨hI.1,rfl,hI.2⟩)) (λo ho=>b9 ho);unfold cT;refine f9 (i7 hi (λl hl=>d5 (λ_=>k _ hI) (λhh=> ?_)));rw [h.lps] at hl;obtain ⟨a,ia,ha,hia,hop,rfl⟩:=nP.1 (zmg hl);have hlp:=hg.Th.loop hia hop;have hn:=hg.Us;have e1:(jI ia a).Tr=(((a:Int)-ia.D).toNat:Int):=by show (a:Int)-ia.D=_;omega
 have e2:w64 ((jI ia a).At+1)=((a+1:Nat):Int):=by show w64 ((a:Int)+1)=_;rw [qt (by omega) (by omega)];simp
 rw [e1,e2,h.Ug,EZ (by omega) (by omega)];simp only [zbs];refine d6 (i4 (λ_ s=>JI m {j with came:=s}/\∀q,q≠p->s[q]? =j.came[q]?) hI (λi s again hi hI k=> ?_) (λs hI=>hI)) (λo ho=>k _ ho);unfold cR;refine f9 (i7 hi (λx hx=> ?_))
 have hr:OK (cy x) (λr=>r.2=true->0<=r.1/\r.1<8):=by
  grind [xb,BD,rm]
 refine d6 hr (λr hr=>d5 (λ_=>k _ hI) (λhw=> ?_));have hr:=hr (by simpa using hw);obtain ⟨c',hc',hc2'⟩:=aJ (xs:=s) (p:=p) (by rw [show s.length=m.Code.length from hI.1.TW];exact hp)
 simp only [hc2',F7 hr.1 hr.2,zbs,gY,kz,k8];refine d5 (λ_=>k _ ⟨hI.1.put (mj (hI.1.wt p c' hc') (WT.num SW.full)) _ hI.1.TU,λq hq=>by grind⟩) (λ_=>k _ ⟨hI.1.put (mj (hI.1.wt p c' hc') WT.zero) _ hI.1.TU,λq hq=>by grind⟩)
end
open Go.Sx
def Way(code:List zf)(p q:Nat):Prop:=∃i,code[p]? =some i/\((jv i).2.2=true/\q=p+1\/(jv i).2.1=true/\0<(jv i).1/\(q:Int)=p+(jv i).1)
structure F8 (code:List zf) (p:Nat) (j j':zj):Prop where
 same:∀q:Nat,q<=p->j'.came[q]? =j.came[q]? /\j'.any[q]? =j.any[q]?
 keep:∀q:Nat,j.any[q]? =some true->j'.any[q]? =some true
 new:∀q:Nat,j'.any[q]? =some true->j.any[q]? =some true\/Way code p q
theorem F8.refl(code:List zf)(p:Nat)(j:zj):F8 code p j j:=⟨λ_ _=>⟨rfl,rfl⟩,λ_ h=>h,λ_ h=>.inl h⟩
theorem F8.trans{code:List zf}{p:Nat}{a b c:zj}(h:F8 code p a b)(k:F8 code p b c):F8 code p a c:=
 ⟨λq hq=>⟨(k.same q hq).1.trans (h.same q hq).1,(k.same q hq).2.trans (h.same q hq).2⟩,λq hq=>k.keep q (h.keep q hq),λq hq=>(k.new q hq).elim (λe=>h.new q e) .inr⟩
theorem NC{code:List zf}{p q:Nat}{j j':zj}(hA:j.any.length=code.length)(hq:p<q)(hw:Way code p q)(h1:j'.any=j.any.set q true)(h2:∀t,t≠q->j'.came[t]? =j.came[t]?):F8 code p j j':=by
 refine ⟨λt ht=>⟨h2 t (by omega),by grind⟩,λt ht=> ?_,λt ht=> ?_⟩
 ·grind
 grind
theorem Ik{i:zf}(h:(jv i).2.1=true):(0<(jv i).1/\15<=i.Op/\i.Op<=19/\(jv i).2.2=(i.Op !=15))\/((jv i).1<0/\i.Op=20/\(jv i).2.2=true):=by
 unfold jv at h |-;by_cases hj:ek i=true
 ·have:=rq hj
  grind
 ·rw [d8 hj] at h |-;by_cases hl:lz i=true
  ·have:=E1 hl
   grind
  grind
theorem Il{m:zC}{j:zj}(h:JI m j)(hg:ua m.Code){p:Nat}(hp:p<m.Code.length){k:Nat->zi}(hk:∀r,r<8->WT m.Maps.length (k r)):
  OK (xQ j (p:Int) k) (λj'=>JI m j'/\F8 m.Code p j j'):=by
 have hn:=hg.Us;obtain ⟨i,hi,hi2⟩:=aJ hp;have hr:=hg.Th.right hi;unfold xQ;rw [h.Ug,hi2];simp only [mP,zbs];have e1:w64 ((p:Int)+1)=((p+1:Nat):Int):=by grind [qt]
 have step:∀{j:zj} {q:Nat} {k:Nat->zi},JI m j->p<q->q<m.Code.length->Way m.Code p q->(∀r,r<8->WT m.Maps.length (k r))->OK (jg j (q:Int) k) (λj'=>JI m j'/\F8 m.Code p j j'):=
  λhj hq hqn hw hk=>(Ij hj hqn hk).mono (λj' hj'=>⟨hj'.1,NC hj.TU hq hw hj'.2.1 hj'.2.2⟩)
 refine d5 (λhc=>d6 (d5 (λhon=> ?_) (λ_=>b9 ⟨h,F8.refl _ _ _⟩)) (λo ho=>b9 ho)) (λhc=> ?_)
 ·rw [e1];exact d6 (step h (by omega) (hg.Th.on hi hon) ⟨i,hi,.inl ⟨hon,rfl⟩⟩ hk) (λx hx=>b9 hx)
 have hl:(jv i).2.1=true/\0<=(jv i).1:=by grind
 have hd:0<(jv i).1:=by
  rcases Ik hl.1 with h1|h1
  ·exact h1.1
  ·omega
 have hlead:=hg.Th.leads hi hl.1;obtain ⟨q,hq⟩:=zof hlead.1;have eq:w64 ((p:Int)+(jv i).1)=(q:Int):=by grind [qt]
 have hq1:(q:Int)=p+(jv i).1:=hq.symm;have hwq:Way m.Code p q:=⟨i,hi,.inr ⟨hl.1,hd,hq1⟩⟩
 refine d5 (λ_=> ?_) (λhon=> ?_)
 ·grind
 have hon:(jv i).2.2=true:=by simpa using hon
 have hops:16<=i.Op/\i.Op<=19:=by
  grind [Ik]
 have hs:=bf hr (.inr hops);have hA:=nV hr;rw [EY hs];simp only [zbs];refine d6 (i4 (λ_ s=>JI m s/\F8 m.Code p j s) ⟨h,F8.refl _ _ _⟩ (λt s again ht hI kk=> ?_) (λs hI=>hI)) (λo ho=>b9 ho);unfold dH;refine f9 (i7 (by simpa using ht) (λx hx=> ?_));refine d6 (R:=λ(o:Int)=>∃q':Nat,o=(q':Int)/\p<q'/\q'<m.Code.length/\Way m.Code p q') ?_ (λo ho=> ?_)
 ·refine d5 (λ_=>b9 ⟨p+1,e1,by omega,hg.Th.on hi hon,i,hi,.inl ⟨hon,rfl⟩⟩) (λ_=>b9 ⟨q,eq,by omega,by omega,hwq⟩)
 obtain ⟨q',rfl,hq1',hq2',hw'⟩:=ho;rw [F7 hA.1 hA.2];simp only [zbs];refine d6 (R:=λr=>SW r.1) (d6 (BC (hk _ (by omega)).span (wT hs hk).span) (λr hr=>b9 hr)) (λr hr=> ?_);refine d5 (λ_=> ?_) (λ_=>kk _ hI);simp only [kz,zbs];exact d6 (step hI.1 hq1' hq2' hw' (mj hk (WT.num hr))) (λx hx=>kk _ ⟨hx.1,hI.2.trans hx.2⟩)
theorem DN:∀k:Fin 7,∃l,xT 2199023255552 ((k:Nat):Int)=some l/\l.length<=3:=by
 have h:∀k:Fin 7,∃n:Fin 4,(xT 2199023255552 ((k:Nat):Int)).map (·.length)=some (n:Nat):=by decide+kernel
 intro k;obtain ⟨n,hn⟩:=h k;obtain ⟨l,h1,h2⟩:=yf.1 hn
 grind
theorem BF:∀k:Fin 7,∃s,cU ((k:Nat):Int)=some (s,true)/\0<=s.most/\s.most<18446744073709551616:=by
 intro k;have h:∀k:Fin 7,((cU ((k:Nat):Int)).map (λr=>r.2&&decide (0<=r.1.most)&&decide (r.1.most<18446744073709551616)))=some true:=by decide+kernel
 obtain ⟨⟨s,b⟩,h1,h2⟩:=yf.1 (h k)
 grind
theorem Im(k:Fin 7){l:List zi}(ha:xT 2199023255552 ((k:Nat):Int)=some l)(ys:List zi):OK (eT 2199023255552 ((k:Nat):Int) ys) (λ_=>True):=by
 obtain ⟨s,h1,_⟩:=BF k;unfold eT;simp only [h1,ha,zbs];refine d5 (λ_=>b9 trivial) (λ_=>d5 (λ_=>b9 trivial) (λhl=> ?_))
 have hl:l.length=ys.length:=by
  grind
 refine d6 (i4 (Q:=λ_=>True) (λ_ _=>True) trivial (λi s again hi _ kk=> ?_) (λ_ _=>trivial)) (λo _=> ?_)
 ·unfold kU;refine f9 (i7 hi (λx _=>f9 (i7 (by omega) (λy _=> ?_))));refine d5 (λ_=>b9 trivial) (λ_=>d6 (R:=λ_=>True) ?_ (λo _=>d5 (λ_=>b9 trivial) (λ_=>kk _ trivial)));exact d5 (λ_=>d6 (oP _ _) (λx _=>b9 trivial)) (λ_=>b9 trivial)
 grind [b9]
def One(m:zC)(j:zj)(p:Nat)(r:(Nat->zi)×Int):Prop:=
 r.2=0->(∀q,q<8->WT m.Maps.length (r.1 q))/\∀i,m.Code[p]? =some i->i.Op=20->∀q,q<8->∀x h,j.came[p]? =some x->j.came[((p:Int)-i.D).toNat]? =some h->DM (x q) (h q)
theorem Ml{m:zC}{j:zj}(h:JI m j)(hg:ua m.Code){p:Nat}(hp:p<m.Code.length):
  OK (vo 2199023255552 j (p:Int)) (One m j p):=by
 have hn:=hg.Us;obtain ⟨i,hi,hi2⟩:=aJ hp;obtain ⟨k,hk1,hk2⟩:=aJ (xs:=j.came) (p:=p) (by rw [h.TW];exact hp)
 have hk:=h.wt p k hk1;have hr:=hg.Th.right hi;have hop:=mO hr;have hA:=nV hr;unfold vo;rw [h.Ug,hi2,hk2];simp only [zbs,BE hr]
 have notLoop:∀{r:(Nat->zi)×Int},i.Op≠20->(r.2=0->∀q,q<8->WT m.Maps.length (r.1 q))->One m j p r:=by
  intro r hne hw h0
  grind
 refine d6 (R:=λt=>WT m.Maps.length t) ?_ (λs hs=> ?_)
 ·refine d5 (λhsrc=> ?_) (λ_=>b9 WT.zero)
  grind [bf,EY,b9,wT]
 rw [F7 hA.1 hA.2];simp only [zbs,gY,kz];have hD:¬ (15<=i.Op/\i.Op<=20)->ain 8 i.D=some i.D.toNat:=λh=>F7 (nU hr h).1 (nU hr h).2
 have kw:∀{v:zi} {t:Nat},WT m.Maps.length v->∀q,q<8->WT m.Maps.length (aset k t v q):=λhv=>mj hk hv
 refine d5 (λe=> ?_) (λe0=> ?_)
 ·have e:i.Op=0:=by simpa using e
  refine d5 (λ_=>b9 (notLoop (by omega) (λh=>by simp at h))) (λ_=> ?_)
  grind [b9]
 refine d5 (λe=> ?_) (λe11=> ?_)
 ·have e:i.Op=11:=by simpa using e
  rw [hD (by omega)];simp only [zbs];exact d6 (iN _) (λa _=>d6 (wS _) (λb _=>d6 (se _) (λc _=>b9 (notLoop (by omega) (λ_=>kw (WT.num SW.full))))))
 refine d5 (λe=> ?_) (λe12=> ?_)
 ·grind [d6,iN,wS,se,b9]
 refine d5 (λe=> ?_) (λe13=> ?_)
 ·grind [b9,WT.num,SW.full]
 refine d5 (λe=> ?_) (λe14=> ?_)
 ·have e:i.Op=14:=by simpa using e
  have him:=nW hr e;rw [hD (by omega)];simp only [zbs];refine d5 (λ_=>b9 (notLoop (by omega) (λh=>by simp at h))) (λhlt=>b9 (notLoop (by omega) (λ_=>kw (.inr (.inr ⟨rfl,rfl,him.1,?_⟩)))))
  grind
 refine d5 (λe=> ?_) (λe15=> ?_)
 ·grind [b9]
 refine d6 (R:=λo=>o=inB i.Op 16 19) ?_ (λo ho=> ?_)
 ·refine d5 (λe=>b9 ?_) (λe=>d5 (λe=>b9 ?_) (λe2=>d5 (λe=>b9 ?_) (λe3=>b9 ?_)))
  ·grind [inB]
  ·grind [inB]
  ·grind [inB]
  grind [inB]
 refine d5 (λe=> ?_) (λe16=> ?_)
 ·grind [inB,d6,iN,b9]
 refine d5 (λe=> ?_) (λe20=> ?_)
 ·have e:i.Op=20:=by simpa using e
  have hlp:=hg.Th.loop hi e;have ew:w64 ((p:Int)-i.D)=(((p:Int)-i.D).toNat:Int):=by grind [qt]
  obtain ⟨hd,hd1,hd2⟩:=aJ (xs:=j.came) (p:=((p:Int)-i.D).toNat) (by rw [h.TW];omega);refine d6 (iN _) (λa _=>d5 (λha=>b9 (λh0=>absurd h0 (by simpa using ha))) (λ_=> ?_));refine d6 (i4 (Q:=λo=>match o with|.inl _=>∀q,q<8->DM (k q) (hd q)|.inr r=>r.2≠0) (λt _=>∀q,q<t->DM (k q) (hd q)) (λq hq=>by omega) (λt s again ht hI kk=> ?_) (λ_ hI=>hI)) (λo ho=> ?_)
  ·unfold dY;simp only [PN ht,ew,hd2,zbs];refine d6 (DF _ _) (λr hr=>d5 (λ_=>b9 (by simp)) (λhn=>kk _ (λq hq=> ?_)))
   grind
  ·cases o with
   |inl _=>
    refine b9 (λ_=>⟨hk,λi' hi' _ q hq x hx h1 h2=> ?_⟩)
    grind
   |inr r=>exact b9 (λh0=>absurd h0 ho)
 refine d5 (λe=> ?_) (λe21=> ?_)
 ·have e:i.Op=21:=by simpa using e
  have him:=mi hr e;obtain ⟨n,hn⟩:=zof him.1;rw [hn];obtain ⟨l,hl,hl3⟩:=DN ⟨n,by omega⟩;obtain ⟨sg,hs1,hs2,hs3⟩:=BF ⟨n,by omega⟩;have hl':xT 2199023255552 (n:Int)=some l:=hl;have hs1':cU (n:Int)=some (sg,true):=hs1;simp only [hl',zbs];have ec:w64 (1+(l.length:Int))=((1+l.length:Nat):Int):=by grind [qt]
  have ec1:(1:Int)=((1:Nat):Int):=rfl
  have hcut:∃ys,cut (Hj 8 k) 1 (w64 (1+(l.length:Int)))=some ys:=by
   rw [ec];exact ⟨_,EZ (lo:=1) (by omega) (by grind [og])⟩
  obtain ⟨ys,hys⟩:=hcut;rw [hys];simp only [zbs];refine d6 (Im ⟨n,by omega⟩ hl ys) (λr _=> ?_);unfold gP;simp only [hs1',zbs];refine b9 (notLoop (by omega) (λ_=> ?_));exact kw (WT.num ⟨by simp,by simpa using hs2,by simpa using hs3⟩)
 refine d5 (λe=> ?_) (λe22=> ?_)
 ·grind [d6,iN,b9]
 simp only [beq_eq_false_iff_ne,ne_eq] at e0 e11 e12 e13 e14 e15 e20 e21 e22
 have e16':¬ (16<=i.Op/\i.Op<=19):=by
  grind [inB]
 refine d6 (PY (hk _ (by omega)).span hs.span) (λr hr=> ?_)
 grind [d6,iN,b9,WT.num]
open Go.Sx
theorem tg(l:List Int)(m:Int):qa l m=some (l.contains m):=by
 unfold qa xg;rw [pz (λi=>if (l[i]? ==some m) then some (i:Int) else none) (N:=l.length)]
 ·simp only [zbs];cases hf:fb (λi=>if (l[i]? ==some m) then some (i:Int) else none) l.length 0 with
  |some v=>
   grind [gy,wB]
  |none=>
   have:=gz hf
   have hm:m∉l:=by
    intro hm;obtain ⟨j,hj,rfl⟩:=t9.1 hm
    grind
   simp [wB,hm]
 grind [aS,Jw]
def th(l:List Int):Prop:=(∀x∈l,0<=x/\x<4)/\l.Nodup/\l.length<=4
theorem uT{l:List Int}{i:Nat}(h:i<l.length):(l.take (i+1)).Nodup↔(l.take i).Nodup/\l[i]∉l.take i:=by
 rw [x7,zeg h]
 grind
theorem Io(l:List Int):OK (kg l) (λr=>r=true↔th l):=by
 unfold kg;refine d6 (i4 (Q:=λo=>match o with|.inl _=>(∀x∈l,0<=x/\x<4)/\l.Nodup|.inr r=>r=false/\¬ th l) (λi _=>(∀x∈l.take i,0<=x/\x<4)/\(l.take i).Nodup) (by simp) (λi s again hi hI k=> ?_) (λs hI=> ?_)) (λo ho=> ?_)
 ·unfold ow;simp only [Jw hi,zbs,wF (show i<=l.length by omega),tg];refine d6 (R:=λo=>o=true↔¬ (0<=l[i]/\l[i]<4/\l[i]∉l.take i)) ?_ (λo ho=> ?_)
  ·refine d5 (λh=>b9 ?_) (λh=>d5 (λh2=>b9 ?_) (λh2=>b9 ?_))
   ·grind
   ·grind
   grind
  refine d5 (λh=>b9 ⟨rfl,λhg=> ?_⟩) (λh=>k _ ?_)
  ·have:=(uT hi).1 (hg.2.1.sublist (List.take_sublist _ _));have hm:=hg.1 l[i] (ym _)
   grind
  ·have hh:0<=l[i]/\l[i]<4/\l[i]∉l.take i:=Classical.byContradiction (λhc=>by grind);refine ⟨λx hx=> ?_,(uT hi).2 ⟨hI.2,hh.2.2⟩⟩;rw [x7,zeg hi] at hx
   grind
 ·simpa using hI
 ·cases o with
  |inl _=>
   refine b9 ?_;simp only [zdq];exact ⟨λh=>⟨ho.1,ho.2,by omega⟩,λh=>by have:=h.2.2;omega⟩
  |inr r=>exact b9 ⟨λh=>(by grind),λh=>absurd h ho.2⟩
def OL(code:List zf)(j:zj):Prop:=∀(q a:Nat)(ia:zf),j.any[q]? =some true->code[a]? =some ia->ia.Op=20->(a:Int)-ia.D<q->q<=a->j.any[((a:Int)-ia.D).toNat]? =some true
theorem OL.ways{code:List zf}(hg:ua code){p:Nat}{j j':zj}(h:OL code j)(hp:j.any[p]? =some true)(hw:F8 code p j j'):OL code j':=by
 intro q a ia hq ha ho h1 h2;have hlp:=hg.Th.loop ha ho;rcases hw.new q hq with h3|⟨i,hi,hway⟩
 ·exact hw.keep _ (h q a ia h3 ha ho h1 h2)
 ·
  by_cases hin:(a:Int)-ia.D<=p/\p<=a
  ·by_cases hh:(p:Int)=a-ia.D
   ·rw [<- hh];exact hw.keep _ (by simpa using hp)
   ·exact hw.keep _ (h p a ia hp ha ho (by omega) hin.2)
  ·exfalso
   rcases hway with ⟨hon,rfl⟩|⟨hl,hd,hqd⟩
   ·omega
   ·refine hg.en p (zes.1 hi).1 ⟨i,hi,hl,hd,a,ia,q,(zes.1 ha).1,ha,ho,hqd,(xw ha ho).2 ⟨by omega,by omega⟩,?_,by omega⟩
    grind [qW,xw]
structure F9 (m:zC) (n:Nat) (j:zj):Prop where
 ji:JI m j
 zero:j.any[0]? =some true
 UG:OL m.Code j
 TX:∀(p:Nat)(i:zf),p<n->m.Code[p]? =some i->i.Op=20->j.any[p]? =some true->∀q,q<8->∀x h,j.came[p]? =some x->j.came[((p:Int)-i.D).toNat]? =some h->DM (x q) (h q)
theorem Dy{m:zC}{j:zj}{n:Nat}(h:F9 m n j)(hg:ua m.Code)(hn:n<m.Code.length)(again:zj->Option (zj⊕((Option zj)×Int×Int)))
  {Q:(zj⊕((Option zj)×Int×Int))->Prop} (hk:∀j',F9 m (n+1) j'->OK (again j') Q) (he:∀e,e≠0->Q (.inr (none,(n:Int),e))):OK (bW 2199023255552 n again j) Q:=by
 unfold bW;obtain ⟨a,ha,ha2⟩:=aJ (xs:=j.any) (p:=n) (by rw [h.ji.TU];exact hn)
 simp only [ha2,zbs];refine d5 (λhf=> ?_) (λhf=> ?_)
 ·have hf:a=false:=by simpa using hf
  refine hk j {h with TX:=λp i hp hi ho hany=> ?_};by_cases e:p=n
  ·grind
  ·exact h.TX p i (by omega) hi ho hany
 have hat:j.any[n]? =some true:=by grind
 refine d6 (E0 h.ji hg hn) (λj1 ⟨hj1,ha1,hc1⟩=> ?_);refine d6 (Ml hj1 hg hn) (λr hr=> ?_);refine d5 (λe=>b9 (he _ (by simpa using e))) (λe=> ?_);have hr:=hr (by simpa using e);refine d6 (Il hj1 hg hn hr.1) (λj2 ⟨hj2,hw⟩=>hk j2 ?_);have hcl:OL m.Code j1:=by intro q a ia;rw [ha1];exact h.UG q a ia
 refine ⟨hj2,hw.keep _ (by rw [ha1];exact h.zero),hcl.ways hg (by rw [ha1];exact hat) hw,λp i hp hi ho hany q hq x hh hx hhd=> ?_⟩
 have hlp:=hg.Th.loop hi ho;rw [(hw.same p (by omega)).1] at hx;rw [(hw.same _ (by omega)).1] at hhd;rw [(hw.same p (by omega)).2,ha1] at hany;by_cases e:p=n
 ·grind
 ·rw [hc1 p e] at hx;rw [hc1 _ (by omega)] at hhd;exact h.TX p i (by omega) hi ho hany q hq x hh hx hhd
structure PO (m:zC) (r:(Option zj)×Int×Int):Prop where
 UE:r.2.1=0\/0<=r.2.1/\r.2.1<m.Code.length
 TF:r.2.2=0->r.2.1=0/\ua m.Code/\th m.Maps/\∃j,r.1=some j/\F9 m m.Code.length j
 bad:r.2.2≠0->r.1=none
theorem PP{m:zC}(hg:ua m.Code):F9 m 0 ⟨m,List.replicate m.Code.length (λ_=>oO),(List.replicate m.Code.length false).set 0 true,lps m.Code m.Code.length⟩:=by
 have hn:=hg.n1;refine ⟨⟨rfl,by simp,by simp,rfl,λq x hx r _=> ?_⟩,by grind,λq a ia hq ha ho h1 h2=> ?_,λp i hp=>by omega⟩
 ·grind [N9,WT.zero]
 grind
theorem BG(m:zC):OK (jX 2199023255552 m) (PO m):=by
 unfold jX;refine d6 (Io _) (λg hgm=> ?_);refine d5 (λ_=>b9 ⟨.inl rfl,λh=>by simp at h,λ_=>rfl⟩) (λhgt=> ?_);have hgm:=hgm.1 (by simpa using hgt);obtain ⟨r,h1,h2,h3,h4⟩:=sS m.Code;simp only [h1,zbs];refine d5 (λhr=>b9 ⟨h2,λh=>absurd h (by simpa using hr),λ_=>rfl⟩) (λhr=> ?_);have hg:=(h3 (by simpa using hr)).2;have hn:=hg.Us;have hn1:=hg.n1;refine d6 (R:=λo=>o=zj.mk m (List.replicate m.Code.length (λ_=>oO)) (List.replicate m.Code.length false) []) ?_ (λo ho=> ?_)
 ·grind [f9,OK.mkl,b9,oO]
 subst ho;simp only [uI hg,zbs]
 have e0:idx (List.replicate m.Code.length false) 0=some false:=by
  grind [Jw]
 rw [e0];simp only [zbs];refine d6 (i4 (Q:=λo=>match o with|.inl j=>F9 m m.Code.length j|.inr r=>r.1=none/\r.2.2≠0/\0<=r.2.1/\r.2.1<m.Code.length) (λi s=>F9 m i s) ?_ (λi s again hi hI k=>Dy hI hg hi again k (λe he=>⟨rfl,he,by simp,by simpa using hi⟩)) (λs hI=>hI)) (λo ho=> ?_)
 ·grind [PP]
 ·cases o with
  |inl j=>exact b9 ⟨.inl rfl,λ_=>⟨rfl,hg,hgm,j,rfl,ho⟩,λh=>absurd rfl h⟩
  |inr r=>exact b9 ⟨.inr ho.2.2,λh=>absurd h ho.2.1,λ_=>ho.1⟩
theorem KL(m:zC):OK (vp 2199023255552 m) (λr=>(r.1=0\/0<=r.1/\r.1<m.Code.length)):=by
 unfold vp;refine d6 (BG m) (λr hr=> ?_);obtain ⟨o,p,e⟩:=r;cases o with
 |none=>exact OK.none_ (b9 hr.UE)
 |some j=>exact OK.some_ (b9 hr.UE)
def known(j:zj)(p:Nat):List zi:=match j.any[p]?,j.came[p]? with
 |some true,some c=>Hj 8 c
 |_,_=>[]
end Go.Proofs.YtplmgfkghomelaaGreatDoor
