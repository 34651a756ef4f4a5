/- Lemmas. -/
import Derived.Test.YtplmgfkghomelaaGreatDoorKOps
set_option linter.unusedVariables false
set_option linter.unusedSimpArgs false
namespace Go.Proofs.YtplmgfkghomelaaGreatDoor
section
open Go.Sx
theorem SW.full:SW ⟨0,18446744073709551615⟩:=⟨by simp,by simp,by simp⟩
theorem SW.one{n:Int}(h0:0<=n)(h1:n<18446744073709551616):SW ⟨n,n⟩:=⟨h0,by simp,h1⟩
theorem SW.zero:SW ⟨0,0⟩:=⟨by simp,by simp,by simp⟩
theorem Qo(n:Nat):iI .u64 (n:Int) 32=((n / 4294967296:Nat):Int):=Fx 32 (by omega)
theorem NW(n:Nat)(h:n<18446744073709551616):wl .u64 (n:Int) 4294967295=((n%4294967296:Nat):Int):=by
 rw [Fw (by omega) (by omega) (by omega) (by omega)]
 have:(n:Int).toNat &&& (4294967295:Int).toNat=n%2^32:=by
  rw [<- Nat.and_two_pow_sub_one_eq_mod];rfl
 rw [this]
theorem wuN{n:Nat}(h:n<18446744073709551616):vc (n:Int)=(n:Int):=ve (by omega) (by omega)
theorem PV{x y:Nat}(hx:x<18446744073709551616)(hy:y<18446744073709551616):∃hi:Nat,kx (x:Int) (y:Int)=some ((hi:Int),vc ((x:Int)*(y:Int)))/\hi=x*y / 18446744073709551616:=by
 obtain ⟨x0,hx0⟩:∃q,q=x%4294967296:=⟨_,rfl⟩
 obtain ⟨x1,hx1⟩:∃q,q=x / 4294967296:=⟨_,rfl⟩
 obtain ⟨y0,hy0⟩:∃q,q=y%4294967296:=⟨_,rfl⟩
 obtain ⟨y1,hy1⟩:∃q,q=y / 4294967296:=⟨_,rfl⟩
 have ex:x=x1*4294967296+x0:=by omega
 have ey:y=y1*4294967296+y0:=by omega
 have b00:x0*y0<=4294967295*4294967295:=z5 (by omega) (by omega);have b01:x0*y1<=4294967295*4294967295:=z5 (by omega) (by omega);have b10:x1*y0<=4294967295*4294967295:=z5 (by omega) (by omega);have b11:x1*y1<=4294967295*4294967295:=z5 (by omega) (by omega)
 have exy:x*y=x1*y1*18446744073709551616+(x1*y0+x0*y1)*4294967296+x0*y0:=by
  grind
 unfold kx;simp only [Qo,NW x hx,NW y hy,<- hx0,<- hx1,<- hy0,<- hy1,<- Int.natCast_mul];generalize hp00:x0*y0=p00 at*
 generalize hp01:x0*y1=p01 at*
 generalize hp10:x1*y0=p10 at*
 generalize hp11:x1*y1=p11 at*
 rw [wuN (n:=p00) (by omega),wuN (n:=p01) (by omega),wuN (n:=p10) (by omega),wuN (n:=p11) (by omega)];simp only [Qo,<- Int.natCast_add];rw [wuN (n:=p10+p00 / 4294967296) (by omega)];simp only [Qo,<- Int.natCast_add];rw [NW _ (by omega),wuN (n:=p11+(p10+p00 / 4294967296) / 4294967296) (by omega)];simp only [<- Int.natCast_add];rw [wuN (n:=(p10+p00 / 4294967296)%4294967296+p01) (by omega)];simp only [Qo,<- Int.natCast_add];rw [wuN (by omega)];refine ⟨_,rfl,?_⟩;rw [exy];omega
theorem ig:cw=some ⟨0,18446744073709551615⟩:=rfl
theorem kG(s:zg):vN s=some (decide (s.Lo<=s.Hi)):=rfl
theorem PW{a b:zg}(ha:SW a)(hb:SW b):OK (kZ a b) SW:=by
 obtain ⟨a0,a1,a2⟩:=ha;obtain ⟨b0,b1,b2⟩:=hb;unfold kZ FY;rw [d7 ⟨by omega,by omega,by omega,by omega⟩];simp only [zbs,ig];refine d5 (λh=>b9 SW.full) (λh=>b9 ?_);have h1:=yu h;refine ⟨(xe _).1,?_,?_⟩
 ·grind [vc,ve]
 grind
theorem Gx{a b:zg}(ha:SW a)(hb:SW b):OK (cx a b) SW:=by
 obtain ⟨al,ah⟩:=a;obtain ⟨bl,bh⟩:=b;obtain ⟨a0,a1,a2⟩:=ha;obtain ⟨b0,b1,b2⟩:=hb;simp only at a0 a1 a2 b0 b1 b2;obtain ⟨al,rfl⟩:=zof a0;obtain ⟨bl,rfl⟩:=zof b0;obtain ⟨ah,rfl⟩:=zof (show 0<=ah by omega);obtain ⟨bh,rfl⟩:=zof (show 0<=bh by omega);unfold cx;obtain ⟨hi,h1,h2⟩:=PV (x:=ah) (y:=bh) (by omega) (by omega);simp only [h1,zbs,ig];refine d5 (λh=>b9 SW.full) (λh=>b9 ?_);have h3:=yu h
 have h4:ah*bh<18446744073709551616:=by
  grind
 have h5:al*bl<=ah*bh:=z5 (by omega) (by omega);simp only [<- Int.natCast_mul];rw [wuN h4,wuN (by omega)];exact ⟨Int.natCast_nonneg _,yv.2 h5,by grind⟩
theorem Al(a b:Nat):(a:Int).tdiv (b:Int)=((a / b:Nat):Int):=rfl
theorem Gy{a b:zg}(ha:SW a)(hb:SW b):OK (cy a b) SW:=by
 obtain ⟨al,ah⟩:=a;obtain ⟨bl,bh⟩:=b;obtain ⟨a0,a1,a2⟩:=ha;obtain ⟨b0,b1,b2⟩:=hb;simp only at a0 a1 a2 b0 b1 b2;unfold cy;refine d5 (λh=>b9 ⟨by simp,by simp;omega,by simpa using a2⟩) (λh=> ?_);have hb:bl≠0:=by simpa using h
 rw [mC (show bh≠0 by omega)];simp only [zbs];rw [mC hb];obtain ⟨al,rfl⟩:=zof a0;obtain ⟨bl,rfl⟩:=zof b0;obtain ⟨ah,rfl⟩:=zof (show 0<=ah by omega);obtain ⟨bh,rfl⟩:=zof (show 0<=bh by omega);simp only [zbs,Al];have h1:al / bh<=ah / bl:=p8 (Nat.div_le_div_right (by omega)) (Nat.div_le_div_left (by omega) (by omega));have h2:=Nat.div_le_self ah bl;rw [wuN (by omega),wuN (by omega)];exact b9 ⟨Int.natCast_nonneg _,yv.2 h1,by grind⟩
theorem NX{a b:zg}(ha:SW a)(hb:SW b):OK (gY a b) SW:=by
 obtain ⟨a0,a1,a2⟩:=id ha;obtain ⟨b0,b1,b2⟩:=hb;unfold gY;refine d5 (λh=>b9 ⟨by simp,by simp;omega,by simpa using a2⟩) (λh=> ?_);refine d5 (λh=>b9 ha) (λh2=>b9 ?_);have hb:b.Lo≠0:=by simpa using h
 rw [ve (by omega) (by omega)];refine ⟨by simp,?_,?_⟩<;>(unfold na;simp only;split<;>omega)
theorem I0{n:Int}(h0:0<=n)(h1:n<18446744073709551616):OK (fJ n) (λr=>n<=r/\r<18446744073709551616):=by
 obtain ⟨n,rfl⟩:=zof h0;obtain ⟨k,k1,k2,k3,_⟩:=su (n:=n) (by omega);unfold fJ;simp only [k2,zbs];rw [fy (by omega)];refine b9 ?_
 have e:wm .u64 1 (k:Int)=((2^k%18446744073709551616:Nat):Int):=by
  grind [oZ]
 rw [e];by_cases hk:k=64
 ·grind [vc,sk,xe]
 ·have h2:(2:Nat)^k<=2^63:=Nat.pow_le_pow_right (by omega) (by omega)
  grind [ve]
theorem NY{a b:zg}(ha:SW a)(hb:SW b):OK (gZ a b) SW:=by
 obtain ⟨al,ah⟩:=a;obtain ⟨bl,bh⟩:=b;obtain ⟨a0,a1,a2⟩:=ha;obtain ⟨b0,b1,b2⟩:=hb;simp only at a0 a1 a2 b0 b1 b2;obtain ⟨al,rfl⟩:=zof a0;obtain ⟨bl,rfl⟩:=zof b0;obtain ⟨ah,rfl⟩:=zof (show 0<=ah by omega);obtain ⟨k,k1,k2,k3,k4,k5⟩:=su (n:=ah) (by omega);unfold gZ xU;simp only [k2,zbs,ig];refine d6 (R:=λo=>o=false->(k=0\/k+bl<=64)) ?_ (λo ho=> ?_)
 ·refine d5 (λ_=>b9 (by simp)) (λ_=>d5 (λh1=> ?_) (λh1=>b9 (λ_=>.inl ?_)))
  ·refine d5 (λ_=>b9 (by simp)) (λh2=>b9 (λh3=>.inr ?_))
   grind [ve]
  grind
 ·refine d5 (λ_=>b9 SW.full) (λh=> ?_);rw [fy (by omega)];simp only [zbs];refine b9 ?_
  have e:∀n:Nat,wm .u64 (n:Int) (bl:Int)=((n*2^(min bl 64)%18446744073709551616:Nat):Int):=by
   grind [oZ]
  rw [e,e];rcases ho h with hk|hk
  ·have h6:ah=0:=by subst hk;simp at k3;omega
   have h7:al=0:=by omega
   subst h6;subst h7;exact ⟨by simp,by simp,by simp⟩
  ·rw [show min bl 64=bl by omega]
   have h6:ah*2^bl<18446744073709551616:=by
    have h7:ah*2^bl<2^k*2^bl:=Nat.mul_lt_mul_of_pos_right k3 (Nat.pow_pos (by omega));rw [<- Nat.pow_add] at h7;have h8:(2:Nat)^(k+bl)<=2^64:=Nat.pow_le_pow_right (by omega) hk;omega
   have h9:al*2^bl<=ah*2^bl:=o9 _ (by omega);rw [z6 h6,z6 (by omega)];exact ⟨Int.natCast_nonneg _,yv.2 h9,Int.ofNat_lt.2 h6⟩
theorem Am{op a b:Int}(a0:0<=a)(a1:a<18446744073709551616)(b0:0<=b)(b1:b<18446744073709551616):OK (gt op a b) (λr=>0<=r.1/\r.1<18446744073709551616/\r.2=(decide (1<=op)&&decide (op<=10))):=by
 unfold gt
 have q:∀k:Int,1<=k->k<=10->(op==k)=true->true=(decide (1<=op)&&decide (op<=10)):=by
  grind
 refine d5 (λh=>b9 ⟨(xe _).1,(xe _).2,q 1 (by omega) (by omega) h⟩) (λn1=> ?_);refine d5 (λh=>b9 ⟨(xe _).1,(xe _).2,q 2 (by omega) (by omega) h⟩) (λn2=> ?_);refine d5 (λh=>b9 ⟨(xe _).1,(xe _).2,q 3 (by omega) (by omega) h⟩) (λn3=> ?_);refine d5 (λh=> ?_) (λn4=> ?_)
 ·refine d5 (λ_=>b9 ⟨by simp,by simp,q 4 (by omega) (by omega) h⟩) (λhz=> ?_)
  grind [mC,b9,xe]
 refine d5 (λh=> ?_) (λn5=> ?_)
 ·refine d5 (λ_=>b9 ⟨a0,a1,q 5 (by omega) (by omega) h⟩) (λhz=> ?_);rw [mC (by simpa using hz)];obtain ⟨a,rfl⟩:=zof a0;obtain ⟨b,rfl⟩:=zof b0;have e:(a:Int).tmod (b:Int)=((a%b:Nat):Int):=rfl;have:=Nat.mod_le a b
  grind [b9]
 refine d5 (λh=>b9 ⟨(Eb _ _).1,(Eb _ _).2,q 6 (by omega) (by omega) h⟩) (λn6=> ?_);refine d5 (λh=>b9 ⟨(BT _ _).1,(BT _ _).2,q 7 (by omega) (by omega) h⟩) (λn7=> ?_);refine d5 (λh=>b9 ⟨(IY _ _).1,(IY _ _).2,q 8 (by omega) (by omega) h⟩) (λn8=> ?_);refine d5 (λh=> ?_) (λn9=> ?_)
 ·grind [fy,b9,IZ]
 refine d5 (λh=> ?_) (λn10=>b9 ⟨by simp,by simp,?_⟩)
 ·rw [fy b0];have:=Ec (y:=b) a0 a1;exact b9 ⟨this.1,by grind,q 10 (by omega) (by omega) h⟩
 grind
theorem PX{op:Int}{a b:zg}(ha:SW a)(hb:SW b):OK (nO op a b) (λr=>SW r.1):=by
 obtain ⟨a0,a1,a2⟩:=id ha;obtain ⟨b0,b1,b2⟩:=id hb;unfold nO;refine d6 (Am (op:=op) (a:=a.Lo) (b:=b.Lo) a0 (by omega) b0 (by omega)) (λr hr=> ?_);simp only [kG,zbs];refine d6 (R:=λo=>o=false->1<=op/\op<=10) ?_ (λo ho=> ?_)
 ·refine d5 (λ_=>b9 (by simp)) (λh=> ?_)
  have h2:1<=op/\op<=10:=by
   grind
  exact d5 (λ_=>b9 (by simp)) (λ_=>b9 (λ_=>h2))
 refine d5 (λ_=>b9 SW.zero) (λh=> ?_);obtain ⟨o1,o2⟩:=ho h;refine d6 (R:=λ_=>True) ?_ (λ_ _=> ?_)
 ·unfold xU;exact d5 (λ_=>b9 trivial) (λ_=>b9 trivial)
 refine d5 (λ_=>b9 (SW.one hr.1 hr.2.1)) (λ_=> ?_);have fwd:∀{o:Option zg},OK o SW->OK (o.bind λr=>some (r,true)) (λr=>SW r.1):=λh=>d6 h (λx hx=>b9 hx)
 refine d5 (λ_=>fwd (PW ha hb)) (λ_=> ?_);refine d5 (λ_=>d5 (λ_=>fwd (b9 SW.full)) (λh=>b9 ?_)) (λ_=> ?_)
 ·have h:=yu h;rw [ve (by omega) (by omega),ve (by omega) (by omega)];exact ⟨by simp;omega,by simp;omega,by simp;omega⟩
 refine d5 (λ_=>fwd (Gx ha hb)) (λ_=> ?_);refine d5 (λ_=>fwd (Gy ha hb)) (λ_=> ?_);refine d5 (λ_=>fwd (NX ha hb)) (λ_=> ?_);refine d5 (λ_=>b9 ⟨by simp,?_,?_⟩) (λ_=> ?_)
 ·grind [na]
 ·grind [na]
 have hor:=Ea (x:=a.Hi) (y:=b.Hi) (by omega) a2 (by omega) b2;have hor2:=BT a.Hi b.Hi;refine d5 (λ_=>d6 (I0 hor2.1 hor2.2) (λx hx=>b9 ⟨?_,?_,?_⟩)) (λ_=> ?_)
 ·grind [pS]
 ·grind [pS]
 ·exact hx.2
 refine d5 (λ_=>d6 (I0 hor2.1 hor2.2) (λx hx=>b9 ⟨by simp,?_,?_⟩)) (λ_=> ?_)
 ·show 0<=x;omega
 ·exact hx.2
 refine d5 (λ_=>fwd (NY ha hb)) (λ_=> ?_);rw [fy (show 0<=b.Hi by omega)];simp only [zbs];rw [fy b0];refine b9 ⟨(Ec a0 (by omega)).1,Ak a0 a1 b1,?_⟩;have:=(Ec (y:=b.Lo) (show 0<=a.Hi by omega) a2).2
 grind
open Go.Sx
variable {n:Nat} {a:zg} {i:zf} {α:Type} {m:zD} {j:zj} {xs:List α}
def oU:zi:=⟨0,⟨0,0⟩,0⟩
def WT(n:Nat)(x:zi):Prop:=x=oU\/(x.RS=1/\SW x.Sr/\x.SE=0)\/(x.RS=2/\x.Sr=⟨0,0⟩/\0<=x.SE/\x.SE<n)
theorem WT.span{x:zi}(h:WT n x):SW x.Sr:=by
 rcases h with rfl|h|h
 ·exact SW.zero
 ·exact h.2.1
 grind [SW.zero]
theorem WT.num{s:zg}(h:SW s):WT n ⟨1,s,0⟩:=.inr (.inl ⟨rfl,h,rfl⟩)
theorem WT.zero:WT n oU:=.inl rfl
theorem kD(s:zg):vg s=some ⟨1,s,0⟩:=rfl
theorem mo{s:zg}(h:SW s):vN s=some true:=by rw [kG,decide_eq_true h.2.1]
theorem SW.join{b:zg}(ha:SW a)(hb:SW b):SW ⟨na (na 18446744073709551615 a.Lo) b.Lo,pS (pS 0 a.Hi) b.Hi⟩:=by
 obtain ⟨a0,a1,a2⟩:=ha;obtain ⟨b0,b1,b2⟩:=hb;unfold na pS;refine ⟨?_,?_,?_⟩<;>simp only<;>(repeat' split)<;>omega
theorem NA{b:zg}(ha:SW a)(hb:SW b):ma [a,b]=some (⟨na (na 18446744073709551615 a.Lo) b.Lo,pS (pS 0 a.Hi) b.Hi⟩,true):=by
 unfold ma;simp [jL,rr,idx,mo ha,mo hb]
def DW(a b:zi):zi:=
 if (a.RS !=b.RS)||(a.SE !=b.SE) then oU
 else if a.RS==1 then ⟨1,⟨na (na 18446744073709551615 a.Sr.Lo) b.Sr.Lo,pS (pS 0 a.Sr.Hi) b.Sr.Hi⟩,0⟩
 else a
theorem BC{a b:zi}(ha:SW a.Sr)(hb:SW b.Sr):fK a b=some (DW a b):=by
 unfold fK DW;rw [NA ha hb];split
 ·rfl
 ·split<;>rfl
theorem WT.join{n:Nat}{a b:zi}(ha:WT n a)(hb:WT n b):WT n (DW a b):=by
 unfold DW;split
 ·exact WT.zero
 ·split
  ·exact WT.num (SW.join ha.span hb.span)
  ·exact ha
theorem Ip{b:zg}(ha:SW a)(hb:SW b):eG [a,b]=some (if pS (pS 0 a.Lo) b.Lo<=na (na 18446744073709551615 a.Hi) b.Hi then (⟨pS (pS 0 a.Lo) b.Lo,na (na 18446744073709551615 a.Hi) b.Hi⟩,true) else (⟨0,0⟩,false)):=by
 unfold eG;simp only [ig,zbs];by_cases h:pS (pS 0 a.Lo) b.Lo<=na (na 18446744073709551615 a.Hi) b.Hi
 ·simp [jL,mc,idx,Int.not_lt.2 ha.2.1,Int.not_lt.2 hb.2.1,kG,h]
 ·simp [jL,mc,idx,Int.not_lt.2 ha.2.1,Int.not_lt.2 hb.2.1,kG,h]
theorem DX{b:zg}(ha:SW a)(hb:SW b):OK (eG [a,b]) (λr=>SW r.1):=by
 refine ⟨_,Ip ha hb,?_⟩;obtain ⟨a0,a1,a2⟩:=ha;obtain ⟨b0,b1,b2⟩:=hb;split
 ·rename_i h
  refine ⟨?_,h,?_⟩
  ·grind [pS]
  grind [na]
 ·exact SW.zero
theorem Fc(op a b:Int):OK (bp op a b) (λr=>r.2=inB op 16 19):=by
 unfold bp
 have q:∀k:Int,16<=k->k<=19->(op==k)=true->true=inB op 16 19:=by
  grind [inB]
 refine d5 (λh=>b9 (q 16 (by omega) (by omega) h)) (λn1=> ?_);refine d5 (λh=>b9 (q 17 (by omega) (by omega) h)) (λn2=> ?_);refine d5 (λh=>b9 (q 18 (by omega) (by omega) h)) (λn3=> ?_);refine d5 (λh=>b9 (q 19 (by omega) (by omega) h)) (λn4=>b9 ?_)
 grind [inB]
theorem BD{op:Int}{b:zg}{h:Bool}(ha:SW a)(hb:SW b):OK (dT op a b h) (λr=>SW r.1):=by
 obtain ⟨a0,a1,a2⟩:=id ha;obtain ⟨b0,b1,b2⟩:=id hb;unfold dT;refine d6 (Fc op 0 0) (λr hr=> ?_);simp only [mo ha,mo hb,zbs];refine d6 (R:=λ_=>True) (d5 (λ_=>b9 trivial) (λ_=>d5 (λ_=>b9 trivial) (λ_=>b9 trivial))) (λo _=> ?_);refine d5 (λ_=>b9 SW.zero) (λ_=> ?_);unfold xU;simp only [zbs];refine d5 (λ_=>b9 ha) (λhs=> ?_);have hs:b.Lo=b.Hi:=by simpa using hs
 refine d6 (R:=λ_=>True) (d5 (λ_=>b9 trivial) (λ_=>d5 (λ_=>b9 trivial) (λ_=>b9 trivial))) (λo _=> ?_);refine d5 (λ_=>d5 (λ_=>b9 SW.zero) (λhz=> ?_)) (λ_=> ?_)
 ·have hz:b.Lo≠0:=by simpa using hz
  refine d6 (DX ha ?_) (λx hx=>b9 hx);rw [ve (by omega) (by omega)];exact ⟨by simp,by simp;omega,by simp;omega⟩
 refine d6 (R:=λ_=>True) (d5 (λ_=>b9 trivial) (λ_=>b9 trivial)) (λo _=> ?_);refine d5 (λ_=>d6 (DX ha ⟨b0,by simp;omega,by simp⟩) (λx hx=>b9 hx)) (λ_=> ?_);refine d6 (R:=λ_=>True) (d5 (λ_=>b9 trivial) (λ_=>d5 (λ_=>b9 trivial) (λ_=>b9 trivial))) (λo _=> ?_);refine d5 (λ_=>d6 (DX ha hb) (λx hx=>b9 hx)) (λ_=> ?_);refine d5 (λ_=>b9 SW.zero) (λhne=> ?_)
 have hne:¬ (a.Lo=b.Lo/\a.Hi=b.Hi):=by
  grind
 refine d5 (λh1=>b9 ?_) (λh1=> ?_)
 ·have h1:a.Lo=b.Lo:=by simpa using h1
  rw [ve (by omega) (by omega)];exact ⟨by simp;omega,by simp;omega,by simpa using a2⟩
 refine d5 (λh2=>b9 ?_) (λ_=>b9 ha);have h1:a.Lo≠b.Lo:=by simpa using h1
 have h2:a.Hi=b.Lo:=by simpa using h2
 rw [ve (by omega) (by omega)];exact ⟨by simpa using a0,by simp;omega,by simp;omega⟩
theorem iR(l:List zi):OK (vM l) (λ_=>True):=by
 unfold vM;refine d6 (g8 (Q:=λ_=>True) (λ_ _=>True) trivial (λi s again hi _ k=> ?_) (λ_ _=>trivial)) (λo _=> ?_)
 ·unfold kX;exact f9 (i7 hi (λx _=>d5 (λ_=>b9 trivial) (λ_=>k _ trivial)))
 grind [b9]
theorem sj(l:List Int):OK (fd l) (λr=>r=0->∀x∈l,x=0):=by
 unfold fd;refine d6 (g8 (Q:=λo=>match o with|.inl _=>∀x∈l,x=0|.inr r=>r≠0) (λi _=>∀q x,q<i->l[q]? =some x->x=0) (λq x h=>by omega) (λi s again hi hI k=> ?_) (λ_ hI=> ?_)) (λo ho=> ?_)
 ·unfold nu;refine f9 (i7 hi (λx hx=>d5 (λh=>b9 (by simpa using h)) (λh=>k _ (λq y hq hy=> ?_))))
  grind
 ·intro x hx;obtain ⟨q,hq⟩:=List.mem_iff_getElem?.1 hx
  grind
 grind [b9]
theorem oV(a b:zg):OK (dR a b) (λr=>r=true↔a.Lo<=a.Hi/\b.Lo<=a.Lo/\a.Hi<=b.Hi):=by
 unfold dR;rw [kG];simp only [zbs];refine d6 (R:=λr=>r=true↔a.Lo<=a.Hi/\b.Lo<=a.Lo/\a.Hi<=b.Hi) ?_ (λx hx=>b9 hx);refine d5 (λh1=>d5 (λh2=>b9 ?_) (λh2=>b9 ?_)) (λh1=>b9 ?_)
 ·simp at h1 h2 |-;omega
 ·simp at h1 h2 |-;omega
 ·simp at h1 |-;omega
def DY(a b:zi):Prop:=(b.RS=1->a.RS=1/\a.Sr.Lo<=a.Sr.Hi/\b.Sr.Lo<=a.Sr.Lo/\a.Sr.Hi<=b.Sr.Hi)/\(b.RS=2->a=b)
theorem NB{a b:zi}(h:((a.RS==b.RS)&&(((a.Sr.Lo==b.Sr.Lo)&&((a.Sr.Hi==b.Sr.Hi)&&true))&&((a.SE==b.SE)&&true)))=true):a=b:=by
 obtain ⟨k,⟨l,h1⟩,m⟩:=a;obtain ⟨k',⟨l',h1'⟩,m'⟩:=b
 grind
theorem DR(a b:zi):OK (ku a b) (λr=>r=true->DY a b):=by
 unfold ku;refine d5 (λh1=> ?_) (λh1=>d5 (λh2=>b9 ?_) (λh2=>b9 ?_))
 ·have h1:b.RS=1:=by simpa using h1
  refine d6 (R:=λr=>r=true->DY a b) ?_ (λx hx=>b9 hx);refine d5 (λh2=>d6 (oV _ _) (λx hx=>b9 (λe=>⟨λ_=>⟨by simpa using h2,hx.1 e⟩,λe2=>by omega⟩))) (λ_=>b9 (λe=>by cases e))
 ·intro h;have h1:b.RS≠1:=by simpa using h1
  exact ⟨λe=>absurd e h1,λ_=>NB h⟩
 ·intro _;have h1:b.RS≠1:=by simpa using h1
  have h2:b.RS≠2:=by simpa using h2
  exact ⟨λe=>absurd e h1,λe=>absurd e h2⟩
theorem wY(t:zi):OK (gD t) (λ_=>True):=by
 unfold gD;exact d6 (oV _ _) (λx _=>d5 (λ_=>b9 trivial) (λ_=>b9 trivial))
theorem nV(h:xd i=true)(ho:¬ (15<=i.Op/\i.Op<=20)):0<=i.D/\i.D<8:=by
 unfold xd at h;simp only [inB,tw] at h;simp only [zae,r6,zdq,s9] at h
 iterate 11 (all_goals (try split at h))
 all_goals simp only [zae,r6,zdq,s9,zfe] at h
 all_goals omega
theorem nW(h:xd i=true):0<=i.A/\i.A<8:=by
 unfold xd at h;simp only [inB,tw] at h;simp only [zae,r6,zdq,s9] at h
 iterate 11 (all_goals (try split at h))
 all_goals simp only [zae,r6,zdq,s9,zfe] at h
 all_goals omega
theorem mV(h:xd i=true):0<=i.Op/\i.Op<=22:=by
 unfold xd at h;simp only [inB,tw] at h;simp only [zae,r6,zdq,s9] at h
 iterate 11 (all_goals (try split at h))
 all_goals simp only [zae,r6,zdq,s9,zfe] at h
 all_goals omega
theorem bE(h:xd i=true)(ho:i.Op<=12\/(16<=i.Op/\i.Op<=19)):i.B=8\/(0<=i.B/\i.B<8):=by
 unfold xd at h;simp only [inB,tw,OH] at h;simp only [zae,r6,zdq,s9] at h
 iterate 11 (all_goals (try split at h))
 all_goals simp only [zae,r6,zdq,s9,zfe] at h
 all_goals omega
theorem mr(h:xd i=true)(ho:i.Op=21):0<=i.SN/\i.SN<=6:=by
 unfold xd at h;simp only [inB,tw] at h;simp [ho] at h;omega
theorem nX(h:xd i=true)(ho:i.Op=14):0<=i.SN/\i.SN<=3:=by
 grind [xd,inB,tw]
theorem Gj{t:Int}(h0:0<=t)(h1:t<8):ain 8 t=some t.toNat:=by grind [ain]
theorem PN{i:Nat}(h:i<n):ain n (i:Int)=some i:=by grind [ain]
theorem Fe(op:Int)(h0:0<=op)(h1:op<23):∃f,eV op=some (f,true)/\jv f 100=some (decide (op<=11)||decide (op=13)||decide (op=14))/\jv f 115=some (decide (op<=12)||(decide (16<=op)&&decide (op<=19))):=by
 have h:∀k:Fin 23,∃f,eV ((k:Nat):Int)=some (f,true)/\jv f 100=some (decide (((k:Nat):Int)<=11)||decide (((k:Nat):Int)=13)||decide (((k:Nat):Int)=14))/\jv f 115=some (decide (((k:Nat):Int)<=12)||(decide (16<=((k:Nat):Int))&&decide (((k:Nat):Int)<=19))):=by
  intro k
  have hk:∃f,eV ((k:Nat):Int)=some (f,true):=by
   obtain ⟨f,hf,_⟩:=Ix ((k:Nat):Int) (by omega) (by omega);exact ⟨f,hf⟩
  obtain ⟨f,hf⟩:=hk;have key:∀k:Fin 23,((eV ((k:Nat):Int)).bind λr=>jv r.1 100)=some (decide (((k:Nat):Int)<=11)||decide (((k:Nat):Int)=13)||decide (((k:Nat):Int)=14))/\((eV ((k:Nat):Int)).bind λr=>jv r.1 115)=some (decide (((k:Nat):Int)<=12)||(decide (16<=((k:Nat):Int))&&decide (((k:Nat):Int)<=19))):=by decide+kernel
  grind
 obtain ⟨n,rfl⟩:=zof h0;exact h ⟨n,by omega⟩
theorem BE(h:xd i=true):OK (cR i) (λr=>r.2=true->0<=r.1/\r.1<8):=by
 have ho:=mV h;obtain ⟨f,h1,h2,_⟩:=Fe i.Op ho.1 (by omega);unfold cR;simp only [fw,h,h1,h2,zbs];refine d5 (λe=>by cases e) (λ_=>d5 (λe=>b9 (λ_=>nV h (by simp at e;omega))) (λ_=>b9 (λ_=>by simp)))
theorem rz(h:xd i=false):OK (cR i) (λr=>r.2=true->0<=r.1/\r.1<8):=by
 grind [cR,fw,b9]
theorem BF(h:xd i=true):kt i=some (decide (i.Op<=12)||(decide (16<=i.Op)&&decide (i.Op<=19))):=by
 have ho:=mV h
 grind [Fe,kt,fw]
def Mm(i:zf)(k:Nat->zi):zi:=if i.B==8 then ⟨1,⟨vc i.SN,vc i.SN⟩,0⟩ else k i.B.toNat
theorem Fg{k:Nat->zi}(h:i.B=8\/(0<=i.B/\i.B<8)):eh i k=some (Mm i k):=by
 unfold eh Mm;rcases zft (i.B==8) with e|e
 ·rw [d7 e,d7 e];rfl
 grind [Gj]
theorem wZ{k:Nat->zi}(h:i.B=8\/(0<=i.B/\i.B<8))(hk:∀r,r<8->WT n (k r)):WT n (Mm i k):=by
 grind [Mm,WT.num,SW.one,xe]
structure JI (m:zD) (j:zj):Prop where
 TW:j.Sn=m
 TN:j.came.length=m.Code.length
 TM:j.any.length=m.Code.length
 lps:j.loops=lps m.Code m.Code.length
 wt:∀(q:Nat)(x:Nat->zi),j.came[q]? =some x->∀r,r<8->WT m.Maps.length (x r)
theorem aT{p:Nat}(h:p<xs.length):∃x,xs[p]? =some x/\idx xs (p:Int)=some x:=⟨xs[p],zeg h,Jz h⟩
theorem Mn{p q:Nat}{v:α}(h:q≠p):(xs.set p v)[q]? =xs[q]? :=y5 (λe=>h e.symm)
theorem JI.put(h:JI m j){p:Nat}{x:Nat->zi}(hx:∀r,r<8->WT m.Maps.length (x r))(A:List Bool)(hA:A.length=m.Code.length):JI m {j with came:=j.came.set p x,any:=A}:=
 ⟨h.TW,by simpa using h.TN,hA,h.lps,λq y hy r hr=>by
  simp only at hy;by_cases hq:q=p
  ·grind
  ·rw [Mn hq] at hy;exact h.wt q y hy r hr⟩
theorem mu{x:Nat->zi}(hx:∀r,r<8->WT n (x r)){t:Nat}{v:zi}(hv:WT n v):∀r,r<8->WT n (aset x t v r):=by
 grind [aset]
theorem Iq(h:JI m j){p:Nat}(hp:p<m.Code.length){k:Nat->zi}(hk:∀r,r<8->WT m.Maps.length (k r)):
  OK (jc j (p:Int) k) (λj'=>JI m j'/\j'.any=j.any.set p true/\∀q,q≠p->j'.came[q]? =j.came[q]?):=by
 unfold jc;obtain ⟨a,ha,ha2⟩:=aT (xs:=j.any) (p:=p) (by rw [h.TM];exact hp)
 obtain ⟨c,hc,hc2⟩:=aT (xs:=j.came) (p:=p) (by rw [h.TN];exact hp)
 simp only [ha2,hc2,zbs,k8];refine d5 (λ_=>b9 ⟨h.put hk _ (by simpa using h.TM),rfl,λq hq=>Mn hq⟩) (λhn=> ?_);have hat:a=true:=by simpa using hn
 have hset:j.any.set p true=j.any:=by
  apply m8
  grind
 refine d6 (g8 (λ_ s=>JI m s/\s.any=j.any.set p true/\∀q,q≠p->s.came[q]? =j.came[q]?) ⟨h,hset.symm,λ_ _=>rfl⟩ (λi s again hi hI kk=> ?_) (λs hI=>hI)) (λo ho=>b9 ho);unfold dS;obtain ⟨c',hc',hc2'⟩:=aT (xs:=s.came) (p:=p) (by rw [hI.1.TN];exact hp)
 have w1:=hI.1.wt p c' hc' i hi;simp only [hc2',PN hi,zbs,BC w1.span (hk i hi).span,k8];exact kk _ ⟨hI.1.put (mu (hI.1.wt p c' hc') (w1.join (hk i hi))) _ hI.1.TM,hI.2.1,λq hq=>by grind⟩
theorem Fh{lo hi:Nat}(h1:lo<=hi)(h2:hi<=xs.length):cut xs (lo:Int) (hi:Int)=some ((xs.take hi).drop lo):=by
 unfold cut;rw [d7 ⟨by omega,by omega,by omega⟩];simp
theorem Fi(h:JI m j)(hg:uj m.Code){p:Nat}(hp:p<m.Code.length):
  OK (xw j (p:Int)) (λj'=>JI m j'/\j'.any=j.any/\∀q,q≠p->j'.came[q]? =j.came[q]?):=by
 unfold xw;refine d6 (g8 (Q:=λj'=>JI m j'/\j'.any=j.any/\∀q,q≠p->j'.came[q]? =j.came[q]?) (λ_ s=>JI m {j with came:=s}/\∀q,q≠p->s[q]? =j.came[q]?) ⟨⟨h.TW,h.TN,h.TM,h.lps,h.wt⟩,λ_ _=>rfl⟩ (λi s again hi hI k=> ?_) (λs hI=>⟨hI.1,rfl,hI.2⟩)) (λo ho=>b9 ho);unfold dl;refine f9 (i7 hi (λl hl=>d5 (λ_=>k _ hI) (λhh=> ?_)));rw [h.lps] at hl;obtain ⟨a,ia,ha,hia,hop,rfl⟩:=nR.1 (zmg hl);have hlp:=hg.Tb.loop hia hop;have hn:=hg.Un;have e1:(jH ia a).Ti=(((a:Int)-ia.D).toNat:Int):=by show (a:Int)-ia.D=_;omega
 have e2:w64 ((jH ia a).At+1)=((a+1:Nat):Int):=by show w64 ((a:Int)+1)=_;rw [qp (by omega) (by omega)];simp
 rw [e1,e2,h.TW,Fh (by omega) (by omega)];simp only [zbs];refine d6 (g8 (λ_ s=>JI m {j with came:=s}/\∀q,q≠p->s[q]? =j.came[q]?) hI (λi s again hi hI k=> ?_) (λs hI=>hI)) (λo ho=>k _ ho);unfold dj;refine f9 (i7 hi (λx hx=> ?_))
 have hr:OK (cR x) (λr=>r.2=true->0<=r.1/\r.1<8):=by
  grind [xd,BE,rz]
 refine d6 hr (λr hr=>d5 (λ_=>k _ hI) (λhw=> ?_));have hr:=hr (by simpa using hw);obtain ⟨c',hc',hc2'⟩:=aT (xs:=s) (p:=p) (by rw [show s.length=m.Code.length from hI.1.TN];exact hp)
 simp only [hc2',Gj hr.1 hr.2,zbs,ig,kD,k8];refine d5 (λ_=>k _ ⟨hI.1.put (mu (hI.1.wt p c' hc') (WT.num SW.full)) _ hI.1.TM,λq hq=>by grind⟩) (λ_=>k _ ⟨hI.1.put (mu (hI.1.wt p c' hc') WT.zero) _ hI.1.TM,λq hq=>by grind⟩)
end
open Go.Sx
def Way(code:List zf)(p q:Nat):Prop:=∃i,code[p]? =some i/\((ju i).2.2=true/\q=p+1\/(ju i).2.1=true/\0<(ju i).1/\(q:Int)=p+(ju i).1)
structure Gk (code:List zf) (p:Nat) (j j':zj):Prop where
 same:∀q:Nat,q<=p->j'.came[q]? =j.came[q]? /\j'.any[q]? =j.any[q]?
 keep:∀q:Nat,j.any[q]? =some true->j'.any[q]? =some true
 new:∀q:Nat,j'.any[q]? =some true->j.any[q]? =some true\/Way code p q
theorem Gk.refl(code:List zf)(p:Nat)(j:zj):Gk code p j j:=⟨λ_ _=>⟨rfl,rfl⟩,λ_ h=>h,λ_ h=>.inl h⟩
theorem Gk.trans{code:List zf}{p:Nat}{a b c:zj}(h:Gk code p a b)(k:Gk code p b c):Gk code p a c:=
 ⟨λq hq=>⟨(k.same q hq).1.trans (h.same q hq).1,(k.same q hq).2.trans (h.same q hq).2⟩,λq hq=>k.keep q (h.keep q hq),λq hq=>(k.new q hq).elim (λe=>h.new q e) .inr⟩
theorem NC{code:List zf}{p q:Nat}{j j':zj}(hA:j.any.length=code.length)(hq:p<q)(hw:Way code p q)(h1:j'.any=j.any.set q true)(h2:∀t,t≠q->j'.came[t]? =j.came[t]?):Gk code p j j':=by
 refine ⟨λt ht=>⟨h2 t (by omega),by grind⟩,λt ht=> ?_,λt ht=> ?_⟩
 ·grind
 grind
theorem Ir{i:zf}(h:(ju i).2.1=true):(0<(ju i).1/\15<=i.Op/\i.Op<=19/\(ju i).2.2=(i.Op !=15))\/((ju i).1<0/\i.Op=20/\(ju i).2.2=true):=by
 unfold ju at h |-;by_cases hj:eH i=true
 ·have:=rA hj
  grind
 ·rw [d8 hj] at h |-;by_cases hl:lI i=true
  ·have:=Fj hl
   grind
  grind
theorem Is{m:zD}{j:zj}(h:JI m j)(hg:uj m.Code){p:Nat}(hp:p<m.Code.length){k:Nat->zi}(hk:∀r,r<8->WT m.Maps.length (k r)):
  OK (xV j (p:Int) k) (λj'=>JI m j'/\Gk m.Code p j j'):=by
 have hn:=hg.Un;obtain ⟨i,hi,hi2⟩:=aT hp;have hr:=hg.Tb.right hi;unfold xV;rw [h.TW,hi2];simp only [mW,zbs];have e1:w64 ((p:Int)+1)=((p+1:Nat):Int):=by grind [qp]
 have step:∀{j:zj} {q:Nat} {k:Nat->zi},JI m j->p<q->q<m.Code.length->Way m.Code p q->(∀r,r<8->WT m.Maps.length (k r))->OK (jc j (q:Int) k) (λj'=>JI m j'/\Gk m.Code p j j'):=
  λhj hq hqn hw hk=>(Iq hj hqn hk).mono (λj' hj'=>⟨hj'.1,NC hj.TM hq hw hj'.2.1 hj'.2.2⟩)
 refine d5 (λhc=>d6 (d5 (λhon=> ?_) (λ_=>b9 ⟨h,Gk.refl _ _ _⟩)) (λo ho=>b9 ho)) (λhc=> ?_)
 ·rw [e1];exact d6 (step h (by omega) (hg.Tb.on hi hon) ⟨i,hi,.inl ⟨hon,rfl⟩⟩ hk) (λx hx=>b9 hx)
 have hl:(ju i).2.1=true/\0<=(ju i).1:=by grind
 have hd:0<(ju i).1:=by
  rcases Ir hl.1 with h1|h1
  ·exact h1.1
  ·omega
 have hlead:=hg.Tb.leads hi hl.1;obtain ⟨q,hq⟩:=zof hlead.1;have eq:w64 ((p:Int)+(ju i).1)=(q:Int):=by grind [qp]
 have hq1:(q:Int)=p+(ju i).1:=hq.symm;have hwq:Way m.Code p q:=⟨i,hi,.inr ⟨hl.1,hd,hq1⟩⟩
 refine d5 (λ_=> ?_) (λhon=> ?_)
 ·grind
 have hon:(ju i).2.2=true:=by simpa using hon
 have hops:16<=i.Op/\i.Op<=19:=by
  grind [Ir]
 have hs:=bE hr (.inr hops);have hA:=nW hr;rw [Fg hs];simp only [zbs];refine d6 (g8 (λ_ s=>JI m s/\Gk m.Code p j s) ⟨h,Gk.refl _ _ _⟩ (λt s again ht hI kk=> ?_) (λs hI=>hI)) (λo ho=>b9 ho);unfold dU;refine f9 (i7 (by simpa using ht) (λx hx=> ?_));refine d6 (R:=λ(o:Int)=>∃q':Nat,o=(q':Int)/\p<q'/\q'<m.Code.length/\Way m.Code p q') ?_ (λo ho=> ?_)
 ·refine d5 (λ_=>b9 ⟨p+1,e1,by omega,hg.Tb.on hi hon,i,hi,.inl ⟨hon,rfl⟩⟩) (λ_=>b9 ⟨q,eq,by omega,by omega,hwq⟩)
 obtain ⟨q',rfl,hq1',hq2',hw'⟩:=ho;rw [Gj hA.1 hA.2];simp only [zbs];refine d6 (R:=λr=>SW r.1) (d6 (BD (hk _ (by omega)).span (wZ hs hk).span) (λr hr=>b9 hr)) (λr hr=> ?_);refine d5 (λ_=> ?_) (λ_=>kk _ hI);simp only [kD,zbs];exact d6 (step hI.1 hq1' hq2' hw' (mu hk (WT.num hr))) (λx hx=>kk _ ⟨hx.1,hI.2.trans hx.2⟩)
theorem DZ:∀k:Fin 7,∃l,xY 2199023255552 ((k:Nat):Int)=some l/\l.length<=3:=by
 have h:∀k:Fin 7,∃n:Fin 4,(xY 2199023255552 ((k:Nat):Int)).map (·.length)=some (n:Nat):=by decide+kernel
 intro k;obtain ⟨n,hn⟩:=h k;obtain ⟨l,h1,h2⟩:=yw.1 hn
 grind
theorem BG:∀k:Fin 7,∃s,dm ((k:Nat):Int)=some (s,true)/\0<=s.most/\s.most<18446744073709551616:=by
 intro k;have h:∀k:Fin 7,((dm ((k:Nat):Int)).map (λr=>r.2&&decide (0<=r.1.most)&&decide (r.1.most<18446744073709551616)))=some true:=by decide+kernel
 obtain ⟨⟨s,b⟩,h1,h2⟩:=yw.1 (h k)
 grind
theorem It(k:Fin 7){l:List zi}(ha:xY 2199023255552 ((k:Nat):Int)=some l)(ys:List zi):OK (fe 2199023255552 ((k:Nat):Int) ys) (λ_=>True):=by
 obtain ⟨s,h1,_⟩:=BG k;unfold fe;simp only [h1,ha,zbs];refine d5 (λ_=>b9 trivial) (λ_=>d5 (λ_=>b9 trivial) (λhl=> ?_))
 have hl:l.length=ys.length:=by
  grind
 refine d6 (g8 (Q:=λ_=>True) (λ_ _=>True) trivial (λi s again hi _ kk=> ?_) (λ_ _=>trivial)) (λo _=> ?_)
 ·unfold kY;refine f9 (i7 hi (λx _=>f9 (i7 (by omega) (λy _=> ?_))));refine d5 (λ_=>b9 trivial) (λ_=>d6 (R:=λ_=>True) ?_ (λo _=>d5 (λ_=>b9 trivial) (λ_=>kk _ trivial)));exact d5 (λ_=>d6 (oV _ _) (λx _=>b9 trivial)) (λ_=>b9 trivial)
 grind [b9]
def One(m:zD)(j:zj)(p:Nat)(r:(Nat->zi)×Int):Prop:=
 r.2=0->(∀q,q<8->WT m.Maps.length (r.1 q))/\∀i,m.Code[p]? =some i->i.Op=20->∀q,q<8->∀x h,j.came[p]? =some x->j.came[((p:Int)-i.D).toNat]? =some h->DY (x q) (h q)
theorem Mo{m:zD}{j:zj}(h:JI m j)(hg:uj m.Code){p:Nat}(hp:p<m.Code.length):
  OK (vu 2199023255552 j (p:Int)) (One m j p):=by
 have hn:=hg.Un;obtain ⟨i,hi,hi2⟩:=aT hp;obtain ⟨k,hk1,hk2⟩:=aT (xs:=j.came) (p:=p) (by rw [h.TN];exact hp)
 have hk:=h.wt p k hk1;have hr:=hg.Tb.right hi;have hop:=mV hr;have hA:=nW hr;unfold vu;rw [h.TW,hi2,hk2];simp only [zbs,BF hr]
 have notLoop:∀{r:(Nat->zi)×Int},i.Op≠20->(r.2=0->∀q,q<8->WT m.Maps.length (r.1 q))->One m j p r:=by
  intro r hne hw h0
  grind
 refine d6 (R:=λt=>WT m.Maps.length t) ?_ (λs hs=> ?_)
 ·refine d5 (λhsrc=> ?_) (λ_=>b9 WT.zero)
  grind [bE,Fg,b9,wZ]
 rw [Gj hA.1 hA.2];simp only [zbs,ig,kD];have hD:¬ (15<=i.Op/\i.Op<=20)->ain 8 i.D=some i.D.toNat:=λh=>Gj (nV hr h).1 (nV hr h).2
 have kw:∀{v:zi} {t:Nat},WT m.Maps.length v->∀q,q<8->WT m.Maps.length (aset k t v q):=λhv=>mu hk hv
 refine d5 (λe=> ?_) (λe0=> ?_)
 ·have e:i.Op=0:=by simpa using e
  refine d5 (λ_=>b9 (notLoop (by omega) (λh=>by simp at h))) (λ_=> ?_)
  grind [b9]
 refine d5 (λe=> ?_) (λe11=> ?_)
 ·have e:i.Op=11:=by simpa using e
  rw [hD (by omega)];simp only [zbs];exact d6 (iR _) (λa _=>d6 (wY _) (λb _=>d6 (sj _) (λc _=>b9 (notLoop (by omega) (λ_=>kw (WT.num SW.full))))))
 refine d5 (λe=> ?_) (λe12=> ?_)
 ·grind [d6,iR,wY,sj,b9]
 refine d5 (λe=> ?_) (λe13=> ?_)
 ·grind [b9,WT.num,SW.full]
 refine d5 (λe=> ?_) (λe14=> ?_)
 ·have e:i.Op=14:=by simpa using e
  have him:=nX hr e;rw [hD (by omega)];simp only [zbs];refine d5 (λ_=>b9 (notLoop (by omega) (λh=>by simp at h))) (λhlt=>b9 (notLoop (by omega) (λ_=>kw (.inr (.inr ⟨rfl,rfl,him.1,?_⟩)))))
  grind
 refine d5 (λe=> ?_) (λe15=> ?_)
 ·grind [b9]
 refine d6 (R:=λo=>o=inB i.Op 16 19) ?_ (λo ho=> ?_)
 ·refine d5 (λe=>b9 ?_) (λe=>d5 (λe=>b9 ?_) (λe2=>d5 (λe=>b9 ?_) (λe3=>b9 ?_)))
  ·grind [inB]
  ·grind [inB]
  ·grind [inB]
  grind [inB]
 refine d5 (λe=> ?_) (λe16=> ?_)
 ·grind [inB,d6,iR,b9]
 refine d5 (λe=> ?_) (λe20=> ?_)
 ·have e:i.Op=20:=by simpa using e
  have hlp:=hg.Tb.loop hi e;have ew:w64 ((p:Int)-i.D)=(((p:Int)-i.D).toNat:Int):=by grind [qp]
  obtain ⟨hd,hd1,hd2⟩:=aT (xs:=j.came) (p:=((p:Int)-i.D).toNat) (by rw [h.TN];omega);refine d6 (iR _) (λa _=>d5 (λha=>b9 (λh0=>absurd h0 (by simpa using ha))) (λ_=> ?_));refine d6 (g8 (Q:=λo=>match o with|.inl _=>∀q,q<8->DY (k q) (hd q)|.inr r=>r.2≠0) (λt _=>∀q,q<t->DY (k q) (hd q)) (λq hq=>by omega) (λt s again ht hI kk=> ?_) (λ_ hI=>hI)) (λo ho=> ?_)
  ·unfold eF;simp only [PN ht,ew,hd2,zbs];refine d6 (DR _ _) (λr hr=>d5 (λ_=>b9 (by simp)) (λhn=>kk _ (λq hq=> ?_)))
   grind
  ·cases o with
   |inl _=>
    refine b9 (λ_=>⟨hk,λi' hi' _ q hq x hx h1 h2=> ?_⟩)
    grind
   |inr r=>exact b9 (λh0=>absurd h0 ho)
 refine d5 (λe=> ?_) (λe21=> ?_)
 ·have e:i.Op=21:=by simpa using e
  have him:=mr hr e;obtain ⟨n,hn⟩:=zof him.1;rw [hn];obtain ⟨l,hl,hl3⟩:=DZ ⟨n,by omega⟩;obtain ⟨sg,hs1,hs2,hs3⟩:=BG ⟨n,by omega⟩;have hl':xY 2199023255552 (n:Int)=some l:=hl;have hs1':dm (n:Int)=some (sg,true):=hs1;simp only [hl',zbs];have ec:w64 (1+(l.length:Int))=((1+l.length:Nat):Int):=by grind [qp]
  have ec1:(1:Int)=((1:Nat):Int):=rfl
  have hcut:∃ys,cut (Hv 8 k) 1 (w64 (1+(l.length:Int)))=some ys:=by
   rw [ec];exact ⟨_,Fh (lo:=1) (by omega) (by grind [ol])⟩
  obtain ⟨ys,hys⟩:=hcut;rw [hys];simp only [zbs];refine d6 (It ⟨n,by omega⟩ hl ys) (λr _=> ?_);unfold gX;simp only [hs1',zbs];refine b9 (notLoop (by omega) (λ_=> ?_));exact kw (WT.num ⟨by simp,by simpa using hs2,by simpa using hs3⟩)
 refine d5 (λe=> ?_) (λe22=> ?_)
 ·grind [d6,iR,b9]
 simp only [beq_eq_false_iff_ne,ne_eq] at e0 e11 e12 e13 e14 e15 e20 e21 e22
 have e16':¬ (16<=i.Op/\i.Op<=19):=by
  grind [inB]
 refine d6 (PX (hk _ (by omega)).span hs.span) (λr hr=> ?_)
 grind [d6,iR,b9,WT.num]
open Go.Sx
theorem tr(l:List Int)(m:Int):zY l m=some (l.contains m):=by
 unfold zY xl;rw [pG (λi=>if (l[i]? ==some m) then some (i:Int) else none) (N:=l.length)]
 ·simp only [zbs];cases hf:fv (λi=>if (l[i]? ==some m) then some (i:Int) else none) l.length 0 with
  |some v=>
   grind [gG,wJ]
  |none=>
   have:=gH hf
   have hm:m∉l:=by
    intro hm;obtain ⟨j,hj,rfl⟩:=t8.1 hm
    grind
   simp [wJ,hm]
 grind [bf,Jz]
def tu(l:List Int):Prop:=(∀x∈l,0<=x/\x<4)/\l.Nodup/\l.length<=4
theorem uZ{l:List Int}{i:Nat}(h:i<l.length):(l.take (i+1)).Nodup↔(l.take i).Nodup/\l[i]∉l.take i:=by
 rw [x4,zeg h]
 grind
theorem Iu(l:List Int):OK (ko l) (λr=>r=true↔tu l):=by
 unfold ko;refine d6 (g8 (Q:=λo=>match o with|.inl _=>(∀x∈l,0<=x/\x<4)/\l.Nodup|.inr r=>r=false/\¬ tu l) (λi _=>(∀x∈l.take i,0<=x/\x<4)/\(l.take i).Nodup) (by simp) (λi s again hi hI k=> ?_) (λs hI=> ?_)) (λo ho=> ?_)
 ·unfold oA;simp only [Jz hi,zbs,wN (show i<=l.length by omega),tr];refine d6 (R:=λo=>o=true↔¬ (0<=l[i]/\l[i]<4/\l[i]∉l.take i)) ?_ (λo ho=> ?_)
  ·refine d5 (λh=>b9 ?_) (λh=>d5 (λh2=>b9 ?_) (λh2=>b9 ?_))
   ·grind
   ·grind
   grind
  refine d5 (λh=>b9 ⟨rfl,λhg=> ?_⟩) (λh=>k _ ?_)
  ·have:=(uZ hi).1 (hg.2.1.sublist (List.take_sublist _ _));have hm:=hg.1 l[i] (yb _)
   grind
  ·have hh:0<=l[i]/\l[i]<4/\l[i]∉l.take i:=Classical.byContradiction (λhc=>by grind);refine ⟨λx hx=> ?_,(uZ hi).2 ⟨hI.2,hh.2.2⟩⟩;rw [x4,zeg hi] at hx
   grind
 ·simpa using hI
 ·cases o with
  |inl _=>
   refine b9 ?_;simp only [zdq];exact ⟨λh=>⟨ho.1,ho.2,by omega⟩,λh=>by have:=h.2.2;omega⟩
  |inr r=>exact b9 ⟨λh=>(by grind),λh=>absurd h ho.2⟩
def OG(code:List zf)(j:zj):Prop:=∀(q a:Nat)(ia:zf),j.any[q]? =some true->code[a]? =some ia->ia.Op=20->(a:Int)-ia.D<q->q<=a->j.any[((a:Int)-ia.D).toNat]? =some true
theorem OG.ways{code:List zf}(hg:uj code){p:Nat}{j j':zj}(h:OG code j)(hp:j.any[p]? =some true)(hw:Gk code p j j'):OG code j':=by
 intro q a ia hq ha ho h1 h2;have hlp:=hg.Tb.loop ha ho;rcases hw.new q hq with h3|⟨i,hi,hway⟩
 ·exact hw.keep _ (h q a ia h3 ha ho h1 h2)
 ·
  by_cases hin:(a:Int)-ia.D<=p/\p<=a
  ·by_cases hh:(p:Int)=a-ia.D
   ·rw [<- hh];exact hw.keep _ (by simpa using hp)
   ·exact hw.keep _ (h p a ia hp ha ho (by omega) hin.2)
  ·exfalso
   rcases hway with ⟨hon,rfl⟩|⟨hl,hd,hqd⟩
   ·omega
   ·refine hg.en p (zes.1 hi).1 ⟨i,hi,hl,hd,a,ia,q,(zes.1 ha).1,ha,ho,hqd,(xC ha ho).2 ⟨by omega,by omega⟩,?_,by omega⟩
    grind [qT,xC]
structure Gl (m:zD) (n:Nat) (j:zj):Prop where
 ji:JI m j
 zero:j.any[0]? =some true
 UA:OG m.Code j
 TO:∀(p:Nat)(i:zf),p<n->m.Code[p]? =some i->i.Op=20->j.any[p]? =some true->∀q,q<8->∀x h,j.came[p]? =some x->j.came[((p:Int)-i.D).toNat]? =some h->DY (x q) (h q)
theorem DK{m:zD}{j:zj}{n:Nat}(h:Gl m n j)(hg:uj m.Code)(hn:n<m.Code.length)(again:zj->Option (zj⊕((Option zj)×Int×Int)))
  {Q:(zj⊕((Option zj)×Int×Int))->Prop} (hk:∀j',Gl m (n+1) j'->OK (again j') Q) (he:∀e,e≠0->Q (.inr (none,(n:Int),e))):OK (cz 2199023255552 n again j) Q:=by
 unfold cz;obtain ⟨a,ha,ha2⟩:=aT (xs:=j.any) (p:=n) (by rw [h.ji.TM];exact hn)
 simp only [ha2,zbs];refine d5 (λhf=> ?_) (λhf=> ?_)
 ·have hf:a=false:=by simpa using hf
  refine hk j {h with TO:=λp i hp hi ho hany=> ?_};by_cases e:p=n
  ·grind
  ·exact h.TO p i (by omega) hi ho hany
 have hat:j.any[n]? =some true:=by grind
 refine d6 (Fi h.ji hg hn) (λj1 ⟨hj1,ha1,hc1⟩=> ?_);refine d6 (Mo hj1 hg hn) (λr hr=> ?_);refine d5 (λe=>b9 (he _ (by simpa using e))) (λe=> ?_);have hr:=hr (by simpa using e);refine d6 (Is hj1 hg hn hr.1) (λj2 ⟨hj2,hw⟩=>hk j2 ?_);have hcl:OG m.Code j1:=by intro q a ia;rw [ha1];exact h.UA q a ia
 refine ⟨hj2,hw.keep _ (by rw [ha1];exact h.zero),hcl.ways hg (by rw [ha1];exact hat) hw,λp i hp hi ho hany q hq x hh hx hhd=> ?_⟩
 have hlp:=hg.Tb.loop hi ho;rw [(hw.same p (by omega)).1] at hx;rw [(hw.same _ (by omega)).1] at hhd;rw [(hw.same p (by omega)).2,ha1] at hany;by_cases e:p=n
 ·grind
 ·rw [hc1 p e] at hx;rw [hc1 _ (by omega)] at hhd;exact h.TO p i (by omega) hi ho hany q hq x hh hx hhd
structure PO (m:zD) (r:(Option zj)×Int×Int):Prop where
 Uy:r.2.1=0\/0<=r.2.1/\r.2.1<m.Code.length
 Ty:r.2.2=0->r.2.1=0/\uj m.Code/\tu m.Maps/\∃j,r.1=some j/\Gl m m.Code.length j
 bad:r.2.2≠0->r.1=none
theorem PP{m:zD}(hg:uj m.Code):Gl m 0 ⟨m,List.replicate m.Code.length (λ_=>oU),(List.replicate m.Code.length false).set 0 true,lps m.Code m.Code.length⟩:=by
 have hn:=hg.n1;refine ⟨⟨rfl,by simp,by simp,rfl,λq x hx r _=> ?_⟩,by grind,λq a ia hq ha ho h1 h2=> ?_,λp i hp=>by omega⟩
 ·grind [N6,WT.zero]
 grind
theorem BI(m:zD):OK (jX 2199023255552 m) (PO m):=by
 unfold jX;refine d6 (Iu _) (λg hgm=> ?_);refine d5 (λ_=>b9 ⟨.inl rfl,λh=>by simp at h,λ_=>rfl⟩) (λhgt=> ?_);have hgm:=hgm.1 (by simpa using hgt);obtain ⟨r,h1,h2,h3,h4⟩:=sS m.Code;simp only [h1,zbs];refine d5 (λhr=>b9 ⟨h2,λh=>absurd h (by simpa using hr),λ_=>rfl⟩) (λhr=> ?_);have hg:=(h3 (by simpa using hr)).2;have hn:=hg.Un;have hn1:=hg.n1;refine d6 (R:=λo=>o=zj.mk m (List.replicate m.Code.length (λ_=>oU)) (List.replicate m.Code.length false) []) ?_ (λo ho=> ?_)
 ·grind [f9,OK.mkl,b9,oU]
 subst ho;simp only [uP hg,zbs]
 have e0:idx (List.replicate m.Code.length false) 0=some false:=by
  grind [Jz]
 rw [e0];simp only [zbs];refine d6 (g8 (Q:=λo=>match o with|.inl j=>Gl m m.Code.length j|.inr r=>r.1=none/\r.2.2≠0/\0<=r.2.1/\r.2.1<m.Code.length) (λi s=>Gl m i s) ?_ (λi s again hi hI k=>DK hI hg hi again k (λe he=>⟨rfl,he,by simp,by simpa using hi⟩)) (λs hI=>hI)) (λo ho=> ?_)
 ·grind [PP]
 ·cases o with
  |inl j=>exact b9 ⟨.inl rfl,λ_=>⟨rfl,hg,hgm,j,rfl,ho⟩,λh=>absurd rfl h⟩
  |inr r=>exact b9 ⟨.inr ho.2.2,λh=>absurd h ho.2.1,λ_=>ho.1⟩
theorem KT(m:zD):OK (vv 2199023255552 m) (λr=>(r.1=0\/0<=r.1/\r.1<m.Code.length)):=by
 unfold vv;refine d6 (BI m) (λr hr=> ?_);obtain ⟨o,p,e⟩:=r;cases o with
 |none=>exact OK.none_ (b9 hr.Uy)
 |some j=>exact OK.some_ (b9 hr.Uy)
def known(j:zj)(p:Nat):List zi:=match j.any[p]?,j.came[p]? with
 |some true,some c=>Hv 8 c
 |_,_=>[]
end Go.Proofs.YtplmgfkghomelaaGreatDoor
