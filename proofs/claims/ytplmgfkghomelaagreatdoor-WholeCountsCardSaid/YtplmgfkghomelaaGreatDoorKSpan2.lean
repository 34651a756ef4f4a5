/- Lemmas. -/
import Derived.Test.YtplmgfkghomelaaGreatDoorKOps
set_option linter.all false
namespace Go.Proofs.YtplmgfkghomelaaGreatDoor
open Go.Sx
variable {i:zf}{a e f:zh}{n q y:Nat}{j j' c:zj}{m:zD}{α:Type}{xs:List α}{code:List zf}{x z:Nat->zi}{d:Int}{o r:zi}{h:Bool}{v:α}{l:List Int}{Q:(zj⊕((Option zj)×Int×Int))->Prop}
theorem SW.full:SW ⟨0,18446744073709551615⟩:=⟨by simp,by simp,by simp⟩
theorem SW.one(h:0<=d)(a:d<18446744073709551616):SW ⟨d,d⟩:=⟨h,by simp,a⟩
theorem SW.zero:SW ⟨0,0⟩:=⟨by simp,by simp,by simp⟩
theorem QK(n:Nat):iN .u64 (n:Int) 32=((n / 4294967296:Nat):Int):=FI 32 (by omega)
theorem Ok(n:Nat)(h:n<18446744073709551616):wN .u64 (n:Int) 4294967295=((n%4294967296:Nat):Int):=by
 rw [FH (by omega) (by omega) (by omega) (by omega)]
 have:(n:Int).toNat &&& (4294967295:Int).toNat=n%2^32:=by
  rw [<- Nat.and_two_pow_sub_one_eq_mod];rfl
 rw [this]
theorem wuN(h:n<18446744073709551616):xW (n:Int)=(n:Int):=xY (by omega) (by omega)
theorem Qj{x:Nat}(u:x<18446744073709551616)(v:y<18446744073709551616):∃m:Nat,kB (x:Int) (y:Int)=some ((m:Int),xW ((x:Int)*(y:Int)))/\m=x*y / 18446744073709551616:=by
 obtain ⟨b,h⟩:∃q,q=x%4294967296:=⟨_,rfl⟩
 obtain ⟨c,i⟩:∃q,q=x / 4294967296:=⟨_,rfl⟩
 obtain ⟨d,j⟩:∃q,q=y%4294967296:=⟨_,rfl⟩
 obtain ⟨e,k⟩:∃q,q=y / 4294967296:=⟨_,rfl⟩
 have C:x=c*4294967296+b:=by omega
 have D:y=e*4294967296+d:=by omega
 have w:b*d<=4294967295*4294967295:=z5 (by omega) (by omega);have z:b*e<=4294967295*4294967295:=z5 (by omega) (by omega);have A:c*d<=4294967295*4294967295:=z5 (by omega) (by omega);have B:c*e<=4294967295*4294967295:=z5 (by omega) (by omega)
 have l:x*y=c*e*18446744073709551616+(c*d+b*e)*4294967296+b*d:=by
  grind
 unfold kB;simp only [QK,Ok x u,Ok y v,<- h,<- i,<- j,<- k,<- Int.natCast_mul];generalize o:b*d=p at*
 generalize r:b*e=f at*
 generalize s:c*d=a at*
 generalize t:c*e=g at*
 rw [wuN (n:=p) (by omega),wuN (n:=f) (by omega),wuN (n:=a) (by omega),wuN (n:=g) (by omega)];simp only [QK,<- Int.natCast_add];rw [wuN (n:=a+p / 4294967296) (by omega)];simp only [QK,<- Int.natCast_add];rw [Ok _ (by omega),wuN (n:=g+(a+p / 4294967296) / 4294967296) (by omega)];simp only [<- Int.natCast_add];rw [wuN (n:=(a+p / 4294967296)%4294967296+f) (by omega)];simp only [QK,<- Int.natCast_add];rw [wuN (by omega)];refine ⟨_,rfl,?_⟩;rw [l];omega
theorem io:cg=some ⟨0,18446744073709551615⟩:=rfl
theorem kM(s:zh):vH s=some (decide (s.Lo<=s.Hi)):=rfl
theorem Qk(b:SW a)(c:SW e):OK (lz a e) SW:=by
 obtain ⟨d,f,g⟩:=b;obtain ⟨i,j,k⟩:=c;unfold lz F7;rw [d8 ⟨by omega,by omega,by omega,by omega⟩];simp only [zbs,io];refine d5 (λh=>b9 SW.full) (λh=>b9 ?_);have l:=yv h;refine ⟨(xc _).1,?_,?_⟩
 ·grind [xW,xY]
 grind
theorem GF(j:SW a)(k:SW e):OK (cj a e) SW:=by
 obtain ⟨d,b⟩:=a;obtain ⟨f,c⟩:=e;obtain ⟨g,l,m⟩:=j;obtain ⟨i,n,o⟩:=k;simp only at g l m i n o;obtain ⟨d,rfl⟩:=zof g;obtain ⟨f,rfl⟩:=zof i;obtain ⟨b,rfl⟩:=zof (show 0<=b by omega);obtain ⟨c,rfl⟩:=zof (show 0<=c by omega);unfold cj;obtain ⟨s,p,t⟩:=Qj (x:=b) (y:=c) (by omega) (by omega);simp only [p,zbs,io];refine d5 (λh=>b9 SW.full) (λh=>b9 ?_);have u:=yv h
 have q:b*c<18446744073709551616:=by
  grind
 have r:d*f<=b*c:=z5 (by omega) (by omega);simp only [<- Int.natCast_mul];rw [wuN q,wuN (by omega)];exact ⟨Int.natCast_nonneg _,yw.2 r,by grind⟩
theorem AP(a b:Nat):(a:Int).tdiv (b:Int)=((a / b:Nat):Int):=rfl
theorem GG(l:SW a)(f:SW e):OK (cm a e) SW:=by
 obtain ⟨g,b⟩:=a;obtain ⟨c,d⟩:=e;obtain ⟨i,m,j⟩:=l;obtain ⟨k,n,o⟩:=f;simp only at i m j k n o;unfold cm;refine d5 (λh=>b9 ⟨by simp,by simp;omega,by simpa using j⟩) (λh=> ?_);have f:c≠0:=by simpa using h
 rw [mM (show d≠0 by omega)];simp only [zbs];rw [mM f];obtain ⟨g,rfl⟩:=zof i;obtain ⟨c,rfl⟩:=zof k;obtain ⟨b,rfl⟩:=zof (show 0<=b by omega);obtain ⟨d,rfl⟩:=zof (show 0<=d by omega);simp only [zbs,AP];have p:g / d<=b / c:=q8 (Nat.div_le_div_right (by omega)) (Nat.div_le_div_left (by omega) (by omega));have q:=Nat.div_le_self b c;rw [wuN (by omega),wuN (by omega)];exact b9 ⟨Int.natCast_nonneg _,yw.2 p,by grind⟩
theorem Ol(b:SW a)(c:SW e):OK (hP a e) SW:=by
 obtain ⟨f,g,d⟩:=id b;obtain ⟨i,j,k⟩:=c;unfold hP;refine d5 (λh=>b9 ⟨by simp,by simp;omega,by simpa using d⟩) (λh=> ?_);refine d5 (λh=>b9 b) (λl=>b9 ?_);have c:e.Lo≠0:=by simpa using h
 rw [xY (by omega) (by omega)];refine ⟨by simp,?_,?_⟩<;>(unfold nu;simp only;split<;>omega)
theorem Jg(h:0<=d)(b:d<18446744073709551616):OK (fL d) (λr=>d<=r/\r<18446744073709551616):=by
 obtain ⟨d,rfl⟩:=zof h;obtain ⟨k,c,a,f,_⟩:=sR (n:=d) (by omega);unfold fL;simp only [a,zbs];rw [fA (by omega)];refine b9 ?_
 have e:wO .u64 1 (k:Int)=((2^k%18446744073709551616:Nat):Int):=by
  grind [pA]
 rw [e];by_cases g:k=64
 ·grind [xW,sQ,xc]
 ·have i:(2:Nat)^k<=2^63:=Nat.pow_le_pow_right (by omega) (by omega)
  grind [xY]
theorem Om(q:SW a)(r:SW f):OK (hU a f) SW:=by
 obtain ⟨g,c⟩:=a;obtain ⟨b,A⟩:=f;obtain ⟨l,s,t⟩:=q;obtain ⟨m,u,v⟩:=r;simp only at l s t m u v;obtain ⟨g,rfl⟩:=zof l;obtain ⟨b,rfl⟩:=zof m;obtain ⟨c,rfl⟩:=zof (show 0<=c by omega);obtain ⟨k,B,w,p,C,D⟩:=sR (n:=c) (by omega);unfold hU xP;simp only [w,zbs,io];refine d6 (R:=λo=>o=false->(k=0\/k+b<=64)) ?_ (λo x=> ?_)
 ·refine d5 (λ_=>b9 (by simp)) (λ_=>d5 (λy=> ?_) (λy=>b9 (λ_=>.inl ?_)))
  ·refine d5 (λ_=>b9 (by simp)) (λE=>b9 (λF=>.inr ?_))
   grind [xY]
  grind
 ·refine d5 (λ_=>b9 SW.full) (λh=> ?_);rw [fA (by omega)];simp only [zbs];refine b9 ?_
  have e:∀n:Nat,wO .u64 (n:Int) (b:Int)=((n*2^(min b 64)%18446744073709551616:Nat):Int):=by
   grind [pA]
  rw [e,e];rcases x h with i|i
  ·have d:c=0:=by subst i;simp at p;omega
   have j:g=0:=by omega
   subst d;subst j;exact ⟨by simp,by simp,by simp⟩
  ·rw [show min b 64=b by omega]
   have d:c*2^b<18446744073709551616:=by
    have j:c*2^b<2^k*2^b:=Nat.mul_lt_mul_of_pos_right p (Nat.pow_pos (by omega));rw [<- Nat.pow_add] at j;have G:(2:Nat)^(k+b)<=2^64:=Nat.pow_le_pow_right (by omega) i;omega
   have z:g*2^b<=c*2^b:=p5 _ (by omega);rw [z6 d,z6 (by omega)];exact ⟨Int.natCast_nonneg _,yw.2 z,Int.ofNat_lt.2 d⟩
theorem AQ{op a b:Int}(c:0<=a)(d:a<18446744073709551616)(f:0<=b)(i:b<18446744073709551616):OK (gw op a b) (λr=>0<=r.1/\r.1<18446744073709551616/\r.2=(decide (1<=op)&&decide (op<=10))):=by
 unfold gw
 have q:∀k:Int,1<=k->k<=10->(op==k)=true->true=(decide (1<=op)&&decide (op<=10)):=by
  grind
 refine d5 (λh=>b9 ⟨(xc _).1,(xc _).2,q 1 (by omega) (by omega) h⟩) (λj=> ?_);refine d5 (λh=>b9 ⟨(xc _).1,(xc _).2,q 2 (by omega) (by omega) h⟩) (λl=> ?_);refine d5 (λh=>b9 ⟨(xc _).1,(xc _).2,q 3 (by omega) (by omega) h⟩) (λm=> ?_);refine d5 (λh=> ?_) (λo=> ?_)
 ·refine d5 (λ_=>b9 ⟨by simp,by simp,q 4 (by omega) (by omega) h⟩) (λg=> ?_)
  grind [mM,b9,xc]
 refine d5 (λh=> ?_) (λp=> ?_)
 ·refine d5 (λ_=>b9 ⟨c,d,q 5 (by omega) (by omega) h⟩) (λg=> ?_);rw [mM (by simpa using g)];obtain ⟨a,rfl⟩:=zof c;obtain ⟨b,rfl⟩:=zof f;have e:(a:Int).tmod (b:Int)=((a%b:Nat):Int):=rfl;have:=Nat.mod_le a b
  grind [b9]
 refine d5 (λh=>b9 ⟨(Ek _ _).1,(Ek _ _).2,q 6 (by omega) (by omega) h⟩) (λs=> ?_);refine d5 (λh=>b9 ⟨(Cq _ _).1,(Cq _ _).2,q 7 (by omega) (by omega) h⟩) (λt=> ?_);refine d5 (λh=>b9 ⟨(Je _ _).1,(Je _ _).2,q 8 (by omega) (by omega) h⟩) (λu=> ?_);refine d5 (λh=> ?_) (λv=> ?_)
 ·grind [fA,b9,Jf]
 refine d5 (λh=> ?_) (λn=>b9 ⟨by simp,by simp,?_⟩)
 ·rw [fA f];have:=El (y:=b) c d;exact b9 ⟨this.1,by grind,q 10 (by omega) (by omega) h⟩
 grind
theorem Ql{op:Int}(d:SW a)(f:SW e):OK (od op a e) (λr=>SW r.1):=by
 obtain ⟨i,m,j⟩:=id d;obtain ⟨k,n,p⟩:=id f;unfold od;refine d6 (AQ (op:=op) (a:=a.Lo) (b:=e.Lo) i (by omega) k (by omega)) (λr l=> ?_);simp only [kM,zbs];refine d6 (R:=λo=>o=false->1<=op/\op<=10) ?_ (λo q=> ?_)
 ·refine d5 (λ_=>b9 (by simp)) (λh=> ?_)
  have s:1<=op/\op<=10:=by
   grind
  exact d5 (λ_=>b9 (by simp)) (λ_=>b9 (λ_=>s))
 refine d5 (λ_=>b9 SW.zero) (λh=> ?_);obtain ⟨u,v⟩:=q h;refine d6 (R:=λ_=>True) ?_ (λ_ _=> ?_)
 ·unfold xP;exact d5 (λ_=>b9 trivial) (λ_=>b9 trivial)
 refine d5 (λ_=>b9 (SW.one l.1 l.2.1)) (λ_=> ?_);have fwd:∀{o:Option zh},OK o SW->OK (o.bind λr=>some (r,true)) (λr=>SW r.1):=λh=>d6 h (λx g=>b9 g)
 refine d5 (λ_=>fwd (Qk d f)) (λ_=> ?_);refine d5 (λ_=>d5 (λ_=>fwd (b9 SW.full)) (λh=>b9 ?_)) (λ_=> ?_)
 ·have h:=yv h;rw [xY (by omega) (by omega),xY (by omega) (by omega)];exact ⟨by simp;omega,by simp;omega,by simp;omega⟩
 refine d5 (λ_=>fwd (GF d f)) (λ_=> ?_);refine d5 (λ_=>fwd (GG d f)) (λ_=> ?_);refine d5 (λ_=>fwd (Ol d f)) (λ_=> ?_);refine d5 (λ_=>b9 ⟨by simp,?_,?_⟩) (λ_=> ?_)
 ·grind [nu]
 ·grind [nu]
 have t:=Ej (x:=a.Hi) (y:=e.Hi) (by omega) j (by omega) p;have c:=Cq a.Hi e.Hi;refine d5 (λ_=>d6 (Jg c.1 c.2) (λx g=>b9 ⟨?_,?_,?_⟩)) (λ_=> ?_)
 ·grind [rA]
 ·grind [rA]
 ·exact g.2
 refine d5 (λ_=>d6 (Jg c.1 c.2) (λx g=>b9 ⟨by simp,?_,?_⟩)) (λ_=> ?_)
 ·show 0<=x;omega
 ·exact g.2
 refine d5 (λ_=>fwd (Om d f)) (λ_=> ?_);rw [fA (show 0<=e.Hi by omega)];simp only [zbs];rw [fA k];refine b9 ⟨(El i (by omega)).1,AO i m n,?_⟩;have:=(El (y:=e.Lo) (show 0<=a.Hi by omega) j).2
 grind
open Go.Sx
def pp:zi:=⟨0,⟨0,0⟩,0⟩
def WT(n:Nat)(x:zi):Prop:=x=pp\/(x.Sm=1/\SW x.SN/\x.Tc=0)\/(x.Sm=2/\x.SN=⟨0,0⟩/\0<=x.Tc/\x.Tc<n)
theorem WT.span(h:WT n o):SW o.SN:=by
 rcases h with rfl|h|h
 ·exact SW.zero
 ·exact h.2.1
 grind [SW.zero]
theorem WT.num(h:SW a):WT n ⟨1,a,0⟩:=.inr (.inl ⟨rfl,h,rfl⟩)
theorem WT.zero:WT n pp:=.inl rfl
theorem kJ(s:zh):vc s=some ⟨1,s,0⟩:=rfl
theorem mE(h:SW a):vH a=some true:=by rw [kM,decide_eq_true h.2.1]
theorem SW.join(h:SW a)(b:SW e):SW ⟨nu (nu 18446744073709551615 a.Lo) e.Lo,rA (rA 0 a.Hi) e.Hi⟩:=by
 obtain ⟨c,d,f⟩:=h;obtain ⟨g,i,j⟩:=b;unfold nu rA;refine ⟨?_,?_,?_⟩<;>simp only<;>(repeat' split)<;>omega
theorem NS(h:SW a)(b:SW e):mo [a,e]=some (⟨nu (nu 18446744073709551615 a.Lo) e.Lo,rA (rA 0 a.Hi) e.Hi⟩,true):=by
 unfold mo;simp [jM,rO,idx,mE h,mE b]
def D4(a b:zi):zi:=
 if (a.Sm !=b.Sm)||(a.Tc !=b.Tc) then pp
 else if a.Sm==1 then ⟨1,⟨nu (nu 18446744073709551615 a.SN.Lo) b.SN.Lo,rA (rA 0 a.SN.Hi) b.SN.Hi⟩,0⟩
 else a
theorem Ca(h:SW o.SN)(a:SW r.SN):fM o r=some (D4 o r):=by
 unfold fM D4;rw [NS h a];split
 ·rfl
 ·split<;>rfl
theorem WT.join(h:WT n o)(a:WT n r):WT n (D4 o r):=by
 unfold D4;split
 ·exact WT.zero
 ·split
  ·exact WT.num (SW.join h.span a.span)
  ·exact h
theorem IB(b:SW a)(c:SW e):eA [a,e]=some (if rA (rA 0 a.Lo) e.Lo<=nu (nu 18446744073709551615 a.Hi) e.Hi then (⟨rA (rA 0 a.Lo) e.Lo,nu (nu 18446744073709551615 a.Hi) e.Hi⟩,true) else (⟨0,0⟩,false)):=by
 unfold eA;simp only [io,zbs];by_cases h:rA (rA 0 a.Lo) e.Lo<=nu (nu 18446744073709551615 a.Hi) e.Hi
 ·simp [jM,mr,idx,Int.not_lt.2 b.2.1,Int.not_lt.2 c.2.1,kM,h]
 ·simp [jM,mr,idx,Int.not_lt.2 b.2.1,Int.not_lt.2 c.2.1,kM,h]
theorem D5(b:SW a)(c:SW e):OK (eA [a,e]) (λr=>SW r.1):=by
 refine ⟨_,IB b c,?_⟩;obtain ⟨d,f,g⟩:=b;obtain ⟨i,j,k⟩:=c;split
 ·rename_i h
  refine ⟨?_,h,?_⟩
  ·grind [rA]
  grind [nu]
 ·exact SW.zero
theorem Fo(op a b:Int):OK (bp op a b) (λr=>r.2=inB op 16 19):=by
 unfold bp
 have q:∀k:Int,16<=k->k<=19->(op==k)=true->true=inB op 16 19:=by
  grind [inB]
 refine d5 (λh=>b9 (q 16 (by omega) (by omega) h)) (λn=> ?_);refine d5 (λh=>b9 (q 17 (by omega) (by omega) h)) (λc=> ?_);refine d5 (λh=>b9 (q 18 (by omega) (by omega) h)) (λd=> ?_);refine d5 (λh=>b9 (q 19 (by omega) (by omega) h)) (λe=>b9 ?_)
 grind [inB]
theorem Cb{op:Int}(b:SW a)(f:SW e):OK (dP op a e h) (λr=>SW r.1):=by
 obtain ⟨l,p,m⟩:=id b;obtain ⟨n,q,s⟩:=id f;unfold dP;refine d6 (Fo op 0 0) (λr t=> ?_);simp only [mE b,mE f,zbs];refine d6 (R:=λ_=>True) (d5 (λ_=>b9 trivial) (λ_=>d5 (λ_=>b9 trivial) (λ_=>b9 trivial))) (λo _=> ?_);refine d5 (λ_=>b9 SW.zero) (λ_=> ?_);unfold xP;simp only [zbs];refine d5 (λ_=>b9 b) (λi=> ?_);have i:e.Lo=e.Hi:=by simpa using i
 refine d6 (R:=λ_=>True) (d5 (λ_=>b9 trivial) (λ_=>d5 (λ_=>b9 trivial) (λ_=>b9 trivial))) (λo _=> ?_);refine d5 (λ_=>d5 (λ_=>b9 SW.zero) (λj=> ?_)) (λ_=> ?_)
 ·have j:e.Lo≠0:=by simpa using j
  refine d6 (D5 b ?_) (λx c=>b9 c);rw [xY (by omega) (by omega)];exact ⟨by simp,by simp;omega,by simp;omega⟩
 refine d6 (R:=λ_=>True) (d5 (λ_=>b9 trivial) (λ_=>b9 trivial)) (λo _=> ?_);refine d5 (λ_=>d6 (D5 b ⟨n,by simp;omega,by simp⟩) (λx c=>b9 c)) (λ_=> ?_);refine d6 (R:=λ_=>True) (d5 (λ_=>b9 trivial) (λ_=>d5 (λ_=>b9 trivial) (λ_=>b9 trivial))) (λo _=> ?_);refine d5 (λ_=>d6 (D5 b f) (λx c=>b9 c)) (λ_=> ?_);refine d5 (λ_=>b9 SW.zero) (λg=> ?_)
 have g:¬ (a.Lo=e.Lo/\a.Hi=e.Hi):=by
  grind
 refine d5 (λd=>b9 ?_) (λd=> ?_)
 ·have d:a.Lo=e.Lo:=by simpa using d
  rw [xY (by omega) (by omega)];exact ⟨by simp;omega,by simp;omega,by simpa using m⟩
 refine d5 (λk=>b9 ?_) (λ_=>b9 b);have d:a.Lo≠e.Lo:=by simpa using d
 have k:a.Hi=e.Lo:=by simpa using k
 rw [xY (by omega) (by omega)];exact ⟨by simpa using l,by simp;omega,by simp;omega⟩
theorem iW(l:List zi):OK (vG l) (λ_=>True):=by
 unfold vG;refine d6 (g9 (Q:=λ_=>True) (λ_ _=>True) trivial (λi s a h _ k=> ?_) (λ_ _=>trivial)) (λo _=> ?_)
 ·unfold lw;exact f9 (i7 h (λx _=>d5 (λ_=>b9 trivial) (λ_=>k _ trivial)))
 grind [b9]
theorem sO(l:List Int):OK (fg l) (λr=>r=0->∀x∈l,x=0):=by
 unfold fg;refine d6 (g9 (Q:=λo=>match o with|.inl _=>∀x∈l,x=0|.inr r=>r≠0) (λi _=>∀q x,q<i->l[q]? =some x->x=0) (λq x h=>by omega) (λi s a c d k=> ?_) (λ_ d=> ?_)) (λo f=> ?_)
 ·unfold nJ;refine f9 (i7 c (λx b=>d5 (λh=>b9 (by simpa using h)) (λh=>k _ (λq y e g=> ?_))))
  grind
 ·intro x b;obtain ⟨q,e⟩:=List.mem_iff_getElem?.1 b
  grind
 grind [b9]
theorem pu(a b:zh):OK (dN a b) (λr=>r=true↔a.Lo<=a.Hi/\b.Lo<=a.Lo/\a.Hi<=b.Hi):=by
 unfold dN;rw [kM];simp only [zbs];refine d6 (R:=λr=>r=true↔a.Lo<=a.Hi/\b.Lo<=a.Lo/\a.Hi<=b.Hi) ?_ (λx d=>b9 d);refine d5 (λh=>d5 (λc=>b9 ?_) (λc=>b9 ?_)) (λh=>b9 ?_)
 ·simp at h c |-;omega
 ·simp at h c |-;omega
 ·simp at h |-;omega
def D6(a b:zi):Prop:=(b.Sm=1->a.Sm=1/\a.SN.Lo<=a.SN.Hi/\b.SN.Lo<=a.SN.Lo/\a.SN.Hi<=b.SN.Hi)/\(b.Sm=2->a=b)
theorem NT(h:((o.Sm==r.Sm)&&(((o.SN.Lo==r.SN.Lo)&&((o.SN.Hi==r.SN.Hi)&&true))&&((o.Tc==r.Tc)&&true)))=true):o=r:=by
 obtain ⟨k,⟨l,b⟩,m⟩:=o;obtain ⟨c,⟨d,a⟩,e⟩:=r
 grind
theorem D0(a b:zi):OK (kA a b) (λr=>r=true->D6 a b):=by
 unfold kA;refine d5 (λc=> ?_) (λc=>d5 (λd=>b9 ?_) (λd=>b9 ?_))
 ·have c:b.Sm=1:=by simpa using c
  refine d6 (R:=λr=>r=true->D6 a b) ?_ (λx f=>b9 f);refine d5 (λd=>d6 (pu _ _) (λx f=>b9 (λe=>⟨λ_=>⟨by simpa using d,f.1 e⟩,λg=>by omega⟩))) (λ_=>b9 (λe=>by cases e))
 ·intro h;have c:b.Sm≠1:=by simpa using c
  exact ⟨λe=>absurd e c,λ_=>NT h⟩
 ·intro _;have c:b.Sm≠1:=by simpa using c
  have d:b.Sm≠2:=by simpa using d
  exact ⟨λe=>absurd e c,λe=>absurd e d⟩
theorem Ay(t:zi):OK (gE t) (λ_=>True):=by
 unfold gE;exact d6 (pu _ _) (λx _=>d5 (λ_=>b9 trivial) (λ_=>b9 trivial))
theorem ow(h:xb i=true)(a:¬ (15<=i.Op/\i.Op<=20)):0<=i.D/\i.D<8:=by
 unfold xb at h;simp only [inB,tW] at h;simp only [zae,r6,zdq,u4] at h
 iterate 11 (all_goals (try split at h))
 all_goals simp only [zae,r6,zdq,u4,zfe] at h
 all_goals omega
theorem ox(h:xb i=true):0<=i.A/\i.A<8:=by
 unfold xb at h;simp only [inB,tW] at h;simp only [zae,r6,zdq,u4] at h
 iterate 11 (all_goals (try split at h))
 all_goals simp only [zae,r6,zdq,u4,zfe] at h
 all_goals omega
theorem nj(h:xb i=true):0<=i.Op/\i.Op<=22:=by
 unfold xb at h;simp only [inB,tW] at h;simp only [zae,r6,zdq,u4] at h
 iterate 11 (all_goals (try split at h))
 all_goals simp only [zae,r6,zdq,u4,zfe] at h
 all_goals omega
theorem bE(h:xb i=true)(a:i.Op<=12\/(16<=i.Op/\i.Op<=19)):i.B=8\/(0<=i.B/\i.B<8):=by
 unfold xb at h;simp only [inB,tW,O9] at h;simp only [zae,r6,zdq,u4] at h
 iterate 11 (all_goals (try split at h))
 all_goals simp only [zae,r6,zdq,u4,zfe] at h
 all_goals omega
theorem mF(h:xb i=true)(a:i.Op=21):0<=i.Tm/\i.Tm<=6:=by
 unfold xb at h;simp only [inB,tW] at h;simp [a] at h;omega
theorem oy(h:xb i=true)(a:i.Op=14):0<=i.Tm/\i.Tm<=3:=by
 grind [xb,inB,tW]
theorem Gp(h:0<=d)(a:d<8):ain 8 d=some d.toNat:=by grind [ain]
theorem Qa(h:q<n):ain n (q:Int)=some q:=by grind [ain]
theorem Fp(op:Int)(b:0<=op)(d:op<23):∃f,eX op=some (f,true)/\jw f 100=some (decide (op<=11)||decide (op=13)||decide (op=14))/\jw f 115=some (decide (op<=12)||(decide (16<=op)&&decide (op<=19))):=by
 have h:∀k:Fin 23,∃f,eX ((k:Nat):Int)=some (f,true)/\jw f 100=some (decide (((k:Nat):Int)<=11)||decide (((k:Nat):Int)=13)||decide (((k:Nat):Int)=14))/\jw f 115=some (decide (((k:Nat):Int)<=12)||(decide (16<=((k:Nat):Int))&&decide (((k:Nat):Int)<=19))):=by
  intro k
  have c:∃f,eX ((k:Nat):Int)=some (f,true):=by
   obtain ⟨f,a,_⟩:=IJ ((k:Nat):Int) (by omega) (by omega);exact ⟨f,a⟩
  obtain ⟨f,a⟩:=c;have key:∀k:Fin 23,((eX ((k:Nat):Int)).bind λr=>jw r.1 100)=some (decide (((k:Nat):Int)<=11)||decide (((k:Nat):Int)=13)||decide (((k:Nat):Int)=14))/\((eX ((k:Nat):Int)).bind λr=>jw r.1 115)=some (decide (((k:Nat):Int)<=12)||(decide (16<=((k:Nat):Int))&&decide (((k:Nat):Int)<=19))):=by decide+kernel
  grind
 obtain ⟨n,rfl⟩:=zof b;exact h ⟨n,by omega⟩
theorem Cc(h:xb i=true):OK (cH i) (λr=>r.2=true->0<=r.1/\r.1<8):=by
 have a:=nj h;obtain ⟨f,b,c,_⟩:=Fp i.Op a.1 (by omega);unfold cH;simp only [fz,h,b,c,zbs];refine d5 (λe=>by cases e) (λ_=>d5 (λe=>b9 (λ_=>ow h (by simp at e;omega))) (λ_=>b9 (λ_=>by simp)))
theorem rQ(h:xb i=false):OK (cH i) (λr=>r.2=true->0<=r.1/\r.1<8):=by
 grind [cH,fz,b9]
theorem Cd(h:xb i=true):kz i=some (decide (i.Op<=12)||(decide (16<=i.Op)&&decide (i.Op<=19))):=by
 have a:=nj h
 grind [Fp,kz,fz]
def ME(i:zf)(k:Nat->zi):zi:=if i.B==8 then ⟨1,⟨xW i.Tm,xW i.Tm⟩,0⟩ else k i.B.toNat
theorem Fq(h:i.B=8\/(0<=i.B/\i.B<8)):dX i x=some (ME i x):=by
 unfold dX ME;rcases zft (i.B==8) with e|e
 ·rw [d8 e,d8 e];rfl
 grind [Gp]
theorem Az(h:i.B=8\/(0<=i.B/\i.B<8))(a:∀r,r<8->WT n (x r)):WT n (ME i x):=by
 grind [ME,WT.num,SW.one,xc]
structure JI (m:zD) (j:zj):Prop where
 Us:j.SM=m
 Ui:j.SY.length=m.Code.length
 Uh:j.any.length=m.Code.length
 lps:j.loops=lps m.Code m.Code.length
 wt:∀(q:Nat)(x:Nat->zi),j.SY[q]? =some x->∀r,r<8->WT m.Maps.length (x r)
theorem aS{p:Nat}(h:p<xs.length):∃x,xs[p]? =some x/\idx xs (p:Int)=some x:=⟨xs[p],zeg h,JR h⟩
theorem MF(h:q≠n):(xs.set n v)[q]? =xs[q]? :=z7 (λe=>h e.symm)
theorem JI.put(h:JI m j){p:Nat}(e:∀r,r<8->WT m.Maps.length (x r))(A:List Bool)(b:A.length=m.Code.length):JI m {j with SY:=j.SY.set p x,any:=A}:=
 ⟨h.Us,by simpa using h.Ui,b,h.lps,λq y a r c=>by
  simp only at a;by_cases d:q=p
  ·grind
  ·rw [MF d] at a;exact h.wt q y a r c⟩
theorem mG(h:∀r,r<8->WT n (x r))(a:WT n o):∀r,r<8->WT n (aset x q o r):=by
 grind [aset]
theorem IC(h:JI m j)(k:n<m.Code.length)(l:∀r,r<8->WT m.Maps.length (x r)):
  OK (jf j (n:Int) x) (λj'=>JI m j'/\j'.any=j.any.set n true/\∀q,q≠n->j'.SY[q]? =j.SY[q]?):=by
 unfold jf;obtain ⟨a,E,t⟩:=aS (xs:=j.any) (p:=n) (by rw [h.Uh];exact k)
 obtain ⟨c,F,u⟩:=aS (xs:=j.SY) (p:=n) (by rw [h.Ui];exact k)
 simp only [t,u,zbs,k8];refine d5 (λ_=>b9 ⟨h.put l _ (by simpa using h.Uh),rfl,λq w=>MF w⟩) (λA=> ?_);have B:a=true:=by simpa using A
 have d:j.any.set n true=j.any:=by
  apply l8
  grind
 refine d6 (g9 (λ_ s=>JI m s/\s.any=j.any.set n true/\∀q,q≠n->s.SY[q]? =j.SY[q]?) ⟨h,d.symm,λ_ _=>rfl⟩ (λi s v g b C=> ?_) (λs b=>b)) (λo D=>b9 D);unfold dO;obtain ⟨y,e,f⟩:=aS (xs:=s.SY) (p:=n) (by rw [b.1.Ui];exact k)
 have z:=b.1.wt n y e i g;simp only [f,Qa g,zbs,Ca z.span (l i g).span,k8];exact C _ ⟨b.1.put (mG (b.1.wt n y e) (z.join (l i g))) _ b.1.Uh,b.2.1,λq w=>by grind⟩
theorem Ft{lo:Nat}(h:lo<=n)(a:n<=xs.length):cut xs (lo:Int) (n:Int)=some ((xs.take n).drop lo):=by
 unfold cut;rw [d8 ⟨by omega,by omega,by omega⟩];simp
theorem Fu(h:JI m j)(y:uE m.Code)(A:n<m.Code.length):
  OK (xp j (n:Int)) (λj'=>JI m j'/\j'.any=j.any/\∀q,q≠n->j'.SY[q]? =j.SY[q]?):=by
 unfold xp;refine d6 (g9 (Q:=λj'=>JI m j'/\j'.any=j.any/\∀q,q≠n->j'.SY[q]? =j.SY[q]?) (λ_ s=>JI m {j with SY:=s}/\∀q,q≠n->s[q]? =j.SY[q]?) ⟨⟨h.Us,h.Ui,h.Uh,h.lps,h.wt⟩,λ_ _=>rfl⟩ (λi s c t b k=> ?_) (λs b=>⟨b.1,rfl,b.2⟩)) (λo u=>b9 u);unfold dc;refine f9 (i7 t (λl hl=>d5 (λ_=>k _ b) (λI=> ?_)));rw [h.lps] at hl;obtain ⟨a,g,J,v,w,rfl⟩:=oj.1 (zmg hl);have B:=y.TA.loop v w;have K:=y.UE;have C:(jH g a).TH=(((a:Int)-g.D).toNat:Int):=by show (a:Int)-g.D=_;omega
 have E:w64 ((jH g a).At+1)=((a+1:Nat):Int):=by show w64 ((a:Int)+1)=_;rw [qo (by omega) (by omega)];simp
 rw [C,E,h.Us,Ft (by omega) (by omega)];simp only [zbs];refine d6 (g9 (λ_ s=>JI m {j with SY:=s}/\∀q,q≠n->s[q]? =j.SY[q]?) b (λi s c t b k=> ?_) (λs b=>b)) (λo u=>k _ u);unfold db;refine f9 (i7 t (λx L=> ?_))
 have d:OK (cH x) (λr=>r.2=true->0<=r.1/\r.1<8):=by
  grind [xb,Cc,rQ]
 refine d6 d (λr d=>d5 (λ_=>k _ b) (λF=> ?_));have d:=d (by simpa using F);obtain ⟨z,e,f⟩:=aS (xs:=s) (p:=n) (by rw [show s.length=m.Code.length from b.1.Ui];exact A)
 simp only [f,Gp d.1 d.2,zbs,io,kJ,k8];refine d5 (λ_=>k _ ⟨b.1.put (mG (b.1.wt n z e) (WT.num SW.full)) _ b.1.Uh,λq G=>by grind⟩) (λ_=>k _ ⟨b.1.put (mG (b.1.wt n z e) WT.zero) _ b.1.Uh,λq G=>by grind⟩)
open Go.Sx
def Way(code:List zf)(p q:Nat):Prop:=∃i,code[p]? =some i/\((ju i).2.2=true/\q=p+1\/(ju i).2.1=true/\0<(ju i).1/\(q:Int)=p+(ju i).1)
structure Gq (code:List zf) (p:Nat) (j j':zj):Prop where
 same:∀q:Nat,q<=p->j'.SY[q]? =j.SY[q]? /\j'.any[q]? =j.any[q]?
 keep:∀q:Nat,j.any[q]? =some true->j'.any[q]? =some true
 new:∀q:Nat,j'.any[q]? =some true->j.any[q]? =some true\/Way code p q
theorem Gq.refl(code:List zf)(p:Nat)(j:zj):Gq code p j j:=⟨λ_ _=>⟨rfl,rfl⟩,λ_ h=>h,λ_ h=>.inl h⟩
theorem Gq.trans(h:Gq code n j j')(k:Gq code n j' c):Gq code n j c:=
 ⟨λq a=>⟨(k.same q a).1.trans (h.same q a).1,(k.same q a).2.trans (h.same q a).2⟩,λq a=>k.keep q (h.keep q a),λq a=>(k.new q a).elim (λe=>h.new q e) .inr⟩
theorem NU(b:j.any.length=code.length)(c:n<q)(d:Way code n q)(e:j'.any=j.any.set q true)(a:∀t,t≠q->j'.SY[t]? =j.SY[t]?):Gq code n j j':=by
 refine ⟨λt h=>⟨a t (by omega),by grind⟩,λt h=> ?_,λt h=> ?_⟩
 ·grind
 grind
theorem ID(h:(ju i).2.1=true):(0<(ju i).1/\15<=i.Op/\i.Op<=19/\(ju i).2.2=(i.Op !=15))\/((ju i).1<0/\i.Op=20/\(ju i).2.2=true):=by
 unfold ju at h |-;by_cases a:eE i=true
 ·have:=rR a
  grind
 ·rw [d7 a] at h |-;by_cases hl:lQ i=true
  ·have:=Fv hl
   grind
  grind
theorem IE(h:JI m j)(g:uE m.Code)(O:n<m.Code.length)(e:∀r,r<8->WT m.Maps.length (z r)):
  OK (xQ j (n:Int) z) (λj'=>JI m j'/\Gq m.Code n j j'):=by
 have U:=g.UE;obtain ⟨i,b,A⟩:=aS O;have f:=g.TA.right b;unfold xQ;rw [h.Us,A];simp only [nk,zbs];have I:w64 ((n:Int)+1)=((n+1:Nat):Int):=by grind [qo]
 have step:∀{j:zj} {q:Nat} {z:Nat->zi},JI m j->n<q->q<m.Code.length->Way m.Code n q->(∀r,r<8->WT m.Maps.length (z r))->OK (jf j (q:Int) z) (λj'=>JI m j'/\Gq m.Code n j j'):=
  λJ B C P e=>(IC J C e).mono (λj' c=>⟨c.1,NU J.Uh B P c.2.1 c.2.2⟩)
 refine d5 (λQ=>d6 (d5 (λa=> ?_) (λ_=>b9 ⟨h,Gq.refl _ _ _⟩)) (λo k=>b9 k)) (λQ=> ?_)
 ·rw [I];exact d6 (step h (by omega) (g.TA.on b a) ⟨i,b,.inl ⟨a,rfl⟩⟩ e) (λx l=>b9 l)
 have hl:(ju i).2.1=true/\0<=(ju i).1:=by grind
 have S:0<(ju i).1:=by
  rcases ID hl.1 with K|K
  ·exact K.1
  ·omega
 have d:=g.TA.leads b hl.1;obtain ⟨q,B⟩:=zof d.1;have eq:w64 ((n:Int)+(ju i).1)=(q:Int):=by grind [qo]
 have D:(q:Int)=n+(ju i).1:=B.symm;have E:Way m.Code n q:=⟨i,b,.inr ⟨hl.1,S,D⟩⟩
 refine d5 (λ_=> ?_) (λa=> ?_)
 ·grind
 have a:(ju i).2.2=true:=by simpa using a
 have p:16<=i.Op/\i.Op<=19:=by
  grind [ID]
 have L:=bE f (.inr p);have M:=ox f;rw [Fq L];simp only [zbs];refine d6 (g9 (λ_ s=>JI m s/\Gq m.Code n j s) ⟨h,Gq.refl _ _ _⟩ (λt s F T u N=> ?_) (λs u=>u)) (λo k=>b9 k);unfold dQ;refine f9 (i7 (by simpa using T) (λx l=> ?_));refine d6 (R:=λ(o:Int)=>∃v:Nat,o=(v:Int)/\n<v/\v<m.Code.length/\Way m.Code n v) ?_ (λo k=> ?_)
 ·refine d5 (λ_=>b9 ⟨n+1,I,by omega,g.TA.on b a,i,b,.inl ⟨a,rfl⟩⟩) (λ_=>b9 ⟨q,eq,by omega,by omega,E⟩)
 obtain ⟨v,rfl,w,y,G⟩:=k;rw [Gp M.1 M.2];simp only [zbs];refine d6 (R:=λr=>SW r.1) (d6 (Cb (e _ (by omega)).span (Az L e).span) (λr f=>b9 f)) (λr f=> ?_);refine d5 (λ_=> ?_) (λ_=>N _ u);simp only [kJ,zbs];exact d6 (step u.1 w y G (mG e (WT.num f))) (λx l=>N _ ⟨l.1,u.2.trans l.2⟩)
theorem D7:∀k:Fin 7,∃l,xT 2199023255552 ((k:Nat):Int)=some l/\l.length<=3:=by
 have h:∀k:Fin 7,∃n:Fin 4,(xT 2199023255552 ((k:Nat):Int)).map (·.length)=some (n:Nat):=by decide+kernel
 intro k;obtain ⟨n,a⟩:=h k;obtain ⟨l,b,c⟩:=yf.1 a
 grind
theorem Ce:∀k:Fin 7,∃s,dd ((k:Nat):Int)=some (s,true)/\0<=s.most/\s.most<18446744073709551616:=by
 intro k;have h:∀k:Fin 7,((dd ((k:Nat):Int)).map (λr=>r.2&&decide (0<=r.1.most)&&decide (r.1.most<18446744073709551616)))=some true:=by decide+kernel
 obtain ⟨⟨s,b⟩,a,c⟩:=yf.1 (h k)
 grind
theorem IF(k:Fin 7){l:List zi}(h:xT 2199023255552 ((k:Nat):Int)=some l)(b:List zi):OK (fh 2199023255552 ((k:Nat):Int) b) (λ_=>True):=by
 obtain ⟨s,c,_⟩:=Ce k;unfold fh;simp only [c,h,zbs];refine d5 (λ_=>b9 trivial) (λ_=>d5 (λ_=>b9 trivial) (λhl=> ?_))
 have hl:l.length=b.length:=by
  grind
 refine d6 (g9 (Q:=λ_=>True) (λ_ _=>True) trivial (λi s a d _ e=> ?_) (λ_ _=>trivial)) (λo _=> ?_)
 ·unfold lx;refine f9 (i7 d (λx _=>f9 (i7 (by omega) (λy _=> ?_))));refine d5 (λ_=>b9 trivial) (λ_=>d6 (R:=λ_=>True) ?_ (λo _=>d5 (λ_=>b9 trivial) (λ_=>e _ trivial)));exact d5 (λ_=>d6 (pu _ _) (λx _=>b9 trivial)) (λ_=>b9 trivial)
 grind [b9]
def One(m:zD)(j:zj)(p:Nat)(r:(Nat->zi)×Int):Prop:=
 r.2=0->(∀q,q<8->WT m.Maps.length (r.1 q))/\∀i,m.Code[p]? =some i->i.Op=20->∀q,q<8->∀x h,j.SY[p]? =some x->j.SY[((p:Int)-i.D).toNat]? =some h->D6 (x q) (h q)
theorem MG(h:JI m j)(A:uE m.Code)(hp:y<m.Code.length):
  OK (vq 2199023255552 j (y:Int)) (One m j y):=by
 have B:=A.UE;obtain ⟨i,hi,C⟩:=aS hp;obtain ⟨k,E,F⟩:=aS (xs:=j.SY) (p:=y) (by rw [h.Ui];exact hp)
 have G:=h.wt y k E;have f:=A.TA.right hi;have hop:=nj f;have hA:=ox f;unfold vq;rw [h.Us,C,F];simp only [zbs,Cd f]
 have d:∀{r:(Nat->zi)×Int},i.Op≠20->(r.2=0->∀q,q<8->WT m.Maps.length (r.1 q))->One m j y r:=by
  intro r hne hw z
  grind
 refine d6 (R:=λt=>WT m.Maps.length t) ?_ (λs hs=> ?_)
 ·refine d5 (λhsrc=> ?_) (λ_=>b9 WT.zero)
  grind [bE,Fq,b9,Az]
 rw [Gp hA.1 hA.2];simp only [zbs,io,kJ];have hD:¬ (15<=i.Op/\i.Op<=20)->ain 8 i.D=some i.D.toNat:=λh=>Gp (ow f h).1 (ow f h).2
 have I:∀{v:zi} {t:Nat},WT m.Maps.length v->∀q,q<8->WT m.Maps.length (aset k t v q):=λhv=>mG G hv
 refine d5 (λe=> ?_) (λe0=> ?_)
 ·have e:i.Op=0:=by simpa using e
  refine d5 (λ_=>b9 (d (by omega) (λh=>by simp at h))) (λ_=> ?_)
  grind [b9]
 refine d5 (λe=> ?_) (λJ=> ?_)
 ·have e:i.Op=11:=by simpa using e
  rw [hD (by omega)];simp only [zbs];exact d6 (iW _) (λa _=>d6 (Ay _) (λb _=>d6 (sO _) (λc _=>b9 (d (by omega) (λ_=>I (WT.num SW.full))))))
 refine d5 (λe=> ?_) (λK=> ?_)
 ·grind [d6,iW,Ay,sO,b9]
 refine d5 (λe=> ?_) (λL=> ?_)
 ·grind [b9,WT.num,SW.full]
 refine d5 (λe=> ?_) (λM=> ?_)
 ·have e:i.Op=14:=by simpa using e
  have g:=oy f e;rw [hD (by omega)];simp only [zbs];refine d5 (λ_=>b9 (d (by omega) (λh=>by simp at h))) (λhlt=>b9 (d (by omega) (λ_=>I (.inr (.inr ⟨rfl,rfl,g.1,?_⟩)))))
  grind
 refine d5 (λe=> ?_) (λN=> ?_)
 ·grind [b9]
 refine d6 (R:=λo=>o=inB i.Op 16 19) ?_ (λo ho=> ?_)
 ·refine d5 (λe=>b9 ?_) (λe=>d5 (λe=>b9 ?_) (λe2=>d5 (λe=>b9 ?_) (λe3=>b9 ?_)))
  ·grind [inB]
  ·grind [inB]
  ·grind [inB]
  grind [inB]
 refine d5 (λe=> ?_) (λe16=> ?_)
 ·grind [inB,d6,iW,b9]
 refine d5 (λe=> ?_) (λO=> ?_)
 ·have e:i.Op=20:=by simpa using e
  have hlp:=A.TA.loop hi e;have ew:w64 ((y:Int)-i.D)=(((y:Int)-i.D).toNat:Int):=by grind [qo]
  obtain ⟨hd,hd1,P⟩:=aS (xs:=j.SY) (p:=((y:Int)-i.D).toNat) (by rw [h.Ui];omega);refine d6 (iW _) (λa _=>d5 (λha=>b9 (λz=>absurd z (by simpa using ha))) (λ_=> ?_));refine d6 (g9 (Q:=λo=>match o with|.inl _=>∀q,q<8->D6 (k q) (hd q)|.inr r=>r.2≠0) (λt _=>∀q,q<t->D6 (k q) (hd q)) (λq hq=>by omega) (λt s S ht hI kk=> ?_) (λ_ hI=>hI)) (λo ho=> ?_)
  ·unfold ez;simp only [Qa ht,ew,P,zbs];refine d6 (D0 _ _) (λr f=>d5 (λ_=>b9 (by simp)) (λB=>kk _ (λq hq=> ?_)))
   grind
  ·cases o with
   |inl _=>
    refine b9 (λ_=>⟨G,λi' hi' _ q hq x hx h1 h2=> ?_⟩)
    grind
   |inr r=>exact b9 (λz=>absurd z ho)
 refine d5 (λe=> ?_) (λT=> ?_)
 ·have e:i.Op=21:=by simpa using e
  have g:=mF f e;obtain ⟨n,B⟩:=zof g.1;rw [B];obtain ⟨l,hl,hl3⟩:=D7 ⟨n,by omega⟩;obtain ⟨sg,U,V,W⟩:=Ce ⟨n,by omega⟩;have X:xT 2199023255552 (n:Int)=some l:=hl;have u:dd (n:Int)=some (sg,true):=U;simp only [X,zbs];have ec:w64 (1+(l.length:Int))=((1+l.length:Nat):Int):=by grind [qo]
  have ec1:(1:Int)=((1:Nat):Int):=rfl
  have w:∃Y,cut (HG 8 k) 1 (w64 (1+(l.length:Int)))=some Y:=by
   rw [ec];exact ⟨_,Ft (lo:=1) (by omega) (by grind [oG])⟩
  obtain ⟨Y,Z⟩:=w;rw [Z];simp only [zbs];refine d6 (IF ⟨n,by omega⟩ hl Y) (λr _=> ?_);unfold gZ;simp only [u,zbs];refine b9 (d (by omega) (λ_=> ?_));exact I (WT.num ⟨by simp,by simpa using V,by simpa using W⟩)
 refine d5 (λe=> ?_) (λe22=> ?_)
 ·grind [d6,iW,b9]
 simp only [beq_eq_false_iff_ne,ne_eq] at e0 J K L M N O T e22
 have e16':¬ (16<=i.Op/\i.Op<=19):=by
  grind [inB]
 refine d6 (Ql (G _ (by omega)).span hs.span) (λr f=> ?_)
 grind [d6,iW,b9,WT.num]
open Go.Sx
theorem tQ(l:List Int)(m:Int):qa l m=some (l.contains m):=by
 unfold qa xf;rw [pW (λi=>if (l[i]? ==some m) then some (i:Int) else none) (N:=l.length)]
 ·simp only [zbs];cases a:fy (λi=>if (l[i]? ==some m) then some (i:Int) else none) l.length 0 with
  |some v=>
   grind [gH,Ah]
  |none=>
   have:=gI a
   have h:m∉l:=by
    intro h;obtain ⟨j,b,rfl⟩:=u5.1 h
    grind
   simp [Ah,h]
 grind [bf,JR]
def tU(l:List Int):Prop:=(∀x∈l,0<=x/\x<4)/\l.Nodup/\l.length<=4
theorem wD(h:n<l.length):(l.take (n+1)).Nodup↔(l.take n).Nodup/\l[n]∉l.take n:=by
 rw [x6,zeg h]
 grind
theorem IG(l:List Int):OK (kx l) (λr=>r=true↔tU l):=by
 unfold kx;refine d6 (g9 (Q:=λo=>match o with|.inl _=>(∀x∈l,0<=x/\x<4)/\l.Nodup|.inr r=>r=false/\¬ tU l) (λi _=>(∀x∈l.take i,0<=x/\x<4)/\(l.take i).Nodup) (by simp) (λi s c a d k=> ?_) (λs d=> ?_)) (λo b=> ?_)
 ·unfold oO;simp only [JR a,zbs,Al (show i<=l.length by omega),tQ];refine d6 (R:=λo=>o=true↔¬ (0<=l[i]/\l[i]<4/\l[i]∉l.take i)) ?_ (λo b=> ?_)
  ·refine d5 (λh=>b9 ?_) (λh=>d5 (λf=>b9 ?_) (λf=>b9 ?_))
   ·grind
   ·grind
   grind
  refine d5 (λh=>b9 ⟨rfl,λe=> ?_⟩) (λh=>k _ ?_)
  ·have:=(wD a).1 (e.2.1.sublist (List.take_sublist _ _));have m:=e.1 l[i] (yn _)
   grind
  ·have g:0<=l[i]/\l[i]<4/\l[i]∉l.take i:=Classical.byContradiction (λn=>by grind);refine ⟨λx j=> ?_,(wD a).2 ⟨d.2,g.2.2⟩⟩;rw [x6,zeg a] at j
   grind
 ·simpa using d
 ·cases o with
  |inl _=>
   refine b9 ?_;simp only [zdq];exact ⟨λh=>⟨b.1,b.2,by omega⟩,λh=>by have:=h.2.2;omega⟩
  |inr r=>exact b9 ⟨λh=>(by grind),λh=>absurd h b.2⟩
def O8(code:List zf)(j:zj):Prop:=∀(q a:Nat)(i:zf),j.any[q]? =some true->code[a]? =some i->i.Op=20->(a:Int)-i.D<q->q<=a->j.any[((a:Int)-i.D).toNat]? =some true
theorem O8.ways(l:uE code)(h:O8 code j)(m:j.any[n]? =some true)(f:Gq code n j j'):O8 code j':=by
 intro q a c p b d r s;have t:=l.TA.loop b d;rcases f.new q p with u|⟨i,o,e⟩
 ·exact f.keep _ (h q a c u b d r s)
 ·
  by_cases g:(a:Int)-c.D<=n/\n<=a
  ·by_cases v:(n:Int)=a-c.D
   ·rw [<- v];exact f.keep _ (by simpa using m)
   ·exact f.keep _ (h n a c m b d (by omega) g.2)
  ·exfalso
   rcases e with ⟨w,rfl⟩|⟨hl,x,k⟩
   ·omega
   ·refine l.en n (zes.1 o).1 ⟨i,o,hl,x,a,c,q,(zes.1 b).1,b,d,k,(xv b d).2 ⟨by omega,by omega⟩,?_,by omega⟩
    grind [qW,xv]
structure Gr (m:zD) (n:Nat) (j:zj):Prop where
 ji:JI m j
 zero:j.any[0]? =some true
 UV:O8 m.Code j
 Uj:∀(p:Nat)(i:zf),p<n->m.Code[p]? =some i->i.Op=20->j.any[p]? =some true->∀q,q<8->∀x h,j.SY[p]? =some x->j.SY[((p:Int)-i.D).toNat]? =some h->D6 (x q) (h q)
theorem Av(h:Gr m n j)(g:uE m.Code)(s:n<m.Code.length)(c:zj->Option (zj⊕((Option zj)×Int×Int))) (D:∀j',Gr m (n+1) j'->OK (c j') Q) (E:∀e,e≠0->Q (.inr (none,(n:Int),e))):OK (cq 2199023255552 n c j) Q:=by
 unfold cq;obtain ⟨a,N,v⟩:=aS (xs:=j.any) (p:=n) (by rw [h.ji.Uh];exact s)
 simp only [v,zbs];refine d5 (λw=> ?_) (λw=> ?_)
 ·have w:a=false:=by simpa using w
  refine D j {h with Uj:=λp i F t u b=> ?_};by_cases e:p=n
  ·grind
  ·exact h.Uj p i (by omega) t u b
 have y:j.any[n]? =some true:=by grind
 refine d6 (Fu h.ji g s) (λG ⟨k,d,l⟩=> ?_);refine d6 (MG k g s) (λr z=> ?_);refine d5 (λe=>b9 (E _ (by simpa using e))) (λe=> ?_);have z:=z (by simpa using e);refine d6 (IE k g s z.1) (λI ⟨A,o⟩=>D I ?_);have B:O8 m.Code G:=by intro q a J;rw [d];exact h.UV q a J
 refine ⟨A,o.keep _ (by rw [d];exact h.zero),B.ways g (by rw [d];exact y) o,λp i F t u b q K x L C f=> ?_⟩
 have M:=g.TA.loop t u;rw [(o.same p (by omega)).1] at C;rw [(o.same _ (by omega)).1] at f;rw [(o.same p (by omega)).2,d] at b;by_cases e:p=n
 ·grind
 ·rw [l p e] at C;rw [l _ (by omega)] at f;exact h.Uj p i (by omega) t u b q K x L C f
structure Qb (m:zD) (r:(Option zj)×Int×Int):Prop where
 UT:r.2.1=0\/0<=r.2.1/\r.2.1<m.Code.length
 TU:r.2.2=0->r.2.1=0/\uE m.Code/\tU m.Maps/\∃j,r.1=some j/\Gr m m.Code.length j
 bad:r.2.2≠0->r.1=none
theorem Qc(h:uE m.Code):Gr m 0 ⟨m,List.replicate m.Code.length (λ_=>pp),(List.replicate m.Code.length false).set 0 true,lps m.Code m.Code.length⟩:=by
 have b:=h.n1;refine ⟨⟨rfl,by simp,by simp,rfl,λq x c r _=> ?_⟩,by grind,λq a d e f g j k=> ?_,λp i l=>by omega⟩
 ·grind [Ow,WT.zero]
 grind
theorem Cf(m:zD):OK (jW 2199023255552 m) (Qb m):=by
 unfold jW;refine d6 (IG _) (λg a=> ?_);refine d5 (λ_=>b9 ⟨.inl rfl,λh=>by simp at h,λ_=>rfl⟩) (λf=> ?_);have a:=a.1 (by simpa using f);obtain ⟨r,q,t,u,y⟩:=tu m.Code;simp only [q,zbs];refine d5 (λl=>b9 ⟨t,λh=>absurd h (by simpa using l),λ_=>rfl⟩) (λl=> ?_);have d:=(u (by simpa using l)).2;have z:=d.UE;have v:=d.n1;refine d6 (R:=λo=>o=zj.mk m (List.replicate m.Code.length (λ_=>pp)) (List.replicate m.Code.length false) []) ?_ (λo c=> ?_)
 ·grind [f9,OK.mkl,b9,pp]
 subst c;simp only [wq d,zbs]
 have w:idx (List.replicate m.Code.length false) 0=some false:=by
  grind [JR]
 rw [w];simp only [zbs];refine d6 (g9 (Q:=λo=>match o with|.inl j=>Gr m m.Code.length j|.inr r=>r.1=none/\r.2.2≠0/\0<=r.2.1/\r.2.1<m.Code.length) (λi s=>Gr m i s) ?_ (λi s b p n k=>Av n d p b k (λe x=>⟨rfl,x,by simp,by simpa using p⟩)) (λs n=>n)) (λo c=> ?_)
 ·grind [Qc]
 ·cases o with
  |inl j=>exact b9 ⟨.inl rfl,λ_=>⟨rfl,d,a,j,rfl,c⟩,λh=>absurd rfl h⟩
  |inr r=>exact b9 ⟨.inr c.2.2,λh=>absurd h c.2.1,λ_=>c.1⟩
theorem K1(m:zD):OK (vr 2199023255552 m) (λr=>(r.1=0\/0<=r.1/\r.1<m.Code.length)):=by
 unfold vr;refine d6 (Cf m) (λr h=> ?_);obtain ⟨o,p,e⟩:=r;cases o with
 |none=>exact OK.none_ (b9 h.UT)
 |some j=>exact OK.some_ (b9 h.UT)
def known(j:zj)(p:Nat):List zi:=match j.any[p]?,j.SY[p]? with
 |some true,some c=>HG 8 c
 |_,_=>[]
end Go.Proofs.YtplmgfkghomelaaGreatDoor
