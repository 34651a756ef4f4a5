/- Texts KSpanR, KSigsR, KAskR of this proof. -/
import Derived.Test.YtbmknhpfkpmigaaGreatDoorKFlowR
set_option linter.unusedVariables false
set_option linter.unusedSimpArgs false
namespace Go.Proofs.YtbmknhpfkpmigaaGreatDoor
open Go.Sx
theorem zd4 {s:zc} (h:SW s):zQ s=some true:=by
 have:=h.2.1
 rw [zQ];congr 1;simp;omega
theorem zje (s:zc):vK s=some (s.Lo==s.Hi):=rfl
theorem zpk {a b:Nat} (ha:a<18446744073709551616) (hb:b<18446744073709551616):vZ a b=some (decide (18446744073709551616<=a*b)):=by
 rw [vZ]
 by_cases h:a=0
 ·subst h;simp
 ·rw [if_pos (by simp;omega),zeF (by omega)]
  show some (decide ((b:Int)>jy (Int.tdiv ((18446744073709551615:Nat):Int) (a:Int))))=_
  rw [zgv,wuN (Nat.lt_of_le_of_lt (Nat.div_le_self _ _) (by decide))]
  congr 1
  have:((b:Int)>((18446744073709551615 / a:Nat):Int))↔18446744073709551616<=a*b:=by
   constructor
   ·intro h1
    have h2:18446744073709551615 / a<b:=by omega
    have:=(Nat.div_lt_iff_lt_mul (by omega:0<a)).1 h2
    rw [Nat.mul_comm] at this;omega
   ·intro h1
    have h2:18446744073709551615 / a<b:=(Nat.div_lt_iff_lt_mul (by omega:0<a)).2 (by rw [Nat.mul_comm];omega)
    omega
  rw [decide_eq_decide];exact this
theorem znW {n:Nat} (hn:n<18446744073709551616) {k:Nat} (hk:k<=64) (h1:n<2 ^ k) (h2:k=0\/2 ^ (k-1)<=n): ∀ (j f i:Nat),i+j=k->j<f->loop (vk n) f ((2 ^ i-1:Nat):Int)=some ((2 ^ k-1:Nat):Int):=by
 intro j
 induction j with
 | zero=>
  intro f i hi hf
  obtain ⟨f,rfl⟩: ∃ q,f=q+1:=⟨f-1,by omega⟩
  have:i=k:=by omega
  subst this
  rw [loop,vk,if_neg]
  simp;omega
 | succ j ih=>
  intro f i hi hf
  obtain ⟨f,rfl⟩: ∃ q,f=q+1:=⟨f-1,by omega⟩
  have hlt:2 ^ i-1<n:=by
   rcases h2 with h2 | h2
   ·omega
   ·have h3:2 ^ i<=2 ^ (k-1):=Nat.pow_le_pow_right (by decide) (by omega)
    have:=Nat.pow_pos (n:=i) (show 0<2 by decide)
    omega
  have h64:=zoP (i:=i) (by omega)
  have hp:=Nat.pow_pos (n:=i) (show 0<2 by decide)
  rw [loop,vk,if_pos (by simp;omega)]
  have e:jy (jy (2*((2 ^ i-1:Nat):Int))+1)=((2 ^ (i+1)-1:Nat):Int):=by
   rw [Nat.pow_succ,show (2:Int)*((2 ^ i-1:Nat):Int)=((2*(2 ^ i-1):Nat):Int) by push_cast;rfl,wuN (by omega),show ((2*(2 ^ i-1):Nat):Int)+1=((2*(2 ^ i-1)+1:Nat):Int) by push_cast;rfl,wuN (by omega)]
   congr 1;omega
  rw [e]
  exact ih f (i+1) (by omega) (by omega)
theorem zqS {n fu:Nat} (hf:70<=fu) (hn:n<18446744073709551616) {k:Nat} (hk:k<=64) (h1:n<2 ^ k) (h2:k=0\/2 ^ (k-1)<=n):xL fu n=some ((2 ^ k-1:Nat):Int):=by
 have:=znW hn hk h1 h2 k fu 0 (by omega) (by omega)
 rw [xL]
 show (loop (vk n) fu (((2 ^ 0-1:Nat):Int))).bind _=_
 rw [this];rfl
theorem zj9 {a b fu:Nat} (hf:70<=fu) (ha:a<18446744073709551616) (hb:b<18446744073709551616): ∃ v,zcK (bOr .u64 (a:Int) (b:Int))=some v/\xL fu (zeU a b)=some v:=by
 rw [orN ha hb]
 obtain ⟨k,hk,e,h1,h2,h3⟩:=zhu (zsG ha hb)
 refine ⟨((2 ^ k-1:Nat):Int),?_,?_⟩
 ·rw [zcK,e]
  simp only [zbs,nnN]
  congr 1
  rw [show (1:Int)=((1:Nat):Int) from rfl,zkE,Nat.one_mul,zda]
  have hp:=Nat.pow_pos (n:=k) (show 0<2 by decide)
  by_cases h:k=64
  ·subst h;decide
  ·have:=zoP (i:=k) (by omega)
   rw [Nat.mod_eq_of_lt (by omega)];omega
 ·have em:zeU (a:Int) (b:Int)=((max a b:Nat):Int):=by unfold zeU;split<;>omega
  rw [em]
  have l1:a<=a ||| b:=Nat.left_le_or
  have l2:b<=a ||| b:=Nat.right_le_or
  refine zqS hf (by omega) hk (by omega) ?_
  by_cases h0:k=0
  ·exact .inl h0
  ·right
   by_cases hlt:2 ^ (k-1)<=max a b
   ·exact hlt
   ·have:=Nat.or_lt_two_pow (n:=k-1) (x:=a) (y:=b) (by omega) (by omega)
    have h4:0<a ||| b:=by
     by_cases hz:a ||| b=0
     ·exact absurd (h2 hz) h0
     ·omega
    have:=h3 h4
    omega
theorem znX {b:Nat} (hb:b<18446744073709551616): ∀ (k n a i:Nat),a<18446744073709551616->a<2 ^ k->k<n->i<=b->
  loop (vl b) n ((a:Int),(i:Int))=some ((a / 2 ^ (b-i):Nat):Int):=by
 intro k
 induction k with
 | zero=>
  intro n a i _ ha hn hi
  obtain ⟨n,rfl⟩: ∃ q,n=q+1:=⟨n-1,by omega⟩
  have h0:a=0:=by simpa using ha
  subst h0
  rw [loop,vl]
  simp
 | succ k ih=>
  intro n a i ha64 ha hn hi
  obtain ⟨n,rfl⟩: ∃ q,n=q+1:=⟨n-1,by omega⟩
  rw [loop,vl]
  by_cases h0:a=0
  ·subst h0;simp
  ·by_cases hib:i=b
   ·subst hib;simp
   ·have hc:(decide ((i:Int)<(b:Int))&&decide ((a:Int)>0))=true:=by
     rw [zae];exact ⟨decide_eq_true (by omega),decide_eq_true (by omega)⟩
    simp only [hc,if_true]
    have e2:jy ((a:Int).tdiv 2)=((a / 2:Nat):Int):=by
     rw [show (2:Int)=((2:Nat):Int) from rfl,zgv,wuN (by omega)]
    rw [e2,show (i:Int)+1=((i+1:Nat):Int) by push_cast;rfl,wuN (by omega),ih n _ (i+1) (by omega) (by rw [Nat.pow_succ] at ha;omega) (by omega) (by omega)]
    have:b-i=(b-(i+1))+1:=by omega
    rw [this,Nat.pow_succ,Nat.mul_comm (2 ^ _) 2,Nat.div_div_eq_div_mul]
theorem znY {a b fu:Nat} (hf:70<=fu) (ha:a<18446744073709551616) (hb:b<18446744073709551616):vu fu a b=some (zb4 .u64 a b):=by
 have:=znX hb 64 fu a 0 ha ha (by omega) (by omega)
 rw [vu]
 show (loop (vl b) fu ((a:Int),((0:Nat):Int))).bind _=_
 rw [this,zm2 ha];rfl
theorem zmy {b:Nat} (hb:b<18446744073709551616): ∀ (k n lo hi i:Nat),hi<18446744073709551616->lo<=hi->(hi ≠ 0->2 ^ (64-k)<=hi)->k<=64->k+1<n->i<=b->
  loop (xh b) n (⟨(lo:Int),(hi:Int)⟩,(i:Int))=some (if hi ≠ 0/\18446744073709551616<=hi*2 ^ (b-i) then .inr (⟨0,0⟩,false) else .inl ⟨((lo*2 ^ (b-i):Nat):Int),((hi*2 ^ (b-i):Nat):Int)⟩):=by
 intro k
 induction k with
 | zero=>
  intro n lo hi i h1 h2 h3 _ hn hi'
  obtain ⟨n,rfl⟩: ∃ q,n=q+1:=⟨n-1,by omega⟩
  have h0:hi=0:=by
   by_cases h:hi=0
   ·exact h
   ·have:=h3 h
    have e:2 ^ (64-0)=18446744073709551616:=by decide
    omega
  subst h0
  have:lo=0:=by omega
  subst this
  rw [loop,xh]
  simp
 | succ k ih=>
  intro n lo hi i h1 h2 h3 hk hn hi'
  obtain ⟨n,rfl⟩: ∃ q,n=q+1:=⟨n-1,by omega⟩
  rw [loop,xh]
  by_cases h0:hi=0
  ·subst h0
   have:lo=0:=by omega
   subst this
   simp
  ·by_cases hib:i=b
   ·subst hib;simp;omega
   ·have hc:(decide ((i:Int)<(b:Int))&&decide ((hi:Int)>0))=true:=by
     rw [zae];exact ⟨decide_eq_true (by omega),decide_eq_true (by omega)⟩
    simp only [hc,if_true]
    have hpow:b-i=(b-(i+1))+1:=by omega
    have hp:=Nat.pow_pos (n:=b-(i+1)) (show 0<2 by decide)
    by_cases hg:9223372036854775807<hi
    ·rw [if_pos (by simp;omega),if_pos]
     refine ⟨h0,?_⟩
     rw [hpow,Nat.pow_succ,Nat.mul_comm (2 ^ _) 2,<- Nat.mul_assoc]
     exact Nat.le_trans (by omega) (Nat.le_mul_of_pos_right (hi*2) hp)
    ·rw [if_neg (by simp;omega)]
     rw [show (2:Int)*(lo:Int)=((2*lo:Nat):Int) by push_cast;rfl,wuN (by omega),show (2:Int)*(hi:Int)=((2*hi:Nat):Int) by push_cast;rfl,wuN (by omega),show (i:Int)+1=((i+1:Nat):Int) by push_cast;rfl,wuN (by omega)]
     rw [ih n (2*lo) (2*hi) (i+1) (by omega) (by omega) (by
      intro _
      have:=h3 h0
      have e:64-k=(64-(k+1))+1:=by omega
      rw [e,Nat.pow_succ];omega) (by omega) (by omega) (by omega)]
     have e1:2*hi*2 ^ (b-(i+1))=hi*2 ^ (b-i):=by rw [hpow,Nat.pow_succ,Nat.mul_comm 2 hi,Nat.mul_assoc,Nat.mul_comm 2]
     have e2:2*lo*2 ^ (b-(i+1))=lo*2 ^ (b-i):=by rw [hpow,Nat.pow_succ,Nat.mul_comm 2 lo,Nat.mul_assoc,Nat.mul_comm 2]
     rw [e1,e2]
     have:(2*hi ≠ 0)↔(hi ≠ 0):=by omega
     simp only [this]
theorem zmz {lo hi b fu:Nat} (hf:70<=fu) (h1:hi<18446744073709551616) (h2:lo<=hi) (hb:b<18446744073709551616):
  xn fu ⟨(lo:Int),(hi:Int)⟩ (b:Int)=some (if hi ≠ 0/\18446744073709551616<=hi*2 ^ b then (⟨0,0⟩,false) else (⟨((lo*2 ^ b:Nat):Int),((hi*2 ^ b:Nat):Int)⟩,true)):=by
 have:=zmy hb 64 fu lo hi 0 h1 h2 (by intro h;simp;omega) (by omega) (by omega) (by omega)
 rw [xn]
 show (loop (xh b) fu (_,((0:Nat):Int))).bind _=_
 rw [this,Nat.sub_zero]
 by_cases h:hi ≠ 0/\18446744073709551616<=hi*2 ^ b
 ·rw [if_pos h,if_pos h];rfl
 ·rw [if_neg h,if_neg h];rfl
theorem SWn {s:zc} (h:SW s): ∃ lo hi:Nat,s=⟨lo,hi⟩/\lo<=hi/\hi<18446744073709551616:=by
 obtain ⟨h0,h1,h2⟩:=h
 obtain ⟨lo,hi⟩:=s
 exact ⟨lo.toNat,hi.toNat,by simp only at h0 h1 h2 |-;congr 1<;>omega,by simp only at h0 h1 h2;omega,by simp only at h0 h1 h2;omega⟩
theorem zqT (a b:Nat):zeR (a:Int) (b:Int)=((min a b:Nat):Int):=by unfold zeR;split<;>omega
theorem zqU (a b:Nat):zeU (a:Int) (b:Int)=((max a b:Nat):Int):=by unfold zeU;split<;>omega
theorem zqV {al ah bl bh fu:Nat} (hf:70<=fu) (h1:al<=ah) (h2:ah<18446744073709551616) (h3:bl<=bh) (h4:bh<18446744073709551616):
  ∃ s,zdu ⟨al,ah⟩ ⟨bl,bh⟩=some s/\(if (((bl:Int)) != (bh:Int))=true then some ((zc.mk 0 18446744073709551615),true) else (xn fu ⟨al,ah⟩ (bl:Int)).bind fun r=>if (!r.2)=true then some ((zc.mk 0 18446744073709551615),true) else some (r.1,true))=some (s,true):=by
 obtain ⟨k,hk,e,l1,l2,l3⟩:=zhu (n:=ah) h2
 rw [zdu,zje]
 by_cases hs:bl=bh
 ·subst hs
  have hs2:((bl:Int)==(bl:Int))=true:=by simp
  rw [if_neg (show ¬ ((((bl:Int)) != (bl:Int))=true) by simp),zmz hf h2 h1 h4]
  simp only [zbs,hs2,Bool.not_true,zfe,if_false,e]
  have key:(ah ≠ 0/\18446744073709551616<=ah*2 ^ bl)↔(0<k/\64<k+bl):=by
   by_cases h0:ah=0
   ·have:=l2 h0;omega
   ·have hk0:0<k:=by
     by_cases hz:k=0
     ·subst hz;omega
     ·omega
    have l4:=l3 (by omega)
    constructor
    ·rintro ⟨_,h⟩
     refine ⟨hk0,?_⟩
     by_cases hc:64<k+bl
     ·exact hc
     ·exfalso
      have:ah*2 ^ bl<2 ^ k*2 ^ bl:=Nat.mul_lt_mul_of_pos_right l1 (Nat.pow_pos (by decide))
      rw [<- Nat.pow_add] at this
      have h5:2 ^ (k+bl)<=2 ^ 64:=Nat.pow_le_pow_right (by decide) (by omega)
      have:(2:Nat) ^ 64=18446744073709551616:=by decide
      omega
    ·rintro ⟨_,h⟩
     refine ⟨h0,?_⟩
     have h5:2 ^ (k-1)*2 ^ bl<=ah*2 ^ bl:=Nat.mul_le_mul_right _ l4
     rw [<- Nat.pow_add] at h5
     have h6:2 ^ 64<=2 ^ (k-1+bl):=Nat.pow_le_pow_right (by decide) (by omega)
     have:(2:Nat) ^ 64=18446744073709551616:=by decide
     omega
  have keyB:((if decide ((k:Int)>0)=true then (if decide ((bl:Int)>64)=true then some true else some (decide (jy (jy (k:Int)+(bl:Int))>64))) else some false:Option Bool))=some (decide (0<k/\64<k+bl)):=by
   by_cases hz:0<k
   ·rw [if_pos (by simp;omega)]
    by_cases hb:64<bl
    ·rw [if_pos (by simp;omega)];congr 1;symm;exact decide_eq_true (by omega)
    ·rw [if_neg (by simp;omega),wuN (by omega),show (k:Int)+(bl:Int)=((k+bl:Nat):Int) by push_cast;rfl,wuN (by omega)]
     congr 1;rw [decide_eq_decide];omega
   ·rw [if_neg (by simp;omega)];congr 1;symm;exact decide_eq_false (by omega)
  rw [keyB]
  by_cases hg:ah ≠ 0/\18446744073709551616<=ah*2 ^ bl
  ·refine ⟨⟨0,18446744073709551615⟩,?_,?_⟩
   ·rw [decide_eq_true (key.1 hg)];rfl
   ·rw [if_pos hg];rfl
  ·refine ⟨⟨((al*2 ^ bl:Nat):Int),((ah*2 ^ bl:Nat):Int)⟩,?_,?_⟩
   ·rw [decide_eq_false (fun h=>hg (key.2 h))]
    simp only [zbs,zfe,if_false,nnN,zkE]
    have hlt:ah*2 ^ bl<18446744073709551616:=by
     by_cases h0:ah=0
     ·subst h0;simp
     ·by_cases hh:18446744073709551616<=ah*2 ^ bl
      ·exact absurd ⟨h0,hh⟩ hg
      ·omega
    have:al*2 ^ bl<=ah*2 ^ bl:=Nat.mul_le_mul_right _ h1
    rw [Nat.mod_eq_of_lt hlt,Nat.mod_eq_of_lt (by omega)]
   ·rw [if_neg hg];rfl
 ·have hs2:((bl:Int)==(bh:Int))=false:=by simp;omega
  refine ⟨⟨0,18446744073709551615⟩,?_,?_⟩
  ·simp only [zbs,hs2,Bool.not_false,if_true];rfl
  ·rw [if_pos (by simp;omega)]
theorem zqW {fu:Nat} (hf:70<=fu) {op:Int} {a b:zc} (ha:SW a) (hb:SW b) (o1:1<=op) (o2:op<=10): ∃ s,zfS op a b=some (s,true)/\zbA fu op a b=some (s,true):=by
 have hA:=zpg (op:=op) (ha.in_ ⟨Int.le_refl _,ha.2.1⟩) (hb.in_ ⟨Int.le_refl _,hb.2.1⟩)
 have hR:=zoS hf (op:=op) (ha.in_ ⟨Int.le_refl _,ha.2.1⟩) (hb.in_ ⟨Int.le_refl _,hb.2.1⟩) o1 o2
 have hc:(decide (1<=op)&&decide (op<=10))=true:=by rw [zae];exact ⟨decide_eq_true o1,decide_eq_true o2⟩
 rw [hc] at hA
 have c1:decide (op<1)=false:=decide_eq_false (by omega)
 have c2:decide (op>10)=false:=decide_eq_false (by omega)
 rw [zfS,hA,zbA,hR]
 simp only [zbs,Bool.not_true,zfe,if_false,zeb ha,zeb hb,zd4 ha,zd4 hb,c1,c2,zje]
 by_cases hs:((a.Lo==a.Hi)&&(b.Lo==b.Hi))=true
 ·have hs2:=hs
  rw [zae] at hs2
  simp only [hs2.1,hs2.2,if_true,Bool.and_self,zbs,znh]
  exact ⟨_,rfl,rfl⟩
 ·have hs1:((if (a.Lo==a.Hi)=true then some (b.Lo==b.Hi) else some false:Option Bool))=some false:=by
   by_cases h:(a.Lo==a.Hi)=true
   ·rw [if_pos h]
    rw [h,Bool.true_and] at hs
    simp only [Bool.not_eq_true] at hs
    rw [hs]
   ·rw [if_neg h]
  have hs2:((a.Lo==a.Hi)&&(b.Lo==b.Hi))=false:=by simpa using hs
  simp only [hs1,hs2,zbs,zfe,if_false]
  obtain ⟨al,ah,rfl,h1,h2⟩:=SWn ha
  obtain ⟨bl,bh,rfl,h3,h4⟩:=SWn hb
  have hop:op=1\/op=2\/op=3\/op=4\/op=5\/op=6\/op=7\/op=8\/op=9\/op=10:=by omega
  rcases hop with rfl | rfl | rfl | rfl | rfl | rfl | rfl | rfl | rfl | rfl
  ·simp only [Int.reduceBEq,if_true,zfo]
   have ea:zlW (ah:Int) (bh:Int) 0=some (((ah:Int)+bh+0) % 18446744073709551616,((ah:Int)+bh+0) / 18446744073709551616):=if_pos ⟨by omega,by omega,by omega,by omega⟩
   rw [ea]
   have e2:jy (18446744073709551615-(bh:Int))=18446744073709551615-(bh:Int):=zaT (by omega) (by omega)
   rw [e2]
   simp only [zbs]
   by_cases h:(ah:Int)>18446744073709551615-(bh:Int)
   ·rw [decide_eq_true h,if_pos rfl,if_pos (decide_eq_true (show ((ah:Int)+bh+0) / 18446744073709551616>0 by omega))]
    exact ⟨_,rfl,rfl⟩
   ·rw [decide_eq_false h,if_neg (show ¬ (decide (((ah:Int)+bh+0) / 18446744073709551616>0)=true) by simp;omega)]
    refine ⟨_,rfl,?_⟩
    rw [if_neg (by decide),zda,zda,Int.add_zero]
  ·simp only [Int.reduceBEq,zfe,if_false,if_true]
   by_cases h:((al:Int))<(bh:Int)
   ·simp only [decide_eq_true h,if_true];exact ⟨_,rfl,rfl⟩
   ·simp only [decide_eq_false h,zfe,if_false];exact ⟨_,rfl,rfl⟩
  ·simp only [Int.reduceBEq,zfe,if_false,if_true,zbU]
   obtain ⟨hi,e,hh⟩:=zrM h2 h4
   rw [e,zpk h2 h4]
   simp only [zbs]
   by_cases h:18446744073709551616<=ah*bh
   ·have:0<hi:=by rw [hh];exact Nat.div_pos h (by decide)
    rw [decide_eq_true h,if_pos rfl,decide_eq_true (show (hi:Int)>0 by omega),if_pos rfl]
    exact ⟨_,rfl,rfl⟩
   ·have:hi=0:=by rw [hh];exact Nat.div_eq_of_lt (by omega)
    subst this
    rw [decide_eq_false h]
    exact ⟨_,rfl,rfl⟩
  ·simp only [Int.reduceBEq,zfe,if_false,if_true,zbV]
   by_cases h:bl=0
   ·subst h;exact ⟨_,rfl,rfl⟩
   ·have e:(((bl:Int))==0)=false:=by simp;omega
    simp only [e,zfe,if_false,zeF (show (bh:Int) ≠ 0 by omega),zeF (show (bl:Int) ≠ 0 by omega),zbs]
    exact ⟨_,rfl,rfl⟩
  ·simp only [Int.reduceBEq,zfe,if_false,if_true,zep]
   by_cases h:(((bl:Int))==0)=true
   ·rw [h];exact ⟨_,rfl,rfl⟩
   ·rw [if_neg h,if_neg h]
    by_cases h':decide ((ah:Int)<(bl:Int))=true
    ·rw [if_pos h',if_pos h'];exact ⟨_,rfl,rfl⟩
    ·rw [if_neg h',if_neg h'];exact ⟨_,rfl,rfl⟩
  ·simp only [Int.reduceBEq,zfe,if_false,if_true]
   exact ⟨_,rfl,rfl⟩
  ·simp only [Int.reduceBEq,zfe,if_false,if_true]
   obtain ⟨v,e1,e2⟩:=zj9 hf h2 h4
   rw [e1,e2];exact ⟨_,rfl,rfl⟩
  ·simp only [Int.reduceBEq,zfe,if_false,if_true]
   obtain ⟨v,e1,e2⟩:=zj9 hf h2 h4
   rw [e1,e2];exact ⟨_,rfl,rfl⟩
  ·simp only [Int.reduceBEq,zfe,if_false,if_true]
   obtain ⟨s,e1,e2⟩:=zqV hf h1 h2 h3 h4
   rw [e1]
   exact ⟨s,rfl,e2⟩
  ·simp only [Int.reduceBEq,zfe,if_false,if_true]
   rw [znY hf (by omega) h4,znY hf h2 (by omega),nnN,nnN]
   exact ⟨_,rfl,rfl⟩
theorem zqX {al ah bl bh:Nat} (h1:al<=ah) (h2:ah<18446744073709551616) (h3:bl<=bh) (h4:bh<18446744073709551616):
  zaG [⟨(al:Int),(ah:Int)⟩,⟨(bl:Int),(bh:Int)⟩]=some (if max al bl<=min ah bh then (⟨((max al bl:Nat):Int),((min ah bh:Nat):Int)⟩,true) else (⟨0,0⟩,false)):=by
 have:=zni (a:=⟨(al:Int),(ah:Int)⟩) (b:=⟨(bl:Int),(bh:Int)⟩) ⟨by simp,by simp;omega,by simp;omega⟩ ⟨by simp,by simp;omega,by simp;omega⟩
 rw [this]
 have e1:zeU (zeU 0 (al:Int)) (bl:Int)=((max al bl:Nat):Int):=by
  rw [show (0:Int)=((0:Nat):Int) from rfl,zqU,zqU,Nat.zero_max]
 have e2:zeR (zeR 18446744073709551615 (ah:Int)) (bh:Int)=((min ah bh:Nat):Int):=by
  rw [show (18446744073709551615:Int)=((18446744073709551615:Nat):Int) from rfl,zqT,zqT];congr 1;omega
 simp only [e1,e2]
 by_cases h:max al bl<=min ah bh
 ·rw [if_pos h,if_pos (by omega)]
 ·rw [if_neg h,if_neg (by omega)]
theorem znZ {lo hi:Nat} (h:lo<=hi) (n:Nat):xx ⟨(lo:Int),(hi:Int)⟩ (n:Int)=some (decide (lo<=n/\n<=hi)):=by
 have hr:zQ ⟨(lo:Int),(hi:Int)⟩=some true:=by rw [zQ];congr 1;simp;omega
 rw [xx,hr]
 simp only [zbs,if_true]
 by_cases h1:lo<=n
 ·rw [if_pos (decide_eq_true (show (n:Int)>=(lo:Int) by omega)),zbs]
  congr 1;rw [decide_eq_decide];omega
 ·rw [if_neg (by simp;omega),zbs]
  congr 1;symm;exact decide_eq_false (by omega)
theorem zk9 {op:Int} {a b:zc} {h:Bool} (ha:SW a) (hb:SW b) (o1:16<=op) (o2:op<=19): ∃ r,xG op a b h=some r/\vF op a b h=some r:=by
 have c1:decide (op<16)=false:=decide_eq_false (by omega)
 have c2:decide (op>19)=false:=decide_eq_false (by omega)
 have c3:inB op 16 19=true:=by unfold inB;rw [zae];exact ⟨decide_eq_true (by omega),decide_eq_true (by omega)⟩
 rw [xG,zph,vF]
 simp only [zbs,c1,c2,c3,Bool.not_true,zfe,if_false,zeb ha,zeb hb,zd4 ha,zd4 hb,zje]
 obtain ⟨al,ah,rfl,h1,h2⟩:=SWn ha
 obtain ⟨bl,bh,rfl,h3,h4⟩:=SWn hb
 by_cases hs:bl=bh
 ·subst hs
  have hs2:((bl:Int)==(bl:Int))=true:=by simp
  have hs3:((bl:Int) != (bl:Int))=false:=by simp
  simp only [hs2,hs3,Bool.not_true,zfe,if_false]
  have below: ∃ r,(if ((bl:Int)==0)=true then some ((zc.mk 0 0),false) else (zaG [⟨(al:Int),(ah:Int)⟩,⟨0,jy ((bl:Int)-1)⟩]).bind fun r=>some (r.1,r.2))=some r/\
    (if decide ((al:Int)>=(bl:Int))=true then some ((zc.mk 0 0),false) else some ((zc.mk (al:Int) (zeR (ah:Int) (jy ((bl:Int)-1)))),true))=some r:=by
   by_cases h0:bl=0
   ·subst h0
    exact ⟨_,rfl,by rw [if_pos (by simp)]⟩
   ·have ew:jy ((bl:Int)-1)=((bl-1:Nat):Int):=by rw [zaT (by omega) (by omega)];omega
    rw [if_neg (by simp;omega),ew]
    have:=zqX (al:=al) (ah:=ah) (bl:=0) (bh:=bl-1) h1 h2 (by omega) (by omega)
    rw [show ((0:Nat):Int)=0 from rfl] at this
    rw [this,zqT]
    by_cases hl:bl<=al
    ·rw [if_neg (by omega),if_pos (decide_eq_true (show (al:Int)>=(bl:Int) by omega))];exact ⟨_,rfl,rfl⟩
    ·rw [if_pos (by omega),if_neg (by simp;omega)]
     refine ⟨_,rfl,?_⟩
     simp only [Nat.max_zero]
  have above: ∃ r,((zaG [⟨(al:Int),(ah:Int)⟩,⟨(bl:Int),18446744073709551615⟩]).bind fun r=>some (r.1,r.2))=some r/\
    (if decide ((ah:Int)<(bl:Int))=true then some ((zc.mk 0 0),false) else some ((zc.mk (zeU (al:Int) (bl:Int)) (ah:Int)),true))=some r:=by
   have:=zqX (al:=al) (ah:=ah) (bl:=bl) (bh:=18446744073709551615) h1 h2 (by omega) (by omega)
   rw [show ((18446744073709551615:Nat):Int)=18446744073709551615 from rfl] at this
   rw [this,zqU]
   by_cases hl:ah<bl
   ·rw [if_neg (by omega),if_pos (decide_eq_true (by omega))];exact ⟨_,rfl,rfl⟩
   ·rw [if_pos (by omega),if_neg (by simp;omega)]
    refine ⟨_,rfl,?_⟩
    rw [Nat.min_eq_left (show ah<=18446744073709551615 by omega)]
  have at_: ∃ r,((zaG [⟨(al:Int),(ah:Int)⟩,⟨(bl:Int),(bl:Int)⟩]).bind fun r=>some (r.1,r.2))=some r/\
    ((xx ⟨(al:Int),(ah:Int)⟩ (bl:Int)).bind fun r=>if (!r)=true then some ((zc.mk 0 0),false) else some ((zc.mk (bl:Int) (bl:Int)),true))=some r:=by
   rw [zqX h1 h2 (Nat.le_refl _) h4,znZ h1]
   by_cases hl:al<=bl/\bl<=ah
   ·rw [if_pos (by omega),decide_eq_true hl]
    refine ⟨_,rfl,?_⟩
    rw [Nat.max_eq_right hl.1,Nat.min_eq_right hl.2];rfl
   ·rw [if_neg (by omega),decide_eq_false hl];exact ⟨_,rfl,rfl⟩
  have off: ∃ r,(if (((al:Int)==(bl:Int))&&(((ah:Int)==(bl:Int))&&true))=true then some ((zc.mk 0 0),false) else if ((al:Int)==(bl:Int))=true then some ((zc.mk (jy ((al:Int)+1)) (ah:Int)),true) else if ((ah:Int)==(bl:Int))=true then some ((zc.mk (al:Int) (jy ((ah:Int)-1))),true) else some ((zc.mk (al:Int) (ah:Int)),true))=some r/\
    (if (((al:Int)==(bl:Int))&&((ah:Int)==(bl:Int)))=true then some ((zc.mk 0 0),false) else if ((al:Int)==(bl:Int))=true then some ((zc.mk (jy ((bl:Int)+1)) (ah:Int)),true) else if ((ah:Int)==(bl:Int))=true then some ((zc.mk (al:Int) (jy ((bl:Int)-1))),true) else some ((zc.mk (al:Int) (ah:Int)),true))=some r:=by
   rw [Bool.and_true]
   by_cases e1:al=bl
   ·subst e1
    by_cases e2:ah=al
    ·subst e2;simp
    ·have:((ah:Int)==(al:Int))=false:=by simp;omega
     simp [this]
   ·have x1:((al:Int)==(bl:Int))=false:=by simp;omega
    by_cases e2:ah=bl
    ·subst e2;simp [x1]
    ·have x2:((ah:Int)==(bl:Int))=false:=by simp;omega
     simp [x1,x2]
  have hop:op=16\/op=17\/op=18\/op=19:=by omega
  rcases hop with rfl | rfl | rfl | rfl<;>cases h<;>
   simp only [Int.reduceBEq,Bool.true_and,Bool.and_true,Bool.false_and,Bool.and_false,Bool.not_true,Bool.not_false,zfe,if_true,if_false,zbs,Bool.or_false,Bool.or_true,Bool.false_or,Bool.true_or,Int.reduceGE,decide_true,decide_false]<;>
   first
   | exact below
   | exact above
   | exact at_
   | (simp only [Bool.and_true] at off;exact off)
 ·have hs2:((bl:Int)==(bh:Int))=false:=by simp;omega
  have hs3:((bl:Int) != (bh:Int))=true:=by simp;omega
  simp only [hs2,hs3,Bool.not_false,if_true]
  exact ⟨_,rfl,rfl⟩
theorem zh0 {a b:zc} (ha:SW a) (hb:SW b): ∃ r,vJ a b=some r/\xE a b=some r:=by
 rw [vJ,xE,zeb ha,zd4 ha,zd4 hb]
 obtain ⟨al,ah,rfl,h1,h2⟩:=SWn ha
 obtain ⟨bl,bh,rfl,h3,h4⟩:=SWn hb
 simp only [zbs,if_true,znZ h3]
 by_cases e1:bl<=al
 ·rw [if_pos (decide_eq_true (show (bl:Int)<=(al:Int) by omega))]
  by_cases e2:al<=bh
  ·rw [decide_eq_true (show bl<=al/\al<=bh from ⟨e1,e2⟩),if_pos rfl]
   refine ⟨_,rfl,?_⟩
   congr 1;simp;omega
  ·rw [decide_eq_false (show ¬ (bl<=al/\al<=bh) by omega),if_neg (by decide)]
   refine ⟨_,rfl,?_⟩
   congr 1;symm;simp;omega
 ·rw [if_neg (by simp;omega),decide_eq_false (show ¬ (bl<=al/\al<=bh) by omega),if_neg (by decide)]
  exact ⟨_,rfl,rfl⟩
end Go.Proofs.YtbmknhpfkpmigaaGreatDoor
namespace Go.Proofs.YtbmknhpfkpmigaaGreatDoor
open Go.Sx
theorem zmu {σ ρ:Type} {b1 b2:Nat->(σ->Option ρ)->σ->Option ρ} {out:σ->ρ} {N:Nat} (h: ∀ i again s,i<N->b1 i again s=b2 i again s): ∀ (n i:Nat) (s:σ),i+n=N->qf b1 out n i s=qf b2 out n i s:=by
 intro n
 induction n with
 | zero=>intro i s _;rfl
 | succ n ih=>
  intro i s hi
  show b1 i (qf b1 out n (i+1)) s=b2 i (qf b2 out n (i+1)) s
  rw [h i _ s (by omega),show qf b1 out n (i+1)=qf b2 out n (i+1) from funext fun s=>ih (i+1) s (by omega)]
theorem zlI (op:Int):xY op=some (inB op 1 10):=rfl
theorem zk4 (op:Int):jz op=some (inB op 16 19):=rfl
def wrB (i:ze):Int×Bool:=if qj i then (if (decide (i.Op<=11)||(decide (i.Op=13)||decide (i.Op=14))) then (i.D,true) else (0,i.Op==21)) else (0,false)
theorem zpU (i:ze):vV i=some (wrB i):=by
 unfold wrB
 by_cases h:qj i=true
 ·have ho:=zfr h
  obtain ⟨f,h1,h2,_⟩:=zi6 i.Op ho.1 (by omega)
  unfold vV
  simp only [zaD,h,h1,h2,zbs,Bool.not_true,zfe,if_false,if_true,Bool.or_assoc]
  split<;>rfl
 ·have h':qj i=false:=by simpa using h
  unfold vV
  simp only [zaD,h',zbs,Bool.not_false,if_true,zfe,if_false]
theorem zrL (i:ze):vH i=some (wrB i):=by
 unfold wrB vH
 rw [zbL]
 by_cases h:qj i=true
 ·simp only [h,zbs,Bool.not_true,zfe,if_false,if_true,Bool.or_assoc]
  have:((decide (i.Op<=11)||((i.Op==13)||(i.Op==14))))=(decide (i.Op<=11)||(decide (i.Op=13)||decide (i.Op=14))):=rfl
  rw [this]
  split<;>rfl
 ·have h':qj i=false:=by simpa using h
  simp only [h',zbs,Bool.not_false,if_true,zfe,if_false]
theorem zqM {i:ze} (h:qj i=true):vI i=some (decide (i.Op<=12)||(decide (16<=i.Op)&&decide (i.Op<=19))):=by
 unfold vI
 rw [zbL,h]
 simp only [zbs,if_true,zk4]
 by_cases h1:i.Op<=12
 ·simp [h1]
 ·simp [h1,inB]
theorem zj8 (k:Fin 7):vW 1000 ((k:Nat):Int)=zaL ((k:Nat):Int):=by
 match k with
 | ⟨0,_⟩=>rfl
 | ⟨1,_⟩=>rfl
 | ⟨2,_⟩=>rfl
 | ⟨3,_⟩=>rfl
 | ⟨4,_⟩=>rfl
 | ⟨5,_⟩=>rfl
 | ⟨6,_⟩=>rfl
theorem zk5 (k:Fin 7):zbI ((k:Nat):Int)=zaX ((k:Nat):Int):=by
 match k with
 | ⟨0,_⟩=>rfl
 | ⟨1,_⟩=>rfl
 | ⟨2,_⟩=>rfl
 | ⟨3,_⟩=>rfl
 | ⟨4,_⟩=>rfl
 | ⟨5,_⟩=>rfl
 | ⟨6,_⟩=>rfl
theorem znQ (k:Fin 7): ∃ l,vW 1000 ((k:Nat):Int)=some l/\l.length<=3/\ ∀ x∈l,SW x.Sp:=by
 have z:SW ⟨0,0⟩:=SW.zero
 have f:SW ⟨0,18446744073709551615⟩:=SW.full
 have s:SW ⟨0,15⟩:=⟨by decide,by decide,by decide⟩
 match k with
 | ⟨0,_⟩=>exact ⟨[⟨2,⟨0,0⟩,0⟩,⟨1,⟨0,18446744073709551615⟩,0⟩],rfl,by decide,by simp [z,f]⟩
 | ⟨1,_⟩=>exact ⟨[⟨2,⟨0,0⟩,0⟩,⟨1,⟨0,18446744073709551615⟩,0⟩],rfl,by decide,by simp [z,f]⟩
 | ⟨2,_⟩=>exact ⟨[⟨2,⟨0,0⟩,0⟩,⟨1,⟨0,18446744073709551615⟩,0⟩,⟨1,⟨0,18446744073709551615⟩,0⟩],rfl,by decide,by simp [z,f]⟩
 | ⟨3,_⟩=>exact ⟨[⟨2,⟨0,0⟩,0⟩,⟨1,⟨0,18446744073709551615⟩,0⟩],rfl,by decide,by simp [z,f]⟩
 | ⟨4,_⟩=>exact ⟨[⟨2,⟨0,0⟩,0⟩,⟨1,⟨0,18446744073709551615⟩,0⟩,⟨1,⟨0,18446744073709551615⟩,0⟩],rfl,by decide,by simp [z,f]⟩
 | ⟨5,_⟩=>exact ⟨[⟨1,⟨0,15⟩,0⟩],rfl,by decide,by simp [s]⟩
 | ⟨6,_⟩=>exact ⟨[⟨1,⟨0,18446744073709551615⟩,0⟩],rfl,by decide,by simp [f]⟩
theorem zmv (k:Fin 7) {ys:List zb} (hy: ∀ y∈ys,SW y.Sp):zaQ 1000 ((k:Nat):Int) ys=zab ((k:Nat):Int) ys:=by
 obtain ⟨l,ha,_,hw⟩:=znQ k
 have hs: ∃ s,zea ((k:Nat):Int)=some (s,true):=by
  obtain ⟨s,h,_⟩:=zlC k
  exact ⟨s,h⟩
 obtain ⟨s,hs⟩:=hs
 have hk:=k.isLt
 unfold zaQ zab
 rw [hs,<- zj8 k,ha]
 have c:(decide ((((k:Nat):Int))<0)||decide (((k:Nat):Int)>6))=false:=by
  rw [Bool.or_eq_false_iff];exact ⟨decide_eq_false (by omega),decide_eq_false (by omega)⟩
 simp only [zbs,Bool.not_true,zfe,if_false,c]
 by_cases hl:l.length=ys.length
 ·have:((l.length:Int) != (ys.length:Int))=false:=by simp;omega
  simp only [this,zfe,if_false]
  rw [zmu (N:=l.length) (b1:=zau ys l) (b2:=zbu ys l) ?_ _ _ _ (by omega)]
  intro i again u hi
  unfold zau zbu
  rw [zgl hi,zgl (by omega:i<ys.length)]
  simp only [zbs]
  have w1:=hw _ (List.getElem_mem hi)
  have w2:=hy _ (List.getElem_mem (by omega:i<ys.length))
  obtain ⟨r,e1,e2⟩:=zh0 w2 w1
  rw [e1,e2]
  by_cases hkd:(l[i]).Ki=(ys[i]'(by omega)).Ki
  ·rw [hkd]
  ·have a1:((l[i]).Ki != (ys[i]'(by omega)).Ki)=true:=by simpa using hkd
   have a2:((ys[i]'(by omega)).Ki != (l[i]).Ki)=true:=by simpa using fun h=>hkd h.symm
   rw [a1,a2]
   try rfl
 ·have:((l.length:Int) != (ys.length:Int))=true:=by simp;omega
  simp only [this,if_true]
theorem znR (fu:Nat) (l:List Int): ∃ b,zdj l=some b/\xJ fu l=some b:=by
 obtain ⟨b,h1,h2⟩:=znn l
 refine ⟨b,h1,?_⟩
 have:OK (xJ fu l) (fun r=>r=true↔zhJ l):=by
  unfold xJ
  refine OK.ite (fun h=>OK.ret ?_) (fun h=> ?_)
  ·simp only [zdq] at h
   exact ⟨fun e=>(by cases e),fun g=>(by have:=g.2.2;omega)⟩
  ·simp only [decide_eq_false_iff_not] at h
   refine OK.bind2 (OK.count (Q:=fun o=>match o with | .inl _=>(∀ x∈l,0<=x/\x<4)/\l.Nodup | .inr r=>r=false/\ ¬ zhJ l) (fun i _=>(∀ x∈l.take i,0<=x/\x<4)/\(l.take i).Nodup) (by simp) (fun i s again hi hI k=> ?_) (fun s hI=> ?_)) (fun o ho=> ?_)
   ·unfold zdw
    rw [zgl hi]
    simp only [zbs]
    have hb:(if decide (l[i]<0)=true then some true else some (decide (l[i]>3)):Option Bool)=some (decide (l[i]<0)||decide (l[i]>3)):=by
     by_cases hc:l[i]<0
     ·simp [hc]
     ·simp [hc]
    rw [hb]
    simp only [zbs]
    refine OK.ite (fun hc=>OK.ret ?_) (fun hc=> ?_)
    ·refine ⟨rfl,fun g=> ?_⟩
     have:=g.1 _ (List.getElem_mem hi)
     simp only [Bool.or_eq_true,zdq] at hc
     omega
    ·simp only [Bool.or_eq_false_iff,decide_eq_false_iff_not] at hc
     refine OK.bind2 (R:=fun o=>match o with | .inl _=>l[i] ∉ l.take i | .inr r=>r=false/\l[i]∈l.take i) ?_ (fun o ho=> ?_)
     ·refine OK.bind (OK.hasRoom (by omega) ?_)
      refine OK.count (fun j _=>l[i] ∉ l.take j) (by simp) (fun j u again2 hj hJ k2=> ?_) (fun u hJ=>hJ)
      unfold zdv
      rw [zgl (by omega:j<l.length),zgl hi]
      simp only [zbs]
      refine OK.ite (fun he=>OK.ret ⟨rfl,?_⟩) (fun he=>k2 _ ?_)
      ·simp only [beq_iff_eq] at he
       rw [<- he]
       rw [List.mem_take_iff_getElem]
       exact ⟨j,by omega,rfl⟩
      ·simp only [beq_eq_false_iff_ne,ne_eq] at he
       rw [List.take_succ_eq_append_getElem (by omega),List.mem_append]
       rintro (h1 | h1)
       ·exact hJ h1
       ·simp only [List.mem_singleton] at h1;exact he h1.symm
     ·match o,ho with
      | .inl _,ho=>
       refine k () ?_
       constructor
       ·intro x hx
        rw [List.take_succ_eq_append_getElem hi,List.mem_append] at hx
        rcases hx with hx | hx
        ·exact hI.1 x hx
        ·simp only [List.mem_singleton] at hx;subst hx;omega
       ·exact (zfs hi).2 ⟨hI.2,ho⟩
      | .inr r,ho=>
       refine OK.ret ⟨ho.1,fun g=> ?_⟩
       have:=(zfs hi).1 (List.Nodup.sublist (List.take_sublist (i+1) l) g.2.1)
       exact this.2 ho.2
   ·rw [List.take_length] at hI;exact hI
   ·match o,ho with
    | .inl _,ho=>exact OK.ret ⟨fun _=>⟨ho.1,ho.2,by omega⟩,fun _=>rfl⟩
    | .inr r,ho=>exact OK.ret ⟨fun e=>(by rw [ho.1] at e;cases e),fun g=>absurd g ho.2⟩
 obtain ⟨c,h3,h4⟩:=this
 rw [h3]
 congr 1
 rw [Bool.eq_iff_iff,h2,h4]
end Go.Proofs.YtbmknhpfkpmigaaGreatDoor
namespace Go.Proofs.YtbmknhpfkpmigaaGreatDoor
open Go.Sx
theorem zkF {α:Type} {n r:Nat} (a:Nat->α) (h:r<n):(vp n a)[r]? =some (a r):=by simp [vp,h]
theorem vR {α:Type} {n:Nat} (a:Nat->α) {t:Int} (h0:0<=t) (h1:t<n):idx (vp n a) t=some (a t.toNat):=by
 unfold Go.Sx.idx
 rw [if_pos h0,zkF a (by omega)]
theorem zcB {α:Type} {n:Nat} (a:Nat->α) (t:Nat) (x:α):(vp n a).set t x=vp n (zcg a t x):=by
 apply List.ext_getElem?
 intro q
 by_cases hq:q<n
 ·rw [zkF _ hq]
  by_cases e:t=q
  ·subst e
   rw [List.getElem?_set_self (by rw [zbD];exact hq)];simp [zcg]
  ·rw [List.getElem?_set_ne e,zkF _ hq];simp [zcg,Ne.symm e]
 ·rw [List.getElem?_eq_none (by rw [List.length_set,zbD];omega),List.getElem?_eq_none (by rw [zbD];omega)]
theorem ziX {α:Type} {n:Nat} {a b:Nat->α} (h: ∀ r,r<n->a r=b r):vp n a=vp n b:=by
 unfold vp
 exact List.map_congr_left (fun r hr=>h r (by simpa using hr))
theorem zqf (a:zb):vr [a]=some (if a.Ki != 1 then 33 else 0):=by
 by_cases h:(a.Ki != 1)=true
 ·rw [if_pos h]
  show (qh [a] 0 (qf (qh [a]) _ 0 1) ()).bind _=_
  unfold qh
  show ((if (a.Ki != 1)=true then some (.inr 33) else _:Option (Unit ⊕ Int))).bind _=_
  rw [if_pos h];rfl
 ·rw [if_neg h]
  show (qh [a] 0 (qf (qh [a]) _ 0 1) ()).bind _=_
  unfold qh
  show ((if (a.Ki != 1)=true then some (.inr 33) else _:Option (Unit ⊕ Int))).bind _=_
  rw [if_neg h];rfl
theorem zqg (a b:zb):vr [a,b]=some (if (a.Ki != 1||b.Ki != 1) then 33 else 0):=by
 show (qh [a,b] 0 (qf (qh [a,b]) _ 1 1) ()).bind _=_
 by_cases h:(a.Ki != 1)=true
 ·rw [h,Bool.true_or,if_pos rfl]
  unfold qh
  show ((if (a.Ki != 1)=true then some (.inr 33) else _:Option (Unit ⊕ Int))).bind _=_
  rw [if_pos h];rfl
 ·have h':(a.Ki != 1)=false:=by simpa using h
  rw [h',Bool.false_or]
  have e:qh [a,b] 0 (qf (qh [a,b]) (fun (s:Unit)=>(.inl ())) 1 1) ()=(qf (qh [a,b]) (fun (s:Unit)=>(.inl ())) 1 1) ():=by
   conv=>lhs;unfold qh
   show ((if (a.Ki != 1)=true then some (.inr 33) else _:Option (Unit ⊕ Int)))=_
   rw [if_neg h];rfl
  rw [e]
  show (qh [a,b] 1 (qf (qh [a,b]) _ 0 2) ()).bind _=_
  unfold qh
  show ((if (b.Ki != 1)=true then some (.inr 33) else _:Option (Unit ⊕ Int))).bind _=_
  by_cases hb:(b.Ki != 1)=true
  ·rw [if_pos hb,if_pos hb];rfl
  ·rw [if_neg hb,if_neg hb];rfl
theorem zpI (x y:Int):zbH [x,y]=some (if x != 0 then x else y):=by
 show (jd [x,y] 0 (qf (jd [x,y]) _ 1 1) ()).bind _=_
 by_cases h:(x != 0)=true
 ·rw [if_pos h]
  unfold jd
  show ((if (x != 0)=true then some (.inr x) else _:Option (Unit ⊕ Int))).bind _=_
  rw [if_pos h];rfl
 ·rw [if_neg h]
  have e:jd [x,y] 0 (qf (jd [x,y]) (fun (s:Unit)=>(.inl ())) 1 1) ()=(qf (jd [x,y]) (fun (s:Unit)=>(.inl ())) 1 1) ():=by
   conv=>lhs;unfold jd
   show ((if (x != 0)=true then some (.inr x) else _:Option (Unit ⊕ Int)))=_
   rw [if_neg h];rfl
  rw [e]
  show (jd [x,y] 1 (qf (jd [x,y]) _ 0 2) ()).bind _=_
  unfold jd
  show ((if (y != 0)=true then some (.inr y) else _:Option (Unit ⊕ Int))).bind _=_
  by_cases hb:(y != 0)=true
  ·rw [if_pos hb];rfl
  ·have:y=0:=by simpa using hb
   subst this;rfl
theorem zrz {t:zb} (h:SW t.Sp):zbT t=some (if decide (t.Sp.Hi>15) then 35 else 0):=by
 unfold zbT vJ
 rw [zeb h]
 simp only [zbs,if_true]
 rw [if_pos (decide_eq_true h.1)]
 simp only [zbs]
 by_cases hc:t.Sp.Hi<=15
 ·rw [decide_eq_true hc,decide_eq_false (by omega)];rfl
 ·rw [decide_eq_false hc,decide_eq_true (by omega)];rfl
theorem zm3 {n:Nat} {a b:zb} (ha:WT n a) (hb:WT n b): ∃ r,zcr a b=some r/\zaM a b=some r:=by
 obtain ⟨r,e1,e2⟩:=zh0 ha.span hb.span
 unfold zcr zaM
 rcases hb with rfl | ⟨k1,_,m1⟩ | ⟨k1,s1,m1,m2⟩
 ·exact ⟨true,rfl,rfl⟩
 ·rw [k1,e1,e2]
  by_cases hk:a.Ki=1
  ·rw [hk];exact ⟨r,rfl,rfl⟩
  ·have x1:(a.Ki==1)=false:=by simpa using hk
   have x2:(a.Ki != 1)=true:=by simpa using hk
   rw [x1,x2];exact ⟨false,rfl,rfl⟩
 ·rw [k1]
  rcases ha with rfl | ⟨ka,sa,ma⟩ | ⟨ka,sa,ma,mb⟩
  ·exact ⟨false,rfl,rfl⟩
  ·rw [ka];exact ⟨false,rfl,rfl⟩
  ·rw [ka,sa,s1]
   refine ⟨a.Map==b.Map,?_,rfl⟩
   show some _=some _
   simp
theorem ziv {i:ze} {k:Nat->zb} (h:i.B=8\/(0<=i.B/\i.B<8)):jq i (vp 8 k)=some (zhg i k):=by
 unfold jq zhg
 rcases h with h | h
 ·rw [h];rfl
 ·have:(i.B==8)=false:=by simp;omega
  rw [this]
  simp only [zfe,if_false]
  rw [vR k h.1 (by omega)];rfl
theorem zkG:zaJ=some ⟨1,⟨0,18446744073709551615⟩,0⟩:=rfl
theorem zpJ (a b:Int):xw a b=some ⟨1,⟨a,b⟩,0⟩:=rfl
theorem zoT {n:Nat} {k kh:Nat->zb} (hk: ∀ r,r<8->WT n (k r)) (hh: ∀ r,r<8->WT n (kh r)) {j:zf} {p:Int} {i:ze} (hj:idx j.ca (w64 (p-i.D))=some kh):
  ∀ (c r:Nat),r+c=8-> ∃ b:Bool,qf (qw j p (i,k)) (fun (s:Unit)=>(.inl ())) c r ()=some (if b then .inl () else .inr (k,33))/\
   qf (xo (vp 8 k) (vp 8 kh)) (fun (s:Unit)=>(.inl ())) c r ()=some (if b then .inl () else .inr 33):=by
 intro c
 induction c with
 | zero=>intro r _;exact ⟨true,rfl,rfl⟩
 | succ c ih=>
  intro r hr
  obtain ⟨f,e1,e2⟩:=zm3 (hk r (by omega)) (hh r (by omega))
  have s1: ∀ again,qw j p (i,k) r again ()=if f then again () else some (.inr (k,33)):=by
   intro again
   unfold qw
   rw [zr4 (by omega:r<8),hj]
   simp only [zbs,e1]
   cases f<;>rfl
  have s2: ∀ again,xo (vp 8 k) (vp 8 kh) r again ()=if f then again () else some (.inr 33):=by
   intro again
   unfold xo
   rw [vR k (by omega) (by omega),vR kh (by omega) (by omega)]
   simp only [zbs,Int.toNat_natCast,e2]
   cases f<;>rfl
  show ∃ b,qw j p (i,k) r (qf (qw j p (i,k)) (fun (s:Unit)=>(.inl ())) c (r+1)) ()=_/\xo (vp 8 k) (vp 8 kh) r (qf (xo (vp 8 k) (vp 8 kh)) (fun (s:Unit)=>(.inl ())) c (r+1)) ()=_
  rw [s1,s2]
  cases f with
  | true=>exact ih (r+1) (by omega)
  | false=>exact ⟨false,rfl,rfl⟩
theorem zlu {fu:Nat} (hf:70<=fu) {m:zg} {j:zf} (h:JI m j) (hg:zii m.Co) {p:Nat} (hp:p<m.Co.length) {i:ze} {k kh:Nat->zb} (hi:m.Co[p]? =some i) (hk:j.ca[p]? =some k)
  (hh: ∀ r,r<8->WT m.Ms.length (kh r)) (hkh:i.Op=20->idx j.ca (w64 ((p:Int)-i.D))=some kh):
  ∃ k' e,ju 1000 j p=some (k',e)/\xg m p (vp 8 k) (vp 8 kh)=some e/\(15<=i.Op->i.Op<=20->k'=k)/\
   (e=0-> ∀ b,¬ (16<=i.Op/\i.Op<=19)->qR fu m p (vp 8 k) b=some (vp 8 k',true)):=by
 have hr:qj i=true:=hg.fine.right hi
 have ho:=zfr hr
 have hwt:=h.wt p k hk
 have hA:=zhH hr
 have hD:=zi5 hr
 have hS:=ze8 hr
 have eidx:idx m.Co (p:Int)=some i:=by unfold Go.Sx.idx;rw [if_pos (by omega)];exact hi
 have eidk:idx j.ca (p:Int)=some k:=by unfold Go.Sx.idx;rw [if_pos (by omega)];exact hk
 have hm:=h.mod
 have hroom:room (([]:List zb).length+(vp 8 k).length) 32=some ():=by rw [zbD];rfl
 have e0:([]:List zb)++vp 8 k=vp 8 k:=rfl
 have hsw: ∀ t,WT m.Ms.length t->SW t.Sp:=fun t ht=>ht.span
 have hkA:=hwt i.A.toNat (by omega)
 unfold ju xg qR
 rw [hm,eidx,eidk]
 simp only [zbs,zjW hr,zqM hr,zlI,zk4,hroom,e0,zmd hA.1 hA.2,vR k hA.1 hA.2]
 by_cases g1:1<=i.Op/\i.Op<=10
 ·have hs:=hS (.inl (by omega))
  have hw:=ze9 hs hwt
  have q0:(i.Op==0)=false:=by simp;omega
  have q11:(i.Op==11)=false:=by simp;omega
  have q12:(i.Op==12)=false:=by simp;omega
  have q13:(i.Op==13)=false:=by simp;omega
  have q14:(i.Op==14)=false:=by simp;omega
  have q15:(i.Op==15)=false:=by simp;omega
  have q16:(i.Op==16)=false:=by simp;omega
  have q17:(i.Op==17)=false:=by simp;omega
  have q18:(i.Op==18)=false:=by simp;omega
  have q19:(i.Op==19)=false:=by simp;omega
  have q20:(i.Op==20)=false:=by simp;omega
  have q21:(i.Op==21)=false:=by simp;omega
  have q22:(i.Op==22)=false:=by simp;omega
  have d12:decide (i.Op<=12)=true:=decide_eq_true (by omega)
  have b1:inB i.Op 1 10=true:=by unfold inB;rw [zae];exact ⟨decide_eq_true g1.1,decide_eq_true g1.2⟩
  have dD:=hD (by omega)
  obtain ⟨s,e1,e2⟩:=zqW hf (op:=i.Op) hkA.span hw.span g1.1 g1.2
  simp only [q0,q11,q12,q13,q14,q15,q16,q17,q18,q19,q20,q21,q22,d12,b1,Bool.true_or,Bool.or_self,zfe,if_false,if_true,zbs,zg5 hs,ziv hs,e1,e2,zqg,zcQ,zpJ,zmd dD.1 dD.2,vR k dD.1 dD.2,zcB,Bool.false_and]
  refine ⟨_,_,rfl,?_,fun h=>absurd h (by first | decide | omega),fun _ _ _=>rfl⟩
  by_cases ha:((k i.A.toNat).Ki != 1)=true
  ·simp only [ha,if_true,zbs,Bool.true_or]
  ·have ha':((k i.A.toNat).Ki != 1)=false:=by simpa using ha
   by_cases hb:((zhg i k).Ki != 1)=true
   ·simp only [ha',hb,if_true,zbs,Bool.false_or,zfe,if_false]
   ·have hb':((zhg i k).Ki != 1)=false:=by simpa using hb
    simp only [ha',hb',zbs,Bool.false_or,zfe,if_false]
 by_cases g2:16<=i.Op/\i.Op<=19
 ·have hs:=hS (.inr (by omega))
  have hw:=ze9 hs hwt
  have q0:(i.Op==0)=false:=by simp;omega
  have q11:(i.Op==11)=false:=by simp;omega
  have q12:(i.Op==12)=false:=by simp;omega
  have q13:(i.Op==13)=false:=by simp;omega
  have q14:(i.Op==14)=false:=by simp;omega
  have q15:(i.Op==15)=false:=by simp;omega
  have q20:(i.Op==20)=false:=by simp;omega
  have q21:(i.Op==21)=false:=by simp;omega
  have q22:(i.Op==22)=false:=by simp;omega
  have d12:(decide (i.Op<=12)||(decide (16<=i.Op)&&decide (i.Op<=19)))=true:=by
   rw [Bool.or_eq_true,zae];exact .inr ⟨decide_eq_true g2.1,decide_eq_true g2.2⟩
  have hj:(if (i.Op==16)=true then some (i.Op==16) else if (i.Op==17)=true then some (i.Op==17) else if (i.Op==18)=true then some (i.Op==18) else some (i.Op==19):Option Bool)=some true:=by
   have hop:i.Op=16\/i.Op=17\/i.Op=18\/i.Op=19:=by omega
   rcases hop with e | e | e | e<;>rw [e]<;>rfl
  simp only [q0,q11,q12,q13,q14,q15,q20,q21,q22,d12,hj,Bool.or_self,zfe,if_false,if_true,zbs,zg5 hs,ziv hs,zqg,Bool.false_and]
  refine ⟨_,_,rfl,?_,fun _ _=>rfl,fun _ _ hx=>absurd g2 hx⟩
  by_cases ha:((k i.A.toNat).Ki != 1)=true
  ·simp only [ha,if_true,zbs,Bool.true_or]
  ·have ha':((k i.A.toNat).Ki != 1)=false:=by simpa using ha
   by_cases hb:((zhg i k).Ki != 1)=true
   ·simp only [ha',hb,if_true,zbs,Bool.false_or,zfe,if_false]
   ·have hb':((zhg i k).Ki != 1)=false:=by simpa using hb
    simp only [ha',hb',zbs,Bool.false_or,zfe,if_false]
 have hop:i.Op=0\/i.Op=11\/i.Op=12\/i.Op=13\/i.Op=14\/i.Op=15\/i.Op=20\/i.Op=21\/i.Op=22:=by omega
 rcases hop with e | e | e | e | e | e | e | e | e
 ·have hs:=hS (.inl (by omega))
  have dD:=hD (by omega)
  simp only [e,Int.reduceBEq,Int.reduceLE,decide_true,Bool.true_or,if_true,zbs,zg5 hs,ziv hs,zmd dD.1 dD.2,vR k dD.1 dD.2,zcB]
  by_cases hc:((zhg i k).Ki==0)=true
  ·simp only [hc,if_true,zbs]
   exact ⟨_,_,rfl,rfl,fun h=>absurd h (by first | decide | omega),fun h=>by cases h⟩
  ·simp only [hc,zfe,if_false,zbs,Int.reduceBEq,Bool.or_self,Bool.false_and]
   exact ⟨_,_,rfl,rfl,fun h=>absurd h (by first | decide | omega),fun _ _ _=>rfl⟩
 ·have hs:=hS (.inl (by omega))
  have hw:=ze9 hs hwt
  have dD:=hD (by omega)
  have b1:inB 11 1 10=false:=rfl
  simp only [e,b1,Int.reduceBEq,Int.reduceLE,decide_true,Bool.true_or,Bool.or_true,Bool.or_false,zfe,if_false,if_true,zbs,zg5 hs,ziv hs,zmd dD.1 dD.2,vR k dD.1 dD.2,zcB,zeG,zcQ,zkG,zqf,zrz hw.span,zpI,Bool.or_self,Bool.true_and]
  refine ⟨_,_,rfl,?_,fun h=>absurd h (by first | decide | omega),fun _ _ _=>rfl⟩
  by_cases hb:((zhg i k).Ki != 1)=true
  ·simp only [hb,if_true,zbs];rfl
  ·simp only [hb,zfe,if_false,zbs]
   by_cases hx:(zhg i k).Sp.Hi>15
   ·simp only [decide_eq_true hx,if_true];rfl
   ·simp only [decide_eq_false hx,zfe,if_false];rfl
 ·have hs:=hS (.inl (by omega))
  have hw:=ze9 hs hwt
  have b1:inB 12 1 10=false:=rfl
  have b2:inB 12 16 19=false:=rfl
  simp only [e,b1,b2,Int.reduceBEq,Int.reduceLE,decide_true,Bool.true_or,Bool.or_true,Bool.or_false,zfe,if_false,if_true,zbs,zg5 hs,ziv hs,zqg,zrz hw.span,zpI,Bool.or_self,Bool.true_and]
  refine ⟨_,_,rfl,?_,fun h=>absurd h (by first | decide | omega),fun _ _ _=>rfl⟩
  by_cases ha:((k i.A.toNat).Ki != 1)=true
  ·simp only [ha,if_true,zbs,Bool.true_or];rfl
  ·have ha':((k i.A.toNat).Ki != 1)=false:=by simpa using ha
   by_cases hb:((zhg i k).Ki != 1)=true
   ·simp only [ha',hb,if_true,zbs,Bool.false_or,zfe,if_false];rfl
   ·have hb':((zhg i k).Ki != 1)=false:=by simpa using hb
    simp only [ha',hb',zbs,Bool.false_or,zfe,if_false]
    by_cases hx:(zhg i k).Sp.Hi>15
    ·simp only [decide_eq_true hx,if_true];rfl
    ·simp only [decide_eq_false hx,zfe,if_false];rfl
 ·have dD:=hD (by omega)
  have b1:inB 13 1 10=false:=rfl
  simp only [e,b1,Int.reduceBEq,Int.reduceLE,decide_true,decide_false,Bool.true_or,Bool.or_true,Bool.or_false,zfe,if_false,if_true,zbs,zmd dD.1 dD.2,vR k dD.1 dD.2,zcB,zeG,zcQ,zkG,Bool.or_self,Bool.false_and,Bool.true_and]
  exact ⟨_,_,rfl,rfl,fun h=>absurd h (by first | decide | omega),fun _ _ _=>rfl⟩
 ·have dD:=hD (by omega)
  have b1:inB 14 1 10=false:=rfl
  simp only [e,b1,Int.reduceBEq,Int.reduceLE,decide_true,decide_false,Bool.true_or,Bool.or_true,Bool.or_false,zfe,if_false,if_true,zbs,zmd dD.1 dD.2,vR k dD.1 dD.2,zcB,Bool.or_self,Bool.false_and,Bool.true_and]
  by_cases hx:i.Imm>=(m.Ms.length:Int)
  ·simp only [decide_eq_true hx,if_true,zbs]
   exact ⟨_,_,rfl,rfl,fun h=>absurd h (by first | decide | omega),fun _ _ _=>rfl⟩
  ·simp only [decide_eq_false hx,zfe,if_false,zbs]
   exact ⟨_,_,rfl,rfl,fun h=>absurd h (by first | decide | omega),fun _ _ _=>rfl⟩
 ·have b1:inB 15 1 10=false:=rfl
  have b2:inB 15 16 19=false:=rfl
  simp only [e,b1,b2,Int.reduceBEq,Int.reduceLE,decide_true,decide_false,Bool.true_or,Bool.or_true,Bool.or_false,zfe,if_false,if_true,zbs,Bool.or_self,Bool.false_and,Bool.true_and]
  exact ⟨_,_,rfl,rfl,fun _ _=>rfl,fun _ _ _=>rfl⟩
 ·have b1:inB 20 1 10=false:=rfl
  have b2:inB 20 16 19=false:=rfl
  simp only [e,b1,b2,Int.reduceBEq,Int.reduceLE,decide_true,decide_false,Bool.true_or,Bool.or_true,Bool.or_false,zfe,if_false,if_true,zbs,Bool.or_self,Bool.false_and,Bool.true_and,Bool.and_false,zqf]
  by_cases ha:((k i.A.toNat).Ki != 1)=true
  ·simp only [ha,if_true,zbs]
   exact ⟨_,_,rfl,rfl,fun _ _=>rfl,fun h=>by cases h⟩
  ·simp only [ha,zfe,if_false,zbs,Int.reduceBNe]
   obtain ⟨b,e1,e2⟩:=zoT (i:=i) (p:=(p:Int)) (j:=j) hwt hh (hkh e) 8 0 rfl
   rw [e1,e2]
   cases b with
   | true=>exact ⟨_,_,rfl,rfl,fun _ _=>rfl,fun _ _ _=>rfl⟩
   | false=>exact ⟨_,_,rfl,rfl,fun _ _=>rfl,fun h=>by cases h⟩
 ·have b1:inB 21 1 10=false:=rfl
  have hI:=zjT hr e
  obtain ⟨c,hc⟩: ∃ c:Fin 7,i.Imm=((c:Nat):Int):=⟨⟨i.Imm.toNat,by omega⟩,by simp;omega⟩
  obtain ⟨l,ha,hl,_⟩:=znQ c
  have hcut:cut (vp 8 k) 1 (w64 (1+((l.length:Nat):Int)))=some (((vp 8 k).take (1+l.length)).drop 1):=by
   rw [qN (by omega) (by omega),show (1:Int)+((l.length:Nat):Int)=((1+l.length:Nat):Int) by push_cast;rfl]
   exact zjX (lo:=1) (by omega) (by rw [zbD];omega)
  have hys: ∀ y∈((vp 8 k).take (1+l.length)).drop 1,SW y.Sp:=by
   intro y hy
   have:=List.mem_of_mem_take (List.mem_of_mem_drop hy)
   unfold vp at this
   simp only [List.mem_map,List.mem_range] at this
   obtain ⟨r,hr8,rfl⟩:=this
   exact (hwt r hr8).span
  obtain ⟨l2,ha2,hl2⟩:=znl c
  have hck:=zmv c hys
  obtain ⟨y,hy,_⟩:=zjY c ha2 (((vp 8 k).take (1+l.length)).drop 1)
  obtain ⟨s,hs1,_⟩:=zlC c
  have hres: ∃ r,zbI ((c:Nat):Int)=some r:=by
   unfold zbI
   rw [hs1]
   exact ⟨_,rfl⟩
  obtain ⟨r,hres⟩:=hres
  have hres2:=zk5 c
  rw [hres] at hres2
  have haR:=zj8 c
  rw [ha] at haR
  rw [hy] at hck
  simp only [e,b1,hc,<- haR,ha,hcut,hy,<- hck,hres,<- hres2,Int.reduceBEq,Int.reduceLE,decide_true,decide_false,Bool.true_or,Bool.or_true,Bool.or_false,zfe,if_false,if_true,zbs,vR k (show (0:Int)<=0 by decide) (show (0:Int)<(8:Nat) by decide),zcB,Bool.or_self,Bool.false_and,Bool.true_and,Bool.and_false]
  exact ⟨_,_,rfl,rfl,fun _ h=>absurd h (by first | decide | omega),fun _ _ _=>rfl⟩
 ·have b1:inB 22 1 10=false:=rfl
  have b2:inB 22 16 19=false:=rfl
  simp only [e,b1,b2,Int.reduceBEq,Int.reduceLE,decide_true,decide_false,Bool.true_or,Bool.or_true,Bool.or_false,zfe,if_false,if_true,zbs,Bool.or_self,Bool.false_and,Bool.true_and,Bool.and_false,zqf]
  by_cases ha:((k i.A.toNat).Ki != 1)=true
  ·simp only [ha,if_true,zbs]
   exact ⟨_,_,rfl,rfl,fun _ h=>absurd h (by first | decide | omega),fun h=>by cases h⟩
  ·simp only [ha,zfe,if_false,zbs]
   exact ⟨_,_,rfl,rfl,fun _ h=>absurd h (by first | decide | omega),fun _ _ _=>rfl⟩
theorem zkH {fu:Nat} {m:zg} {n p:Nat} {i:ze} {k:Nat->zb} (hi:m.Co[p]? =some i) (hr:qj i=true) (hwt: ∀ r,r<8->WT n (k r)) (g:16<=i.Op/\i.Op<=19) (b:Bool):
  ∃ s ok,xG i.Op (k i.A.toNat).Sp (zhg i k).Sp b=some (s,ok)/\qR fu m p (vp 8 k) b=some (if ok then (vp 8 (zcg k i.A.toNat ⟨1,s,0⟩),true) else ([],false)):=by
 have hA:=zhH hr
 have hs:=ze8 hr (.inr (by omega))
 have hw:=ze9 hs hwt
 have eidx:idx m.Co (p:Int)=some i:=by unfold Go.Sx.idx;rw [if_pos (by omega)];exact hi
 have hroom:room (([]:List zb).length+(vp 8 k).length) 32=some ():=by rw [zbD];rfl
 have e0:([]:List zb)++vp 8 k=vp 8 k:=rfl
 have q0:(i.Op==0)=false:=by simp;omega
 have q11:(i.Op==11)=false:=by simp;omega
 have q13:(i.Op==13)=false:=by simp;omega
 have q14:(i.Op==14)=false:=by simp;omega
 have q21:(i.Op==21)=false:=by simp;omega
 have b1:inB i.Op 1 10=false:=by unfold inB;rw [Bool.and_eq_false_iff];exact .inr (decide_eq_false (by omega))
 have b2:inB i.Op 16 19=true:=by unfold inB;rw [zae];exact ⟨decide_eq_true g.1,decide_eq_true g.2⟩
 obtain ⟨r,e1,e2⟩:=zk9 (op:=i.Op) (h:=b) (hwt i.A.toNat (by omega)).span hw.span g.1 g.2
 refine ⟨r.1,r.2,e1,?_⟩
 unfold qR
 rw [eidx]
 simp only [zbs,zlI,zk4,hroom,e0,q0,q11,q13,q14,q21,b1,b2,Bool.or_self,zfe,if_false,if_true,vR k hA.1 hA.2,ziv hs,e2,zpJ,zcB]
 cases r.2<;>rfl
end Go.Proofs.YtbmknhpfkpmigaaGreatDoor
