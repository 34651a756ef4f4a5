/- Texts KSpan2, KJudge, KJudge2, KJudged of this proof. -/
import Derived.Test.YtbmknhpfkpmigaaGreatDoorKOps
set_option linter.unusedVariables false
set_option linter.unusedSimpArgs false
namespace Go.Proofs.YtbmknhpfkpmigaaGreatDoor
open Go.Sx
theorem SW.full:SW ⟨0,18446744073709551615⟩:=⟨by simp,by simp,by simp⟩
theorem SW.one {n:Int} (h0:0<=n) (h1:n<18446744073709551616):SW ⟨n,n⟩:=⟨h0,by simp,h1⟩
theorem SW.zero:SW ⟨0,0⟩:=⟨by simp,by simp,by simp⟩
theorem zr7 (n:Nat):zb4 .u64 (n:Int) 32=((n / 4294967296:Nat):Int):=zg8 32 (by omega)
theorem zqP (n:Nat) (h:n<18446744073709551616):zex .u64 (n:Int) 4294967295=((n % 4294967296:Nat):Int):=by
 rw [zht (by omega) (by omega) (by omega) (by omega)]
 have:(n:Int).toNat &&& (4294967295:Int).toNat=n % 2 ^ 32:=by
  rw [<- Nat.and_two_pow_sub_one_eq_mod]
  rfl
 rw [this]
theorem wuN {n:Nat} (h:n<18446744073709551616):jy (n:Int)=(n:Int):=zaT (by omega) (by omega)
theorem zrM {x y:Nat} (hx:x<18446744073709551616) (hy:y<18446744073709551616): ∃ hi:Nat,zeo (x:Int) (y:Int)=some ((hi:Int),jy ((x:Int)*(y:Int)))/\hi=x*y / 18446744073709551616:=by
 obtain ⟨x0,hx0⟩: ∃ q,q=x % 4294967296:=⟨_,rfl⟩
 obtain ⟨x1,hx1⟩: ∃ q,q=x / 4294967296:=⟨_,rfl⟩
 obtain ⟨y0,hy0⟩: ∃ q,q=y % 4294967296:=⟨_,rfl⟩
 obtain ⟨y1,hy1⟩: ∃ q,q=y / 4294967296:=⟨_,rfl⟩
 have ex:x=x1*4294967296+x0:=by omega
 have ey:y=y1*4294967296+y0:=by omega
 have b00:x0*y0<=4294967295*4294967295:=Nat.mul_le_mul (by omega) (by omega)
 have b01:x0*y1<=4294967295*4294967295:=Nat.mul_le_mul (by omega) (by omega)
 have b10:x1*y0<=4294967295*4294967295:=Nat.mul_le_mul (by omega) (by omega)
 have b11:x1*y1<=4294967295*4294967295:=Nat.mul_le_mul (by omega) (by omega)
 have exy:x*y=x1*y1*18446744073709551616+(x1*y0+x0*y1)*4294967296+x0*y0:=by
  rw [ex,ey]
  simp only [Nat.add_mul,Nat.mul_add,Nat.mul_assoc]
  have c1:4294967296*(y1*4294967296)=y1*18446744073709551616:=by omega
  have c2:4294967296*y0=y0*4294967296:=Nat.mul_comm _ _
  rw [c1,c2]
  omega
 unfold zeo
 simp only [zr7,zqP x hx,zqP y hy,<- hx0,<- hx1,<- hy0,<- hy1,<- Int.natCast_mul]
 generalize hp00:x0*y0=p00 at*
 generalize hp01:x0*y1=p01 at*
 generalize hp10:x1*y0=p10 at*
 generalize hp11:x1*y1=p11 at*
 rw [wuN (n:=p00) (by omega),wuN (n:=p01) (by omega),wuN (n:=p10) (by omega),wuN (n:=p11) (by omega)]
 simp only [zr7,<- Int.natCast_add]
 rw [wuN (n:=p10+p00 / 4294967296) (by omega)]
 simp only [zr7,<- Int.natCast_add]
 rw [zqP _ (by omega),wuN (n:=p11+(p10+p00 / 4294967296) / 4294967296) (by omega)]
 simp only [<- Int.natCast_add]
 rw [wuN (n:=(p10+p00 / 4294967296) % 4294967296+p01) (by omega)]
 simp only [zr7,<- Int.natCast_add]
 rw [wuN (by omega)]
 refine ⟨_,rfl,?_⟩
 rw [exy]
 omega
theorem zeG:za5=some ⟨0,18446744073709551615⟩:=rfl
theorem zet (s:zc):vt s=some (decide (s.Lo<=s.Hi)):=rfl
theorem zrN {a b:zc} (ha:SW a) (hb:SW b):OK (zfo a b) SW:=by
 obtain ⟨a0,a1,a2⟩:=ha
 obtain ⟨b0,b1,b2⟩:=hb
 unfold zfo zlW
 rw [if_pos ⟨by omega,by omega,by omega,by omega⟩]
 simp only [zbs,zeG]
 refine OK.ite (fun h=>OK.ret SW.full) (fun h=>OK.ret ?_)
 have h1:=of_decide_eq_false h
 refine ⟨(zbE _).1,?_,?_⟩
 ·show jy _<=(a.Hi+b.Hi+0) % 18446744073709551616
  rw [zaT (by omega) (by omega)]
  omega
 ·show (a.Hi+b.Hi+0) % 18446744073709551616<_
  omega
theorem zmw {a b:zc} (ha:SW a) (hb:SW b):OK (zbU a b) SW:=by
 obtain ⟨al,ah⟩:=a
 obtain ⟨bl,bh⟩:=b
 obtain ⟨a0,a1,a2⟩:=ha
 obtain ⟨b0,b1,b2⟩:=hb
 simp only at a0 a1 a2 b0 b1 b2
 obtain ⟨al,rfl⟩:=zof a0
 obtain ⟨bl,rfl⟩:=zof b0
 obtain ⟨ah,rfl⟩:=zof (show 0<=ah by omega)
 obtain ⟨bh,rfl⟩:=zof (show 0<=bh by omega)
 unfold zbU
 obtain ⟨hi,h1,h2⟩:=zrM (x:=ah) (y:=bh) (by omega) (by omega)
 simp only [h1,zbs,zeG]
 refine OK.ite (fun h=>OK.ret SW.full) (fun h=>OK.ret ?_)
 have h3:=of_decide_eq_false h
 have h4:ah*bh<18446744073709551616:=by
  have:hi=0:=by omega
  rw [this] at h2
  exact (Nat.div_eq_zero_iff_lt (by omega)).1 h2.symm
 have h5:al*bl<=ah*bh:=Nat.mul_le_mul (by omega) (by omega)
 simp only [<- Int.natCast_mul]
 rw [wuN h4,wuN (by omega)]
 exact ⟨Int.natCast_nonneg _,Int.ofNat_le.2 h5,by show ((ah*bh:Nat):Int)<_;omega⟩
theorem zgv (a b:Nat):(a:Int).tdiv (b:Int)=((a / b:Nat):Int):=rfl
theorem zmx {a b:zc} (ha:SW a) (hb:SW b):OK (zbV a b) SW:=by
 obtain ⟨al,ah⟩:=a
 obtain ⟨bl,bh⟩:=b
 obtain ⟨a0,a1,a2⟩:=ha
 obtain ⟨b0,b1,b2⟩:=hb
 simp only at a0 a1 a2 b0 b1 b2
 unfold zbV
 refine OK.ite (fun h=>OK.ret ⟨by simp,by simp;omega,by simpa using a2⟩) (fun h=> ?_)
 have hb:bl ≠ 0:=by simpa using h
 rw [zeF (show bh ≠ 0 by omega)]
 simp only [zbs]
 rw [zeF hb]
 obtain ⟨al,rfl⟩:=zof a0
 obtain ⟨bl,rfl⟩:=zof b0
 obtain ⟨ah,rfl⟩:=zof (show 0<=ah by omega)
 obtain ⟨bh,rfl⟩:=zof (show 0<=bh by omega)
 simp only [zbs,zgv]
 have h1:al / bh<=ah / bl:=Nat.le_trans (Nat.div_le_div_right (by omega)) (Nat.div_le_div_left (by omega) (by omega))
 have h2:=Nat.div_le_self ah bl
 rw [wuN (by omega),wuN (by omega)]
 exact OK.ret ⟨Int.natCast_nonneg _,Int.ofNat_le.2 h1,by show ((ah / bl:Nat):Int)<_;omega⟩
theorem zqQ {a b:zc} (ha:SW a) (hb:SW b):OK (zep a b) SW:=by
 obtain ⟨a0,a1,a2⟩:=id ha
 obtain ⟨b0,b1,b2⟩:=hb
 unfold zep
 refine OK.ite (fun h=>OK.ret ⟨by simp,by simp;omega,by simpa using a2⟩) (fun h=> ?_)
 refine OK.ite (fun h=>OK.ret ha) (fun h2=>OK.ret ?_)
 have hb:b.Lo ≠ 0:=by simpa using h
 rw [zaT (by omega) (by omega)]
 refine ⟨by simp,?_,?_⟩<;>(unfold zeR;simp only;split<;>omega)
theorem znV {n:Int} (h0:0<=n) (h1:n<18446744073709551616):OK (zcK n) (fun r=>n<=r/\r<18446744073709551616):=by
 obtain ⟨n,rfl⟩:=zof h0
 obtain ⟨k,k1,k2,k3,_⟩:=zhu (n:=n) (by omega)
 unfold zcK
 simp only [k2,zbs]
 rw [zdJ (by omega)]
 refine OK.ret ?_
 have e:zgJ .u64 1 (k:Int)=((2 ^ k % 18446744073709551616:Nat):Int):=by
  rw [zfw,show min ((k:Int)).toNat 64=k by omega,Int.one_mul]
  simp
 rw [e]
 by_cases hk:k=64
 ·subst hk
  exact ⟨by show _<=jy (((2 ^ 64 % 18446744073709551616:Nat):Int)-1);rw [zda];omega,(zbE _).2⟩
 ·have h2:(2:Nat) ^ k<=2 ^ 63:=Nat.pow_le_pow_right (by omega) (by omega)
  generalize 2 ^ k=q at*
  rw [Nat.mod_eq_of_lt (by omega),zaT (by omega) (by omega)]
  omega
theorem zqR {a b:zc} (ha:SW a) (hb:SW b):OK (zdu a b) SW:=by
 obtain ⟨al,ah⟩:=a
 obtain ⟨bl,bh⟩:=b
 obtain ⟨a0,a1,a2⟩:=ha
 obtain ⟨b0,b1,b2⟩:=hb
 simp only at a0 a1 a2 b0 b1 b2
 obtain ⟨al,rfl⟩:=zof a0
 obtain ⟨bl,rfl⟩:=zof b0
 obtain ⟨ah,rfl⟩:=zof (show 0<=ah by omega)
 obtain ⟨k,k1,k2,k3,k4,k5⟩:=zhu (n:=ah) (by omega)
 unfold zdu vK
 simp only [k2,zbs,zeG]
 refine OK.bind2 (R:=fun o=>o=false->(k=0\/k+bl<=64)) ?_ (fun o ho=> ?_)
 ·refine OK.ite (fun _=>OK.ret (by simp)) (fun _=>OK.ite (fun h1=> ?_) (fun h1=>OK.ret (fun _=> .inl ?_)))
  ·refine OK.ite (fun _=>OK.ret (by simp)) (fun h2=>OK.ret (fun h3=> .inr ?_))
   have h2:=of_decide_eq_false h2
   have h3:=of_decide_eq_false h3
   rw [zaT (x:=(k:Int)) (by omega) (by omega),zaT (by omega) (by omega)] at h3
   omega
  ·have:=of_decide_eq_false h1
   omega
 ·refine OK.ite (fun _=>OK.ret SW.full) (fun h=> ?_)
  rw [zdJ (by omega)]
  simp only [zbs]
  refine OK.ret ?_
  have e: ∀ n:Nat,zgJ .u64 (n:Int) (bl:Int)=((n*2 ^ (min bl 64) % 18446744073709551616:Nat):Int):=by
   intro n
   rw [zfw,show ((bl:Int)).toNat=bl by omega]
   simp
  rw [e,e]
  rcases ho h with hk | hk
  ·have h6:ah=0:=by subst hk;simp at k3;omega
   have h7:al=0:=by omega
   subst h6;subst h7
   exact ⟨by simp,by simp,by simp⟩
  ·rw [show min bl 64=bl by omega]
   have h6:ah*2 ^ bl<18446744073709551616:=by
    have h7:ah*2 ^ bl<2 ^ k*2 ^ bl:=Nat.mul_lt_mul_of_pos_right k3 (Nat.pow_pos (by omega))
    rw [<- Nat.pow_add] at h7
    have h8:(2:Nat) ^ (k+bl)<=2 ^ 64:=Nat.pow_le_pow_right (by omega) hk
    omega
   have h9:al*2 ^ bl<=ah*2 ^ bl:=Nat.mul_le_mul_right _ (by omega)
   rw [Nat.mod_eq_of_lt h6,Nat.mod_eq_of_lt (by omega)]
   exact ⟨Int.natCast_nonneg _,Int.ofNat_le.2 h9,Int.ofNat_lt.2 h6⟩
theorem zlL {op a b:Int} (a0:0<=a) (a1:a<18446744073709551616) (b0:0<=b) (b1:b<18446744073709551616):OK (zeB op a b) (fun r=>0<=r.1/\r.1<18446744073709551616/\r.2=(decide (1<=op)&&decide (op<=10))):=by
 unfold zeB
 have q: ∀ k:Int,1<=k->k<=10->(op==k)=true->true=(decide (1<=op)&&decide (op<=10)):=by
  intro k h1 h2 h3
  have:op=k:=by simpa using h3
  subst this;simp [h1,h2]
 refine OK.ite (fun h=>OK.ret ⟨(zbE _).1,(zbE _).2,q 1 (by omega) (by omega) h⟩) (fun n1=> ?_)
 refine OK.ite (fun h=>OK.ret ⟨(zbE _).1,(zbE _).2,q 2 (by omega) (by omega) h⟩) (fun n2=> ?_)
 refine OK.ite (fun h=>OK.ret ⟨(zbE _).1,(zbE _).2,q 3 (by omega) (by omega) h⟩) (fun n3=> ?_)
 refine OK.ite (fun h=> ?_) (fun n4=> ?_)
 ·refine OK.ite (fun _=>OK.ret ⟨by simp,by simp,q 4 (by omega) (by omega) h⟩) (fun hz=> ?_)
  rw [zeF (by simpa using hz)]
  exact OK.ret ⟨(zbE _).1,(zbE _).2,q 4 (by omega) (by omega) h⟩
 refine OK.ite (fun h=> ?_) (fun n5=> ?_)
 ·refine OK.ite (fun _=>OK.ret ⟨a0,a1,q 5 (by omega) (by omega) h⟩) (fun hz=> ?_)
  rw [zeF (by simpa using hz)]
  obtain ⟨a,rfl⟩:=zof a0
  obtain ⟨b,rfl⟩:=zof b0
  have e:(a:Int).tmod (b:Int)=((a % b:Nat):Int):=rfl
  have:=Nat.mod_le a b
  refine OK.ret ⟨?_,?_,q 5 (by omega) (by omega) h⟩
  ·show 0<=(a:Int).tmod (b:Int);rw [e];omega
  ·show (a:Int).tmod (b:Int)<_;rw [e];omega
 refine OK.ite (fun h=>OK.ret ⟨(znT _ _).1,(znT _ _).2,q 6 (by omega) (by omega) h⟩) (fun n6=> ?_)
 refine OK.ite (fun h=>OK.ret ⟨(zlK _ _).1,(zlK _ _).2,q 7 (by omega) (by omega) h⟩) (fun n7=> ?_)
 refine OK.ite (fun h=>OK.ret ⟨(znU _ _).1,(znU _ _).2,q 8 (by omega) (by omega) h⟩) (fun n8=> ?_)
 refine OK.ite (fun h=> ?_) (fun n9=> ?_)
 ·rw [zdJ b0]
  exact OK.ret ⟨(zk7 _ _).1,(zk7 _ _).2,q 9 (by omega) (by omega) h⟩
 refine OK.ite (fun h=> ?_) (fun n10=>OK.ret ⟨by simp,by simp,?_⟩)
 ·rw [zdJ b0]
  have:=zk8 (y:=b) a0 a1
  exact OK.ret ⟨this.1,by show zb4 .u64 a b<_;omega,q 10 (by omega) (by omega) h⟩
 ·simp only [beq_eq_false_iff_ne,ne_eq] at n1 n2 n3 n4 n5 n6 n7 n8 n9 n10
  show false=_
  rw [Eq.comm,Bool.and_eq_false_iff]
  simp only [decide_eq_false_iff_not]
  omega
theorem zsv {op:Int} {a b:zc} (ha:SW a) (hb:SW b):OK (zfS op a b) (fun r=>SW r.1):=by
 obtain ⟨a0,a1,a2⟩:=id ha
 obtain ⟨b0,b1,b2⟩:=id hb
 unfold zfS
 refine OK.bind2 (zlL (op:=op) (a:=a.Lo) (b:=b.Lo) a0 (by omega) b0 (by omega)) (fun r hr=> ?_)
 simp only [zet,zbs]
 refine OK.bind2 (R:=fun o=>o=false->1<=op/\op<=10) ?_ (fun o ho=> ?_)
 ·refine OK.ite (fun _=>OK.ret (by simp)) (fun h=> ?_)
  have h2:1<=op/\op<=10:=by
   have:r.2=true:=by simpa using h
   rw [hr.2.2] at this
   simpa using this
  exact OK.ite (fun _=>OK.ret (by simp)) (fun _=>OK.ret (fun _=>h2))
 refine OK.ite (fun _=>OK.ret SW.zero) (fun h=> ?_)
 obtain ⟨o1,o2⟩:=ho h
 refine OK.bind2 (R:=fun _=>True) ?_ (fun _ _=> ?_)
 ·unfold vK
  exact OK.ite (fun _=>OK.ret trivial) (fun _=>OK.ret trivial)
 refine OK.ite (fun _=>OK.ret (SW.one hr.1 hr.2.1)) (fun _=> ?_)
 have fwd: ∀ {o:Option zc},OK o SW->OK (o.bind fun r=>some (r,true)) (fun r=>SW r.1):=fun h=>OK.bind2 h (fun x hx=>OK.ret hx)
 refine OK.ite (fun _=>fwd (zrN ha hb)) (fun _=> ?_)
 refine OK.ite (fun _=>OK.ite (fun _=>fwd (OK.ret SW.full)) (fun h=>OK.ret ?_)) (fun _=> ?_)
 ·have h:=of_decide_eq_false h
  rw [zaT (by omega) (by omega),zaT (by omega) (by omega)]
  exact ⟨by simp;omega,by simp;omega,by simp;omega⟩
 refine OK.ite (fun _=>fwd (zmw ha hb)) (fun _=> ?_)
 refine OK.ite (fun _=>fwd (zmx ha hb)) (fun _=> ?_)
 refine OK.ite (fun _=>fwd (zqQ ha hb)) (fun _=> ?_)
 refine OK.ite (fun _=>OK.ret ⟨by simp,?_,?_⟩) (fun _=> ?_)
 ·show 0<=zeR a.Hi b.Hi
  unfold zeR;split<;>omega
 ·show zeR a.Hi b.Hi<_
  unfold zeR;split<;>omega
 have hor:=zqN (x:=a.Hi) (y:=b.Hi) (by omega) a2 (by omega) b2
 have hor2:=zlK a.Hi b.Hi
 refine OK.ite (fun _=>OK.bind2 (znV hor2.1 hor2.2) (fun x hx=>OK.ret ⟨?_,?_,?_⟩)) (fun _=> ?_)
 ·show 0<=zeU a.Lo b.Lo
  unfold zeU;split<;>omega
 ·show zeU a.Lo b.Lo<=x
  unfold zeU;split<;>omega
 ·exact hx.2
 refine OK.ite (fun _=>OK.bind2 (znV hor2.1 hor2.2) (fun x hx=>OK.ret ⟨by simp,?_,?_⟩)) (fun _=> ?_)
 ·show 0<=x
  omega
 ·exact hx.2
 refine OK.ite (fun _=>fwd (zqR ha hb)) (fun _=> ?_)
 rw [zdJ (show 0<=b.Hi by omega)]
 simp only [zbs]
 rw [zdJ b0]
 refine OK.ret ⟨(zk8 a0 (by omega)).1,zpj a0 a1 b1,?_⟩
 have:=(zk8 (y:=b.Lo) (show 0<=a.Hi by omega) a2).2
 show zb4 .u64 a.Hi b.Lo<_
 omega
end Go.Proofs.YtbmknhpfkpmigaaGreatDoor
namespace Go.Proofs.YtbmknhpfkpmigaaGreatDoor
open Go.Sx
def zci:zb:=⟨0,⟨0,0⟩,0⟩
def WT (n:Nat) (x:zb):Prop:=x=zci\/(x.Ki=1/\SW x.Sp/\x.Map=0)\/(x.Ki=2/\x.Sp=⟨0,0⟩/\0<=x.Map/\x.Map<n)
theorem WT.span {n:Nat} {x:zb} (h:WT n x):SW x.Sp:=by
 rcases h with rfl | h | h
 ·exact SW.zero
 ·exact h.2.1
 ·rw [h.2.1];exact SW.zero
theorem WT.num {n:Nat} {s:zc} (h:SW s):WT n ⟨1,s,0⟩:= .inr (.inl ⟨rfl,h,rfl⟩)
theorem WT.zero {n:Nat}:WT n zci:= .inl rfl
theorem zcQ (s:zc):jH s=some ⟨1,s,0⟩:=rfl
theorem znh (x:Int):zds x=some ⟨x,x⟩:=rfl
theorem zeb {s:zc} (h:SW s):vt s=some true:=by rw [zet,decide_eq_true h.2.1]
theorem SW.join {a b:zc} (ha:SW a) (hb:SW b):SW ⟨zeR (zeR 18446744073709551615 a.Lo) b.Lo,zeU (zeU 0 a.Hi) b.Hi⟩:=by
 obtain ⟨a0,a1,a2⟩:=ha
 obtain ⟨b0,b1,b2⟩:=hb
 unfold zeR zeU
 refine ⟨?_,?_,?_⟩<;>simp only<;>(repeat' split)<;>omega
theorem zqs {a b:zc} (ha:SW a) (hb:SW b):ze1 [a,b]=some (⟨zeR (zeR 18446744073709551615 a.Lo) b.Lo,zeU (zeU 0 a.Hi) b.Hi⟩,true):=by
 unfold ze1
 simp [qf,zg4,idx,zeb ha,zeb hb]
def zcR (a b:zb):zb:=
 if (a.Ki != b.Ki)||(a.Map != b.Map) then zci
 else if a.Ki==1 then ⟨1,⟨zeR (zeR 18446744073709551615 a.Sp.Lo) b.Sp.Lo,zeU (zeU 0 a.Sp.Hi) b.Sp.Hi⟩,0⟩
 else a
theorem zjR {a b:zb} (ha:SW a.Sp) (hb:SW b.Sp):zcL a b=some (zcR a b):=by
 unfold zcL zcR
 rw [zqs ha hb]
 split
 ·rfl
 ·split<;>rfl
theorem WT.join {n:Nat} {a b:zb} (ha:WT n a) (hb:WT n b):WT n (zcR a b):=by
 unfold zcR
 split
 ·exact WT.zero
 ·split
  ·exact WT.num (SW.join ha.span hb.span)
  ·exact ha
theorem zni {a b:zc} (ha:SW a) (hb:SW b):zaG [a,b]=some (if zeU (zeU 0 a.Lo) b.Lo<=zeR (zeR 18446744073709551615 a.Hi) b.Hi then (⟨zeU (zeU 0 a.Lo) b.Lo,zeR (zeR 18446744073709551615 a.Hi) b.Hi⟩,true) else (⟨0,0⟩,false)):=by
 unfold zaG
 simp only [zeG,zbs]
 by_cases h:zeU (zeU 0 a.Lo) b.Lo<=zeR (zeR 18446744073709551615 a.Hi) b.Hi
 ·simp [qf,ze2,idx,Int.not_lt.2 ha.2.1,Int.not_lt.2 hb.2.1,zet,h]
 ·simp [qf,ze2,idx,Int.not_lt.2 ha.2.1,Int.not_lt.2 hb.2.1,zet,h]
theorem zkP {a b:zc} (ha:SW a) (hb:SW b):OK (zaG [a,b]) (fun r=>SW r.1):=by
 refine ⟨_,zni ha hb,?_⟩
 obtain ⟨a0,a1,a2⟩:=ha
 obtain ⟨b0,b1,b2⟩:=hb
 split
 ·rename_i h
  refine ⟨?_,h,?_⟩
  ·show 0<=zeU (zeU 0 a.Lo) b.Lo
   unfold zeU;(repeat' split)<;>omega
  ·show zeR (zeR 18446744073709551615 a.Hi) b.Hi<_
   unfold zeR;(repeat' split)<;>omega
 ·exact SW.zero
theorem zlA (op a b:Int):OK (zbJ op a b) (fun r=>r.2=inB op 16 19):=by
 unfold zbJ
 have q: ∀ k:Int,16<=k->k<=19->(op==k)=true->true=inB op 16 19:=by
  intro k h1 h2 h3
  have:op=k:=by simpa using h3
  subst this;simp [inB,h1,h2]
 refine OK.ite (fun h=>OK.ret (q 16 (by omega) (by omega) h)) (fun n1=> ?_)
 refine OK.ite (fun h=>OK.ret (q 17 (by omega) (by omega) h)) (fun n2=> ?_)
 refine OK.ite (fun h=>OK.ret (q 18 (by omega) (by omega) h)) (fun n3=> ?_)
 refine OK.ite (fun h=>OK.ret (q 19 (by omega) (by omega) h)) (fun n4=>OK.ret ?_)
 simp only [beq_eq_false_iff_ne,ne_eq] at n1 n2 n3 n4
 show false=_
 rw [Eq.comm,inB,Bool.and_eq_false_iff]
 simp only [decide_eq_false_iff_not]
 omega
theorem zjS {op:Int} {a b:zc} {h:Bool} (ha:SW a) (hb:SW b):OK (xG op a b h) (fun r=>SW r.1):=by
 obtain ⟨a0,a1,a2⟩:=id ha
 obtain ⟨b0,b1,b2⟩:=id hb
 unfold xG
 refine OK.bind2 (zlA op 0 0) (fun r hr=> ?_)
 simp only [zeb ha,zeb hb,zbs]
 refine OK.bind2 (R:=fun _=>True) (OK.ite (fun _=>OK.ret trivial) (fun _=>OK.ite (fun _=>OK.ret trivial) (fun _=>OK.ret trivial))) (fun o _=> ?_)
 refine OK.ite (fun _=>OK.ret SW.zero) (fun _=> ?_)
 unfold vK
 simp only [zbs]
 refine OK.ite (fun _=>OK.ret ha) (fun hs=> ?_)
 have hs:b.Lo=b.Hi:=by simpa using hs
 refine OK.bind2 (R:=fun _=>True) (OK.ite (fun _=>OK.ret trivial) (fun _=>OK.ite (fun _=>OK.ret trivial) (fun _=>OK.ret trivial))) (fun o _=> ?_)
 refine OK.ite (fun _=>OK.ite (fun _=>OK.ret SW.zero) (fun hz=> ?_)) (fun _=> ?_)
 ·have hz:b.Lo ≠ 0:=by simpa using hz
  refine OK.bind2 (zkP ha ?_) (fun x hx=>OK.ret hx)
  rw [zaT (by omega) (by omega)]
  exact ⟨by simp,by simp;omega,by simp;omega⟩
 refine OK.bind2 (R:=fun _=>True) (OK.ite (fun _=>OK.ret trivial) (fun _=>OK.ret trivial)) (fun o _=> ?_)
 refine OK.ite (fun _=>OK.bind2 (zkP ha ⟨b0,by simp;omega,by simp⟩) (fun x hx=>OK.ret hx)) (fun _=> ?_)
 refine OK.bind2 (R:=fun _=>True) (OK.ite (fun _=>OK.ret trivial) (fun _=>OK.ite (fun _=>OK.ret trivial) (fun _=>OK.ret trivial))) (fun o _=> ?_)
 refine OK.ite (fun _=>OK.bind2 (zkP ha hb) (fun x hx=>OK.ret hx)) (fun _=> ?_)
 refine OK.ite (fun _=>OK.ret SW.zero) (fun hne=> ?_)
 have hne: ¬ (a.Lo=b.Lo/\a.Hi=b.Hi):=by
  rintro ⟨e1,e2⟩
  rw [e1,e2] at hne
  simp at hne
 refine OK.ite (fun h1=>OK.ret ?_) (fun h1=> ?_)
 ·have h1:a.Lo=b.Lo:=by simpa using h1
  rw [zaT (by omega) (by omega)]
  exact ⟨by simp;omega,by simp;omega,by simpa using a2⟩
 refine OK.ite (fun h2=>OK.ret ?_) (fun _=>OK.ret ha)
 have h1:a.Lo ≠ b.Lo:=by simpa using h1
 have h2:a.Hi=b.Lo:=by simpa using h2
 rw [zaT (by omega) (by omega)]
 exact ⟨by simpa using a0,by simp;omega,by simp;omega⟩
theorem zgN (l:List zb):OK (vr l) (fun _=>True):=by
 unfold vr
 refine OK.bind2 (OK.count (Q:=fun _=>True) (fun _ _=>True) trivial (fun i s again hi _ k=> ?_) (fun _ _=>trivial)) (fun o _=> ?_)
 ·unfold qh
  exact OK.bind (OK.getN hi (fun x _=>OK.ite (fun _=>OK.ret trivial) (fun _=>k _ trivial)))
 ·cases o<;>exact OK.ret trivial
theorem zlB (l:List Int):OK (zbH l) (fun r=>r=0-> ∀ x∈l,x=0):=by
 unfold zbH
 refine OK.bind2 (OK.count (Q:=fun o=>match o with | .inl _=> ∀ x∈l,x=0 | .inr r=>r ≠ 0) (fun i _=> ∀ q x,q<i->l[q]? =some x->x=0) (fun q x h=>by omega) (fun i s again hi hI k=> ?_) (fun _ hI=> ?_)) (fun o ho=> ?_)
 ·unfold jd
  refine OK.bind (OK.getN hi (fun x hx=>OK.ite (fun h=>OK.ret (by simpa using h)) (fun h=>k _ (fun q y hq hy=> ?_))))
  by_cases hqi:q<i
  ·exact hI q y hqi hy
  ·obtain rfl:q=i:=by omega
   rw [hx] at hy;cases hy
   simpa using h
 ·intro x hx
  obtain ⟨q,hq⟩:=List.mem_iff_getElem?.1 hx
  exact hI q x (zes.1 hq).1 hq
 ·cases o with
  | inl _=>exact OK.ret (fun _=>ho)
  | inr r=>exact OK.ret (fun h=>absurd h ho)
theorem zhG (a b:zc):OK (vJ a b) (fun r=>r=true↔a.Lo<=a.Hi/\b.Lo<=a.Lo/\a.Hi<=b.Hi):=by
 unfold vJ
 rw [zet]
 simp only [zbs]
 refine OK.bind2 (R:=fun r=>r=true↔a.Lo<=a.Hi/\b.Lo<=a.Lo/\a.Hi<=b.Hi) ?_ (fun x hx=>OK.ret hx)
 refine OK.ite (fun h1=>OK.ite (fun h2=>OK.ret ?_) (fun h2=>OK.ret ?_)) (fun h1=>OK.ret ?_)
 ·simp at h1 h2 |-;omega
 ·simp at h1 h2 |-;omega
 ·simp at h1 |-;omega
def zmc (a b:zb):Prop:=(b.Ki=1->a.Ki=1/\a.Sp.Lo<=a.Sp.Hi/\b.Sp.Lo<=a.Sp.Lo/\a.Sp.Hi<=b.Sp.Hi)/\(b.Ki=2->a=b)
theorem zqt {a b:zb} (h:((a.Ki==b.Ki)&&(((a.Sp.Lo==b.Sp.Lo)&&((a.Sp.Hi==b.Sp.Hi)&&true))&&((a.Map==b.Map)&&true)))=true):a=b:=by
 obtain ⟨k,⟨l,h1⟩,m⟩:=a
 obtain ⟨k',⟨l',h1'⟩,m'⟩:=b
 simp at h
 obtain ⟨rfl,⟨rfl,rfl⟩,rfl⟩:=h
 rfl
theorem zqu (a b:zb):OK (zcr a b) (fun r=>r=true->zmc a b):=by
 unfold zcr
 refine OK.ite (fun h1=> ?_) (fun h1=>OK.ite (fun h2=>OK.ret ?_) (fun h2=>OK.ret ?_))
 ·have h1:b.Ki=1:=by simpa using h1
  refine OK.bind2 (R:=fun r=>r=true->zmc a b) ?_ (fun x hx=>OK.ret hx)
  refine OK.ite (fun h2=>OK.bind2 (zhG _ _) (fun x hx=>OK.ret (fun e=>⟨fun _=>⟨by simpa using h2,hx.1 e⟩,fun e2=>by omega⟩))) (fun _=>OK.ret (fun e=>by cases e))
 ·intro h
  have h1:b.Ki ≠ 1:=by simpa using h1
  exact ⟨fun e=>absurd e h1,fun _=>zqt h⟩
 ·intro _
  have h1:b.Ki ≠ 1:=by simpa using h1
  have h2:b.Ki ≠ 2:=by simpa using h2
  exact ⟨fun e=>absurd e h1,fun e=>absurd e h2⟩
theorem znj (t:zb):OK (zbT t) (fun _=>True):=by
 unfold zbT
 exact OK.bind2 (zhG _ _) (fun x _=>OK.ite (fun _=>OK.ret trivial) (fun _=>OK.ret trivial))
theorem zi5 {i:ze} (h:qj i=true) (ho: ¬ (15<=i.Op/\i.Op<=20)):0<=i.D/\i.D<8:=by
 unfold qj at h
 simp only [inB,zg6] at h
 simp only [zae,Bool.or_eq_true,zdq,beq_iff_eq] at h
 iterate 11 (all_goals (try split at h))
 all_goals simp only [zae,Bool.or_eq_true,zdq,beq_iff_eq,zfe] at h
 all_goals omega
theorem zhH {i:ze} (h:qj i=true):0<=i.A/\i.A<8:=by
 unfold qj at h
 simp only [inB,zg6] at h
 simp only [zae,Bool.or_eq_true,zdq,beq_iff_eq] at h
 iterate 11 (all_goals (try split at h))
 all_goals simp only [zae,Bool.or_eq_true,zdq,beq_iff_eq,zfe] at h
 all_goals omega
theorem zfr {i:ze} (h:qj i=true):0<=i.Op/\i.Op<=22:=by
 unfold qj at h
 simp only [inB,zg6] at h
 simp only [zae,Bool.or_eq_true,zdq,beq_iff_eq] at h
 iterate 11 (all_goals (try split at h))
 all_goals simp only [zae,Bool.or_eq_true,zdq,beq_iff_eq,zfe] at h
 all_goals omega
theorem ze8 {i:ze} (h:qj i=true) (ho:i.Op<=12\/(16<=i.Op/\i.Op<=19)):i.B=8\/(0<=i.B/\i.B<8):=by
 unfold qj at h
 simp only [inB,zg6,zpS] at h
 simp only [zae,Bool.or_eq_true,zdq,beq_iff_eq] at h
 iterate 11 (all_goals (try split at h))
 all_goals simp only [zae,Bool.or_eq_true,zdq,beq_iff_eq,zfe] at h
 all_goals omega
theorem zjT {i:ze} (h:qj i=true) (ho:i.Op=21):0<=i.Imm/\i.Imm<=6:=by
 unfold qj at h
 simp only [inB,zg6] at h
 simp [ho] at h
 omega
theorem zkQ {i:ze} (h:qj i=true) (ho:i.Op=14):0<=i.Imm/\i.Imm<=3:=by
 unfold qj at h
 simp only [inB,zg6] at h
 simp [ho] at h
 omega
theorem zmd {t:Int} (h0:0<=t) (h1:t<8):ain 8 t=some t.toNat:=by unfold ain;rw [if_pos ⟨h0,by omega⟩]
theorem zr4 {i n:Nat} (h:i<n):ain n (i:Int)=some i:=by unfold ain;rw [if_pos ⟨by omega,by omega⟩];simp
theorem zi6 (op:Int) (h0:0<=op) (h1:op<23): ∃ f,zcn op=some (f,true)/\qQ f 100=some (decide (op<=11)||decide (op=13)||decide (op=14))/\qQ f 115=some (decide (op<=12)||(decide (16<=op)&&decide (op<=19))):=by
 have h: ∀ k:Fin 23,∃ f,zcn ((k:Nat):Int)=some (f,true)/\qQ f 100=some (decide (((k:Nat):Int)<=11)||decide (((k:Nat):Int)=13)||decide (((k:Nat):Int)=14))/\qQ f 115=some (decide (((k:Nat):Int)<=12)||(decide (16<=((k:Nat):Int))&&decide (((k:Nat):Int)<=19))):=by
  intro k
  have hk: ∃ f,zcn ((k:Nat):Int)=some (f,true):=by
   obtain ⟨f,hf,_⟩:=znq ((k:Nat):Int) (by omega) (by omega)
   exact ⟨f,hf⟩
  obtain ⟨f,hf⟩:=hk
  have key: ∀ k:Fin 23,((zcn ((k:Nat):Int)).bind fun r=>qQ r.1 100)=some (decide (((k:Nat):Int)<=11)||decide (((k:Nat):Int)=13)||decide (((k:Nat):Int)=14))/\((zcn ((k:Nat):Int)).bind fun r=>qQ r.1 115)=some (decide (((k:Nat):Int)<=12)||(decide (16<=((k:Nat):Int))&&decide (((k:Nat):Int)<=19))):=by decide+kernel
  have:=key k
  rw [hf] at this
  exact ⟨f,hf,this.1,this.2⟩
 obtain ⟨n,rfl⟩:=zof h0
 exact h ⟨n,by omega⟩
theorem zjU {i:ze} (h:qj i=true):OK (vV i) (fun r=>r.2=true->0<=r.1/\r.1<8):=by
 have ho:=zfr h
 obtain ⟨f,h1,h2,_⟩:=zi6 i.Op ho.1 (by omega)
 unfold vV
 simp only [zaD,h,h1,h2,zbs]
 refine OK.ite (fun e=>by cases e) (fun _=>OK.ite (fun e=>OK.ret (fun _=>zi5 h (by simp at e;omega))) (fun _=>OK.ret (fun _=>by simp)))
theorem zjV {i:ze} (h:qj i=false):OK (vV i) (fun r=>r.2=true->0<=r.1/\r.1<8):=by
 unfold vV
 simp only [zaD,h,zbs]
 exact OK.ret (by simp)
theorem zjW {i:ze} (h:qj i=true):zen i=some (decide (i.Op<=12)||(decide (16<=i.Op)&&decide (i.Op<=19))):=by
 have ho:=zfr h
 obtain ⟨f,h1,_,h2⟩:=zi6 i.Op ho.1 (by omega)
 unfold zen
 simp only [zaD,h,h1,h2,zbs]
 rfl
def zhg (i:ze) (k:Nat->zb):zb:=if i.B==8 then ⟨1,⟨jy i.Imm,jy i.Imm⟩,0⟩ else k i.B.toNat
theorem zg5 {i:ze} {k:Nat->zb} (h:i.B=8\/(0<=i.B/\i.B<8)):zbS i k=some (zhg i k):=by
 unfold zbS zhg
 rcases zft (i.B==8) with e | e
 ·rw [if_pos e,if_pos e];rfl
 ·have:i.B ≠ 8:=by simpa using e
  rw [if_neg (by simp [e]),if_neg (by simp [e]),zmd (by omega) (by omega)];rfl
theorem ze9 {n:Nat} {i:ze} {k:Nat->zb} (h:i.B=8\/(0<=i.B/\i.B<8)) (hk: ∀ r,r<8->WT n (k r)):WT n (zhg i k):=by
 unfold zhg
 split
 ·exact WT.num (SW.one (zbE _).1 (zbE _).2)
 ·rename_i e
  have:i.B ≠ 8:=by simpa using e
  exact hk _ (by omega)
structure JI (m:zg) (j:zf):Prop where
 mod:j.Module=m
 lenC:j.ca.length=m.Co.length
 lenA:j.any.length=m.Co.length
 lps:j.loops=lps m.Co m.Co.length
 wt: ∀ (q:Nat) (x:Nat->zb),j.ca[q]? =some x-> ∀ r,r<8->WT m.Ms.length (x r)
theorem zgp {α:Type} {xs:List α} {p:Nat} (h:p<xs.length): ∃ x,xs[p]? =some x/\idx xs (p:Int)=some x:=⟨xs[p],zeg h,zgl h⟩
theorem zc5 {α:Type} {xs:List α} {p q:Nat} {v:α} (h:q ≠ p):(xs.set p v)[q]? =xs[q]? :=List.getElem?_set_ne (fun e=>h e.symm)
theorem JI.put {m:zg} {j:zf} (h:JI m j) {p:Nat} {x:Nat->zb} (hx: ∀ r,r<8->WT m.Ms.length (x r)) (A:List Bool) (hA:A.length=m.Co.length):JI m ⟨j.Module,j.ca.set p x,A,j.loops⟩:=
 ⟨h.mod,by simpa using h.lenC,hA,h.lps,fun q y hy r hr=>by
  simp only at hy
  by_cases hq:q=p
  ·subst hq
   rw [List.getElem?_set] at hy
   simp at hy
   rw [<- hy.2];exact hx r hr
  ·rw [zc5 hq] at hy
   exact h.wt q y hy r hr⟩
theorem zfX {n:Nat} {x:Nat->zb} (hx: ∀ r,r<8->WT n (x r)) {t:Nat} {v:zb} (hv:WT n v): ∀ r,r<8->WT n (zcg x t v r):=by
 intro r hr
 unfold zcg
 split
 ·exact hv
 ·exact hx r hr
theorem zqv {m:zg} {j:zf} (h:JI m j) {p:Nat} (hp:p<m.Co.length) {k:Nat->zb} (hk: ∀ r,r<8->WT m.Ms.length (k r)):
  OK (qb j (p:Int) k) (fun j'=>JI m j'/\j'.any=j.any.set p true/\ ∀ q,q ≠ p->j'.ca[q]? =j.ca[q]?):=by
 unfold qb
 obtain ⟨a,ha,ha2⟩:=zgp (xs:=j.any) (p:=p) (by rw [h.lenA];exact hp)
 obtain ⟨c,hc,hc2⟩:=zgp (xs:=j.ca) (p:=p) (by rw [h.lenC];exact hp)
 simp only [ha2,hc2,zbs,Int.toNat_natCast]
 refine OK.ite (fun _=>OK.ret ⟨h.put hk _ (by simpa using h.lenA),rfl,fun q hq=>zc5 hq⟩) (fun hn=> ?_)
 have hat:a=true:=by simpa using hn
 have hset:j.any.set p true=j.any:=by
  apply List.ext_getElem?
  intro q
  by_cases hq:q=p
  ·subst hq;rw [List.getElem?_set,ha,hat];simp [h.lenA,hp]
  ·exact zc5 hq
 refine OK.bind2 (OK.count (fun _ s=>JI m s/\s.any=j.any.set p true/\ ∀ q,q ≠ p->s.ca[q]? =j.ca[q]?) ⟨h,hset.symm,fun _ _=>rfl⟩ (fun i s again hi hI kk=> ?_) (fun s hI=>hI)) (fun o ho=>OK.ret ho)
 unfold jD
 obtain ⟨c',hc',hc2'⟩:=zgp (xs:=s.ca) (p:=p) (by rw [hI.1.lenC];exact hp)
 have w1:=hI.1.wt p c' hc' i hi
 simp only [hc2',zr4 hi,zbs,zjR w1.span (hk i hi).span,Int.toNat_natCast]
 exact kk _ ⟨hI.1.put (zfX (hI.1.wt p c' hc') (w1.join (hk i hi))) _ hI.1.lenA,hI.2.1,fun q hq=>by rw [<- hI.2.2 q hq];exact zc5 hq⟩
theorem zjX {α:Type} {xs:List α} {lo hi:Nat} (h1:lo<=hi) (h2:hi<=xs.length):cut xs (lo:Int) (hi:Int)=some ((xs.take hi).drop lo):=by
 unfold cut
 rw [if_pos ⟨by omega,by omega,by omega⟩]
 simp
theorem zoY {m:zg} {j:zf} (h:JI m j) (hg:zii m.Co) {p:Nat} (hp:p<m.Co.length):
  OK (xk j (p:Int)) (fun j'=>JI m j'/\j'.any=j.any/\ ∀ q,q ≠ p->j'.ca[q]? =j.ca[q]?):=by
 unfold xk
 refine OK.bind2 (OK.count (Q:=fun j'=>JI m j'/\j'.any=j.any/\ ∀ q,q ≠ p->j'.ca[q]? =j.ca[q]?) (fun _ s=>JI m ⟨j.Module,s,j.any,j.loops⟩/\ ∀ q,q ≠ p->s[q]? =j.ca[q]?) ⟨⟨h.mod,h.lenC,h.lenA,h.lps,h.wt⟩,fun _ _=>rfl⟩ (fun i s again hi hI k=> ?_) (fun s hI=>⟨hI.1,rfl,hI.2⟩)) (fun o ho=>OK.ret ho)
 unfold vP
 refine OK.bind (OK.getN hi (fun l hl=>OK.ite (fun _=>k _ hI) (fun hh=> ?_)))
 rw [h.lps] at hl
 obtain ⟨a,ia,ha,hia,hop,rfl⟩:=zfV.1 (zmg hl)
 have hlp:=hg.fine.loop hia hop
 have hn:=hg.n64
 have e1:(qp ia a).Head=(((a:Int)-ia.D).toNat:Int):=by show (a:Int)-ia.D=_;omega
 have e2:w64 ((qp ia a).At+1)=((a+1:Nat):Int):=by show w64 ((a:Int)+1)=_;rw [qN (by omega) (by omega)];simp
 rw [e1,e2,h.mod,zjX (by omega) (by omega)]
 simp only [zbs]
 refine OK.bind2 (OK.count (fun _ s=>JI m ⟨j.Module,s,j.any,j.loops⟩/\ ∀ q,q ≠ p->s[q]? =j.ca[q]?) hI (fun i s again hi hI k=> ?_) (fun s hI=>hI)) (fun o ho=>k _ ho)
 unfold xQ
 refine OK.bind (OK.getN hi (fun x hx=> ?_))
 have hr:OK (vV x) (fun r=>r.2=true->0<=r.1/\r.1<8):=by
  rcases zft (qj x) with e | e
  ·exact zjU e
  ·exact zjV e
 refine OK.bind2 hr (fun r hr=>OK.ite (fun _=>k _ hI) (fun hw=> ?_))
 have hr:=hr (by simpa using hw)
 obtain ⟨c',hc',hc2'⟩:=zgp (xs:=s) (p:=p) (by rw [show s.length=m.Co.length from hI.1.lenC];exact hp)
 simp only [hc2',zmd hr.1 hr.2,zbs,zeG,zcQ,Int.toNat_natCast]
 refine OK.ite (fun _=>k _ ⟨hI.1.put (zfX (hI.1.wt p c' hc') (WT.num SW.full)) _ hI.1.lenA,fun q hq=>by rw [<- hI.2 q hq];exact zc5 hq⟩) (fun _=>k _ ⟨hI.1.put (zfX (hI.1.wt p c' hc') WT.zero) _ hI.1.lenA,fun q hq=>by rw [<- hI.2 q hq];exact zc5 hq⟩)
end Go.Proofs.YtbmknhpfkpmigaaGreatDoor
namespace Go.Proofs.YtbmknhpfkpmigaaGreatDoor
open Go.Sx
def Way (code:List ze) (p q:Nat):Prop:= ∃ i,code[p]? =some i/\((zF i).2.2=true/\q=p+1\/(zF i).2.1=true/\0<(zF i).1/\(q:Int)=p+(zF i).1)
structure zme (code:List ze) (p:Nat) (j j':zf):Prop where
 same: ∀ q:Nat,q<=p->j'.ca[q]? =j.ca[q]? /\j'.any[q]? =j.any[q]?
 keep: ∀ q:Nat,j.any[q]? =some true->j'.any[q]? =some true
 new: ∀ q:Nat,j'.any[q]? =some true->j.any[q]? =some true\/Way code p q
theorem zme.refl (code:List ze) (p:Nat) (j:zf):zme code p j j:=⟨fun _ _=>⟨rfl,rfl⟩,fun _ h=>h,fun _ h=> .inl h⟩
theorem zme.trans {code:List ze} {p:Nat} {a b c:zf} (h:zme code p a b) (k:zme code p b c):zme code p a c:=
 ⟨fun q hq=>⟨(k.same q hq).1.trans (h.same q hq).1,(k.same q hq).2.trans (h.same q hq).2⟩,fun q hq=>k.keep q (h.keep q hq),fun q hq=>(k.new q hq).elim (fun e=>h.new q e) .inr⟩
theorem zqw {code:List ze} {p q:Nat} {j j':zf} (hA:j.any.length=code.length) (hq:p<q) (hw:Way code p q) (h1:j'.any=j.any.set q true) (h2: ∀ t,t ≠ q->j'.ca[t]? =j.ca[t]?):zme code p j j':=by
 refine ⟨fun t ht=>⟨h2 t (by omega),by rw [h1];exact zc5 (by omega)⟩,fun t ht=> ?_,fun t ht=> ?_⟩
 ·rw [h1]
  by_cases e:t=q
  ·subst e
   have:=(zes.1 ht).1
   rw [List.getElem?_set];simp [this]
  ·rw [zc5 e];exact ht
 ·by_cases e:t=q
  ·subst e;exact .inr hw
  ·rw [h1,zc5 e] at ht;exact .inl ht
theorem znk {i:ze} (h:(zF i).2.1=true):(0<(zF i).1/\15<=i.Op/\i.Op<=19/\(zF i).2.2=(i.Op != 15))\/((zF i).1<0/\i.Op=20/\(zF i).2.2=true):=by
 unfold zF at h |-
 by_cases hj:zb0 i=true
 ·have:=ziE hj
  rw [if_pos hj]
  exact .inl ⟨by simp;omega,this.2.2.1,this.2.2.2,rfl⟩
 ·rw [if_neg hj] at h |-
  by_cases hl:zd2 i=true
  ·have:=ziF hl
   rw [if_pos hl]
   exact .inr ⟨by simp;omega,this.2.2.1,rfl⟩
  ·rw [if_neg hl] at h
   cases h
theorem zqx {m:zg} {j:zf} (h:JI m j) (hg:zii m.Co) {p:Nat} (hp:p<m.Co.length) {k:Nat->zb} (hk: ∀ r,r<8->WT m.Ms.length (k r)):
  OK (xH j (p:Int) k) (fun j'=>JI m j'/\zme m.Co p j j'):=by
 have hn:=hg.n64
 obtain ⟨i,hi,hi2⟩:=zgp hp
 have hr:=hg.fine.right hi
 unfold xH
 rw [h.mod,hi2]
 simp only [zfu,zbs]
 have e1:w64 ((p:Int)+1)=((p+1:Nat):Int):=by rw [qN (by omega) (by omega)];simp
 have step: ∀ {j:zf} {q:Nat} {k:Nat->zb},JI m j->p<q->q<m.Co.length->Way m.Co p q->(∀ r,r<8->WT m.Ms.length (k r))->OK (qb j (q:Int) k) (fun j'=>JI m j'/\zme m.Co p j j'):=
  fun hj hq hqn hw hk=>(zqv hj hqn hk).mono (fun j' hj'=>⟨hj'.1,zqw hj.lenA hq hw hj'.2.1 hj'.2.2⟩)
 refine OK.ite (fun hc=>OK.bind2 (OK.ite (fun hon=> ?_) (fun _=>OK.ret ⟨h,zme.refl _ _ _⟩)) (fun o ho=>OK.ret ho)) (fun hc=> ?_)
 ·rw [e1]
  exact OK.bind2 (step h (by omega) (hg.fine.on hi hon) ⟨i,hi,.inl ⟨hon,rfl⟩⟩ hk) (fun x hx=>OK.ret hx)
 have hl:(zF i).2.1=true/\0<=(zF i).1:=by simp at hc;exact ⟨hc.1,by omega⟩
 have hd:0<(zF i).1:=by
  rcases znk hl.1 with h1 | h1
  ·exact h1.1
  ·omega
 have hlead:=hg.fine.leads hi hl.1
 obtain ⟨q,hq⟩:=zof hlead.1
 have eq:w64 ((p:Int)+(zF i).1)=(q:Int):=by rw [qN (by omega) (by omega),hq]
 have hq1:(q:Int)=p+(zF i).1:=hq.symm
 have hwq:Way m.Co p q:=⟨i,hi,.inr ⟨hl.1,hd,hq1⟩⟩
 refine OK.ite (fun _=> ?_) (fun hon=> ?_)
 ·rw [eq]
  exact OK.bind2 (step h (by omega) (by omega) hwq hk) (fun x hx=>OK.ret hx)
 have hon:(zF i).2.2=true:=by simpa using hon
 have hops:16<=i.Op/\i.Op<=19:=by
  rcases znk hl.1 with h1 | h1
  ·rw [h1.2.2.2] at hon
   have:i.Op ≠ 15:=by simpa using hon
   omega
  ·omega
 have hs:=ze8 hr (.inr hops)
 have hA:=zhH hr
 rw [zg5 hs]
 simp only [zbs]
 refine OK.bind2 (OK.count (fun _ s=>JI m s/\zme m.Co p j s) ⟨h,zme.refl _ _ _⟩ (fun t s again ht hI kk=> ?_) (fun s hI=>hI)) (fun o ho=>OK.ret ho)
 unfold qX
 refine OK.bind (OK.getN (by simpa using ht) (fun x hx=> ?_))
 refine OK.bind2 (R:=fun (o:Int)=> ∃ q':Nat,o=(q':Int)/\p<q'/\q'<m.Co.length/\Way m.Co p q') ?_ (fun o ho=> ?_)
 ·refine OK.ite (fun _=>OK.ret ⟨p+1,e1,by omega,hg.fine.on hi hon,i,hi,.inl ⟨hon,rfl⟩⟩) (fun _=>OK.ret ⟨q,eq,by omega,by omega,hwq⟩)
 obtain ⟨q',rfl,hq1',hq2',hw'⟩:=ho
 rw [zmd hA.1 hA.2]
 simp only [zbs]
 refine OK.bind2 (R:=fun r=>SW r.1) (OK.bind2 (zjS (hk _ (by omega)).span (ze9 hs hk).span) (fun r hr=>OK.ret hr)) (fun r hr=> ?_)
 refine OK.ite (fun _=> ?_) (fun _=>kk _ hI)
 simp only [zcQ,zbs]
 exact OK.bind2 (step hI.1 hq1' hq2' hw' (zfX hk (WT.num hr))) (fun x hx=>kk _ ⟨hx.1,hI.2.trans hx.2⟩)
theorem znl: ∀ k:Fin 7,∃ l,vW 1000 ((k:Nat):Int)=some l/\l.length<=3:=by
 have h: ∀ k:Fin 7,∃ n:Fin 4,(vW 1000 ((k:Nat):Int)).map (·.length)=some (n:Nat):=by decide+kernel
 intro k
 obtain ⟨n,hn⟩:=h k
 obtain ⟨l,h1,h2⟩:=Option.map_eq_some_iff.1 hn
 exact ⟨l,h1,by omega⟩
theorem zlC: ∀ k:Fin 7,∃ s,zea ((k:Nat):Int)=some (s,true)/\0<=s.most/\s.most<18446744073709551616:=by
 intro k
 have h: ∀ k:Fin 7,((zea ((k:Nat):Int)).map (fun r=>r.2&&decide (0<=r.1.most)&&decide (r.1.most<18446744073709551616)))=some true:=by decide+kernel
 obtain ⟨⟨s,b⟩,h1,h2⟩:=Option.map_eq_some_iff.1 (h k)
 simp at h2
 obtain ⟨⟨rfl,h3⟩,h4⟩:=h2
 exact ⟨s,h1,h3,h4⟩
theorem zjY (k:Fin 7) {l:List zb} (ha:vW 1000 ((k:Nat):Int)=some l) (ys:List zb):OK (zaQ 1000 ((k:Nat):Int) ys) (fun _=>True):=by
 obtain ⟨s,h1,_⟩:=zlC k
 unfold zaQ
 simp only [h1,ha,zbs]
 refine OK.ite (fun _=>OK.ret trivial) (fun _=>OK.ite (fun _=>OK.ret trivial) (fun hl=> ?_))
 have hl:l.length=ys.length:=by
  have:(l.length:Int)=ys.length:=by simpa using hl
  omega
 refine OK.bind2 (OK.count (Q:=fun _=>True) (fun _ _=>True) trivial (fun i s again hi _ kk=> ?_) (fun _ _=>trivial)) (fun o _=> ?_)
 ·unfold zau
  refine OK.bind (OK.getN hi (fun x _=>OK.bind (OK.getN (by omega) (fun y _=> ?_))))
  refine OK.ite (fun _=>OK.ret trivial) (fun _=>OK.bind2 (R:=fun _=>True) ?_ (fun o _=>OK.ite (fun _=>OK.ret trivial) (fun _=>kk _ trivial)))
  exact OK.ite (fun _=>OK.bind2 (zhG _ _) (fun x _=>OK.ret trivial)) (fun _=>OK.ret trivial)
 ·cases o<;>exact OK.ret trivial
def One (m:zg) (j:zf) (p:Nat) (r:(Nat->zb)×Int):Prop:=
 r.2=0->(∀ q,q<8->WT m.Ms.length (r.1 q))/\ ∀ i,m.Co[p]? =some i->i.Op=20-> ∀ q,q<8-> ∀ x h,j.ca[p]? =some x->j.ca[((p:Int)-i.D).toNat]? =some h->zmc (x q) (h q)
theorem zpR {m:zg} {j:zf} (h:JI m j) (hg:zii m.Co) {p:Nat} (hp:p<m.Co.length):
  OK (ju 1000 j (p:Int)) (One m j p):=by
 have hn:=hg.n64
 obtain ⟨i,hi,hi2⟩:=zgp hp
 obtain ⟨k,hk1,hk2⟩:=zgp (xs:=j.ca) (p:=p) (by rw [h.lenC];exact hp)
 have hk:=h.wt p k hk1
 have hr:=hg.fine.right hi
 have hop:=zfr hr
 have hA:=zhH hr
 unfold ju
 rw [h.mod,hi2,hk2]
 simp only [zbs,zjW hr]
 have notLoop: ∀ {r:(Nat->zb)×Int},i.Op ≠ 20->(r.2=0-> ∀ q,q<8->WT m.Ms.length (r.1 q))->One m j p r:=by
  intro r hne hw h0
  refine ⟨hw h0,fun i' hi' ho=> ?_⟩
  rw [hi] at hi';cases hi'
  exact absurd ho hne
 refine OK.bind2 (R:=fun t=>WT m.Ms.length t) ?_ (fun s hs=> ?_)
 ·refine OK.ite (fun hsrc=> ?_) (fun _=>OK.ret WT.zero)
  have hb:=ze8 hr (by simp at hsrc;omega)
  rw [zg5 hb]
  exact OK.ret (ze9 hb hk)
 rw [zmd hA.1 hA.2]
 simp only [zbs,zeG,zcQ]
 have hD: ¬ (15<=i.Op/\i.Op<=20)->ain 8 i.D=some i.D.toNat:=fun h=>zmd (zi5 hr h).1 (zi5 hr h).2
 have kw: ∀ {v:zb} {t:Nat},WT m.Ms.length v-> ∀ q,q<8->WT m.Ms.length (zcg k t v q):=fun hv=>zfX hk hv
 refine OK.ite (fun e=> ?_) (fun e0=> ?_)
 ·have e:i.Op=0:=by simpa using e
  refine OK.ite (fun _=>OK.ret (notLoop (by omega) (fun h=>by simp at h))) (fun _=> ?_)
  rw [hD (by omega)]
  exact OK.ret (notLoop (by omega) (fun _=>kw hs))
 refine OK.ite (fun e=> ?_) (fun e11=> ?_)
 ·have e:i.Op=11:=by simpa using e
  rw [hD (by omega)]
  simp only [zbs]
  exact OK.bind2 (zgN _) (fun a _=>OK.bind2 (znj _) (fun b _=>OK.bind2 (zlB _) (fun c _=>OK.ret (notLoop (by omega) (fun _=>kw (WT.num SW.full))))))
 refine OK.ite (fun e=> ?_) (fun e12=> ?_)
 ·have e:i.Op=12:=by simpa using e
  exact OK.bind2 (zgN _) (fun a _=>OK.bind2 (znj _) (fun b _=>OK.bind2 (zlB _) (fun c _=>OK.ret (notLoop (by omega) (fun _=>hk)))))
 refine OK.ite (fun e=> ?_) (fun e13=> ?_)
 ·have e:i.Op=13:=by simpa using e
  rw [hD (by omega)]
  exact OK.ret (notLoop (by omega) (fun _=>kw (WT.num SW.full)))
 refine OK.ite (fun e=> ?_) (fun e14=> ?_)
 ·have e:i.Op=14:=by simpa using e
  have him:=zkQ hr e
  rw [hD (by omega)]
  simp only [zbs]
  refine OK.ite (fun _=>OK.ret (notLoop (by omega) (fun h=>by simp at h))) (fun hlt=>OK.ret (notLoop (by omega) (fun _=>kw (.inr (.inr ⟨rfl,rfl,him.1,?_⟩)))))
  have:=of_decide_eq_false hlt
  show i.Imm<_
  omega
 refine OK.ite (fun e=> ?_) (fun e15=> ?_)
 ·have e:i.Op=15:=by simpa using e
  exact OK.ret (notLoop (by omega) (fun _=>hk))
 refine OK.bind2 (R:=fun o=>o=inB i.Op 16 19) ?_ (fun o ho=> ?_)
 ·refine OK.ite (fun e=>OK.ret ?_) (fun e=>OK.ite (fun e=>OK.ret ?_) (fun e2=>OK.ite (fun e=>OK.ret ?_) (fun e3=>OK.ret ?_)))
  ·have e:i.Op=16:=by simpa using e
   simp [e,inB]
  ·have e:i.Op=17:=by simpa using e
   simp [e,inB]
  ·have e:i.Op=18:=by simpa using e
   simp [e,inB]
  ·simp only [beq_eq_false_iff_ne,ne_eq] at e e2 e3
   rcases zft (i.Op==19) with e4 | e4
   ·have e5:i.Op=19:=by simpa using e4
    simp [e5,inB]
   ·have e5:i.Op ≠ 19:=by simpa using e4
    rw [e4,Eq.comm,inB,Bool.and_eq_false_iff]
    simp only [decide_eq_false_iff_not]
    omega
 refine OK.ite (fun e=> ?_) (fun e16=> ?_)
 ·rw [ho] at e
  have e:16<=i.Op/\i.Op<=19:=by simpa [inB] using e
  exact OK.bind2 (zgN _) (fun a _=>OK.ret (notLoop (by omega) (fun _=>hk)))
 refine OK.ite (fun e=> ?_) (fun e20=> ?_)
 ·have e:i.Op=20:=by simpa using e
  have hlp:=hg.fine.loop hi e
  have ew:w64 ((p:Int)-i.D)=(((p:Int)-i.D).toNat:Int):=by rw [qN (by omega) (by omega)];omega
  obtain ⟨hd,hd1,hd2⟩:=zgp (xs:=j.ca) (p:=((p:Int)-i.D).toNat) (by rw [h.lenC];omega)
  refine OK.bind2 (zgN _) (fun a _=>OK.ite (fun ha=>OK.ret (fun h0=>absurd h0 (by simpa using ha))) (fun _=> ?_))
  refine OK.bind2 (OK.count (Q:=fun o=>match o with | .inl _=> ∀ q,q<8->zmc (k q) (hd q) | .inr r=>r.2 ≠ 0) (fun t _=> ∀ q,q<t->zmc (k q) (hd q)) (fun q hq=>by omega) (fun t s again ht hI kk=> ?_) (fun _ hI=>hI)) (fun o ho=> ?_)
  ·unfold qw
   simp only [zr4 ht,ew,hd2,zbs]
   refine OK.bind2 (zqu _ _) (fun r hr=>OK.ite (fun _=>OK.ret (by simp)) (fun hn=>kk _ (fun q hq=> ?_)))
   by_cases hqt:q<t
   ·exact hI q hqt
   ·obtain rfl:q=t:=by omega
    exact hr (by simpa using hn)
  ·cases o with
   | inl _=>
    refine OK.ret (fun _=>⟨hk,fun i' hi' _ q hq x hx h1 h2=> ?_⟩)
    rw [hi] at hi';cases hi'
    rw [hk1] at h1;cases h1
    rw [hd1] at h2;cases h2
    exact ho q hq
   | inr r=>exact OK.ret (fun h0=>absurd h0 ho)
 refine OK.ite (fun e=> ?_) (fun e21=> ?_)
 ·have e:i.Op=21:=by simpa using e
  have him:=zjT hr e
  obtain ⟨n,hn⟩:=zof him.1
  rw [hn]
  obtain ⟨l,hl,hl3⟩:=znl ⟨n,by omega⟩
  obtain ⟨sg,hs1,hs2,hs3⟩:=zlC ⟨n,by omega⟩
  have hl':vW 1000 (n:Int)=some l:=hl
  have hs1':zea (n:Int)=some (sg,true):=hs1
  simp only [hl',zbs]
  have ec:w64 (1+(l.length:Int))=((1+l.length:Nat):Int):=by rw [qN (by omega) (by omega)];simp
  have ec1:(1:Int)=((1:Nat):Int):=rfl
  have hcut: ∃ ys,cut (vp 8 k) 1 (w64 (1+(l.length:Int)))=some ys:=by
   rw [ec]
   exact ⟨_,zjX (lo:=1) (by omega) (by rw [zbD];omega)⟩
  obtain ⟨ys,hys⟩:=hcut
  rw [hys]
  simp only [zbs]
  refine OK.bind2 (zjY ⟨n,by omega⟩ hl ys) (fun r _=> ?_)
  unfold zbI
  simp only [hs1',zbs]
  refine OK.ret (notLoop (by omega) (fun _=> ?_))
  exact kw (WT.num ⟨by simp,by simpa using hs2,by simpa using hs3⟩)
 refine OK.ite (fun e=> ?_) (fun e22=> ?_)
 ·have e:i.Op=22:=by simpa using e
  exact OK.bind2 (zgN _) (fun a _=>OK.ret (notLoop (by omega) (fun _=>hk)))
 simp only [beq_eq_false_iff_ne,ne_eq] at e0 e11 e12 e13 e14 e15 e20 e21 e22
 have e16': ¬ (16<=i.Op/\i.Op<=19):=by
  rw [ho] at e16
  intro h
  simp [inB,h] at e16
 refine OK.bind2 (zsv (hk _ (by omega)).span hs.span) (fun r hr=> ?_)
 rw [hD (by omega)]
 simp only [zbs]
 exact OK.bind2 (zgN _) (fun a _=>OK.ret (notLoop (by omega) (fun _=>kw (WT.num hr))))
end Go.Proofs.YtbmknhpfkpmigaaGreatDoor
namespace Go.Proofs.YtbmknhpfkpmigaaGreatDoor
open Go.Sx
theorem zhI (l:List Int) (m:Int):zC l m=some (l.contains m):=by
 unfold zC xb
 rw [zdE (fun i=>if (l[i]? ==some m) then some (i:Int) else none) (N:=l.length)]
 ·simp only [zbs]
  cases hf:zbb (fun i=>if (l[i]? ==some m) then some (i:Int) else none) l.length 0 with
  | some v=>
   obtain ⟨j,_,h2,h3,_⟩:=zbX hf
   split at h3
   ·rename_i h
    cases h3
    have:m∈l:=zmg (by simpa using h)
    simp [zeS,this]
   ·cases h3
  | none=>
   have:=zcx hf
   have hm:m ∉ l:=by
    intro hm
    obtain ⟨j,hj,rfl⟩:=List.mem_iff_getElem.1 hm
    have:=this j (by omega) (by omega)
    simp [hj] at this
   simp [zeS,hm]
 ·intro j again hj
  unfold zat
  simp only [zgl hj,zbs,zeg hj]
  rcases zft (m==l[j]) with h | h
  ·have e:m=l[j]:=by simpa using h
   simp [e]
  ·have e: ¬ m=l[j]:=by simpa using h
   have e2: ¬ l[j]=m:=fun x=>e x.symm
   simp [e,e2]
def zhJ (l:List Int):Prop:=(∀ x∈l,0<=x/\x<4)/\l.Nodup/\l.length<=4
theorem zfs {l:List Int} {i:Nat} (h:i<l.length):(l.take (i+1)).Nodup↔(l.take i).Nodup/\l[i] ∉ l.take i:=by
 rw [List.take_add_one,zeg h]
 simp only [Option.toList_some]
 rw [List.nodup_append]
 constructor
 ·rintro ⟨h1,_,h3⟩
  exact ⟨h1,fun hm=>h3 _ hm _ (by simp) rfl⟩
 ·rintro ⟨h1,h2⟩
  refine ⟨h1,by simp,fun a ha b hb e=> ?_⟩
  simp at hb
  subst hb;subst e
  exact h2 ha
theorem znn (l:List Int):OK (zdj l) (fun r=>r=true↔zhJ l):=by
 unfold zdj
 refine OK.bind2 (OK.count (Q:=fun o=>match o with | .inl _=>(∀ x∈l,0<=x/\x<4)/\l.Nodup | .inr r=>r=false/\ ¬ zhJ l) (fun i _=>(∀ x∈l.take i,0<=x/\x<4)/\(l.take i).Nodup) (by simp) (fun i s again hi hI k=> ?_) (fun s hI=> ?_)) (fun o ho=> ?_)
 ·unfold zgf
  simp only [zgl hi,zbs,zi4 (show i<=l.length by omega),zhI]
  refine OK.bind2 (R:=fun o=>o=true↔ ¬ (0<=l[i]/\l[i]<4/\l[i] ∉ l.take i)) ?_ (fun o ho=> ?_)
  ·refine OK.ite (fun h=>OK.ret ?_) (fun h=>OK.ite (fun h2=>OK.ret ?_) (fun h2=>OK.ret ?_))
   ·simp at h;simp;omega
   ·simp at h h2;simp;omega
   ·simp at h h2
    have h3:0<=l[i]:=by omega
    have h4:l[i]<4:=by omega
    simp [h3,h4]
  refine OK.ite (fun h=>OK.ret ⟨rfl,fun hg=> ?_⟩) (fun h=>k _ ?_)
  ·have:=(zfs hi).1 (hg.2.1.sublist (List.take_sublist _ _))
   have hm:=hg.1 l[i] (List.getElem_mem _)
   exact (ho.1 h) ⟨hm.1,hm.2,this.2⟩
  ·have hh:0<=l[i]/\l[i]<4/\l[i] ∉ l.take i:=Classical.byContradiction (fun hc=>by rw [ho.2 hc] at h;cases h)
   refine ⟨fun x hx=> ?_,(zfs hi).2 ⟨hI.2,hh.2.2⟩⟩
   rw [List.take_add_one,zeg hi] at hx
   rcases List.mem_append.1 hx with hx | hx
   ·exact hI.1 x hx
   ·simp at hx;subst hx;exact ⟨hh.1,hh.2.1⟩
 ·simpa using hI
 ·cases o with
  | inl _=>
   refine OK.ret ?_
   simp only [zdq]
   exact ⟨fun h=>⟨ho.1,ho.2,by omega⟩,fun h=>by have:=h.2.2;omega⟩
  | inr r=>exact OK.ret ⟨fun h=>(by rw [ho.1] at h;cases h),fun h=>absurd h ho.2⟩
def zrF (code:List ze) (j:zf):Prop:= ∀ (q a:Nat) (ia:ze),j.any[q]? =some true->code[a]? =some ia->ia.Op=20->(a:Int)-ia.D<q->q<=a->j.any[((a:Int)-ia.D).toNat]? =some true
theorem zrF.ways {code:List ze} (hg:zii code) {p:Nat} {j j':zf} (h:zrF code j) (hp:j.any[p]? =some true) (hw:zme code p j j'):zrF code j':=by
 intro q a ia hq ha ho h1 h2
 have hlp:=hg.fine.loop ha ho
 rcases hw.new q hq with h3 | ⟨i,hi,hway⟩
 ·exact hw.keep _ (h q a ia h3 ha ho h1 h2)
 ·
  by_cases hin:(a:Int)-ia.D<=p/\p<=a
  ·by_cases hh:(p:Int)=a-ia.D
   ·rw [<- hh]
    exact hw.keep _ (by simpa using hp)
   ·exact hw.keep _ (h p a ia hp ha ho (by omega) hin.2)
  ·exfalso
   rcases hway with ⟨hon,rfl⟩ | ⟨hl,hd,hqd⟩
   ·omega
   ·refine hg.en p (zes.1 hi).1 ⟨i,hi,hl,hd,a,ia,q,(zes.1 ha).1,ha,ho,hqd,(xr ha ho).2 ⟨by omega,by omega⟩,?_,by omega⟩
    rcases zft (jf code p a) with hc | hc
    ·exact absurd ((xr ha ho).1 hc) (fun hc=>hin ⟨hc.1,by omega⟩)
    ·exact hc
structure zop (m:zg) (n:Nat) (j:zf):Prop where
 ji:JI m j
 zero:j.any[0]? =some true
 clos:zrF m.Co j
 fits: ∀ (p:Nat) (i:ze),p<n->m.Co[p]? =some i->i.Op=20->j.any[p]? =some true-> ∀ q,q<8-> ∀ x h,j.ca[p]? =some x->j.ca[((p:Int)-i.D).toNat]? =some h->zmc (x q) (h q)
theorem zno {m:zg} {j:zf} {n:Nat} (h:zop m n j) (hg:zii m.Co) (hn:n<m.Co.length) (again:zf->Option (zf ⊕ ((Option zf)×Int×Int)))
  {Q:(zf ⊕ ((Option zf)×Int×Int))->Prop} (hk: ∀ j',zop m (n+1) j'->OK (again j') Q) (he: ∀ e,e ≠ 0->Q (.inr (none,(n:Int),e))):OK (qc 1000 n again j) Q:=by
 unfold qc
 obtain ⟨a,ha,ha2⟩:=zgp (xs:=j.any) (p:=n) (by rw [h.ji.lenA];exact hn)
 simp only [ha2,zbs]
 refine OK.ite (fun hf=> ?_) (fun hf=> ?_)
 ·have hf:a=false:=by simpa using hf
  refine hk j ⟨h.ji,h.zero,h.clos,fun p i hp hi ho hany=> ?_⟩
  by_cases e:p=n
  ·subst e;rw [ha,hf] at hany;cases hany
  ·exact h.fits p i (by omega) hi ho hany
 have hat:j.any[n]? =some true:=by rw [ha];simpa using hf
 refine OK.bind2 (zoY h.ji hg hn) (fun j1 ⟨hj1,ha1,hc1⟩=> ?_)
 refine OK.bind2 (zpR hj1 hg hn) (fun r hr=> ?_)
 refine OK.ite (fun e=>OK.ret (he _ (by simpa using e))) (fun e=> ?_)
 have hr:=hr (by simpa using e)
 refine OK.bind2 (zqx hj1 hg hn hr.1) (fun j2 ⟨hj2,hw⟩=>hk j2 ?_)
 have hcl:zrF m.Co j1:=by intro q a ia;rw [ha1];exact h.clos q a ia
 refine ⟨hj2,hw.keep _ (by rw [ha1];exact h.zero),hcl.ways hg (by rw [ha1];exact hat) hw,fun p i hp hi ho hany q hq x hh hx hhd=> ?_⟩
 have hlp:=hg.fine.loop hi ho
 rw [(hw.same p (by omega)).1] at hx
 rw [(hw.same _ (by omega)).1] at hhd
 rw [(hw.same p (by omega)).2,ha1] at hany
 by_cases e:p=n
 ·subst e
  exact hr.2 i hi ho q hq x hh hx hhd
 ·rw [hc1 p e] at hx
  rw [hc1 _ (by omega)] at hhd
  exact h.fits p i (by omega) hi ho hany q hq x hh hx hhd
structure zrG (m:zg) (r:(Option zf)×Int×Int):Prop where
 place:r.2.1=0\/0<=r.2.1/\r.2.1<m.Co.length
 good:r.2.2=0->r.2.1=0/\zii m.Co/\zhJ m.Ms/\ ∃ j,r.1=some j/\zop m m.Co.length j
 bad:r.2.2 ≠ 0->r.1=none
theorem zrH {m:zg} (hg:zii m.Co):zop m 0 ⟨m,List.replicate m.Co.length (fun _=>zci),(List.replicate m.Co.length false).set 0 true,lps m.Co m.Co.length⟩:=by
 have hn:=hg.n1
 refine ⟨⟨rfl,by simp,by simp,rfl,fun q x hx r _=> ?_⟩,by show (List.set _ _ _)[0]? =_;rw [List.getElem?_set,if_pos rfl,if_pos (by rw [List.length_replicate];omega)],fun q a ia hq ha ho h1 h2=> ?_,fun p i hp=>by omega⟩
 ·obtain ⟨_,rfl⟩:=zic hx
  exact WT.zero
 ·have hlp:=hg.fine.loop ha ho
  simp only at hq
  by_cases e:q=0
  ·subst e;omega
  ·rw [zc5 e] at hq
   obtain ⟨_,h⟩:=zic hq
   cases h
theorem zjZ (m:zg):OK (xV 1000 m) (zrG m):=by
 unfold xV
 refine OK.bind2 (znn _) (fun g hgm=> ?_)
 refine OK.ite (fun _=>OK.ret ⟨.inl rfl,fun h=>by simp at h,fun _=>rfl⟩) (fun hgt=> ?_)
 have hgm:=hgm.1 (by simpa using hgt)
 obtain ⟨r,h1,h2,h3,h4⟩:=zjB m.Co
 simp only [h1,zbs]
 refine OK.ite (fun hr=>OK.ret ⟨h2,fun h=>absurd h (by simpa using hr),fun _=>rfl⟩) (fun hr=> ?_)
 have hg:=(h3 (by simpa using hr)).2
 have hn:=hg.n64
 have hn1:=hg.n1
 refine OK.bind2 (R:=fun o=>o=zf.mk m (List.replicate m.Co.length (fun _=>zci)) (List.replicate m.Co.length false) []) ?_ (fun o ho=> ?_)
 ·refine OK.bind (OK.mkl (by omega) (by simp;omega) ?_)
  refine OK.bind (OK.mkl (by omega) (by simp;omega) (OK.ret ?_))
  simp [zci]
 subst ho
 simp only [zix hg,zbs]
 have e0:idx (List.replicate m.Co.length false) 0=some false:=by
  have:=zgl (xs:=List.replicate m.Co.length false) (i:=0) (by simp;omega)
  simpa using this
 rw [e0]
 simp only [zbs]
 refine OK.bind2 (OK.count (Q:=fun o=>match o with | .inl j=>zop m m.Co.length j | .inr r=>r.1=none/\r.2.2 ≠ 0/\0<=r.2.1/\r.2.1<m.Co.length) (fun i s=>zop m i s) ?_ (fun i s again hi hI k=>zno hI hg hi again k (fun e he=>⟨rfl,he,by simp,by simpa using hi⟩)) (fun s hI=>hI)) (fun o ho=> ?_)
 ·simpa using zrH hg
 ·cases o with
  | inl j=>exact OK.ret ⟨.inl rfl,fun _=>⟨rfl,hg,hgm,j,rfl,ho⟩,fun h=>absurd rfl h⟩
  | inr r=>exact OK.ret ⟨.inr ho.2.2,fun h=>absurd h ho.2.1,fun _=>ho.1⟩
theorem zoZ (m:zg):OK (xI 1000 m) (fun r=>(r.1=0\/0<=r.1/\r.1<m.Co.length)):=by
 unfold xI
 refine OK.bind2 (zjZ m) (fun r hr=> ?_)
 obtain ⟨o,p,e⟩:=r
 cases o with
 | none=>exact OK.none_ (OK.ret hr.place)
 | some j=>exact OK.some_ (OK.ret hr.place)
def zaC (j:zf) (p:Nat):List zb:=match j.any[p]?,j.ca[p]? with
 | some true,some c=>vp 8 c
 | _,_=> []
end Go.Proofs.YtbmknhpfkpmigaaGreatDoor
