/- Lemmas. -/
import Derived.Test.YtplmgfkghomelaaGreatDoorKEng
set_option linter.all false
namespace Go.Proofs.YtplmgfkghomelaaGreatDoor
open Go.Sx
variable {H M W n:Nat}{r:zb}{b:Type}{h d a:Int}{m:List (Int×b)}{S:zm}{o:Option zj}{q:Int×zz}{c:zF}{x:zU}{i:zr}{j:qT×EM}{l:zk}{v:Int×EM}{y:zE}{z A:zP}{B:zS}
theorem uE(h:fJ H M W n r)(k:Int):OK (xO r.Tk [k]) (λq=>(q.1≠0/\q.2=r.Tk)\/(q.1=0/\∃l,(l.length=r.Tk.Te.length/\∀(i:Nat) u,l[i]? =some u->u.Ts=0\/r.Tk.Te[i]? =some u)/\q.2=⟨r.Tk.Ty,l⟩)):=by
 unfold xO;refine d6 (i7 (Q:=λo=>match o with|.inl _=>0<=k/\k<r.Tk.Te.length|.inr q=>q=(2,r.Tk)) (λi _=>i=0\/0<=k/\k<r.Tk.Te.length) (.inl rfl) (λi s a d c f=> ?_) (λs c=> ?_)) (λo b=> ?_)
 ·have e:i=0:=by simp at d;omega
  subst e;unfold fS jf;simp only [idx,SD,l8,zbs,Int.natCast_zero,w8,s7,Int.toNat_zero];refine d6 (R:=λo=>o=false->0<=k/\k<r.Tk.Te.length) (d5 (λ_=>b9 (λe=>by cases e)) (λz=> ?_)) (λo b=>d5 (λ_=>b9 rfl) (λm=>f _ (.inr (b m))))
  grind [cut,iA,b9]
 ·grind
 ·cases o with
  |inr q=>exact b9 (.inl ⟨by rw [b];simp,by rw [b]⟩)
  |inl u=>
   obtain ⟨x,A,p⟩:=oM (l:=r.Tk.Te) b.1 b.2;refine d6 (i7 (Q:=λo=>match o with|.inl _=>True|.inr q=>q=(41,r.Tk)) (λi _=>True) trivial (λi s a d c f=> ?_) (λs c=>trivial)) (λo g=> ?_)
   ·have e:i=0:=by simp at d;omega
    subst e;unfold fT jg;simp only [idx,SD,zbs,Int.natCast_zero,w8,s7,Int.toNat_zero];rw [show (if 0<=k then r.Tk.Te[k.toNat]? else none)=some x from by grind];simp only [zbs];exact d5 (λ_=>b9 rfl) (λ_=>f _ trivial)
   ·cases o with
    |inr q=>exact b9 (.inl ⟨by rw [g];simp,by rw [g]⟩)
    |inl u=>
     refine d6 (i7 (Q:=λt=>∃l,(l.length=r.Tk.Te.length/\∀(i:Nat) u,l[i]? =some u->u.Ts=0\/r.Tk.Te[i]? =some u)/\t=⟨r.Tk.Ty,l⟩) (λi t=>∃l,(l.length=r.Tk.Te.length/\∀(i:Nat) u,l[i]? =some u->u.Ts=0\/r.Tk.Te[i]? =some u)/\t=⟨r.Tk.Ty,l⟩) ⟨_,⟨rfl,λ_ _ j=>.inr j⟩,rfl⟩ (λi s a d c f=> ?_) (λs c=>c)) (λt v=>b9 (.inr ⟨rfl,v⟩));have e:i=0:=by simp at d;omega
     subst e;obtain ⟨l,hl,rfl⟩:=c;unfold fU;obtain ⟨y,w,_⟩:=oM (l:=l) b.1 (by rw [hl.1];exact b.2)
     rw [show idx [k] ((0:Nat):Int)=some k from rfl];simp only [zbs,w];refine f _ ⟨_,⟨by rw [k7];exact hl.1,λi u j=> ?_⟩,rfl⟩
     rw [y6] at j
     grind
theorem GT(h:fJ H M W n r)(a:n+1<=1000000000)(b:(q.1≠0/\q.2=r.Tk)\/(q.1=0/\∃l,(l.length=r.Tk.Te.length/\∀(i:Nat) u,l[i]? =some u->u.Ts=0\/r.Tk.Te[i]? =some u)/\q.2=⟨r.Tk.Ty,l⟩)):fJ H M W (n+1) (GN r q.2):=by
 have c:=h.UO;have d:=h.last;rcases b with ⟨_,e⟩|⟨_,l,hl,e⟩
 ·rw [e];exact h.mono (by omega) a
 ·rw [e];exact CG h a (by rw [hl.1];exact h.hl) c (by simp;omega)
def GU(r:zb)(c:zF):zb:={r with Th:=c}
theorem CI(h:fJ H M W n r)(a:n+1<=1000000000)(b:c.in_.length=W)(g:r.Th.Uq<=c.Uq)(i:c.Uq<=r.Th.Uq+1)(d:∀e∈c.in_,0<=e/\e<=c.Uq):fJ H M W (n+1) (GU r c):=
 {h.mono (n':=n+1) (by omega) a with wk:=b,UP:=by have:=h.UP;simp [GU];omega,Uq:=by have:=h.Uq;simp [GU];omega,Vm:=d,prog:=λp x f=>by have:=h.prog p x f;exact ⟨this.1,this.2.1,this.2.2.1,this.2.2.2.1,this.2.2.2.2.1,this.2.2.2.2.2.1,by simp [GU];omega⟩}
theorem AR(h:fJ H M W n r)(k:Int):OK (vn r.Th k) (λq=>(q.2.1≠0/\q.1=0/\q.2.2=r.Th)\/(q.2.1=0/\q.1≠0/\0<=k/\k<W/\r.Th.in_[k.toNat]? =some 0/\q.2.2=⟨r.Th.Uq,r.Th.in_.set k.toNat r.Th.Uq⟩)):=by
 unfold vn vl;simp only [zbs];refine d5 (λ_=>b9 (.inl ⟨by simp,rfl,rfl⟩)) (λa=> ?_);simp only [Bool.not_eq_false',zae,zdq] at a;obtain ⟨x,b,c⟩:=oM (l:=r.Th.in_) a.1 a.2;rw [b];simp only [zbs];refine d5 (λ_=>b9 (.inl ⟨by simp,rfl,rfl⟩)) (λd=>b9 (.inr ⟨rfl,?_,a.1,by rw [<- h.wk];exact a.2,?_,rfl⟩))
 ·have:=h.UP;simp;omega
 grind
theorem Jh(h:fJ H M W n r)(b:n+1<=1000000000)(k:Int):fJ H M W (n+1) (GU r ⟨r.Th.Uq,r.Th.in_.set k.toNat r.Th.Uq⟩):=by
 refine CI h b (by simp [h.wk]) (w8 _) (by simp;omega) (λe c=> ?_);have d:=h.UP;rcases r7 c with a|a
 ·exact h.Vm e a
 grind
theorem AU(h:fJ H M W n r)(k:Int):OK (vo r.Th [k]) (λq=>(q.1≠0/\q.2=r.Th/\(0<=k->k<W->r.Th.in_[k.toNat]? =some 0))\/(q.1=0/\0<=k/\k<W/\q.2=⟨r.Th.Uq,r.Th.in_.set k.toNat 0⟩)):=by
 have C:=h.UN;unfold vo;refine d6 (i7 (Q:=λo=>match o with|.inl _=>0<=k/\k<W|.inr q=>q=(2,r.Th)/\¬ (0<=k/\k<W)) (λi f=>(i=0/\f=λ_=>false)\/(i=1/\0<=k/\k<W)) (.inl ⟨rfl,rfl⟩) (λi s a g d j=> ?_) (λs d=> ?_)) (λo b=> ?_)
 ·have e:i=0:=by simp at g;omega
  subst e;unfold gr vl;rw [show idx [k] ((0:Nat):Int)=some k from rfl];simp only [zbs];by_cases p:0<=k/\k<W
  ·have D:ain 4 k=some k.toNat:=by unfold ain;rw [d7 ⟨p.1,by omega⟩]
   have v:(!(decide (k>=0)&&decide (k<(r.Th.in_.length:Int))))=false:=by rw [h.wk];simp;omega
   grind
  ·have v:(!(decide (k>=0)&&decide (k<(r.Th.in_.length:Int))))=true:=by rw [h.wk];simp;omega
   grind [b9]
 ·grind
 ·cases o with
  |inr q=>exact b9 (.inl ⟨by rw [b.1];simp,by rw [b.1],λw y=>absurd ⟨w,y⟩ b.2⟩)
  |inl u=>
   obtain ⟨x,z,m⟩:=oM (l:=r.Th.in_) b.1 (by rw [h.wk];exact b.2)
   refine d6 (i7 (Q:=λo=>match o with|.inl _=>True|.inr q=>q=(41,r.Th)/\x=0) (λi _=>True) trivial (λi s a g d j=> ?_) (λs d=>trivial)) (λo c=> ?_)
   ·have e:i=0:=by simp at g;omega
    subst e;unfold gt;rw [show idx [k] ((0:Nat):Int)=some k from rfl];simp only [zbs,z];exact d5 (λA=>b9 ⟨rfl,by simpa using A⟩) (λ_=>j _ trivial)
   ·cases o with
    |inr q=>exact b9 (.inl ⟨by rw [c.1];simp,by rw [c.1],λ_ _=>by rw [m,c.2]⟩)
    |inl u=>
     refine d6 (i7 (Q:=λt=>t=⟨r.Th.Uq,r.Th.in_.set k.toNat 0⟩) (λi t=>(i=0/\t=r.Th)\/(i=1/\t=⟨r.Th.Uq,r.Th.in_.set k.toNat 0⟩)) (.inl ⟨rfl,rfl⟩) (λi s a g d j=> ?_) (λs d=> ?_)) (λt B=>b9 (.inr ⟨rfl,b.1,b.2,B⟩))
     ·grind [gu,idx]
     grind
theorem Ji(h:fJ H M W n r)(b:n+1<=1000000000)(k:Int):fJ H M W (n+1) (GU r ⟨r.Th.Uq,r.Th.in_.set k.toNat 0⟩):=by
 refine CI h b (by simp [h.wk]) (w8 _) (by simp;omega) (λe c=> ?_);have d:=h.UP;rcases r7 c with a|a
 ·exact h.Vm e a
 grind
theorem GV(h:fJ H M W n r):vC r.Th=some (r.Th.Uq+1,⟨r.Th.Uq+1,r.Th.in_⟩):=by
 have a:=h.UP;have b:=h.Uq;have c:=h.TU
 grind [vC,gy]
theorem Jj(c:zF)(e:Int)(hl:c.in_.length<=140737488355328):vJ c e=some (decide (∀x∈c.in_,x=0\/e<=x)):=by
 unfold vJ;have h:room c.in_.length 1=some ():=by grind [room]
 rw [h];simp only [zbs];refine OK.is (d6 (i7 (Q:=λo=>match o with|.inl _=>∀x∈c.in_,x=0\/e<=x|.inr q=>q=false/\¬ ∀x∈c.in_,x=0\/e<=x) (λi _=>∀x∈c.in_.take i,x=0\/e<=x) (by simp) (λi s b g j k=> ?_) (λs j=>by grind)) (λo m=> ?_))
 ·unfold gW;refine g9 (j4 g (λx d=>d5 (λf=>b9 ⟨rfl,λa=> ?_⟩) (λf=>k _ ?_)))
  ·have:=a x (zmg d);simp at f;omega
  ·intro y l;rw [yc,d] at l
   grind
 grind [b9]
open Go.Sx
theorem LJ(h:fJ H M W n r)(p:Int):OK (aM r.Tk [p]) (λl=>l.length<=4/\(l=[]->∀(i:Nat) u,r.Tk.Te[i]? =some u->0<u.Ts->u.prog≠p)):=by
 have v:=h.UN;have hl:=h.hl;unfold aM;refine d6 (i7 (Q:=λl=>l.length<=4/\(l=[]->∀(i:Nat) u,r.Tk.Te[i]? =some u->0<u.Ts->u.prog≠p)) (λi l=>l.length<=i/\(l=[]->∀(j:Nat) u,j<i->r.Tk.Te[j]? =some u->0<u.Ts->u.prog≠p)) ⟨by simp,λ_ j u d=>by omega⟩ (λi s b f c k=> ?_) (λs c=>⟨by omega,λe j u a=>c.2 e j u (zes.1 a).1 a⟩)) (λl h=>b9 h);unfold gw;refine g9 (j4 f (λx g=> ?_));simp only [iA,zbs];refine d6 (R:=λo=>o=false->0<x.Ts->x.prog≠p) (d5 (λ_=>b9 (by simp;exact λz _=>z)) (λ_=>b9 (by grind))) (λo m=>d5 (λ_=> ?_) (λe=>k _ ⟨by omega,λq j u d a=> ?_⟩))
 ·refine g9 (OK.hasRoom (by simp;omega) (k _ ⟨by simp;omega,λe=>by simp at e⟩))
 ·by_cases t:j=i
  ·subst t;rw [g] at a;cases a;exact m e
  ·exact c.2 q j u (by omega) a
def retired(r:zb)(p:Int)(x:zU):zb:=
 {r with Th:=⟨r.Th.Uq+1,r.Th.in_⟩,Tl:=wc r.Tl p ⟨x.module,r.Th.Uq+1⟩,waiting:=r.waiting++[p]}
theorem mZ(h:fJ H M W n r)(p:Int):OK (qS r p) (λq=>(q.2.1≠0/\q.1=0/\q.2.2=r)\/(q.2.1=0/\q.1=r.Th.Uq+1/\∃x,jz r.Tl p=some x/\x.TH=0/\(∀(i:Nat) u,r.Tk.Te[i]? =some u->0<u.Ts->u.prog≠p)/\q.2.2=retired r p x)):=by
 unfold qS;cases c:jz r.Tl p with
 |none=>exact o8 rfl (b9 (.inl ⟨by simp,rfl,rfl⟩))
 |some x=>
  refine j8 rfl ?_;simp only [zbs];refine d5 (λ_=>b9 (.inl ⟨by simp,rfl,rfl⟩)) (λd=> ?_);refine d6 (LJ h p) (λl a=>d5 (λ_=>b9 (.inl ⟨by simp,rfl,rfl⟩)) (λb=> ?_));rw [GV h];simp only [zbs];have e:=h.wlen;have hl:=h.len;refine g9 (OK.hasRoom (by simp;omega) (b9 (.inr ⟨rfl,rfl,x,rfl,?_,a.2 (by cases l<;>simp at b |-),rfl⟩)));have:=(h.prog p x c).2.2.2.2.2.1;simp at d;omega
theorem Es(h:fJ H M W n r)(g:n+1<=1000000000)(j:jz r.Tl d=some x)(p:x.TH=0):fJ H M W (n+1) (retired r d x):=by
 have s:=h.Uq;have k:=h.UP
 have c:∀q,jz (retired r d x).Tl q=if d=q then some ⟨x.module,r.Th.Uq+1⟩ else jz r.Tl q:=by
  grind [retired,CD]
 refine {h.mono (n':=n+1) (by omega) g with UP:=by grind [retired],Uq:=by grind [retired],Vm:=λe l=> ?_,Ub:= ?_,len:= ?_,prog:= ?_,held:= ?_,Vu:= ?_,UU:= ?_}
 ·have:=h.Vm e l
  grind [retired]
 ·unfold FP;rw [show (retired r d x).Tl.map (·.1)=r.Tl.map (·.1) from FQ _ _ _];exact h.Ub
 ·rw [show (retired r d x).Tl.length=r.Tl.length from LC _ _ _];exact h.len
 ·intro q y f;rw [c] at f;split at f
  ·rename_i e
   subst e;cases f;have:=h.prog d x j
   grind [retired]
  ·have:=h.prog q y f
   grind [retired]
 ·show r.Ue.held=_;rw [h.held];exact (Jf (λ(z:zU)=>z.module.Maps) r.Tl d ⟨x.module,r.Th.Uq+1⟩ x j rfl).symm
 ·refine l6.2 ⟨h.Vu,by simp,λa m b g e=> ?_⟩;simp at g;subst g;subst e;obtain ⟨y,f,o⟩:=(h.UU a).1 m
  grind
 ·intro q;rw [c];show q∈r.waiting++[d]↔_;simp only [g8,i6];by_cases e:d=q
  ·subst e;simp;omega
  ·have i:¬ q=d:=λi=>e i.symm
   simp only [i,or_false,d8 e];exact h.UU q
def uF(r:zb)(p:Int):Bool:=match jz r.Tl p with
 |some x=>decide (∀e∈r.Th.in_,e=0\/x.TH<=e)
 |none=>false
def mg(P:Int->Bool)(k:Int):List Int->List Int
 |[]=>[]
 |x::l=>if 0<k/\P x=true then x::mg P (k-1) l else mg P k l
theorem uG(P:Int->Bool):∀(l:List Int)(k:Int),(mg P k l).Sublist l
 |[],_=>List.Sublist.refl _
 |x::l,k=>by
  unfold mg;split
  ·exact (uG P l _).cons_cons x
  ·exact (uG P l _).cons x
theorem Et(P:Int->Bool):∀(l:List Int)(k:Int),∀x∈mg P k l,P x=true
 |[],_=>λx h=>by cases h
 |y::l,k=>λx h=>by
  unfold mg at h;split at h
  ·rename_i a
   rcases j9.1 h with rfl|h
   ·exact a.2
   ·exact Et P l _ x h
  ·exact Et P l _ x h
theorem rK(P:Int->Bool)(x:Int):∀(l:List Int)(k:Int),mg P k (l++[x])=mg P k l++(if ((mg P k l).length:Int)<k/\P x=true then [x] else [])
 |[],k=>by
  grind [mg]
 |y::l,k=>by
  simp only [Sv,mg];split
  ·rename_i h
   rw [rK P x l (k-1)]
   grind
  ·exact rK P x l k
def iQ(r:zb)(m:Int):List Int:=mg (uF r) m r.waiting
theorem Jk(h:fJ H M W n r)(m:Int):OK (jM (vA r m) (λ(s:List Int)=>s) r.waiting.length 0 []) (λl=>l=iQ r m):=by
 have q:=h.wlen;have hl:=h.len;refine i7 (λi s=>s=mg (uF r) m (r.waiting.take i)/\s.length<=i) ⟨by simp [mg],by simp⟩ (λi s b f a k=> ?_) (λs a=> ?_)
 ·obtain ⟨rfl,g⟩:=a;unfold vA;refine g9 (j4 f (λx d=> ?_));obtain ⟨y,j,_⟩:=(h.UU x).1 (zmg d);have t:uF r x=decide (∀e∈r.Th.in_,e=0\/y.TH<=e):=by grind [uF]
  have u:mg (uF r) m (r.waiting.take (i+1))=mg (uF r) m (r.waiting.take i)++(if ((mg (uF r) m (r.waiting.take i)).length:Int)<m/\uF r x=true then [x] else []):=by
   rw [eM d,rK]
  simp only [j,zbs,Jj _ _ (show r.Th.in_.length<=140737488355328 by have v:=h.wk;have w:=h.UN;omega)];refine d6 (R:=λo=>o=decide (((mg (uF r) m (r.waiting.take i)).length:Int)<m/\uF r x=true)) (d5 (λc=>b9 ?_) (λc=>b9 ?_)) (λo p=> ?_)
  ·grind
  ·grind
  ·subst p;refine d5 (λc=>g9 (OK.hasRoom (by simp;omega) (k _ ?_))) (λc=>k _ ?_)
   ·grind
   grind
 ·rw [z9] at a;exact a.1
theorem uH(l:List Int)(x:Int):jh x l=some (decide (x∈l)):=by
 grind [jh,iA]
theorem LK(g:List Int)(p:List Int)(E:p.length<=16)(r:Nat)(F:r<p.length)(a:∃x,p[r]? =some x/\x∈g)(u:∀j,j<r->∀x,p[j]? =some x->x∉g):
  OK (loop (xl g) 2199023255552 (p,(r:Int),((r:Int)+1))) (λo=>o.1.length=p.length/\∃k:Nat,o.2=(k:Int)/\k<=p.length/\o.1.take k=p.filter (λx=>decide (x∉g))):=by
 refine OK.rounds (λs=>s.1.length=p.length/\∃k j:Nat,s.2.1=(k:Int)/\s.2.2=(j:Int)/\k<j/\j<=p.length/\s.1.take k=(p.take j).filter (λx=>decide (x∉g))/\s.1.drop j=p.drop j) (λs=>p.length-s.2.2.toNat) ?_ 2199023255552 _ ?_ (by simp;omega)
 ·rintro ⟨s,G,I⟩ c ⟨h,k,j,b,v,J,K,w,d⟩ z;simp only at b v h w d;subst b;subst v;unfold xl;simp only [h];by_cases C:j<p.length
  ·refine o8 (by simp;omega) ?_;refine g9 (j4 (by omega) (λx a=> ?_))
   have f:p[j]? =some x:=by
    have e:=congrArg (λl=>l[0]?) d
    grind
   rw [uH];simp only [zbs];have D:w64 ((j:Int)+1)=((j+1:Nat):Int):=by grind [gy]
   have i:w64 ((k:Int)+1)=((k+1:Nat):Int):=by grind [gy]
   have A:s.drop (j+1)=p.drop (j+1):=by
    have e:=congrArg (List.drop 1) d
    simpa [yu] using e
   have m:p.take (j+1)=p.take j++[x]:=eM f;rw [D];refine d5 (λn=> ?_) (λn=> ?_)
   ·have q:x∉g:=by simpa using n
    refine g9 (j4 (by omega) (λy B=> ?_));rw [i];refine z _ ⟨by simpa using h,k+1,j+1,rfl,rfl,by omega,by omega,?_,?_⟩ (by simp;omega)
    ·simp only [l8];rw [m,z6,<- w];have:(s.set k x)[k]? =some x:=by grind
     rw [yc,this];simp only [Option.toList_some,List.filter_cons,q,not_false_eq_true,decide_true,s7,List.filter_nil]
     congr 1
     exact List.take_set_of_le (by omega)
    ·simp only [l8];rw [List.drop_set_of_lt (by omega)];exact A
   ·have L:x∈g:=by simpa using n
    refine z _ ⟨h,k,j+1,rfl,rfl,by omega,by omega,?_,A⟩ (by simp;omega)
    grind
  ·refine j8 (by simp;omega) (b9 ⟨h,k,rfl,by omega,?_⟩)
   grind
 ·obtain ⟨x,a,t⟩:=a;refine ⟨rfl,r,r+1,rfl,by simp,by omega,by omega,?_,rfl⟩;simp only;rw [eM a,z6]
  have b:(p.take r).filter (λx=>decide (x∉g))=p.take r:=by
   refine List.filter_eq_self.2 (λy B=> ?_);obtain ⟨j,C,e⟩:=w7.1 B
   grind
  rw [b];simp [t]
theorem uq(p g:List Int)(t:p.length<=16):jp 2199023255552 p g=some (p.filter (λx=>decide (x∉g))):=by
 refine OK.is ?_;unfold jp
 have b:OK (jy p g) (λi=>(i= -1/\∀x∈p,x∉g)\/∃j:Nat,i=(j:Int)/\j<p.length/\(∃x,p[j]? =some x/\x∈g)/\∀q,q<j->∀x,p[q]? =some x->x∉g):=by
  unfold jy;refine d6 (i7 (Q:=λo=>match o with|.inl _=>∀x∈p,x∉g|.inr i=>∃j:Nat,i=(j:Int)/\j<p.length/\(∃x,p[j]? =some x/\x∈g)/\∀q,q<j->∀x,p[q]? =some x->x∉g) (λi _=>∀q,q<i->∀x,p[q]? =some x->x∉g) (λq r=>by omega) (λi s c a d k=> ?_) (λs d=> ?_)) (λo u=> ?_)
  ·unfold aK;refine g9 (j4 a (λx h=> ?_));rw [uH];simp only [zbs];refine d5 (λf=>b9 ⟨i,rfl,a,⟨x,h,by simpa using f⟩,d⟩) (λf=>k _ (λq r y v=> ?_))
   grind
  ·intro x h;obtain ⟨j,l,e⟩:=w7.1 h;exact d j l x (by grind)
  grind [b9]
 refine d6 b (λi a=> ?_);rcases a with ⟨rfl,m⟩|⟨j,rfl,l,h,n⟩
 ·refine o8 (by simp) (b9 ?_);exact (List.filter_eq_self.2 (λx h=>by grind)).symm
 ·refine j8 (by simp) ?_
  grind [gy,d6,LK,cut,b9]
open Go.Sx
theorem FP.mdels(h:FP m)(g:List Int):FP (mdels m g):=by
 induction g generalizing m with
 |nil=>exact h
 |cons x g i=>exact i (h.mdel x)
theorem GW(h:FP m)(g:List Int)(q:Int):jz (mdels m g) q=if q∈g then none else jz m q:=by
 induction g generalizing m with
 |nil=>simp [mdels]
 |cons x g i=>
  simp only [mdels];rw [i (h.mdel x),Je h]
  grind
theorem Jl{a:Type}(f:b->a)(g:List Int)(m:List (Int×b)):(mdels m g).map (λp=>(p.1,f p.2))=mdels (m.map (λp=>(p.1,f p.2))) g:=by
 induction g generalizing m with
 |nil=>rfl
 |cons x g i=>simp only [mdels];rw [i,LD]
def settled(r:zb)(g:List Int):zb:=
 {r with Ue:=⟨r.Ue.maps,mdels r.Ue.held g⟩,Tl:=mdels r.Tl g,waiting:=r.waiting.filter (λx=>decide (x∉g))}
theorem LL(p:zZ)(x:Int):∃e,bF p [x]=some (e,⟨p.maps,mdel p.held x⟩):=by
 rw [Ot,d7 (by simp)];by_cases h:(jz p.held x).isSome=true
 ·rw [d7 (by simpa using h)];exact ⟨_,rfl⟩
 ·rw [d8 (by simpa using h)]
  have:jz p.held x=none:=by cases a:jz p.held x with
   |none=>rfl
   |some v=>rw [a] at h;simp at h
  rw [pV this];exact ⟨_,rfl⟩
theorem Jm(r:zb)(g:List Int):jM (vB g) (λ(s:zb)=>s) g.length 0 r=some {r with Ue:=⟨r.Ue.maps,mdels r.Ue.held g⟩,Tl:=mdels r.Tl g}:=by
 refine OK.is (i7 (λi s=>s={r with Ue:=⟨r.Ue.maps,mdels r.Ue.held (g.take i)⟩,Tl:=mdels r.Tl (g.take i)}) rfl (λi s a b h k=> ?_) (λs h=> ?_))
 ·subst h;unfold vB;refine g9 (j4 b (λx c=> ?_));obtain ⟨e,d⟩:=LL ⟨r.Ue.maps,mdels r.Ue.held (g.take i)⟩ x
  grind [eM,wP]
 grind
theorem LM(r:zb)(m:Int):(iQ r m).Sublist r.waiting:=uG _ _ _
theorem Jn(h:fJ H M W n r)(m:Int):xb 2199023255552 r m=some (iQ r m,settled r (iQ r m)):=by
 refine OK.is ?_;unfold xb;refine d6 (Jk h m) (λg a=> ?_);rw [Jm];simp only [zbs];have b:=h.wlen;have hl:=h.len;rw [uq _ _ (by omega)];simp only [zbs];exact b9 (by rw [a];rfl)
theorem Ox(h:fJ H M W n r)(b:a∈iQ r d):∃x,jz r.Tl a=some x/\0<x.TH/\∀e∈r.Th.in_,e=0\/x.TH<=e:=by
 obtain ⟨x,c,f⟩:=(h.UU a).1 ((LM r d).subset b);refine ⟨x,c,f,?_⟩;have:=Et _ _ _ a b;unfold uF at this;rw [c] at this
 simpa using this
theorem oO(h:fJ H M W n r)(g:List Int)(q:Int):jz (settled r g).Tl q=if q∈g then none else jz r.Tl q:=GW h.Ub g q
theorem Eu(h:fJ H M W n r)(c:n+1<=1000000000)(m:Int):fJ H M W (n+1) (settled r (iQ r m)):=by
 have a:=h.mono (n':=n+1) (by omega) c;refine {Te:=a.Te,hl:=a.hl,maps:=a.maps,UZ:=a.UZ,wk:=a.wk,UN:=a.UN,TU:=c,UR:=a.UR,given:=a.given,UO:=a.UO,last:=a.last,UP:=a.UP,Uq:=a.Uq,Vm:=a.Vm,Ub:=h.Ub.mdels _,len:= ?_,prog:=λp x b=> ?_,held:= ?_,Vu:=h.Vu.sublist List.filter_sublist,UU:=λp=> ?_}
 ·have:=Jb (iQ r m) r.Tl;have d:=h.len
  grind [settled]
 ·rw [oO h] at b;split at b
  ·cases b
  ·exact h.prog p x b
 ·simp only [settled];rw [h.held];exact (Jl (λ(z:zU)=>z.module.Maps) _ _).symm
 ·rw [oO h];simp only [settled,List.mem_filter,zdq,h.UU p]
  grind
theorem CJ(h:fJ H M W n r)(p:Int):qR r p=some (match jz r.Tl p with|some x=>(x.module,true)|none=>(⟨[],[]⟩,false)):=by
 unfold qR;cases b:jz r.Tl p with
 |none=>rfl
 |some x=>
  have a:=h.prog p x b;have d:x.module.Maps.length<=4:=a.2.2.1.2.2;have c:=a.2.2.2.2.1;rw [d8 (by simp)];simp only [zbs];rw [FO _ (by omega)];unfold zT room;rw [d7 (by simp;omega)];rfl
open Go.Sx
theorem Pst.bind2{b a:Type}{o:Option b}{f:b->Option a}{R:b->Prop}{Q:a->Prop}(c:Pst o R)(h:∀x,R x->Pst (f x) Q):Pst (o.bind f) Q:=λr e=>by
 obtain ⟨x,d,g⟩:=zK e;exact h x (c x d) r g
theorem p5:type_of% @Pst.bind2:=Pst.bind2
theorem LY(h:uu H (pk i S)=some j):∃M b,qM H i S=some (j.1,M,b)/\j.2=pk M b:=by
 rw [Ob] at h;obtain ⟨⟨a,M,b⟩,c,rfl⟩:=yn.1 h;exact ⟨M,b,c,rfl⟩
theorem G4(h:mX (pk i S) l=some v):∃M,jD i l S=some (v.1,M)/\v.2=pk M S:=by
 rw [I3] at h;obtain ⟨⟨e,M⟩,a,rfl⟩:=yn.1 h;exact ⟨M,a,rfl⟩
inductive QD:zr->zm->List zk->List qT->Nat->Prop
 |stop {M M1:zr} {S S1:zm} {a:qT} {rs:List zk}:qM 2199023255552 M S=some (a,M1,S1)->a.SV=4->M1.steps=w64 (M.steps+1)->QD M S rs [a] 0
 | ask {M M1 M2 : zr} {S S1 : zm} {a : qT} {c : zk} {rs : List zk} {l : List qT} {n : Nat} : qM 2199023255552 M S = some (a, M1, S1) -> a.SV = 2 -> jD M1 c S1 = some (0, M2) ->
   M2.steps=w64 (M.steps+1)->QD M2 S1 rs l n->QD M S (c::rs) (a::l) (n+1)
 |go {M M1:zr} {S S1:zm} {a:qT} {rs:List zk} {l:List qT} {n:Nat}:qM 2199023255552 M S=some (a,M1,S1)->a.SV=1\/a.SV=3->M1.steps=w64 (M.steps+1)->QD M1 S1 rs l n->QD M S rs (a::l) n
def Q4(m:zE)(E:qr):zr:=⟨E,m,λ_=>0,λ_=>0,0,0,0⟩
theorem JD(a:y.Maps.length*8<=140737488355328)(b:y.Code.length*40<=140737488355328)(h:jZ 2199023255552 y=some (o,0,0))(E:qr)(S:zm):
  ft 2199023255552 y E S=some (some (Q4 y E),0,⟨⟨λ_=>0⟩,S.Tx⟩):=by
 unfold ft;rw [Ao h];simp only [zbs];rw [d8 (by simp)];simp only [bU,NO a,NP b,zbs];rfl
theorem LZ(h:jZ 2199023255552 y=some (o,d,a))(b:a≠0)(E:qr)(S:zm):
  ft 2199023255552 y E S=some (none,a,S):=by
 grind [ft,Ao]
def U5(t:zP):Prop:=u64 t.US/\u64 t.Ul/\u64 t.UA/\u64 t.Calls/\u64 t.Sum
def wU(t u:zP):zP:=⟨xZ (t.US+u.US),xZ (t.Ul+u.Ul),xZ (t.UA+u.UA),xZ (t.Calls+u.Calls),xZ (t.Sum+u.Sum)⟩
theorem L3(t u:zP):U5 (wU t u):=⟨xe _,xe _,xe _,xe _,xe _⟩
theorem Sj(h:u64 d):xZ (0+d)=d:=by rw [Int.zero_add,vd h.1 h.2]
theorem QE(h:U5 z):mJ [z,A]=some (wU z A):=by
 obtain ⟨a,b,c,d,e⟩:=h;show some (wU (wU ⟨0,0,0,0,0⟩ z) A)=_
 grind [wU,Sj]
theorem FZ(a:0<=h)(b:h<4):fh h=some true:=by
 grind [fh]
theorem RT(a:0<=h)(b:h<4):ain 4 h=some h.toNat:=by grind [ain]
theorem QF(a:0<=h)(b:h<4)(d:U5 (B.Te h.toNat))(s c v:Int):cz B h s c v=some (0,⟨aset B.Te h.toNat (wU (B.Te h.toNat) ⟨1,0,s,c,v⟩)⟩):=by
 grind [cz,FZ,RT,QE]
def F0(t:zP):zP:={t with Ul:=xZ (t.Ul+1)}
theorem JE(a:0<=h)(b:h<4):vS B [h]=some (0,⟨aset B.Te h.toNat (F0 (B.Te h.toNat))⟩):=by
 unfold vS
 have e:jM (vQ B [h]) (λ(c:Unit)=>(.inl ())) ([h]).length 0 ()=some (.inl ()):=by
  show vQ B [h] 0 _ ()=_;unfold vQ;have:idx [h] ((0:Nat):Int)=some h:=rfl;rw [this];simp only [zbs,FZ a b];rfl
 have d:jM (vR [h]) (λ(s:zS)=>s) ([h]).length 0 B=some ⟨aset B.Te h.toNat (F0 (B.Te h.toNat))⟩:=by
  show vR [h] 0 _ B=_;unfold vR;have:idx [h] ((0:Nat):Int)=some h:=rfl;rw [this];simp only [zbs,RT a b];rfl
 grind
def Q5(s:zS):Prop:=∀i,U5 (s.Te i)
theorem Q5.aset(h:Q5 B)(k:Nat)(a:U5 z):Q5 ⟨Go.Sx.aset B.Te k z⟩:=by
 intro i;show U5 (Go.Sx.aset B.Te k z i);unfold Go.Sx.aset;split
 ·exact a
 ·exact h i
theorem JF(h:U5 z):U5 (F0 z):=⟨h.1,xe _,h.2.2.1,h.2.2.2.1,h.2.2.2.2⟩
end Go.Proofs.YtplmgfkghomelaaGreatDoor
namespace Go.Proofs.YtplmgfkghomelaaGreatDoor.KH
open Go.Sx
variable {x f i e:Int}{a:qA}{o:zc}{l:List zt}{m:Nat}{j:qn}{d:jJ}{v:List jJ}{c:zG}
theorem FF{b c:Type}{body:Nat->(b->Option c)->b->Option c}{out:b->c}{I:b->Prop}{Q:c->Prop}
  (h:∀i s (a:b->Option c),I s->(∀d,I d->Pst (a d) Q)->Pst (body i a s) Q) (f:∀s,I s->Q (out s)):
  ∀(n i:Nat)(s:b),I s->Pst (jM body out n i s) Q
 |0,i,s,e=>i9 (f s e)
 |n+1,i,s,e=>h i s _ e λd g=>FF h f n (i+1) d g
def VM(l:List zt):Prop:=∀p∈l,u64 p.TL
theorem z64:u64 0:=⟨by decide,by decide⟩
theorem VM.at(h:VM l):Pst (Go.Sx.idx l x) (λp=>u64 p.TL):=λp e=>by
 unfold Go.Sx.idx at e;split at e
 ·exact h p (zmg e)
 ·cases e
theorem pI{b:qp}(h:VM b.Ta){op k:Int}(s:u64 x):Pst (jO m b op k x) (λr=>VM r.2.Ta/\u64 r.1.TL):=by
 unfold jO;refine k8 (i9 ⟨h,z64⟩) (j5 λf=> ?_);refine p5 (R:=λo=>u64 o.TL) (k8 (p5 h.at λp a=>i9 a) (i9 z64)) λo c=> ?_
 refine k8 (k8 (p5 (R:=VM) (λl e p a=> ?_) λl hl=>i9 ⟨hl,c⟩) (i9 ⟨h,c⟩)) ?_
 ·obtain ⟨i,j,_,_,_,_,rfl⟩:=pu e;rcases g8.1 a with a|a
  ·exact h p (y7 a)
  ·exact h p (List.mem_of_mem_drop a)
 refine j5 λg=>k8 (k8 (i9 ⟨h,z64⟩) ?_) (i9 ⟨h,c⟩)
 refine p5 (R:=λb:qp=>VM b.Ta) (k8 (p5 (R:=λq=>VM q.1) (λq e p a=> ?_) λq d=>i9 d) (i9 h)) λt n=> ?_
 ·obtain ⟨i,_,_,_,rfl⟩:=B5 e;rcases g8.1 a with a|a
  ·rcases g8.1 a with a|a
   ·exact h p (y7 a)
   ·rw [i6.1 a];exact z64
  ·exact h p (List.mem_of_mem_drop a)
 refine p5 (R:=λq:Int×zk=>u64 q.1/\u64 q.2.TL) (k8 (i9 ⟨xe _,xe _⟩) (i9 ⟨s,c⟩)) λq d=> ?_
 refine j5 λy=>i9 ⟨λp a=> ?_,d.2⟩
 rcases r7 a with a|rfl
 ·exact n p a
 ·exact d.1
theorem rG:Pst (xI m a x) (λr=>r.Uh=a.Uh):=by
 unfold xI;exact j5 λ_=>i9 rfl
theorem Eg:Pst (va m a x) (λr=>r.Uh=a.Uh):=by
 unfold va;exact p5 rG λr h=>j5 λ_=>i9 h
theorem Ll(h:VM a.Uh.Ta)(l:u64 x):Pst (ek m a f i x) (λr=>VM r.2.Uh.Ta/\u64 r.1.TL):=by
 unfold ek;refine p5 (pI h l) λr n=> ?_
 refine p5 (R:=λo:qA×zk=>VM o.1.Uh.Ta/\u64 o.2.TL) (k8 ?_ (i9 n)) λo c=> ?_
 ·refine p5 (R:=λe:qA×zk=>VM e.1.Uh.Ta) ?_ λe p=>p5 (pI p l) λq t=>i9 t
  unfold cR;refine j5 λy=>p5 (pI (b:=r.2) (op:=3) (k:=y) n.1 z64) λs u=> ?_
  exact p5 rG λd j=>i9 (by show VM d.Uh.Ta;rw [j];exact u.1)
 ·refine k8 (i9 ⟨c.1,c.2⟩) (j5 λg=>k8 (p5 Eg λd j=>i9 ⟨by show VM d.Uh.Ta;rw [j];exact c.1,c.2⟩) (k8 (p5 rG λd j=>i9 ⟨by show VM d.Uh.Ta;rw [j];exact c.1,c.2⟩) (i9 ⟨c.1,c.2⟩)))
def shv(s:qn):List zt:=match s with
 |.inl b=>b.Ta
 |.inr a=>a.Uh.Ta
theorem GE(h:VM (shv j))(d:u64 x):Pst (jF m j f i x) (λr=>VM (shv r.2)/\u64 r.1.TL):=by
 cases j with
 |inl b=>unfold jF;exact p5 (pI h d) λr c=>i9 c
 |inr a=>unfold jF;exact p5 (Ll h d) λr c=>i9 c
structure GF (o:zc):Prop where
 maps:∀s∈o.maps,VM (shv s)
 SX:∀r∈o.SX,u64 r.Item.TL
theorem Cl(h:GF o):Pst (jI m o) (λq=>u64 q.1.TD.TL/\∀s∈q.2.2.maps,VM (shv s)):=by
 unfold jI;refine k8 (i9 ⟨z64,h.maps⟩) ?_;refine p5 (R:=λx=>u64 x.Item.TL) (λx e=> ?_) λx c=>j5 λy=>k8 (j5 λs=>j5 λp=>i9 ⟨z64,h.maps⟩) ?_
 ·unfold Go.Sx.idx at e;split at e
  ·exact h.SX x (zmg e)
  ·cases e
 refine p5 (R:=λs=>VM (shv s)) (λs e=> ?_) λs d=>p5 (GE d c) λq b=>i9 ⟨b.2,λt a=> ?_⟩
 ·unfold Go.Sx.idx at e;split at e
  ·exact h.maps s (zmg e)
  ·cases e
 ·rcases r7 a with a|rfl
  ·exact h.maps t a
  ·exact b.1
theorem Eh(h:eE d=some (some j,0)):shv j=[]:=by
 unfold eE at h;split at h
 ·rcases tw d.Vg with e|⟨b,e,_,a⟩
  ·rw [e] at h;cases h
  ·rw [e] at h;simp [vW] at h;subst h;exact a
 ·split at h
  ·unfold rx at h;rcases tw d.Vg with e|⟨b,e,_,a⟩
   ·rw [e] at h;simp [vW] at h
   ·rw [e] at h;simp [vW] at h;subst h;exact a
  ·cases h
theorem Ei(h:bZ x f v=some (some o,e)):GF o:=by
 have:Pst (bZ x f v) (λq=>∀o,q.1=some o->GF o):=by
  unfold bZ;refine k8 (i9 λo e=>by cases e) ?_;refine p5 (R:=λq=>match q with|.inl o=>GF o|.inr z=>z.1=none) (λq e=> ?_) λq a=> ?_
  ·exact FF (I:=λo=>GF o) (Q:=λq=>match q with|.inl o=>GF o|.inr z=>z.1=none) (λi o g c l=>by
    unfold iK;refine j5 λd=> ?_
    intro q a;rcases Cj d with ⟨e,n,s⟩|⟨m,k,_⟩
    ·rw [n] at a;simp only [zbs,vW] at a;split at a
     ·cases a;rfl
     ·cases a
    ·have j:=Eh k;rw [k] at a;simp only [zbs,vW] at a;rw [d8 (by simp)] at a;revert q;refine j5 λ_=>l _ ⟨λt b=> ?_,c.SX⟩
     rcases g8.1 b with b|b
     ·exact c.maps t b
     ·rw [i6.1 b,j];exact λp u=>by cases u) (λo c=>c) _ _ _ ⟨λt b=>(by cases b),λr w=>(by cases w)⟩ q e
  ·cases q with
   |inl o=>exact i9 λy e=>by cases e;exact a
   |inr z=>exact i9 λy e=>by rw [show z.1=none from a] at e;cases e
 exact this _ h o rfl
open Go.Sx
theorem GG{fu:Nat}(t:0<=c.SR)(C:c.SR<=4)(v:10<fu):
  ∃o,loop (oz c) fu ([],0)=some o/\match o with
   |.inl os=>(os.length:Int)=c.SR/\∀(i:Nat)(x:zc),os[i]? =some x->ko x/\x.SX=[]/\x.SZ=false/\x.TR=c.SR/\x.Uo=i/\x.maps.length=c.Maps.length/\GF x
   |.inr z=>z.1=none/\z.2≠0:=by
 refine lQ (λm s=>(s.1.length:Int)=s.2/\s.2<=c.SR/\s.2+m=c.SR/\∀(i:Nat)(x:zc),s.1[i]? =some x->ko x/\x.SX=[]/\x.SZ=false/\x.TR=c.SR/\x.Uo=i/\(x.maps.length=c.Maps.length/\GF x)) _ (λm s d w y=> ?_) fu c.SR.toNat ([],0) (by omega) ⟨rfl,t,by grind,λi x h=>by simp at h⟩;obtain ⟨a,i⟩:=s;obtain ⟨g,k,l,D⟩:=w;have g:(a.length:Int)=i:=g;have k:i<=c.SR:=k;have l:i+m=c.SR:=l;unfold oz;show ∃r,(if decide (i<c.SR)=true then _ else _)=some r/\_;by_cases n:i<c.SR
 ·rw [d7 (by simpa using n)];rcases Ck i c.SR c.Maps with ⟨e,p,f⟩|⟨r,p,E,F,G,I,J,K,_⟩
  ·exact ⟨.inr (none,e),by grind [vW],rfl,f⟩
  ·rw [show bZ (a,i).2 c.SR c.Maps=_ from p,zbs];simp only [vW];rw [d8 (by simp)];obtain ⟨u,A⟩:=cX (m:=a.length+[r].length) (b:=8) (by grind);rw [A,zbs,qe (by omega) (by omega)];refine y (m-1) _ (by omega) ⟨?_,?_,?_,λj x h=> ?_⟩
   ·grind
   ·grind
   ·grind
   ·have h:(a++[r])[j]? =some x:=h;rcases Nat.lt_or_ge j a.length with q|q
    ·grind
    ·rw [z7 q] at h
     have B:j-a.length=0:=by
      grind
     grind [Ei]
 ·rw [d8 (by simpa using n)]
  grind
end Go.Proofs.YtplmgfkghomelaaGreatDoor.KH
namespace Go.Proofs.YtplmgfkghomelaaGreatDoor
open Go.Sx
variable {K a f:Nat}{M:zr}{m:zE}{S:zm}{j:zj}{d:zl}{q:zY}{e:Int}{c:zk}
def Qn(K:Nat)(w:zl)(s:Int):Prop:=∃m j M p i,w.Tz.UF=some M/\B6 m j/\(∀x∈m.Maps,x<(K:Int))/\Run m j (pk M w.TG) p/\M.state=s/\m.Code[p]? =some i/\(s=1->i.Op=21/\i.TJ<=4)
structure WJ (H K:Nat) (w:zl):Prop where
 told:Q5 w.Ua
 hook:0<=w.Tz.hook/\w.Tz.hook<H
 ev:u64 w.Tz.TE.Tq.A/\u64 w.Tz.TE.Tq.B
 is:w.SY=0\/w.SY=1\/(w.SY=2/\Qn K w 0)\/(w.SY=3/\Qn K w 1)
def nR(w:zl):Int:=match w.Tz.UF with
 |none=>0
 |some M=>pot M.module.Code M.LT M.Tt.toNat M.module.Code.length
theorem kV{w:zl}(a:w.Tz.UF=some M)(h:Run m j (pk M w.TG) K):nR w=pot m.Code M.LT K m.Code.length:=by
 have b:M.module=m:=h.UV;have c:M.Tt=K:=h.Tt
 grind [nR,pot]
theorem uz5:U5 ⟨0,0,0,0,0⟩:=⟨⟨by decide,by decide⟩,⟨by decide,by decide⟩,⟨by decide,by decide⟩,⟨by decide,by decide⟩,by decide,by decide⟩
theorem Lm:u64 0/\u64 0:=⟨⟨by decide,by decide⟩,by decide,by decide⟩
theorem WJ.new{H:Nat}(h:1<=H):∃w,fe=some w/\WJ H K w/\w.SY=0/\w.Tz.hook=0:=by
 refine ⟨_,rfl,⟨λi=>uz5,⟨w8 0,by grind⟩,Lm,.inl rfl⟩,rfl,rfl⟩
theorem Qo(h:WJ a K d)(f:a<=4)(g:d.SY=0){k:Int}(b:0<=k)(c:k<a)(e:u64 q.Tq.A/\u64 q.Tq.B):
  vP d k q=some (0,{d with SY:=1,Tz:=⟨k,q,0,0,0,none⟩})/\WJ a K {d with SY:=1,Tz:=⟨k,q,0,0,0,none⟩}:=by
 refine ⟨?_,⟨h.told,⟨b,c⟩,e,.inr (.inl rfl)⟩⟩
 grind [vP]
theorem Qp(h:WJ a K d)(b:1<=a)(e:a<=4)(c:d.SY=1):
  ∃s,xL d=some (0,⟨d.TG,s,0,⟨0,⟨0,⟨0,0⟩⟩,0,0,0,none⟩⟩)/\WJ a K ⟨d.TG,s,0,⟨0,⟨0,⟨0,0⟩⟩,0,0,0,none⟩⟩:=by
 refine ⟨⟨aset d.Ua.Te d.Tz.hook.toNat (F0 (d.Ua.Te d.Tz.hook.toNat))⟩,?_,⟨h.told.aset _ (JF (h.told _)),⟨w8 0,by grind⟩,Lm,.inl rfl⟩⟩;unfold xL;have:=h.hook;rw [d8 (by simp [c]),JE this.1 (by omega)];rfl
theorem Cm(h:WJ a K d)(l:d.SY=1)(c:m.Maps.length*8<=140737488355328)(f:m.Code.length*40<=140737488355328)(r:∀x∈m.Maps,x<(K:Int))(v p:Int):
  ∃e w,jX 2199023255552 d v p m=some (e,w)/\WJ a K w/\((e≠0/\w=d/\∃o q,jZ 2199023255552 m=some (o,q,e))\/
   (e=0/\w=⟨⟨⟨λ_=>0⟩,d.TG.Tx⟩,d.Ua,2,⟨d.Tz.hook,d.Tz.TE,v,p,d.Tz.calls,some (Q4 m d.Tz.TE.Tq)⟩⟩/\nR w<=wr m.Code m.Code.length)):=by
 obtain ⟨o,q,e,g,s⟩:=mL m;rcases s with ⟨b,t⟩|⟨b,u,j,t,k⟩
 ·refine ⟨e,d,?_,h,.inl ⟨b,rfl,o,q,g⟩⟩;unfold jX;rw [d8 (by simp [l]),LZ g b];simp only [zbs];show (if (e !=0)=true then _ else _)=_;rw [d7 (by simpa using b)]
 ·subst b u;have n:Run m j (pk (Q4 m d.Tz.TE.Tq) ⟨⟨λ_=>0⟩,d.TG.Tx⟩) 0:=R4 k h.ev d.TG.Tx;obtain ⟨i,y,_⟩:=aO n.lt;refine ⟨0,_,?_,?_,.inr ⟨rfl,rfl,?_⟩⟩
  ·unfold jX;rw [d8 (by simp [l]),JD c f g];rfl
  ·exact ⟨h.told,h.hook,h.ev,.inr (.inr (.inl ⟨rfl,m,j,Q4 m d.Tz.TE.Tq,0,i,rfl,k,r,n,rfl,y,λe=>by cases e⟩))⟩
  ·exact I7 k.Ux
theorem GH(a:uI M.regs):Pst (jY 2199023255552 M e S) (λr=>u64 r.1.Item.TQ/\u64 r.1.Item.TL):=by
 unfold jY;refine j5 λ_=>k8 (j5 λ_=>j5 λ_=>p5 (R:=λo=>u64 o) (k8 (i9 (a 3 (by decide))) (i9 ⟨by decide,by decide⟩)) λo h=>i9 ⟨a 2 (by decide),h⟩) ?_
 exact p5 (R:=λo:zr×zm×qT=>u64 o.2.2.Item.TQ/\u64 o.2.2.Item.TL) (k8 (j5 λ_=>i9 Lm) (i9 Lm)) (λo h=>i9 h)
theorem GI(h:uI M.regs):Pst (qM 2199023255552 M S) (λr=>u64 r.1.Item.TQ/\u64 r.1.Item.TL):=by
 unfold qM;refine k8 (i9 Lm) (k8 (j5 λ_=>j5 λ_=>i9 Lm) (j5 λ_=>k8 ?_ (k8 (j5 λ_=>i9 Lm) (j5 λ_=>i9 Lm))))
 grind [p5,u64,GH,w64,i9]
inductive Cn (H K:Nat) (w:zl) (a:qT) (w':zl):Prop
 |ends:a.SV=4->w'.SY=0->w'.Tz=⟨0,⟨0,⟨0,0⟩⟩,0,0,0,none⟩->Cn H K w a w'
 |asks:a.SV=2->w'.SY=3->w'.Tz.hook=w.Tz.hook->w'.Tz.TE=w.Tz.TE->w'.Tz.prog=w.Tz.prog->w'.Tz.Ts=w.Tz.Ts->(0<=a.Item.TB/\a.Item.TB<K/\0<=a.Item.Op/\a.Item.Op<5/\u64 a.Item.TQ/\u64 a.Item.TL)->nR w'<=nR w->Cn H K w a w'
 |goes:a.SV=1\/a.SV=3->w'.SY=2->w'.Tz.hook=w.Tz.hook->w'.Tz.TE=w.Tz.TE->w'.Tz.prog=w.Tz.prog->w'.Tz.Ts=w.Tz.Ts->nR w'+1<=nR w->Cn H K w a w'
theorem IW(I:1<=f)(Q:f<=4)(h:WJ f K d)(s:d.SY=2):∃a t,qz 2199023255552 d=some (a,true,t)/\WJ f K t/\Cn f K d a t:=by
 obtain ⟨m,j,M,p,i,F,r,v,x,J,G,_⟩:Qn K d 0:=by
  rcases h.is with e|e|e|e
  ·omega
  ·omega
  ·exact e.2
  ·omega
 obtain ⟨⟨a,L⟩,N,y,O⟩:=KX r x J G;obtain ⟨c,S,z,rfl⟩:=LY N;simp only at z;have hit:u64 a.Item.TQ/\u64 a.Item.TL:=GI x.u _ z;have A:d.Tz.hook<4:=by have:=h.hook.2;omega
 have hl:nR d=pot m.Code M.LT p m.Code.length:=kV F x;unfold qz;rw [d8 (by simp [s]),F];simp only [zbs,z];cases y with
 |ends n b g B=>
  simp only at b;rw [d8 (by simp [b]),d7 (by simp [b])];unfold az;simp only [zbs];rw [QF h.hook.1 A (h.told _)];simp only [zbs];exact ⟨a,_,rfl,⟨h.told.aset _ (L3 _ _),⟨w8 0,by grind⟩,Lm,.inl rfl⟩,.ends b rfl rfl⟩
 |asks n b g B C D o=>
  simp only at g B C D o;rw [d7 (by simp [g])];refine ⟨a,_,rfl,{h with is:=.inr (.inr (.inr ⟨rfl,m,j,c,p,i,rfl,r,v,C,B,G,λ_=>⟨n,b⟩⟩))},.asks g rfl rfl rfl rfl rfl ⟨?_,v _ o.1,o.2.1,o.2.2,hit.1,hit.2⟩ ?_⟩
  ·exact (r.goodM.1 _ o.1).1
  ·rw [hl];show nR ⟨S,d.Ua,3,⟨d.Tz.hook,d.Tz.TE,d.Tz.Ts,d.Tz.prog,xZ (d.Tz.calls+1),some c⟩⟩<=_;rw [kV (w:=⟨S,d.Ua,3,⟨d.Tz.hook,d.Tz.TE,d.Tz.Ts,d.Tz.prog,xZ (d.Tz.calls+1),some c⟩⟩) rfl C];have D:c.LT=M.LT:=D
   grind
 |goes n b g=>
  simp only at n b g;obtain ⟨q,k,l,_⟩:=g;have l:pot m.Code c.LT q m.Code.length+1<=pot m.Code M.LT p m.Code.length:=l;obtain ⟨P,E,_⟩:=aO k.lt;rw [d8 (by simp;omega),d8 (by simp;omega)];refine ⟨a,_,rfl,⟨h.told,h.hook,h.ev,.inr (.inr (.inl ⟨s,m,j,c,q,P,rfl,r,v,k,b,E,λe=>by cases e⟩))⟩,.goes n s rfl rfl rfl rfl ?_⟩;rw [hl,kV (w:=⟨S,d.Ua,d.SY,⟨d.Tz.hook,d.Tz.TE,d.Tz.Ts,d.Tz.prog,d.Tz.calls,some c⟩⟩) rfl k];exact l
theorem kX(h:WJ a K d)(x:d.SY=3)(y:u64 c.TL):∃g,xi d c=some (0,g)/\WJ a K g/\g.SY=2/\g.Tz.hook=d.Tz.hook/\g.Tz.TE=d.Tz.TE/\g.Tz.prog=d.Tz.prog/\g.Tz.Ts=d.Tz.Ts/\nR g+1<=nR d:=by
 obtain ⟨m,j,M,p,i,o,r,z,t,A,B,l⟩:Qn K d 1:=by
  rcases h.is with e|e|e|e
  ·omega
  ·omega
  ·omega
  ·exact e.2
 obtain ⟨l,C⟩:=l rfl;obtain ⟨⟨e,D⟩,E,u,s,q,b,f,_⟩:=It r t A B l C y;obtain ⟨k,v,rfl⟩:=G4 E;simp only at v u s b f;have f:pot m.Code k.LT q m.Code.length+1<=pot m.Code M.LT p m.Code.length:=f;have s:k.state=0:=s;subst u;obtain ⟨F,n,_⟩:=aO b.lt;unfold xi;rw [d8 (by simp [x]),o];simp only [zbs,v];refine ⟨_,rfl,⟨h.told,h.hook,h.ev,.inr (.inr (.inl ⟨rfl,m,j,k,q,F,rfl,r,z,b,s,n,λe=>by cases e⟩))⟩,rfl,rfl,rfl,rfl,rfl,?_⟩;rw [kV o t,kV (w:={d with SY:=2,Tz:=⟨d.Tz.hook,d.Tz.TE,d.Tz.Ts,d.Tz.prog,d.Tz.calls,some k⟩}) rfl b];exact f
end Go.Proofs.YtplmgfkghomelaaGreatDoor
namespace Go.Proofs.YtplmgfkghomelaaGreatDoor.KH
open Go.Sx
variable {i a:Nat}{c:zG}{w0:zl}{l:List zJ}{ss:List (List zJ)}{n:Int}{o:zc}{r:zq}
theorem mP{a:Type}{l:List a}{x:a}(h:l[i]? =some x):l.take (i+1)=l.take i++[x]:=by
 rw [yc,h];rfl
def ki(w:zl):zB:=⟨w,0,0,none,false⟩
def QV:zA:=⟨0,0,[],[]⟩
def wu(s:List zJ):zd:=⟨s,0,false,0,QV,[],[]⟩
theorem IA(h:fe=some w0)(t:0<=c.SS)(v:c.SS<=4)(g:10<a):
  loop (lF c) a ([],0)=some (List.replicate c.SS.toNat (ki w0)):=by
 obtain ⟨r,j,rfl⟩:=lQ (body:=lF c) (λm s=>∃n:Nat,s.2=(n:Int)/\s.1=List.replicate n (ki w0)/\(n:Int)+m=c.SS) (λr=>r=List.replicate c.SS.toNat (ki w0)) (λm s d k o=>by
  obtain ⟨l,i⟩:=s;obtain ⟨n,e,f,w⟩:=k;have e:i=(n:Int):=e;have f:l=List.replicate n (ki w0):=f;subst e f;unfold lF;show ∃r,(if decide ((n:Int)<c.SS)=true then _ else _)=some r/\_;by_cases p:(n:Int)<c.SS
  ·rw [d7 (by simpa using p),h,zbs];obtain ⟨u,q⟩:=cX (m:=(List.replicate n (ki w0)).length+[ki w0].length) (b:=8) (by grind);rw [show room ((List.replicate n (ki w0),(n:Int)).1.length+[zB.mk w0 0 0 none false].length) 8=some u from q,zbs,qe (by omega) (by omega)];refine o (m-1) _ (by omega) ⟨n+1,by grind,?_,by omega⟩;show List.replicate n (ki w0)++[ki w0]=_;rw [List.replicate_succ']
  grind) a c.SS.toNat ([],0) (by omega) ⟨0,rfl,rfl,by omega⟩
 exact j
structure Fit (c:zJ):Prop where
 items:c.Tw.length*32<=140737488355328
 UV:c.Tu.length<=140737488355328
 ev:u64 c.Tq.A/\u64 c.Tq.B
 it:u64 c.Item.TL
 its:∀i∈c.Tw,u64 i.TL
theorem DU(l:List zJ)(h:∀c∈l,Fit c):(l.foldlM (λ(_:Unit)c=>(zI c.Tw).bind λ_=>(qQ c.Tu).bind λ_=>some ()) ())=some ():=by
 induction l with
 |nil=>rfl
 |cons c l i=>
  have a:=h c zcs;obtain ⟨u,d⟩:=cX (m:=([]:List zg).length+c.Tw.length) (b:=32) (by have:=a.items;simpa using this);obtain ⟨v,e⟩:=cX (m:=([]:List Int).length+c.Tu.length) (b:=1) (by have:=a.UV;simpa using this);rw [List.foldlM_cons];unfold zI qQ;rw [d,e];exact i λx f=>h x (zcm _ f)
theorem IB(hl:l.length<=64)(h:∀c∈l,Fit c):cd l=some l:=by
 unfold cd;obtain ⟨u,a⟩:=cX (m:=0+l.length) (b:=128) (by omega)
 grind [zI,qQ,DU]
theorem DV(p:ss.length<=4)(j:∀s∈ss,∀c∈s,Fit c):
  ∃o,jM (oA ss) (λ(s:List zd)=>(.inl s)) ss.length 0 ([]:List zd)=some o/\match o with
   |.inl l=>l=ss.map wu/\∀s∈ss,s.length<=64
   |.inr z=>z.1=none/\z.2≠0:=by
 refine nB (N:=ss.length) (λi l=>l=(ss.take i).map wu/\∀s∈ss.take i,s.length<=64) _ (λi s a d e k=> ?_) (λs h=> ?_) ss.length 0 [] (by omega) ⟨rfl,λs h=>by simp at h⟩
 ·obtain ⟨rfl,e⟩:=e;unfold oA;rw [og d,zbs];have f:ss[i]? =some ss[i]:=zeg d;by_cases g:((ss[i].length:Nat):Int)>64
  ·rw [d7 (by simpa using g)]
   grind
  ·rw [d8 (by simpa using g),IB (by omega) (j _ (yo d)),zbs];obtain ⟨u,n⟩:=cX (m:=((ss.take i).map wu).length+[wu ss[i]].length) (b:=8) (by grind);rw [show room (((ss.take i).map wu).length+[zd.mk ss[i] 0 false 0 (zA.mk 0 0 ([]:List zk) ([]:List zt)) ([]:List (List zt)) ([]:List zA)].length) 8=some u from n,zbs];refine k _ ⟨?_,λs h=> ?_⟩
   ·show (ss.take i).map wu++[wu ss[i]]=_;rw [mP f,o7];rfl
   ·rw [mP f] at h
    grind
 grind
structure Ka (c:zG) (ss:List (List zJ)) (h:za):Prop where
 hk:1<=c.Ti/\c.Ti<=4
 wk:1<=c.SS/\c.SS<=4
 sh:1<=c.SR/\c.SR<=4
 mp:c.Maps.length<=4
 cl:1<=ss.length/\ss.length<=4
 sl:∀s∈ss,s.length<=64
 is:∃r os rs w0,fe=some w0/\fJ c.Ti.toNat c.Maps.length c.SS.toNat 0 r/\r.given=0/\r.Tk.Ty.last=0/\(r.Tl=[]/\∀u∈r.Tk.Te,u.Ts=0)/\r.waiting=[]/\r.Th.in_=List.replicate c.SS.toNat 0/\
  ((os.length:Int)=c.SR/\∀(i:Nat)(x:zc),os[i]? =some x->ko x/\x.SX=[]/\x.SZ=false/\x.TR=c.SR/\x.Uo=i/\x.maps.length=c.Maps.length/\GF x)/\
  ((rs.length:Int)=c.Ti/\∀r∈rs,kU r/\r.waiting=[]/\r.Uf=false/\r.room=c.TM/\r.counts=⟨0,0,0,0,0⟩)/\
  h=⟨r,⟨List.replicate (ss.length+c.SS.toNat+c.SR.toNat+1) ⟨0,0⟩,0⟩,c,ss.map wu,List.replicate c.SS.toNat (ki w0),os,rs,[],[],0,false,false,[],⟨0⟩⟩
theorem DW{fu:Nat}(b:10<fu)(c:zG)(ss:List (List zJ))(x:∀s∈ss,∀c∈s,Fit c):
  (∃e,eF fu c ss=some (none,e)/\e≠0)\/∃h,eF fu c ss=some (some h,0)/\Ka c ss h:=by
 by_cases n:¬ (1<=c.Ti/\c.Ti<=4/\0<=(c.Maps.length:Int)/\(c.Maps.length:Int)<=4/\1<=c.SS/\c.SS<=4)
 ·refine .inl ⟨2,?_,by decide⟩;unfold eF;rw [Ou n];rfl
 obtain ⟨y,o,P,Q,A,p⟩:=Classical.not_not.1 n;obtain ⟨r,q,B,C,D,E,F,G⟩:=Qu (H:=c.Ti.toNat) (M:=c.Maps.length) (W:=c.SS.toNat) (by omega) (by omega) (by omega) (by omega) (by omega);rw [show ((c.Ti.toNat:Nat):Int)=c.Ti by omega,show ((c.SS.toNat:Nat):Int)=c.SS by omega] at q;by_cases R:c.SR<1\/c.SR>4\/(ss.length:Int)<1\/(ss.length:Int)>4
 ·refine .inl ⟨2,?_,by decide⟩
  grind [eF,vW]
 have a:(1<=c.SR/\c.SR<=4)/\1<=ss.length/\ss.length<=4:=by omega
 have key:(∃e,eF fu c ss=some (none,e)/\e≠0)\/∃h,eF fu c ss=some (some h,0)/\Ka c ss h:=by
  unfold eF;rw [q,zbs];simp only [vW];rw [d8 (by grind)];obtain ⟨I,j,t⟩:=IV (c:=c) (fu:=fu) (by omega) o b;rw [j,zbs];cases I with
  |inr z=>obtain ⟨u,d⟩:=z;obtain ⟨v,f⟩:=t;exact .inl ⟨d,by grind,f⟩
  |inl J=>
   simp only;obtain ⟨L,k,w⟩:=GG (c:=c) (fu:=fu) (by omega) a.1.2 b;rw [k,zbs];cases L with
   |inr z=>obtain ⟨u,d⟩:=z;obtain ⟨v,f⟩:=w;exact .inl ⟨d,by grind,f⟩
   |inl os=>
    simp only;obtain ⟨w0,g,_⟩:=WJ.new (H:=1) (K:=0) (m6 1);rw [IA g (by omega) p b,zbs];obtain ⟨N,m,i⟩:=DV a.2.2 x;rw [m,zbs];cases N with
    |inr z=>obtain ⟨u,d⟩:=z;obtain ⟨v,f⟩:=i;exact .inl ⟨d,by grind,f⟩
    |inl l=>
     obtain ⟨rfl,i⟩:=i;simp only
     have O:nA (w64 ((w64 ((w64 (((ss).length:Int)+c.SS))+c.SR))+1))=some (some ⟨List.replicate (ss.length+c.SS.toNat+c.SR.toNat+1) ⟨0,0⟩,0⟩,0):=by
      grind [qe,nA,mkLen]
     rw [O,zbs];exact .inr ⟨_,rfl,⟨y,o⟩,⟨A,p⟩,a.1,by omega,a.2,i,r,os,J,w0,g,B,C,D,E,F,G,w,t,rfl⟩
 exact key
open Go.Sx
theorem Av{k:Int}(e:1<=n)(f:n<=4):∃i:Nat,ay k n=some (i:Int)/\(i:Int)<n:=by
 unfold ay;rw [d8 (by simp;omega)];have a:nz (xZ n)=some ():=by grind [nz,AK]
 rw [a,zbs,AK (x:=n) (by omega) (by omega)];generalize c:iU .u64 (xZ (k*11400714819323198485)) 32=b
 have h:0<=b:=by
  have d:=(xe (k*11400714819323198485)).1;rw [<- c];show 0<=(xZ (k*11400714819323198485)).fdiv (2^(min (Int.toNat 32) IntKind.u64.bits));rw [Int.fdiv_eq_ediv_of_nonneg _ (by grind)];exact Int.ediv_nonneg d (Int.le_of_lt (Int.pow_pos (by decide)))
 have g:=Int.tmod_lt_of_pos b (show 0<n by omega);have j:=Int.tmod_nonneg n h;rw [qe (by omega) (by omega)];exact ⟨(b.tmod n).toNat,by grind,by omega⟩
theorem IC(h:o.SZ=false)(a:0<=r.Item.TB)(c:r.Item.TB<o.maps.length)(g:r.Up=true\/(0<=r.Item.Op/\r.Item.Op<5/\ay r.Item.TQ o.TR=some o.Uo))
  (d:(o.SX.length+1)*56<=140737488355328):jH o [r]=some (0,{o with SX:=o.SX++[r]}):=by
 have e:xR o r=some true:=by
  grind [xR]
 have f:Go.Sx.idx [r] ((0:Nat):Int)=some r:=rfl;unfold jH;rw [d8 (by simp [h])];simp only [u5,y9,jM,gY,f,zbs,e];obtain ⟨u,i⟩:=cX (m:=o.SX.length+1) (b:=56) d
 grind
end Go.Proofs.YtplmgfkghomelaaGreatDoor.KH
