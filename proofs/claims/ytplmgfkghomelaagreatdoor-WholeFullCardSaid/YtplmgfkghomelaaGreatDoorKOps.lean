/- Lemmas. -/
import Derived.Test.YtplmgfkghomelaaGreatDoorKH1
set_option linter.unusedVariables false
set_option linter.unusedSimpArgs false
namespace Go.Proofs.YtplmgfkghomelaaGreatDoor
section
section
section
open Go.Sx
variable {f:je} {c0:Int} {i:zf}
def tj(n:Int):Bool:=decide (0<=n)&&decide (n<8)
def OM(i:zf):Bool:=i.B==8||(tj i.B&&i.SU==0)
def inB(n lo hi:Int):Bool:=decide (lo<=n)&&decide (n<=hi)
def xb(i:zf):Bool:=
 if i.Op==0||i.Op==11 then tj i.D&&i.A==0&&OM i
 else if inB i.Op 1 10 then tj i.D&&tj i.A&&OM i
 else if i.Op==12 then i.D==0&&tj i.A&&OM i
 else if i.Op==13 then tj i.D&&i.A==0&&i.B==0&&inB i.SU 0 1
 else if i.Op==14 then tj i.D&&i.A==0&&i.B==0&&inB i.SU 0 3
 else if i.Op==15 then inB i.D 0 63&&i.A==0&&i.B==0&&i.SU==0
 else if inB i.Op 16 19 then inB i.D 0 63&&tj i.A&&OM i
 else if i.Op==20 then inB i.D 1 63&&tj i.A&&i.B==0&&inB i.SU 1 255
 else if i.Op==21 then i.D==0&&i.A==0&&i.B==0&&inB i.SU 0 6
 else if i.Op==22 then i.D==0&&tj i.A&&i.B==0&&i.SU==0
 else false
def ek(i:zf):Bool:=xb i&&inB i.Op 15 19
def lz(i:zf):Bool:=xb i&&i.Op==20
def jv(i:zf):Int×Bool×Bool:=
 if ek i then (i.D+1,true,i.Op !=15)
 else if lz i then (-i.D,true,true)
 else (0,false,xb i&&i.Op !=22)
theorem BJ(n:Int):n<0\/n>=23\/n=0\/n=1\/n=2\/n=3\/n=4\/n=5\/n=6\/n=7\/n=8\/n=9\/n=10\/n=11\/n=12\/n=13\/n=14\/n=15\/n=16\/n=17\/n=18\/n=19\/n=20\/n=21\/n=22:=by omega
theorem DO(n:Int):dO n=some (tj n):=rfl
theorem Iq(n lo hi:Int):cx n lo hi=some (inB n lo hi):=rfl
def mo(p:zf)(s:Bool×zf)(c:Int):Bool×zf:=
 if c==100 then (s.1&&tj p.D,⟨s.2.Op,0,s.2.A,s.2.B,s.2.SU⟩)
 else if c==97 then (s.1&&tj p.A,⟨s.2.Op,s.2.D,0,s.2.B,s.2.SU⟩)
 else if c==115 then (if p.B==8 then (s.1,⟨s.2.Op,s.2.D,s.2.A,0,0⟩) else (s.1&&tj p.B,⟨s.2.Op,s.2.D,s.2.A,0,s.2.SU⟩))
 else if c==102 then (s.1&&inB p.SU 0 1,⟨s.2.Op,s.2.D,s.2.A,s.2.B,0⟩)
 else if c==109 then (s.1&&inB p.SU 0 3,⟨s.2.Op,s.2.D,s.2.A,s.2.B,0⟩)
 else if c==104 then (s.1&&inB p.SU 0 6,⟨s.2.Op,s.2.D,s.2.A,s.2.B,0⟩)
 else if c==110 then (s.1&&inB p.SU 1 255,⟨s.2.Op,s.2.D,s.2.A,s.2.B,0⟩)
 else if c==106 then (s.1&&inB p.D 0 63,⟨s.2.Op,0,s.2.A,s.2.B,s.2.SU⟩)
 else if c==98 then (s.1&&inB p.D 1 63,⟨s.2.Op,0,s.2.A,s.2.B,s.2.SU⟩)
 else s
section
variable {p:zf} {x:Bool} {o d a b m:Int}
theorem Rq:mo p (x,⟨o,d,a,b,m⟩) 100=(x&&tj p.D,⟨o,0,a,b,m⟩):=rfl
theorem Rs:mo p (x,⟨o,d,a,b,m⟩) 97=(x&&tj p.A,⟨o,d,0,b,m⟩):=rfl
theorem Rt:mo p (x,⟨o,d,a,b,m⟩) 115=(if p.B==8 then (x,⟨o,d,a,0,0⟩) else (x&&tj p.B,⟨o,d,a,0,m⟩)):=rfl
theorem Ru:mo p (x,⟨o,d,a,b,m⟩) 102=(x&&inB p.SU 0 1,⟨o,d,a,b,0⟩):=rfl
theorem Rv:mo p (x,⟨o,d,a,b,m⟩) 109=(x&&inB p.SU 0 3,⟨o,d,a,b,0⟩):=rfl
theorem Rw:mo p (x,⟨o,d,a,b,m⟩) 104=(x&&inB p.SU 0 6,⟨o,d,a,b,0⟩):=rfl
theorem Rx:mo p (x,⟨o,d,a,b,m⟩) 110=(x&&inB p.SU 1 255,⟨o,d,a,b,0⟩):=rfl
theorem Ry:mo p (x,⟨o,d,a,b,m⟩) 106=(x&&inB p.D 0 63,⟨o,0,a,b,m⟩):=rfl
theorem Rz:mo p (x,⟨o,d,a,b,m⟩) 98=(x&&inB p.D 1 63,⟨o,0,a,b,m⟩):=rfl
end
theorem oQ{σ ρ:Type}{again:σ->Option ρ}{c:Bool}{A B:Option ρ}{a b:σ}(hA:A=again a)(hB:B=again b):(if c then A else B)=again (if c then a else b):=by
 grind
theorem tm{σ ρ:Type}{again:(Bool×σ)->Option ρ}{x y:Bool}{z:σ}:(if x then again (y,z) else again (false,z))=again (x&&y,z):=by
 cases x<;>simp
theorem DP{p:zf}{r:je×Bool}{i:Nat}{c:Int}{again:(Bool×zf)->Option (Bool×zf)}{s:Bool×zf}(h:ue r.1.SZ (i:Int)=some c):
  iv p r i again s=again (mo p s c):=by
 unfold iv mo;simp only [h,zbs,DO,Iq];refine oQ tm ?_;refine oQ tm ?_;refine oQ (oQ rfl tm) ?_
 grind
def fin(x:Bool×zf):Bool:=x.1&&((x.2.Op==0)&&((x.2.D==0)&&((x.2.A==0)&&((x.2.B==0)&&(x.2.SU==0)))))
theorem wV{p:zf}(ho:eL p.Op=some (f,true)){x:Bool×zf}(hz:f.SZ.size<=3)
  (h:jN (iv p (f,true)) (λ(s:Bool×zf)=>(s.1,s.2)) f.SZ.size 0 (true,{p with Op:=0})=some x):vO p=some (fin x):=by
 have hr:room f.SZ.size 1=some ():=by grind [room]
 unfold vO fin
 grind
theorem QO{p:zf}(ho:eL p.Op=some (f,true))(hs:f.SZ.size=1)(h0:ue f.SZ 0=some c0):
  vO p=some (fin (mo p (true,{p with Op:=0}) c0)):=by
 grind [wV,jN,DP]
theorem Qo{p:zf}{c1:Int}(ho:eL p.Op=some (f,true))(hs:f.SZ.size=2)(h0:ue f.SZ 0=some c0)(h1:ue f.SZ 1=some c1):
  vO p=some (fin (mo p (mo p (true,{p with Op:=0}) c0) c1)):=by
 refine wV ho (by omega) ?_;rw [hs];simp only [jN]
 grind [DP]
theorem QP{p:zf}{c1 c2:Int}(ho:eL p.Op=some (f,true))(hs:f.SZ.size=3)(h0:ue f.SZ 0=some c0)(h1:ue f.SZ 1=some c1)(h2:ue f.SZ 2=some c2):
  vO p=some (fin (mo p (mo p (mo p (true,{p with Op:=0}) c0) c1) c2)):=by
 refine wV ho (by omega) ?_;rw [hs];simp only [jN]
 grind [DP]
theorem fc(i:zf):vO i=some (xb i):=by
 have hcase:=BJ i.Op;obtain ⟨op,d,a,b,m⟩:=i;simp only at hcase
 have out:op<0\/op>=23->vO ⟨op,d,a,b,m⟩=some (xb ⟨op,d,a,b,m⟩):=by
  intro h;have e:eL op=some (⟨ByteArray.empty,ByteArray.empty⟩,false):=by unfold eL;rw [d7 (by simp;omega)]
  have k:∀k:Int,0<=k->k<=22->(op==k)=false:=by intro k h1 h2;simp;omega
  have d1:inB op 1 10=false:=by simp [inB];omega
  have d2:inB op 16 19=false:=by simp [inB];omega
  have r:xb ⟨op,d,a,b,m⟩=false:=by
   unfold xb;simp only [k 0 (by decide) (by decide),k 11 (by decide) (by decide),k 12 (by decide) (by decide),k 13 (by decide) (by decide),k 14 (by decide) (by decide),k 15 (by decide) (by decide),k 20 (by decide) (by decide),k 21 (by decide) (by decide),k 22 (by decide) (by decide),d1,d2];rfl
  unfold vO;rw [r];simp [e]
 rcases hcase with h|h|h|h|h|h|h|h|h|h|h|h|h|h|h|h|h|h|h|h|h|h|h|h|h
 ·exact out (.inl h)
 ·exact out (.inr h)
 all_goals subst h
 all_goals
  first
   |rw [Qo (c0:=100) (c1:=115) rfl rfl rfl rfl]
   |rw [QP (c0:=100) (c1:=97) (c2:=115) rfl rfl rfl rfl rfl]
   |rw [Qo (c0:=97) (c1:=115) rfl rfl rfl rfl]
   |rw [Qo (c0:=100) (c1:=102) rfl rfl rfl rfl]
   |rw [Qo (c0:=100) (c1:=109) rfl rfl rfl rfl]
   |rw [QO (c0:=106) rfl rfl rfl]
   |rw [QP (c0:=106) (c1:=97) (c2:=115) rfl rfl rfl rfl rfl]
   |rw [QP (c0:=98) (c1:=97) (c2:=110) rfl rfl rfl rfl rfl]
   |rw [QO (c0:=104) rfl rfl rfl]
   |rw [QO (c0:=97) rfl rfl rfl]
  congr 1
  simp only [Rq,Rs,Rt,Ru,Rv,Rw,Rx,Ry,Rz,fin,xb,OM];cases h8:(b==8)
  ·simp [h8,inB]
   try (rw [Bool.eq_iff_iff];simp;constructor<;>intro h<;>simp_all;done)
  ·simp only [t8] at h8;subst h8;simp [inB]
   try (rw [Bool.eq_iff_iff];simp;constructor<;>intro h<;>simp_all;done)
theorem Ir(op:Int)(h0:0<=op)(h1:op<23):∃f,eL op=some (f,true)/\jx f 106=some (inB op 15 19)/\jx f 98=some (op==20):=by
 have hcase:=BJ op;rcases hcase with h|h|h|h|h|h|h|h|h|h|h|h|h|h|h|h|h|h|h|h|h|h|h|h|h
 ·omega
 ·omega
 all_goals subst h
 all_goals exact ⟨_,rfl,rfl,rfl⟩
theorem BK(h:xb i=true):0<=i.Op/\i.Op<23:=by
 rcases Int.lt_or_le i.Op 0 with h0|h0
 ·exfalso
  have k:∀k:Int,0<=k->(i.Op==k)=false:=by grind
  unfold xb inB at h;simp only [k 0 (by decide),k 11 (by decide),k 12 (by decide),k 13 (by decide),k 14 (by decide),k 15 (by decide),k 20 (by decide),k 21 (by decide),k 22 (by decide)] at h
  grind
 ·refine ⟨h0,?_⟩;rcases Int.lt_or_le i.Op 23 with h1|h1
  ·exact h1
  ·exfalso
   have k:∀k:Int,k<=22->(i.Op==k)=false:=by grind
   unfold xb inB at h;simp only [k 0 (by decide),k 11 (by decide),k 12 (by decide),k 13 (by decide),k 14 (by decide),k 15 (by decide),k 20 (by decide),k 21 (by decide),k 22 (by decide)] at h
   grind
theorem rq(h:ek i=true):0<=i.D/\i.D<=63/\15<=i.Op/\i.Op<=19:=by
 unfold ek at h;simp only [zae] at h;obtain ⟨hr,ho⟩:=h;have hb:15<=i.Op/\i.Op<=19:=by grind [inB]
 refine ⟨?_,?_,hb⟩<;>
 grind [inB,xb]
theorem E1(h:lz i=true):1<=i.D/\i.D<=63/\i.Op=20/\1<=i.SU/\i.SU<=255:=by
 unfold lz at h;simp only [zae,t8] at h;obtain ⟨hr,ho⟩:=h;obtain ⟨op,d,a,b,m⟩:=i;simp only at ho;subst ho
 grind [xb,inB]
theorem mP(i:zf):kQ i=some (jv i):=by
 unfold kQ;rw [fc];simp only [zbs];cases hr:xb i with
 |false=>simp [jv,ek,lz,hr]
 |true=>
  obtain ⟨f,h1,h2,h3⟩:=Ir i.Op (BK hr).1 (BK hr).2;simp only [h1,zbs,h2,h3];cases hj:inB i.Op 15 19 with
  |true=>
   have:=rq (i:=i) (by grind [ek])
   grind [jv,ek,qt]
  |false=>
   cases hl:(i.Op==20) with
   |true=>
    have:=E1 (i:=i) (by simp [lz,hr,hl]);have e:w64 (0-i.D)= -i.D:=by grind [qt]
    simp only [jv,ek,lz,hr,hj,hl,e];rfl
   |false=>
    simp [jv,ek,lz,hr,hj,hl]
end
open Go.Sx
variable {ρ:Type} {code:List zf} {i:zf} {X:Prop} {v:ρ}
def fb{ρ:Type}(g:Nat->Option ρ):Nat->Nat->Option ρ
 |0,_=>none
 |n+1,i=>match g i with
  |some v=>some v
  |none=>fb g n (i+1)
def wB{ρ:Type}:Option ρ->Unit⊕ρ
 |some v=>.inr v
 |none=>.inl ()
theorem Px{body:Nat->(Unit->Option (Unit⊕ρ))->Unit->Option (Unit⊕ρ)}(g:Nat->Option ρ){N:Nat}
  (hb:∀j again,j<N->body j again ()=match g j with|some v=>some (.inr v)|none=>again ()):
  ∀(n i:Nat),i+n=N->jN body (λ_=>(.inl ())) n i ()=some (wB (fb g n i)):=by
 intro n
 induction n with
 |zero=>intro i _;rfl
 |succ n ih=>
  intro i hi;show body i (jN body _ n (i+1)) ()=_;rw [hb i _ (by omega)];unfold fb;cases g i with
  |some v=>rfl
  |none=>exact ih (i+1) (by omega)
theorem pz{body:Nat->(Unit->Option (Unit⊕ρ))->Unit->Option (Unit⊕ρ)}(g:Nat->Option ρ){N:Nat}
 (hb:∀j again,j<N->body j again ()=match g j with|some v=>some (.inr v)|none=>again ()):
 jN body (λ_=>(.inl ())) N 0 ()=some (wB (fb g N 0)):=Px g hb N 0 (by omega)
theorem gy{g:Nat->Option ρ}:∀{n i:Nat},fb g n i=some v->∃j,i<=j/\j<i+n/\g j=some v/\∀q,i<=q->q<j->g q=none:=by
 intro n
 induction n with
 |zero=>intro i h;cases h
 |succ n ih=>
  grind [fb]
theorem gz{g:Nat->Option ρ}:∀{n i:Nat},fb g n i=none->∀q,i<=q->q<i+n->g q=none:=by
 intro n
 induction n with
 |zero=>intro i _ q h1 h2;omega
 |succ n ih=>
  grind [fb]
theorem Dd{g:Nat->Option ρ}:∀{n i:Nat},(∀q,i<=q->q<i+n->g q=none)->fb g n i=none:=by
 intro n
 induction n with
 |zero=>intro i _;rfl
 |succ n ih=>
  grind [fb]
theorem Jw{α:Type}{xs:List α}{i:Nat}(h:i<xs.length):idx xs (i:Int)=some xs[i]:=by
 simp [Go.Sx.idx,h]
def De(n:Int)(p:Int)(i:zf):Int:=
 if !xb i then 12
 else if (jv i).2.1&&(decide (p+(jv i).1<0)||decide (p+(jv i).1>=n)) then 30
 else if (jv i).2.2&&p==n-1 then 36 else 0
theorem uJ(i:zf): -63<=(jv i).1/\(jv i).1<=64:=by
 unfold jv;split
 ·rename_i h;have:=rq h;simp;omega
 ·split
  ·rename_i h;have:=E1 h;simp;omega
  ·simp
def fj(code:List zf)(p:Nat):Option (Int×Int):=match code[p]? with
 |some i=>if De code.length p i=0 then none else some ((p:Int),De code.length p i)
 |none=>none
theorem HN(code:List zf)(hn:code.length<=64):gM code=some ((fb (fj code) code.length 0).getD (0,0)):=by
 unfold gM;rw [pz (fj code) (N:=code.length)]
 ·simp only [zbs];cases fb (fj code) code.length 0<;>rfl
 ·intro j again hj;unfold nk;have hx:code[j]? =some code[j]:=zeg hj;generalize hi:code[j]=x at hx;have hg:=uJ x;have e1:w64 ((j:Int)+(jv x).1)=j+(jv x).1:=qt (by omega) (by omega);have e2:w64 ((code.length:Int)-1)=code.length-1:=qt (by omega) (by omega)
  have hr:fw [x]=some (xb x):=by
   unfold fw;simp only [List.length_singleton,jN,lT];rcases zft (xb x) with h|h<;>simp [Go.Sx.idx,fc,h]
  simp only [Jw hj,hi,zbs,mP,hr,e1,e2,fj,hx,De]
  grind
def wC(code:List zf):Prop:=∀(p:Nat)(i:zf),code[p]? =some i->De code.length p i=0
theorem Nh(h:fb (fj code) code.length 0=none):wC code:=by
 intro p i hi;have hp:=(zes.1 hi).1;have:=gz h p (by omega) (by omega)
 grind [fj]
theorem HO(h:wC code):fb (fj code) code.length 0=none:=by
 refine Dd (λq _ hq=> ?_);have hi:=zeg (show q<code.length by omega);unfold fj;rw [hi];simp only [h q _ hi,q9]
theorem wC.right(h:wC code){p:Nat}(hi:code[p]? =some i):xb i=true:=by
 have:=h p i hi
 grind [De,xb]
theorem wC.leads(h:wC code){p:Nat}(hi:code[p]? =some i)(hl:(jv i).2.1=true):0<=(p:Int)+(jv i).1/\(p:Int)+(jv i).1<code.length:=by
 have:=h p i hi;unfold De at this
 grind
theorem wC.on(h:wC code){p:Nat}(hi:code[p]? =some i)(hl:(jv i).2.2=true):p+1<code.length:=by
 have hp:=(zes.1 hi).1;have h1:=h p i hi;unfold De at h1
 grind
theorem wC.loop(h:wC code){p:Nat}(hi:code[p]? =some i)(ho:i.Op=20):1<=i.D/\i.D<=p/\1<=i.SU/\i.SU<=255/\p+1<code.length:=by
 have hr:=h.right hi;have hl:lz i=true:=by grind [lz]
 have hj:ek i=false:=by simp [ek,inB,ho]
 have hg:jv i=(-i.D,true,true):=by simp [jv,hl,hj]
 have h1:=h.leads hi (by rw [hg]);have h2:=h.on hi (by rw [hg]);rw [hg] at h1;have h3:=E1 hl
 grind
def jI(i:zf)(p:Nat):qA:=⟨(p:Int)-i.D,p,i.SU⟩
def lps(code:List zf):Nat->List qA
 |0=>[]
 |k+1=>match code[k]? with
  |some i=>if i.Op==20 then lps code k++[jI i k] else lps code k
  |none=>lps code k
theorem wD(code:List zf):∀k,(lps code k).length<=k
 |0=>l6 _
 |k+1=>by
  have:=wD code k
  grind [lps]
theorem nP{code:List zf}{l:qA}:∀{k:Nat},l∈lps code k↔∃q i,q<k/\code[q]? =some i/\i.Op=20/\l=jI i q
 |0=>by simp [lps]
 |k+1=>by
  unfold lps;have ih:= @nP code l k
  grind
theorem uK(code:List zf):∀k,(lps code k).Pairwise (λa b=>a.At<b.At)/\∀l∈lps code k,l.At<k
 |0=>⟨List.Pairwise.nil,by simp [lps]⟩
 |k+1=>by
  obtain ⟨h1,h2⟩:=uK code k;unfold lps;split
  ·split
   ·refine ⟨List.pairwise_append.2 ⟨h1,List.pairwise_singleton _ _,λa ha b hb=> ?_⟩,λl hl=> ?_⟩
    ·simp at hb;subst hb;exact h2 a ha
    ·rcases i5.1 hl with hl|hl
     ·grind
     ·simp at hl;subst hl;simp [jI];omega
   grind
  grind
theorem wE(hn:code.length<=64)(hD:wC code):eQ code=some (lps code code.length):=by
 refine OK.is ?_;unfold eQ;refine d6 (R:=λy=>y=lps code code.length) ?_ (λx hx=>b9 hx);refine i4 (λi s=>s=lps code i) rfl ?_ (λs h=>h);intro i s again hi hs k;subst hs;unfold ox;refine f9 (i7 hi (λx hx=> ?_));have hl:=wD code i;refine d5 (λh=> ?_) (λh=> ?_)
 ·have hd:=hD.loop hx (by simpa using h)
  grind [f9,OK.hasRoom,lps,jI,qt]
 grind [lps]
def qW(code:List zf)(p a:Nat):Bool:=match code[a]? with
 |some i=>i.Op==20&&decide ((a:Int)-i.D<=p)&&decide (p<=a)
 |none=>false
open Classical in
noncomputable def pick {ρ:Type} (X:Prop) (v:ρ):Option ρ:=if X then some v else none
theorem EQ(h:X):pick X v=some v:=by grind [pick]
theorem ER(h:¬ X):pick X v=none:=by grind [pick]
theorem oD{u:ρ}(h:pick X v=some u):X/\v=u:=by
 grind [pick]
theorem kt(h:pick X v=none):¬ X:=by
 grind [pick]
def Ni(X:Nat->Prop)(n:Nat):Option Nat->Prop
 |some l=>l<n/\X l/\∀q,q<l->¬ X q
 |none=>∀q,q<n->¬ X q
theorem Df{X:Nat->Prop}{n:Nat}{v:Nat->ρ}:∃o,Ni X n o/\fb (λl=>pick (X l) (v l)) n 0=o.map v:=by
 cases h:fb (λl=>pick (X l) (v l)) n 0 with
 |none=>exact ⟨none,λq hq=>kt (gz h q (by omega) (by omega)),rfl⟩
 |some u=>
  obtain ⟨j,_,h2,h3,h4⟩:=gy h;obtain ⟨hx,rfl⟩:=oD h3;exact ⟨some j,⟨by omega,hx,λq hq=>kt (h4 q (by omega) hq)⟩,rfl⟩
def Crs(code:List zf)(l m:Nat):Prop:=∃il im,code[l]? =some il/\il.Op=20/\code[m]? =some im/\im.Op=20/\(l:Int)-il.D<=m/\(m:Int)-im.D<l-il.D
def Cr(code:List zf)(l:Nat):Prop:=∃m,m<l/\Crs code l m
theorem xw{p a:Nat}(hi:code[a]? =some i)(ho:i.Op=20):qW code p a=true↔(a:Int)-i.D<=p/\p<=a:=by
 grind [qW]
theorem sW{ls:List qA}(hs:ls.Pairwise (λa b=>a.At<b.At)){i j:Nat}{a b:qA}(hi:ls[i]? =some a)(hj:ls[j]? =some b):a.At<b.At↔i<j:=by
 obtain ⟨h1,rfl⟩:=zes.1 hi;obtain ⟨h2,rfl⟩:=zes.1 hj;constructor
 ·intro h;rcases Nat.lt_trichotomy i j with h3|h3|h3
  ·exact h3
  ·subst h3;omega
  ·have:=List.pairwise_iff_getElem.1 hs j i h2 h1 h3;omega
 ·intro h;exact List.pairwise_iff_getElem.1 hs i j h1 h2 h
theorem wF{α:Type}{xs:List α}{k:Nat}(hk:k<=xs.length):cut xs 0 (k:Int)=some (xs.take k):=by
 grind [cut]
theorem Nj(hn:code.length<=64)(hD:wC code):
  ∃o,Ni (Cr code) code.length o/\jN (fg (lps code code.length)) (λ_=>(.inl ())) (lps code code.length).length 0 ()=some (wB (o.map λ(l:Nat)=>((l:Int),(31:Int)))):=by
 have hs:=(uK code code.length).1;have hl:=wD code code.length;generalize hls:lps code code.length=ls at hs hl |-
 have mem:∀{l:qA},l∈ls↔∃q i,q<code.length/\code[q]? =some i/\i.Op=20/\l=jI i q:=by
  grind [nP]
 have main:jN (fg ls) (λ_=>(.inl ())) ls.length 0 ()=some (wB (fb (λk=>match ls[k]? with|some l=>pick (Cr code l.At.toNat) (l.At,(31:Int))|none=>none) ls.length 0)):=by
  refine pz _ (N:=ls.length) ?_;intro k again hk;have hx:=zeg hk;generalize hi:ls[k]=x at hx;obtain ⟨q,i,hq,hqi,hop,rfl⟩:=mem.1 (zmg hx);unfold fg;have htl:(ls.take k).length=k:=by grind
  have inner:jN (iI (jI i q) (ls.take k)) (λ_=>(.inl ())) k 0 ()=some (wB (fb (λm=>match ls[m]? with|some l=>pick (Crs code q l.At.toNat) ((q:Int),(31:Int))|none=>none) k 0)):=by
   refine pz _ (N:=k) ?_;intro m again hm;have hml:m<ls.length:=by omega
   have hy:=zeg hml;generalize hj:ls[m]=y at hy
   have hyt:idx (ls.take k) (m:Int)=some y:=by
    grind [Jw]
   obtain ⟨q',i',hq',hqi',hop',rfl⟩:=mem.1 (zmg hy);unfold iI;simp only [hyt,hy,zbs];have e:((jI i' q').At).toNat=q':=by simp [jI]
   rw [e];by_cases hc:Crs code q q'
   ·rw [EQ hc];obtain ⟨il,im,e1,_,e3,_,c1,c2⟩:=hc;rw [hqi] at e1;cases e1;rw [hqi'] at e3;cases e3
    have:(decide ((jI i' q').At>=(jI i q).Tr)&&decide ((jI i' q').Tr<(jI i q).Tr))=true:=by
     have a1:(jI i' q').At=q':=rfl;have a2:(jI i q).Tr=q-i.D:=rfl;have a3:(jI i' q').Tr=q'-i'.D:=rfl;simp only [a1,a2,a3,zae,zdq];exact ⟨c1,c2⟩
    simp only [this];rfl
   ·rw [ER hc]
    have:(decide ((jI i' q').At>=(jI i q).Tr)&&decide ((jI i' q').Tr<(jI i q).Tr))=false:=by
     cases h:(decide ((jI i' q').At>=(jI i q).Tr)&&decide ((jI i' q').Tr<(jI i q).Tr)) with
     |false=>rfl
     |true=>
      exfalso;apply hc
      have a1:(jI i' q').At=q':=rfl;have a2:(jI i q).Tr=q-i.D:=rfl;have a3:(jI i' q').Tr=q'-i'.D:=rfl;simp only [a1,a2,a3,zae,zdq] at h;exact ⟨i,i',hqi,hop,hqi',hop',h.1,h.2⟩
    grind
  simp only [Jw hk,hi,hx,zbs,wF (Nat.le_of_lt hk),htl,inner];have e:((jI i q).At).toNat=q:=by simp [jI]
  rw [e];cases hf:fb (λm=>match ls[m]? with|some l=>pick (Crs code q l.At.toNat) ((q:Int),(31:Int))|none=>none) k 0 with
  |some v=>
   obtain ⟨m,_,h2,h3,_⟩:=gy hf;have hml:m<ls.length:=by omega
   have hy:=zeg hml;rw [hy] at h3;obtain ⟨hcr,rfl⟩:=oD h3;have hlt:=(sW hs hy hx).2 (by omega);obtain ⟨q',i',hq',hqi',hop',e'⟩:=mem.1 (zmg hy);rw [e'] at hcr hlt;rw [EQ ⟨q',by grind [jI],by grind [jI]⟩];rfl
  |none=>
   have h0:=gz hf;rw [ER]
   ·rfl
   ·rintro ⟨m,hm,hcr⟩;obtain ⟨il,im,e1,_,e3,e4,c1,c2⟩:=id hcr;have hmem:=mem.2 ⟨m,im,by omega,e3,e4,rfl⟩;obtain ⟨j,hj,hje⟩:=t9.1 hmem;have hy:=zeg hj;rw [hje] at hy;have hlt:=(sW hs hy hx).1 (by grind [jI])
    grind [kt,jI]
 cases hf:fb (λk=>match ls[k]? with|some l=>pick (Cr code l.At.toNat) (l.At,(31:Int))|none=>none) ls.length 0 with
 |none=>
  refine ⟨none,λq hq hc=> ?_,by rw [main,hf];rfl⟩;obtain ⟨m,hm,il,im,e1,e2,_⟩:=id hc;obtain ⟨j,hj,hje⟩:=t9.1 (mem.2 ⟨q,il,hq,e1,e2,rfl⟩);have:=gz hf j (by omega) (by omega)
  grind [kt,jI]
 |some v=>
  obtain ⟨k,_,h2,h3,h4⟩:=gy hf;have hk:k<ls.length:=by omega
  have hx:=zeg hk;rw [hx] at h3;obtain ⟨hc,rfl⟩:=oD h3;obtain ⟨q,i,hq,hqi,hop,e⟩:=mem.1 (zmg hx);refine ⟨some q,⟨hq,?_,λq' hq' hc'=> ?_⟩,?_⟩
  ·grind [jI]
  ·obtain ⟨m,hm,il,im,e1,e2,_⟩:=id hc';obtain ⟨j,hj,hje⟩:=t9.1 (mem.2 ⟨q',il,by omega,e1,e2,rfl⟩);have hy:=zeg hj;have hlt:=(sW hs hy hx).1 (by grind [jI])
   grind [kt,jI]
  ·rw [main,hf,e];rfl
def En(code:List zf)(p:Nat):Prop:=∃i,code[p]? =some i/\(jv i).2.1=true/\0<(jv i).1/\∃a ia t,a<code.length/\code[a]? =some ia/\ia.Op=20/\(t:Nat)=(p:Int)+(jv i).1/\qW code t a=true/\qW code p a=false/\(t:Int)≠a-ia.D
theorem Nk(hn:code.length<=64)(hD:wC code):
  jN (iK code (lps code code.length)) (λ_=>(.inl ())) code.length 0 ()=some (wB (fb (λp=>pick (En code p) ((p:Int),(31:Int))) code.length 0)):=by
 refine pz _ (N:=code.length) ?_;intro p again hp;have hx:=zeg hp;generalize hi:code[p]=x at hx;have hg:=uJ x;have e1:w64 ((p:Int)+(jv x).1)=p+(jv x).1:=qt (by omega) (by omega);have hl:=wD code code.length
 have inner:jN (iJ (lps code code.length) p (jv x)) (λ_=>(.inl ())) (lps code code.length).length 0 ()=
   some (wB (fb (λk=>match (lps code code.length)[k]? with|some l=>pick ((jv x).2.1=true/\0<(jv x).1/\¬ (l.Tr<=p/\(p:Int)<=l.At)/\(l.Tr<=p+(jv x).1/\p+(jv x).1<=l.At)/\p+(jv x).1≠l.Tr) ((p:Int),(31:Int))|none=>none) (lps code code.length).length 0)):=by
  refine pz _ (N:=(lps code code.length).length) ?_;intro k again hk;have hy:=zeg hk;generalize hj:(lps code code.length)[k]=y at hy;unfold iJ;simp only [Jw hk,hj,hy,zbs,nK,e1]
  grind [jv,EQ,ER]
 unfold iK;simp only [Jw hp,hi,zbs,mP,inner];cases hf:fb (λk=>match (lps code code.length)[k]? with|some l=>pick ((jv x).2.1=true/\0<(jv x).1/\¬ (l.Tr<=p/\(p:Int)<=l.At)/\(l.Tr<=p+(jv x).1/\p+(jv x).1<=l.At)/\p+(jv x).1≠l.Tr) ((p:Int),(31:Int))|none=>none) (lps code code.length).length 0 with
 |some v=>
  obtain ⟨k,_,h2,h3,_⟩:=gy hf;have hk:k<(lps code code.length).length:=by omega
  have hy:=zeg hk;rw [hy] at h3;obtain ⟨⟨c1,c2,c3,c4,c5⟩,rfl⟩:=oD h3;obtain ⟨q,i,hq,hqi,hop,e⟩:=nP.1 (zmg hy);rw [e] at c3 c4 c5;simp only [jI] at c3 c4 c5;have hpos:0<=(p:Int)+(jv x).1:=by omega
  have hcv:qW code p q=false:=by
   grind [qW,xw]
  have hE:En code p:=⟨x,hx,c1,c2,q,i,((p:Int)+(jv x).1).toNat,hq,hqi,hop,by omega,(xw hqi hop).2 (by omega),hcv,by omega⟩
  rw [EQ hE];rfl
 |none=>
  have h0:=gz hf;rw [ER]
  ·rfl
  ·rintro ⟨i',hi',c1,c2,a,ia,t,ha,hia,hop,ht,v1,v2,v3⟩;rw [hx] at hi';cases hi';obtain ⟨j,hj,hje⟩:=t9.1 (nP.2 ⟨a,ia,ha,hia,hop,rfl⟩:jI ia a∈lps code code.length);have:=h0 j (by omega) (by omega);rw [zeg hj,hje] at this;refine kt this ⟨c1,c2,?_,?_,?_⟩
   ·intro hh;simp only [jI] at hh
    grind [xw]
   ·have:=(xw hia hop).1 v1
    grind [jI]
   grind [jI]
def cF(code:List zf)(p:Nat):Nat->Int
 |0=>1
 |k+1=>match code[k]? with
  |some i=>if qW code p k then cF code p k*(i.SU+1) else cF code p k
  |none=>cF code p k
def uu(code:List zf):Nat->Int
 |0=>0
 |k+1=>uu code k+cF code k code.length
theorem HP{p a:Nat}(hi:code[a]? =some i)(h:qW code p a=true):i.Op=20:=by
 grind [qW]
theorem oE{code:List zf}(hD:wC code)(p:Nat):∀k,1<=cF code p k
 |0=>by simp [cF]
 |k+1=>by
  have ih:=oE hD p k;unfold cF;split
  ·rename_i i hi
   split
   ·rename_i hc
    have hd:=hD.loop hi (HP hi hc);have:1*1<=cF code p k*(i.SU+1):=Int.mul_le_mul ih (by omega) (by omega) (by omega);omega
   ·exact ih
  ·exact ih
theorem sX{code:List zf}(hD:wC code):∀k:Nat,(k:Int)<=uu code k
 |0=>by simp [uu]
 |k+1=>by
  have:=sX hD k;have h2:=oE hD k code.length;unfold uu;omega
theorem HQ(code:List zf)(k:Nat):uu code (k+1)=uu code k+cF code k code.length:=rfl
def mn(x:Int):Int:=if x<=257 then x else 257
theorem Py{x b:Int}(hx:1<=x)(hb:1<=b):mn (mn x*b)=mn (x*b):=by
 unfold mn;by_cases h:x<=257
 ·rw [d7 h]
 ·rw [d8 h];have h1:257*1<=257*b:=Int.mul_le_mul_of_nonneg_left hb (by decide);have h2:258*1<=x*b:=Int.mul_le_mul (by omega) hb (by decide) (by omega)
  grind
theorem Pz{a b:Int}(ha:0<=a)(hb:0<=b):mn (mn a+mn b)=mn (a+b):=by
 grind [mn]
theorem HS(x:Int):mV x 257=mn x:=by grind [mV,mn]
theorem Kp(x:Int):mn x<=257/\mn x<=x:=by grind [mn]
def mX(p:Int):List qA->Int->Int
 |[],s=>s
 |l::r,s=>mX p r (if decide (p>=l.Tr)&&decide (p<=l.At) then s*(l.TL+1) else s)
theorem fD(p:Int)(l:List qA):∀(a:List qA)(s:Int),mX p (a++l) s=mX p l (mX p a s)
 |[],s=>rfl
 |x::r,s=>by simp only [y7,mX];exact fD p l r _
theorem sY(code:List zf)(p:Nat):∀k,mX p (lps code k) 1=cF code p k
 |0=>rfl
 |k+1=>by
  have ih:=sY code p k;unfold lps cF
  grind [fD,mX,jI,qW,xw]
theorem QK(hn:code.length<=64)(hD:wC code)(p:Nat):
  jN (lU (lps code code.length) p) (λ(s:Int)=>s) (lps code code.length).length 0 1=some (mn (cF code p code.length)):=by
 have hbound:∀(k:Nat)(l:qA),(lps code code.length)[k]? =some l->1<=l.TL/\l.TL<=255:=by
  intro k l hl;obtain ⟨q,i,_,h2,h3,rfl⟩:=nP.1 (zmg hl);have:=hD.loop h2 h3
  grind [jI]
 rw [<- sY code p code.length];generalize lps code code.length=ls at hbound;refine OK.is ?_;refine i4 (λ(i:Nat)(s:Int)=>s=mn (mX p (ls.take i) 1)/\1<=mX p (ls.take i) 1) ⟨by simp [mX,mn],by simp [mX]⟩ ?_ (λs h=>by rw [h.1];simp);intro i s again hi ⟨hs,h1⟩ k;unfold lU;refine f9 (i7 hi (λx hx=> ?_));have hb:=hbound i x hx
 have htake:ls.take (i+1)=ls.take i++[x]:=by
  rw [x7,hx];rfl
 simp only [nK,zbs];have hmn:=Kp (mX p (ls.take i) 1);have hs1:1<=s:=by grind [mn]
 refine d5 (λhc=> ?_) (λhc=> ?_)
 ·have e1:w64 (x.TL+1)=x.TL+1:=qt (by omega) (by omega);have m1:s*(x.TL+1)<=257*256:=Int.mul_le_mul (by omega) (by omega) (by omega) (by omega);have m0:0<=s*(x.TL+1):=Int.mul_nonneg (by omega) (by omega);have e2:w64 (s*(x.TL+1))=s*(x.TL+1):=qt (by omega) (by omega);rw [e1,e2,HS];refine k _ ⟨?_,?_⟩
  ·grind [fD,mX,Py]
  ·rw [htake,fD];simp only [mX,hc,q9];have:1*1<=mX p (ls.take i) 1*(x.TL+1):=Int.mul_le_mul h1 (by omega) (by omega) (by omega);omega
 grind [fD,mX]
theorem Kq(hn:code.length<=64)(hD:wC code):lV code=some (mn (uu code code.length)):=by
 unfold lV;rw [wE hn hD];simp only [zbs];refine OK.is ?_;refine d6 (R:=λy=>y=mn (uu code code.length)) ?_ (λx hx=>b9 hx);refine i4 (λ(i:Nat)(s:Int)=>s=mn (uu code i)) (by simp [uu,mn]) ?_ (λs h=>h);intro i s again hi hs k;subst hs;unfold pZ;rw [QK hn hD i];simp only [zbs];have h1:=Kp (cF code i code.length);have h2:=Kp (uu code i);have h3:=oE hD i code.length;have h4:=sX hD i;have p1:1<=mn (cF code i code.length):=by grind [mn]
 grind [mn,uu,qt,HS,HQ,Pz]
end
open Go.Sx
structure ua (code:List zf):Prop where
 n1:1<=code.length
 Us:code.length<=64
 Th:wC code
 cr:∀l,l<code.length->¬ Cr code l
 en:∀p,p<code.length->¬ En code p
 UJ:uu code code.length<=256
theorem FQ{code:List zf}(hn:code.length<=64)(hD:wC code):
  ∃o,Ni (Cr code) code.length o/\gN code=some (match o with|some l=>((l:Int),31)|none=>(fb (λp=>pick (En code p) ((p:Int),(31:Int))) code.length 0).getD (0,0)):=by
 obtain ⟨o,h1,h2⟩:=Nj hn hD;refine ⟨o,h1,?_⟩;unfold gN;rw [wE hn hD];simp only [zbs,h2,Nk hn hD];cases o with
 |some l=>rfl
 |none=>cases fb (λp=>pick (En code p) ((p:Int),(31:Int))) code.length 0<;>rfl
theorem sS(code:List zf):∃r,eR code=some r/\(r.1=0\/0<=r.1/\r.1<code.length)/\(r.2=0->r.1=0/\ua code)/\(ua code->r.2=0):=by
 unfold eR;by_cases h0:code.length=0
 ·refine ⟨(0,10),?_,.inl rfl,by simp,λh=>by have:=h.n1;omega⟩;simp [h0]
 ·have e0:((code.length:Int)==0)=false:=by simp;exact λh=>h0 (by simp [h])
  by_cases h1:64<code.length
  ·have e1:decide ((code.length:Int)>64)=true:=by simp;omega
   refine ⟨(0,11),?_,.inl rfl,by simp,λh=>by have:=h.Us;omega⟩;simp only [e0,e1];rfl
  ·have e1:decide ((code.length:Int)>64)=false:=by simp;omega
   have hn:code.length<=64:=by omega
   simp only [e0,e1,HN code hn,zbs];cases hp:fb (fj code) code.length 0 with
   |some v=>
    obtain ⟨j,_,h2,h3,_⟩:=gy hp
    have hne:v.2≠0/\v.1=j:=by
     unfold fj at h3;split at h3
     ·split at h3
      ·cases h3
      ·rename_i h4;cases h3;exact ⟨h4,rfl⟩
     ·cases h3
    refine ⟨v,?_,.inr ⟨by rw [hne.2];omega,by rw [hne.2];omega⟩,λh=>absurd h hne.1,λh=> ?_⟩
    ·have:(v.2 !=0)=true:=by simpa using hne.1
     simp [this]
    ·rw [HO h.Th] at hp;cases hp
   |none=>
    have hD:=Nh hp;obtain ⟨o,o1,o2⟩:=FQ hn hD;simp only [o2,zbs,Option.getD_none];cases o with
    |some l=>
     have:=o1.1;refine ⟨((l:Int),31),by simp,.inr ⟨by simp,by simpa using this⟩,by simp,λh=>absurd o1.2.1 (h.cr l o1.1)⟩
    |none=>
     obtain ⟨p,p1,p2⟩:=Df (X:=En code) (n:=code.length) (v:=λp=>((p:Int),(31:Int)));rw [p2];cases p with
     |some l=>
      have:=p1.1;exact ⟨((l:Int),31),by simp,.inr ⟨by simp,by simpa using this⟩,by simp,λh=>absurd p1.2.1 (h.en l p1.1)⟩
     |none=>
      simp only [Kq hn hD,zbs,Option.map_none,Option.getD_none];have hmn:=Kp (uu code code.length);by_cases hc:mn (uu code code.length)>256
      ·refine ⟨(0,32),by simp [hc],.inl rfl,by simp,λh=> ?_⟩;have:=h.UJ;omega
      ·refine ⟨(0,0),by simp [hc],.inl rfl,λ_=>⟨rfl,⟨by omega,hn,hD,o1,p1,?_⟩⟩,λ_=>rfl⟩;unfold mn at hc;split at hc<;>omega
theorem FR{code:List zf}(h:ua code):eR code=some (0,0):=by
 obtain ⟨r,h1,_,h2,h3⟩:=sS code;have:=h3 h;have h4:=(h2 this).1;rw [h1];obtain ⟨a,b⟩:=r;simp only at this h4;subst this;subst h4;rfl
theorem uI{code:List zf}(h:ua code):kh code=some (lps code code.length,0):=by
 unfold kh;rw [FR h];simp [wE h.Us h.Th]
open Go.Sx
variable {code:List zf} {a q:Nat}
def rem(code:List zf)(back:Nat->Int)(a:Nat):Int:=match code[a]? with
 |some i=>i.SU-back a
 |none=>0
def val(code:List zf)(back:Nat->Int)(q p:Nat):Nat->Int
 |0=>if q<=p then 1 else 0
 |k+1=>
  if qW code p k then
   (if qW code q k then val code back q p k+rem code back k*cF code p k else val code back q p k*(rem code (λ_=>0) k+1))
  else val code back q p k
theorem pG{p k:Nat}(hk:k<code.length):cF code p (k+1)=if qW code p k then cF code p k*(rem code (λ_=>0) k+1) else cF code p k:=by
 grind [cF,qW,rem]
theorem cH(code:List zf)(back:Nat->Int)(q p k:Nat):val code back q p (k+1)=
  if qW code p k then
   (if qW code q k then val code back q p k+rem code back k*cF code p k else val code back q p k*(rem code (λ_=>0) k+1))
  else val code back q p k:=rfl
def Fit(code:List zf)(back:Nat->Int):Prop:=∀(a:Nat)(i:zf),code[a]? =some i->i.Op=20->0<=back a/\back a<=i.SU
section
variable {code:List zf} (g:ua code) {back back':Nat->Int}
include g
theorem iy{p:Nat}(h:qW code p a=true):∃i,code[a]? =some i/\i.Op=20/\(a:Int)-i.D<=p/\p<=a/\1<=i.D/\1<=i.SU/\a<code.length/\i.D<=a:=by
 unfold qW at h;split at h
 ·rename_i i hi
  simp only [zae,t8,zdq] at h;have:=g.Th.loop hi h.1.1
  grind
 ·cases h
theorem kA(hf:Fit code back){p:Nat}(h:qW code p a=true):0<=rem code back a/\rem code back a<=rem code (λ_=>0) a/\1<=rem code (λ_=>0) a:=by
 obtain ⟨i,hi,ho,_,_,_,h6,_⟩:=iy g h;have:=hf a i hi ho
 grind [rem]
theorem NF{p b:Nat}(ha:qW code p a=true)(hb:qW code p b=true)(hab:a<b):∀q,qW code q a=true->qW code q b=true:=by
 intro q hq;obtain ⟨ia,a1,a2,a3,a4,a5,a6,a7,a8⟩:=iy g ha;obtain ⟨ib,b1,b2,b3,b4,b5,b6,b7,b8⟩:=iy g hb;obtain ⟨iq,q1,q2,q3,q4,_⟩:=iy g hq;rw [a1] at q1;cases q1;refine (xw b1 b2).2 ⟨?_,by omega⟩;have hno:=g.cr b b7;rcases Int.lt_or_le ((a:Int)-ia.D) (b-ib.D) with h|h
 ·exact absurd ⟨a,hab,ib,ia,b1,b2,a1,a2,by omega,h⟩ hno
 ·omega
theorem gB(p k:Nat):1<=cF code p k:=oE g.Th p k
theorem mQ(hf:Fit code back)(q p:Nat):∀k,k<=code.length->(if q<=p then 1 else 0)<=val code back q p k:=by
 intro k
 induction k with
 |zero=>intro _;exact r6 _
 |succ k ih=>
  intro hk;have ih:=ih (by omega);rw [cH];have h0:(0:Int)<=if q<=p then 1 else 0:=by split<;>omega
  generalize (if q<=p then (1:Int) else 0)=z at ih h0;by_cases hc:qW code p k=true
  ·rw [d7 hc];have hr:=kA g hf hc;split
   ·have:0<=rem code back k*cF code p k:=Int.mul_nonneg hr.1 (by have:=gB g p k;omega);omega
   ·have:val code back q p k*1<=val code back q p k*(rem code (λ_=>0) k+1):=Int.mul_le_mul_of_nonneg_left (by omega) (by omega);omega
  grind
theorem Is{p:Nat}:∀k,k<=code.length->val code (λ_=>0) q p k<=cF code p k:=by
 intro k
 induction k with
 |zero=>intro _;simp only [val,cF];split<;>omega
 |succ k ih=>
  intro hk;have ih:=ih (by omega);rw [cH,pG (by omega)];split
  ·rename_i hc
   have hf:Fit code (λ_=>0):=λa i hi ho=>by have:=g.Th.loop hi ho;exact ⟨r6 _,by simp only;omega⟩
   have hr:=kA g hf hc;have ht:=gB g p k;split
   ·grind
   ·exact RS ih (by omega)
  ·exact ih
theorem NG(hf:Fit code back){t p:Nat}(hqt:q<t)(hin:∀a,qW code t a=true->qW code q a=true\/∃i,code[a]? =some i/\(t:Int)=a-i.D)(hb:∀a,qW code t a=true->back' a=back a/\0<=back' a)(hp:p<code.length):
  val code back' t p code.length+(if q=p then 1 else 0)<=val code back q p code.length:=by
 by_cases hpt:t<=p
 ·
  have hne:¬ q=p:=by omega
  rw [d8 hne]
  have main:∀k,k<=code.length->val code back' t p k<=val code back q p k/\((∀a,a<k->qW code p a=true->qW code q a=false)->val code back q p k=cF code p k):=by
   intro k
   induction k with
   |zero=>intro _;simp only [val,cF];rw [d7 hpt,d7 (by omega)];exact ⟨r6 _,λ_=>rfl⟩
   |succ k ih=>
    intro hk;obtain ⟨i1,i2⟩:=ih (by omega);rw [cH,cH,pG (by omega)];by_cases hc:qW code p k=true
    ·rw [d7 hc,d7 hc,d7 hc];have hr:=kA g hf hc;have ht:=gB g p k;have hv:=mQ g hf q p k (by omega);rw [d7 (by omega)] at hv;by_cases hq:qW code q k=true
     ·grind [iy,qW,xw,rem]
     ·have hq':qW code q k=false:=by simpa using hq
      simp only [hq',zfe,x3]
      have hbefore:∀a,a<k->qW code p a=true->qW code q a=false:=by
       grind [qW,NF]
      have hvt:=i2 hbefore;by_cases htk:qW code t k=true
      ·rw [d7 htk];refine ⟨?_,λ_=>by rw [hvt]⟩;have hb2:=hb k htk
       have hrr:rem code back' k<=rem code (λ_=>0) k:=by
        grind [iy,rem]
       have:rem code back' k*cF code p k<=rem code (λ_=>0) k*cF code p k:=RS hrr (by omega);rw [hvt,Int.mul_add,Int.mul_one,Int.mul_comm (cF code p k)];omega
      ·rw [d8 htk];exact ⟨RS i1 (by omega),λ_=>by rw [hvt]⟩
    grind
  grind
 ·
  have hlt:p<t:=by omega
  have hboth:∀a,qW code p a=true->qW code t a=true->qW code q a=true:=by
   grind [iy]
  have main:∀k,k<=code.length->(val code back' t p k+(if q=p then 1 else 0)<=val code back q p k/\(∃a,a<k/\qW code p a=true/\qW code t a=true))\/
    (val code back' t p k=0/\∀a,a<k->qW code p a=true->qW code t a=false):=by
   intro k
   induction k with
   |zero=>intro _;right;simp only [val];rw [d8 (by omega)];exact ⟨rfl,λa ha=>by omega⟩
   |succ k ih=>
    intro hk;rw [cH,cH];by_cases hc:qW code p k=true
    ·rw [d7 hc,d7 hc];have hr:=kA g hf hc;have ht:=gB g p k;have hv:=mQ g hf q p k (by omega)
     grind [qW,rem,iy,NF]
    grind
  have hv:=mQ g hf q p code.length (l6 _)
  grind
theorem KM(hf:Fit code back){h p:Nat}{i:zf}(hi:code[a]? =some i)(ho:i.Op=20)(hh:(h:Int)=a-i.D)(hb:back' a=back a+1)(hb2:∀b,b≠a->back' b=back b)(hlim:back a<i.SU)(hp:p<code.length):
  val code back' h p code.length+(if a=p then 1 else 0)<=val code back a p code.length:=by
 have hd:=g.Th.loop hi ho;have hal:=(zes.1 hi).1;have hcaa:qW code a a=true:=(xw hi ho).2 ⟨by omega,by omega⟩;have hcha:qW code h a=true:=(xw hi ho).2 ⟨by omega,by omega⟩
 have hrem:∀b,b≠a->rem code back' b=rem code back b:=by
  grind [rem]
 by_cases hbody:h<=p/\p<=a
 ·have hcpa:qW code p a=true:=(xw hi ho).2 ⟨by omega,by omega⟩
  have low:∀k,k<=a->val code back a p k=(if a<=p then 1 else 0)*cF code p k/\val code back' h p k<=cF code p k:=by
   intro k
   induction k with
   |zero=>intro _;simp only [val,cF];rw [d7 hbody.1];simp
   |succ k ih=>
    intro hk;obtain ⟨i1,i2⟩:=ih (by omega);rw [cH,cH,pG (by omega)];by_cases hc:qW code p k=true
    ·rw [d7 hc,d7 hc,d7 hc];have hr:=kA g hf hc;have ht:=gB g p k
     have hka:¬ qW code a k=true:=by
      grind [iy]
     rw [d8 hka,i1,Int.mul_assoc];refine ⟨rfl,?_⟩;split
     ·rw [hrem k (by omega)];have:rem code back k*cF code p k<=rem code (λ_=>0) k*cF code p k:=RS hr.2.1 (by omega)
      grind
     ·exact RS i2 (by omega)
    grind
  have high:∀n,a+1+n<=code.length->val code back' h p (a+1+n)+(if a=p then 1 else 0)<=val code back a p (a+1+n):=by
   intro n
   induction n with
   |zero=>
    intro _;obtain ⟨l1,l2⟩:=low a (l6 _);rw [Nat.add_zero,cH,cH,d7 hcpa,d7 hcpa,d7 hcaa,d7 hcha,l1];have ht:=gB g p a;have er:rem code back' a=rem code back a-1:=by grind [rem]
    rw [er,Int.sub_mul,Int.one_mul]
    grind
   |succ n ih=>
    grind [cH,qW,NF]
  have:=high (code.length-(a+1)) (by omega)
  rwa [show a+1+(code.length-(a+1))=code.length by omega] at this
 ·have hne:¬ a=p:=by omega
  rw [d8 hne]
  have same:∀k,k<=code.length->val code back' h p k=val code back a p k:=by
   intro k
   induction k with
   |zero=>intro _;simp only [val];by_cases h1:h<=p<;>by_cases h2:a<=p<;>simp [h1,h2]<;>omega
   |succ k ih=>
    intro hk;rw [cH,cH,ih (by omega)];by_cases hc:qW code p k=true
    ·rw [d7 hc,d7 hc];obtain ⟨ik,c1,c2,c3,c4,c5,c6,c7,c8⟩:=iy g hc
     have hka:k≠a:=by
      grind
     have hiff:qW code h k=qW code a k:=by
      rw [Bool.eq_iff_iff];constructor
      ·intro hck;obtain ⟨i',d1,d2,d3,d4,_⟩:=iy g hck;rw [c1] at d1;cases d1;rcases Nat.lt_or_ge k a with h5|h5
       ·
        exfalso
        exact g.cr a hal ⟨k,h5,i,ik,hi,ho,c1,c2,by omega,by omega⟩
       ·exact (xw c1 c2).2 ⟨by omega,by omega⟩
      ·intro hck;obtain ⟨i',d1,d2,d3,d4,_⟩:=iy g hck;rw [c1] at d1;cases d1;have hk2:a<k:=by omega
       refine (xw c1 c2).2 ⟨?_,by omega⟩;rcases Int.lt_or_le ((a:Int)-i.D) (k-ik.D) with h5|h5
       ·exact absurd ⟨a,hk2,ik,i,c1,c2,hi,ho,by omega,h5⟩ (g.cr k c7)
       ·omega
     grind
    grind
  grind
end
def pot(code:List zf)(back:Nat->Int)(q:Nat):Nat->Int
 |0=>0
 |p+1=>pot code back q p+val code back q p code.length
theorem E3{back back':Nat->Int}{t:Nat}(hq:q<code.length)(h:∀p,p<code.length->val code back' t p code.length+(if q=p then 1 else 0)<=val code back q p code.length):
  pot code back' t code.length+1<=pot code back q code.length:=by
 have main:∀n,n<=code.length->pot code back' t n+(if q<n then 1 else 0)<=pot code back q n:=by
  intro n
  induction n with
  |zero=>intro _;simp [pot]
  |succ n ih=>
   grind [pot]
 grind
theorem It(g:ua code):pot code (λ_=>0) q code.length<=uu code code.length:=by
 have main:∀n,n<=code.length->pot code (λ_=>0) q n<=uu code n:=by
  intro n
  induction n with
  |zero=>intro _;simp [pot,uu]
  |succ n ih=>
   intro hn;have:=ih (by omega);have h2:=Is g (q:=q) (p:=n) code.length (l6 _)
   grind [pot,uu]
 grind
theorem NH(g:ua code){back:Nat->Int}(hf:Fit code back)(hq:q<code.length):1<=pot code back q code.length:=by
 have main:∀n,n<=code.length->(if q<n then 1 else 0)<=pot code back q n:=by
  intro n
  induction n with
  |zero=>intro _;simp [pot]
  |succ n ih=>
   intro hn;have:=ih (by omega);have h2:=mQ g hf q n code.length (l6 _);simp only [pot];by_cases e:q<=n
   ·rw [d7 e] at h2;rw [d7 (by omega)];split at this<;>omega
   ·rw [d8 e] at h2;rw [d8 (by omega)];split at this<;>omega
 have:=main _ (l6 _)
 rwa [d7 hq] at this
end
open Go.Sx
variable {x y:Int}
def SW(s:zh):Prop:=0<=s.Lo/\s.Lo<=s.Hi/\s.Hi<18446744073709551616
theorem sj(x:Int):xS x=x%18446744073709551616:=rfl
theorem xR(h0:0<=x)(h1:x<18446744073709551616):xS x=x:=by rw [sj];omega
theorem xc(x:Int):0<=xS x/\xS x<18446744073709551616:=by rw [sj];omega
theorem Fh(x y:Int):wc .u64 x y=((BitVec.ofInt 64 x &&& BitVec.ofInt 64 y).toNat:Int)%18446744073709551616:=rfl
theorem IP(x y:Int):bOr .u64 x y=((BitVec.ofInt 64 x ||| BitVec.ofInt 64 y).toNat:Int)%18446744073709551616:=rfl
theorem Fi(x y:Int):Mo .u64 x y=((BitVec.ofInt 64 x ^^^ BitVec.ofInt 64 y).toNat:Int)%18446744073709551616:=rfl
theorem oT(x y:Int):wd .u64 x y=(x*2^(min y.toNat 64))%18446744073709551616:=rfl
theorem K7(x y:Int):iE .u64 x y=x.fdiv (2^(min y.toNat 64)):=rfl
theorem rr(h0:0<=x)(h1:x<18446744073709551616):(BitVec.ofInt 64 x).toNat=x.toNat:=by
 rw [BitVec.toNat_ofInt];omega
theorem Fj(x0:0<=x)(x1:x<18446744073709551616)(y0:0<=y)(y1:y<18446744073709551616):wc .u64 x y=((x.toNat &&& y.toNat:Nat):Int):=by
 rw [Fh,BitVec.toNat_and,rr x0 x1,rr y0 y1];have:x.toNat &&& y.toNat<=x.toNat:=Nat.and_le_left;omega
theorem IR(x0:0<=x)(x1:x<18446744073709551616)(y0:0<=y)(y1:y<18446744073709551616):bOr .u64 x y=((x.toNat ||| y.toNat:Nat):Int):=by
 have h:(BitVec.ofInt 64 x ||| BitVec.ofInt 64 y).toNat<2^64:=BitVec.isLt _;rw [IP,Int.emod_eq_of_lt (by omega) (by omega),BitVec.toNat_or,rr x0 x1,rr y0 y1]
theorem K8(x0:0<=x)(x1:x<18446744073709551616)(y0:0<=y)(y1:y<18446744073709551616):Mo .u64 x y=((x.toNat ^^^ y.toNat:Nat):Int):=by
 have h:(BitVec.ofInt 64 x ^^^ BitVec.ofInt 64 y).toNat<2^64:=BitVec.isLt _;rw [Fi,Int.emod_eq_of_lt (by omega) (by omega),BitVec.toNat_xor,rr x0 x1,rr y0 y1]
theorem DY(x0:0<=x)(x1:x<18446744073709551616)(y0:0<=y)(y1:y<18446744073709551616):x<=bOr .u64 x y/\y<=bOr .u64 x y/\bOr .u64 x y<18446744073709551616:=by
 have h:(BitVec.ofInt 64 x ||| BitVec.ofInt 64 y).toNat<2^64:=BitVec.isLt _;rw [BitVec.toNat_or,rr x0 x1,rr y0 y1] at h;rw [IR x0 x1 y0 y1];have h1:x.toNat<=x.toNat ||| y.toNat:=Nat.left_le_or
 have h2:y.toNat<=x.toNat ||| y.toNat:=Nat.right_le_or
 omega
theorem DZ(x y:Int):0<=wc .u64 x y/\wc .u64 x y<18446744073709551616:=by rw [Fh];omega
theorem BU(x y:Int):0<=bOr .u64 x y/\bOr .u64 x y<18446744073709551616:=by rw [IP];omega
theorem IU(x y:Int):0<=Mo .u64 x y/\Mo .u64 x y<18446744073709551616:=by rw [Fi];omega
theorem IV(x y:Int):0<=wd .u64 x y/\wd .u64 x y<18446744073709551616:=by rw [oT];omega
theorem Ab(x0:0<=x):iE .u64 x y=((x.toNat / 2^(min y.toNat 64):Nat):Int):=by
 rw [K7];obtain ⟨a,rfl⟩:=zof x0;rw [Int.fdiv_eq_ediv_of_nonneg _ (by exact_mod_cast Nat.zero_le _)];simp
theorem D0(x0:0<=x)(x1:x<18446744073709551616):0<=iE .u64 x y/\iE .u64 x y<=x:=by
 rw [Ab x0];have:=Nat.div_le_self x.toNat (2^(min y.toNat 64));generalize x.toNat / 2^(min y.toNat 64)=q at*
 omega
theorem Ac{s t:Int}(x0:0<=x)(xy:x<=y)(ts:t<=s):iE .u64 x s<=iE .u64 y t:=by
 rw [Ab x0,Ab (by omega)];have h1:x.toNat / 2^(min s.toNat 64)<=y.toNat / 2^(min s.toNat 64):=Nat.div_le_div_right (by omega);have h2:y.toNat / 2^(min s.toNat 64)<=y.toNat / 2^(min t.toNat 64):=Nat.div_le_div_left (Nat.pow_le_pow_right (by omega) (by omega)) (Nat.pow_pos (by omega))
 exact_mod_cast s9 h1 h2
theorem fd(h:0<=y):nn y=some ():=by unfold nn;rw [d8 (by omega)]
theorem my(h:y≠0):nz y=some ():=by unfold nz;rw [d8 h]
def tB:ByteArray:=⟨[0,1,2,2,3,3,3,3,4,4,4,4,4,4,4,4,5,5,5,5,5,5,5,5,5,5,5,5,5,5,5,5,6,6,6,6,6,6,6,6,6,6,6,6,6,6,6,6,6,6,6,6,6,6,6,6,6,6,6,6,6,6,6,6,7,7,7,7,7,7,7,7,7,7,7,7,7,7,7,7,7,7,7,7,7,7,7,7,7,7,7,7,7,7,7,7,7,7,7,7,7,7,7,7,7,7,7,7,7,7,7,7,7,7,7,7,7,7,7,7,7,7,7,7,7,7,7,7,8,8,8,8,8,8,8,8,8,8,8,8,8,8,8,8,8,8,8,8,8,8,8,8,8,8,8,8,8,8,8,8,8,8,8,8,8,8,8,8,8,8,8,8,8,8,8,8,8,8,8,8,8,8,8,8,8,8,8,8,8,8,8,8,8,8,8,8,8,8,8,8,8,8,8,8,8,8,8,8,8,8,8,8,8,8,8,8,8,8,8,8,8,8,8,8,8,8,8,8,8,8,8,8,8,8,8,8,8,8,8,8,8,8,8,8,8,8,8,8,8,8,8,8,8,8,8,8].toArray⟩
theorem RA:∀c:Nat,c<256->∃k:Nat,k<=8/\c<2^k/\(c=0->k=0)/\(0<c->2^(k-1)<=c)/\ue tB (c:Int)=some (k:Int):=by
 have h:∀c:Fin 256,∃k:Fin 9,(c:Nat)<2^(k:Nat)/\((c:Nat)=0->(k:Nat)=0)/\(0<(c:Nat)->2^((k:Nat)-1)<=(c:Nat))/\ue tB ((c:Nat):Int)=some ((k:Nat):Int):=by decide+kernel
 intro c hc;obtain ⟨k,h1,h2,h3,h4⟩:=h ⟨c,hc⟩;exact ⟨k,by omega,h1,h2,h3,h4⟩
theorem Fk{n:Nat}(s:Nat)(h:s<=64):iE .u64 (n:Int) (s:Int)=((n / 2^s:Nat):Int):=by
 rw [Ab (by omega)];have:min (s:Int).toNat 64=s:=by omega
 rw [this];simp
theorem N0(c s:Nat)(hc:c<256)(hs:s<=56):∃k:Nat,k<=8/\c<2^k/\(c=0->k=0)/\(0<c->2^(k-1)<=c)/\
  ((ue tB (IntKind.u8.wrap (c:Int))).bind λc15=>some (w64 ((s:Int)+(w64 c15))))=some ((s+k:Nat):Int):=by
 obtain ⟨k,h1,h2,h3,h4,h5⟩:=RA c hc;refine ⟨k,h1,h2,h3,h4,?_⟩;have e:IntKind.u8.wrap (c:Int)=(c:Int):=by rw [IntKind.wrap_u8];omega
 rw [e,h5];show some _=some _;rw [qt (x:=(k:Int)) (by omega) (by omega),qt (by omega) (by omega)];simp
set_option maxRecDepth 100000 in
theorem sk{n:Nat}(h1:n<18446744073709551616):∃k:Nat,k<=64/\gv (n:Int)=some (k:Int)/\n<2^k/\(n=0->k=0)/\(0<n->2^(k-1)<=n):=by
 have go:∀(c s:Nat),c<256->s<=56->c=n / 2^s->(s=0\/0<c)->∃k:Nat,k<=64/\((ue tB (IntKind.u8.wrap (c:Int))).bind λc15=>some (w64 ((s:Int)+(w64 c15))))=some (k:Int)/\n<2^k/\(n=0->k=0)/\(0<n->2^(k-1)<=n):=by
  intro c s hc hs he hz;obtain ⟨k,k1,k2,k3,k4,k5⟩:=N0 c s hc hs;have hp:0<2^s:=Nat.pow_pos (by omega);refine ⟨s+k,by omega,k5,?_,λh0=> ?_,λh0=> ?_⟩
  ·rw [Nat.pow_add,Nat.mul_comm];exact (Nat.div_lt_iff_lt_mul hp).1 (by omega)
  ·subst h0;rw [Nat.zero_div] at he;rcases hz with hz|hz
   ·have:=k3 he;omega
   ·omega
  ·have hc0:0<c:=by
    rcases hz with rfl|hz
    ·simp at he;omega
    ·exact hz
   have hk:=k4 hc0
   have hk0:0<k:=by
    rcases yn k with rfl|hk
    ·simp at k2;omega
    ·exact hk
   rw [show s+k-1=s+(k-1) by omega,Nat.pow_add,Nat.mul_comm];exact (Nat.le_div_iff_mul_le hp).1 (by omega)
 show ∃k:Nat,k<=64/\((if decide ((n:Int)>=4294967296) then some (iE .u64 (n:Int) 32,(32:Int)) else some ((n:Int),0)).bind λo2=>
  (if decide (o2.1>=65536) then some (iE .u64 o2.1 16,w64 (o2.2+16)) else some (o2.1,o2.2)).bind λo6=>
  (if decide (o6.1>=256) then some (iE .u64 o6.1 8,w64 (o6.2+8)) else some (o6.1,o6.2)).bind λo10=>
  (ue tB (IntKind.u8.wrap o10.1)).bind λc15=>some (w64 (o10.2+(w64 c15))))=some (k:Int)/\_
 have s32:iE .u64 (n:Int) 32=((n / 2^32:Nat):Int):=Fk 32 (by omega);have s16:∀m:Nat,iE .u64 (m:Int) 16=((m / 2^16:Nat):Int):=λm=>Fk 16 (by omega)
 have s8:∀m:Nat,iE .u64 (m:Int) 8=((m / 2^8:Nat):Int):=λm=>Fk 8 (by omega)
 have last:∀m s:Nat,m<65536->s<=48->m=n / 2^s->(s=0\/0<m)->∃k:Nat,k<=64/\((if decide ((m:Int)>=256) then some (iE .u64 (m:Int) 8,w64 ((s:Int)+8)) else some ((m:Int),(s:Int))).bind λo10=>
  (ue tB (IntKind.u8.wrap o10.1)).bind λc15=>some (w64 (o10.2+(w64 c15))))=some (k:Int)/\n<2^k/\(n=0->k=0)/\(0<n->2^(k-1)<=n):=by
  intro m s hm hs he hz;by_cases h:m>=256
  ·rw [d7 (by simp;omega),s8,show w64 ((s:Int)+8)=((s+8:Nat):Int) by rw [qt (by omega) (by omega)];simp];exact go (m / 2^8) (s+8) (by omega) (by omega) (by rw [he,Nat.div_div_eq_div_mul,<- Nat.pow_add]) (.inr (by omega))
  ·rw [d8 (by simp;omega)];exact go m s (by omega) (by omega) he hz
 have mid:∀m s:Nat,m<4294967296->s<=32->m=n / 2^s->(s=0\/0<m)->∃k:Nat,k<=64/\((if decide ((m:Int)>=65536) then some (iE .u64 (m:Int) 16,w64 ((s:Int)+16)) else some ((m:Int),(s:Int))).bind λo6=>
  (if decide (o6.1>=256) then some (iE .u64 o6.1 8,w64 (o6.2+8)) else some (o6.1,o6.2)).bind λo10=>
  (ue tB (IntKind.u8.wrap o10.1)).bind λc15=>some (w64 (o10.2+(w64 c15))))=some (k:Int)/\n<2^k/\(n=0->k=0)/\(0<n->2^(k-1)<=n):=by
  intro m s hm hs he hz;by_cases h:m>=65536
  ·rw [d7 (by simp;omega),s16,show w64 ((s:Int)+16)=((s+16:Nat):Int) by rw [qt (by omega) (by omega)];simp];exact last (m / 2^16) (s+16) (by omega) (by omega) (by rw [he,Nat.div_div_eq_div_mul,<- Nat.pow_add]) (.inr (by omega))
  ·rw [d8 (by simp;omega)];exact last m s (by omega) (by omega) he hz
 by_cases h:n>=4294967296
 ·rw [d7 (by simp;omega),s32];exact mid (n / 2^32) 32 (by omega) (by omega) rfl (.inr (by omega))
 ·rw [d8 (by simp;omega)];exact mid n 0 (by omega) (by omega) (by simp) (.inl rfl)
end Go.Proofs.YtplmgfkghomelaaGreatDoor
