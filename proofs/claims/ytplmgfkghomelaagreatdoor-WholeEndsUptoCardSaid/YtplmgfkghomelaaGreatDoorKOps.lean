/- Lemmas. -/
import Derived.Test.YtplmgfkghomelaaGreatDoorKH1
set_option linter.all false
namespace Go.Proofs.YtplmgfkghomelaaGreatDoor
open Go.Sx
variable {p i:zf}{c j:Type}{b a o d m y c0 c2:Int}{x e:Bool}{v G:c}{f:jc}{q n N:Nat}{X:Prop}{z:j}{r:jc×Bool}{l:(Bool×zf)->Option (Bool×zf)}{C:Bool×zf}{h:Nat->(Unit->Option (Unit⊕c))->Unit->Option (Unit⊕c)}{D:Nat->Option c}{E:List zf}{I J:qy}{K L:Nat->Int}
def uv(n:Int):Bool:=decide (0<=n)&&decide (n<8)
def Pr(i:zf):Bool:=i.B==8||(uv i.B&&i.TJ==0)
def inB(n l h:Int):Bool:=decide (l<=n)&&decide (n<=h)
def xd(i:zf):Bool:=
 if i.Op==0||i.Op==11 then uv i.D&&i.A==0&&Pr i
 else if inB i.Op 1 10 then uv i.D&&uv i.A&&Pr i
 else if i.Op==12 then i.D==0&&uv i.A&&Pr i
 else if i.Op==13 then uv i.D&&i.A==0&&i.B==0&&inB i.TJ 0 1
 else if i.Op==14 then uv i.D&&i.A==0&&i.B==0&&inB i.TJ 0 3
 else if i.Op==15 then inB i.D 0 63&&i.A==0&&i.B==0&&i.TJ==0
 else if inB i.Op 16 19 then inB i.D 0 63&&uv i.A&&Pr i
 else if i.Op==20 then inB i.D 1 63&&uv i.A&&i.B==0&&inB i.TJ 1 255
 else if i.Op==21 then i.D==0&&i.A==0&&i.B==0&&inB i.TJ 0 6
 else if i.Op==22 then i.D==0&&uv i.A&&i.B==0&&i.TJ==0
 else false
def eL(i:zf):Bool:=xd i&&inB i.Op 15 19
def ma(i:zf):Bool:=xd i&&i.Op==20
def jr(i:zf):Int×Bool×Bool:=
 if eL i then (i.D+1,true,i.Op !=15)
 else if ma i then (-i.D,true,true)
 else (0,false,xd i&&i.Op !=22)
theorem Cy(n:Int):n<0\/n>=23\/n=0\/n=1\/n=2\/n=3\/n=4\/n=5\/n=6\/n=7\/n=8\/n=9\/n=10\/n=11\/n=12\/n=13\/n=14\/n=15\/n=16\/n=17\/n=18\/n=19\/n=20\/n=21\/n=22:=by omega
theorem Eo(n:Int):eg n=some (uv n):=rfl
theorem I4(n l h:Int):cO n l h=some (inB n l h):=rfl
def mY(p:zf)(s:Bool×zf)(c:Int):Bool×zf:=
 if c==100 then (s.1&&uv p.D,⟨s.2.Op,0,s.2.A,s.2.B,s.2.TJ⟩)
 else if c==97 then (s.1&&uv p.A,⟨s.2.Op,s.2.D,0,s.2.B,s.2.TJ⟩)
 else if c==115 then (if p.B==8 then (s.1,⟨s.2.Op,s.2.D,s.2.A,0,0⟩) else (s.1&&uv p.B,⟨s.2.Op,s.2.D,s.2.A,0,s.2.TJ⟩))
 else if c==102 then (s.1&&inB p.TJ 0 1,⟨s.2.Op,s.2.D,s.2.A,s.2.B,0⟩)
 else if c==109 then (s.1&&inB p.TJ 0 3,⟨s.2.Op,s.2.D,s.2.A,s.2.B,0⟩)
 else if c==104 then (s.1&&inB p.TJ 0 6,⟨s.2.Op,s.2.D,s.2.A,s.2.B,0⟩)
 else if c==110 then (s.1&&inB p.TJ 1 255,⟨s.2.Op,s.2.D,s.2.A,s.2.B,0⟩)
 else if c==106 then (s.1&&inB p.D 0 63,⟨s.2.Op,0,s.2.A,s.2.B,s.2.TJ⟩)
 else if c==98 then (s.1&&inB p.D 1 63,⟨s.2.Op,0,s.2.A,s.2.B,s.2.TJ⟩)
 else s
theorem R7:mY p (x,⟨o,d,a,b,m⟩) 100=(x&&uv p.D,⟨o,0,a,b,m⟩):=rfl
theorem R8:mY p (x,⟨o,d,a,b,m⟩) 97=(x&&uv p.A,⟨o,d,0,b,m⟩):=rfl
theorem R9:mY p (x,⟨o,d,a,b,m⟩) 115=(if p.B==8 then (x,⟨o,d,a,0,0⟩) else (x&&uv p.B,⟨o,d,a,0,m⟩)):=rfl
theorem Sa:mY p (x,⟨o,d,a,b,m⟩) 102=(x&&inB p.TJ 0 1,⟨o,d,a,b,0⟩):=rfl
theorem Sc:mY p (x,⟨o,d,a,b,m⟩) 109=(x&&inB p.TJ 0 3,⟨o,d,a,b,0⟩):=rfl
theorem Sd:mY p (x,⟨o,d,a,b,m⟩) 104=(x&&inB p.TJ 0 6,⟨o,d,a,b,0⟩):=rfl
theorem Se:mY p (x,⟨o,d,a,b,m⟩) 110=(x&&inB p.TJ 1 255,⟨o,d,a,b,0⟩):=rfl
theorem Sf:mY p (x,⟨o,d,a,b,m⟩) 106=(x&&inB p.D 0 63,⟨o,0,a,b,m⟩):=rfl
theorem Sg:mY p (x,⟨o,d,a,b,m⟩) 98=(x&&inB p.D 1 63,⟨o,0,a,b,m⟩):=rfl
theorem pL{j c:Type}{d:j->Option c}{A B:Option c}{a b:j}(h:A=d a)(e:B=d b):(if x then A else B)=d (if x then a else b):=by
 grind
theorem uw{c:Type}{a:(Bool×j)->Option c}:(if x then a (e,z) else a (false,z))=a (x&&e,z):=by
 cases x<;>simp
theorem Ep(h:wd r.1.TN (q:Int)=some b):
  iL p r q l C=l (mY p C b):=by
 unfold iL mY;simp only [h,zbs,Eo,I4];refine pL uw ?_;refine pL uw ?_;refine pL (pL rfl uw) ?_
 grind
def fin(x:Bool×zf):Bool:=x.1&&((x.2.Op==0)&&((x.2.D==0)&&((x.2.A==0)&&((x.2.B==0)&&(x.2.TJ==0)))))
theorem AO(a:fb p.Op=some (f,true))(b:f.TN.size<=3)
  (h:jM (iL p (f,true)) (λ(s:Bool×zf)=>(s.1,s.2)) f.TN.size 0 (true,{p with Op:=0})=some C):vT p=some (fin C):=by
 have c:room f.TN.size 1=some ():=by grind [room]
 unfold vT fin
 grind
theorem Rt(h:fb p.Op=some (f,true))(a:f.TN.size=1)(b:wd f.TN 0=some c0):
  vT p=some (fin (mY p (true,{p with Op:=0}) c0)):=by
 grind [AO,jM,Ep]
theorem Q1{c0:Int}{c1:Int}(h:fb p.Op=some (f,true))(a:f.TN.size=2)(b:wd f.TN 0=some c0)(c:wd f.TN 1=some c1):
  vT p=some (fin (mY p (mY p (true,{p with Op:=0}) c0) c1)):=by
 refine AO h (by omega) ?_;rw [a];simp only [jM]
 grind [Ep]
theorem Ru{c0:Int}{c1:Int}(h:fb p.Op=some (f,true))(a:f.TN.size=3)(b:wd f.TN 0=some c0)(c:wd f.TN 1=some c1)(d:wd f.TN 2=some c2):
  vT p=some (fin (mY p (mY p (mY p (true,{p with Op:=0}) c0) c1) c2)):=by
 refine AO h (by omega) ?_;rw [a];simp only [jM]
 grind [Ep]
theorem fD(i:zf):vT i=some (xd i):=by
 have c:=Cy i.Op;obtain ⟨op,d,a,b,m⟩:=i;simp only at c
 have out:op<0\/op>=23->vT ⟨op,d,a,b,m⟩=some (xd ⟨op,d,a,b,m⟩):=by
  intro h;have e:fb op=some (⟨ByteArray.empty,ByteArray.empty⟩,false):=by unfold fb;rw [d7 (by simp;omega)]
  have k:∀k:Int,0<=k->k<=22->(op==k)=false:=by intro k n o;simp;omega
  have j:inB op 1 10=false:=by simp [inB];omega
  have l:inB op 16 19=false:=by simp [inB];omega
  have r:xd ⟨op,d,a,b,m⟩=false:=by
   unfold xd;simp only [k 0 (by decide) (by decide),k 11 (by decide) (by decide),k 12 (by decide) (by decide),k 13 (by decide) (by decide),k 14 (by decide) (by decide),k 15 (by decide) (by decide),k 20 (by decide) (by decide),k 21 (by decide) (by decide),k 22 (by decide) (by decide),j,l];rfl
  unfold vT;rw [r];simp [e]
 rcases c with h|h|h|h|h|h|h|h|h|h|h|h|h|h|h|h|h|h|h|h|h|h|h|h|h
 ·exact out (.inl h)
 ·exact out (.inr h)
 all_goals subst h
 all_goals
  first
   |rw [Q1 (c0:=100) (c1:=115) rfl rfl rfl rfl]
   |rw [Ru (c0:=100) (c1:=97) (c2:=115) rfl rfl rfl rfl rfl]
   |rw [Q1 (c0:=97) (c1:=115) rfl rfl rfl rfl]
   |rw [Q1 (c0:=100) (c1:=102) rfl rfl rfl rfl]
   |rw [Q1 (c0:=100) (c1:=109) rfl rfl rfl rfl]
   |rw [Rt (c0:=106) rfl rfl rfl]
   |rw [Ru (c0:=106) (c1:=97) (c2:=115) rfl rfl rfl rfl rfl]
   |rw [Ru (c0:=98) (c1:=97) (c2:=110) rfl rfl rfl rfl rfl]
   |rw [Rt (c0:=104) rfl rfl rfl]
   |rw [Rt (c0:=97) rfl rfl rfl]
  congr 1
  simp only [R7,R8,R9,Sa,Sc,Sd,Se,Sf,Sg,fin,xd,Pr];cases f:(b==8)
  ·simp [f,inB]
   try (rw [Bool.eq_iff_iff];simp;constructor<;>intro h<;>simp_all;done)
  ·simp only [w6] at f;subst f;simp [inB]
   try (rw [Bool.eq_iff_iff];simp;constructor<;>intro h<;>simp_all;done)
theorem I5(op:Int)(b:0<=op)(c:op<23):∃f,fb op=some (f,true)/\jv f 106=some (inB op 15 19)/\jv f 98=some (op==20):=by
 have a:=Cy op;rcases a with h|h|h|h|h|h|h|h|h|h|h|h|h|h|h|h|h|h|h|h|h|h|h|h|h
 ·omega
 ·omega
 all_goals subst h
 all_goals exact ⟨_,rfl,rfl,rfl⟩
theorem Cz(h:xd i=true):0<=i.Op/\i.Op<23:=by
 rcases Int.lt_or_le i.Op 0 with a|a
 ·exfalso
  have k:∀k:Int,0<=k->(i.Op==k)=false:=by grind
  unfold xd inB at h;simp only [k 0 (by decide),k 11 (by decide),k 12 (by decide),k 13 (by decide),k 14 (by decide),k 15 (by decide),k 20 (by decide),k 21 (by decide),k 22 (by decide)] at h
  grind
 ·refine ⟨a,?_⟩;rcases Int.lt_or_le i.Op 23 with b|b
  ·exact b
  ·exfalso
   have k:∀k:Int,k<=22->(i.Op==k)=false:=by grind
   unfold xd inB at h;simp only [k 0 (by decide),k 11 (by decide),k 12 (by decide),k 13 (by decide),k 14 (by decide),k 15 (by decide),k 20 (by decide),k 21 (by decide),k 22 (by decide)] at h
   grind
theorem sB(h:eL i=true):0<=i.D/\i.D<=63/\15<=i.Op/\i.Op<=19:=by
 unfold eL at h;simp only [zae] at h;obtain ⟨b,c⟩:=h;have a:15<=i.Op/\i.Op<=19:=by grind [inB]
 refine ⟨?_,?_,a⟩<;>
 grind [inB,xd]
theorem FL(h:ma i=true):1<=i.D/\i.D<=63/\i.Op=20/\1<=i.TJ/\i.TJ<=255:=by
 unfold ma at h;simp only [zae,w6] at h;obtain ⟨e,c⟩:=h;obtain ⟨op,d,a,b,m⟩:=i;simp only at c;subst c
 grind [xd,inB]
theorem nF(i:zf):lH i=some (jr i):=by
 unfold lH;rw [fD];simp only [zbs];cases h:xd i with
 |false=>simp [jr,eL,ma,h]
 |true=>
  obtain ⟨f,b,c,d⟩:=I5 i.Op (Cz h).1 (Cz h).2;simp only [b,zbs,c,d];cases a:inB i.Op 15 19 with
  |true=>
   have:=sB (i:=i) (by grind [eL])
   grind [jr,eL,qe]
  |false=>
   cases hl:(i.Op==20) with
   |true=>
    have:=FL (i:=i) (by simp [ma,h,hl]);have e:w64 (0-i.D)= -i.D:=by grind [qe]
    simp only [jr,eL,ma,h,a,hl,e];rfl
   |false=>
    simp [jr,eL,ma,h,a,hl]
open Go.Sx
def fC{c:Type}(g:Nat->Option c):Nat->Nat->Option c
 |0,_=>none
 |n+1,i=>match g i with
  |some v=>some v
  |none=>fC g n (i+1)
def Ap{c:Type}:Option c->Unit⊕c
 |some v=>.inr v
 |none=>.inl ()
theorem P8(g:Nat->Option c)
  (b:∀j a,j<N->h j a ()=match g j with|some v=>some (.inr v)|none=>a ()):
  ∀(n i:Nat),i+n=N->jM h (λ_=>(.inl ())) n i ()=some (Ap (fC g n i)):=by
 intro n
 induction n with
 |zero=>intro i _;rfl
 |succ n d=>
  intro i e;show h i (jM h _ n (i+1)) ()=_;rw [b i _ (by omega)];unfold fC;cases g i with
  |some v=>rfl
  |none=>exact d (i+1) (by omega)
theorem rA(g:Nat->Option c)
 (b:∀j a,j<N->h j a ()=match g j with|some v=>some (.inr v)|none=>a ()):
 jM h (λ_=>(.inl ())) N 0 ()=some (Ap (fC g N 0)):=P8 g b N 0 (by omega)
theorem gN:∀{n i:Nat},fC D n i=some v->∃j,i<=j/\j<i+n/\D j=some v/\∀q,i<=q->q<j->D q=none:=by
 intro n
 induction n with
 |zero=>intro i h;cases h
 |succ n a=>
  grind [fC]
theorem gO:∀{n i:Nat},fC D n i=none->∀q,i<=q->q<i+n->D q=none:=by
 intro n
 induction n with
 |zero=>intro i _ q h a;omega
 |succ n b=>
  grind [fC]
theorem DP:∀{n i:Nat},(∀q,i<=q->q<i+n->D q=none)->fC D n i=none:=by
 intro n
 induction n with
 |zero=>intro i _;rfl
 |succ n a=>
  grind [fC]
theorem J9{a:Type}{x:List a}(h:q<x.length):idx x (q:Int)=some x[q]:=by
 simp [Go.Sx.idx,h]
def B7(n:Int)(p:Int)(i:zf):Int:=
 if !xd i then 12
 else if (jr i).2.1&&(decide (p+(jr i).1<0)||decide (p+(jr i).1>=n)) then 30
 else if (jr i).2.2&&p==n-1 then 36 else 0
theorem wG(i:zf): -63<=(jr i).1/\(jr i).1<=64:=by
 unfold jr;split
 ·rename_i h;have:=sB h;simp;omega
 ·split
  ·rename_i h;have:=FL h;simp;omega
  ·simp
def fI(code:List zf)(p:Nat):Option (Int×Int):=match code[p]? with
 |some i=>if B7 code.length p i=0 then none else some ((p:Int),B7 code.length p i)
 |none=>none
theorem Iu(code:List zf)(k:code.length<=64):hP code=some ((fC (fI code) code.length 0).getD (0,0)):=by
 unfold hP;rw [rA (fI code) (N:=code.length)]
 ·simp only [zbs];cases fC (fI code) code.length 0<;>rfl
 ·intro j a b;unfold nZ;have c:code[j]? =some code[j]:=zeg b;generalize d:code[j]=x at c;have l:=wG x;have e:w64 ((j:Int)+(jr x).1)=j+(jr x).1:=qe (by omega) (by omega);have f:w64 ((code.length:Int)-1)=code.length-1:=qe (by omega) (by omega)
  have i:fP [x]=some (xd x):=by
   unfold fP;simp only [List.length_singleton,jM,mD];rcases zft (xd x) with h|h<;>simp [Go.Sx.idx,fD,h]
  simp only [J9 b,d,zbs,nF,i,e,f,fI,c,B7]
  grind
def Aq(code:List zf):Prop:=∀(p:Nat)(i:zf),code[p]? =some i->B7 code.length p i=0
theorem NQ(h:fC (fI E) E.length 0=none):Aq E:=by
 intro p i a;have b:=(zes.1 a).1;have:=gO h p (by omega) (by omega)
 grind [fI]
theorem Iv(h:Aq E):fC (fI E) E.length 0=none:=by
 refine DP (λq _ b=> ?_);have a:=zeg (show q<E.length by omega);unfold fI;rw [a];simp only [h q _ a,s7]
theorem Aq.right{code:List zf}(h:Aq code)(a:code[q]? =some i):xd i=true:=by
 have:=h q i a
 grind [B7,xd]
theorem Aq.leads(h:Aq E)(a:E[q]? =some i)(hl:(jr i).2.1=true):0<=(q:Int)+(jr i).1/\(q:Int)+(jr i).1<E.length:=by
 have:=h q i a;unfold B7 at this
 grind
theorem Aq.on(h:Aq E)(a:E[q]? =some i)(hl:(jr i).2.2=true):q+1<E.length:=by
 have c:=(zes.1 a).1;have b:=h q i a;unfold B7 at b
 grind
theorem Aq.loop(h:Aq E)(a:E[q]? =some i)(c:i.Op=20):1<=i.D/\i.D<=q/\1<=i.TJ/\i.TJ<=255/\q+1<E.length:=by
 have f:=h.right a;have hl:ma i=true:=by grind [ma]
 have d:eL i=false:=by simp [eL,inB,c]
 have b:jr i=(-i.D,true,true):=by simp [jr,hl,d]
 have e:=h.leads a (by rw [b]);have j:=h.on a (by rw [b]);rw [b] at e;have k:=FL hl
 grind
def jG(i:zf)(p:Nat):qy:=⟨(p:Int)-i.D,p,i.TJ⟩
def lps(code:List zf):Nat->List qy
 |0=>[]
 |k+1=>match code[k]? with
  |some i=>if i.Op==20 then lps code k++[jG i k] else lps code k
  |none=>lps code k
theorem Ar(code:List zf):∀k,(lps code k).length<=k
 |0=>m6 _
 |k+1=>by
  have:=Ar code k
  grind [lps]
theorem oF{code:List zf}{l:qy}:∀{k:Nat},l∈lps code k↔∃q i,q<k/\code[q]? =some i/\i.Op=20/\l=jG i q
 |0=>by simp [lps]
 |k+1=>by
  unfold lps;have a:= @oF code l k
  grind
theorem wH(code:List zf):∀k,(lps code k).Pairwise (λa b=>a.At<b.At)/\∀l∈lps code k,l.At<k
 |0=>⟨List.Pairwise.nil,by simp [lps]⟩
 |k+1=>by
  obtain ⟨c,d⟩:=wH code k;unfold lps;split
  ·split
   ·refine ⟨List.pairwise_append.2 ⟨c,List.pairwise_singleton _ _,λa e b h=> ?_⟩,λl hl=> ?_⟩
    ·simp at h;subst h;exact d a e
    ·rcases g8.1 hl with hl|hl
     ·grind
     ·simp at hl;subst hl;simp [jG];omega
   grind
  grind
theorem As(f:E.length<=64)(c:Aq E):fj E=some (lps E E.length):=by
 refine OK.is ?_;unfold fj;refine d6 (R:=λy=>y=lps E E.length) ?_ (λx a=>b9 a);refine i7 (λi s=>s=lps E i) rfl ?_ (λs h=>h);intro i s b d e k;subst e;unfold ph;refine g9 (j4 d (λx a=> ?_));have hl:=Ar E i;refine d5 (λh=> ?_) (λh=> ?_)
 ·have j:=c.loop a (by simpa using h)
  grind [g9,OK.hasRoom,lps,jG,qe]
 grind [lps]
def qW(code:List zf)(p a:Nat):Bool:=match code[a]? with
 |some i=>i.Op==20&&decide ((a:Int)-i.D<=p)&&decide (p<=a)
 |none=>false
open Classical in
noncomputable def pick {c:Type} (X:Prop) (v:c):Option c:=if X then some v else none
theorem Fw(h:X):pick X v=some v:=by grind [pick]
theorem Fx(h:¬ X):pick X v=none:=by grind [pick]
theorem py(h:pick X v=some G):X/\v=G:=by
 grind [pick]
theorem kT(h:pick X v=none):¬ X:=by
 grind [pick]
def NR(X:Nat->Prop)(n:Nat):Option Nat->Prop
 |some l=>l<n/\X l/\∀q,q<l->¬ X q
 |none=>∀q,q<n->¬ X q
theorem DQ{X:Nat->Prop}{v:Nat->c}:∃o,NR X n o/\fC (λl=>pick (X l) (v l)) n 0=o.map v:=by
 cases h:fC (λl=>pick (X l) (v l)) n 0 with
 |none=>exact ⟨none,λq a=>kT (gO h q (by omega) (by omega)),rfl⟩
 |some u=>
  obtain ⟨j,_,f,b,d⟩:=gN h;obtain ⟨e,rfl⟩:=py b;exact ⟨some j,⟨by omega,e,λq a=>kT (d q (by omega) a)⟩,rfl⟩
def Crs(code:List zf)(l m:Nat):Prop:=∃i a,code[l]? =some i/\i.Op=20/\code[m]? =some a/\a.Op=20/\(l:Int)-i.D<=m/\(m:Int)-a.D<l-i.D
def Cr(code:List zf)(l:Nat):Prop:=∃m,m<l/\Crs code l m
theorem xx(h:E[n]? =some i)(a:i.Op=20):qW E q n=true↔(n:Int)-i.D<=q/\q<=n:=by
 grind [qW]
theorem ue{l:List qy}(b:l.Pairwise (λI J=>I.At<J.At))(e:l[q]? =some I)(f:l[n]? =some J):I.At<J.At↔q<n:=by
 obtain ⟨c,rfl⟩:=zes.1 e;obtain ⟨d,rfl⟩:=zes.1 f;constructor
 ·intro h;rcases Nat.lt_trichotomy q n with a|a|a
  ·exact a
  ·subst a;omega
  ·have:=List.pairwise_iff_getElem.1 b n q d c a;omega
 ·intro h;exact List.pairwise_iff_getElem.1 b q n c d h
theorem Au{a:Type}{x:List a}(h:q<=x.length):cut x 0 (q:Int)=some (x.take q):=by
 grind [cut]
theorem NS(hn:E.length<=64)(hD:Aq E):
  ∃o,NR (Cr E) E.length o/\jM (fG (lps E E.length)) (λ_=>(.inl ())) (lps E E.length).length 0 ()=some (Ap (o.map λ(l:Nat)=>((l:Int),(31:Int)))):=by
 have O:=(wH E E.length).1;have hl:=Ar E E.length;generalize hls:lps E E.length=b at O hl |-
 have mem:∀{l:qy},l∈b↔∃q i,q<E.length/\E[q]? =some i/\i.Op=20/\l=jG i q:=by
  grind [oF]
 have main:jM (fG b) (λ_=>(.inl ())) b.length 0 ()=some (Ap (fC (λk=>match b[k]? with|some l=>pick (Cr E l.At.toNat) (l.At,(31:Int))|none=>none) b.length 0)):=by
  refine rA _ (N:=b.length) ?_;intro k r F;have n:=zeg F;generalize hi:b[k]=x at n;obtain ⟨q,i,P,s,G,rfl⟩:=mem.1 (zmg n);unfold fG;have S:(b.take k).length=k:=by grind
  have inner:jM (iZ (jG i q) (b.take k)) (λ_=>(.inl ())) k 0 ()=some (Ap (fC (λm=>match b[m]? with|some l=>pick (Crs E q l.At.toNat) ((q:Int),(31:Int))|none=>none) k 0)):=by
   refine rA _ (N:=k) ?_;intro m r T;have t:m<b.length:=by omega
   have d:=zeg t;generalize I:b[m]=y at d
   have U:idx (b.take k) (m:Int)=some y:=by
    grind [J9]
   obtain ⟨a,c,J,f,p,rfl⟩:=mem.1 (zmg d);unfold iZ;simp only [U,d,zbs];have e:((jG c a).At).toNat=a:=by simp [jG]
   rw [e];by_cases u:Crs E q a
   ·rw [Fw u];obtain ⟨K,Q,w,_,R,_,c1,c2⟩:=u;rw [s] at w;cases w;rw [f] at R;cases R
    have:(decide ((jG c a).At>=(jG i q).Ui)&&decide ((jG c a).Ui<(jG i q).Ui))=true:=by
     have V:(jG c a).At=a:=rfl;have W:(jG i q).Ui=q-i.D:=rfl;have X:(jG c a).Ui=a-c.D:=rfl;simp only [V,W,X,zae,zdq];exact ⟨c1,c2⟩
    simp only [this];rfl
   ·rw [Fx u]
    have:(decide ((jG c a).At>=(jG i q).Ui)&&decide ((jG c a).Ui<(jG i q).Ui))=false:=by
     cases h:(decide ((jG c a).At>=(jG i q).Ui)&&decide ((jG c a).Ui<(jG i q).Ui)) with
     |false=>rfl
     |true=>
      exfalso;apply u
      have V:(jG c a).At=a:=rfl;have W:(jG i q).Ui=q-i.D:=rfl;have X:(jG c a).Ui=a-c.D:=rfl;simp only [V,W,X,zae,zdq] at h;exact ⟨i,c,s,G,f,p,h.1,h.2⟩
    grind
  simp only [J9 F,hi,n,zbs,Au (Nat.le_of_lt F),S,inner];have e:((jG i q).At).toNat=q:=by simp [jG]
  rw [e];cases z:fC (λm=>match b[m]? with|some l=>pick (Crs E q l.At.toNat) ((q:Int),(31:Int))|none=>none) k 0 with
  |some v=>
   obtain ⟨m,_,h2,L,_⟩:=gN z;have t:m<b.length:=by omega
   have d:=zeg t;rw [d] at L;obtain ⟨A,rfl⟩:=py L;have B:=(ue O d n).2 (by omega);obtain ⟨a,c,J,f,p,e'⟩:=mem.1 (zmg d);rw [e'] at A B;rw [Fw ⟨a,by grind [jG],by grind [jG]⟩];rfl
  |none=>
   have h0:=gO z;rw [Fx]
   ·rfl
   ·rintro ⟨m,T,A⟩;obtain ⟨K,Q,w,_,R,e4,c1,c2⟩:=id A;have M:=mem.2 ⟨m,Q,by omega,R,e4,rfl⟩;obtain ⟨j,I,C⟩:=w7.1 M;have d:=zeg I;rw [C] at d;have B:=(ue O d n).1 (by grind [jG])
    grind [kT,jG]
 cases z:fC (λk=>match b[k]? with|some l=>pick (Cr E l.At.toNat) (l.At,(31:Int))|none=>none) b.length 0 with
 |none=>
  refine ⟨none,λq P u=> ?_,by rw [main,z];rfl⟩;obtain ⟨m,T,K,Q,w,Y,_⟩:=id u;obtain ⟨j,I,C⟩:=w7.1 (mem.2 ⟨q,K,P,w,Y,rfl⟩);have:=gO z j (by omega) (by omega)
  grind [kT,jG]
 |some v=>
  obtain ⟨k,_,h2,L,h4⟩:=gN z;have F:k<b.length:=by omega
  have n:=zeg F;rw [n] at L;obtain ⟨u,rfl⟩:=py L;obtain ⟨q,i,P,s,G,e⟩:=mem.1 (zmg n);refine ⟨some q,⟨P,?_,λa J Z=> ?_⟩,?_⟩
  ·grind [jG]
  ·obtain ⟨m,T,K,Q,w,Y,_⟩:=id Z;obtain ⟨j,I,C⟩:=w7.1 (mem.2 ⟨a,K,by omega,w,Y,rfl⟩);have d:=zeg I;have B:=(ue O d n).1 (by grind [jG])
   grind [kT,jG]
  ·rw [main,z,e];rfl
def En(code:List zf)(p:Nat):Prop:=∃i,code[p]? =some i/\(jr i).2.1=true/\0<(jr i).1/\∃a b t,a<code.length/\code[a]? =some b/\b.Op=20/\(t:Nat)=(p:Int)+(jr i).1/\qW code t a=true/\qW code p a=false/\(t:Int)≠a-b.D
theorem NT(R:E.length<=64)(S:Aq E):
  jM (kb E (lps E E.length)) (λ_=>(.inl ())) E.length 0 ()=some (Ap (fC (λp=>pick (En E p) ((p:Int),(31:Int))) E.length 0)):=by
 refine rA _ (N:=E.length) ?_;intro p b z;have o:=zeg z;generalize J:E[p]=x at o;have T:=wG x;have K:w64 ((p:Int)+(jr x).1)=p+(jr x).1:=qe (by omega) (by omega);have hl:=Ar E E.length
 have inner:jM (ka (lps E E.length) p (jr x)) (λ_=>(.inl ())) (lps E E.length).length 0 ()=
   some (Ap (fC (λk=>match (lps E E.length)[k]? with|some l=>pick ((jr x).2.1=true/\0<(jr x).1/\¬ (l.Ui<=p/\(p:Int)<=l.At)/\(l.Ui<=p+(jr x).1/\p+(jr x).1<=l.At)/\p+(jr x).1≠l.Ui) ((p:Int),(31:Int))|none=>none) (lps E E.length).length 0)):=by
  refine rA _ (N:=(lps E E.length).length) ?_;intro k b n;have c:=zeg n;generalize r:(lps E E.length)[k]=y at c;unfold ka;simp only [J9 n,r,c,zbs,oB,K]
  grind [jr,Fw,Fx]
 unfold kb;simp only [J9 z,J,zbs,nF,inner];cases A:fC (λk=>match (lps E E.length)[k]? with|some l=>pick ((jr x).2.1=true/\0<(jr x).1/\¬ (l.Ui<=p/\(p:Int)<=l.At)/\(l.Ui<=p+(jr x).1/\p+(jr x).1<=l.At)/\p+(jr x).1≠l.Ui) ((p:Int),(31:Int))|none=>none) (lps E E.length).length 0 with
 |some v=>
  obtain ⟨k,_,U,B,_⟩:=gN A;have n:k<(lps E E.length).length:=by omega
  have c:=zeg n;rw [c] at B;obtain ⟨⟨s,c2,C,D,F⟩,rfl⟩:=py B;obtain ⟨q,i,L,d,h,e⟩:=oF.1 (zmg c);rw [e] at C D F;simp only [jG] at C D F;have G:0<=(p:Int)+(jr x).1:=by omega
  have u:qW E p q=false:=by
   grind [qW,xx]
  have M:En E p:=⟨x,o,s,c2,q,i,((p:Int)+(jr x).1).toNat,L,d,h,by omega,(xx d h).2 (by omega),u,by omega⟩
  rw [Fw M];rfl
 |none=>
  have O:=gO A;rw [Fx]
  ·rfl
  ·rintro ⟨V,f,s,c2,a,I,t,P,m,h,W,v1,X,Y⟩;rw [o] at f;cases f;obtain ⟨j,r,w⟩:=w7.1 (oF.2 ⟨a,I,P,m,h,rfl⟩:jG I a∈lps E E.length);have:=O j (by omega) (by omega);rw [zeg r,w] at this;refine kT this ⟨s,c2,?_,?_,?_⟩
   ·intro Q;simp only [jG] at Q
    grind [xx]
   ·have:=(xx m h).1 v1
    grind [jG]
   grind [jG]
def cW(code:List zf)(p:Nat):Nat->Int
 |0=>1
 |k+1=>match code[k]? with
  |some i=>if qW code p k then cW code p k*(i.TJ+1) else cW code p k
  |none=>cW code p k
def wr(code:List zf):Nat->Int
 |0=>0
 |k+1=>wr code k+cW code k code.length
theorem Iw(a:E[n]? =some i)(h:qW E q n=true):i.Op=20:=by
 grind [qW]
theorem pz{code:List zf}(h:Aq code)(p:Nat):∀k,1<=cW code p k
 |0=>by simp [cW]
 |k+1=>by
  have a:=pz h p k;unfold cW;split
  ·rename_i i b
   split
   ·rename_i c
    have d:=h.loop b (Iw b c);have:1*1<=cW code p k*(i.TJ+1):=Int.mul_le_mul a (by omega) (by omega) (by omega);omega
   ·exact a
  ·exact a
theorem uf{code:List zf}(h:Aq code):∀k:Nat,(k:Int)<=wr code k
 |0=>by simp [wr]
 |k+1=>by
  have:=uf h k;have a:=pz h k code.length;unfold wr;omega
theorem Ix(code:List zf)(k:Nat):wr code (k+1)=wr code k+cW code k code.length:=rfl
def mn(x:Int):Int:=if x<=257 then x else 257
theorem P9(d:1<=a)(c:1<=b):mn (mn a*b)=mn (a*b):=by
 unfold mn;by_cases h:a<=257
 ·rw [d7 h]
 ·rw [d8 h];have e:257*1<=257*b:=Int.mul_le_mul_of_nonneg_left c (by decide);have f:258*1<=a*b:=Int.mul_le_mul (by omega) c (by decide) (by omega)
  grind
theorem Qa(h:0<=a)(c:0<=b):mn (mn a+mn b)=mn (a+b):=by
 grind [mn]
theorem Iy(x:Int):nM x 257=mn x:=by grind [nM,mn]
theorem KZ(x:Int):mn x<=257/\mn x<=x:=by grind [mn]
def nP(p:Int):List qy->Int->Int
 |[],s=>s
 |l::r,s=>nP p r (if decide (p>=l.Ui)&&decide (p<=l.At) then s*(l.Uz+1) else s)
theorem fV(p:Int)(l:List qy):∀(a:List qy)(s:Int),nP p (a++l) s=nP p l (nP p a s)
 |[],s=>rfl
 |x::r,s=>by simp only [Sv,nP];exact fV p l r _
theorem ug(code:List zf)(p:Nat):∀k,nP p (lps code k) 1=cW code p k
 |0=>rfl
 |k+1=>by
  have i:=ug code p k;unfold lps cW
  grind [fV,nP,jG,qW,xx]
theorem Ro(y:E.length<=64)(j:Aq E)(p:Nat):
  jM (mE (lps E E.length) p) (λ(s:Int)=>s) (lps E E.length).length 0 1=some (mn (cW E p E.length)):=by
 have a:∀(k:Nat)(l:qy),(lps E E.length)[k]? =some l->1<=l.Uz/\l.Uz<=255:=by
  intro k l hl;obtain ⟨q,i,_,m,n,rfl⟩:=oF.1 (zmg hl);have:=j.loop m n
  grind [jG]
 rw [<- ug E p E.length];generalize lps E E.length=c at a;refine OK.is ?_;refine i7 (λ(i:Nat)(s:Int)=>s=mn (nP p (c.take i) 1)/\1<=nP p (c.take i) 1) ⟨by simp [nP,mn],by simp [nP]⟩ ?_ (λs h=>by rw [h.1];simp);intro i s d o ⟨z,r⟩ k;unfold mE;refine g9 (j4 o (λx e=> ?_));have A:=a i x e
 have b:c.take (i+1)=c.take i++[x]:=by
  rw [yc,e];rfl
 simp only [oB,zbs];have t:=KZ (nP p (c.take i) 1);have u:1<=s:=by grind [mn]
 refine d5 (λf=> ?_) (λf=> ?_)
 ·have v:w64 (x.Uz+1)=x.Uz+1:=qe (by omega) (by omega);have B:s*(x.Uz+1)<=257*256:=Int.mul_le_mul (by omega) (by omega) (by omega) (by omega);have C:0<=s*(x.Uz+1):=Int.mul_nonneg (by omega) (by omega);have w:w64 (s*(x.Uz+1))=s*(x.Uz+1):=qe (by omega) (by omega);rw [v,w,Iy];refine k _ ⟨?_,?_⟩
  ·grind [fV,nP,P9]
  ·rw [b,fV];simp only [nP,f,s7];have:1*1<=nP p (c.take i) 1*(x.Uz+1):=Int.mul_le_mul r (by omega) (by omega) (by omega);omega
 grind [fV,nP]
theorem K0(c:E.length<=64)(a:Aq E):mF E=some (mn (wr E E.length)):=by
 unfold mF;rw [As c a];simp only [zbs];refine OK.is ?_;refine d6 (R:=λy=>y=mn (wr E E.length)) ?_ (λx d=>b9 d);refine i7 (λ(i:Nat)(s:Int)=>s=mn (wr E i)) (by simp [wr,mn]) ?_ (λs h=>h);intro i s b f e k;subst e;unfold sb;rw [Ro c a i];simp only [zbs];have j:=KZ (cW E i E.length);have l:=KZ (wr E i);have m:=pz a i E.length;have n:=uf a i;have p:1<=mn (cW E i E.length):=by grind [mn]
 grind [mn,wr,qe,Iy,Ix,Qa]
open Go.Sx
structure uZ (code:List zf):Prop where
 n1:1<=code.length
 Vi:code.length<=64
 TX:Aq code
 cr:∀l,l<code.length->¬ Cr code l
 en:∀p,p<code.length->¬ En code p
 Vz:wr code code.length<=256
theorem Gu(h:E.length<=64)(a:Aq E):
  ∃o,NR (Cr E) E.length o/\hU E=some (match o with|some l=>((l:Int),31)|none=>(fC (λp=>pick (En E p) ((p:Int),(31:Int))) E.length 0).getD (0,0)):=by
 obtain ⟨o,b,c⟩:=NS h a;refine ⟨o,b,?_⟩;unfold hU;rw [As h a];simp only [zbs,c,NT h a];cases o with
 |some l=>rfl
 |none=>cases fC (λp=>pick (En E p) ((p:Int),(31:Int))) E.length 0<;>rfl
theorem ub(code:List zf):∃r,fk code=some r/\(r.1=0\/0<=r.1/\r.1<code.length)/\(r.2=0->r.1=0/\uZ code)/\(uZ code->r.2=0):=by
 unfold fk;by_cases q:code.length=0
 ·refine ⟨(0,10),?_,.inl rfl,by simp,λh=>by have:=h.n1;omega⟩;simp [q]
 ·have s:((code.length:Int)==0)=false:=by simp;exact λh=>q (by simp [h])
  by_cases y:64<code.length
  ·have k:decide ((code.length:Int)>64)=true:=by simp;omega
   refine ⟨(0,11),?_,.inl rfl,by simp,λh=>by have:=h.Vi;omega⟩;simp only [s,k];rfl
  ·have k:decide ((code.length:Int)>64)=false:=by simp;omega
   have c:code.length<=64:=by omega
   simp only [s,k,Iu code c,zbs];cases d:fC (fI code) code.length 0 with
   |some v=>
    obtain ⟨j,_,z,b,_⟩:=gN d
    have a:v.2≠0/\v.1=j:=by
     unfold fI at b;split at b
     ·split at b
      ·cases b
      ·rename_i t;cases b;exact ⟨t,rfl⟩
     ·cases b
    refine ⟨v,?_,.inr ⟨by rw [a.2];omega,by rw [a.2];omega⟩,λh=>absurd h a.1,λh=> ?_⟩
    ·have:(v.2 !=0)=true:=by simpa using a.1
     simp [this]
    ·rw [Iv h.TX] at d;cases d
   |none=>
    have m:=NQ d;obtain ⟨o,e,u⟩:=Gu c m;simp only [u,zbs,Option.getD_none];cases o with
    |some l=>
     have:=e.1;refine ⟨((l:Int),31),by simp,.inr ⟨by simp,by simpa using this⟩,by simp,λh=>absurd e.2.1 (h.cr l e.1)⟩
    |none=>
     obtain ⟨p,f,w⟩:=DQ (X:=En code) (n:=code.length) (v:=λp=>((p:Int),(31:Int)));rw [w];cases p with
     |some l=>
      have:=f.1;exact ⟨((l:Int),31),by simp,.inr ⟨by simp,by simpa using this⟩,by simp,λh=>absurd f.2.1 (h.en l f.1)⟩
     |none=>
      simp only [K0 c m,zbs,Option.map_none,Option.getD_none];have x:=KZ (wr code code.length);by_cases i:mn (wr code code.length)>256
      ·refine ⟨(0,32),by simp [i],.inl rfl,by simp,λh=> ?_⟩;have:=h.Vz;omega
      ·refine ⟨(0,0),by simp [i],.inl rfl,λ_=>⟨rfl,⟨by omega,c,m,e,f,?_⟩⟩,λ_=>rfl⟩;unfold mn at i;split at i<;>omega
theorem Gv(h:uZ E):fk E=some (0,0):=by
 obtain ⟨r,d,_,e,f⟩:=ub E;have:=f h;have c:=(e this).1;rw [d];obtain ⟨a,b⟩:=r;simp only at this c;subst this;subst c;rfl
theorem wF(h:uZ E):kM E=some (lps E E.length,0):=by
 unfold kM;rw [Gv h];simp [As h.Vi h.TX]
open Go.Sx
def rem(code:List zf)(back:Nat->Int)(a:Nat):Int:=match code[a]? with
 |some i=>i.TJ-back a
 |none=>0
def val(code:List zf)(back:Nat->Int)(q p:Nat):Nat->Int
 |0=>if q<=p then 1 else 0
 |k+1=>
  if qW code p k then
   (if qW code q k then val code back q p k+rem code back k*cW code p k else val code back q p k*(rem code (λ_=>0) k+1))
  else val code back q p k
theorem rH(h:n<E.length):cW E q (n+1)=if qW E q n then cW E q n*(rem E (λ_=>0) n+1) else cW E q n:=by
 grind [cW,qW,rem]
theorem cY(code:List zf)(back:Nat->Int)(q p k:Nat):val code back q p (k+1)=
  if qW code p k then
   (if qW code q k then val code back q p k+rem code back k*cW code p k else val code back q p k*(rem code (λ_=>0) k+1))
  else val code back q p k:=rfl
def Fit(code:List zf)(back:Nat->Int):Prop:=∀(a:Nat)(i:zf),code[a]? =some i->i.Op=20->0<=back a/\back a<=i.TJ
section
variable {code:List zf} (g:uZ code) {back back':Nat->Int}
include g
theorem iO{a:Nat}{p:Nat}(h:qW code p a=true):∃i,code[a]? =some i/\i.Op=20/\(a:Int)-i.D<=p/\p<=a/\1<=i.D/\1<=i.TJ/\a<code.length/\i.D<=a:=by
 unfold qW at h;split at h
 ·rename_i i b
  simp only [zae,w6,zdq] at h;have:=g.TX.loop b h.1.1
  grind
 ·cases h
theorem kZ{a:Nat}(b:Fit code back){p:Nat}(h:qW code p a=true):0<=rem code back a/\rem code back a<=rem code (λ_=>0) a/\1<=rem code (λ_=>0) a:=by
 obtain ⟨i,c,d,_,_,_,e,_⟩:=iO g h;have:=b a i c d
 grind [rem]
theorem Oc{a:Nat}{p b:Nat}(m:qW code p a=true)(n:qW code p b=true)(c:a<b):∀q,qW code q a=true->qW code q b=true:=by
 intro q o;obtain ⟨i,e,r,t,u,v,w,x,y⟩:=iO g m;obtain ⟨f,j,k,z,A,B,C,s,E⟩:=iO g n;obtain ⟨F,l,G,I,J,_⟩:=iO g o;rw [e] at l;cases l;refine (xx j k).2 ⟨?_,by omega⟩;have d:=g.cr b s;rcases Int.lt_or_le ((a:Int)-i.D) (b-f.D) with h|h
 ·exact absurd ⟨a,c,f,i,j,k,e,r,by omega,h⟩ d
 ·omega
theorem gP(p k:Nat):1<=cW code p k:=pz g.TX p k
theorem nG(a:Fit code back)(q p:Nat):∀k,k<=code.length->(if q<=p then 1 else 0)<=val code back q p k:=by
 intro k
 induction k with
 |zero=>intro _;exact w8 _
 |succ k i=>
  intro d;have i:=i (by omega);rw [cY];have b:(0:Int)<=if q<=p then 1 else 0:=by split<;>omega
  generalize (if q<=p then (1:Int) else 0)=z at i b;by_cases h:qW code p k=true
  ·rw [d7 h];have c:=kZ g a h;split
   ·have:0<=rem code back k*cW code p k:=Int.mul_nonneg c.1 (by have:=gP g p k;omega);omega
   ·have:val code back q p k*1<=val code back q p k*(rem code (λ_=>0) k+1):=Int.mul_le_mul_of_nonneg_left (by omega) (by omega);omega
  grind
theorem I6{q:Nat}{p:Nat}:∀k,k<=code.length->val code (λ_=>0) q p k<=cW code p k:=by
 intro k
 induction k with
 |zero=>intro _;simp only [val,cW];split<;>omega
 |succ k b=>
  intro f;have b:=b (by omega);rw [cY,rH (by omega)];split
  ·rename_i h
   have c:Fit code (λ_=>0):=λa i d e=>by have:=g.TX.loop d e;exact ⟨w8 _,by simp only;omega⟩
   have j:=kZ g c h;have l:=gP g p k;split
   ·grind
   ·exact SM b (by omega)
  ·exact b
theorem Od{q:Nat}(e:Fit code back){t p:Nat}(s:q<t)(u:∀a,qW code t a=true->qW code q a=true\/∃i,code[a]? =some i/\(t:Int)=a-i.D)(v:∀a,qW code t a=true->back' a=back a/\0<=back' a)(F:p<code.length):
  val code back' t p code.length+(if q=p then 1 else 0)<=val code back q p code.length:=by
 by_cases f:t<=p
 ·
  have j:¬ q=p:=by omega
  rw [d8 j]
  have main:∀k,k<=code.length->val code back' t p k<=val code back q p k/\((∀a,a<k->qW code p a=true->qW code q a=false)->val code back q p k=cW code p k):=by
   intro k
   induction k with
   |zero=>intro _;simp only [val,cW];rw [d7 f,d7 (by omega)];exact ⟨w8 _,λ_=>rfl⟩
   |succ k r=>
    intro w;obtain ⟨x,y⟩:=r (by omega);rw [cY,cY,rH (by omega)];by_cases b:qW code p k=true
    ·rw [d7 b,d7 b,d7 b];have z:=kZ g e b;have A:=gP g p k;have l:=nG g e q p k (by omega);rw [d7 (by omega)] at l;by_cases B:qW code q k=true
     ·grind [iO,qW,xx,rem]
     ·have m:qW code q k=false:=by simpa using B
      simp only [m,zfe,ya]
      have h:∀a,a<k->qW code p a=true->qW code q a=false:=by
       grind [qW,Oc]
      have c:=y h;by_cases d:qW code t k=true
      ·rw [d7 d];refine ⟨?_,λ_=>by rw [c]⟩;have C:=v k d
       have n:rem code back' k<=rem code (λ_=>0) k:=by
        grind [iO,rem]
       have:rem code back' k*cW code p k<=rem code (λ_=>0) k*cW code p k:=SM n (by omega);rw [c,Int.mul_add,Int.mul_one,Int.mul_comm (cW code p k)];omega
      ·rw [d8 d];exact ⟨SM x (by omega),λ_=>by rw [c]⟩
    grind
  grind
 ·
  have E:p<t:=by omega
  have o:∀a,qW code p a=true->qW code t a=true->qW code q a=true:=by
   grind [iO]
  have main:∀k,k<=code.length->(val code back' t p k+(if q=p then 1 else 0)<=val code back q p k/\(∃a,a<k/\qW code p a=true/\qW code t a=true))\/
    (val code back' t p k=0/\∀a,a<k->qW code p a=true->qW code t a=false):=by
   intro k
   induction k with
   |zero=>intro _;right;simp only [val];rw [d8 (by omega)];exact ⟨rfl,λa G=>by omega⟩
   |succ k r=>
    intro w;rw [cY,cY];by_cases b:qW code p k=true
    ·rw [d7 b,d7 b];have z:=kZ g e b;have A:=gP g p k;have l:=nG g e q p k (by omega)
     grind [qW,rem,iO,Oc]
    grind
  have l:=nG g e q p code.length (m6 _)
  grind
theorem Lt{a:Nat}(E:Fit code back){h p:Nat}{i:zf}(e:code[a]? =some i)(l:i.Op=20)(V:(h:Int)=a-i.D)(W:back' a=back a+1)(F:∀b,b≠a->back' b=back b)(A:back a<i.TJ)(X:p<code.length):
  val code back' h p code.length+(if a=p then 1 else 0)<=val code back a p code.length:=by
 have Y:=g.TX.loop e l;have w:=(zes.1 e).1;have o:qW code a a=true:=(xx e l).2 ⟨by omega,by omega⟩;have q:qW code h a=true:=(xx e l).2 ⟨by omega,by omega⟩
 have r:∀b,b≠a->rem code back' b=rem code back b:=by
  grind [rem]
 by_cases f:h<=p/\p<=a
 ·have c:qW code p a=true:=(xx e l).2 ⟨by omega,by omega⟩
  have low:∀k,k<=a->val code back a p k=(if a<=p then 1 else 0)*cW code p k/\val code back' h p k<=cW code p k:=by
   intro k
   induction k with
   |zero=>intro _;simp only [val,cW];rw [d7 f.1];simp
   |succ k v=>
    intro G;obtain ⟨I,J⟩:=v (by omega);rw [cY,cY,rH (by omega)];by_cases d:qW code p k=true
    ·rw [d7 d,d7 d,d7 d];have K:=kZ g E d;have L:=gP g p k
     have s:¬ qW code a k=true:=by
      grind [iO]
     rw [d8 s,I,Int.mul_assoc];refine ⟨rfl,?_⟩;split
     ·rw [r k (by omega)];have:rem code back k*cW code p k<=rem code (λ_=>0) k*cW code p k:=SM K.2.1 (by omega)
      grind
     ·exact SM J (by omega)
    grind
  have high:∀n,a+1+n<=code.length->val code back' h p (a+1+n)+(if a=p then 1 else 0)<=val code back a p (a+1+n):=by
   intro n
   induction n with
   |zero=>
    intro _;obtain ⟨M,Z⟩:=low a (m6 _);rw [Nat.add_zero,cY,cY,d7 c,d7 c,d7 o,d7 q,M];have L:=gP g p a;have N:rem code back' a=rem code back a-1:=by grind [rem]
    rw [N,Int.sub_mul,Int.one_mul]
    grind
   |succ n v=>
    grind [cY,qW,Oc]
  have:=high (code.length-(a+1)) (by omega)
  rwa [show a+1+(code.length-(a+1))=code.length by omega] at this
 ·have x:¬ a=p:=by omega
  rw [d8 x]
  have B:∀k,k<=code.length->val code back' h p k=val code back a p k:=by
   intro k
   induction k with
   |zero=>intro _;simp only [val];by_cases O:h<=p<;>by_cases P:a<=p<;>simp [O,P]<;>omega
   |succ k v=>
    intro G;rw [cY,cY,v (by omega)];by_cases d:qW code p k=true
    ·rw [d7 d,d7 d];obtain ⟨y,m,c2,c3,c4,c5,c6,Q,c8⟩:=iO g d
     have s:k≠a:=by
      grind
     have C:qW code h k=qW code a k:=by
      rw [Bool.eq_iff_iff];constructor
      ·intro j;obtain ⟨R,t,S,T,U,_⟩:=iO g j;rw [m] at t;cases t;rcases Nat.lt_or_ge k a with u|u
       ·
        exfalso
        exact g.cr a w ⟨k,u,i,y,e,l,m,c2,by omega,by omega⟩
       ·exact (xx m c2).2 ⟨by omega,by omega⟩
      ·intro j;obtain ⟨R,t,S,T,U,_⟩:=iO g j;rw [m] at t;cases t;have z:a<k:=by omega
       refine (xx m c2).2 ⟨?_,by omega⟩;rcases Int.lt_or_le ((a:Int)-i.D) (k-y.D) with u|u
       ·exact absurd ⟨a,z,y,i,m,c2,e,l,by omega,u⟩ (g.cr k Q)
       ·omega
     grind
    grind
  grind
end
def pot(code:List zf)(back:Nat->Int)(q:Nat):Nat->Int
 |0=>0
 |p+1=>pot code back q p+val code back q p code.length
theorem FM(a:q<E.length)(h:∀p,p<E.length->val E L N p E.length+(if q=p then 1 else 0)<=val E K q p E.length):
  pot E L N E.length+1<=pot E K q E.length:=by
 have main:∀n,n<=E.length->pot E L N n+(if q<n then 1 else 0)<=pot E K q n:=by
  intro n
  induction n with
  |zero=>intro _;simp [pot]
  |succ n i=>
   grind [pot]
 grind
theorem I7(g:uZ E):pot E (λ_=>0) q E.length<=wr E E.length:=by
 have main:∀n,n<=E.length->pot E (λ_=>0) q n<=wr E n:=by
  intro n
  induction n with
  |zero=>intro _;simp [pot,wr]
  |succ n i=>
   intro h;have:=i (by omega);have a:=I6 g (q:=q) (p:=n) E.length (m6 _)
   grind [pot,wr]
 grind
theorem Oe(g:uZ E)(a:Fit E K)(b:q<E.length):1<=pot E K q E.length:=by
 have main:∀n,n<=E.length->(if q<n then 1 else 0)<=pot E K q n:=by
  intro n
  induction n with
  |zero=>intro _;simp [pot]
  |succ n i=>
   intro c;have:=i (by omega);have h:=nG g a q n E.length (m6 _);simp only [pot];by_cases e:q<=n
   ·rw [d7 e] at h;rw [d7 (by omega)];split at this<;>omega
   ·rw [d8 e] at h;rw [d8 (by omega)];split at this<;>omega
 have:=main _ (m6 _)
 rwa [d7 b] at this
open Go.Sx
def SW(s:zh):Prop:=0<=s.Lo/\s.Lo<=s.Hi/\s.Hi<18446744073709551616
theorem tz(x:Int):xZ x=x%18446744073709551616:=rfl
theorem vd{x:Int}(h:0<=x)(a:x<18446744073709551616):xZ x=x:=by rw [tz];omega
theorem xe(x:Int):0<=xZ x/\xZ x<18446744073709551616:=by rw [tz];omega
theorem FU(x y:Int):wW .u64 x y=((BitVec.ofInt 64 x &&& BitVec.ofInt 64 y).toNat:Int)%18446744073709551616:=rfl
theorem Js(x y:Int):bOr .u64 x y=((BitVec.ofInt 64 x ||| BitVec.ofInt 64 y).toNat:Int)%18446744073709551616:=rfl
theorem FV(x y:Int):MY .u64 x y=((BitVec.ofInt 64 x ^^^ BitVec.ofInt 64 y).toNat:Int)%18446744073709551616:=rfl
theorem pO(x y:Int):wX .u64 x y=(x*2^(min y.toNat 64))%18446744073709551616:=rfl
theorem LS(x y:Int):iU .u64 x y=x.fdiv (2^(min y.toNat 64)):=rfl
theorem sC(h:0<=b)(a:b<18446744073709551616):(BitVec.ofInt 64 b).toNat=b.toNat:=by
 rw [BitVec.toNat_ofInt];omega
theorem FW(x:0<=b)(a:b<18446744073709551616)(c:0<=y)(d:y<18446744073709551616):wW .u64 b y=((b.toNat &&& y.toNat:Nat):Int):=by
 rw [FU,BitVec.toNat_and,sC x a,sC c d];have:b.toNat &&& y.toNat<=b.toNat:=Nat.and_le_left;omega
theorem Jt(x:0<=b)(a:b<18446744073709551616)(c:0<=y)(d:y<18446744073709551616):bOr .u64 b y=((b.toNat ||| y.toNat:Nat):Int):=by
 have h:(BitVec.ofInt 64 b ||| BitVec.ofInt 64 y).toNat<2^64:=BitVec.isLt _;rw [Js,Int.emod_eq_of_lt (by omega) (by omega),BitVec.toNat_or,sC x a,sC c d]
theorem LU(x:0<=b)(a:b<18446744073709551616)(c:0<=y)(d:y<18446744073709551616):MY .u64 b y=((b.toNat ^^^ y.toNat:Nat):Int):=by
 have h:(BitVec.ofInt 64 b ^^^ BitVec.ofInt 64 y).toNat<2^64:=BitVec.isLt _;rw [FV,Int.emod_eq_of_lt (by omega) (by omega),BitVec.toNat_xor,sC x a,sC c d]
theorem EA{x:Int}(a:0<=x)(b:x<18446744073709551616)(c:0<=y)(d:y<18446744073709551616):x<=bOr .u64 x y/\y<=bOr .u64 x y/\bOr .u64 x y<18446744073709551616:=by
 have h:(BitVec.ofInt 64 x ||| BitVec.ofInt 64 y).toNat<2^64:=BitVec.isLt _;rw [BitVec.toNat_or,sC a b,sC c d] at h;rw [Jt a b c d];have e:x.toNat<=x.toNat ||| y.toNat:=Nat.left_le_or
 have f:y.toNat<=x.toNat ||| y.toNat:=Nat.right_le_or
 omega
theorem EB(x y:Int):0<=wW .u64 x y/\wW .u64 x y<18446744073709551616:=by rw [FU];omega
theorem CL(x y:Int):0<=bOr .u64 x y/\bOr .u64 x y<18446744073709551616:=by rw [Js];omega
theorem Ju(x y:Int):0<=MY .u64 x y/\MY .u64 x y<18446744073709551616:=by rw [FV];omega
theorem Jv(x y:Int):0<=wX .u64 x y/\wX .u64 x y<18446744073709551616:=by rw [pO];omega
theorem AZ(x:0<=b):iU .u64 b y=((b.toNat / 2^(min y.toNat 64):Nat):Int):=by
 rw [LS];obtain ⟨a,rfl⟩:=zof x;rw [Int.fdiv_eq_ediv_of_nonneg _ (by exact_mod_cast Nat.zero_le _)];simp
theorem EC(x:0<=b)(a:b<18446744073709551616):0<=iU .u64 b y/\iU .u64 b y<=b:=by
 rw [AZ x];have:=Nat.div_le_self b.toNat (2^(min y.toNat 64));generalize b.toNat / 2^(min y.toNat 64)=q at*
 omega
theorem A7(x:0<=b)(d:b<=y)(t:o<=a):iU .u64 b a<=iU .u64 y o:=by
 rw [AZ x,AZ (by omega)];have h:b.toNat / 2^(min a.toNat 64)<=y.toNat / 2^(min a.toNat 64):=Nat.div_le_div_right (by omega);have c:y.toNat / 2^(min a.toNat 64)<=y.toNat / 2^(min o.toNat 64):=Nat.div_le_div_left (Nat.pow_le_pow_right (by omega) (by omega)) (Nat.pow_pos (by omega))
 exact_mod_cast p9 h c
theorem fE(h:0<=y):nn y=some ():=by unfold nn;rw [d8 (by omega)]
theorem ng(h:y≠0):nz y=some ():=by unfold nz;rw [d8 h]
def uJ:ByteArray:=⟨[0,1,2,2,3,3,3,3,4,4,4,4,4,4,4,4,5,5,5,5,5,5,5,5,5,5,5,5,5,5,5,5,6,6,6,6,6,6,6,6,6,6,6,6,6,6,6,6,6,6,6,6,6,6,6,6,6,6,6,6,6,6,6,6,7,7,7,7,7,7,7,7,7,7,7,7,7,7,7,7,7,7,7,7,7,7,7,7,7,7,7,7,7,7,7,7,7,7,7,7,7,7,7,7,7,7,7,7,7,7,7,7,7,7,7,7,7,7,7,7,7,7,7,7,7,7,7,7,8,8,8,8,8,8,8,8,8,8,8,8,8,8,8,8,8,8,8,8,8,8,8,8,8,8,8,8,8,8,8,8,8,8,8,8,8,8,8,8,8,8,8,8,8,8,8,8,8,8,8,8,8,8,8,8,8,8,8,8,8,8,8,8,8,8,8,8,8,8,8,8,8,8,8,8,8,8,8,8,8,8,8,8,8,8,8,8,8,8,8,8,8,8,8,8,8,8,8,8,8,8,8,8,8,8,8,8,8,8,8,8,8,8,8,8,8,8,8,8,8,8,8,8,8,8,8,8].toArray⟩
theorem Si:∀c:Nat,c<256->∃k:Nat,k<=8/\c<2^k/\(c=0->k=0)/\(0<c->2^(k-1)<=c)/\wd uJ (c:Int)=some (k:Int):=by
 have h:∀c:Fin 256,∃k:Fin 9,(c:Nat)<2^(k:Nat)/\((c:Nat)=0->(k:Nat)=0)/\(0<(c:Nat)->2^((k:Nat)-1)<=(c:Nat))/\wd uJ ((c:Nat):Int)=some ((k:Nat):Int):=by decide+kernel
 intro c a;obtain ⟨k,b,d,e,f⟩:=h ⟨c,a⟩;exact ⟨k,by omega,b,d,e,f⟩
theorem FX(s:Nat)(h:s<=64):iU .u64 (n:Int) (s:Int)=((n / 2^s:Nat):Int):=by
 rw [AZ (by omega)];have:min (s:Int).toNat 64=s:=by omega
 rw [this];simp
theorem OD(c s:Nat)(h:c<256)(l:s<=56):∃k:Nat,k<=8/\c<2^k/\(c=0->k=0)/\(0<c->2^(k-1)<=c)/\
  ((wd uJ (IntKind.u8.wrap (c:Int))).bind λa=>some (w64 ((s:Int)+(w64 a))))=some ((s+k:Nat):Int):=by
 obtain ⟨k,b,d,f,i,j⟩:=Si c h;refine ⟨k,b,d,f,i,?_⟩;have e:IntKind.u8.wrap (c:Int)=(c:Int):=by rw [IntKind.wrap_u8];omega
 rw [e,j];show some _=some _;rw [qe (x:=(k:Int)) (by omega) (by omega),qe (by omega) (by omega)];simp
set_option maxRecDepth 100000 in
theorem tA(D:n<18446744073709551616):∃k:Nat,k<=64/\gL (n:Int)=some (k:Int)/\n<2^k/\(n=0->k=0)/\(0<n->2^(k-1)<=n):=by
 have go:∀(c s:Nat),c<256->s<=56->c=n / 2^s->(s=0\/0<c)->∃k:Nat,k<=64/\((wd uJ (IntKind.u8.wrap (c:Int))).bind λa=>some (w64 ((s:Int)+(w64 a))))=some (k:Int)/\n<2^k/\(n=0->k=0)/\(0<n->2^(k-1)<=n):=by
  intro c s v j e d;obtain ⟨k,E,w,x,y,z⟩:=OD c s v j;have r:0<2^s:=Nat.pow_pos (by omega);refine ⟨s+k,by omega,z,?_,λt=> ?_,λt=> ?_⟩
  ·rw [Nat.pow_add,Nat.mul_comm];exact (Nat.div_lt_iff_lt_mul r).1 (by omega)
  ·subst t;rw [Nat.zero_div] at e;rcases d with d|d
   ·have:=x e;omega
   ·omega
  ·have l:0<c:=by
    rcases d with rfl|d
    ·simp at e;omega
    ·exact d
   have u:=y l
   have A:0<k:=by
    rcases yw k with rfl|u
    ·simp at w;omega
    ·exact u
   rw [show s+k-1=s+(k-1) by omega,Nat.pow_add,Nat.mul_comm];exact (Nat.le_div_iff_mul_le r).1 (by omega)
 show ∃k:Nat,k<=64/\((if decide ((n:Int)>=4294967296) then some (iU .u64 (n:Int) 32,(32:Int)) else some ((n:Int),0)).bind λf=>
  (if decide (f.1>=65536) then some (iU .u64 f.1 16,w64 (f.2+16)) else some (f.1,f.2)).bind λb=>
  (if decide (b.1>=256) then some (iU .u64 b.1 8,w64 (b.2+8)) else some (b.1,b.2)).bind λo=>
  (wd uJ (IntKind.u8.wrap o.1)).bind λa=>some (w64 (o.2+(w64 a))))=some (k:Int)/\_
 have p:iU .u64 (n:Int) 32=((n / 2^32:Nat):Int):=FX 32 (by omega);have q:∀m:Nat,iU .u64 (m:Int) 16=((m / 2^16:Nat):Int):=λm=>FX 16 (by omega)
 have B:∀m:Nat,iU .u64 (m:Int) 8=((m / 2^8:Nat):Int):=λm=>FX 8 (by omega)
 have last:∀m s:Nat,m<65536->s<=48->m=n / 2^s->(s=0\/0<m)->∃k:Nat,k<=64/\((if decide ((m:Int)>=256) then some (iU .u64 (m:Int) 8,w64 ((s:Int)+8)) else some ((m:Int),(s:Int))).bind λo=>
  (wd uJ (IntKind.u8.wrap o.1)).bind λa=>some (w64 (o.2+(w64 a))))=some (k:Int)/\n<2^k/\(n=0->k=0)/\(0<n->2^(k-1)<=n):=by
  intro m s C j e d;by_cases h:m>=256
  ·rw [d7 (by simp;omega),B,show w64 ((s:Int)+8)=((s+8:Nat):Int) by rw [qe (by omega) (by omega)];simp];exact go (m / 2^8) (s+8) (by omega) (by omega) (by rw [e,Nat.div_div_eq_div_mul,<- Nat.pow_add]) (.inr (by omega))
  ·rw [d8 (by simp;omega)];exact go m s (by omega) (by omega) e d
 have i:∀m s:Nat,m<4294967296->s<=32->m=n / 2^s->(s=0\/0<m)->∃k:Nat,k<=64/\((if decide ((m:Int)>=65536) then some (iU .u64 (m:Int) 16,w64 ((s:Int)+16)) else some ((m:Int),(s:Int))).bind λb=>
  (if decide (b.1>=256) then some (iU .u64 b.1 8,w64 (b.2+8)) else some (b.1,b.2)).bind λo=>
  (wd uJ (IntKind.u8.wrap o.1)).bind λa=>some (w64 (o.2+(w64 a))))=some (k:Int)/\n<2^k/\(n=0->k=0)/\(0<n->2^(k-1)<=n):=by
  intro m s C j e d;by_cases h:m>=65536
  ·rw [d7 (by simp;omega),q,show w64 ((s:Int)+16)=((s+16:Nat):Int) by rw [qe (by omega) (by omega)];simp];exact last (m / 2^16) (s+16) (by omega) (by omega) (by rw [e,Nat.div_div_eq_div_mul,<- Nat.pow_add]) (.inr (by omega))
  ·rw [d8 (by simp;omega)];exact last m s (by omega) (by omega) e d
 by_cases h:n>=4294967296
 ·rw [d7 (by simp;omega),p];exact i (n / 2^32) 32 (by omega) (by omega) rfl (.inr (by omega))
 ·rw [d8 (by simp;omega)];exact i n 0 (by omega) (by omega) (by simp) (.inl rfl)
end Go.Proofs.YtplmgfkghomelaaGreatDoor
