/- Lemmas. -/
import Derived.Test.YtplmgfkghomelaaGreatDoorKH1
set_option linter.all false
namespace Go.Proofs.YtplmgfkghomelaaGreatDoor
open Go.Sx
variable {p i:zf}{c j:Type}{b a o d m y c0 c2:Int}{x e:Bool}{v G:c}{f:jd}{q n N:Nat}{X:Prop}{z:j}{r:jd×Bool}{l:(Bool×zf)->Option (Bool×zf)}{C:Bool×zf}{h:Nat->(Unit->Option (Unit⊕c))->Unit->Option (Unit⊕c)}{D:Nat->Option c}{E:List zf}{I J:qy}{K L:Nat->Int}
def tW(n:Int):Bool:=decide (0<=n)&&decide (n<8)
def O9(i:zf):Bool:=i.B==8||(tW i.B&&i.Tm==0)
def inB(n l h:Int):Bool:=decide (l<=n)&&decide (n<=h)
def xb(i:zf):Bool:=
 if i.Op==0||i.Op==11 then tW i.D&&i.A==0&&O9 i
 else if inB i.Op 1 10 then tW i.D&&tW i.A&&O9 i
 else if i.Op==12 then i.D==0&&tW i.A&&O9 i
 else if i.Op==13 then tW i.D&&i.A==0&&i.B==0&&inB i.Tm 0 1
 else if i.Op==14 then tW i.D&&i.A==0&&i.B==0&&inB i.Tm 0 3
 else if i.Op==15 then inB i.D 0 63&&i.A==0&&i.B==0&&i.Tm==0
 else if inB i.Op 16 19 then inB i.D 0 63&&tW i.A&&O9 i
 else if i.Op==20 then inB i.D 1 63&&tW i.A&&i.B==0&&inB i.Tm 1 255
 else if i.Op==21 then i.D==0&&i.A==0&&i.B==0&&inB i.Tm 0 6
 else if i.Op==22 then i.D==0&&tW i.A&&i.B==0&&i.Tm==0
 else false
def eE(i:zf):Bool:=xb i&&inB i.Op 15 19
def lQ(i:zf):Bool:=xb i&&i.Op==20
def ju(i:zf):Int×Bool×Bool:=
 if eE i then (i.D+1,true,i.Op !=15)
 else if lQ i then (-i.D,true,true)
 else (0,false,xb i&&i.Op !=22)
theorem Ch(n:Int):n<0\/n>=23\/n=0\/n=1\/n=2\/n=3\/n=4\/n=5\/n=6\/n=7\/n=8\/n=9\/n=10\/n=11\/n=12\/n=13\/n=14\/n=15\/n=16\/n=17\/n=18\/n=19\/n=20\/n=21\/n=22:=by omega
theorem D8(n:Int):dW n=some (tW n):=rfl
theorem II(n l h:Int):cG n l h=some (inB n l h):=rfl
def mI(p:zf)(s:Bool×zf)(c:Int):Bool×zf:=
 if c==100 then (s.1&&tW p.D,⟨s.2.Op,0,s.2.A,s.2.B,s.2.Tm⟩)
 else if c==97 then (s.1&&tW p.A,⟨s.2.Op,s.2.D,0,s.2.B,s.2.Tm⟩)
 else if c==115 then (if p.B==8 then (s.1,⟨s.2.Op,s.2.D,s.2.A,0,0⟩) else (s.1&&tW p.B,⟨s.2.Op,s.2.D,s.2.A,0,s.2.Tm⟩))
 else if c==102 then (s.1&&inB p.Tm 0 1,⟨s.2.Op,s.2.D,s.2.A,s.2.B,0⟩)
 else if c==109 then (s.1&&inB p.Tm 0 3,⟨s.2.Op,s.2.D,s.2.A,s.2.B,0⟩)
 else if c==104 then (s.1&&inB p.Tm 0 6,⟨s.2.Op,s.2.D,s.2.A,s.2.B,0⟩)
 else if c==110 then (s.1&&inB p.Tm 1 255,⟨s.2.Op,s.2.D,s.2.A,s.2.B,0⟩)
 else if c==106 then (s.1&&inB p.D 0 63,⟨s.2.Op,0,s.2.A,s.2.B,s.2.Tm⟩)
 else if c==98 then (s.1&&inB p.D 1 63,⟨s.2.Op,0,s.2.A,s.2.B,s.2.Tm⟩)
 else s
theorem RK:mI p (x,⟨o,d,a,b,m⟩) 100=(x&&tW p.D,⟨o,0,a,b,m⟩):=rfl
theorem RL:mI p (x,⟨o,d,a,b,m⟩) 97=(x&&tW p.A,⟨o,d,0,b,m⟩):=rfl
theorem RM:mI p (x,⟨o,d,a,b,m⟩) 115=(if p.B==8 then (x,⟨o,d,a,0,0⟩) else (x&&tW p.B,⟨o,d,a,0,m⟩)):=rfl
theorem RN:mI p (x,⟨o,d,a,b,m⟩) 102=(x&&inB p.Tm 0 1,⟨o,d,a,b,0⟩):=rfl
theorem RP:mI p (x,⟨o,d,a,b,m⟩) 109=(x&&inB p.Tm 0 3,⟨o,d,a,b,0⟩):=rfl
theorem RR:mI p (x,⟨o,d,a,b,m⟩) 104=(x&&inB p.Tm 0 6,⟨o,d,a,b,0⟩):=rfl
theorem RS:mI p (x,⟨o,d,a,b,m⟩) 110=(x&&inB p.Tm 1 255,⟨o,d,a,b,0⟩):=rfl
theorem RT:mI p (x,⟨o,d,a,b,m⟩) 106=(x&&inB p.D 0 63,⟨o,0,a,b,m⟩):=rfl
theorem RU:mI p (x,⟨o,d,a,b,m⟩) 98=(x&&inB p.D 1 63,⟨o,0,a,b,m⟩):=rfl
theorem px{j c:Type}{d:j->Option c}{A B:Option c}{a b:j}(h:A=d a)(e:B=d b):(if x then A else B)=d (if x then a else b):=by
 grind
theorem tX{c:Type}{a:(Bool×j)->Option c}:(if x then a (e,z) else a (false,z))=a (x&&e,z):=by
 cases x<;>simp
theorem D9(h:uJ r.1.Tq (q:Int)=some b):
  iG p r q l C=l (mI p C b):=by
 unfold iG mI;simp only [h,zbs,D8,II];refine px tX ?_;refine px tX ?_;refine px (px rfl tX) ?_
 grind
def fin(x:Bool×zf):Bool:=x.1&&((x.2.Op==0)&&((x.2.D==0)&&((x.2.A==0)&&((x.2.B==0)&&(x.2.Tm==0)))))
theorem AB(a:eX p.Op=some (f,true))(b:f.Tq.size<=3)
  (h:jM (iG p (f,true)) (λ(s:Bool×zf)=>(s.1,s.2)) f.Tq.size 0 (true,{p with Op:=0})=some C):vQ p=some (fin C):=by
 have c:room f.Tq.size 1=some ():=by grind [room]
 unfold vQ fin
 grind
theorem Q7(h:eX p.Op=some (f,true))(a:f.Tq.size=1)(b:uJ f.Tq 0=some c0):
  vQ p=some (fin (mI p (true,{p with Op:=0}) c0)):=by
 grind [AB,jM,D9]
theorem QI{c0:Int}{c1:Int}(h:eX p.Op=some (f,true))(a:f.Tq.size=2)(b:uJ f.Tq 0=some c0)(c:uJ f.Tq 1=some c1):
  vQ p=some (fin (mI p (mI p (true,{p with Op:=0}) c0) c1)):=by
 refine AB h (by omega) ?_;rw [a];simp only [jM]
 grind [D9]
theorem Q8{c0:Int}{c1:Int}(h:eX p.Op=some (f,true))(a:f.Tq.size=3)(b:uJ f.Tq 0=some c0)(c:uJ f.Tq 1=some c1)(d:uJ f.Tq 2=some c2):
  vQ p=some (fin (mI p (mI p (mI p (true,{p with Op:=0}) c0) c1) c2)):=by
 refine AB h (by omega) ?_;rw [a];simp only [jM]
 grind [D9]
theorem fz(i:zf):vQ i=some (xb i):=by
 have c:=Ch i.Op;obtain ⟨op,d,a,b,m⟩:=i;simp only at c
 have out:op<0\/op>=23->vQ ⟨op,d,a,b,m⟩=some (xb ⟨op,d,a,b,m⟩):=by
  intro h;have e:eX op=some (⟨ByteArray.empty,ByteArray.empty⟩,false):=by unfold eX;rw [d8 (by simp;omega)]
  have k:∀k:Int,0<=k->k<=22->(op==k)=false:=by intro k n o;simp;omega
  have j:inB op 1 10=false:=by simp [inB];omega
  have l:inB op 16 19=false:=by simp [inB];omega
  have r:xb ⟨op,d,a,b,m⟩=false:=by
   unfold xb;simp only [k 0 (by decide) (by decide),k 11 (by decide) (by decide),k 12 (by decide) (by decide),k 13 (by decide) (by decide),k 14 (by decide) (by decide),k 15 (by decide) (by decide),k 20 (by decide) (by decide),k 21 (by decide) (by decide),k 22 (by decide) (by decide),j,l];rfl
  unfold vQ;rw [r];simp [e]
 rcases c with h|h|h|h|h|h|h|h|h|h|h|h|h|h|h|h|h|h|h|h|h|h|h|h|h
 ·exact out (.inl h)
 ·exact out (.inr h)
 all_goals subst h
 all_goals
  first
   |rw [QI (c0:=100) (c1:=115) rfl rfl rfl rfl]
   |rw [Q8 (c0:=100) (c1:=97) (c2:=115) rfl rfl rfl rfl rfl]
   |rw [QI (c0:=97) (c1:=115) rfl rfl rfl rfl]
   |rw [QI (c0:=100) (c1:=102) rfl rfl rfl rfl]
   |rw [QI (c0:=100) (c1:=109) rfl rfl rfl rfl]
   |rw [Q7 (c0:=106) rfl rfl rfl]
   |rw [Q8 (c0:=106) (c1:=97) (c2:=115) rfl rfl rfl rfl rfl]
   |rw [Q8 (c0:=98) (c1:=97) (c2:=110) rfl rfl rfl rfl rfl]
   |rw [Q7 (c0:=104) rfl rfl rfl]
   |rw [Q7 (c0:=97) rfl rfl rfl]
  congr 1
  simp only [RK,RL,RM,RN,RP,RR,RS,RT,RU,fin,xb,O9];cases f:(b==8)
  ·simp [f,inB]
   try (rw [Bool.eq_iff_iff];simp;constructor<;>intro h<;>simp_all;done)
  ·simp only [u4] at f;subst f;simp [inB]
   try (rw [Bool.eq_iff_iff];simp;constructor<;>intro h<;>simp_all;done)
theorem IJ(op:Int)(b:0<=op)(c:op<23):∃f,eX op=some (f,true)/\jw f 106=some (inB op 15 19)/\jw f 98=some (op==20):=by
 have a:=Ch op;rcases a with h|h|h|h|h|h|h|h|h|h|h|h|h|h|h|h|h|h|h|h|h|h|h|h|h
 ·omega
 ·omega
 all_goals subst h
 all_goals exact ⟨_,rfl,rfl,rfl⟩
theorem Ci(h:xb i=true):0<=i.Op/\i.Op<23:=by
 rcases Int.lt_or_le i.Op 0 with a|a
 ·exfalso
  have k:∀k:Int,0<=k->(i.Op==k)=false:=by grind
  unfold xb inB at h;simp only [k 0 (by decide),k 11 (by decide),k 12 (by decide),k 13 (by decide),k 14 (by decide),k 15 (by decide),k 20 (by decide),k 21 (by decide),k 22 (by decide)] at h
  grind
 ·refine ⟨a,?_⟩;rcases Int.lt_or_le i.Op 23 with b|b
  ·exact b
  ·exfalso
   have k:∀k:Int,k<=22->(i.Op==k)=false:=by grind
   unfold xb inB at h;simp only [k 0 (by decide),k 11 (by decide),k 12 (by decide),k 13 (by decide),k 14 (by decide),k 15 (by decide),k 20 (by decide),k 21 (by decide),k 22 (by decide)] at h
   grind
theorem rR(h:eE i=true):0<=i.D/\i.D<=63/\15<=i.Op/\i.Op<=19:=by
 unfold eE at h;simp only [zae] at h;obtain ⟨b,c⟩:=h;have a:15<=i.Op/\i.Op<=19:=by grind [inB]
 refine ⟨?_,?_,a⟩<;>
 grind [inB,xb]
theorem Fv(h:lQ i=true):1<=i.D/\i.D<=63/\i.Op=20/\1<=i.Tm/\i.Tm<=255:=by
 unfold lQ at h;simp only [zae,u4] at h;obtain ⟨e,c⟩:=h;obtain ⟨op,d,a,b,m⟩:=i;simp only at c;subst c
 grind [xb,inB]
theorem nk(i:zf):lj i=some (ju i):=by
 unfold lj;rw [fz];simp only [zbs];cases h:xb i with
 |false=>simp [ju,eE,lQ,h]
 |true=>
  obtain ⟨f,b,c,d⟩:=IJ i.Op (Ci h).1 (Ci h).2;simp only [b,zbs,c,d];cases a:inB i.Op 15 19 with
  |true=>
   have:=rR (i:=i) (by grind [eE])
   grind [ju,eE,qo]
  |false=>
   cases hl:(i.Op==20) with
   |true=>
    have:=Fv (i:=i) (by simp [lQ,h,hl]);have e:w64 (0-i.D)= -i.D:=by grind [qo]
    simp only [ju,eE,lQ,h,a,hl,e];rfl
   |false=>
    simp [ju,eE,lQ,h,a,hl]
open Go.Sx
def fy{c:Type}(g:Nat->Option c):Nat->Nat->Option c
 |0,_=>none
 |n+1,i=>match g i with
  |some v=>some v
  |none=>fy g n (i+1)
def Ah{c:Type}:Option c->Unit⊕c
 |some v=>.inr v
 |none=>.inl ()
theorem PT(g:Nat->Option c)
  (b:∀j a,j<N->h j a ()=match g j with|some v=>some (.inr v)|none=>a ()):
  ∀(n i:Nat),i+n=N->jM h (λ_=>(.inl ())) n i ()=some (Ah (fy g n i)):=by
 intro n
 induction n with
 |zero=>intro i _;rfl
 |succ n d=>
  intro i e;show h i (jM h _ n (i+1)) ()=_;rw [b i _ (by omega)];unfold fy;cases g i with
  |some v=>rfl
  |none=>exact d (i+1) (by omega)
theorem pW(g:Nat->Option c)
 (b:∀j a,j<N->h j a ()=match g j with|some v=>some (.inr v)|none=>a ()):
 jM h (λ_=>(.inl ())) N 0 ()=some (Ah (fy g N 0)):=PT g b N 0 (by omega)
theorem gH:∀{n i:Nat},fy D n i=some v->∃j,i<=j/\j<i+n/\D j=some v/\∀q,i<=q->q<j->D q=none:=by
 intro n
 induction n with
 |zero=>intro i h;cases h
 |succ n a=>
  grind [fy]
theorem gI:∀{n i:Nat},fy D n i=none->∀q,i<=q->q<i+n->D q=none:=by
 intro n
 induction n with
 |zero=>intro i _ q h a;omega
 |succ n b=>
  grind [fy]
theorem DA:∀{n i:Nat},(∀q,i<=q->q<i+n->D q=none)->fy D n i=none:=by
 intro n
 induction n with
 |zero=>intro i _;rfl
 |succ n a=>
  grind [fy]
theorem JR{a:Type}{x:List a}(h:q<x.length):idx x (q:Int)=some x[q]:=by
 simp [Go.Sx.idx,h]
def DB(n:Int)(p:Int)(i:zf):Int:=
 if !xb i then 12
 else if (ju i).2.1&&(decide (p+(ju i).1<0)||decide (p+(ju i).1>=n)) then 30
 else if (ju i).2.2&&p==n-1 then 36 else 0
theorem wr(i:zf): -63<=(ju i).1/\(ju i).1<=64:=by
 unfold ju;split
 ·rename_i h;have:=rR h;simp;omega
 ·split
  ·rename_i h;have:=Fv h;simp;omega
  ·simp
def fE(code:List zf)(p:Nat):Option (Int×Int):=match code[p]? with
 |some i=>if DB code.length p i=0 then none else some ((p:Int),DB code.length p i)
 |none=>none
theorem Ia(code:List zf)(k:code.length<=64):gW code=some ((fy (fE code) code.length 0).getD (0,0)):=by
 unfold gW;rw [pW (fE code) (N:=code.length)]
 ·simp only [zbs];cases fy (fE code) code.length 0<;>rfl
 ·intro j a b;unfold nG;have c:code[j]? =some code[j]:=zeg b;generalize d:code[j]=x at c;have l:=wr x;have e:w64 ((j:Int)+(ju x).1)=j+(ju x).1:=qo (by omega) (by omega);have f:w64 ((code.length:Int)-1)=code.length-1:=qo (by omega) (by omega)
  have i:fK [x]=some (xb x):=by
   unfold fK;simp only [List.length_singleton,jM,mi];rcases zft (xb x) with h|h<;>simp [Go.Sx.idx,fz,h]
  simp only [JR b,d,zbs,nk,i,e,f,fE,c,DB]
  grind
def Ai(code:List zf):Prop:=∀(p:Nat)(i:zf),code[p]? =some i->DB code.length p i=0
theorem NA(h:fy (fE E) E.length 0=none):Ai E:=by
 intro p i a;have b:=(zes.1 a).1;have:=gI h p (by omega) (by omega)
 grind [fE]
theorem Ib(h:Ai E):fy (fE E) E.length 0=none:=by
 refine DA (λq _ b=> ?_);have a:=zeg (show q<E.length by omega);unfold fE;rw [a];simp only [h q _ a,q9]
theorem Ai.right{code:List zf}(h:Ai code)(a:code[q]? =some i):xb i=true:=by
 have:=h q i a
 grind [DB,xb]
theorem Ai.leads(h:Ai E)(a:E[q]? =some i)(hl:(ju i).2.1=true):0<=(q:Int)+(ju i).1/\(q:Int)+(ju i).1<E.length:=by
 have:=h q i a;unfold DB at this
 grind
theorem Ai.on(h:Ai E)(a:E[q]? =some i)(hl:(ju i).2.2=true):q+1<E.length:=by
 have c:=(zes.1 a).1;have b:=h q i a;unfold DB at b
 grind
theorem Ai.loop(h:Ai E)(a:E[q]? =some i)(c:i.Op=20):1<=i.D/\i.D<=q/\1<=i.Tm/\i.Tm<=255/\q+1<E.length:=by
 have f:=h.right a;have hl:lQ i=true:=by grind [lQ]
 have d:eE i=false:=by simp [eE,inB,c]
 have b:ju i=(-i.D,true,true):=by simp [ju,hl,d]
 have e:=h.leads a (by rw [b]);have j:=h.on a (by rw [b]);rw [b] at e;have k:=Fv hl
 grind
def jH(i:zf)(p:Nat):qy:=⟨(p:Int)-i.D,p,i.Tm⟩
def lps(code:List zf):Nat->List qy
 |0=>[]
 |k+1=>match code[k]? with
  |some i=>if i.Op==20 then lps code k++[jH i k] else lps code k
  |none=>lps code k
theorem Aj(code:List zf):∀k,(lps code k).length<=k
 |0=>k9 _
 |k+1=>by
  have:=Aj code k
  grind [lps]
theorem oj{code:List zf}{l:qy}:∀{k:Nat},l∈lps code k↔∃q i,q<k/\code[q]? =some i/\i.Op=20/\l=jH i q
 |0=>by simp [lps]
 |k+1=>by
  unfold lps;have a:= @oj code l k
  grind
theorem wu(code:List zf):∀k,(lps code k).Pairwise (λa b=>a.At<b.At)/\∀l∈lps code k,l.At<k
 |0=>⟨List.Pairwise.nil,by simp [lps]⟩
 |k+1=>by
  obtain ⟨c,d⟩:=wu code k;unfold lps;split
  ·split
   ·refine ⟨List.pairwise_append.2 ⟨c,List.pairwise_singleton _ _,λa e b h=> ?_⟩,λl hl=> ?_⟩
    ·simp at h;subst h;exact d a e
    ·rcases g8.1 hl with hl|hl
     ·grind
     ·simp at hl;subst hl;simp [jH];omega
   grind
  grind
theorem Ak(f:E.length<=64)(c:Ai E):fd E=some (lps E E.length):=by
 refine OK.is ?_;unfold fd;refine d6 (R:=λy=>y=lps E E.length) ?_ (λx a=>b9 a);refine g9 (λi s=>s=lps E i) rfl ?_ (λs h=>h);intro i s b d e k;subst e;unfold oP;refine f9 (i7 d (λx a=> ?_));have hl:=Aj E i;refine d5 (λh=> ?_) (λh=> ?_)
 ·have j:=c.loop a (by simpa using h)
  grind [f9,OK.hasRoom,lps,jH,qo]
 grind [lps]
def qW(code:List zf)(p a:Nat):Bool:=match code[a]? with
 |some i=>i.Op==20&&decide ((a:Int)-i.D<=p)&&decide (p<=a)
 |none=>false
open Classical in
noncomputable def pick {c:Type} (X:Prop) (v:c):Option c:=if X then some v else none
theorem Fg(h:X):pick X v=some v:=by grind [pick]
theorem Fh(h:¬ X):pick X v=none:=by grind [pick]
theorem oV(h:pick X v=some G):X/\v=G:=by
 grind [pick]
theorem kE(h:pick X v=none):¬ X:=by
 grind [pick]
def NB(X:Nat->Prop)(n:Nat):Option Nat->Prop
 |some l=>l<n/\X l/\∀q,q<l->¬ X q
 |none=>∀q,q<n->¬ X q
theorem DC{X:Nat->Prop}{v:Nat->c}:∃o,NB X n o/\fy (λl=>pick (X l) (v l)) n 0=o.map v:=by
 cases h:fy (λl=>pick (X l) (v l)) n 0 with
 |none=>exact ⟨none,λq a=>kE (gI h q (by omega) (by omega)),rfl⟩
 |some u=>
  obtain ⟨j,_,f,b,d⟩:=gH h;obtain ⟨e,rfl⟩:=oV b;exact ⟨some j,⟨by omega,e,λq a=>kE (d q (by omega) a)⟩,rfl⟩
def Crs(code:List zf)(l m:Nat):Prop:=∃i a,code[l]? =some i/\i.Op=20/\code[m]? =some a/\a.Op=20/\(l:Int)-i.D<=m/\(m:Int)-a.D<l-i.D
def Cr(code:List zf)(l:Nat):Prop:=∃m,m<l/\Crs code l m
theorem xv(h:E[n]? =some i)(a:i.Op=20):qW E q n=true↔(n:Int)-i.D<=q/\q<=n:=by
 grind [qW]
theorem tx{l:List qy}(b:l.Pairwise (λI J=>I.At<J.At))(e:l[q]? =some I)(f:l[n]? =some J):I.At<J.At↔q<n:=by
 obtain ⟨c,rfl⟩:=zes.1 e;obtain ⟨d,rfl⟩:=zes.1 f;constructor
 ·intro h;rcases Nat.lt_trichotomy q n with a|a|a
  ·exact a
  ·subst a;omega
  ·have:=List.pairwise_iff_getElem.1 b n q d c a;omega
 ·intro h;exact List.pairwise_iff_getElem.1 b q n c d h
theorem Al{a:Type}{x:List a}(h:q<=x.length):cut x 0 (q:Int)=some (x.take q):=by
 grind [cut]
theorem NC(hn:E.length<=64)(hD:Ai E):
  ∃o,NB (Cr E) E.length o/\jM (fC (lps E E.length)) (λ_=>(.inl ())) (lps E E.length).length 0 ()=some (Ah (o.map λ(l:Nat)=>((l:Int),(31:Int)))):=by
 have O:=(wu E E.length).1;have hl:=Aj E E.length;generalize hls:lps E E.length=b at O hl |-
 have mem:∀{l:qy},l∈b↔∃q i,q<E.length/\E[q]? =some i/\i.Op=20/\l=jH i q:=by
  grind [oj]
 have main:jM (fC b) (λ_=>(.inl ())) b.length 0 ()=some (Ah (fy (λk=>match b[k]? with|some l=>pick (Cr E l.At.toNat) (l.At,(31:Int))|none=>none) b.length 0)):=by
  refine pW _ (N:=b.length) ?_;intro k r F;have n:=zeg F;generalize hi:b[k]=x at n;obtain ⟨q,i,P,s,G,rfl⟩:=mem.1 (zmg n);unfold fC;have S:(b.take k).length=k:=by grind
  have inner:jM (iR (jH i q) (b.take k)) (λ_=>(.inl ())) k 0 ()=some (Ah (fy (λm=>match b[m]? with|some l=>pick (Crs E q l.At.toNat) ((q:Int),(31:Int))|none=>none) k 0)):=by
   refine pW _ (N:=k) ?_;intro m r T;have t:m<b.length:=by omega
   have d:=zeg t;generalize I:b[m]=y at d
   have U:idx (b.take k) (m:Int)=some y:=by
    grind [JR]
   obtain ⟨a,c,J,f,p,rfl⟩:=mem.1 (zmg d);unfold iR;simp only [U,d,zbs];have e:((jH c a).At).toNat=a:=by simp [jH]
   rw [e];by_cases u:Crs E q a
   ·rw [Fg u];obtain ⟨K,Q,w,_,R,_,c1,c2⟩:=u;rw [s] at w;cases w;rw [f] at R;cases R
    have:(decide ((jH c a).At>=(jH i q).TH)&&decide ((jH c a).TH<(jH i q).TH))=true:=by
     have V:(jH c a).At=a:=rfl;have W:(jH i q).TH=q-i.D:=rfl;have X:(jH c a).TH=a-c.D:=rfl;simp only [V,W,X,zae,zdq];exact ⟨c1,c2⟩
    simp only [this];rfl
   ·rw [Fh u]
    have:(decide ((jH c a).At>=(jH i q).TH)&&decide ((jH c a).TH<(jH i q).TH))=false:=by
     cases h:(decide ((jH c a).At>=(jH i q).TH)&&decide ((jH c a).TH<(jH i q).TH)) with
     |false=>rfl
     |true=>
      exfalso;apply u
      have V:(jH c a).At=a:=rfl;have W:(jH i q).TH=q-i.D:=rfl;have X:(jH c a).TH=a-c.D:=rfl;simp only [V,W,X,zae,zdq] at h;exact ⟨i,c,s,G,f,p,h.1,h.2⟩
    grind
  simp only [JR F,hi,n,zbs,Al (Nat.le_of_lt F),S,inner];have e:((jH i q).At).toNat=q:=by simp [jH]
  rw [e];cases z:fy (λm=>match b[m]? with|some l=>pick (Crs E q l.At.toNat) ((q:Int),(31:Int))|none=>none) k 0 with
  |some v=>
   obtain ⟨m,_,h2,L,_⟩:=gH z;have t:m<b.length:=by omega
   have d:=zeg t;rw [d] at L;obtain ⟨A,rfl⟩:=oV L;have B:=(tx O d n).2 (by omega);obtain ⟨a,c,J,f,p,e'⟩:=mem.1 (zmg d);rw [e'] at A B;rw [Fg ⟨a,by grind [jH],by grind [jH]⟩];rfl
  |none=>
   have h0:=gI z;rw [Fh]
   ·rfl
   ·rintro ⟨m,T,A⟩;obtain ⟨K,Q,w,_,R,e4,c1,c2⟩:=id A;have M:=mem.2 ⟨m,Q,by omega,R,e4,rfl⟩;obtain ⟨j,I,C⟩:=u5.1 M;have d:=zeg I;rw [C] at d;have B:=(tx O d n).1 (by grind [jH])
    grind [kE,jH]
 cases z:fy (λk=>match b[k]? with|some l=>pick (Cr E l.At.toNat) (l.At,(31:Int))|none=>none) b.length 0 with
 |none=>
  refine ⟨none,λq P u=> ?_,by rw [main,z];rfl⟩;obtain ⟨m,T,K,Q,w,Y,_⟩:=id u;obtain ⟨j,I,C⟩:=u5.1 (mem.2 ⟨q,K,P,w,Y,rfl⟩);have:=gI z j (by omega) (by omega)
  grind [kE,jH]
 |some v=>
  obtain ⟨k,_,h2,L,h4⟩:=gH z;have F:k<b.length:=by omega
  have n:=zeg F;rw [n] at L;obtain ⟨u,rfl⟩:=oV L;obtain ⟨q,i,P,s,G,e⟩:=mem.1 (zmg n);refine ⟨some q,⟨P,?_,λa J Z=> ?_⟩,?_⟩
  ·grind [jH]
  ·obtain ⟨m,T,K,Q,w,Y,_⟩:=id Z;obtain ⟨j,I,C⟩:=u5.1 (mem.2 ⟨a,K,by omega,w,Y,rfl⟩);have d:=zeg I;have B:=(tx O d n).1 (by grind [jH])
   grind [kE,jH]
  ·rw [main,z,e];rfl
def En(code:List zf)(p:Nat):Prop:=∃i,code[p]? =some i/\(ju i).2.1=true/\0<(ju i).1/\∃a b t,a<code.length/\code[a]? =some b/\b.Op=20/\(t:Nat)=(p:Int)+(ju i).1/\qW code t a=true/\qW code p a=false/\(t:Int)≠a-b.D
theorem ND(R:E.length<=64)(S:Ai E):
  jM (iT E (lps E E.length)) (λ_=>(.inl ())) E.length 0 ()=some (Ah (fy (λp=>pick (En E p) ((p:Int),(31:Int))) E.length 0)):=by
 refine pW _ (N:=E.length) ?_;intro p b z;have o:=zeg z;generalize J:E[p]=x at o;have T:=wr x;have K:w64 ((p:Int)+(ju x).1)=p+(ju x).1:=qo (by omega) (by omega);have hl:=Aj E E.length
 have inner:jM (iS (lps E E.length) p (ju x)) (λ_=>(.inl ())) (lps E E.length).length 0 ()=
   some (Ah (fy (λk=>match (lps E E.length)[k]? with|some l=>pick ((ju x).2.1=true/\0<(ju x).1/\¬ (l.TH<=p/\(p:Int)<=l.At)/\(l.TH<=p+(ju x).1/\p+(ju x).1<=l.At)/\p+(ju x).1≠l.TH) ((p:Int),(31:Int))|none=>none) (lps E E.length).length 0)):=by
  refine pW _ (N:=(lps E E.length).length) ?_;intro k b n;have c:=zeg n;generalize r:(lps E E.length)[k]=y at c;unfold iS;simp only [JR n,r,c,zbs,ob,K]
  grind [ju,Fg,Fh]
 unfold iT;simp only [JR z,J,zbs,nk,inner];cases A:fy (λk=>match (lps E E.length)[k]? with|some l=>pick ((ju x).2.1=true/\0<(ju x).1/\¬ (l.TH<=p/\(p:Int)<=l.At)/\(l.TH<=p+(ju x).1/\p+(ju x).1<=l.At)/\p+(ju x).1≠l.TH) ((p:Int),(31:Int))|none=>none) (lps E E.length).length 0 with
 |some v=>
  obtain ⟨k,_,U,B,_⟩:=gH A;have n:k<(lps E E.length).length:=by omega
  have c:=zeg n;rw [c] at B;obtain ⟨⟨s,c2,C,D,F⟩,rfl⟩:=oV B;obtain ⟨q,i,L,d,h,e⟩:=oj.1 (zmg c);rw [e] at C D F;simp only [jH] at C D F;have G:0<=(p:Int)+(ju x).1:=by omega
  have u:qW E p q=false:=by
   grind [qW,xv]
  have M:En E p:=⟨x,o,s,c2,q,i,((p:Int)+(ju x).1).toNat,L,d,h,by omega,(xv d h).2 (by omega),u,by omega⟩
  rw [Fg M];rfl
 |none=>
  have O:=gI A;rw [Fh]
  ·rfl
  ·rintro ⟨V,f,s,c2,a,I,t,P,m,h,W,v1,X,Y⟩;rw [o] at f;cases f;obtain ⟨j,r,w⟩:=u5.1 (oj.2 ⟨a,I,P,m,h,rfl⟩:jH I a∈lps E E.length);have:=O j (by omega) (by omega);rw [zeg r,w] at this;refine kE this ⟨s,c2,?_,?_,?_⟩
   ·intro Q;simp only [jH] at Q
    grind [xv]
   ·have:=(xv m h).1 v1
    grind [jH]
   grind [jH]
def cP(code:List zf)(p:Nat):Nat->Int
 |0=>1
 |k+1=>match code[k]? with
  |some i=>if qW code p k then cP code p k*(i.Tm+1) else cP code p k
  |none=>cP code p k
def uU(code:List zf):Nat->Int
 |0=>0
 |k+1=>uU code k+cP code k code.length
theorem Ic(a:E[n]? =some i)(h:qW E q n=true):i.Op=20:=by
 grind [qW]
theorem oW{code:List zf}(h:Ai code)(p:Nat):∀k,1<=cP code p k
 |0=>by simp [cP]
 |k+1=>by
  have a:=oW h p k;unfold cP;split
  ·rename_i i b
   split
   ·rename_i c
    have d:=h.loop b (Ic b c);have:1*1<=cP code p k*(i.Tm+1):=Int.mul_le_mul a (by omega) (by omega) (by omega);omega
   ·exact a
  ·exact a
theorem tz{code:List zf}(h:Ai code):∀k:Nat,(k:Int)<=uU code k
 |0=>by simp [uU]
 |k+1=>by
  have:=tz h k;have a:=oW h k code.length;unfold uU;omega
theorem Ie(code:List zf)(k:Nat):uU code (k+1)=uU code k+cP code k code.length:=rfl
def mn(x:Int):Int:=if x<=257 then x else 257
theorem PU(d:1<=a)(c:1<=b):mn (mn a*b)=mn (a*b):=by
 unfold mn;by_cases h:a<=257
 ·rw [d8 h]
 ·rw [d7 h];have e:257*1<=257*b:=Int.mul_le_mul_of_nonneg_left c (by decide);have f:258*1<=a*b:=Int.mul_le_mul (by omega) c (by decide) (by omega)
  grind
theorem PV(h:0<=a)(c:0<=b):mn (mn a+mn b)=mn (a+b):=by
 grind [mn]
theorem If(x:Int):nu x 257=mn x:=by grind [nu,mn]
theorem KD(x:Int):mn x<=257/\mn x<=x:=by grind [mn]
def nw(p:Int):List qy->Int->Int
 |[],s=>s
 |l::r,s=>nw p r (if decide (p>=l.TH)&&decide (p<=l.At) then s*(l.TY+1) else s)
theorem fR(p:Int)(l:List qy):∀(a:List qy)(s:Int),nw p (a++l) s=nw p l (nw p a s)
 |[],s=>rfl
 |x::r,s=>by simp only [y8,nw];exact fR p l r _
theorem tA(code:List zf)(p:Nat):∀k,nw p (lps code k) 1=cP code p k
 |0=>rfl
 |k+1=>by
  have i:=tA code p k;unfold lps cP
  grind [fR,nw,jH,qW,xv]
theorem Q4(y:E.length<=64)(j:Ai E)(p:Nat):
  jM (mj (lps E E.length) p) (λ(s:Int)=>s) (lps E E.length).length 0 1=some (mn (cP E p E.length)):=by
 have a:∀(k:Nat)(l:qy),(lps E E.length)[k]? =some l->1<=l.TY/\l.TY<=255:=by
  intro k l hl;obtain ⟨q,i,_,m,n,rfl⟩:=oj.1 (zmg hl);have:=j.loop m n
  grind [jH]
 rw [<- tA E p E.length];generalize lps E E.length=c at a;refine OK.is ?_;refine g9 (λ(i:Nat)(s:Int)=>s=mn (nw p (c.take i) 1)/\1<=nw p (c.take i) 1) ⟨by simp [nw,mn],by simp [nw]⟩ ?_ (λs h=>by rw [h.1];simp);intro i s d o ⟨z,r⟩ k;unfold mj;refine f9 (i7 o (λx e=> ?_));have A:=a i x e
 have b:c.take (i+1)=c.take i++[x]:=by
  rw [x6,e];rfl
 simp only [ob,zbs];have t:=KD (nw p (c.take i) 1);have u:1<=s:=by grind [mn]
 refine d5 (λf=> ?_) (λf=> ?_)
 ·have v:w64 (x.TY+1)=x.TY+1:=qo (by omega) (by omega);have B:s*(x.TY+1)<=257*256:=Int.mul_le_mul (by omega) (by omega) (by omega) (by omega);have C:0<=s*(x.TY+1):=Int.mul_nonneg (by omega) (by omega);have w:w64 (s*(x.TY+1))=s*(x.TY+1):=qo (by omega) (by omega);rw [v,w,If];refine k _ ⟨?_,?_⟩
  ·grind [fR,nw,PU]
  ·rw [b,fR];simp only [nw,f,q9];have:1*1<=nw p (c.take i) 1*(x.TY+1):=Int.mul_le_mul r (by omega) (by omega) (by omega);omega
 grind [fR,nw]
theorem KE(c:E.length<=64)(a:Ai E):ml E=some (mn (uU E E.length)):=by
 unfold ml;rw [Ak c a];simp only [zbs];refine OK.is ?_;refine d6 (R:=λy=>y=mn (uU E E.length)) ?_ (λx d=>b9 d);refine g9 (λ(i:Nat)(s:Int)=>s=mn (uU E i)) (by simp [uU,mn]) ?_ (λs h=>h);intro i s b f e k;subst e;unfold rN;rw [Q4 c a i];simp only [zbs];have j:=KD (cP E i E.length);have l:=KD (uU E i);have m:=oW a i E.length;have n:=tz a i;have p:1<=mn (cP E i E.length):=by grind [mn]
 grind [mn,uU,qo,If,Ie,PV]
open Go.Sx
structure uE (code:List zf):Prop where
 n1:1<=code.length
 UE:code.length<=64
 TA:Ai code
 cr:∀l,l<code.length->¬ Cr code l
 en:∀p,p<code.length->¬ En code p
 UZ:uU code code.length<=256
theorem Gb(h:E.length<=64)(a:Ai E):
  ∃o,NB (Cr E) E.length o/\gX E=some (match o with|some l=>((l:Int),31)|none=>(fy (λp=>pick (En E p) ((p:Int),(31:Int))) E.length 0).getD (0,0)):=by
 obtain ⟨o,b,c⟩:=NC h a;refine ⟨o,b,?_⟩;unfold gX;rw [Ak h a];simp only [zbs,c,ND h a];cases o with
 |some l=>rfl
 |none=>cases fy (λp=>pick (En E p) ((p:Int),(31:Int))) E.length 0<;>rfl
theorem tu(code:List zf):∃r,fe code=some r/\(r.1=0\/0<=r.1/\r.1<code.length)/\(r.2=0->r.1=0/\uE code)/\(uE code->r.2=0):=by
 unfold fe;by_cases q:code.length=0
 ·refine ⟨(0,10),?_,.inl rfl,by simp,λh=>by have:=h.n1;omega⟩;simp [q]
 ·have s:((code.length:Int)==0)=false:=by simp;exact λh=>q (by simp [h])
  by_cases y:64<code.length
  ·have k:decide ((code.length:Int)>64)=true:=by simp;omega
   refine ⟨(0,11),?_,.inl rfl,by simp,λh=>by have:=h.UE;omega⟩;simp only [s,k];rfl
  ·have k:decide ((code.length:Int)>64)=false:=by simp;omega
   have c:code.length<=64:=by omega
   simp only [s,k,Ia code c,zbs];cases d:fy (fE code) code.length 0 with
   |some v=>
    obtain ⟨j,_,z,b,_⟩:=gH d
    have a:v.2≠0/\v.1=j:=by
     unfold fE at b;split at b
     ·split at b
      ·cases b
      ·rename_i t;cases b;exact ⟨t,rfl⟩
     ·cases b
    refine ⟨v,?_,.inr ⟨by rw [a.2];omega,by rw [a.2];omega⟩,λh=>absurd h a.1,λh=> ?_⟩
    ·have:(v.2 !=0)=true:=by simpa using a.1
     simp [this]
    ·rw [Ib h.TA] at d;cases d
   |none=>
    have m:=NA d;obtain ⟨o,e,u⟩:=Gb c m;simp only [u,zbs,Option.getD_none];cases o with
    |some l=>
     have:=e.1;refine ⟨((l:Int),31),by simp,.inr ⟨by simp,by simpa using this⟩,by simp,λh=>absurd e.2.1 (h.cr l e.1)⟩
    |none=>
     obtain ⟨p,f,w⟩:=DC (X:=En code) (n:=code.length) (v:=λp=>((p:Int),(31:Int)));rw [w];cases p with
     |some l=>
      have:=f.1;exact ⟨((l:Int),31),by simp,.inr ⟨by simp,by simpa using this⟩,by simp,λh=>absurd f.2.1 (h.en l f.1)⟩
     |none=>
      simp only [KE c m,zbs,Option.map_none,Option.getD_none];have x:=KD (uU code code.length);by_cases i:mn (uU code code.length)>256
      ·refine ⟨(0,32),by simp [i],.inl rfl,by simp,λh=> ?_⟩;have:=h.UZ;omega
      ·refine ⟨(0,0),by simp [i],.inl rfl,λ_=>⟨rfl,⟨by omega,c,m,e,f,?_⟩⟩,λ_=>rfl⟩;unfold mn at i;split at i<;>omega
theorem Gc(h:uE E):fe E=some (0,0):=by
 obtain ⟨r,d,_,e,f⟩:=tu E;have:=f h;have c:=(e this).1;rw [d];obtain ⟨a,b⟩:=r;simp only at this c;subst this;subst c;rfl
theorem wq(h:uE E):ky E=some (lps E E.length,0):=by
 unfold ky;rw [Gc h];simp [Ak h.UE h.TA]
open Go.Sx
def rem(code:List zf)(back:Nat->Int)(a:Nat):Int:=match code[a]? with
 |some i=>i.Tm-back a
 |none=>0
def val(code:List zf)(back:Nat->Int)(q p:Nat):Nat->Int
 |0=>if q<=p then 1 else 0
 |k+1=>
  if qW code p k then
   (if qW code q k then val code back q p k+rem code back k*cP code p k else val code back q p k*(rem code (λ_=>0) k+1))
  else val code back q p k
theorem rk(h:n<E.length):cP E q (n+1)=if qW E q n then cP E q n*(rem E (λ_=>0) n+1) else cP E q n:=by
 grind [cP,qW,rem]
theorem cR(code:List zf)(back:Nat->Int)(q p k:Nat):val code back q p (k+1)=
  if qW code p k then
   (if qW code q k then val code back q p k+rem code back k*cP code p k else val code back q p k*(rem code (λ_=>0) k+1))
  else val code back q p k:=rfl
def Fit(code:List zf)(back:Nat->Int):Prop:=∀(a:Nat)(i:zf),code[a]? =some i->i.Op=20->0<=back a/\back a<=i.Tm
section
variable {code:List zf} (g:uE code) {back back':Nat->Int}
include g
theorem iI{a:Nat}{p:Nat}(h:qW code p a=true):∃i,code[a]? =some i/\i.Op=20/\(a:Int)-i.D<=p/\p<=a/\1<=i.D/\1<=i.Tm/\a<code.length/\i.D<=a:=by
 unfold qW at h;split at h
 ·rename_i i b
  simp only [zae,u4,zdq] at h;have:=g.TA.loop b h.1.1
  grind
 ·cases h
theorem kK{a:Nat}(b:Fit code back){p:Nat}(h:qW code p a=true):0<=rem code back a/\rem code back a<=rem code (λ_=>0) a/\1<=rem code (λ_=>0) a:=by
 obtain ⟨i,c,d,_,_,_,e,_⟩:=iI g h;have:=b a i c d
 grind [rem]
theorem NX{a:Nat}{p b:Nat}(m:qW code p a=true)(n:qW code p b=true)(c:a<b):∀q,qW code q a=true->qW code q b=true:=by
 intro q o;obtain ⟨i,e,r,t,u,v,w,x,y⟩:=iI g m;obtain ⟨f,j,k,z,A,B,C,s,E⟩:=iI g n;obtain ⟨F,l,G,I,J,_⟩:=iI g o;rw [e] at l;cases l;refine (xv j k).2 ⟨?_,by omega⟩;have d:=g.cr b s;rcases Int.lt_or_le ((a:Int)-i.D) (b-f.D) with h|h
 ·exact absurd ⟨a,c,f,i,j,k,e,r,by omega,h⟩ d
 ·omega
theorem gK(p k:Nat):1<=cP code p k:=oW g.TA p k
theorem np(a:Fit code back)(q p:Nat):∀k,k<=code.length->(if q<=p then 1 else 0)<=val code back q p k:=by
 intro k
 induction k with
 |zero=>intro _;exact u6 _
 |succ k i=>
  intro d;have i:=i (by omega);rw [cR];have b:(0:Int)<=if q<=p then 1 else 0:=by split<;>omega
  generalize (if q<=p then (1:Int) else 0)=z at i b;by_cases h:qW code p k=true
  ·rw [d8 h];have c:=kK g a h;split
   ·have:0<=rem code back k*cP code p k:=Int.mul_nonneg c.1 (by have:=gK g p k;omega);omega
   ·have:val code back q p k*1<=val code back q p k*(rem code (λ_=>0) k+1):=Int.mul_le_mul_of_nonneg_left (by omega) (by omega);omega
  grind
theorem IK{q:Nat}{p:Nat}:∀k,k<=code.length->val code (λ_=>0) q p k<=cP code p k:=by
 intro k
 induction k with
 |zero=>intro _;simp only [val,cP];split<;>omega
 |succ k b=>
  intro f;have b:=b (by omega);rw [cR,rk (by omega)];split
  ·rename_i h
   have c:Fit code (λ_=>0):=λa i d e=>by have:=g.TA.loop d e;exact ⟨u6 _,by simp only;omega⟩
   have j:=kK g c h;have l:=gK g p k;split
   ·grind
   ·exact Sf b (by omega)
  ·exact b
theorem NY{q:Nat}(e:Fit code back){t p:Nat}(s:q<t)(u:∀a,qW code t a=true->qW code q a=true\/∃i,code[a]? =some i/\(t:Int)=a-i.D)(v:∀a,qW code t a=true->back' a=back a/\0<=back' a)(F:p<code.length):
  val code back' t p code.length+(if q=p then 1 else 0)<=val code back q p code.length:=by
 by_cases f:t<=p
 ·
  have j:¬ q=p:=by omega
  rw [d7 j]
  have main:∀k,k<=code.length->val code back' t p k<=val code back q p k/\((∀a,a<k->qW code p a=true->qW code q a=false)->val code back q p k=cP code p k):=by
   intro k
   induction k with
   |zero=>intro _;simp only [val,cP];rw [d8 f,d8 (by omega)];exact ⟨u6 _,λ_=>rfl⟩
   |succ k r=>
    intro w;obtain ⟨x,y⟩:=r (by omega);rw [cR,cR,rk (by omega)];by_cases b:qW code p k=true
    ·rw [d8 b,d8 b,d8 b];have z:=kK g e b;have A:=gK g p k;have l:=np g e q p k (by omega);rw [d8 (by omega)] at l;by_cases B:qW code q k=true
     ·grind [iI,qW,xv,rem]
     ·have m:qW code q k=false:=by simpa using B
      simp only [m,zfe,x4]
      have h:∀a,a<k->qW code p a=true->qW code q a=false:=by
       grind [qW,NX]
      have c:=y h;by_cases d:qW code t k=true
      ·rw [d8 d];refine ⟨?_,λ_=>by rw [c]⟩;have C:=v k d
       have n:rem code back' k<=rem code (λ_=>0) k:=by
        grind [iI,rem]
       have:rem code back' k*cP code p k<=rem code (λ_=>0) k*cP code p k:=Sf n (by omega);rw [c,Int.mul_add,Int.mul_one,Int.mul_comm (cP code p k)];omega
      ·rw [d7 d];exact ⟨Sf x (by omega),λ_=>by rw [c]⟩
    grind
  grind
 ·
  have E:p<t:=by omega
  have o:∀a,qW code p a=true->qW code t a=true->qW code q a=true:=by
   grind [iI]
  have main:∀k,k<=code.length->(val code back' t p k+(if q=p then 1 else 0)<=val code back q p k/\(∃a,a<k/\qW code p a=true/\qW code t a=true))\/
    (val code back' t p k=0/\∀a,a<k->qW code p a=true->qW code t a=false):=by
   intro k
   induction k with
   |zero=>intro _;right;simp only [val];rw [d7 (by omega)];exact ⟨rfl,λa G=>by omega⟩
   |succ k r=>
    intro w;rw [cR,cR];by_cases b:qW code p k=true
    ·rw [d8 b,d8 b];have z:=kK g e b;have A:=gK g p k;have l:=np g e q p k (by omega)
     grind [qW,rem,iI,NX]
    grind
  have l:=np g e q p code.length (k9 _)
  grind
theorem K2{a:Nat}(E:Fit code back){h p:Nat}{i:zf}(e:code[a]? =some i)(l:i.Op=20)(V:(h:Int)=a-i.D)(W:back' a=back a+1)(F:∀b,b≠a->back' b=back b)(A:back a<i.Tm)(X:p<code.length):
  val code back' h p code.length+(if a=p then 1 else 0)<=val code back a p code.length:=by
 have Y:=g.TA.loop e l;have w:=(zes.1 e).1;have o:qW code a a=true:=(xv e l).2 ⟨by omega,by omega⟩;have q:qW code h a=true:=(xv e l).2 ⟨by omega,by omega⟩
 have r:∀b,b≠a->rem code back' b=rem code back b:=by
  grind [rem]
 by_cases f:h<=p/\p<=a
 ·have c:qW code p a=true:=(xv e l).2 ⟨by omega,by omega⟩
  have low:∀k,k<=a->val code back a p k=(if a<=p then 1 else 0)*cP code p k/\val code back' h p k<=cP code p k:=by
   intro k
   induction k with
   |zero=>intro _;simp only [val,cP];rw [d8 f.1];simp
   |succ k v=>
    intro G;obtain ⟨I,J⟩:=v (by omega);rw [cR,cR,rk (by omega)];by_cases d:qW code p k=true
    ·rw [d8 d,d8 d,d8 d];have K:=kK g E d;have L:=gK g p k
     have s:¬ qW code a k=true:=by
      grind [iI]
     rw [d7 s,I,Int.mul_assoc];refine ⟨rfl,?_⟩;split
     ·rw [r k (by omega)];have:rem code back k*cP code p k<=rem code (λ_=>0) k*cP code p k:=Sf K.2.1 (by omega)
      grind
     ·exact Sf J (by omega)
    grind
  have high:∀n,a+1+n<=code.length->val code back' h p (a+1+n)+(if a=p then 1 else 0)<=val code back a p (a+1+n):=by
   intro n
   induction n with
   |zero=>
    intro _;obtain ⟨M,Z⟩:=low a (k9 _);rw [Nat.add_zero,cR,cR,d8 c,d8 c,d8 o,d8 q,M];have L:=gK g p a;have N:rem code back' a=rem code back a-1:=by grind [rem]
    rw [N,Int.sub_mul,Int.one_mul]
    grind
   |succ n v=>
    grind [cR,qW,NX]
  have:=high (code.length-(a+1)) (by omega)
  rwa [show a+1+(code.length-(a+1))=code.length by omega] at this
 ·have x:¬ a=p:=by omega
  rw [d7 x]
  have B:∀k,k<=code.length->val code back' h p k=val code back a p k:=by
   intro k
   induction k with
   |zero=>intro _;simp only [val];by_cases O:h<=p<;>by_cases P:a<=p<;>simp [O,P]<;>omega
   |succ k v=>
    intro G;rw [cR,cR,v (by omega)];by_cases d:qW code p k=true
    ·rw [d8 d,d8 d];obtain ⟨y,m,c2,c3,c4,c5,c6,Q,c8⟩:=iI g d
     have s:k≠a:=by
      grind
     have C:qW code h k=qW code a k:=by
      rw [Bool.eq_iff_iff];constructor
      ·intro j;obtain ⟨R,t,S,T,U,_⟩:=iI g j;rw [m] at t;cases t;rcases Nat.lt_or_ge k a with u|u
       ·
        exfalso
        exact g.cr a w ⟨k,u,i,y,e,l,m,c2,by omega,by omega⟩
       ·exact (xv m c2).2 ⟨by omega,by omega⟩
      ·intro j;obtain ⟨R,t,S,T,U,_⟩:=iI g j;rw [m] at t;cases t;have z:a<k:=by omega
       refine (xv m c2).2 ⟨?_,by omega⟩;rcases Int.lt_or_le ((a:Int)-i.D) (k-y.D) with u|u
       ·exact absurd ⟨a,z,y,i,m,c2,e,l,by omega,u⟩ (g.cr k Q)
       ·omega
     grind
    grind
  grind
end
def pot(code:List zf)(back:Nat->Int)(q:Nat):Nat->Int
 |0=>0
 |p+1=>pot code back q p+val code back q p code.length
theorem Fw(a:q<E.length)(h:∀p,p<E.length->val E L N p E.length+(if q=p then 1 else 0)<=val E K q p E.length):
  pot E L N E.length+1<=pot E K q E.length:=by
 have main:∀n,n<=E.length->pot E L N n+(if q<n then 1 else 0)<=pot E K q n:=by
  intro n
  induction n with
  |zero=>intro _;simp [pot]
  |succ n i=>
   grind [pot]
 grind
theorem IL(g:uE E):pot E (λ_=>0) q E.length<=uU E E.length:=by
 have main:∀n,n<=E.length->pot E (λ_=>0) q n<=uU E n:=by
  intro n
  induction n with
  |zero=>intro _;simp [pot,uU]
  |succ n i=>
   intro h;have:=i (by omega);have a:=IK g (q:=q) (p:=n) E.length (k9 _)
   grind [pot,uU]
 grind
theorem NZ(g:uE E)(a:Fit E K)(b:q<E.length):1<=pot E K q E.length:=by
 have main:∀n,n<=E.length->(if q<n then 1 else 0)<=pot E K q n:=by
  intro n
  induction n with
  |zero=>intro _;simp [pot]
  |succ n i=>
   intro c;have:=i (by omega);have h:=np g a q n E.length (k9 _);simp only [pot];by_cases e:q<=n
   ·rw [d8 e] at h;rw [d8 (by omega)];split at this<;>omega
   ·rw [d7 e] at h;rw [d7 (by omega)];split at this<;>omega
 have:=main _ (k9 _)
 rwa [d8 b] at this
open Go.Sx
def SW(s:zh):Prop:=0<=s.Lo/\s.Lo<=s.Hi/\s.Hi<18446744073709551616
theorem sQ(x:Int):xW x=x%18446744073709551616:=rfl
theorem xY{x:Int}(h:0<=x)(a:x<18446744073709551616):xW x=x:=by rw [sQ];omega
theorem xc(x:Int):0<=xW x/\xW x<18446744073709551616:=by rw [sQ];omega
theorem FF(x y:Int):wN .u64 x y=((BitVec.ofInt 64 x &&& BitVec.ofInt 64 y).toNat:Int)%18446744073709551616:=rfl
theorem Jb(x y:Int):bOr .u64 x y=((BitVec.ofInt 64 x ||| BitVec.ofInt 64 y).toNat:Int)%18446744073709551616:=rfl
theorem FG(x y:Int):MI .u64 x y=((BitVec.ofInt 64 x ^^^ BitVec.ofInt 64 y).toNat:Int)%18446744073709551616:=rfl
theorem pA(x y:Int):wO .u64 x y=(x*2^(min y.toNat 64))%18446744073709551616:=rfl
theorem Lx(x y:Int):iN .u64 x y=x.fdiv (2^(min y.toNat 64)):=rfl
theorem rS(h:0<=b)(a:b<18446744073709551616):(BitVec.ofInt 64 b).toNat=b.toNat:=by
 rw [BitVec.toNat_ofInt];omega
theorem FH(x:0<=b)(a:b<18446744073709551616)(c:0<=y)(d:y<18446744073709551616):wN .u64 b y=((b.toNat &&& y.toNat:Nat):Int):=by
 rw [FF,BitVec.toNat_and,rS x a,rS c d];have:b.toNat &&& y.toNat<=b.toNat:=Nat.and_le_left;omega
theorem Jc(x:0<=b)(a:b<18446744073709551616)(c:0<=y)(d:y<18446744073709551616):bOr .u64 b y=((b.toNat ||| y.toNat:Nat):Int):=by
 have h:(BitVec.ofInt 64 b ||| BitVec.ofInt 64 y).toNat<2^64:=BitVec.isLt _;rw [Jb,Int.emod_eq_of_lt (by omega) (by omega),BitVec.toNat_or,rS x a,rS c d]
theorem Ly(x:0<=b)(a:b<18446744073709551616)(c:0<=y)(d:y<18446744073709551616):MI .u64 b y=((b.toNat ^^^ y.toNat:Nat):Int):=by
 have h:(BitVec.ofInt 64 b ^^^ BitVec.ofInt 64 y).toNat<2^64:=BitVec.isLt _;rw [FG,Int.emod_eq_of_lt (by omega) (by omega),BitVec.toNat_xor,rS x a,rS c d]
theorem Ej{x:Int}(a:0<=x)(b:x<18446744073709551616)(c:0<=y)(d:y<18446744073709551616):x<=bOr .u64 x y/\y<=bOr .u64 x y/\bOr .u64 x y<18446744073709551616:=by
 have h:(BitVec.ofInt 64 x ||| BitVec.ofInt 64 y).toNat<2^64:=BitVec.isLt _;rw [BitVec.toNat_or,rS a b,rS c d] at h;rw [Jc a b c d];have e:x.toNat<=x.toNat ||| y.toNat:=Nat.left_le_or
 have f:y.toNat<=x.toNat ||| y.toNat:=Nat.right_le_or
 omega
theorem Ek(x y:Int):0<=wN .u64 x y/\wN .u64 x y<18446744073709551616:=by rw [FF];omega
theorem Cq(x y:Int):0<=bOr .u64 x y/\bOr .u64 x y<18446744073709551616:=by rw [Jb];omega
theorem Je(x y:Int):0<=MI .u64 x y/\MI .u64 x y<18446744073709551616:=by rw [FG];omega
theorem Jf(x y:Int):0<=wO .u64 x y/\wO .u64 x y<18446744073709551616:=by rw [pA];omega
theorem AN(x:0<=b):iN .u64 b y=((b.toNat / 2^(min y.toNat 64):Nat):Int):=by
 rw [Lx];obtain ⟨a,rfl⟩:=zof x;rw [Int.fdiv_eq_ediv_of_nonneg _ (by exact_mod_cast Nat.zero_le _)];simp
theorem El(x:0<=b)(a:b<18446744073709551616):0<=iN .u64 b y/\iN .u64 b y<=b:=by
 rw [AN x];have:=Nat.div_le_self b.toNat (2^(min y.toNat 64));generalize b.toNat / 2^(min y.toNat 64)=q at*
 omega
theorem AO(x:0<=b)(d:b<=y)(t:o<=a):iN .u64 b a<=iN .u64 y o:=by
 rw [AN x,AN (by omega)];have h:b.toNat / 2^(min a.toNat 64)<=y.toNat / 2^(min a.toNat 64):=Nat.div_le_div_right (by omega);have c:y.toNat / 2^(min a.toNat 64)<=y.toNat / 2^(min o.toNat 64):=Nat.div_le_div_left (Nat.pow_le_pow_right (by omega) (by omega)) (Nat.pow_pos (by omega))
 exact_mod_cast q8 h c
theorem fA(h:0<=y):nn y=some ():=by unfold nn;rw [d7 (by omega)]
theorem mM(h:y≠0):nz y=some ():=by unfold nz;rw [d7 h]
def ui:ByteArray:=⟨[0,1,2,2,3,3,3,3,4,4,4,4,4,4,4,4,5,5,5,5,5,5,5,5,5,5,5,5,5,5,5,5,6,6,6,6,6,6,6,6,6,6,6,6,6,6,6,6,6,6,6,6,6,6,6,6,6,6,6,6,6,6,6,6,7,7,7,7,7,7,7,7,7,7,7,7,7,7,7,7,7,7,7,7,7,7,7,7,7,7,7,7,7,7,7,7,7,7,7,7,7,7,7,7,7,7,7,7,7,7,7,7,7,7,7,7,7,7,7,7,7,7,7,7,7,7,7,7,8,8,8,8,8,8,8,8,8,8,8,8,8,8,8,8,8,8,8,8,8,8,8,8,8,8,8,8,8,8,8,8,8,8,8,8,8,8,8,8,8,8,8,8,8,8,8,8,8,8,8,8,8,8,8,8,8,8,8,8,8,8,8,8,8,8,8,8,8,8,8,8,8,8,8,8,8,8,8,8,8,8,8,8,8,8,8,8,8,8,8,8,8,8,8,8,8,8,8,8,8,8,8,8,8,8,8,8,8,8,8,8,8,8,8,8,8,8,8,8,8,8,8,8,8,8,8,8].toArray⟩
theorem RW:∀c:Nat,c<256->∃k:Nat,k<=8/\c<2^k/\(c=0->k=0)/\(0<c->2^(k-1)<=c)/\uJ ui (c:Int)=some (k:Int):=by
 have h:∀c:Fin 256,∃k:Fin 9,(c:Nat)<2^(k:Nat)/\((c:Nat)=0->(k:Nat)=0)/\(0<(c:Nat)->2^((k:Nat)-1)<=(c:Nat))/\uJ ui ((c:Nat):Int)=some ((k:Nat):Int):=by decide+kernel
 intro c a;obtain ⟨k,b,d,e,f⟩:=h ⟨c,a⟩;exact ⟨k,by omega,b,d,e,f⟩
theorem FI(s:Nat)(h:s<=64):iN .u64 (n:Int) (s:Int)=((n / 2^s:Nat):Int):=by
 rw [AN (by omega)];have:min (s:Int).toNat 64=s:=by omega
 rw [this];simp
theorem Oj(c s:Nat)(h:c<256)(l:s<=56):∃k:Nat,k<=8/\c<2^k/\(c=0->k=0)/\(0<c->2^(k-1)<=c)/\
  ((uJ ui (IntKind.u8.wrap (c:Int))).bind λa=>some (w64 ((s:Int)+(w64 a))))=some ((s+k:Nat):Int):=by
 obtain ⟨k,b,d,f,i,j⟩:=RW c h;refine ⟨k,b,d,f,i,?_⟩;have e:IntKind.u8.wrap (c:Int)=(c:Int):=by rw [IntKind.wrap_u8];omega
 rw [e,j];show some _=some _;rw [qo (x:=(k:Int)) (by omega) (by omega),qo (by omega) (by omega)];simp
set_option maxRecDepth 100000 in
theorem sR(D:n<18446744073709551616):∃k:Nat,k<=64/\gF (n:Int)=some (k:Int)/\n<2^k/\(n=0->k=0)/\(0<n->2^(k-1)<=n):=by
 have go:∀(c s:Nat),c<256->s<=56->c=n / 2^s->(s=0\/0<c)->∃k:Nat,k<=64/\((uJ ui (IntKind.u8.wrap (c:Int))).bind λa=>some (w64 ((s:Int)+(w64 a))))=some (k:Int)/\n<2^k/\(n=0->k=0)/\(0<n->2^(k-1)<=n):=by
  intro c s v j e d;obtain ⟨k,E,w,x,y,z⟩:=Oj c s v j;have r:0<2^s:=Nat.pow_pos (by omega);refine ⟨s+k,by omega,z,?_,λt=> ?_,λt=> ?_⟩
  ·rw [Nat.pow_add,Nat.mul_comm];exact (Nat.div_lt_iff_lt_mul r).1 (by omega)
  ·subst t;rw [Nat.zero_div] at e;rcases d with d|d
   ·have:=x e;omega
   ·omega
  ·have l:0<c:=by
    rcases d with rfl|d
    ·simp at e;omega
    ·exact d
   have u:=y l
   have A:0<k:=by
    rcases yq k with rfl|u
    ·simp at w;omega
    ·exact u
   rw [show s+k-1=s+(k-1) by omega,Nat.pow_add,Nat.mul_comm];exact (Nat.le_div_iff_mul_le r).1 (by omega)
 show ∃k:Nat,k<=64/\((if decide ((n:Int)>=4294967296) then some (iN .u64 (n:Int) 32,(32:Int)) else some ((n:Int),0)).bind λf=>
  (if decide (f.1>=65536) then some (iN .u64 f.1 16,w64 (f.2+16)) else some (f.1,f.2)).bind λb=>
  (if decide (b.1>=256) then some (iN .u64 b.1 8,w64 (b.2+8)) else some (b.1,b.2)).bind λo=>
  (uJ ui (IntKind.u8.wrap o.1)).bind λa=>some (w64 (o.2+(w64 a))))=some (k:Int)/\_
 have p:iN .u64 (n:Int) 32=((n / 2^32:Nat):Int):=FI 32 (by omega);have q:∀m:Nat,iN .u64 (m:Int) 16=((m / 2^16:Nat):Int):=λm=>FI 16 (by omega)
 have B:∀m:Nat,iN .u64 (m:Int) 8=((m / 2^8:Nat):Int):=λm=>FI 8 (by omega)
 have last:∀m s:Nat,m<65536->s<=48->m=n / 2^s->(s=0\/0<m)->∃k:Nat,k<=64/\((if decide ((m:Int)>=256) then some (iN .u64 (m:Int) 8,w64 ((s:Int)+8)) else some ((m:Int),(s:Int))).bind λo=>
  (uJ ui (IntKind.u8.wrap o.1)).bind λa=>some (w64 (o.2+(w64 a))))=some (k:Int)/\n<2^k/\(n=0->k=0)/\(0<n->2^(k-1)<=n):=by
  intro m s C j e d;by_cases h:m>=256
  ·rw [d8 (by simp;omega),B,show w64 ((s:Int)+8)=((s+8:Nat):Int) by rw [qo (by omega) (by omega)];simp];exact go (m / 2^8) (s+8) (by omega) (by omega) (by rw [e,Nat.div_div_eq_div_mul,<- Nat.pow_add]) (.inr (by omega))
  ·rw [d7 (by simp;omega)];exact go m s (by omega) (by omega) e d
 have i:∀m s:Nat,m<4294967296->s<=32->m=n / 2^s->(s=0\/0<m)->∃k:Nat,k<=64/\((if decide ((m:Int)>=65536) then some (iN .u64 (m:Int) 16,w64 ((s:Int)+16)) else some ((m:Int),(s:Int))).bind λb=>
  (if decide (b.1>=256) then some (iN .u64 b.1 8,w64 (b.2+8)) else some (b.1,b.2)).bind λo=>
  (uJ ui (IntKind.u8.wrap o.1)).bind λa=>some (w64 (o.2+(w64 a))))=some (k:Int)/\n<2^k/\(n=0->k=0)/\(0<n->2^(k-1)<=n):=by
  intro m s C j e d;by_cases h:m>=65536
  ·rw [d8 (by simp;omega),q,show w64 ((s:Int)+16)=((s+16:Nat):Int) by rw [qo (by omega) (by omega)];simp];exact last (m / 2^16) (s+16) (by omega) (by omega) (by rw [e,Nat.div_div_eq_div_mul,<- Nat.pow_add]) (.inr (by omega))
  ·rw [d7 (by simp;omega)];exact last m s (by omega) (by omega) e d
 by_cases h:n>=4294967296
 ·rw [d8 (by simp;omega),p];exact i (n / 2^32) 32 (by omega) (by omega) rfl (.inr (by omega))
 ·rw [d7 (by simp;omega)];exact i n 0 (by omega) (by omega) (by simp) (.inl rfl)
end Go.Proofs.YtplmgfkghomelaaGreatDoor
