/- Lemmas. -/
import Derived.Test.YtplmgfkghomelaaGreatDoorKH1
set_option linter.all false
namespace Go.Proofs.YtplmgfkghomelaaGreatDoor
open Go.Sx
variable {p i:zf}{c j:Type}{b a o d m y c0 c2:Int}{x e:Bool}{v G:c}{f:jd}{q n N:Nat}{X:Prop}{z:j}{r:jd×Bool}{l:(Bool×zf)->Option (Bool×zf)}{C:Bool×zf}{h:Nat->(Unit->Option (Unit⊕c))->Unit->Option (Unit⊕c)}{D:Nat->Option c}{E:List zf}{I J:qz}{K L:Nat->Int}
def uH(n:Int):Bool:=decide (0<=n)&&decide (n<8)
def Qb(i:zf):Bool:=i.B==8||(uH i.B&&i.UN==0)
def inB(n l h:Int):Bool:=decide (l<=n)&&decide (n<=h)
def xg(i:zf):Bool:=
 if i.Op==0||i.Op==11 then uH i.D&&i.A==0&&Qb i
 else if inB i.Op 1 10 then uH i.D&&uH i.A&&Qb i
 else if i.Op==12 then i.D==0&&uH i.A&&Qb i
 else if i.Op==13 then uH i.D&&i.A==0&&i.B==0&&inB i.UN 0 1
 else if i.Op==14 then uH i.D&&i.A==0&&i.B==0&&inB i.UN 0 3
 else if i.Op==15 then inB i.D 0 63&&i.A==0&&i.B==0&&i.UN==0
 else if inB i.Op 16 19 then inB i.D 0 63&&uH i.A&&Qb i
 else if i.Op==20 then inB i.D 1 63&&uH i.A&&i.B==0&&inB i.UN 1 255
 else if i.Op==21 then i.D==0&&i.A==0&&i.B==0&&inB i.UN 0 6
 else if i.Op==22 then i.D==0&&uH i.A&&i.B==0&&i.UN==0
 else false
def eO(i:zf):Bool:=xg i&&inB i.Op 15 19
def mz(i:zf):Bool:=xg i&&i.Op==20
def jv(i:zf):Int×Bool×Bool:=
 if eO i then (i.D+1,true,i.Op !=15)
 else if mz i then (-i.D,true,true)
 else (0,false,xg i&&i.Op !=22)
theorem CH(n:Int):n<0\/n>=23\/n=0\/n=1\/n=2\/n=3\/n=4\/n=5\/n=6\/n=7\/n=8\/n=9\/n=10\/n=11\/n=12\/n=13\/n=14\/n=15\/n=16\/n=17\/n=18\/n=19\/n=20\/n=21\/n=22:=by omega
theorem EL(n:Int):ep n=some (uH n):=rfl
theorem Jz(n l h:Int):cP n l h=some (inB n l h):=rfl
def nu(p:zf)(s:Bool×zf)(c:Int):Bool×zf:=
 if c==100 then (s.1&&uH p.D,⟨s.2.Op,0,s.2.A,s.2.B,s.2.UN⟩)
 else if c==97 then (s.1&&uH p.A,⟨s.2.Op,s.2.D,0,s.2.B,s.2.UN⟩)
 else if c==115 then (if p.B==8 then (s.1,⟨s.2.Op,s.2.D,s.2.A,0,0⟩) else (s.1&&uH p.B,⟨s.2.Op,s.2.D,s.2.A,0,s.2.UN⟩))
 else if c==102 then (s.1&&inB p.UN 0 1,⟨s.2.Op,s.2.D,s.2.A,s.2.B,0⟩)
 else if c==109 then (s.1&&inB p.UN 0 3,⟨s.2.Op,s.2.D,s.2.A,s.2.B,0⟩)
 else if c==104 then (s.1&&inB p.UN 0 6,⟨s.2.Op,s.2.D,s.2.A,s.2.B,0⟩)
 else if c==110 then (s.1&&inB p.UN 1 255,⟨s.2.Op,s.2.D,s.2.A,s.2.B,0⟩)
 else if c==106 then (s.1&&inB p.D 0 63,⟨s.2.Op,0,s.2.A,s.2.B,s.2.UN⟩)
 else if c==98 then (s.1&&inB p.D 1 63,⟨s.2.Op,0,s.2.A,s.2.B,s.2.UN⟩)
 else s
theorem Ta:nu p (x,⟨o,d,a,b,m⟩) 100=(x&&uH p.D,⟨o,0,a,b,m⟩):=rfl
theorem Tb:nu p (x,⟨o,d,a,b,m⟩) 97=(x&&uH p.A,⟨o,d,0,b,m⟩):=rfl
theorem Tc:nu p (x,⟨o,d,a,b,m⟩) 115=(if p.B==8 then (x,⟨o,d,a,0,0⟩) else (x&&uH p.B,⟨o,d,a,0,m⟩)):=rfl
theorem Td:nu p (x,⟨o,d,a,b,m⟩) 102=(x&&inB p.UN 0 1,⟨o,d,a,b,0⟩):=rfl
theorem Te:nu p (x,⟨o,d,a,b,m⟩) 109=(x&&inB p.UN 0 3,⟨o,d,a,b,0⟩):=rfl
theorem Tf:nu p (x,⟨o,d,a,b,m⟩) 104=(x&&inB p.UN 0 6,⟨o,d,a,b,0⟩):=rfl
theorem Tg:nu p (x,⟨o,d,a,b,m⟩) 110=(x&&inB p.UN 1 255,⟨o,d,a,b,0⟩):=rfl
theorem Th:nu p (x,⟨o,d,a,b,m⟩) 106=(x&&inB p.D 0 63,⟨o,0,a,b,m⟩):=rfl
theorem Ti:nu p (x,⟨o,d,a,b,m⟩) 98=(x&&inB p.D 1 63,⟨o,0,a,b,m⟩):=rfl
theorem rh{j c:Type}{d:j->Option c}{A B:Option c}{a b:j}(h:A=d a)(e:B=d b):(if x then A else B)=d (if x then a else b):=by
 grind
theorem uI{c:Type}{a:(Bool×j)->Option c}:(if x then a (e,z) else a (false,z))=a (x&&e,z):=by
 cases x<;>simp
theorem EN(h:wo r.1.UR (q:Int)=some b):
  iZ p r q l C=l (nu p C b):=by
 unfold iZ nu;simp only [h,zbs,EL,Jz];refine rh uI ?_;refine rh uI ?_;refine rh (rh rfl uI) ?_
 grind
def fin(x:Bool×zf):Bool:=x.1&&((x.2.Op==0)&&((x.2.D==0)&&((x.2.A==0)&&((x.2.B==0)&&(x.2.UN==0)))))
theorem AZ(a:fg p.Op=some (f,true))(b:f.UR.size<=3)
  (h:jN (iZ p (f,true)) (λ(s:Bool×zf)=>(s.1,s.2)) f.UR.size 0 (true,{p with Op:=0})=some C):vX p=some (fin C):=by
 have c:room f.UR.size 1=some ():=by grind [room]
 unfold vX fin
 grind
theorem Sq(h:fg p.Op=some (f,true))(a:f.UR.size=1)(b:wo f.UR 0=some c0):
  vX p=some (fin (nu p (true,{p with Op:=0}) c0)):=by
 grind [AZ,jN,EN]
theorem RS{c0:Int}{c1:Int}(h:fg p.Op=some (f,true))(a:f.UR.size=2)(b:wo f.UR 0=some c0)(c:wo f.UR 1=some c1):
  vX p=some (fin (nu p (nu p (true,{p with Op:=0}) c0) c1)):=by
 refine AZ h (by omega) ?_;rw [a];simp only [jN]
 grind [EN]
theorem Sr{c0:Int}{c1:Int}(h:fg p.Op=some (f,true))(a:f.UR.size=3)(b:wo f.UR 0=some c0)(c:wo f.UR 1=some c1)(d:wo f.UR 2=some c2):
  vX p=some (fin (nu p (nu p (nu p (true,{p with Op:=0}) c0) c1) c2)):=by
 refine AZ h (by omega) ?_;rw [a];simp only [jN]
 grind [EN]
theorem fJ(i:zf):vX i=some (xg i):=by
 have c:=CH i.Op;obtain ⟨op,d,a,b,m⟩:=i;simp only at c
 have out:op<0\/op>=23->vX ⟨op,d,a,b,m⟩=some (xg ⟨op,d,a,b,m⟩):=by
  intro h;have e:fg op=some (⟨ByteArray.empty,ByteArray.empty⟩,false):=by unfold fg;rw [d7 (by simp;omega)]
  have k:∀k:Int,0<=k->k<=22->(op==k)=false:=by intro k n o;simp;omega
  have j:inB op 1 10=false:=by simp [inB];omega
  have l:inB op 16 19=false:=by simp [inB];omega
  have r:xg ⟨op,d,a,b,m⟩=false:=by
   unfold xg;simp only [k 0 (by decide) (by decide),k 11 (by decide) (by decide),k 12 (by decide) (by decide),k 13 (by decide) (by decide),k 14 (by decide) (by decide),k 15 (by decide) (by decide),k 20 (by decide) (by decide),k 21 (by decide) (by decide),k 22 (by decide) (by decide),j,l];rfl
  unfold vX;rw [r];simp [e]
 rcases c with h|h|h|h|h|h|h|h|h|h|h|h|h|h|h|h|h|h|h|h|h|h|h|h|h
 ·exact out (.inl h)
 ·exact out (.inr h)
 all_goals subst h
 all_goals
  first
   |rw [RS (c0:=100) (c1:=115) rfl rfl rfl rfl]
   |rw [Sr (c0:=100) (c1:=97) (c2:=115) rfl rfl rfl rfl rfl]
   |rw [RS (c0:=97) (c1:=115) rfl rfl rfl rfl]
   |rw [RS (c0:=100) (c1:=102) rfl rfl rfl rfl]
   |rw [RS (c0:=100) (c1:=109) rfl rfl rfl rfl]
   |rw [Sq (c0:=106) rfl rfl rfl]
   |rw [Sr (c0:=106) (c1:=97) (c2:=115) rfl rfl rfl rfl rfl]
   |rw [Sr (c0:=98) (c1:=97) (c2:=110) rfl rfl rfl rfl rfl]
   |rw [Sq (c0:=104) rfl rfl rfl]
   |rw [Sq (c0:=97) rfl rfl rfl]
  congr 1
  simp only [Ta,Tb,Tc,Td,Te,Tf,Tg,Th,Ti,fin,xg,Qb];cases f:(b==8)
  ·simp [f,inB]
   try (rw [Bool.eq_iff_iff];simp;constructor<;>intro h<;>simp_all;done)
  ·simp only [x3] at f;subst f;simp [inB]
   try (rw [Bool.eq_iff_iff];simp;constructor<;>intro h<;>simp_all;done)
theorem JA(op:Int)(b:0<=op)(c:op<23):∃f,fg op=some (f,true)/\jx f 106=some (inB op 15 19)/\jx f 98=some (op==20):=by
 have a:=CH op;rcases a with h|h|h|h|h|h|h|h|h|h|h|h|h|h|h|h|h|h|h|h|h|h|h|h|h
 ·omega
 ·omega
 all_goals subst h
 all_goals exact ⟨_,rfl,rfl,rfl⟩
theorem CI(h:xg i=true):0<=i.Op/\i.Op<23:=by
 rcases Int.lt_or_le i.Op 0 with a|a
 ·exfalso
  have k:∀k:Int,0<=k->(i.Op==k)=false:=by grind
  unfold xg inB at h;simp only [k 0 (by decide),k 11 (by decide),k 12 (by decide),k 13 (by decide),k 14 (by decide),k 15 (by decide),k 20 (by decide),k 21 (by decide),k 22 (by decide)] at h
  grind
 ·refine ⟨a,?_⟩;rcases Int.lt_or_le i.Op 23 with b|b
  ·exact b
  ·exfalso
   have k:∀k:Int,k<=22->(i.Op==k)=false:=by grind
   unfold xg inB at h;simp only [k 0 (by decide),k 11 (by decide),k 12 (by decide),k 13 (by decide),k 14 (by decide),k 15 (by decide),k 20 (by decide),k 21 (by decide),k 22 (by decide)] at h
   grind
theorem sV(h:eO i=true):0<=i.D/\i.D<=63/\15<=i.Op/\i.Op<=19:=by
 unfold eO at h;simp only [zae] at h;obtain ⟨b,c⟩:=h;have a:15<=i.Op/\i.Op<=19:=by grind [inB]
 refine ⟨?_,?_,a⟩<;>
 grind [inB,xg]
theorem F7(h:mz i=true):1<=i.D/\i.D<=63/\i.Op=20/\1<=i.UN/\i.UN<=255:=by
 unfold mz at h;simp only [zae,x3] at h;obtain ⟨e,c⟩:=h;obtain ⟨op,d,a,b,m⟩:=i;simp only at c;subst c
 grind [xg,inB]
theorem nX(i:zf):lW i=some (jv i):=by
 unfold lW;rw [fJ];simp only [zbs];cases h:xg i with
 |false=>simp [jv,eO,mz,h]
 |true=>
  obtain ⟨f,b,c,d⟩:=JA i.Op (CI h).1 (CI h).2;simp only [b,zbs,c,d];cases a:inB i.Op 15 19 with
  |true=>
   have:=sV (i:=i) (by grind [eO])
   grind [jv,eO,qq]
  |false=>
   cases hl:(i.Op==20) with
   |true=>
    have:=F7 (i:=i) (by simp [mz,h,hl]);have e:w64 (0-i.D)= -i.D:=by grind [qq]
    simp only [jv,eO,mz,h,a,hl,e];rfl
   |false=>
    simp [jv,eO,mz,h,a,hl]
open Go.Sx
def fI{c:Type}(g:Nat->Option c):Nat->Nat->Option c
 |0,_=>none
 |n+1,i=>match g i with
  |some v=>some v
  |none=>fI g n (i+1)
def AB{c:Type}:Option c->Unit⊕c
 |some v=>.inr v
 |none=>.inl ()
theorem QQ(g:Nat->Option c)
  (b:∀j a,j<N->h j a ()=match g j with|some v=>some (.inr v)|none=>a ()):
  ∀(n i:Nat),i+n=N->jN h (λ_=>(.inl ())) n i ()=some (AB (fI g n i)):=by
 intro n
 induction n with
 |zero=>intro i _;rfl
 |succ n d=>
  intro i e;show h i (jN h _ n (i+1)) ()=_;rw [b i _ (by omega)];unfold fI;cases g i with
  |some v=>rfl
  |none=>exact d (i+1) (by omega)
theorem rT(g:Nat->Option c)
 (b:∀j a,j<N->h j a ()=match g j with|some v=>some (.inr v)|none=>a ()):
 jN h (λ_=>(.inl ())) N 0 ()=some (AB (fI g N 0)):=QQ g b N 0 (by omega)
theorem gV:∀{n i:Nat},fI D n i=some v->∃j,i<=j/\j<i+n/\D j=some v/\∀q,i<=q->q<j->D q=none:=by
 intro n
 induction n with
 |zero=>intro i h;cases h
 |succ n a=>
  grind [fI]
theorem gW:∀{n i:Nat},fI D n i=none->∀q,i<=q->q<i+n->D q=none:=by
 intro n
 induction n with
 |zero=>intro i _ q h a;omega
 |succ n b=>
  grind [fI]
theorem Ea:∀{n i:Nat},(∀q,i<=q->q<i+n->D q=none)->fI D n i=none:=by
 intro n
 induction n with
 |zero=>intro i _;rfl
 |succ n a=>
  grind [fI]
theorem KF{a:Type}{x:List a}(h:q<x.length):idx x (q:Int)=some x[q]:=by
 simp [Go.Sx.idx,h]
def Eb(n:Int)(p:Int)(i:zf):Int:=
 if !xg i then 12
 else if (jv i).2.1&&(decide (p+(jv i).1<0)||decide (p+(jv i).1>=n)) then 30
 else if (jv i).2.2&&p==n-1 then 36 else 0
theorem wQ(i:zf): -63<=(jv i).1/\(jv i).1<=64:=by
 unfold jv;split
 ·rename_i h;have:=sV h;simp;omega
 ·split
  ·rename_i h;have:=F7 h;simp;omega
  ·simp
def fR(code:List zf)(p:Nat):Option (Int×Int):=match code[p]? with
 |some i=>if Eb code.length p i=0 then none else some ((p:Int),Eb code.length p i)
 |none=>none
theorem I0(code:List zf)(k:code.length<=64):io code=some ((fI (fR code) code.length 0).getD (0,0)):=by
 unfold io;rw [rT (fR code) (N:=code.length)]
 ·simp only [zbs];cases fI (fR code) code.length 0<;>rfl
 ·intro j a b;unfold oz;have c:code[j]? =some code[j]:=zeg b;generalize d:code[j]=x at c;have l:=wQ x;have e:w64 ((j:Int)+(jv x).1)=j+(jv x).1:=qq (by omega) (by omega);have f:w64 ((code.length:Int)-1)=code.length-1:=qq (by omega) (by omega)
  have i:fW [x]=some (xg x):=by
   unfold fW;simp only [List.length_singleton,jN,mS];rcases zft (xg x) with h|h<;>simp [Go.Sx.idx,fJ,h]
  simp only [KF b,d,zbs,nX,i,e,f,fR,c,Eb]
  grind
def AC(code:List zf):Prop:=∀(p:Nat)(i:zf),code[p]? =some i->Eb code.length p i=0
theorem Ox(h:fI (fR E) E.length 0=none):AC E:=by
 intro p i a;have b:=(zes.1 a).1;have:=gW h p (by omega) (by omega)
 grind [fR]
theorem I1(h:AC E):fI (fR E) E.length 0=none:=by
 refine Ea (λq _ b=> ?_);have a:=zeg (show q<E.length by omega);unfold fR;rw [a];simp only [h q _ a,q9]
theorem AC.right{code:List zf}(h:AC code)(a:code[q]? =some i):xg i=true:=by
 have:=h q i a
 grind [Eb,xg]
theorem AC.leads(h:AC E)(a:E[q]? =some i)(hl:(jv i).2.1=true):0<=(q:Int)+(jv i).1/\(q:Int)+(jv i).1<E.length:=by
 have:=h q i a;unfold Eb at this
 grind
theorem AC.on(h:AC E)(a:E[q]? =some i)(hl:(jv i).2.2=true):q+1<E.length:=by
 have c:=(zes.1 a).1;have b:=h q i a;unfold Eb at b
 grind
theorem AC.loop(h:AC E)(a:E[q]? =some i)(c:i.Op=20):1<=i.D/\i.D<=q/\1<=i.UN/\i.UN<=255/\q+1<E.length:=by
 have f:=h.right a;have hl:mz i=true:=by grind [mz]
 have d:eO i=false:=by simp [eO,inB,c]
 have b:jv i=(-i.D,true,true):=by simp [jv,hl,d]
 have e:=h.leads a (by rw [b]);have j:=h.on a (by rw [b]);rw [b] at e;have k:=F7 hl
 grind
def jH(i:zf)(p:Nat):qz:=⟨(p:Int)-i.D,p,i.UN⟩
def lps(code:List zf):Nat->List qz
 |0=>[]
 |k+1=>match code[k]? with
  |some i=>if i.Op==20 then lps code k++[jH i k] else lps code k
  |none=>lps code k
theorem AD(code:List zf):∀k,(lps code k).length<=k
 |0=>k9 _
 |k+1=>by
  have:=AD code k
  grind [lps]
theorem oV{code:List zf}{l:qz}:∀{k:Nat},l∈lps code k↔∃q i,q<k/\code[q]? =some i/\i.Op=20/\l=jH i q
 |0=>by simp [lps]
 |k+1=>by
  unfold lps;have a:= @oV code l k
  grind
theorem wR(code:List zf):∀k,(lps code k).Pairwise (λa b=>a.At<b.At)/\∀l∈lps code k,l.At<k
 |0=>⟨List.Pairwise.nil,by simp [lps]⟩
 |k+1=>by
  obtain ⟨c,d⟩:=wR code k;unfold lps;split
  ·split
   ·refine ⟨List.pairwise_append.2 ⟨c,List.pairwise_singleton _ _,λa e b h=> ?_⟩,λl hl=> ?_⟩
    ·simp at h;subst h;exact d a e
    ·rcases f8.1 hl with hl|hl
     ·grind
     ·simp at hl;subst hl;simp [jH];omega
   grind
  grind
theorem AE(f:E.length<=64)(c:AC E):ft E=some (lps E E.length):=by
 refine OK.is ?_;unfold ft;refine d6 (R:=λy=>y=lps E E.length) ?_ (λx a=>b9 a);refine i5 (λi s=>s=lps E i) rfl ?_ (λs h=>h);intro i s b d e k;subst e;unfold pE;refine g9 (i9 d (λx a=> ?_));have hl:=AD E i;refine d5 (λh=> ?_) (λh=> ?_)
 ·have j:=c.loop a (by simpa using h)
  grind [g9,OK.hasRoom,lps,jH,qq]
 grind [lps]
def qW(code:List zf)(p a:Nat):Bool:=match code[a]? with
 |some i=>i.Op==20&&decide ((a:Int)-i.D<=p)&&decide (p<=a)
 |none=>false
open Classical in
noncomputable def pick {c:Type} (X:Prop) (v:c):Option c:=if X then some v else none
theorem FU(h:X):pick X v=some v:=by grind [pick]
theorem FV(h:¬ X):pick X v=none:=by grind [pick]
theorem pK(h:pick X v=some G):X/\v=G:=by
 grind [pick]
theorem lA(h:pick X v=none):¬ X:=by
 grind [pick]
def Oy(X:Nat->Prop)(n:Nat):Option Nat->Prop
 |some l=>l<n/\X l/\∀q,q<l->¬ X q
 |none=>∀q,q<n->¬ X q
theorem Ec{X:Nat->Prop}{v:Nat->c}:∃o,Oy X n o/\fI (λl=>pick (X l) (v l)) n 0=o.map v:=by
 cases h:fI (λl=>pick (X l) (v l)) n 0 with
 |none=>exact ⟨none,λq a=>lA (gW h q (by omega) (by omega)),rfl⟩
 |some u=>
  obtain ⟨j,_,f,b,d⟩:=gV h;obtain ⟨e,rfl⟩:=pK b;exact ⟨some j,⟨by omega,e,λq a=>lA (d q (by omega) a)⟩,rfl⟩
def Crs(code:List zf)(l m:Nat):Prop:=∃i a,code[l]? =some i/\i.Op=20/\code[m]? =some a/\a.Op=20/\(l:Int)-i.D<=m/\(m:Int)-a.D<l-i.D
def Cr(code:List zf)(l:Nat):Prop:=∃m,m<l/\Crs code l m
theorem xD(h:E[n]? =some i)(a:i.Op=20):qW E q n=true↔(n:Int)-i.D<=q/\q<=n:=by
 grind [qW]
theorem uq{l:List qz}(b:l.Pairwise (λI J=>I.At<J.At))(e:l[q]? =some I)(f:l[n]? =some J):I.At<J.At↔q<n:=by
 obtain ⟨c,rfl⟩:=zes.1 e;obtain ⟨d,rfl⟩:=zes.1 f;constructor
 ·intro h;rcases Nat.lt_trichotomy q n with a|a|a
  ·exact a
  ·subst a;omega
  ·have:=List.pairwise_iff_getElem.1 b n q d c a;omega
 ·intro h;exact List.pairwise_iff_getElem.1 b q n c d h
theorem AF{a:Type}{x:List a}(h:q<=x.length):cut x 0 (q:Int)=some (x.take q):=by
 grind [cut]
theorem Oz(hn:E.length<=64)(hD:AC E):
  ∃o,Oy (Cr E) E.length o/\jN (fP (lps E E.length)) (λ_=>(.inl ())) (lps E E.length).length 0 ()=some (AB (o.map λ(l:Nat)=>((l:Int),(31:Int)))):=by
 have O:=(wR E E.length).1;have hl:=AD E E.length;generalize hls:lps E E.length=b at O hl |-
 have mem:∀{l:qz},l∈b↔∃q i,q<E.length/\E[q]? =some i/\i.Op=20/\l=jH i q:=by
  grind [oV]
 have main:jN (fP b) (λ_=>(.inl ())) b.length 0 ()=some (AB (fI (λk=>match b[k]? with|some l=>pick (Cr E l.At.toNat) (l.At,(31:Int))|none=>none) b.length 0)):=by
  refine rT _ (N:=b.length) ?_;intro k r F;have n:=zeg F;generalize hi:b[k]=x at n;obtain ⟨q,i,P,s,G,rfl⟩:=mem.1 (zmg n);unfold fP;have S:(b.take k).length=k:=by grind
  have inner:jN (kz (jH i q) (b.take k)) (λ_=>(.inl ())) k 0 ()=some (AB (fI (λm=>match b[m]? with|some l=>pick (Crs E q l.At.toNat) ((q:Int),(31:Int))|none=>none) k 0)):=by
   refine rT _ (N:=k) ?_;intro m r T;have t:m<b.length:=by omega
   have d:=zeg t;generalize I:b[m]=y at d
   have U:idx (b.take k) (m:Int)=some y:=by
    grind [KF]
   obtain ⟨a,c,J,f,p,rfl⟩:=mem.1 (zmg d);unfold kz;simp only [U,d,zbs];have e:((jH c a).At).toNat=a:=by simp [jH]
   rw [e];by_cases u:Crs E q a
   ·rw [FU u];obtain ⟨K,Q,w,_,R,_,c1,c2⟩:=u;rw [s] at w;cases w;rw [f] at R;cases R
    have:(decide ((jH c a).At>=(jH i q).Vm)&&decide ((jH c a).Vm<(jH i q).Vm))=true:=by
     have V:(jH c a).At=a:=rfl;have W:(jH i q).Vm=q-i.D:=rfl;have X:(jH c a).Vm=a-c.D:=rfl;simp only [V,W,X,zae,zdq];exact ⟨c1,c2⟩
    simp only [this];rfl
   ·rw [FV u]
    have:(decide ((jH c a).At>=(jH i q).Vm)&&decide ((jH c a).Vm<(jH i q).Vm))=false:=by
     cases h:(decide ((jH c a).At>=(jH i q).Vm)&&decide ((jH c a).Vm<(jH i q).Vm)) with
     |false=>rfl
     |true=>
      exfalso;apply u
      have V:(jH c a).At=a:=rfl;have W:(jH i q).Vm=q-i.D:=rfl;have X:(jH c a).Vm=a-c.D:=rfl;simp only [V,W,X,zae,zdq] at h;exact ⟨i,c,s,G,f,p,h.1,h.2⟩
    grind
  simp only [KF F,hi,n,zbs,AF (Nat.le_of_lt F),S,inner];have e:((jH i q).At).toNat=q:=by simp [jH]
  rw [e];cases z:fI (λm=>match b[m]? with|some l=>pick (Crs E q l.At.toNat) ((q:Int),(31:Int))|none=>none) k 0 with
  |some v=>
   obtain ⟨m,_,h2,L,_⟩:=gV z;have t:m<b.length:=by omega
   have d:=zeg t;rw [d] at L;obtain ⟨A,rfl⟩:=pK L;have B:=(uq O d n).2 (by omega);obtain ⟨a,c,J,f,p,e'⟩:=mem.1 (zmg d);rw [e'] at A B;rw [FU ⟨a,by grind [jH],by grind [jH]⟩];rfl
  |none=>
   have h0:=gW z;rw [FV]
   ·rfl
   ·rintro ⟨m,T,A⟩;obtain ⟨K,Q,w,_,R,e4,c1,c2⟩:=id A;have M:=mem.2 ⟨m,Q,by omega,R,e4,rfl⟩;obtain ⟨j,I,C⟩:=w6.1 M;have d:=zeg I;rw [C] at d;have B:=(uq O d n).1 (by grind [jH])
    grind [lA,jH]
 cases z:fI (λk=>match b[k]? with|some l=>pick (Cr E l.At.toNat) (l.At,(31:Int))|none=>none) b.length 0 with
 |none=>
  refine ⟨none,λq P u=> ?_,by rw [main,z];rfl⟩;obtain ⟨m,T,K,Q,w,Y,_⟩:=id u;obtain ⟨j,I,C⟩:=w6.1 (mem.2 ⟨q,K,P,w,Y,rfl⟩);have:=gW z j (by omega) (by omega)
  grind [lA,jH]
 |some v=>
  obtain ⟨k,_,h2,L,h4⟩:=gV z;have F:k<b.length:=by omega
  have n:=zeg F;rw [n] at L;obtain ⟨u,rfl⟩:=pK L;obtain ⟨q,i,P,s,G,e⟩:=mem.1 (zmg n);refine ⟨some q,⟨P,?_,λa J Z=> ?_⟩,?_⟩
  ·grind [jH]
  ·obtain ⟨m,T,K,Q,w,Y,_⟩:=id Z;obtain ⟨j,I,C⟩:=w6.1 (mem.2 ⟨a,K,by omega,w,Y,rfl⟩);have d:=zeg I;have B:=(uq O d n).1 (by grind [jH])
   grind [lA,jH]
  ·rw [main,z,e];rfl
def En(code:List zf)(p:Nat):Prop:=∃i,code[p]? =some i/\(jv i).2.1=true/\0<(jv i).1/\∃a b t,a<code.length/\code[a]? =some b/\b.Op=20/\(t:Nat)=(p:Int)+(jv i).1/\qW code t a=true/\qW code p a=false/\(t:Int)≠a-b.D
theorem OB(R:E.length<=64)(S:AC E):
  jN (kB E (lps E E.length)) (λ_=>(.inl ())) E.length 0 ()=some (AB (fI (λp=>pick (En E p) ((p:Int),(31:Int))) E.length 0)):=by
 refine rT _ (N:=E.length) ?_;intro p b z;have o:=zeg z;generalize J:E[p]=x at o;have T:=wQ x;have K:w64 ((p:Int)+(jv x).1)=p+(jv x).1:=qq (by omega) (by omega);have hl:=AD E E.length
 have inner:jN (kA (lps E E.length) p (jv x)) (λ_=>(.inl ())) (lps E E.length).length 0 ()=
   some (AB (fI (λk=>match (lps E E.length)[k]? with|some l=>pick ((jv x).2.1=true/\0<(jv x).1/\¬ (l.Vm<=p/\(p:Int)<=l.At)/\(l.Vm<=p+(jv x).1/\p+(jv x).1<=l.At)/\p+(jv x).1≠l.Vm) ((p:Int),(31:Int))|none=>none) (lps E E.length).length 0)):=by
  refine rT _ (N:=(lps E E.length).length) ?_;intro k b n;have c:=zeg n;generalize r:(lps E E.length)[k]=y at c;unfold kA;simp only [KF n,r,c,zbs,oR,K]
  grind [jv,FU,FV]
 unfold kB;simp only [KF z,J,zbs,nX,inner];cases A:fI (λk=>match (lps E E.length)[k]? with|some l=>pick ((jv x).2.1=true/\0<(jv x).1/\¬ (l.Vm<=p/\(p:Int)<=l.At)/\(l.Vm<=p+(jv x).1/\p+(jv x).1<=l.At)/\p+(jv x).1≠l.Vm) ((p:Int),(31:Int))|none=>none) (lps E E.length).length 0 with
 |some v=>
  obtain ⟨k,_,U,B,_⟩:=gV A;have n:k<(lps E E.length).length:=by omega
  have c:=zeg n;rw [c] at B;obtain ⟨⟨s,c2,C,D,F⟩,rfl⟩:=pK B;obtain ⟨q,i,L,d,h,e⟩:=oV.1 (zmg c);rw [e] at C D F;simp only [jH] at C D F;have G:0<=(p:Int)+(jv x).1:=by omega
  have u:qW E p q=false:=by
   grind [qW,xD]
  have M:En E p:=⟨x,o,s,c2,q,i,((p:Int)+(jv x).1).toNat,L,d,h,by omega,(xD d h).2 (by omega),u,by omega⟩
  rw [FU M];rfl
 |none=>
  have O:=gW A;rw [FV]
  ·rfl
  ·rintro ⟨V,f,s,c2,a,I,t,P,m,h,W,v1,X,Y⟩;rw [o] at f;cases f;obtain ⟨j,r,w⟩:=w6.1 (oV.2 ⟨a,I,P,m,h,rfl⟩:jH I a∈lps E E.length);have:=O j (by omega) (by omega);rw [zeg r,w] at this;refine lA this ⟨s,c2,?_,?_,?_⟩
   ·intro Q;simp only [jH] at Q
    grind [xD]
   ·have:=(xD m h).1 v1
    grind [jH]
   grind [jH]
def cW(code:List zf)(p:Nat):Nat->Int
 |0=>1
 |k+1=>match code[k]? with
  |some i=>if qW code p k then cW code p k*(i.UN+1) else cW code p k
  |none=>cW code p k
def wF(code:List zf):Nat->Int
 |0=>0
 |k+1=>wF code k+cW code k code.length
theorem I2(a:E[n]? =some i)(h:qW E q n=true):i.Op=20:=by
 grind [qW]
theorem pL{code:List zf}(h:AC code)(p:Nat):∀k,1<=cW code p k
 |0=>by simp [cW]
 |k+1=>by
  have a:=pL h p k;unfold cW;split
  ·rename_i i b
   split
   ·rename_i c
    have d:=h.loop b (I2 b c);have:1*1<=cW code p k*(i.UN+1):=Int.mul_le_mul a (by omega) (by omega) (by omega);omega
   ·exact a
  ·exact a
theorem ur{code:List zf}(h:AC code):∀k:Nat,(k:Int)<=wF code k
 |0=>by simp [wF]
 |k+1=>by
  have:=ur h k;have a:=pL h k code.length;unfold wF;omega
theorem I3(code:List zf)(k:Nat):wF code (k+1)=wF code k+cW code k code.length:=rfl
def mn(x:Int):Int:=if x<=257 then x else 257
theorem QR(d:1<=a)(c:1<=b):mn (mn a*b)=mn (a*b):=by
 unfold mn;by_cases h:a<=257
 ·rw [d7 h]
 ·rw [d8 h];have e:257*1<=257*b:=Int.mul_le_mul_of_nonneg_left c (by decide);have f:258*1<=a*b:=Int.mul_le_mul (by omega) c (by decide) (by omega)
  grind
theorem QS(h:0<=a)(c:0<=b):mn (mn a+mn b)=mn (a+b):=by
 grind [mn]
theorem I4(x:Int):od x 257=mn x:=by grind [od,mn]
theorem LC(x:Int):mn x<=257/\mn x<=x:=by grind [mn]
def og(p:Int):List qz->Int->Int
 |[],s=>s
 |l::r,s=>og p r (if decide (p>=l.Vm)&&decide (p<=l.At) then s*(l.VC+1) else s)
theorem gh(p:Int)(l:List qz):∀(a:List qz)(s:Int),og p (a++l) s=og p l (og p a s)
 |[],s=>rfl
 |x::r,s=>by simp only [Ts,og];exact gh p l r _
theorem ut(code:List zf)(p:Nat):∀k,og p (lps code k) 1=cW code p k
 |0=>rfl
 |k+1=>by
  have i:=ut code p k;unfold lps cW
  grind [gh,og,jH,qW,xD]
theorem Sl(y:E.length<=64)(j:AC E)(p:Nat):
  jN (mU (lps E E.length) p) (λ(s:Int)=>s) (lps E E.length).length 0 1=some (mn (cW E p E.length)):=by
 have a:∀(k:Nat)(l:qz),(lps E E.length)[k]? =some l->1<=l.VC/\l.VC<=255:=by
  intro k l hl;obtain ⟨q,i,_,m,n,rfl⟩:=oV.1 (zmg hl);have:=j.loop m n
  grind [jH]
 rw [<- ut E p E.length];generalize lps E E.length=c at a;refine OK.is ?_;refine i5 (λ(i:Nat)(s:Int)=>s=mn (og p (c.take i) 1)/\1<=og p (c.take i) 1) ⟨by simp [og,mn],by simp [og]⟩ ?_ (λs h=>by rw [h.1];simp);intro i s d o ⟨z,r⟩ k;unfold mU;refine g9 (i9 o (λx e=> ?_));have A:=a i x e
 have b:c.take (i+1)=c.take i++[x]:=by
  rw [yh,e];rfl
 simp only [oR,zbs];have t:=LC (og p (c.take i) 1);have u:1<=s:=by grind [mn]
 refine d5 (λf=> ?_) (λf=> ?_)
 ·have v:w64 (x.VC+1)=x.VC+1:=qq (by omega) (by omega);have B:s*(x.VC+1)<=257*256:=Int.mul_le_mul (by omega) (by omega) (by omega) (by omega);have C:0<=s*(x.VC+1):=Int.mul_nonneg (by omega) (by omega);have w:w64 (s*(x.VC+1))=s*(x.VC+1):=qq (by omega) (by omega);rw [v,w,I4];refine k _ ⟨?_,?_⟩
  ·grind [gh,og,QR]
  ·rw [b,gh];simp only [og,f,q9];have:1*1<=og p (c.take i) 1*(x.VC+1):=Int.mul_le_mul r (by omega) (by omega) (by omega);omega
 grind [gh,og]
theorem LF(c:E.length<=64)(a:AC E):mV E=some (mn (wF E E.length)):=by
 unfold mV;rw [AE c a];simp only [zbs];refine OK.is ?_;refine d6 (R:=λy=>y=mn (wF E E.length)) ?_ (λx d=>b9 d);refine i5 (λ(i:Nat)(s:Int)=>s=mn (wF E i)) (by simp [wF,mn]) ?_ (λs h=>h);intro i s b f e k;subst e;unfold sQ;rw [Sl c a i];simp only [zbs];have j:=LC (cW E i E.length);have l:=LC (wF E i);have m:=pL a i E.length;have n:=ur a i;have p:1<=mn (cW E i E.length):=by grind [mn]
 grind [mn,wF,qq,I4,I3,QS]
open Go.Sx
structure wj (code:List zf):Prop where
 n1:1<=code.length
 Wq:code.length<=64
 Vd:AC code
 cr:∀l,l<code.length->¬ Cr code l
 en:∀p,p<code.length->¬ En code p
 WH:wF code code.length<=256
theorem GV(h:E.length<=64)(a:AC E):
  ∃o,Oy (Cr E) E.length o/\ip E=some (match o with|some l=>((l:Int),31)|none=>(fI (λp=>pick (En E p) ((p:Int),(31:Int))) E.length 0).getD (0,0)):=by
 obtain ⟨o,b,c⟩:=Oz h a;refine ⟨o,b,?_⟩;unfold ip;rw [AE h a];simp only [zbs,c,OB h a];cases o with
 |some l=>rfl
 |none=>cases fI (λp=>pick (En E p) ((p:Int),(31:Int))) E.length 0<;>rfl
theorem ul(code:List zf):∃r,fv code=some r/\(r.1=0\/0<=r.1/\r.1<code.length)/\(r.2=0->r.1=0/\wj code)/\(wj code->r.2=0):=by
 unfold fv;by_cases q:code.length=0
 ·refine ⟨(0,10),?_,.inl rfl,by simp,λh=>by have:=h.n1;omega⟩;simp [q]
 ·have s:((code.length:Int)==0)=false:=by simp;exact λh=>q (by simp [h])
  by_cases y:64<code.length
  ·have k:decide ((code.length:Int)>64)=true:=by simp;omega
   refine ⟨(0,11),?_,.inl rfl,by simp,λh=>by have:=h.Wq;omega⟩;simp only [s,k];rfl
  ·have k:decide ((code.length:Int)>64)=false:=by simp;omega
   have c:code.length<=64:=by omega
   simp only [s,k,I0 code c,zbs];cases d:fI (fR code) code.length 0 with
   |some v=>
    obtain ⟨j,_,z,b,_⟩:=gV d
    have a:v.2≠0/\v.1=j:=by
     unfold fR at b;split at b
     ·split at b
      ·cases b
      ·rename_i t;cases b;exact ⟨t,rfl⟩
     ·cases b
    refine ⟨v,?_,.inr ⟨by rw [a.2];omega,by rw [a.2];omega⟩,λh=>absurd h a.1,λh=> ?_⟩
    ·have:(v.2 !=0)=true:=by simpa using a.1
     simp [this]
    ·rw [I1 h.Vd] at d;cases d
   |none=>
    have m:=Ox d;obtain ⟨o,e,u⟩:=GV c m;simp only [u,zbs,Option.getD_none];cases o with
    |some l=>
     have:=e.1;refine ⟨((l:Int),31),by simp,.inr ⟨by simp,by simpa using this⟩,by simp,λh=>absurd e.2.1 (h.cr l e.1)⟩
    |none=>
     obtain ⟨p,f,w⟩:=Ec (X:=En code) (n:=code.length) (v:=λp=>((p:Int),(31:Int)));rw [w];cases p with
     |some l=>
      have:=f.1;exact ⟨((l:Int),31),by simp,.inr ⟨by simp,by simpa using this⟩,by simp,λh=>absurd f.2.1 (h.en l f.1)⟩
     |none=>
      simp only [LF c m,zbs,Option.map_none,Option.getD_none];have x:=LC (wF code code.length);by_cases i:mn (wF code code.length)>256
      ·refine ⟨(0,32),by simp [i],.inl rfl,by simp,λh=> ?_⟩;have:=h.WH;omega
      ·refine ⟨(0,0),by simp [i],.inl rfl,λ_=>⟨rfl,⟨by omega,c,m,e,f,?_⟩⟩,λ_=>rfl⟩;unfold mn at i;split at i<;>omega
theorem GW(h:wj E):fv E=some (0,0):=by
 obtain ⟨r,d,_,e,f⟩:=ul E;have:=f h;have c:=(e this).1;rw [d];obtain ⟨a,b⟩:=r;simp only at this c;subst this;subst c;rfl
theorem wP(h:wj E):lj E=some (lps E E.length,0):=by
 unfold lj;rw [GW h];simp [AE h.Wq h.Vd]
open Go.Sx
def rem(code:List zf)(back:Nat->Int)(a:Nat):Int:=match code[a]? with
 |some i=>i.UN-back a
 |none=>0
def val(code:List zf)(back:Nat->Int)(q p:Nat):Nat->Int
 |0=>if q<=p then 1 else 0
 |k+1=>
  if qW code p k then
   (if qW code q k then val code back q p k+rem code back k*cW code p k else val code back q p k*(rem code (λ_=>0) k+1))
  else val code back q p k
theorem sb(h:n<E.length):cW E q (n+1)=if qW E q n then cW E q n*(rem E (λ_=>0) n+1) else cW E q n:=by
 grind [cW,qW,rem]
theorem cY(code:List zf)(back:Nat->Int)(q p k:Nat):val code back q p (k+1)=
  if qW code p k then
   (if qW code q k then val code back q p k+rem code back k*cW code p k else val code back q p k*(rem code (λ_=>0) k+1))
  else val code back q p k:=rfl
def Fit(code:List zf)(back:Nat->Int):Prop:=∀(a:Nat)(i:zf),code[a]? =some i->i.Op=20->0<=back a/\back a<=i.UN
section
variable {code:List zf} (g:wj code) {back back':Nat->Int}
include g
theorem kg{a:Nat}{p:Nat}(h:qW code p a=true):∃i,code[a]? =some i/\i.Op=20/\(a:Int)-i.D<=p/\p<=a/\1<=i.D/\1<=i.UN/\a<code.length/\i.D<=a:=by
 unfold qW at h;split at h
 ·rename_i i b
  simp only [zae,x3,zdq] at h;have:=g.Vd.loop b h.1.1
  grind
 ·cases h
theorem lH{a:Nat}(b:Fit code back){p:Nat}(h:qW code p a=true):0<=rem code back a/\rem code back a<=rem code (λ_=>0) a/\1<=rem code (λ_=>0) a:=by
 obtain ⟨i,c,d,_,_,_,e,_⟩:=kg g h;have:=b a i c d
 grind [rem]
theorem OY{a:Nat}{p b:Nat}(m:qW code p a=true)(n:qW code p b=true)(c:a<b):∀q,qW code q a=true->qW code q b=true:=by
 intro q o;obtain ⟨i,e,r,t,u,v,w,x,y⟩:=kg g m;obtain ⟨f,j,k,z,A,B,C,s,E⟩:=kg g n;obtain ⟨F,l,G,I,J,_⟩:=kg g o;rw [e] at l;cases l;refine (xD j k).2 ⟨?_,by omega⟩;have d:=g.cr b s;rcases Int.lt_or_le ((a:Int)-i.D) (b-f.D) with h|h
 ·exact absurd ⟨a,c,f,i,j,k,e,r,by omega,h⟩ d
 ·omega
theorem gX(p k:Nat):1<=cW code p k:=pL g.Vd p k
theorem nY(a:Fit code back)(q p:Nat):∀k,k<=code.length->(if q<=p then 1 else 0)<=val code back q p k:=by
 intro k
 induction k with
 |zero=>intro _;exact x4 _
 |succ k i=>
  intro d;have i:=i (by omega);rw [cY];have b:(0:Int)<=if q<=p then 1 else 0:=by split<;>omega
  generalize (if q<=p then (1:Int) else 0)=z at i b;by_cases h:qW code p k=true
  ·rw [d7 h];have c:=lH g a h;split
   ·have:0<=rem code back k*cW code p k:=Int.mul_nonneg c.1 (by have:=gX g p k;omega);omega
   ·have:val code back q p k*1<=val code back q p k*(rem code (λ_=>0) k+1):=Int.mul_le_mul_of_nonneg_left (by omega) (by omega);omega
  grind
theorem JB{q:Nat}{p:Nat}:∀k,k<=code.length->val code (λ_=>0) q p k<=cW code p k:=by
 intro k
 induction k with
 |zero=>intro _;simp only [val,cW];split<;>omega
 |succ k b=>
  intro f;have b:=b (by omega);rw [cY,sb (by omega)];split
  ·rename_i h
   have c:Fit code (λ_=>0):=λa i d e=>by have:=g.Vd.loop d e;exact ⟨x4 _,by simp only;omega⟩
   have j:=lH g c h;have l:=gX g p k;split
   ·grind
   ·exact TS b (by omega)
  ·exact b
theorem OZ{q:Nat}(e:Fit code back){t p:Nat}(s:q<t)(u:∀a,qW code t a=true->qW code q a=true\/∃i,code[a]? =some i/\(t:Int)=a-i.D)(v:∀a,qW code t a=true->back' a=back a/\0<=back' a)(F:p<code.length):
  val code back' t p code.length+(if q=p then 1 else 0)<=val code back q p code.length:=by
 by_cases f:t<=p
 ·
  have j:¬ q=p:=by omega
  rw [d8 j]
  have main:∀k,k<=code.length->val code back' t p k<=val code back q p k/\((∀a,a<k->qW code p a=true->qW code q a=false)->val code back q p k=cW code p k):=by
   intro k
   induction k with
   |zero=>intro _;simp only [val,cW];rw [d7 f,d7 (by omega)];exact ⟨x4 _,λ_=>rfl⟩
   |succ k r=>
    intro w;obtain ⟨x,y⟩:=r (by omega);rw [cY,cY,sb (by omega)];by_cases b:qW code p k=true
    ·rw [d7 b,d7 b,d7 b];have z:=lH g e b;have A:=gX g p k;have l:=nY g e q p k (by omega);rw [d7 (by omega)] at l;by_cases B:qW code q k=true
     ·grind [kg,qW,xD,rem]
     ·have m:qW code q k=false:=by simpa using B
      simp only [m,zfe,x5]
      have h:∀a,a<k->qW code p a=true->qW code q a=false:=by
       grind [qW,OY]
      have c:=y h;by_cases d:qW code t k=true
      ·rw [d7 d];refine ⟨?_,λ_=>by rw [c]⟩;have C:=v k d
       have n:rem code back' k<=rem code (λ_=>0) k:=by
        grind [kg,rem]
       have:rem code back' k*cW code p k<=rem code (λ_=>0) k*cW code p k:=TS n (by omega);rw [c,Int.mul_add,Int.mul_one,Int.mul_comm (cW code p k)];omega
      ·rw [d8 d];exact ⟨TS x (by omega),λ_=>by rw [c]⟩
    grind
  grind
 ·
  have E:p<t:=by omega
  have o:∀a,qW code p a=true->qW code t a=true->qW code q a=true:=by
   grind [kg]
  have main:∀k,k<=code.length->(val code back' t p k+(if q=p then 1 else 0)<=val code back q p k/\(∃a,a<k/\qW code p a=true/\qW code t a=true))\/
    (val code back' t p k=0/\∀a,a<k->qW code p a=true->qW code t a=false):=by
   intro k
   induction k with
   |zero=>intro _;right;simp only [val];rw [d8 (by omega)];exact ⟨rfl,λa G=>by omega⟩
   |succ k r=>
    intro w;rw [cY,cY];by_cases b:qW code p k=true
    ·rw [d7 b,d7 b];have z:=lH g e b;have A:=gX g p k;have l:=nY g e q p k (by omega)
     grind [qW,rem,kg,OY]
    grind
  have l:=nY g e q p code.length (k9 _)
  grind
theorem L4{a:Nat}(E:Fit code back){h p:Nat}{i:zf}(e:code[a]? =some i)(l:i.Op=20)(V:(h:Int)=a-i.D)(W:back' a=back a+1)(F:∀b,b≠a->back' b=back b)(A:back a<i.UN)(X:p<code.length):
  val code back' h p code.length+(if a=p then 1 else 0)<=val code back a p code.length:=by
 have Y:=g.Vd.loop e l;have w:=(zes.1 e).1;have o:qW code a a=true:=(xD e l).2 ⟨by omega,by omega⟩;have q:qW code h a=true:=(xD e l).2 ⟨by omega,by omega⟩
 have r:∀b,b≠a->rem code back' b=rem code back b:=by
  grind [rem]
 by_cases f:h<=p/\p<=a
 ·have c:qW code p a=true:=(xD e l).2 ⟨by omega,by omega⟩
  have low:∀k,k<=a->val code back a p k=(if a<=p then 1 else 0)*cW code p k/\val code back' h p k<=cW code p k:=by
   intro k
   induction k with
   |zero=>intro _;simp only [val,cW];rw [d7 f.1];simp
   |succ k v=>
    intro G;obtain ⟨I,J⟩:=v (by omega);rw [cY,cY,sb (by omega)];by_cases d:qW code p k=true
    ·rw [d7 d,d7 d,d7 d];have K:=lH g E d;have L:=gX g p k
     have s:¬ qW code a k=true:=by
      grind [kg]
     rw [d8 s,I,Int.mul_assoc];refine ⟨rfl,?_⟩;split
     ·rw [r k (by omega)];have:rem code back k*cW code p k<=rem code (λ_=>0) k*cW code p k:=TS K.2.1 (by omega)
      grind
     ·exact TS J (by omega)
    grind
  have high:∀n,a+1+n<=code.length->val code back' h p (a+1+n)+(if a=p then 1 else 0)<=val code back a p (a+1+n):=by
   intro n
   induction n with
   |zero=>
    intro _;obtain ⟨M,Z⟩:=low a (k9 _);rw [Nat.add_zero,cY,cY,d7 c,d7 c,d7 o,d7 q,M];have L:=gX g p a;have N:rem code back' a=rem code back a-1:=by grind [rem]
    rw [N,Int.sub_mul,Int.one_mul]
    grind
   |succ n v=>
    grind [cY,qW,OY]
  have:=high (code.length-(a+1)) (by omega)
  rwa [show a+1+(code.length-(a+1))=code.length by omega] at this
 ·have x:¬ a=p:=by omega
  rw [d8 x]
  have B:∀k,k<=code.length->val code back' h p k=val code back a p k:=by
   intro k
   induction k with
   |zero=>intro _;simp only [val];by_cases O:h<=p<;>by_cases P:a<=p<;>simp [O,P]<;>omega
   |succ k v=>
    intro G;rw [cY,cY,v (by omega)];by_cases d:qW code p k=true
    ·rw [d7 d,d7 d];obtain ⟨y,m,c2,c3,c4,c5,c6,Q,c8⟩:=kg g d
     have s:k≠a:=by
      grind
     have C:qW code h k=qW code a k:=by
      rw [Bool.eq_iff_iff];constructor
      ·intro j;obtain ⟨R,t,S,T,U,_⟩:=kg g j;rw [m] at t;cases t;rcases Nat.lt_or_ge k a with u|u
       ·
        exfalso
        exact g.cr a w ⟨k,u,i,y,e,l,m,c2,by omega,by omega⟩
       ·exact (xD m c2).2 ⟨by omega,by omega⟩
      ·intro j;obtain ⟨R,t,S,T,U,_⟩:=kg g j;rw [m] at t;cases t;have z:a<k:=by omega
       refine (xD m c2).2 ⟨?_,by omega⟩;rcases Int.lt_or_le ((a:Int)-i.D) (k-y.D) with u|u
       ·exact absurd ⟨a,z,y,i,m,c2,e,l,by omega,u⟩ (g.cr k Q)
       ·omega
     grind
    grind
  grind
end
def pot(code:List zf)(back:Nat->Int)(q:Nat):Nat->Int
 |0=>0
 |p+1=>pot code back q p+val code back q p code.length
theorem F8(a:q<E.length)(h:∀p,p<E.length->val E L N p E.length+(if q=p then 1 else 0)<=val E K q p E.length):
  pot E L N E.length+1<=pot E K q E.length:=by
 have main:∀n,n<=E.length->pot E L N n+(if q<n then 1 else 0)<=pot E K q n:=by
  intro n
  induction n with
  |zero=>intro _;simp [pot]
  |succ n i=>
   grind [pot]
 grind
theorem JD(g:wj E):pot E (λ_=>0) q E.length<=wF E E.length:=by
 have main:∀n,n<=E.length->pot E (λ_=>0) q n<=wF E n:=by
  intro n
  induction n with
  |zero=>intro _;simp [pot,wF]
  |succ n i=>
   intro h;have:=i (by omega);have a:=JB g (q:=q) (p:=n) E.length (k9 _)
   grind [pot,wF]
 grind
theorem O0(g:wj E)(a:Fit E K)(b:q<E.length):1<=pot E K q E.length:=by
 have main:∀n,n<=E.length->(if q<n then 1 else 0)<=pot E K q n:=by
  intro n
  induction n with
  |zero=>intro _;simp [pot]
  |succ n i=>
   intro c;have:=i (by omega);have h:=nY g a q n E.length (k9 _);simp only [pot];by_cases e:q<=n
   ·rw [d7 e] at h;rw [d7 (by omega)];split at this<;>omega
   ·rw [d8 e] at h;rw [d8 (by omega)];split at this<;>omega
 have:=main _ (k9 _)
 rwa [d7 b] at this
open Go.Sx
def SW(s:zh):Prop:=0<=s.Lo/\s.Lo<=s.Hi/\s.Hi<18446744073709551616
theorem tO(x:Int):vc x=x%18446744073709551616:=rfl
theorem vf{x:Int}(h:0<=x)(a:x<18446744073709551616):vc x=x:=by rw [tO];omega
theorem xh(x:Int):0<=vc x/\vc x<18446744073709551616:=by rw [tO];omega
theorem Gg(x y:Int):Ag .u64 x y=((BitVec.ofInt 64 x &&& BitVec.ofInt 64 y).toNat:Int)%18446744073709551616:=rfl
theorem J1(x y:Int):bOr .u64 x y=((BitVec.ofInt 64 x ||| BitVec.ofInt 64 y).toNat:Int)%18446744073709551616:=rfl
theorem Gh(x y:Int):ND .u64 x y=((BitVec.ofInt 64 x ^^^ BitVec.ofInt 64 y).toNat:Int)%18446744073709551616:=rfl
theorem rx(x y:Int):Ah .u64 x y=(x*2^(min y.toNat 64))%18446744073709551616:=rfl
theorem Mp(x y:Int):kr .u64 x y=x.fdiv (2^(min y.toNat 64)):=rfl
theorem sW(h:0<=b)(a:b<18446744073709551616):(BitVec.ofInt 64 b).toNat=b.toNat:=by
 rw [BitVec.toNat_ofInt];omega
theorem Gi(x:0<=b)(a:b<18446744073709551616)(c:0<=y)(d:y<18446744073709551616):Ag .u64 b y=((b.toNat &&& y.toNat:Nat):Int):=by
 rw [Gg,BitVec.toNat_and,sW x a,sW c d];have:b.toNat &&& y.toNat<=b.toNat:=Nat.and_le_left;omega
theorem J2(x:0<=b)(a:b<18446744073709551616)(c:0<=y)(d:y<18446744073709551616):bOr .u64 b y=((b.toNat ||| y.toNat:Nat):Int):=by
 have h:(BitVec.ofInt 64 b ||| BitVec.ofInt 64 y).toNat<2^64:=BitVec.isLt _;rw [J1,Int.emod_eq_of_lt (by omega) (by omega),BitVec.toNat_or,sW x a,sW c d]
theorem Mq(x:0<=b)(a:b<18446744073709551616)(c:0<=y)(d:y<18446744073709551616):ND .u64 b y=((b.toNat ^^^ y.toNat:Nat):Int):=by
 have h:(BitVec.ofInt 64 b ^^^ BitVec.ofInt 64 y).toNat<2^64:=BitVec.isLt _;rw [Gh,Int.emod_eq_of_lt (by omega) (by omega),BitVec.toNat_xor,sW x a,sW c d]
theorem EW{x:Int}(a:0<=x)(b:x<18446744073709551616)(c:0<=y)(d:y<18446744073709551616):x<=bOr .u64 x y/\y<=bOr .u64 x y/\bOr .u64 x y<18446744073709551616:=by
 have h:(BitVec.ofInt 64 x ||| BitVec.ofInt 64 y).toNat<2^64:=BitVec.isLt _;rw [BitVec.toNat_or,sW a b,sW c d] at h;rw [J2 a b c d];have e:x.toNat<=x.toNat ||| y.toNat:=Nat.left_le_or
 have f:y.toNat<=x.toNat ||| y.toNat:=Nat.right_le_or
 omega
theorem EX(x y:Int):0<=Ag .u64 x y/\Ag .u64 x y<18446744073709551616:=by rw [Gg];omega
theorem CR(x y:Int):0<=bOr .u64 x y/\bOr .u64 x y<18446744073709551616:=by rw [J1];omega
theorem J3(x y:Int):0<=ND .u64 x y/\ND .u64 x y<18446744073709551616:=by rw [Gh];omega
theorem J4(x y:Int):0<=Ah .u64 x y/\Ah .u64 x y<18446744073709551616:=by rw [rx];omega
theorem Bf(x:0<=b):kr .u64 b y=((b.toNat / 2^(min y.toNat 64):Nat):Int):=by
 rw [Mp];obtain ⟨a,rfl⟩:=zof x;rw [Int.fdiv_eq_ediv_of_nonneg _ (by exact_mod_cast Nat.zero_le _)];simp
theorem EY(x:0<=b)(a:b<18446744073709551616):0<=kr .u64 b y/\kr .u64 b y<=b:=by
 rw [Bf x];have:=Nat.div_le_self b.toNat (2^(min y.toNat 64));generalize b.toNat / 2^(min y.toNat 64)=q at*
 omega
theorem Bg(x:0<=b)(d:b<=y)(t:o<=a):kr .u64 b a<=kr .u64 y o:=by
 rw [Bf x,Bf (by omega)];have h:b.toNat / 2^(min a.toNat 64)<=y.toNat / 2^(min a.toNat 64):=Nat.div_le_div_right (by omega);have c:y.toNat / 2^(min a.toNat 64)<=y.toNat / 2^(min o.toNat 64):=Nat.div_le_div_left (Nat.pow_le_pow_right (by omega) (by omega)) (Nat.pow_pos (by omega))
 exact_mod_cast t8 h c
theorem fL(h:0<=y):nn y=some ():=by unfold nn;rw [d8 (by omega)]
theorem ny(h:y≠0):nz y=some ():=by unfold nz;rw [d8 h]
def uO:ByteArray:=⟨[0,1,2,2,3,3,3,3,4,4,4,4,4,4,4,4,5,5,5,5,5,5,5,5,5,5,5,5,5,5,5,5,6,6,6,6,6,6,6,6,6,6,6,6,6,6,6,6,6,6,6,6,6,6,6,6,6,6,6,6,6,6,6,6,7,7,7,7,7,7,7,7,7,7,7,7,7,7,7,7,7,7,7,7,7,7,7,7,7,7,7,7,7,7,7,7,7,7,7,7,7,7,7,7,7,7,7,7,7,7,7,7,7,7,7,7,7,7,7,7,7,7,7,7,7,7,7,7,8,8,8,8,8,8,8,8,8,8,8,8,8,8,8,8,8,8,8,8,8,8,8,8,8,8,8,8,8,8,8,8,8,8,8,8,8,8,8,8,8,8,8,8,8,8,8,8,8,8,8,8,8,8,8,8,8,8,8,8,8,8,8,8,8,8,8,8,8,8,8,8,8,8,8,8,8,8,8,8,8,8,8,8,8,8,8,8,8,8,8,8,8,8,8,8,8,8,8,8,8,8,8,8,8,8,8,8,8,8,8,8,8,8,8,8,8,8,8,8,8,8,8,8,8,8,8,8].toArray⟩
theorem Tj:∀c:Nat,c<256->∃k:Nat,k<=8/\c<2^k/\(c=0->k=0)/\(0<c->2^(k-1)<=c)/\wo uO (c:Int)=some (k:Int):=by
 have h:∀c:Fin 256,∃k:Fin 9,(c:Nat)<2^(k:Nat)/\((c:Nat)=0->(k:Nat)=0)/\(0<(c:Nat)->2^((k:Nat)-1)<=(c:Nat))/\wo uO ((c:Nat):Int)=some ((k:Nat):Int):=by decide+kernel
 intro c a;obtain ⟨k,b,d,e,f⟩:=h ⟨c,a⟩;exact ⟨k,by omega,b,d,e,f⟩
theorem Gj(s:Nat)(h:s<=64):kr .u64 (n:Int) (s:Int)=((n / 2^s:Nat):Int):=by
 rw [Bf (by omega)];have:min (s:Int).toNat 64=s:=by omega
 rw [this];simp
theorem Pq(c s:Nat)(h:c<256)(l:s<=56):∃k:Nat,k<=8/\c<2^k/\(c=0->k=0)/\(0<c->2^(k-1)<=c)/\
  ((wo uO (IntKind.u8.wrap (c:Int))).bind λa=>some (w64 ((s:Int)+(w64 a))))=some ((s+k:Nat):Int):=by
 obtain ⟨k,b,d,f,i,j⟩:=Tj c h;refine ⟨k,b,d,f,i,?_⟩;have e:IntKind.u8.wrap (c:Int)=(c:Int):=by rw [IntKind.wrap_u8];omega
 rw [e,j];show some _=some _;rw [qq (x:=(k:Int)) (by omega) (by omega),qq (by omega) (by omega)];simp
set_option maxRecDepth 100000 in
theorem tP(D:n<18446744073709551616):∃k:Nat,k<=64/\gT (n:Int)=some (k:Int)/\n<2^k/\(n=0->k=0)/\(0<n->2^(k-1)<=n):=by
 have go:∀(c s:Nat),c<256->s<=56->c=n / 2^s->(s=0\/0<c)->∃k:Nat,k<=64/\((wo uO (IntKind.u8.wrap (c:Int))).bind λa=>some (w64 ((s:Int)+(w64 a))))=some (k:Int)/\n<2^k/\(n=0->k=0)/\(0<n->2^(k-1)<=n):=by
  intro c s v j e d;obtain ⟨k,E,w,x,y,z⟩:=Pq c s v j;have r:0<2^s:=Nat.pow_pos (by omega);refine ⟨s+k,by omega,z,?_,λt=> ?_,λt=> ?_⟩
  ·rw [Nat.pow_add,Nat.mul_comm];exact (Nat.div_lt_iff_lt_mul r).1 (by omega)
  ·subst t;rw [Nat.zero_div] at e;rcases d with d|d
   ·have:=x e;omega
   ·omega
  ·have l:0<c:=by
    rcases d with rfl|d
    ·simp at e;omega
    ·exact d
   have u:=y l
   have A:0<k:=by
    rcases y8 k with rfl|u
    ·simp at w;omega
    ·exact u
   rw [show s+k-1=s+(k-1) by omega,Nat.pow_add,Nat.mul_comm];exact (Nat.le_div_iff_mul_le r).1 (by omega)
 show ∃k:Nat,k<=64/\((if decide ((n:Int)>=4294967296) then some (kr .u64 (n:Int) 32,(32:Int)) else some ((n:Int),0)).bind λf=>
  (if decide (f.1>=65536) then some (kr .u64 f.1 16,w64 (f.2+16)) else some (f.1,f.2)).bind λb=>
  (if decide (b.1>=256) then some (kr .u64 b.1 8,w64 (b.2+8)) else some (b.1,b.2)).bind λo=>
  (wo uO (IntKind.u8.wrap o.1)).bind λa=>some (w64 (o.2+(w64 a))))=some (k:Int)/\_
 have p:kr .u64 (n:Int) 32=((n / 2^32:Nat):Int):=Gj 32 (by omega);have q:∀m:Nat,kr .u64 (m:Int) 16=((m / 2^16:Nat):Int):=λm=>Gj 16 (by omega)
 have B:∀m:Nat,kr .u64 (m:Int) 8=((m / 2^8:Nat):Int):=λm=>Gj 8 (by omega)
 have last:∀m s:Nat,m<65536->s<=48->m=n / 2^s->(s=0\/0<m)->∃k:Nat,k<=64/\((if decide ((m:Int)>=256) then some (kr .u64 (m:Int) 8,w64 ((s:Int)+8)) else some ((m:Int),(s:Int))).bind λo=>
  (wo uO (IntKind.u8.wrap o.1)).bind λa=>some (w64 (o.2+(w64 a))))=some (k:Int)/\n<2^k/\(n=0->k=0)/\(0<n->2^(k-1)<=n):=by
  intro m s C j e d;by_cases h:m>=256
  ·rw [d7 (by simp;omega),B,show w64 ((s:Int)+8)=((s+8:Nat):Int) by rw [qq (by omega) (by omega)];simp];exact go (m / 2^8) (s+8) (by omega) (by omega) (by rw [e,Nat.div_div_eq_div_mul,<- Nat.pow_add]) (.inr (by omega))
  ·rw [d8 (by simp;omega)];exact go m s (by omega) (by omega) e d
 have i:∀m s:Nat,m<4294967296->s<=32->m=n / 2^s->(s=0\/0<m)->∃k:Nat,k<=64/\((if decide ((m:Int)>=65536) then some (kr .u64 (m:Int) 16,w64 ((s:Int)+16)) else some ((m:Int),(s:Int))).bind λb=>
  (if decide (b.1>=256) then some (kr .u64 b.1 8,w64 (b.2+8)) else some (b.1,b.2)).bind λo=>
  (wo uO (IntKind.u8.wrap o.1)).bind λa=>some (w64 (o.2+(w64 a))))=some (k:Int)/\n<2^k/\(n=0->k=0)/\(0<n->2^(k-1)<=n):=by
  intro m s C j e d;by_cases h:m>=65536
  ·rw [d7 (by simp;omega),q,show w64 ((s:Int)+16)=((s+16:Nat):Int) by rw [qq (by omega) (by omega)];simp];exact last (m / 2^16) (s+16) (by omega) (by omega) (by rw [e,Nat.div_div_eq_div_mul,<- Nat.pow_add]) (.inr (by omega))
  ·rw [d8 (by simp;omega)];exact last m s (by omega) (by omega) e d
 by_cases h:n>=4294967296
 ·rw [d7 (by simp;omega),p];exact i (n / 2^32) 32 (by omega) (by omega) rfl (.inr (by omega))
 ·rw [d8 (by simp;omega)];exact i n 0 (by omega) (by omega) (by simp) (.inl rfl)
end Go.Proofs.YtplmgfkghomelaaGreatDoor
