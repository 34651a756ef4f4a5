/- Lemmas. -/
import Derived.Test.YtplmgfkghomelaaGreatDoorKH1
set_option linter.unusedVariables false
set_option linter.unusedSimpArgs false
namespace Go.Proofs.YtplmgfkghomelaaGreatDoor
section
section
section
open Go.Sx
variable {f:qW} {c0:Int} {i:zf}
def sQ(n:Int):Bool:=decide (0<=n)&&decide (n<8)
def NB(i:zf):Bool:=i.B==8||(sQ i.B&&i.RA==0)
def inB(n lo hi:Int):Bool:=decide (lo<=n)&&decide (n<=hi)
def jX(i:zf):Bool:=
 if i.Op==0||i.Op==11 then sQ i.D&&i.A==0&&NB i
 else if inB i.Op 1 10 then sQ i.D&&sQ i.A&&NB i
 else if i.Op==12 then i.D==0&&sQ i.A&&NB i
 else if i.Op==13 then sQ i.D&&i.A==0&&i.B==0&&inB i.RA 0 1
 else if i.Op==14 then sQ i.D&&i.A==0&&i.B==0&&inB i.RA 0 3
 else if i.Op==15 then inB i.D 0 63&&i.A==0&&i.B==0&&i.RA==0
 else if inB i.Op 16 19 then inB i.D 0 63&&sQ i.A&&NB i
 else if i.Op==20 then inB i.D 1 63&&sQ i.A&&i.B==0&&inB i.RA 1 255
 else if i.Op==21 then i.D==0&&i.A==0&&i.B==0&&inB i.RA 0 6
 else if i.Op==22 then i.D==0&&sQ i.A&&i.B==0&&i.RA==0
 else false
def ef(i:zf):Bool:=jX i&&inB i.Op 15 19
def kK(i:zf):Bool:=jX i&&i.Op==20
def jp(i:zf):Int×Bool×Bool:=
 if ef i then (i.D+1,true,i.Op !=15)
 else if kK i then (-i.D,true,true)
 else (0,false,jX i&&i.Op !=22)
theorem AZ(n:Int):n<0\/n>=23\/n=0\/n=1\/n=2\/n=3\/n=4\/n=5\/n=6\/n=7\/n=8\/n=9\/n=10\/n=11\/n=12\/n=13\/n=14\/n=15\/n=16\/n=17\/n=18\/n=19\/n=20\/n=21\/n=22:=by omega
theorem C6(n:Int):dK n=some (sQ n):=rfl
theorem HB(n lo hi:Int):cq n lo hi=some (inB n lo hi):=rfl
def lD(p:zf)(s:Bool×zf)(c:Int):Bool×zf:=
 if c==100 then (s.1&&sQ p.D,⟨s.2.Op,0,s.2.A,s.2.B,s.2.RA⟩)
 else if c==97 then (s.1&&sQ p.A,⟨s.2.Op,s.2.D,0,s.2.B,s.2.RA⟩)
 else if c==115 then (if p.B==8 then (s.1,⟨s.2.Op,s.2.D,s.2.A,0,0⟩) else (s.1&&sQ p.B,⟨s.2.Op,s.2.D,s.2.A,0,s.2.RA⟩))
 else if c==102 then (s.1&&inB p.RA 0 1,⟨s.2.Op,s.2.D,s.2.A,s.2.B,0⟩)
 else if c==109 then (s.1&&inB p.RA 0 3,⟨s.2.Op,s.2.D,s.2.A,s.2.B,0⟩)
 else if c==104 then (s.1&&inB p.RA 0 6,⟨s.2.Op,s.2.D,s.2.A,s.2.B,0⟩)
 else if c==110 then (s.1&&inB p.RA 1 255,⟨s.2.Op,s.2.D,s.2.A,s.2.B,0⟩)
 else if c==106 then (s.1&&inB p.D 0 63,⟨s.2.Op,0,s.2.A,s.2.B,s.2.RA⟩)
 else if c==98 then (s.1&&inB p.D 1 63,⟨s.2.Op,0,s.2.A,s.2.B,s.2.RA⟩)
 else s
section
variable {p:zf} {x:Bool} {o d a b m:Int}
theorem Qf:lD p (x,⟨o,d,a,b,m⟩) 100=(x&&sQ p.D,⟨o,0,a,b,m⟩):=rfl
theorem Qg:lD p (x,⟨o,d,a,b,m⟩) 97=(x&&sQ p.A,⟨o,d,0,b,m⟩):=rfl
theorem Qh:lD p (x,⟨o,d,a,b,m⟩) 115=(if p.B==8 then (x,⟨o,d,a,0,0⟩) else (x&&sQ p.B,⟨o,d,a,0,m⟩)):=rfl
theorem Qi:lD p (x,⟨o,d,a,b,m⟩) 102=(x&&inB p.RA 0 1,⟨o,d,a,b,0⟩):=rfl
theorem Qj:lD p (x,⟨o,d,a,b,m⟩) 109=(x&&inB p.RA 0 3,⟨o,d,a,b,0⟩):=rfl
theorem Qk:lD p (x,⟨o,d,a,b,m⟩) 104=(x&&inB p.RA 0 6,⟨o,d,a,b,0⟩):=rfl
theorem Ql:lD p (x,⟨o,d,a,b,m⟩) 110=(x&&inB p.RA 1 255,⟨o,d,a,b,0⟩):=rfl
theorem Qm:lD p (x,⟨o,d,a,b,m⟩) 106=(x&&inB p.D 0 63,⟨o,0,a,b,m⟩):=rfl
theorem Qn:lD p (x,⟨o,d,a,b,m⟩) 98=(x&&inB p.D 1 63,⟨o,0,a,b,m⟩):=rfl
end
theorem nZ{σ ρ:Type}{again:σ->Option ρ}{c:Bool}{A B:Option ρ}{a b:σ}(hA:A=again a)(hB:B=again b):(if c then A else B)=again (if c then a else b):=by
 grind
theorem sR{σ ρ:Type}{again:(Bool×σ)->Option ρ}{x y:Bool}{z:σ}:(if x then again (y,z) else again (false,z))=again (x&&y,z):=by
 cases x<;>simp
theorem C7{p:zf}{r:qW×Bool}{i:Nat}{c:Int}{again:(Bool×zf)->Option (Bool×zf)}{s:Bool×zf}(h:tx r.1.RD (i:Int)=some c):
  hP p r i again s=again (lD p s c):=by
 unfold hP lD;simp only [h,zbs,C6,HB];refine nZ sR ?_;refine nZ sR ?_;refine nZ (nZ rfl sR) ?_
 grind
def fin(x:Bool×zf):Bool:=x.1&&((x.2.Op==0)&&((x.2.D==0)&&((x.2.A==0)&&((x.2.B==0)&&(x.2.RA==0)))))
theorem ww{p:zf}(ho:eF p.Op=some (f,true)){x:Bool×zf}(hz:f.RD.size<=3)
  (h:jI (hP p (f,true)) (λ(s:Bool×zf)=>(s.1,s.2)) f.RD.size 0 (true,{p with Op:=0})=some x):vJ p=some (fin x):=by
 have hr:room f.RD.size 1=some ():=by grind [room]
 unfold vJ fin
 grind
theorem PM{p:zf}(ho:eF p.Op=some (f,true))(hs:f.RD.size=1)(h0:tx f.RD 0=some c0):
  vJ p=some (fin (lD p (true,{p with Op:=0}) c0)):=by
 grind [ww,jI,C7]
theorem Ph{p:zf}{c1:Int}(ho:eF p.Op=some (f,true))(hs:f.RD.size=2)(h0:tx f.RD 0=some c0)(h1:tx f.RD 1=some c1):
  vJ p=some (fin (lD p (lD p (true,{p with Op:=0}) c0) c1)):=by
 refine ww ho (by omega) ?_;rw [hs];simp only [jI]
 grind [C7]
theorem PN{p:zf}{c1 c2:Int}(ho:eF p.Op=some (f,true))(hs:f.RD.size=3)(h0:tx f.RD 0=some c0)(h1:tx f.RD 1=some c1)(h2:tx f.RD 2=some c2):
  vJ p=some (fin (lD p (lD p (lD p (true,{p with Op:=0}) c0) c1) c2)):=by
 refine ww ho (by omega) ?_;rw [hs];simp only [jI]
 grind [C7]
theorem eX(i:zf):vJ i=some (jX i):=by
 have hcase:=AZ i.Op;obtain ⟨op,d,a,b,m⟩:=i;simp only at hcase
 have out:op<0\/op>=23->vJ ⟨op,d,a,b,m⟩=some (jX ⟨op,d,a,b,m⟩):=by
  intro h;have e:eF op=some (⟨ByteArray.empty,ByteArray.empty⟩,false):=by unfold eF;rw [d6 (by simp;omega)]
  have k:∀k:Int,0<=k->k<=22->(op==k)=false:=by intro k h1 h2;simp;omega
  have d1:inB op 1 10=false:=by simp [inB];omega
  have d2:inB op 16 19=false:=by simp [inB];omega
  have r:jX ⟨op,d,a,b,m⟩=false:=by
   unfold jX;simp only [k 0 (by decide) (by decide),k 11 (by decide) (by decide),k 12 (by decide) (by decide),k 13 (by decide) (by decide),k 14 (by decide) (by decide),k 15 (by decide) (by decide),k 20 (by decide) (by decide),k 21 (by decide) (by decide),k 22 (by decide) (by decide),d1,d2];rfl
  unfold vJ;rw [r];simp [e]
 rcases hcase with h|h|h|h|h|h|h|h|h|h|h|h|h|h|h|h|h|h|h|h|h|h|h|h|h
 ·exact out (.inl h)
 ·exact out (.inr h)
 all_goals subst h
 all_goals
  first
   |rw [Ph (c0:=100) (c1:=115) rfl rfl rfl rfl]
   |rw [PN (c0:=100) (c1:=97) (c2:=115) rfl rfl rfl rfl rfl]
   |rw [Ph (c0:=97) (c1:=115) rfl rfl rfl rfl]
   |rw [Ph (c0:=100) (c1:=102) rfl rfl rfl rfl]
   |rw [Ph (c0:=100) (c1:=109) rfl rfl rfl rfl]
   |rw [PM (c0:=106) rfl rfl rfl]
   |rw [PN (c0:=106) (c1:=97) (c2:=115) rfl rfl rfl rfl rfl]
   |rw [PN (c0:=98) (c1:=97) (c2:=110) rfl rfl rfl rfl rfl]
   |rw [PM (c0:=104) rfl rfl rfl]
   |rw [PM (c0:=97) rfl rfl rfl]
  congr 1
  simp only [Qf,Qg,Qh,Qi,Qj,Qk,Ql,Qm,Qn,fin,jX,NB];cases h8:(b==8)
  ·simp [h8,inB]
   try (rw [Bool.eq_iff_iff];simp;constructor<;>intro h<;>simp_all;done)
  ·simp only [u6] at h8;subst h8;simp [inB]
   try (rw [Bool.eq_iff_iff];simp;constructor<;>intro h<;>simp_all;done)
theorem HC(op:Int)(h0:0<=op)(h1:op<23):∃f,eF op=some (f,true)/\jr f 106=some (inB op 15 19)/\jr f 98=some (op==20):=by
 have hcase:=AZ op;rcases hcase with h|h|h|h|h|h|h|h|h|h|h|h|h|h|h|h|h|h|h|h|h|h|h|h|h
 ·omega
 ·omega
 all_goals subst h
 all_goals exact ⟨_,rfl,rfl,rfl⟩
theorem A7(h:jX i=true):0<=i.Op/\i.Op<23:=by
 rcases Int.lt_or_le i.Op 0 with h0|h0
 ·exfalso
  have k:∀k:Int,0<=k->(i.Op==k)=false:=by grind
  unfold jX inB at h;simp only [k 0 (by decide),k 11 (by decide),k 12 (by decide),k 13 (by decide),k 14 (by decide),k 15 (by decide),k 20 (by decide),k 21 (by decide),k 22 (by decide)] at h
  grind
 ·refine ⟨h0,?_⟩;rcases Int.lt_or_le i.Op 23 with h1|h1
  ·exact h1
  ·exfalso
   have k:∀k:Int,k<=22->(i.Op==k)=false:=by grind
   unfold jX inB at h;simp only [k 0 (by decide),k 11 (by decide),k 12 (by decide),k 13 (by decide),k 14 (by decide),k 15 (by decide),k 20 (by decide),k 21 (by decide),k 22 (by decide)] at h
   grind
theorem pL(h:ef i=true):0<=i.D/\i.D<=63/\15<=i.Op/\i.Op<=19:=by
 unfold ef at h;simp only [zae] at h;obtain ⟨hr,ho⟩:=h;have hb:15<=i.Op/\i.Op<=19:=by grind [inB]
 refine ⟨?_,?_,hb⟩<;>
 grind [inB,jX]
theorem Eg(h:kK i=true):1<=i.D/\i.D<=63/\i.Op=20/\1<=i.RA/\i.RA<=255:=by
 unfold kK at h;simp only [zae,u6] at h;obtain ⟨hr,ho⟩:=h;obtain ⟨op,d,a,b,m⟩:=i;simp only at ho;subst ho
 grind [jX,inB]
theorem lX(i:zf):kr i=some (jp i):=by
 unfold kr;rw [eX];simp only [zbs];cases hr:jX i with
 |false=>simp [jp,ef,kK,hr]
 |true=>
  obtain ⟨f,h1,h2,h3⟩:=HC i.Op (A7 hr).1 (A7 hr).2;simp only [h1,zbs,h2,h3];cases hj:inB i.Op 15 19 with
  |true=>
   have:=pL (i:=i) (by grind [ef])
   grind [jp,ef,qr]
  |false=>
   cases hl:(i.Op==20) with
   |true=>
    have:=Eg (i:=i) (by simp [kK,hr,hl]);have e:w64 (0-i.D)= -i.D:=by grind [qr]
    simp only [jp,ef,kK,hr,hj,hl,e];rfl
   |false=>
    simp [jp,ef,kK,hr,hj,hl]
end
open Go.Sx
variable {ρ:Type} {code:List zf} {i:zf} {X:Prop} {v:ρ}
def eV{ρ:Type}(g:Nat->Option ρ):Nat->Nat->Option ρ
 |0,_=>none
 |n+1,i=>match g i with
  |some v=>some v
  |none=>eV g n (i+1)
def uT{ρ:Type}:Option ρ->Unit⊕ρ
 |some v=>.inr v
 |none=>.inl ()
theorem Oe{body:Nat->(Unit->Option (Unit⊕ρ))->Unit->Option (Unit⊕ρ)}(g:Nat->Option ρ){N:Nat}
  (hb:∀j again,j<N->body j again ()=match g j with|some v=>some (.inr v)|none=>again ()):
  ∀(n i:Nat),i+n=N->jI body (λ_=>(.inl ())) n i ()=some (uT (eV g n i)):=by
 intro n
 induction n with
 |zero=>intro i _;rfl
 |succ n ih=>
  intro i hi;show body i (jI body _ n (i+1)) ()=_;rw [hb i _ (by omega)];unfold eV;cases g i with
  |some v=>rfl
  |none=>exact ih (i+1) (by omega)
theorem oS{body:Nat->(Unit->Option (Unit⊕ρ))->Unit->Option (Unit⊕ρ)}(g:Nat->Option ρ){N:Nat}
 (hb:∀j again,j<N->body j again ()=match g j with|some v=>some (.inr v)|none=>again ()):
 jI body (λ_=>(.inl ())) N 0 ()=some (uT (eV g N 0)):=Oe g hb N 0 (by omega)
theorem gj{g:Nat->Option ρ}:∀{n i:Nat},eV g n i=some v->∃j,i<=j/\j<i+n/\g j=some v/\∀q,i<=q->q<j->g q=none:=by
 intro n
 induction n with
 |zero=>intro i h;cases h
 |succ n ih=>
  grind [eV]
theorem gk{g:Nat->Option ρ}:∀{n i:Nat},eV g n i=none->∀q,i<=q->q<i+n->g q=none:=by
 intro n
 induction n with
 |zero=>intro i _ q h1 h2;omega
 |succ n ih=>
  grind [eV]
theorem Cu{g:Nat->Option ρ}:∀{n i:Nat},(∀q,i<=q->q<i+n->g q=none)->eV g n i=none:=by
 intro n
 induction n with
 |zero=>intro i _;rfl
 |succ n ih=>
  grind [eV]
theorem IA{α:Type}{xs:List α}{i:Nat}(h:i<xs.length):idx xs (i:Int)=some xs[i]:=by
 simp [Go.Sx.idx,h]
def Aw(n:Int)(p:Int)(i:zf):Int:=
 if !jX i then 12
 else if (jp i).2.1&&(decide (p+(jp i).1<0)||decide (p+(jp i).1>=n)) then 30
 else if (jp i).2.2&&p==n-1 then 36 else 0
theorem uf(i:zf): -63<=(jp i).1/\(jp i).1<=64:=by
 unfold jp;split
 ·rename_i h;have:=pL h;simp;omega
 ·split
  ·rename_i h;have:=Eg h;simp;omega
  ·simp
def fd(code:List zf)(p:Nat):Option (Int×Int):=match code[p]? with
 |some i=>if Aw code.length p i=0 then none else some ((p:Int),Aw code.length p i)
 |none=>none
theorem GX(code:List zf)(hn:code.length<=64):gB code=some ((eV (fd code) code.length 0).getD (0,0)):=by
 unfold gB;rw [oS (fd code) (N:=code.length)]
 ·simp only [zbs];cases eV (fd code) code.length 0<;>rfl
 ·intro j again hj;unfold my;have hx:code[j]? =some code[j]:=zeg hj;generalize hi:code[j]=x at hx;have hg:=uf x;have e1:w64 ((j:Int)+(jp x).1)=j+(jp x).1:=qr (by omega) (by omega);have e2:w64 ((code.length:Int)-1)=code.length-1:=qr (by omega) (by omega)
  have hr:fk [x]=some (jX x):=by
   unfold fk;simp only [List.length_singleton,jI,kW];rcases zft (jX x) with h|h<;>simp [Go.Sx.idx,eX,h]
  simp only [IA hj,hi,zbs,lX,hr,e1,e2,fd,hx,Aw]
  grind
def uU(code:List zf):Prop:=∀(p:Nat)(i:zf),code[p]? =some i->Aw code.length p i=0
theorem Mg(h:eV (fd code) code.length 0=none):uU code:=by
 intro p i hi;have hp:=(zes.1 hi).1;have:=gk h p (by omega) (by omega)
 grind [fd]
theorem GY(h:uU code):eV (fd code) code.length 0=none:=by
 refine Cu (λq _ hq=> ?_);have hi:=zeg (show q<code.length by omega);unfold fd;rw [hi];simp only [h q _ hi,s9]
theorem uU.right(h:uU code){p:Nat}(hi:code[p]? =some i):jX i=true:=by
 have:=h p i hi
 grind [Aw,jX]
theorem uU.leads(h:uU code){p:Nat}(hi:code[p]? =some i)(hl:(jp i).2.1=true):0<=(p:Int)+(jp i).1/\(p:Int)+(jp i).1<code.length:=by
 have:=h p i hi;unfold Aw at this
 grind
theorem uU.on(h:uU code){p:Nat}(hi:code[p]? =some i)(hl:(jp i).2.2=true):p+1<code.length:=by
 have hp:=(zes.1 hi).1;have h1:=h p i hi;unfold Aw at h1
 grind
theorem uU.loop(h:uU code){p:Nat}(hi:code[p]? =some i)(ho:i.Op=20):1<=i.D/\i.D<=p/\1<=i.RA/\i.RA<=255/\p+1<code.length:=by
 have hr:=h.right hi;have hl:kK i=true:=by grind [kK]
 have hj:ef i=false:=by simp [ef,inB,ho]
 have hg:jp i=(-i.D,true,true):=by simp [jp,hl,hj]
 have h1:=h.leads hi (by rw [hg]);have h2:=h.on hi (by rw [hg]);rw [hg] at h1;have h3:=Eg hl
 grind
def jD(i:zf)(p:Nat):qx:=⟨(p:Int)-i.D,p,i.RA⟩
def lps(code:List zf):Nat->List qx
 |0=>[]
 |k+1=>match code[k]? with
  |some i=>if i.Op==20 then lps code k++[jD i k] else lps code k
  |none=>lps code k
theorem uV(code:List zf):∀k,(lps code k).length<=k
 |0=>r7 _
 |k+1=>by
  have:=uV code k
  grind [lps]
theorem mS{code:List zf}{l:qx}:∀{k:Nat},l∈lps code k↔∃q i,q<k/\code[q]? =some i/\i.Op=20/\l=jD i q
 |0=>by simp [lps]
 |k+1=>by
  unfold lps;have ih:= @mS code l k
  grind
theorem ug(code:List zf):∀k,(lps code k).Pairwise (λa b=>a.At<b.At)/\∀l∈lps code k,l.At<k
 |0=>⟨List.Pairwise.nil,by simp [lps]⟩
 |k+1=>by
  obtain ⟨h1,h2⟩:=ug code k;unfold lps;split
  ·split
   ·refine ⟨List.pairwise_append.2 ⟨h1,List.pairwise_singleton _ _,λa ha b hb=> ?_⟩,λl hl=> ?_⟩
    ·simp at hb;subst hb;exact h2 a ha
    ·rcases f7.1 hl with hl|hl
     ·grind
     ·simp at hl;subst hl;simp [jD];omega
   grind
  grind
theorem uW(hn:code.length<=64)(hD:uU code):eL code=some (lps code code.length):=by
 refine OK.is ?_;unfold eL;refine d5 (R:=λy=>y=lps code code.length) ?_ (λx hx=>b8 hx);refine f9 (λi s=>s=lps code i) rfl ?_ (λs h=>h);intro i s again hi hs k;subst hs;unfold nD;refine f8 (i5 hi (λx hx=> ?_));have hl:=uV code i;refine b9 (λh=> ?_) (λh=> ?_)
 ·have hd:=hD.loop hx (by simpa using h)
  grind [f8,OK.hasRoom,lps,jD,qr]
 grind [lps]
def lu(code:List zf)(p a:Nat):Bool:=match code[a]? with
 |some i=>i.Op==20&&decide ((a:Int)-i.D<=p)&&decide (p<=a)
 |none=>false
open Classical in
noncomputable def pick {ρ:Type} (X:Prop) (v:ρ):Option ρ:=if X then some v else none
theorem D4(h:X):pick X v=some v:=by grind [pick]
theorem D5(h:¬ X):pick X v=none:=by grind [pick]
theorem nO{u:ρ}(h:pick X v=some u):X/\v=u:=by
 grind [pick]
theorem iT(h:pick X v=none):¬ X:=by
 grind [pick]
def Mh(X:Nat->Prop)(n:Nat):Option Nat->Prop
 |some l=>l<n/\X l/\∀q,q<l->¬ X q
 |none=>∀q,q<n->¬ X q
theorem Cw{X:Nat->Prop}{n:Nat}{v:Nat->ρ}:∃o,Mh X n o/\eV (λl=>pick (X l) (v l)) n 0=o.map v:=by
 cases h:eV (λl=>pick (X l) (v l)) n 0 with
 |none=>exact ⟨none,λq hq=>iT (gk h q (by omega) (by omega)),rfl⟩
 |some u=>
  obtain ⟨j,_,h2,h3,h4⟩:=gj h;obtain ⟨hx,rfl⟩:=nO h3;exact ⟨some j,⟨by omega,hx,λq hq=>iT (h4 q (by omega) hq)⟩,rfl⟩
def Crs(code:List zf)(l m:Nat):Prop:=∃il im,code[l]? =some il/\il.Op=20/\code[m]? =some im/\im.Op=20/\(l:Int)-il.D<=m/\(m:Int)-im.D<l-il.D
def Cr(code:List zf)(l:Nat):Prop:=∃m,m<l/\Crs code l m
theorem eW{p a:Nat}(hi:code[a]? =some i)(ho:i.Op=20):lu code p a=true↔(a:Int)-i.D<=p/\p<=a:=by
 grind [lu]
theorem sB{ls:List qx}(hs:ls.Pairwise (λa b=>a.At<b.At)){i j:Nat}{a b:qx}(hi:ls[i]? =some a)(hj:ls[j]? =some b):a.At<b.At↔i<j:=by
 obtain ⟨h1,rfl⟩:=zes.1 hi;obtain ⟨h2,rfl⟩:=zes.1 hj;constructor
 ·intro h;rcases Nat.lt_trichotomy i j with h3|h3|h3
  ·exact h3
  ·subst h3;omega
  ·have:=List.pairwise_iff_getElem.1 hs j i h2 h1 h3;omega
 ·intro h;exact List.pairwise_iff_getElem.1 hs i j h1 h2 h
theorem uX{α:Type}{xs:List α}{k:Nat}(hk:k<=xs.length):cut xs 0 (k:Int)=some (xs.take k):=by
 grind [cut]
theorem Mi(hn:code.length<=64)(hD:uU code):
  ∃o,Mh (Cr code) code.length o/\jI (fb (lps code code.length)) (λ_=>(.inl ())) (lps code code.length).length 0 ()=some (uT (o.map λ(l:Nat)=>((l:Int),(31:Int)))):=by
 have hs:=(ug code code.length).1;have hl:=uV code code.length;generalize hls:lps code code.length=ls at hs hl |-
 have mem:∀{l:qx},l∈ls↔∃q i,q<code.length/\code[q]? =some i/\i.Op=20/\l=jD i q:=by
  grind [mS]
 have main:jI (fb ls) (λ_=>(.inl ())) ls.length 0 ()=some (uT (eV (λk=>match ls[k]? with|some l=>pick (Cr code l.At.toNat) (l.At,(31:Int))|none=>none) ls.length 0)):=by
  refine oS _ (N:=ls.length) ?_;intro k again hk;have hx:=zeg hk;generalize hi:ls[k]=x at hx;obtain ⟨q,i,hq,hqi,hop,rfl⟩:=mem.1 (zmg hx);unfold fb;have htl:(ls.take k).length=k:=by grind
  have inner:jI (ik (jD i q) (ls.take k)) (λ_=>(.inl ())) k 0 ()=some (uT (eV (λm=>match ls[m]? with|some l=>pick (Crs code q l.At.toNat) ((q:Int),(31:Int))|none=>none) k 0)):=by
   refine oS _ (N:=k) ?_;intro m again hm;have hml:m<ls.length:=by omega
   have hy:=zeg hml;generalize hj:ls[m]=y at hy
   have hyt:idx (ls.take k) (m:Int)=some y:=by
    grind [IA]
   obtain ⟨q',i',hq',hqi',hop',rfl⟩:=mem.1 (zmg hy);unfold ik;simp only [hyt,hy,zbs];have e:((jD i' q').At).toNat=q':=by simp [jD]
   rw [e];by_cases hc:Crs code q q'
   ·rw [D4 hc];obtain ⟨il,im,e1,_,e3,_,c1,c2⟩:=hc;rw [hqi] at e1;cases e1;rw [hqi'] at e3;cases e3
    have:(decide ((jD i' q').At>=(jD i q).RU)&&decide ((jD i' q').RU<(jD i q).RU))=true:=by
     have a1:(jD i' q').At=q':=rfl;have a2:(jD i q).RU=q-i.D:=rfl;have a3:(jD i' q').RU=q'-i'.D:=rfl;simp only [a1,a2,a3,zae,zdq];exact ⟨c1,c2⟩
    simp only [this];rfl
   ·rw [D5 hc]
    have:(decide ((jD i' q').At>=(jD i q).RU)&&decide ((jD i' q').RU<(jD i q).RU))=false:=by
     cases h:(decide ((jD i' q').At>=(jD i q).RU)&&decide ((jD i' q').RU<(jD i q).RU)) with
     |false=>rfl
     |true=>
      exfalso;apply hc
      have a1:(jD i' q').At=q':=rfl;have a2:(jD i q).RU=q-i.D:=rfl;have a3:(jD i' q').RU=q'-i'.D:=rfl;simp only [a1,a2,a3,zae,zdq] at h;exact ⟨i,i',hqi,hop,hqi',hop',h.1,h.2⟩
    grind
  simp only [IA hk,hi,hx,zbs,uX (Nat.le_of_lt hk),htl,inner];have e:((jD i q).At).toNat=q:=by simp [jD]
  rw [e];cases hf:eV (λm=>match ls[m]? with|some l=>pick (Crs code q l.At.toNat) ((q:Int),(31:Int))|none=>none) k 0 with
  |some v=>
   obtain ⟨m,_,h2,h3,_⟩:=gj hf;have hml:m<ls.length:=by omega
   have hy:=zeg hml;rw [hy] at h3;obtain ⟨hcr,rfl⟩:=nO h3;have hlt:=(sB hs hy hx).2 (by omega);obtain ⟨q',i',hq',hqi',hop',e'⟩:=mem.1 (zmg hy);rw [e'] at hcr hlt;rw [D4 ⟨q',by grind [jD],by grind [jD]⟩];rfl
  |none=>
   have h0:=gk hf;rw [D5]
   ·rfl
   ·rintro ⟨m,hm,hcr⟩;obtain ⟨il,im,e1,_,e3,e4,c1,c2⟩:=id hcr;have hmem:=mem.2 ⟨m,im,by omega,e3,e4,rfl⟩;obtain ⟨j,hj,hje⟩:=t8.1 hmem;have hy:=zeg hj;rw [hje] at hy;have hlt:=(sB hs hy hx).1 (by grind [jD])
    grind [iT,jD]
 cases hf:eV (λk=>match ls[k]? with|some l=>pick (Cr code l.At.toNat) (l.At,(31:Int))|none=>none) ls.length 0 with
 |none=>
  refine ⟨none,λq hq hc=> ?_,by rw [main,hf];rfl⟩;obtain ⟨m,hm,il,im,e1,e2,_⟩:=id hc;obtain ⟨j,hj,hje⟩:=t8.1 (mem.2 ⟨q,il,hq,e1,e2,rfl⟩);have:=gk hf j (by omega) (by omega)
  grind [iT,jD]
 |some v=>
  obtain ⟨k,_,h2,h3,h4⟩:=gj hf;have hk:k<ls.length:=by omega
  have hx:=zeg hk;rw [hx] at h3;obtain ⟨hc,rfl⟩:=nO h3;obtain ⟨q,i,hq,hqi,hop,e⟩:=mem.1 (zmg hx);refine ⟨some q,⟨hq,?_,λq' hq' hc'=> ?_⟩,?_⟩
  ·grind [jD]
  ·obtain ⟨m,hm,il,im,e1,e2,_⟩:=id hc';obtain ⟨j,hj,hje⟩:=t8.1 (mem.2 ⟨q',il,by omega,e1,e2,rfl⟩);have hy:=zeg hj;have hlt:=(sB hs hy hx).1 (by grind [jD])
   grind [iT,jD]
  ·rw [main,hf,e];rfl
def En(code:List zf)(p:Nat):Prop:=∃i,code[p]? =some i/\(jp i).2.1=true/\0<(jp i).1/\∃a ia t,a<code.length/\code[a]? =some ia/\ia.Op=20/\(t:Nat)=(p:Int)+(jp i).1/\lu code t a=true/\lu code p a=false/\(t:Int)≠a-ia.D
theorem Mj(hn:code.length<=64)(hD:uU code):
  jI (ip code (lps code code.length)) (λ_=>(.inl ())) code.length 0 ()=some (uT (eV (λp=>pick (En code p) ((p:Int),(31:Int))) code.length 0)):=by
 refine oS _ (N:=code.length) ?_;intro p again hp;have hx:=zeg hp;generalize hi:code[p]=x at hx;have hg:=uf x;have e1:w64 ((p:Int)+(jp x).1)=p+(jp x).1:=qr (by omega) (by omega);have hl:=uV code code.length
 have inner:jI (io (lps code code.length) p (jp x)) (λ_=>(.inl ())) (lps code code.length).length 0 ()=
   some (uT (eV (λk=>match (lps code code.length)[k]? with|some l=>pick ((jp x).2.1=true/\0<(jp x).1/\¬ (l.RU<=p/\(p:Int)<=l.At)/\(l.RU<=p+(jp x).1/\p+(jp x).1<=l.At)/\p+(jp x).1≠l.RU) ((p:Int),(31:Int))|none=>none) (lps code code.length).length 0)):=by
  refine oS _ (N:=(lps code code.length).length) ?_;intro k again hk;have hy:=zeg hk;generalize hj:(lps code code.length)[k]=y at hy;unfold io;simp only [IA hk,hj,hy,zbs,mO,e1]
  grind [jp,D4,D5]
 unfold ip;simp only [IA hp,hi,zbs,lX,inner];cases hf:eV (λk=>match (lps code code.length)[k]? with|some l=>pick ((jp x).2.1=true/\0<(jp x).1/\¬ (l.RU<=p/\(p:Int)<=l.At)/\(l.RU<=p+(jp x).1/\p+(jp x).1<=l.At)/\p+(jp x).1≠l.RU) ((p:Int),(31:Int))|none=>none) (lps code code.length).length 0 with
 |some v=>
  obtain ⟨k,_,h2,h3,_⟩:=gj hf;have hk:k<(lps code code.length).length:=by omega
  have hy:=zeg hk;rw [hy] at h3;obtain ⟨⟨c1,c2,c3,c4,c5⟩,rfl⟩:=nO h3;obtain ⟨q,i,hq,hqi,hop,e⟩:=mS.1 (zmg hy);rw [e] at c3 c4 c5;simp only [jD] at c3 c4 c5;have hpos:0<=(p:Int)+(jp x).1:=by omega
  have hcv:lu code p q=false:=by
   grind [lu,eW]
  have hE:En code p:=⟨x,hx,c1,c2,q,i,((p:Int)+(jp x).1).toNat,hq,hqi,hop,by omega,(eW hqi hop).2 (by omega),hcv,by omega⟩
  rw [D4 hE];rfl
 |none=>
  have h0:=gk hf;rw [D5]
  ·rfl
  ·rintro ⟨i',hi',c1,c2,a,ia,t,ha,hia,hop,ht,v1,v2,v3⟩;rw [hx] at hi';cases hi';obtain ⟨j,hj,hje⟩:=t8.1 (mS.2 ⟨a,ia,ha,hia,hop,rfl⟩:jD ia a∈lps code code.length);have:=h0 j (by omega) (by omega);rw [zeg hj,hje] at this;refine iT this ⟨c1,c2,?_,?_,?_⟩
   ·intro hh;simp only [jD] at hh
    grind [eW]
   ·have:=(eW hia hop).1 v1
    grind [jD]
   grind [jD]
def nP(code:List zf)(p:Nat):Nat->Int
 |0=>1
 |k+1=>match code[k]? with
  |some i=>if lu code p k then nP code p k*(i.RA+1) else nP code p k
  |none=>nP code p k
def Cx(code:List zf):Nat->Int
 |0=>0
 |k+1=>Cx code k+nP code k code.length
theorem GZ{p a:Nat}(hi:code[a]? =some i)(h:lu code p a=true):i.Op=20:=by
 grind [lu]
theorem sC{code:List zf}(hD:uU code)(p:Nat):∀k,1<=nP code p k
 |0=>by simp [nP]
 |k+1=>by
  have ih:=sC hD p k;unfold nP;split
  ·rename_i i hi
   split
   ·rename_i hc
    have hd:=hD.loop hi (GZ hi hc);have:1*1<=nP code p k*(i.RA+1):=Int.mul_le_mul ih (by omega) (by omega) (by omega);omega
   ·exact ih
  ·exact ih
theorem sD{code:List zf}(hD:uU code):∀k:Nat,(k:Int)<=Cx code k
 |0=>by simp [Cx]
 |k+1=>by
  have:=sD hD k;have h2:=sC hD k code.length;unfold Cx;omega
theorem G0(code:List zf)(k:Nat):Cx code (k+1)=Cx code k+nP code k code.length:=rfl
def mn(x:Int):Int:=if x<=257 then x else 257
theorem Of{x b:Int}(hx:1<=x)(hb:1<=b):mn (mn x*b)=mn (x*b):=by
 unfold mn;by_cases h:x<=257
 ·rw [d6 h]
 ·rw [d8 h];have h1:257*1<=257*b:=Int.mul_le_mul_of_nonneg_left hb (by decide);have h2:258*1<=x*b:=Int.mul_le_mul (by omega) hb (by decide) (by omega)
  grind
theorem Og{a b:Int}(ha:0<=a)(hb:0<=b):mn (mn a+mn b)=mn (a+b):=by
 grind [mn]
theorem G1(x:Int):ma x 257=mn x:=by grind [ma,mn]
theorem Jq(x:Int):mn x<=257/\mn x<=x:=by grind [mn]
def me(p:Int):List qx->Int->Int
 |[],s=>s
 |l::r,s=>me p r (if decide (p>=l.RU)&&decide (p<=l.At) then s*(l.Sw+1) else s)
theorem fy(p:Int)(l:List qx):∀(a:List qx)(s:Int),me p (a++l) s=me p l (me p a s)
 |[],s=>rfl
 |x::r,s=>by simp only [z6,me];exact fy p l r _
theorem sE(code:List zf)(p:Nat):∀k,me p (lps code k) 1=nP code p k
 |0=>rfl
 |k+1=>by
  have ih:=sE code p k;unfold lps nP
  grind [fy,me,jD,lu,eW]
theorem PH(hn:code.length<=64)(hD:uU code)(p:Nat):
  jI (kX (lps code code.length) p) (λ(s:Int)=>s) (lps code code.length).length 0 1=some (mn (nP code p code.length)):=by
 have hbound:∀(k:Nat)(l:qx),(lps code code.length)[k]? =some l->1<=l.Sw/\l.Sw<=255:=by
  intro k l hl;obtain ⟨q,i,_,h2,h3,rfl⟩:=mS.1 (zmg hl);have:=hD.loop h2 h3
  grind [jD]
 rw [<- sE code p code.length];generalize lps code code.length=ls at hbound;refine OK.is ?_;refine f9 (λ(i:Nat)(s:Int)=>s=mn (me p (ls.take i) 1)/\1<=me p (ls.take i) 1) ⟨by simp [me,mn],by simp [me]⟩ ?_ (λs h=>by rw [h.1];simp);intro i s again hi ⟨hs,h1⟩ k;unfold kX;refine f8 (i5 hi (λx hx=> ?_));have hb:=hbound i x hx
 have htake:ls.take (i+1)=ls.take i++[x]:=by
  rw [ye,hx];rfl
 simp only [mO,zbs];have hmn:=Jq (me p (ls.take i) 1);have hs1:1<=s:=by grind [mn]
 refine b9 (λhc=> ?_) (λhc=> ?_)
 ·have e1:w64 (x.Sw+1)=x.Sw+1:=qr (by omega) (by omega);have m1:s*(x.Sw+1)<=257*256:=Int.mul_le_mul (by omega) (by omega) (by omega) (by omega);have m0:0<=s*(x.Sw+1):=Int.mul_nonneg (by omega) (by omega);have e2:w64 (s*(x.Sw+1))=s*(x.Sw+1):=qr (by omega) (by omega);rw [e1,e2,G1];refine k _ ⟨?_,?_⟩
  ·grind [fy,me,Of]
  ·rw [htake,fy];simp only [me,hc,s9];have:1*1<=me p (ls.take i) 1*(x.Sw+1):=Int.mul_le_mul h1 (by omega) (by omega) (by omega);omega
 grind [fy,me]
theorem Jr(hn:code.length<=64)(hD:uU code):kY code=some (mn (Cx code code.length)):=by
 unfold kY;rw [uW hn hD];simp only [zbs];refine OK.is ?_;refine d5 (R:=λy=>y=mn (Cx code code.length)) ?_ (λx hx=>b8 hx);refine f9 (λ(i:Nat)(s:Int)=>s=mn (Cx code i)) (by simp [Cx,mn]) ?_ (λs h=>h);intro i s again hi hs k;subst hs;unfold pF;rw [PH hn hD i];simp only [zbs];have h1:=Jq (nP code i code.length);have h2:=Jq (Cx code i);have h3:=sC hD i code.length;have h4:=sD hD i;have p1:1<=mn (nP code i code.length):=by grind [mn]
 grind [mn,Cx,qr,G1,G0,Og]
end
open Go.Sx
structure As (code:List zf):Prop where
 n1:1<=code.length
 Tj:code.length<=64
 RW:uU code
 cr:∀l,l<code.length->¬ Cr code l
 en:∀p,p<code.length->¬ En code p
 TG:Cx code code.length<=256
theorem EZ{code:List zf}(hn:code.length<=64)(hD:uU code):
  ∃o,Mh (Cr code) code.length o/\gC code=some (match o with|some l=>((l:Int),31)|none=>(eV (λp=>pick (En code p) ((p:Int),(31:Int))) code.length 0).getD (0,0)):=by
 obtain ⟨o,h1,h2⟩:=Mi hn hD;refine ⟨o,h1,?_⟩;unfold gC;rw [uW hn hD];simp only [zbs,h2,Mj hn hD];cases o with
 |some l=>rfl
 |none=>cases eV (λp=>pick (En code p) ((p:Int),(31:Int))) code.length 0<;>rfl
theorem sk(code:List zf):∃r,eM code=some r/\(r.1=0\/0<=r.1/\r.1<code.length)/\(r.2=0->r.1=0/\As code)/\(As code->r.2=0):=by
 unfold eM;by_cases h0:code.length=0
 ·refine ⟨(0,10),?_,.inl rfl,by simp,λh=>by have:=h.n1;omega⟩;simp [h0]
 ·have e0:((code.length:Int)==0)=false:=by simp;exact λh=>h0 (by simp [h])
  by_cases h1:64<code.length
  ·have e1:decide ((code.length:Int)>64)=true:=by simp;omega
   refine ⟨(0,11),?_,.inl rfl,by simp,λh=>by have:=h.Tj;omega⟩;simp only [e0,e1];rfl
  ·have e1:decide ((code.length:Int)>64)=false:=by simp;omega
   have hn:code.length<=64:=by omega
   simp only [e0,e1,GX code hn,zbs];cases hp:eV (fd code) code.length 0 with
   |some v=>
    obtain ⟨j,_,h2,h3,_⟩:=gj hp
    have hne:v.2≠0/\v.1=j:=by
     unfold fd at h3;split at h3
     ·split at h3
      ·cases h3
      ·rename_i h4;cases h3;exact ⟨h4,rfl⟩
     ·cases h3
    refine ⟨v,?_,.inr ⟨by rw [hne.2];omega,by rw [hne.2];omega⟩,λh=>absurd h hne.1,λh=> ?_⟩
    ·have:(v.2 !=0)=true:=by simpa using hne.1
     simp [this]
    ·rw [GY h.RW] at hp;cases hp
   |none=>
    have hD:=Mg hp;obtain ⟨o,o1,o2⟩:=EZ hn hD;simp only [o2,zbs,Option.getD_none];cases o with
    |some l=>
     have:=o1.1;refine ⟨((l:Int),31),by simp,.inr ⟨by simp,by simpa using this⟩,by simp,λh=>absurd o1.2.1 (h.cr l o1.1)⟩
    |none=>
     obtain ⟨p,p1,p2⟩:=Cw (X:=En code) (n:=code.length) (v:=λp=>((p:Int),(31:Int)));rw [p2];cases p with
     |some l=>
      have:=p1.1;exact ⟨((l:Int),31),by simp,.inr ⟨by simp,by simpa using this⟩,by simp,λh=>absurd p1.2.1 (h.en l p1.1)⟩
     |none=>
      simp only [Jr hn hD,zbs,Option.map_none,Option.getD_none];have hmn:=Jq (Cx code code.length);by_cases hc:mn (Cx code code.length)>256
      ·refine ⟨(0,32),by simp [hc],.inl rfl,by simp,λh=> ?_⟩;have:=h.TG;omega
      ·refine ⟨(0,0),by simp [hc],.inl rfl,λ_=>⟨rfl,⟨by omega,hn,hD,o1,p1,?_⟩⟩,λ_=>rfl⟩;unfold mn at hc;split at hc<;>omega
theorem E0{code:List zf}(h:As code):eM code=some (0,0):=by
 obtain ⟨r,h1,_,h2,h3⟩:=sk code;have:=h3 h;have h4:=(h2 this).1;rw [h1];obtain ⟨a,b⟩:=r;simp only at this h4;subst this;subst h4;rfl
theorem ue{code:List zf}(h:As code):iO code=some (lps code code.length,0):=by
 unfold iO;rw [E0 h];simp [uW h.Tj h.RW]
open Go.Sx
def Fit(code:List zf)(back:Nat->Int):Prop:=∀(a:Nat)(i:zf),code[a]? =some i->i.Op=20->0<=back a/\back a<=i.RA
open Go.Sx
variable {x y:Int}
def SW(s:zg):Prop:=0<=s.Lo/\s.Lo<=s.Hi/\s.Hi<18446744073709551616
theorem rM(x:Int):xX x=x%18446744073709551616:=rfl
theorem xW(h0:0<=x)(h1:x<18446744073709551616):xX x=x:=by rw [rM];omega
theorem jY(x:Int):0<=xX x/\xX x<18446744073709551616:=by rw [rM];omega
theorem Es(x y:Int):uB .u64 x y=((BitVec.ofInt 64 x &&& BitVec.ofInt 64 y).toNat:Int)%18446744073709551616:=rfl
theorem HY(x y:Int):bOr .u64 x y=((BitVec.ofInt 64 x ||| BitVec.ofInt 64 y).toNat:Int)%18446744073709551616:=rfl
theorem Et(x y:Int):Lh .u64 x y=((BitVec.ofInt 64 x ^^^ BitVec.ofInt 64 y).toNat:Int)%18446744073709551616:=rfl
theorem oh(x y:Int):uC .u64 x y=(x*2^(min y.toNat 64))%18446744073709551616:=rfl
theorem Kb(x y:Int):ic .u64 x y=x.fdiv (2^(min y.toNat 64)):=rfl
theorem pM(h0:0<=x)(h1:x<18446744073709551616):(BitVec.ofInt 64 x).toNat=x.toNat:=by
 rw [BitVec.toNat_ofInt];omega
theorem Eu(x0:0<=x)(x1:x<18446744073709551616)(y0:0<=y)(y1:y<18446744073709551616):uB .u64 x y=((x.toNat &&& y.toNat:Nat):Int):=by
 rw [Es,BitVec.toNat_and,pM x0 x1,pM y0 y1];have:x.toNat &&& y.toNat<=x.toNat:=Nat.and_le_left;omega
theorem HZ(x0:0<=x)(x1:x<18446744073709551616)(y0:0<=y)(y1:y<18446744073709551616):bOr .u64 x y=((x.toNat ||| y.toNat:Nat):Int):=by
 have h:(BitVec.ofInt 64 x ||| BitVec.ofInt 64 y).toNat<2^64:=BitVec.isLt _;rw [HY,Int.emod_eq_of_lt (by omega) (by omega),BitVec.toNat_or,pM x0 x1,pM y0 y1]
theorem Kc(x0:0<=x)(x1:x<18446744073709551616)(y0:0<=y)(y1:y<18446744073709551616):Lh .u64 x y=((x.toNat ^^^ y.toNat:Nat):Int):=by
 have h:(BitVec.ofInt 64 x ^^^ BitVec.ofInt 64 y).toNat<2^64:=BitVec.isLt _;rw [Et,Int.emod_eq_of_lt (by omega) (by omega),BitVec.toNat_xor,pM x0 x1,pM y0 y1]
theorem De(x0:0<=x)(x1:x<18446744073709551616)(y0:0<=y)(y1:y<18446744073709551616):x<=bOr .u64 x y/\y<=bOr .u64 x y/\bOr .u64 x y<18446744073709551616:=by
 have h:(BitVec.ofInt 64 x ||| BitVec.ofInt 64 y).toNat<2^64:=BitVec.isLt _;rw [BitVec.toNat_or,pM x0 x1,pM y0 y1] at h;rw [HZ x0 x1 y0 y1];have h1:x.toNat<=x.toNat ||| y.toNat:=Nat.left_le_or
 have h2:y.toNat<=x.toNat ||| y.toNat:=Nat.right_le_or
 omega
theorem Df(x y:Int):0<=uB .u64 x y/\uB .u64 x y<18446744073709551616:=by rw [Es];omega
theorem Bg(x y:Int):0<=bOr .u64 x y/\bOr .u64 x y<18446744073709551616:=by rw [HY];omega
theorem H0(x y:Int):0<=Lh .u64 x y/\Lh .u64 x y<18446744073709551616:=by rw [Et];omega
theorem H1(x y:Int):0<=uC .u64 x y/\uC .u64 x y<18446744073709551616:=by rw [oh];omega
theorem wC(x0:0<=x):ic .u64 x y=((x.toNat / 2^(min y.toNat 64):Nat):Int):=by
 rw [Kb];obtain ⟨a,rfl⟩:=zof x0;rw [Int.fdiv_eq_ediv_of_nonneg _ (by exact_mod_cast Nat.zero_le _)];simp
theorem Dg(x0:0<=x)(x1:x<18446744073709551616):0<=ic .u64 x y/\ic .u64 x y<=x:=by
 rw [wC x0];have:=Nat.div_le_self x.toNat (2^(min y.toNat 64));generalize x.toNat / 2^(min y.toNat 64)=q at*
 omega
theorem wD{s t:Int}(x0:0<=x)(xy:x<=y)(ts:t<=s):ic .u64 x s<=ic .u64 y t:=by
 rw [wC x0,wC (by omega)];have h1:x.toNat / 2^(min s.toNat 64)<=y.toNat / 2^(min s.toNat 64):=Nat.div_le_div_right (by omega);have h2:y.toNat / 2^(min s.toNat 64)<=y.toNat / 2^(min t.toNat 64):=Nat.div_le_div_left (Nat.pow_le_pow_right (by omega) (by omega)) (Nat.pow_pos (by omega))
 exact_mod_cast t5 h1 h2
theorem eY(h:0<=y):nn y=some ():=by unfold nn;rw [d8 (by omega)]
theorem lI(h:y≠0):nz y=some ():=by unfold nz;rw [d8 h]
def sY:ByteArray:=⟨[0,1,2,2,3,3,3,3,4,4,4,4,4,4,4,4,5,5,5,5,5,5,5,5,5,5,5,5,5,5,5,5,6,6,6,6,6,6,6,6,6,6,6,6,6,6,6,6,6,6,6,6,6,6,6,6,6,6,6,6,6,6,6,6,7,7,7,7,7,7,7,7,7,7,7,7,7,7,7,7,7,7,7,7,7,7,7,7,7,7,7,7,7,7,7,7,7,7,7,7,7,7,7,7,7,7,7,7,7,7,7,7,7,7,7,7,7,7,7,7,7,7,7,7,7,7,7,7,8,8,8,8,8,8,8,8,8,8,8,8,8,8,8,8,8,8,8,8,8,8,8,8,8,8,8,8,8,8,8,8,8,8,8,8,8,8,8,8,8,8,8,8,8,8,8,8,8,8,8,8,8,8,8,8,8,8,8,8,8,8,8,8,8,8,8,8,8,8,8,8,8,8,8,8,8,8,8,8,8,8,8,8,8,8,8,8,8,8,8,8,8,8,8,8,8,8,8,8,8,8,8,8,8,8,8,8,8,8,8,8,8,8,8,8,8,8,8,8,8,8,8,8,8,8,8,8].toArray⟩
theorem Qo:∀c:Nat,c<256->∃k:Nat,k<=8/\c<2^k/\(c=0->k=0)/\(0<c->2^(k-1)<=c)/\tx sY (c:Int)=some (k:Int):=by
 have h:∀c:Fin 256,∃k:Fin 9,(c:Nat)<2^(k:Nat)/\((c:Nat)=0->(k:Nat)=0)/\(0<(c:Nat)->2^((k:Nat)-1)<=(c:Nat))/\tx sY ((c:Nat):Int)=some ((k:Nat):Int):=by decide+kernel
 intro c hc;obtain ⟨k,h1,h2,h3,h4⟩:=h ⟨c,hc⟩;exact ⟨k,by omega,h1,h2,h3,h4⟩
theorem Ev{n:Nat}(s:Nat)(h:s<=64):ic .u64 (n:Int) (s:Int)=((n / 2^s:Nat):Int):=by
 rw [wC (by omega)];have:min (s:Int).toNat 64=s:=by omega
 rw [this];simp
theorem MS(c s:Nat)(hc:c<256)(hs:s<=56):∃k:Nat,k<=8/\c<2^k/\(c=0->k=0)/\(0<c->2^(k-1)<=c)/\
  ((tx sY (IntKind.u8.wrap (c:Int))).bind λc15=>some (w64 ((s:Int)+(w64 c15))))=some ((s+k:Nat):Int):=by
 obtain ⟨k,h1,h2,h3,h4,h5⟩:=Qo c hc;refine ⟨k,h1,h2,h3,h4,?_⟩;have e:IntKind.u8.wrap (c:Int)=(c:Int):=by rw [IntKind.wrap_u8];omega
 rw [e,h5];show some _=some _;rw [qr (x:=(k:Int)) (by omega) (by omega),qr (by omega) (by omega)];simp
set_option maxRecDepth 100000 in
theorem rN{n:Nat}(h1:n<18446744073709551616):∃k:Nat,k<=64/\gf (n:Int)=some (k:Int)/\n<2^k/\(n=0->k=0)/\(0<n->2^(k-1)<=n):=by
 have go:∀(c s:Nat),c<256->s<=56->c=n / 2^s->(s=0\/0<c)->∃k:Nat,k<=64/\((tx sY (IntKind.u8.wrap (c:Int))).bind λc15=>some (w64 ((s:Int)+(w64 c15))))=some (k:Int)/\n<2^k/\(n=0->k=0)/\(0<n->2^(k-1)<=n):=by
  intro c s hc hs he hz;obtain ⟨k,k1,k2,k3,k4,k5⟩:=MS c s hc hs;have hp:0<2^s:=Nat.pow_pos (by omega);refine ⟨s+k,by omega,k5,?_,λh0=> ?_,λh0=> ?_⟩
  ·rw [Nat.pow_add,Nat.mul_comm];exact (Nat.div_lt_iff_lt_mul hp).1 (by omega)
  ·subst h0;rw [Nat.zero_div] at he;rcases hz with hz|hz
   ·have:=k3 he;omega
   ·omega
  ·have hc0:0<c:=by
    rcases hz with rfl|hz
    ·simp at he;omega
    ·exact hz
   have hk:=k4 hc0
   have hk0:0<k:=by
    rcases yq k with rfl|hk
    ·simp at k2;omega
    ·exact hk
   rw [show s+k-1=s+(k-1) by omega,Nat.pow_add,Nat.mul_comm];exact (Nat.le_div_iff_mul_le hp).1 (by omega)
 show ∃k:Nat,k<=64/\((if decide ((n:Int)>=4294967296) then some (ic .u64 (n:Int) 32,(32:Int)) else some ((n:Int),0)).bind λo2=>
  (if decide (o2.1>=65536) then some (ic .u64 o2.1 16,w64 (o2.2+16)) else some (o2.1,o2.2)).bind λo6=>
  (if decide (o6.1>=256) then some (ic .u64 o6.1 8,w64 (o6.2+8)) else some (o6.1,o6.2)).bind λo10=>
  (tx sY (IntKind.u8.wrap o10.1)).bind λc15=>some (w64 (o10.2+(w64 c15))))=some (k:Int)/\_
 have s32:ic .u64 (n:Int) 32=((n / 2^32:Nat):Int):=Ev 32 (by omega);have s16:∀m:Nat,ic .u64 (m:Int) 16=((m / 2^16:Nat):Int):=λm=>Ev 16 (by omega)
 have s8:∀m:Nat,ic .u64 (m:Int) 8=((m / 2^8:Nat):Int):=λm=>Ev 8 (by omega)
 have last:∀m s:Nat,m<65536->s<=48->m=n / 2^s->(s=0\/0<m)->∃k:Nat,k<=64/\((if decide ((m:Int)>=256) then some (ic .u64 (m:Int) 8,w64 ((s:Int)+8)) else some ((m:Int),(s:Int))).bind λo10=>
  (tx sY (IntKind.u8.wrap o10.1)).bind λc15=>some (w64 (o10.2+(w64 c15))))=some (k:Int)/\n<2^k/\(n=0->k=0)/\(0<n->2^(k-1)<=n):=by
  intro m s hm hs he hz;by_cases h:m>=256
  ·rw [d6 (by simp;omega),s8,show w64 ((s:Int)+8)=((s+8:Nat):Int) by rw [qr (by omega) (by omega)];simp];exact go (m / 2^8) (s+8) (by omega) (by omega) (by rw [he,Nat.div_div_eq_div_mul,<- Nat.pow_add]) (.inr (by omega))
  ·rw [d8 (by simp;omega)];exact go m s (by omega) (by omega) he hz
 have mid:∀m s:Nat,m<4294967296->s<=32->m=n / 2^s->(s=0\/0<m)->∃k:Nat,k<=64/\((if decide ((m:Int)>=65536) then some (ic .u64 (m:Int) 16,w64 ((s:Int)+16)) else some ((m:Int),(s:Int))).bind λo6=>
  (if decide (o6.1>=256) then some (ic .u64 o6.1 8,w64 (o6.2+8)) else some (o6.1,o6.2)).bind λo10=>
  (tx sY (IntKind.u8.wrap o10.1)).bind λc15=>some (w64 (o10.2+(w64 c15))))=some (k:Int)/\n<2^k/\(n=0->k=0)/\(0<n->2^(k-1)<=n):=by
  intro m s hm hs he hz;by_cases h:m>=65536
  ·rw [d6 (by simp;omega),s16,show w64 ((s:Int)+16)=((s+16:Nat):Int) by rw [qr (by omega) (by omega)];simp];exact last (m / 2^16) (s+16) (by omega) (by omega) (by rw [he,Nat.div_div_eq_div_mul,<- Nat.pow_add]) (.inr (by omega))
  ·rw [d8 (by simp;omega)];exact last m s (by omega) (by omega) he hz
 by_cases h:n>=4294967296
 ·rw [d6 (by simp;omega),s32];exact mid (n / 2^32) 32 (by omega) (by omega) rfl (.inr (by omega))
 ·rw [d8 (by simp;omega)];exact mid n 0 (by omega) (by omega) (by simp) (.inl rfl)
end
open Go.Sx
theorem SW.full:SW ⟨0,18446744073709551615⟩:=⟨by simp,by simp,by simp⟩
theorem SW.one{n:Int}(h0:0<=n)(h1:n<18446744073709551616):SW ⟨n,n⟩:=⟨h0,by simp,h1⟩
theorem SW.zero:SW ⟨0,0⟩:=⟨by simp,by simp,by simp⟩
theorem Pj(n:Nat):ic .u64 (n:Int) 32=((n / 4294967296:Nat):Int):=Ev 32 (by omega)
theorem MT(n:Nat)(h:n<18446744073709551616):uB .u64 (n:Int) 4294967295=((n%4294967296:Nat):Int):=by
 rw [Eu (by omega) (by omega) (by omega) (by omega)]
 have:(n:Int).toNat &&& (4294967295:Int).toNat=n%2^32:=by
  rw [<- Nat.and_two_pow_sub_one_eq_mod];rfl
 rw [this]
theorem wuN{n:Nat}(h:n<18446744073709551616):xX (n:Int)=(n:Int):=xW (by omega) (by omega)
theorem OI{x y:Nat}(hx:x<18446744073709551616)(hy:y<18446744073709551616):∃hi:Nat,iR (x:Int) (y:Int)=some ((hi:Int),xX ((x:Int)*(y:Int)))/\hi=x*y / 18446744073709551616:=by
 obtain ⟨x0,hx0⟩:∃q,q=x%4294967296:=⟨_,rfl⟩
 obtain ⟨x1,hx1⟩:∃q,q=x / 4294967296:=⟨_,rfl⟩
 obtain ⟨y0,hy0⟩:∃q,q=y%4294967296:=⟨_,rfl⟩
 obtain ⟨y1,hy1⟩:∃q,q=y / 4294967296:=⟨_,rfl⟩
 have ex:x=x1*4294967296+x0:=by omega
 have ey:y=y1*4294967296+y0:=by omega
 have b00:x0*y0<=4294967295*4294967295:=Qz (by omega) (by omega);have b01:x0*y1<=4294967295*4294967295:=Qz (by omega) (by omega);have b10:x1*y0<=4294967295*4294967295:=Qz (by omega) (by omega);have b11:x1*y1<=4294967295*4294967295:=Qz (by omega) (by omega)
 have exy:x*y=x1*y1*18446744073709551616+(x1*y0+x0*y1)*4294967296+x0*y0:=by
  grind
 unfold iR;simp only [Pj,MT x hx,MT y hy,<- hx0,<- hx1,<- hy0,<- hy1,<- Int.natCast_mul];generalize hp00:x0*y0=p00 at*
 generalize hp01:x0*y1=p01 at*
 generalize hp10:x1*y0=p10 at*
 generalize hp11:x1*y1=p11 at*
 rw [wuN (n:=p00) (by omega),wuN (n:=p01) (by omega),wuN (n:=p10) (by omega),wuN (n:=p11) (by omega)];simp only [Pj,<- Int.natCast_add];rw [wuN (n:=p10+p00 / 4294967296) (by omega)];simp only [Pj,<- Int.natCast_add];rw [MT _ (by omega),wuN (n:=p11+(p10+p00 / 4294967296) / 4294967296) (by omega)];simp only [<- Int.natCast_add];rw [wuN (n:=(p10+p00 / 4294967296)%4294967296+p01) (by omega)];simp only [Pj,<- Int.natCast_add];rw [wuN (by omega)];refine ⟨_,rfl,?_⟩;rw [exy];omega
theorem gL:bN=some ⟨0,18446744073709551615⟩:=rfl
theorem iX(s:zg):vB s=some (decide (s.Lo<=s.Hi)):=rfl
theorem OJ{a b:zg}(ha:SW a)(hb:SW b):OK (ky a b) SW:=by
 obtain ⟨a0,a1,a2⟩:=ha;obtain ⟨b0,b1,b2⟩:=hb;unfold ky EV;rw [d6 ⟨by omega,by omega,by omega,by omega⟩];simp only [zbs,gL];refine b9 (λh=>b8 SW.full) (λh=>b8 ?_);have h1:=yx h;refine ⟨(jY _).1,?_,?_⟩
 ·grind [xX,xW]
 grind
theorem FD{a b:zg}(ha:SW a)(hb:SW b):OK (bO a b) SW:=by
 obtain ⟨al,ah⟩:=a;obtain ⟨bl,bh⟩:=b;obtain ⟨a0,a1,a2⟩:=ha;obtain ⟨b0,b1,b2⟩:=hb;simp only at a0 a1 a2 b0 b1 b2;obtain ⟨al,rfl⟩:=zof a0;obtain ⟨bl,rfl⟩:=zof b0;obtain ⟨ah,rfl⟩:=zof (show 0<=ah by omega);obtain ⟨bh,rfl⟩:=zof (show 0<=bh by omega);unfold bO;obtain ⟨hi,h1,h2⟩:=OI (x:=ah) (y:=bh) (by omega) (by omega);simp only [h1,zbs,gL];refine b9 (λh=>b8 SW.full) (λh=>b8 ?_);have h3:=yx h
 have h4:ah*bh<18446744073709551616:=by
  grind
 have h5:al*bl<=ah*bh:=Qz (by omega) (by omega);simp only [<- Int.natCast_mul];rw [wuN h4,wuN (by omega)];exact ⟨Int.natCast_nonneg _,y7.2 h5,by grind⟩
theorem wE(a b:Nat):(a:Int).tdiv (b:Int)=((a / b:Nat):Int):=rfl
theorem FE{a b:zg}(ha:SW a)(hb:SW b):OK (bP a b) SW:=by
 obtain ⟨al,ah⟩:=a;obtain ⟨bl,bh⟩:=b;obtain ⟨a0,a1,a2⟩:=ha;obtain ⟨b0,b1,b2⟩:=hb;simp only at a0 a1 a2 b0 b1 b2;unfold bP;refine b9 (λh=>b8 ⟨by simp,by simp;omega,by simpa using a2⟩) (λh=> ?_);have hb:bl≠0:=by simpa using h
 rw [lI (show bh≠0 by omega)];simp only [zbs];rw [lI hb];obtain ⟨al,rfl⟩:=zof a0;obtain ⟨bl,rfl⟩:=zof b0;obtain ⟨ah,rfl⟩:=zof (show 0<=ah by omega);obtain ⟨bh,rfl⟩:=zof (show 0<=bh by omega);simp only [zbs,wE];have h1:al / bh<=ah / bl:=t5 (Nat.div_le_div_right (by omega)) (Nat.div_le_div_left (by omega) (by omega));have h2:=Nat.div_le_self ah bl;rw [wuN (by omega),wuN (by omega)];exact b8 ⟨Int.natCast_nonneg _,y7.2 h1,by grind⟩
theorem MU{a b:zg}(ha:SW a)(hb:SW b):OK (gF a b) SW:=by
 obtain ⟨a0,a1,a2⟩:=id ha;obtain ⟨b0,b1,b2⟩:=hb;unfold gF;refine b9 (λh=>b8 ⟨by simp,by simp;omega,by simpa using a2⟩) (λh=> ?_);refine b9 (λh=>b8 ha) (λh2=>b8 ?_);have hb:b.Lo≠0:=by simpa using h
 rw [xW (by omega) (by omega)];refine ⟨by simp,?_,?_⟩<;>(unfold ma;simp only;split<;>omega)
theorem H2{n:Int}(h0:0<=n)(h1:n<18446744073709551616):OK (fm n) (λr=>n<=r/\r<18446744073709551616):=by
 obtain ⟨n,rfl⟩:=zof h0;obtain ⟨k,k1,k2,k3,_⟩:=rN (n:=n) (by omega);unfold fm;simp only [k2,zbs];rw [eY (by omega)];refine b8 ?_
 have e:uC .u64 1 (k:Int)=((2^k%18446744073709551616:Nat):Int):=by
  grind [oh]
 rw [e];by_cases hk:k=64
 ·grind [xX,rM,jY]
 ·have h2:(2:Nat)^k<=2^63:=Nat.pow_le_pow_right (by omega) (by omega)
  grind [xW]
theorem MV{a b:zg}(ha:SW a)(hb:SW b):OK (gG a b) SW:=by
 obtain ⟨al,ah⟩:=a;obtain ⟨bl,bh⟩:=b;obtain ⟨a0,a1,a2⟩:=ha;obtain ⟨b0,b1,b2⟩:=hb;simp only at a0 a1 a2 b0 b1 b2;obtain ⟨al,rfl⟩:=zof a0;obtain ⟨bl,rfl⟩:=zof b0;obtain ⟨ah,rfl⟩:=zof (show 0<=ah by omega);obtain ⟨k,k1,k2,k3,k4,k5⟩:=rN (n:=ah) (by omega);unfold gG xP;simp only [k2,zbs,gL];refine d5 (R:=λo=>o=false->(k=0\/k+bl<=64)) ?_ (λo ho=> ?_)
 ·refine b9 (λ_=>b8 (by simp)) (λ_=>b9 (λh1=> ?_) (λh1=>b8 (λ_=>.inl ?_)))
  ·refine b9 (λ_=>b8 (by simp)) (λh2=>b8 (λh3=>.inr ?_))
   grind [xW]
  grind
 ·refine b9 (λ_=>b8 SW.full) (λh=> ?_);rw [eY (by omega)];simp only [zbs];refine b8 ?_
  have e:∀n:Nat,uC .u64 (n:Int) (bl:Int)=((n*2^(min bl 64)%18446744073709551616:Nat):Int):=by
   grind [oh]
  rw [e,e];rcases ho h with hk|hk
  ·have h6:ah=0:=by subst hk;simp at k3;omega
   have h7:al=0:=by omega
   subst h6;subst h7;exact ⟨by simp,by simp,by simp⟩
  ·rw [show min bl 64=bl by omega]
   have h6:ah*2^bl<18446744073709551616:=by
    have h7:ah*2^bl<2^k*2^bl:=Nat.mul_lt_mul_of_pos_right k3 (Nat.pow_pos (by omega));rw [<- Nat.pow_add] at h7;have h8:(2:Nat)^(k+bl)<=2^64:=Nat.pow_le_pow_right (by omega) hk;omega
   have h9:al*2^bl<=ah*2^bl:=p6 _ (by omega);rw [QA h6,QA (by omega)];exact ⟨Int.natCast_nonneg _,y7.2 h9,Int.ofNat_lt.2 h6⟩
theorem wF{op a b:Int}(a0:0<=a)(a1:a<18446744073709551616)(b0:0<=b)(b1:b<18446744073709551616):OK (fT op a b) (λr=>0<=r.1/\r.1<18446744073709551616/\r.2=(decide (1<=op)&&decide (op<=10))):=by
 unfold fT
 have q:∀k:Int,1<=k->k<=10->(op==k)=true->true=(decide (1<=op)&&decide (op<=10)):=by
  grind
 refine b9 (λh=>b8 ⟨(jY _).1,(jY _).2,q 1 (by omega) (by omega) h⟩) (λn1=> ?_);refine b9 (λh=>b8 ⟨(jY _).1,(jY _).2,q 2 (by omega) (by omega) h⟩) (λn2=> ?_);refine b9 (λh=>b8 ⟨(jY _).1,(jY _).2,q 3 (by omega) (by omega) h⟩) (λn3=> ?_);refine b9 (λh=> ?_) (λn4=> ?_)
 ·refine b9 (λ_=>b8 ⟨by simp,by simp,q 4 (by omega) (by omega) h⟩) (λhz=> ?_)
  grind [lI,b8,jY]
 refine b9 (λh=> ?_) (λn5=> ?_)
 ·refine b9 (λ_=>b8 ⟨a0,a1,q 5 (by omega) (by omega) h⟩) (λhz=> ?_);rw [lI (by simpa using hz)];obtain ⟨a,rfl⟩:=zof a0;obtain ⟨b,rfl⟩:=zof b0;have e:(a:Int).tmod (b:Int)=((a%b:Nat):Int):=rfl;have:=Nat.mod_le a b
  grind [b8]
 refine b9 (λh=>b8 ⟨(Df _ _).1,(Df _ _).2,q 6 (by omega) (by omega) h⟩) (λn6=> ?_);refine b9 (λh=>b8 ⟨(Bg _ _).1,(Bg _ _).2,q 7 (by omega) (by omega) h⟩) (λn7=> ?_);refine b9 (λh=>b8 ⟨(H0 _ _).1,(H0 _ _).2,q 8 (by omega) (by omega) h⟩) (λn8=> ?_);refine b9 (λh=> ?_) (λn9=> ?_)
 ·grind [eY,b8,H1]
 refine b9 (λh=> ?_) (λn10=>b8 ⟨by simp,by simp,?_⟩)
 ·rw [eY b0];have:=Dg (y:=b) a0 a1;exact b8 ⟨this.1,by grind,q 10 (by omega) (by omega) h⟩
 grind
theorem OL{op:Int}{a b:zg}(ha:SW a)(hb:SW b):OK (mP op a b) (λr=>SW r.1):=by
 obtain ⟨a0,a1,a2⟩:=id ha;obtain ⟨b0,b1,b2⟩:=id hb;unfold mP;refine d5 (wF (op:=op) (a:=a.Lo) (b:=b.Lo) a0 (by omega) b0 (by omega)) (λr hr=> ?_);simp only [iX,zbs];refine d5 (R:=λo=>o=false->1<=op/\op<=10) ?_ (λo ho=> ?_)
 ·refine b9 (λ_=>b8 (by simp)) (λh=> ?_)
  have h2:1<=op/\op<=10:=by
   grind
  exact b9 (λ_=>b8 (by simp)) (λ_=>b8 (λ_=>h2))
 refine b9 (λ_=>b8 SW.zero) (λh=> ?_);obtain ⟨o1,o2⟩:=ho h;refine d5 (R:=λ_=>True) ?_ (λ_ _=> ?_)
 ·unfold xP;exact b9 (λ_=>b8 trivial) (λ_=>b8 trivial)
 refine b9 (λ_=>b8 (SW.one hr.1 hr.2.1)) (λ_=> ?_);have fwd:∀{o:Option zg},OK o SW->OK (o.bind λr=>some (r,true)) (λr=>SW r.1):=λh=>d5 h (λx hx=>b8 hx)
 refine b9 (λ_=>fwd (OJ ha hb)) (λ_=> ?_);refine b9 (λ_=>b9 (λ_=>fwd (b8 SW.full)) (λh=>b8 ?_)) (λ_=> ?_)
 ·have h:=yx h;rw [xW (by omega) (by omega),xW (by omega) (by omega)];exact ⟨by simp;omega,by simp;omega,by simp;omega⟩
 refine b9 (λ_=>fwd (FD ha hb)) (λ_=> ?_);refine b9 (λ_=>fwd (FE ha hb)) (λ_=> ?_);refine b9 (λ_=>fwd (MU ha hb)) (λ_=> ?_);refine b9 (λ_=>b8 ⟨by simp,?_,?_⟩) (λ_=> ?_)
 ·grind [ma]
 ·grind [ma]
 have hor:=De (x:=a.Hi) (y:=b.Hi) (by omega) a2 (by omega) b2;have hor2:=Bg a.Hi b.Hi;refine b9 (λ_=>d5 (H2 hor2.1 hor2.2) (λx hx=>b8 ⟨?_,?_,?_⟩)) (λ_=> ?_)
 ·grind [pm]
 ·grind [pm]
 ·exact hx.2
 refine b9 (λ_=>d5 (H2 hor2.1 hor2.2) (λx hx=>b8 ⟨by simp,?_,?_⟩)) (λ_=> ?_)
 ·show 0<=x;omega
 ·exact hx.2
 refine b9 (λ_=>fwd (MV ha hb)) (λ_=> ?_);rw [eY (show 0<=b.Hi by omega)];simp only [zbs];rw [eY b0];refine b8 ⟨(Dg a0 (by omega)).1,wD a0 a1 b1,?_⟩;have:=(Dg (y:=b.Lo) (show 0<=a.Hi by omega) a2).2
 grind
end Go.Proofs.YtplmgfkghomelaaGreatDoor
