/- Lemmas. -/
import Derived.Test.YtplmgfkghomelaaGreatDoorKH1
set_option linter.unusedVariables false
set_option linter.unusedSimpArgs false
namespace Go.Proofs.YtplmgfkghomelaaGreatDoor
section
section
section
open Go.Sx
variable {f:qY} {c0:Int} {i:zf}
def tw(n:Int):Bool:=decide (0<=n)&&decide (n<8)
def OH(i:zf):Bool:=i.B==8||(tw i.B&&i.SN==0)
def inB(n lo hi:Int):Bool:=decide (lo<=n)&&decide (n<=hi)
def xd(i:zf):Bool:=
 if i.Op==0||i.Op==11 then tw i.D&&i.A==0&&OH i
 else if inB i.Op 1 10 then tw i.D&&tw i.A&&OH i
 else if i.Op==12 then i.D==0&&tw i.A&&OH i
 else if i.Op==13 then tw i.D&&i.A==0&&i.B==0&&inB i.SN 0 1
 else if i.Op==14 then tw i.D&&i.A==0&&i.B==0&&inB i.SN 0 3
 else if i.Op==15 then inB i.D 0 63&&i.A==0&&i.B==0&&i.SN==0
 else if inB i.Op 16 19 then inB i.D 0 63&&tw i.A&&OH i
 else if i.Op==20 then inB i.D 1 63&&tw i.A&&i.B==0&&inB i.SN 1 255
 else if i.Op==21 then i.D==0&&i.A==0&&i.B==0&&inB i.SN 0 6
 else if i.Op==22 then i.D==0&&tw i.A&&i.B==0&&i.SN==0
 else false
def eH(i:zf):Bool:=xd i&&inB i.Op 15 19
def lI(i:zf):Bool:=xd i&&i.Op==20
def ju(i:zf):Int×Bool×Bool:=
 if eH i then (i.D+1,true,i.Op !=15)
 else if lI i then (-i.D,true,true)
 else (0,false,xd i&&i.Op !=22)
theorem BK(n:Int):n<0\/n>=23\/n=0\/n=1\/n=2\/n=3\/n=4\/n=5\/n=6\/n=7\/n=8\/n=9\/n=10\/n=11\/n=12\/n=13\/n=14\/n=15\/n=16\/n=17\/n=18\/n=19\/n=20\/n=21\/n=22:=by omega
theorem D0(n:Int):eg n=some (tw n):=rfl
theorem Iw(n lo hi:Int):cQ n lo hi=some (inB n lo hi):=rfl
def my(p:zf)(s:Bool×zf)(c:Int):Bool×zf:=
 if c==100 then (s.1&&tw p.D,⟨s.2.Op,0,s.2.A,s.2.B,s.2.SN⟩)
 else if c==97 then (s.1&&tw p.A,⟨s.2.Op,s.2.D,0,s.2.B,s.2.SN⟩)
 else if c==115 then (if p.B==8 then (s.1,⟨s.2.Op,s.2.D,s.2.A,0,0⟩) else (s.1&&tw p.B,⟨s.2.Op,s.2.D,s.2.A,0,s.2.SN⟩))
 else if c==102 then (s.1&&inB p.SN 0 1,⟨s.2.Op,s.2.D,s.2.A,s.2.B,0⟩)
 else if c==109 then (s.1&&inB p.SN 0 3,⟨s.2.Op,s.2.D,s.2.A,s.2.B,0⟩)
 else if c==104 then (s.1&&inB p.SN 0 6,⟨s.2.Op,s.2.D,s.2.A,s.2.B,0⟩)
 else if c==110 then (s.1&&inB p.SN 1 255,⟨s.2.Op,s.2.D,s.2.A,s.2.B,0⟩)
 else if c==106 then (s.1&&inB p.D 0 63,⟨s.2.Op,0,s.2.A,s.2.B,s.2.SN⟩)
 else if c==98 then (s.1&&inB p.D 1 63,⟨s.2.Op,0,s.2.A,s.2.B,s.2.SN⟩)
 else s
section
variable {p:zf} {x:Bool} {o d a b m:Int}
theorem Rh:my p (x,⟨o,d,a,b,m⟩) 100=(x&&tw p.D,⟨o,0,a,b,m⟩):=rfl
theorem Ri:my p (x,⟨o,d,a,b,m⟩) 97=(x&&tw p.A,⟨o,d,0,b,m⟩):=rfl
theorem Rj:my p (x,⟨o,d,a,b,m⟩) 115=(if p.B==8 then (x,⟨o,d,a,0,0⟩) else (x&&tw p.B,⟨o,d,a,0,m⟩)):=rfl
theorem Rk:my p (x,⟨o,d,a,b,m⟩) 102=(x&&inB p.SN 0 1,⟨o,d,a,b,0⟩):=rfl
theorem Rl:my p (x,⟨o,d,a,b,m⟩) 109=(x&&inB p.SN 0 3,⟨o,d,a,b,0⟩):=rfl
theorem Rn:my p (x,⟨o,d,a,b,m⟩) 104=(x&&inB p.SN 0 6,⟨o,d,a,b,0⟩):=rfl
theorem Ro:my p (x,⟨o,d,a,b,m⟩) 110=(x&&inB p.SN 1 255,⟨o,d,a,b,0⟩):=rfl
theorem Rq:my p (x,⟨o,d,a,b,m⟩) 106=(x&&inB p.D 0 63,⟨o,0,a,b,m⟩):=rfl
theorem Rs:my p (x,⟨o,d,a,b,m⟩) 98=(x&&inB p.D 1 63,⟨o,0,a,b,m⟩):=rfl
end
theorem oW{σ ρ:Type}{again:σ->Option ρ}{c:Bool}{A B:Option ρ}{a b:σ}(hA:A=again a)(hB:B=again b):(if c then A else B)=again (if c then a else b):=by
 grind
theorem tx{σ ρ:Type}{again:(Bool×σ)->Option ρ}{x y:Bool}{z:σ}:(if x then again (y,z) else again (false,z))=again (x&&y,z):=by
 cases x<;>simp
theorem D1{p:zf}{r:qY×Bool}{i:Nat}{c:Int}{again:(Bool×zf)->Option (Bool×zf)}{s:Bool×zf}(h:uo r.1.SR (i:Int)=some c):
  iC p r i again s=again (my p s c):=by
 unfold iC my;simp only [h,zbs,D0,Iw];refine oW tx ?_;refine oW tx ?_;refine oW (oW rfl tx) ?_
 grind
def fin(x:Bool×zf):Bool:=x.1&&((x.2.Op==0)&&((x.2.D==0)&&((x.2.A==0)&&((x.2.B==0)&&(x.2.SN==0)))))
theorem Ab{p:zf}(ho:eV p.Op=some (f,true)){x:Bool×zf}(hz:f.SR.size<=3)
  (h:jL (iC p (f,true)) (λ(s:Bool×zf)=>(s.1,s.2)) f.SR.size 0 (true,{p with Op:=0})=some x):vV p=some (fin x):=by
 have hr:room f.SR.size 1=some ():=by grind [room]
 unfold vV fin
 grind
theorem QL{p:zf}(ho:eV p.Op=some (f,true))(hs:f.SR.size=1)(h0:uo f.SR 0=some c0):
  vV p=some (fin (my p (true,{p with Op:=0}) c0)):=by
 grind [Ab,jL,D1]
theorem Qm{p:zf}{c1:Int}(ho:eV p.Op=some (f,true))(hs:f.SR.size=2)(h0:uo f.SR 0=some c0)(h1:uo f.SR 1=some c1):
  vV p=some (fin (my p (my p (true,{p with Op:=0}) c0) c1)):=by
 refine Ab ho (by omega) ?_;rw [hs];simp only [jL]
 grind [D1]
theorem QM{p:zf}{c1 c2:Int}(ho:eV p.Op=some (f,true))(hs:f.SR.size=3)(h0:uo f.SR 0=some c0)(h1:uo f.SR 1=some c1)(h2:uo f.SR 2=some c2):
  vV p=some (fin (my p (my p (my p (true,{p with Op:=0}) c0) c1) c2)):=by
 refine Ab ho (by omega) ?_;rw [hs];simp only [jL]
 grind [D1]
theorem fw(i:zf):vV i=some (xd i):=by
 have hcase:=BK i.Op;obtain ⟨op,d,a,b,m⟩:=i;simp only at hcase
 have out:op<0\/op>=23->vV ⟨op,d,a,b,m⟩=some (xd ⟨op,d,a,b,m⟩):=by
  intro h;have e:eV op=some (⟨ByteArray.empty,ByteArray.empty⟩,false):=by unfold eV;rw [d7 (by simp;omega)]
  have k:∀k:Int,0<=k->k<=22->(op==k)=false:=by intro k h1 h2;simp;omega
  have d1:inB op 1 10=false:=by simp [inB];omega
  have d2:inB op 16 19=false:=by simp [inB];omega
  have r:xd ⟨op,d,a,b,m⟩=false:=by
   unfold xd;simp only [k 0 (by decide) (by decide),k 11 (by decide) (by decide),k 12 (by decide) (by decide),k 13 (by decide) (by decide),k 14 (by decide) (by decide),k 15 (by decide) (by decide),k 20 (by decide) (by decide),k 21 (by decide) (by decide),k 22 (by decide) (by decide),d1,d2];rfl
  unfold vV;rw [r];simp [e]
 rcases hcase with h|h|h|h|h|h|h|h|h|h|h|h|h|h|h|h|h|h|h|h|h|h|h|h|h
 ·exact out (.inl h)
 ·exact out (.inr h)
 all_goals subst h
 all_goals
  first
   |rw [Qm (c0:=100) (c1:=115) rfl rfl rfl rfl]
   |rw [QM (c0:=100) (c1:=97) (c2:=115) rfl rfl rfl rfl rfl]
   |rw [Qm (c0:=97) (c1:=115) rfl rfl rfl rfl]
   |rw [Qm (c0:=100) (c1:=102) rfl rfl rfl rfl]
   |rw [Qm (c0:=100) (c1:=109) rfl rfl rfl rfl]
   |rw [QL (c0:=106) rfl rfl rfl]
   |rw [QM (c0:=106) (c1:=97) (c2:=115) rfl rfl rfl rfl rfl]
   |rw [QM (c0:=98) (c1:=97) (c2:=110) rfl rfl rfl rfl rfl]
   |rw [QL (c0:=104) rfl rfl rfl]
   |rw [QL (c0:=97) rfl rfl rfl]
  congr 1
  simp only [Rh,Ri,Rj,Rk,Rl,Rn,Ro,Rq,Rs,fin,xd,OH];cases h8:(b==8)
  ·simp [h8,inB]
   try (rw [Bool.eq_iff_iff];simp;constructor<;>intro h<;>simp_all;done)
  ·simp only [s9] at h8;subst h8;simp [inB]
   try (rw [Bool.eq_iff_iff];simp;constructor<;>intro h<;>simp_all;done)
theorem Ix(op:Int)(h0:0<=op)(h1:op<23):∃f,eV op=some (f,true)/\jv f 106=some (inB op 15 19)/\jv f 98=some (op==20):=by
 have hcase:=BK op;rcases hcase with h|h|h|h|h|h|h|h|h|h|h|h|h|h|h|h|h|h|h|h|h|h|h|h|h
 ·omega
 ·omega
 all_goals subst h
 all_goals exact ⟨_,rfl,rfl,rfl⟩
theorem BL(h:xd i=true):0<=i.Op/\i.Op<23:=by
 rcases Int.lt_or_le i.Op 0 with h0|h0
 ·exfalso
  have k:∀k:Int,0<=k->(i.Op==k)=false:=by grind
  unfold xd inB at h;simp only [k 0 (by decide),k 11 (by decide),k 12 (by decide),k 13 (by decide),k 14 (by decide),k 15 (by decide),k 20 (by decide),k 21 (by decide),k 22 (by decide)] at h
  grind
 ·refine ⟨h0,?_⟩;rcases Int.lt_or_le i.Op 23 with h1|h1
  ·exact h1
  ·exfalso
   have k:∀k:Int,k<=22->(i.Op==k)=false:=by grind
   unfold xd inB at h;simp only [k 0 (by decide),k 11 (by decide),k 12 (by decide),k 13 (by decide),k 14 (by decide),k 15 (by decide),k 20 (by decide),k 21 (by decide),k 22 (by decide)] at h
   grind
theorem rA(h:eH i=true):0<=i.D/\i.D<=63/\15<=i.Op/\i.Op<=19:=by
 unfold eH at h;simp only [zae] at h;obtain ⟨hr,ho⟩:=h;have hb:15<=i.Op/\i.Op<=19:=by grind [inB]
 refine ⟨?_,?_,hb⟩<;>
 grind [inB,xd]
theorem Fj(h:lI i=true):1<=i.D/\i.D<=63/\i.Op=20/\1<=i.SN/\i.SN<=255:=by
 unfold lI at h;simp only [zae,s9] at h;obtain ⟨hr,ho⟩:=h;obtain ⟨op,d,a,b,m⟩:=i;simp only at ho;subst ho
 grind [xd,inB]
theorem mW(i:zf):kU i=some (ju i):=by
 unfold kU;rw [fw];simp only [zbs];cases hr:xd i with
 |false=>simp [ju,eH,lI,hr]
 |true=>
  obtain ⟨f,h1,h2,h3⟩:=Ix i.Op (BL hr).1 (BL hr).2;simp only [h1,zbs,h2,h3];cases hj:inB i.Op 15 19 with
  |true=>
   have:=rA (i:=i) (by grind [eH])
   grind [ju,eH,qp]
  |false=>
   cases hl:(i.Op==20) with
   |true=>
    have:=Fj (i:=i) (by simp [lI,hr,hl]);have e:w64 (0-i.D)= -i.D:=by grind [qp]
    simp only [ju,eH,lI,hr,hj,hl,e];rfl
   |false=>
    simp [ju,eH,lI,hr,hj,hl]
end
open Go.Sx
variable {ρ:Type} {code:List zf} {i:zf} {X:Prop} {v:ρ}
def fv{ρ:Type}(g:Nat->Option ρ):Nat->Nat->Option ρ
 |0,_=>none
 |n+1,i=>match g i with
  |some v=>some v
  |none=>fv g n (i+1)
def wJ{ρ:Type}:Option ρ->Unit⊕ρ
 |some v=>.inr v
 |none=>.inl ()
theorem Pv{body:Nat->(Unit->Option (Unit⊕ρ))->Unit->Option (Unit⊕ρ)}(g:Nat->Option ρ){N:Nat}
  (hb:∀j again,j<N->body j again ()=match g j with|some v=>some (.inr v)|none=>again ()):
  ∀(n i:Nat),i+n=N->jL body (λ_=>(.inl ())) n i ()=some (wJ (fv g n i)):=by
 intro n
 induction n with
 |zero=>intro i _;rfl
 |succ n ih=>
  intro i hi;show body i (jL body _ n (i+1)) ()=_;rw [hb i _ (by omega)];unfold fv;cases g i with
  |some v=>rfl
  |none=>exact ih (i+1) (by omega)
theorem pG{body:Nat->(Unit->Option (Unit⊕ρ))->Unit->Option (Unit⊕ρ)}(g:Nat->Option ρ){N:Nat}
 (hb:∀j again,j<N->body j again ()=match g j with|some v=>some (.inr v)|none=>again ()):
 jL body (λ_=>(.inl ())) N 0 ()=some (wJ (fv g N 0)):=Pv g hb N 0 (by omega)
theorem gG{g:Nat->Option ρ}:∀{n i:Nat},fv g n i=some v->∃j,i<=j/\j<i+n/\g j=some v/\∀q,i<=q->q<j->g q=none:=by
 intro n
 induction n with
 |zero=>intro i h;cases h
 |succ n ih=>
  grind [fv]
theorem gH{g:Nat->Option ρ}:∀{n i:Nat},fv g n i=none->∀q,i<=q->q<i+n->g q=none:=by
 intro n
 induction n with
 |zero=>intro i _ q h1 h2;omega
 |succ n ih=>
  grind [fv]
theorem Dm{g:Nat->Option ρ}:∀{n i:Nat},(∀q,i<=q->q<i+n->g q=none)->fv g n i=none:=by
 intro n
 induction n with
 |zero=>intro i _;rfl
 |succ n ih=>
  grind [fv]
theorem Jz{α:Type}{xs:List α}{i:Nat}(h:i<xs.length):idx xs (i:Int)=some xs[i]:=by
 simp [Go.Sx.idx,h]
def Dn(n:Int)(p:Int)(i:zf):Int:=
 if !xd i then 12
 else if (ju i).2.1&&(decide (p+(ju i).1<0)||decide (p+(ju i).1>=n)) then 30
 else if (ju i).2.2&&p==n-1 then 36 else 0
theorem uQ(i:zf): -63<=(ju i).1/\(ju i).1<=64:=by
 unfold ju;split
 ·rename_i h;have:=rA h;simp;omega
 ·split
  ·rename_i h;have:=Fj h;simp;omega
  ·simp
def fC(code:List zf)(p:Nat):Option (Int×Int):=match code[p]? with
 |some i=>if Dn code.length p i=0 then none else some ((p:Int),Dn code.length p i)
 |none=>none
theorem HY(code:List zf)(hn:code.length<=64):gU code=some ((fv (fC code) code.length 0).getD (0,0)):=by
 unfold gU;rw [pG (fC code) (N:=code.length)]
 ·simp only [zbs];cases fv (fC code) code.length 0<;>rfl
 ·intro j again hj;unfold nt;have hx:code[j]? =some code[j]:=zeg hj;generalize hi:code[j]=x at hx;have hg:=uQ x;have e1:w64 ((j:Int)+(ju x).1)=j+(ju x).1:=qp (by omega) (by omega);have e2:w64 ((code.length:Int)-1)=code.length-1:=qp (by omega) (by omega)
  have hr:fI [x]=some (xd x):=by
   unfold fI;simp only [List.length_singleton,jL,lX];rcases zft (xd x) with h|h<;>simp [Go.Sx.idx,fw,h]
  simp only [Jz hj,hi,zbs,mW,hr,e1,e2,fC,hx,Dn]
  grind
def wK(code:List zf):Prop:=∀(p:Nat)(i:zf),code[p]? =some i->Dn code.length p i=0
theorem Ni(h:fv (fC code) code.length 0=none):wK code:=by
 intro p i hi;have hp:=(zes.1 hi).1;have:=gH h p (by omega) (by omega)
 grind [fC]
theorem HZ(h:wK code):fv (fC code) code.length 0=none:=by
 refine Dm (λq _ hq=> ?_);have hi:=zeg (show q<code.length by omega);unfold fC;rw [hi];simp only [h q _ hi,o8]
theorem wK.right(h:wK code){p:Nat}(hi:code[p]? =some i):xd i=true:=by
 have:=h p i hi
 grind [Dn,xd]
theorem wK.leads(h:wK code){p:Nat}(hi:code[p]? =some i)(hl:(ju i).2.1=true):0<=(p:Int)+(ju i).1/\(p:Int)+(ju i).1<code.length:=by
 have:=h p i hi;unfold Dn at this
 grind
theorem wK.on(h:wK code){p:Nat}(hi:code[p]? =some i)(hl:(ju i).2.2=true):p+1<code.length:=by
 have hp:=(zes.1 hi).1;have h1:=h p i hi;unfold Dn at h1
 grind
theorem wK.loop(h:wK code){p:Nat}(hi:code[p]? =some i)(ho:i.Op=20):1<=i.D/\i.D<=p/\1<=i.SN/\i.SN<=255/\p+1<code.length:=by
 have hr:=h.right hi;have hl:lI i=true:=by grind [lI]
 have hj:eH i=false:=by simp [eH,inB,ho]
 have hg:ju i=(-i.D,true,true):=by simp [ju,hl,hj]
 have h1:=h.leads hi (by rw [hg]);have h2:=h.on hi (by rw [hg]);rw [hg] at h1;have h3:=Fj hl
 grind
def jH(i:zf)(p:Nat):qv:=⟨(p:Int)-i.D,p,i.SN⟩
def lps(code:List zf):Nat->List qv
 |0=>[]
 |k+1=>match code[k]? with
  |some i=>if i.Op==20 then lps code k++[jH i k] else lps code k
  |none=>lps code k
theorem wL(code:List zf):∀k,(lps code k).length<=k
 |0=>m6 _
 |k+1=>by
  have:=wL code k
  grind [lps]
theorem nR{code:List zf}{l:qv}:∀{k:Nat},l∈lps code k↔∃q i,q<k/\code[q]? =some i/\i.Op=20/\l=jH i q
 |0=>by simp [lps]
 |k+1=>by
  unfold lps;have ih:= @nR code l k
  grind
theorem uR(code:List zf):∀k,(lps code k).Pairwise (λa b=>a.At<b.At)/\∀l∈lps code k,l.At<k
 |0=>⟨List.Pairwise.nil,by simp [lps]⟩
 |k+1=>by
  obtain ⟨h1,h2⟩:=uR code k;unfold lps;split
  ·split
   ·refine ⟨List.pairwise_append.2 ⟨h1,List.pairwise_singleton _ _,λa ha b hb=> ?_⟩,λl hl=> ?_⟩
    ·simp at hb;subst hb;exact h2 a ha
    ·rcases g9.1 hl with hl|hl
     ·grind
     ·simp at hl;subst hl;simp [jH];omega
   grind
  grind
theorem wM(hn:code.length<=64)(hD:wK code):fb code=some (lps code code.length):=by
 refine OK.is ?_;unfold fb;refine d6 (R:=λy=>y=lps code code.length) ?_ (λx hx=>b9 hx);refine g8 (λi s=>s=lps code i) rfl ?_ (λs h=>h);intro i s again hi hs k;subst hs;unfold oB;refine f9 (i7 hi (λx hx=> ?_));have hl:=wL code i;refine d5 (λh=> ?_) (λh=> ?_)
 ·have hd:=hD.loop hx (by simpa using h)
  grind [f9,OK.hasRoom,lps,jH,qp]
 grind [lps]
def qT(code:List zf)(p a:Nat):Bool:=match code[a]? with
 |some i=>i.Op==20&&decide ((a:Int)-i.D<=p)&&decide (p<=a)
 |none=>false
open Classical in
noncomputable def pick {ρ:Type} (X:Prop) (v:ρ):Option ρ:=if X then some v else none
theorem E3(h:X):pick X v=some v:=by grind [pick]
theorem E4(h:¬ X):pick X v=none:=by grind [pick]
theorem oI{u:ρ}(h:pick X v=some u):X/\v=u:=by
 grind [pick]
theorem kz(h:pick X v=none):¬ X:=by
 grind [pick]
def Nj(X:Nat->Prop)(n:Nat):Option Nat->Prop
 |some l=>l<n/\X l/\∀q,q<l->¬ X q
 |none=>∀q,q<n->¬ X q
theorem Dp{X:Nat->Prop}{n:Nat}{v:Nat->ρ}:∃o,Nj X n o/\fv (λl=>pick (X l) (v l)) n 0=o.map v:=by
 cases h:fv (λl=>pick (X l) (v l)) n 0 with
 |none=>exact ⟨none,λq hq=>kz (gH h q (by omega) (by omega)),rfl⟩
 |some u=>
  obtain ⟨j,_,h2,h3,h4⟩:=gG h;obtain ⟨hx,rfl⟩:=oI h3;exact ⟨some j,⟨by omega,hx,λq hq=>kz (h4 q (by omega) hq)⟩,rfl⟩
def Crs(code:List zf)(l m:Nat):Prop:=∃il im,code[l]? =some il/\il.Op=20/\code[m]? =some im/\im.Op=20/\(l:Int)-il.D<=m/\(m:Int)-im.D<l-il.D
def Cr(code:List zf)(l:Nat):Prop:=∃m,m<l/\Crs code l m
theorem xC{p a:Nat}(hi:code[a]? =some i)(ho:i.Op=20):qT code p a=true↔(a:Int)-i.D<=p/\p<=a:=by
 grind [qT]
theorem sW{ls:List qv}(hs:ls.Pairwise (λa b=>a.At<b.At)){i j:Nat}{a b:qv}(hi:ls[i]? =some a)(hj:ls[j]? =some b):a.At<b.At↔i<j:=by
 obtain ⟨h1,rfl⟩:=zes.1 hi;obtain ⟨h2,rfl⟩:=zes.1 hj;constructor
 ·intro h;rcases Nat.lt_trichotomy i j with h3|h3|h3
  ·exact h3
  ·subst h3;omega
  ·have:=List.pairwise_iff_getElem.1 hs j i h2 h1 h3;omega
 ·intro h;exact List.pairwise_iff_getElem.1 hs i j h1 h2 h
theorem wN{α:Type}{xs:List α}{k:Nat}(hk:k<=xs.length):cut xs 0 (k:Int)=some (xs.take k):=by
 grind [cut]
theorem Nk(hn:code.length<=64)(hD:wK code):
  ∃o,Nj (Cr code) code.length o/\jL (fA (lps code code.length)) (λ_=>(.inl ())) (lps code code.length).length 0 ()=some (wJ (o.map λ(l:Nat)=>((l:Int),(31:Int)))):=by
 have hs:=(uR code code.length).1;have hl:=wL code code.length;generalize hls:lps code code.length=ls at hs hl |-
 have mem:∀{l:qv},l∈ls↔∃q i,q<code.length/\code[q]? =some i/\i.Op=20/\l=jH i q:=by
  grind [nR]
 have main:jL (fA ls) (λ_=>(.inl ())) ls.length 0 ()=some (wJ (fv (λk=>match ls[k]? with|some l=>pick (Cr code l.At.toNat) (l.At,(31:Int))|none=>none) ls.length 0)):=by
  refine pG _ (N:=ls.length) ?_;intro k again hk;have hx:=zeg hk;generalize hi:ls[k]=x at hx;obtain ⟨q,i,hq,hqi,hop,rfl⟩:=mem.1 (zmg hx);unfold fA;have htl:(ls.take k).length=k:=by grind
  have inner:jL (iM (jH i q) (ls.take k)) (λ_=>(.inl ())) k 0 ()=some (wJ (fv (λm=>match ls[m]? with|some l=>pick (Crs code q l.At.toNat) ((q:Int),(31:Int))|none=>none) k 0)):=by
   refine pG _ (N:=k) ?_;intro m again hm;have hml:m<ls.length:=by omega
   have hy:=zeg hml;generalize hj:ls[m]=y at hy
   have hyt:idx (ls.take k) (m:Int)=some y:=by
    grind [Jz]
   obtain ⟨q',i',hq',hqi',hop',rfl⟩:=mem.1 (zmg hy);unfold iM;simp only [hyt,hy,zbs];have e:((jH i' q').At).toNat=q':=by simp [jH]
   rw [e];by_cases hc:Crs code q q'
   ·rw [E3 hc];obtain ⟨il,im,e1,_,e3,_,c1,c2⟩:=hc;rw [hqi] at e1;cases e1;rw [hqi'] at e3;cases e3
    have:(decide ((jH i' q').At>=(jH i q).Ti)&&decide ((jH i' q').Ti<(jH i q).Ti))=true:=by
     have a1:(jH i' q').At=q':=rfl;have a2:(jH i q).Ti=q-i.D:=rfl;have a3:(jH i' q').Ti=q'-i'.D:=rfl;simp only [a1,a2,a3,zae,zdq];exact ⟨c1,c2⟩
    simp only [this];rfl
   ·rw [E4 hc]
    have:(decide ((jH i' q').At>=(jH i q).Ti)&&decide ((jH i' q').Ti<(jH i q).Ti))=false:=by
     cases h:(decide ((jH i' q').At>=(jH i q).Ti)&&decide ((jH i' q').Ti<(jH i q).Ti)) with
     |false=>rfl
     |true=>
      exfalso;apply hc
      have a1:(jH i' q').At=q':=rfl;have a2:(jH i q).Ti=q-i.D:=rfl;have a3:(jH i' q').Ti=q'-i'.D:=rfl;simp only [a1,a2,a3,zae,zdq] at h;exact ⟨i,i',hqi,hop,hqi',hop',h.1,h.2⟩
    grind
  simp only [Jz hk,hi,hx,zbs,wN (Nat.le_of_lt hk),htl,inner];have e:((jH i q).At).toNat=q:=by simp [jH]
  rw [e];cases hf:fv (λm=>match ls[m]? with|some l=>pick (Crs code q l.At.toNat) ((q:Int),(31:Int))|none=>none) k 0 with
  |some v=>
   obtain ⟨m,_,h2,h3,_⟩:=gG hf;have hml:m<ls.length:=by omega
   have hy:=zeg hml;rw [hy] at h3;obtain ⟨hcr,rfl⟩:=oI h3;have hlt:=(sW hs hy hx).2 (by omega);obtain ⟨q',i',hq',hqi',hop',e'⟩:=mem.1 (zmg hy);rw [e'] at hcr hlt;rw [E3 ⟨q',by grind [jH],by grind [jH]⟩];rfl
  |none=>
   have h0:=gH hf;rw [E4]
   ·rfl
   ·rintro ⟨m,hm,hcr⟩;obtain ⟨il,im,e1,_,e3,e4,c1,c2⟩:=id hcr;have hmem:=mem.2 ⟨m,im,by omega,e3,e4,rfl⟩;obtain ⟨j,hj,hje⟩:=t8.1 hmem;have hy:=zeg hj;rw [hje] at hy;have hlt:=(sW hs hy hx).1 (by grind [jH])
    grind [kz,jH]
 cases hf:fv (λk=>match ls[k]? with|some l=>pick (Cr code l.At.toNat) (l.At,(31:Int))|none=>none) ls.length 0 with
 |none=>
  refine ⟨none,λq hq hc=> ?_,by rw [main,hf];rfl⟩;obtain ⟨m,hm,il,im,e1,e2,_⟩:=id hc;obtain ⟨j,hj,hje⟩:=t8.1 (mem.2 ⟨q,il,hq,e1,e2,rfl⟩);have:=gH hf j (by omega) (by omega)
  grind [kz,jH]
 |some v=>
  obtain ⟨k,_,h2,h3,h4⟩:=gG hf;have hk:k<ls.length:=by omega
  have hx:=zeg hk;rw [hx] at h3;obtain ⟨hc,rfl⟩:=oI h3;obtain ⟨q,i,hq,hqi,hop,e⟩:=mem.1 (zmg hx);refine ⟨some q,⟨hq,?_,λq' hq' hc'=> ?_⟩,?_⟩
  ·grind [jH]
  ·obtain ⟨m,hm,il,im,e1,e2,_⟩:=id hc';obtain ⟨j,hj,hje⟩:=t8.1 (mem.2 ⟨q',il,by omega,e1,e2,rfl⟩);have hy:=zeg hj;have hlt:=(sW hs hy hx).1 (by grind [jH])
   grind [kz,jH]
  ·rw [main,hf,e];rfl
def En(code:List zf)(p:Nat):Prop:=∃i,code[p]? =some i/\(ju i).2.1=true/\0<(ju i).1/\∃a ia t,a<code.length/\code[a]? =some ia/\ia.Op=20/\(t:Nat)=(p:Int)+(ju i).1/\qT code t a=true/\qT code p a=false/\(t:Int)≠a-ia.D
theorem Nl(hn:code.length<=64)(hD:wK code):
  jL (iO code (lps code code.length)) (λ_=>(.inl ())) code.length 0 ()=some (wJ (fv (λp=>pick (En code p) ((p:Int),(31:Int))) code.length 0)):=by
 refine pG _ (N:=code.length) ?_;intro p again hp;have hx:=zeg hp;generalize hi:code[p]=x at hx;have hg:=uQ x;have e1:w64 ((p:Int)+(ju x).1)=p+(ju x).1:=qp (by omega) (by omega);have hl:=wL code code.length
 have inner:jL (iN (lps code code.length) p (ju x)) (λ_=>(.inl ())) (lps code code.length).length 0 ()=
   some (wJ (fv (λk=>match (lps code code.length)[k]? with|some l=>pick ((ju x).2.1=true/\0<(ju x).1/\¬ (l.Ti<=p/\(p:Int)<=l.At)/\(l.Ti<=p+(ju x).1/\p+(ju x).1<=l.At)/\p+(ju x).1≠l.Ti) ((p:Int),(31:Int))|none=>none) (lps code code.length).length 0)):=by
  refine pG _ (N:=(lps code code.length).length) ?_;intro k again hk;have hy:=zeg hk;generalize hj:(lps code code.length)[k]=y at hy;unfold iN;simp only [Jz hk,hj,hy,zbs,nM,e1]
  grind [ju,E3,E4]
 unfold iO;simp only [Jz hp,hi,zbs,mW,inner];cases hf:fv (λk=>match (lps code code.length)[k]? with|some l=>pick ((ju x).2.1=true/\0<(ju x).1/\¬ (l.Ti<=p/\(p:Int)<=l.At)/\(l.Ti<=p+(ju x).1/\p+(ju x).1<=l.At)/\p+(ju x).1≠l.Ti) ((p:Int),(31:Int))|none=>none) (lps code code.length).length 0 with
 |some v=>
  obtain ⟨k,_,h2,h3,_⟩:=gG hf;have hk:k<(lps code code.length).length:=by omega
  have hy:=zeg hk;rw [hy] at h3;obtain ⟨⟨c1,c2,c3,c4,c5⟩,rfl⟩:=oI h3;obtain ⟨q,i,hq,hqi,hop,e⟩:=nR.1 (zmg hy);rw [e] at c3 c4 c5;simp only [jH] at c3 c4 c5;have hpos:0<=(p:Int)+(ju x).1:=by omega
  have hcv:qT code p q=false:=by
   grind [qT,xC]
  have hE:En code p:=⟨x,hx,c1,c2,q,i,((p:Int)+(ju x).1).toNat,hq,hqi,hop,by omega,(xC hqi hop).2 (by omega),hcv,by omega⟩
  rw [E3 hE];rfl
 |none=>
  have h0:=gH hf;rw [E4]
  ·rfl
  ·rintro ⟨i',hi',c1,c2,a,ia,t,ha,hia,hop,ht,v1,v2,v3⟩;rw [hx] at hi';cases hi';obtain ⟨j,hj,hje⟩:=t8.1 (nR.2 ⟨a,ia,ha,hia,hop,rfl⟩:jH ia a∈lps code code.length);have:=h0 j (by omega) (by omega);rw [zeg hj,hje] at this;refine kz this ⟨c1,c2,?_,?_,?_⟩
   ·intro hh;simp only [jH] at hh
    grind [xC]
   ·have:=(xC hia hop).1 v1
    grind [jH]
   grind [jH]
def cX(code:List zf)(p:Nat):Nat->Int
 |0=>1
 |k+1=>match code[k]? with
  |some i=>if qT code p k then cX code p k*(i.SN+1) else cX code p k
  |none=>cX code p k
def uC(code:List zf):Nat->Int
 |0=>0
 |k+1=>uC code k+cX code k code.length
theorem H0{p a:Nat}(hi:code[a]? =some i)(h:qT code p a=true):i.Op=20:=by
 grind [qT]
theorem oJ{code:List zf}(hD:wK code)(p:Nat):∀k,1<=cX code p k
 |0=>by simp [cX]
 |k+1=>by
  have ih:=oJ hD p k;unfold cX;split
  ·rename_i i hi
   split
   ·rename_i hc
    have hd:=hD.loop hi (H0 hi hc);have:1*1<=cX code p k*(i.SN+1):=Int.mul_le_mul ih (by omega) (by omega) (by omega);omega
   ·exact ih
  ·exact ih
theorem sX{code:List zf}(hD:wK code):∀k:Nat,(k:Int)<=uC code k
 |0=>by simp [uC]
 |k+1=>by
  have:=sX hD k;have h2:=oJ hD k code.length;unfold uC;omega
theorem H1(code:List zf)(k:Nat):uC code (k+1)=uC code k+cX code k code.length:=rfl
def mn(x:Int):Int:=if x<=257 then x else 257
theorem Pw{x b:Int}(hx:1<=x)(hb:1<=b):mn (mn x*b)=mn (x*b):=by
 unfold mn;by_cases h:x<=257
 ·rw [d7 h]
 ·rw [d8 h];have h1:257*1<=257*b:=Int.mul_le_mul_of_nonneg_left hb (by decide);have h2:258*1<=x*b:=Int.mul_le_mul (by omega) hb (by decide) (by omega)
  grind
theorem Px{a b:Int}(ha:0<=a)(hb:0<=b):mn (mn a+mn b)=mn (a+b):=by
 grind [mn]
theorem H2(x:Int):na x 257=mn x:=by grind [na,mn]
theorem Ks(x:Int):mn x<=257/\mn x<=x:=by grind [mn]
def nf(p:Int):List qv->Int->Int
 |[],s=>s
 |l::r,s=>nf p r (if decide (p>=l.Ti)&&decide (p<=l.At) then s*(l.TC+1) else s)
theorem fP(p:Int)(l:List qv):∀(a:List qv)(s:Int),nf p (a++l) s=nf p l (nf p a s)
 |[],s=>rfl
 |x::r,s=>by simp only [y8,nf];exact fP p l r _
theorem sY(code:List zf)(p:Nat):∀k,nf p (lps code k) 1=cX code p k
 |0=>rfl
 |k+1=>by
  have ih:=sY code p k;unfold lps cX
  grind [fP,nf,jH,qT,xC]
theorem QG(hn:code.length<=64)(hD:wK code)(p:Nat):
  jL (lY (lps code code.length) p) (λ(s:Int)=>s) (lps code code.length).length 0 1=some (mn (cX code p code.length)):=by
 have hbound:∀(k:Nat)(l:qv),(lps code code.length)[k]? =some l->1<=l.TC/\l.TC<=255:=by
  intro k l hl;obtain ⟨q,i,_,h2,h3,rfl⟩:=nR.1 (zmg hl);have:=hD.loop h2 h3
  grind [jH]
 rw [<- sY code p code.length];generalize lps code code.length=ls at hbound;refine OK.is ?_;refine g8 (λ(i:Nat)(s:Int)=>s=mn (nf p (ls.take i) 1)/\1<=nf p (ls.take i) 1) ⟨by simp [nf,mn],by simp [nf]⟩ ?_ (λs h=>by rw [h.1];simp);intro i s again hi ⟨hs,h1⟩ k;unfold lY;refine f9 (i7 hi (λx hx=> ?_));have hb:=hbound i x hx
 have htake:ls.take (i+1)=ls.take i++[x]:=by
  rw [x4,hx];rfl
 simp only [nM,zbs];have hmn:=Ks (nf p (ls.take i) 1);have hs1:1<=s:=by grind [mn]
 refine d5 (λhc=> ?_) (λhc=> ?_)
 ·have e1:w64 (x.TC+1)=x.TC+1:=qp (by omega) (by omega);have m1:s*(x.TC+1)<=257*256:=Int.mul_le_mul (by omega) (by omega) (by omega) (by omega);have m0:0<=s*(x.TC+1):=Int.mul_nonneg (by omega) (by omega);have e2:w64 (s*(x.TC+1))=s*(x.TC+1):=qp (by omega) (by omega);rw [e1,e2,H2];refine k _ ⟨?_,?_⟩
  ·grind [fP,nf,Pw]
  ·rw [htake,fP];simp only [nf,hc,o8];have:1*1<=nf p (ls.take i) 1*(x.TC+1):=Int.mul_le_mul h1 (by omega) (by omega) (by omega);omega
 grind [fP,nf]
theorem Kt(hn:code.length<=64)(hD:wK code):lZ code=some (mn (uC code code.length)):=by
 unfold lZ;rw [wM hn hD];simp only [zbs];refine OK.is ?_;refine d6 (R:=λy=>y=mn (uC code code.length)) ?_ (λx hx=>b9 hx);refine g8 (λ(i:Nat)(s:Int)=>s=mn (uC code i)) (by simp [uC,mn]) ?_ (λs h=>h);intro i s again hi hs k;subst hs;unfold rq;rw [QG hn hD i];simp only [zbs];have h1:=Ks (cX code i code.length);have h2:=Ks (uC code i);have h3:=oJ hD i code.length;have h4:=sX hD i;have p1:1<=mn (cX code i code.length):=by grind [mn]
 grind [mn,uC,qp,H2,H1,Px]
end
open Go.Sx
structure uj (code:List zf):Prop where
 n1:1<=code.length
 Un:code.length<=64
 Tb:wK code
 cr:∀l,l<code.length->¬ Cr code l
 en:∀p,p<code.length->¬ En code p
 UF:uC code code.length<=256
theorem F3{code:List zf}(hn:code.length<=64)(hD:wK code):
  ∃o,Nj (Cr code) code.length o/\gV code=some (match o with|some l=>((l:Int),31)|none=>(fv (λp=>pick (En code p) ((p:Int),(31:Int))) code.length 0).getD (0,0)):=by
 obtain ⟨o,h1,h2⟩:=Nk hn hD;refine ⟨o,h1,?_⟩;unfold gV;rw [wM hn hD];simp only [zbs,h2,Nl hn hD];cases o with
 |some l=>rfl
 |none=>cases fv (λp=>pick (En code p) ((p:Int),(31:Int))) code.length 0<;>rfl
theorem sS(code:List zf):∃r,fc code=some r/\(r.1=0\/0<=r.1/\r.1<code.length)/\(r.2=0->r.1=0/\uj code)/\(uj code->r.2=0):=by
 unfold fc;by_cases h0:code.length=0
 ·refine ⟨(0,10),?_,.inl rfl,by simp,λh=>by have:=h.n1;omega⟩;simp [h0]
 ·have e0:((code.length:Int)==0)=false:=by simp;exact λh=>h0 (by simp [h])
  by_cases h1:64<code.length
  ·have e1:decide ((code.length:Int)>64)=true:=by simp;omega
   refine ⟨(0,11),?_,.inl rfl,by simp,λh=>by have:=h.Un;omega⟩;simp only [e0,e1];rfl
  ·have e1:decide ((code.length:Int)>64)=false:=by simp;omega
   have hn:code.length<=64:=by omega
   simp only [e0,e1,HY code hn,zbs];cases hp:fv (fC code) code.length 0 with
   |some v=>
    obtain ⟨j,_,h2,h3,_⟩:=gG hp
    have hne:v.2≠0/\v.1=j:=by
     unfold fC at h3;split at h3
     ·split at h3
      ·cases h3
      ·rename_i h4;cases h3;exact ⟨h4,rfl⟩
     ·cases h3
    refine ⟨v,?_,.inr ⟨by rw [hne.2];omega,by rw [hne.2];omega⟩,λh=>absurd h hne.1,λh=> ?_⟩
    ·have:(v.2 !=0)=true:=by simpa using hne.1
     simp [this]
    ·rw [HZ h.Tb] at hp;cases hp
   |none=>
    have hD:=Ni hp;obtain ⟨o,o1,o2⟩:=F3 hn hD;simp only [o2,zbs,Option.getD_none];cases o with
    |some l=>
     have:=o1.1;refine ⟨((l:Int),31),by simp,.inr ⟨by simp,by simpa using this⟩,by simp,λh=>absurd o1.2.1 (h.cr l o1.1)⟩
    |none=>
     obtain ⟨p,p1,p2⟩:=Dp (X:=En code) (n:=code.length) (v:=λp=>((p:Int),(31:Int)));rw [p2];cases p with
     |some l=>
      have:=p1.1;exact ⟨((l:Int),31),by simp,.inr ⟨by simp,by simpa using this⟩,by simp,λh=>absurd p1.2.1 (h.en l p1.1)⟩
     |none=>
      simp only [Kt hn hD,zbs,Option.map_none,Option.getD_none];have hmn:=Ks (uC code code.length);by_cases hc:mn (uC code code.length)>256
      ·refine ⟨(0,32),by simp [hc],.inl rfl,by simp,λh=> ?_⟩;have:=h.UF;omega
      ·refine ⟨(0,0),by simp [hc],.inl rfl,λ_=>⟨rfl,⟨by omega,hn,hD,o1,p1,?_⟩⟩,λ_=>rfl⟩;unfold mn at hc;split at hc<;>omega
theorem F4{code:List zf}(h:uj code):fc code=some (0,0):=by
 obtain ⟨r,h1,_,h2,h3⟩:=sS code;have:=h3 h;have h4:=(h2 this).1;rw [h1];obtain ⟨a,b⟩:=r;simp only at this h4;subst this;subst h4;rfl
theorem uP{code:List zf}(h:uj code):kr code=some (lps code code.length,0):=by
 unfold kr;rw [F4 h];simp [wM h.Un h.Tb]
open Go.Sx
variable {code:List zf} {a q:Nat}
def rem(code:List zf)(back:Nat->Int)(a:Nat):Int:=match code[a]? with
 |some i=>i.SN-back a
 |none=>0
def val(code:List zf)(back:Nat->Int)(q p:Nat):Nat->Int
 |0=>if q<=p then 1 else 0
 |k+1=>
  if qT code p k then
   (if qT code q k then val code back q p k+rem code back k*cX code p k else val code back q p k*(rem code (λ_=>0) k+1))
  else val code back q p k
theorem pL{p k:Nat}(hk:k<code.length):cX code p (k+1)=if qT code p k then cX code p k*(rem code (λ_=>0) k+1) else cX code p k:=by
 grind [cX,qT,rem]
theorem cZ(code:List zf)(back:Nat->Int)(q p k:Nat):val code back q p (k+1)=
  if qT code p k then
   (if qT code q k then val code back q p k+rem code back k*cX code p k else val code back q p k*(rem code (λ_=>0) k+1))
  else val code back q p k:=rfl
def Fit(code:List zf)(back:Nat->Int):Prop:=∀(a:Nat)(i:zf),code[a]? =some i->i.Op=20->0<=back a/\back a<=i.SN
section
variable {code:List zf} (g:uj code) {back back':Nat->Int}
include g
theorem iE{p:Nat}(h:qT code p a=true):∃i,code[a]? =some i/\i.Op=20/\(a:Int)-i.D<=p/\p<=a/\1<=i.D/\1<=i.SN/\a<code.length/\i.D<=a:=by
 unfold qT at h;split at h
 ·rename_i i hi
  simp only [zae,s9,zdq] at h;have:=g.Tb.loop hi h.1.1
  grind
 ·cases h
theorem kE(hf:Fit code back){p:Nat}(h:qT code p a=true):0<=rem code back a/\rem code back a<=rem code (λ_=>0) a/\1<=rem code (λ_=>0) a:=by
 obtain ⟨i,hi,ho,_,_,_,h6,_⟩:=iE g h;have:=hf a i hi ho
 grind [rem]
theorem NF{p b:Nat}(ha:qT code p a=true)(hb:qT code p b=true)(hab:a<b):∀q,qT code q a=true->qT code q b=true:=by
 intro q hq;obtain ⟨ia,a1,a2,a3,a4,a5,a6,a7,a8⟩:=iE g ha;obtain ⟨ib,b1,b2,b3,b4,b5,b6,b7,b8⟩:=iE g hb;obtain ⟨iq,q1,q2,q3,q4,_⟩:=iE g hq;rw [a1] at q1;cases q1;refine (xC b1 b2).2 ⟨?_,by omega⟩;have hno:=g.cr b b7;rcases Int.lt_or_le ((a:Int)-ia.D) (b-ib.D) with h|h
 ·exact absurd ⟨a,hab,ib,ia,b1,b2,a1,a2,by omega,h⟩ hno
 ·omega
theorem gJ(p k:Nat):1<=cX code p k:=oJ g.Tb p k
theorem mX(hf:Fit code back)(q p:Nat):∀k,k<=code.length->(if q<=p then 1 else 0)<=val code back q p k:=by
 intro k
 induction k with
 |zero=>intro _;exact t9 _
 |succ k ih=>
  intro hk;have ih:=ih (by omega);rw [cZ];have h0:(0:Int)<=if q<=p then 1 else 0:=by split<;>omega
  generalize (if q<=p then (1:Int) else 0)=z at ih h0;by_cases hc:qT code p k=true
  ·rw [d7 hc];have hr:=kE g hf hc;split
   ·have:0<=rem code back k*cX code p k:=Int.mul_nonneg hr.1 (by have:=gJ g p k;omega);omega
   ·have:val code back q p k*1<=val code back q p k*(rem code (λ_=>0) k+1):=Int.mul_le_mul_of_nonneg_left (by omega) (by omega);omega
  grind
theorem Iy{p:Nat}:∀k,k<=code.length->val code (λ_=>0) q p k<=cX code p k:=by
 intro k
 induction k with
 |zero=>intro _;simp only [val,cX];split<;>omega
 |succ k ih=>
  intro hk;have ih:=ih (by omega);rw [cZ,pL (by omega)];split
  ·rename_i hc
   have hf:Fit code (λ_=>0):=λa i hi ho=>by have:=g.Tb.loop hi ho;exact ⟨t9 _,by simp only;omega⟩
   have hr:=kE g hf hc;have ht:=gJ g p k;split
   ·grind
   ·exact RH ih (by omega)
  ·exact ih
theorem NG(hf:Fit code back){t p:Nat}(hqt:q<t)(hin:∀a,qT code t a=true->qT code q a=true\/∃i,code[a]? =some i/\(t:Int)=a-i.D)(hb:∀a,qT code t a=true->back' a=back a/\0<=back' a)(hp:p<code.length):
  val code back' t p code.length+(if q=p then 1 else 0)<=val code back q p code.length:=by
 by_cases hpt:t<=p
 ·
  have hne:¬ q=p:=by omega
  rw [d8 hne]
  have main:∀k,k<=code.length->val code back' t p k<=val code back q p k/\((∀a,a<k->qT code p a=true->qT code q a=false)->val code back q p k=cX code p k):=by
   intro k
   induction k with
   |zero=>intro _;simp only [val,cX];rw [d7 hpt,d7 (by omega)];exact ⟨t9 _,λ_=>rfl⟩
   |succ k ih=>
    intro hk;obtain ⟨i1,i2⟩:=ih (by omega);rw [cZ,cZ,pL (by omega)];by_cases hc:qT code p k=true
    ·rw [d7 hc,d7 hc,d7 hc];have hr:=kE g hf hc;have ht:=gJ g p k;have hv:=mX g hf q p k (by omega);rw [d7 (by omega)] at hv;by_cases hq:qT code q k=true
     ·grind [iE,qT,xC,rem]
     ·have hq':qT code q k=false:=by simpa using hq
      simp only [hq',zfe,w6]
      have hbefore:∀a,a<k->qT code p a=true->qT code q a=false:=by
       grind [qT,NF]
      have hvt:=i2 hbefore;by_cases htk:qT code t k=true
      ·rw [d7 htk];refine ⟨?_,λ_=>by rw [hvt]⟩;have hb2:=hb k htk
       have hrr:rem code back' k<=rem code (λ_=>0) k:=by
        grind [iE,rem]
       have:rem code back' k*cX code p k<=rem code (λ_=>0) k*cX code p k:=RH hrr (by omega);rw [hvt,Int.mul_add,Int.mul_one,Int.mul_comm (cX code p k)];omega
      ·rw [d8 htk];exact ⟨RH i1 (by omega),λ_=>by rw [hvt]⟩
    grind
  grind
 ·
  have hlt:p<t:=by omega
  have hboth:∀a,qT code p a=true->qT code t a=true->qT code q a=true:=by
   grind [iE]
  have main:∀k,k<=code.length->(val code back' t p k+(if q=p then 1 else 0)<=val code back q p k/\(∃a,a<k/\qT code p a=true/\qT code t a=true))\/
    (val code back' t p k=0/\∀a,a<k->qT code p a=true->qT code t a=false):=by
   intro k
   induction k with
   |zero=>intro _;right;simp only [val];rw [d8 (by omega)];exact ⟨rfl,λa ha=>by omega⟩
   |succ k ih=>
    intro hk;rw [cZ,cZ];by_cases hc:qT code p k=true
    ·rw [d7 hc,d7 hc];have hr:=kE g hf hc;have ht:=gJ g p k;have hv:=mX g hf q p k (by omega)
     grind [qT,rem,iE,NF]
    grind
  have hv:=mX g hf q p code.length (m6 _)
  grind
theorem KU(hf:Fit code back){h p:Nat}{i:zf}(hi:code[a]? =some i)(ho:i.Op=20)(hh:(h:Int)=a-i.D)(hb:back' a=back a+1)(hb2:∀b,b≠a->back' b=back b)(hlim:back a<i.SN)(hp:p<code.length):
  val code back' h p code.length+(if a=p then 1 else 0)<=val code back a p code.length:=by
 have hd:=g.Tb.loop hi ho;have hal:=(zes.1 hi).1;have hcaa:qT code a a=true:=(xC hi ho).2 ⟨by omega,by omega⟩;have hcha:qT code h a=true:=(xC hi ho).2 ⟨by omega,by omega⟩
 have hrem:∀b,b≠a->rem code back' b=rem code back b:=by
  grind [rem]
 by_cases hbody:h<=p/\p<=a
 ·have hcpa:qT code p a=true:=(xC hi ho).2 ⟨by omega,by omega⟩
  have low:∀k,k<=a->val code back a p k=(if a<=p then 1 else 0)*cX code p k/\val code back' h p k<=cX code p k:=by
   intro k
   induction k with
   |zero=>intro _;simp only [val,cX];rw [d7 hbody.1];simp
   |succ k ih=>
    intro hk;obtain ⟨i1,i2⟩:=ih (by omega);rw [cZ,cZ,pL (by omega)];by_cases hc:qT code p k=true
    ·rw [d7 hc,d7 hc,d7 hc];have hr:=kE g hf hc;have ht:=gJ g p k
     have hka:¬ qT code a k=true:=by
      grind [iE]
     rw [d8 hka,i1,Int.mul_assoc];refine ⟨rfl,?_⟩;split
     ·rw [hrem k (by omega)];have:rem code back k*cX code p k<=rem code (λ_=>0) k*cX code p k:=RH hr.2.1 (by omega)
      grind
     ·exact RH i2 (by omega)
    grind
  have high:∀n,a+1+n<=code.length->val code back' h p (a+1+n)+(if a=p then 1 else 0)<=val code back a p (a+1+n):=by
   intro n
   induction n with
   |zero=>
    intro _;obtain ⟨l1,l2⟩:=low a (m6 _);rw [Nat.add_zero,cZ,cZ,d7 hcpa,d7 hcpa,d7 hcaa,d7 hcha,l1];have ht:=gJ g p a;have er:rem code back' a=rem code back a-1:=by grind [rem]
    rw [er,Int.sub_mul,Int.one_mul]
    grind
   |succ n ih=>
    grind [cZ,qT,NF]
  have:=high (code.length-(a+1)) (by omega)
  rwa [show a+1+(code.length-(a+1))=code.length by omega] at this
 ·have hne:¬ a=p:=by omega
  rw [d8 hne]
  have same:∀k,k<=code.length->val code back' h p k=val code back a p k:=by
   intro k
   induction k with
   |zero=>intro _;simp only [val];by_cases h1:h<=p<;>by_cases h2:a<=p<;>simp [h1,h2]<;>omega
   |succ k ih=>
    intro hk;rw [cZ,cZ,ih (by omega)];by_cases hc:qT code p k=true
    ·rw [d7 hc,d7 hc];obtain ⟨ik,c1,c2,c3,c4,c5,c6,c7,c8⟩:=iE g hc
     have hka:k≠a:=by
      grind
     have hiff:qT code h k=qT code a k:=by
      rw [Bool.eq_iff_iff];constructor
      ·intro hck;obtain ⟨i',d1,d2,d3,d4,_⟩:=iE g hck;rw [c1] at d1;cases d1;rcases y7 k a with h5|h5
       ·
        exfalso
        exact g.cr a hal ⟨k,h5,i,ik,hi,ho,c1,c2,by omega,by omega⟩
       ·exact (xC c1 c2).2 ⟨by omega,by omega⟩
      ·intro hck;obtain ⟨i',d1,d2,d3,d4,_⟩:=iE g hck;rw [c1] at d1;cases d1;have hk2:a<k:=by omega
       refine (xC c1 c2).2 ⟨?_,by omega⟩;rcases Int.lt_or_le ((a:Int)-i.D) (k-ik.D) with h5|h5
       ·exact absurd ⟨a,hk2,ik,i,c1,c2,hi,ho,by omega,h5⟩ (g.cr k c7)
       ·omega
     grind
    grind
  grind
end
def pot(code:List zf)(back:Nat->Int)(q:Nat):Nat->Int
 |0=>0
 |p+1=>pot code back q p+val code back q p code.length
theorem Fk{back back':Nat->Int}{t:Nat}(hq:q<code.length)(h:∀p,p<code.length->val code back' t p code.length+(if q=p then 1 else 0)<=val code back q p code.length):
  pot code back' t code.length+1<=pot code back q code.length:=by
 have main:∀n,n<=code.length->pot code back' t n+(if q<n then 1 else 0)<=pot code back q n:=by
  intro n
  induction n with
  |zero=>intro _;simp [pot]
  |succ n ih=>
   grind [pot]
 grind
theorem Iz(g:uj code):pot code (λ_=>0) q code.length<=uC code code.length:=by
 have main:∀n,n<=code.length->pot code (λ_=>0) q n<=uC code n:=by
  intro n
  induction n with
  |zero=>intro _;simp [pot,uC]
  |succ n ih=>
   intro hn;have:=ih (by omega);have h2:=Iy g (q:=q) (p:=n) code.length (m6 _)
   grind [pot,uC]
 grind
theorem NH(g:uj code){back:Nat->Int}(hf:Fit code back)(hq:q<code.length):1<=pot code back q code.length:=by
 have main:∀n,n<=code.length->(if q<n then 1 else 0)<=pot code back q n:=by
  intro n
  induction n with
  |zero=>intro _;simp [pot]
  |succ n ih=>
   intro hn;have:=ih (by omega);have h2:=mX g hf q n code.length (m6 _);simp only [pot];by_cases e:q<=n
   ·rw [d7 e] at h2;rw [d7 (by omega)];split at this<;>omega
   ·rw [d8 e] at h2;rw [d8 (by omega)];split at this<;>omega
 have:=main _ (m6 _)
 rwa [d7 hq] at this
end
open Go.Sx
variable {x y:Int}
def SW(s:zg):Prop:=0<=s.Lo/\s.Lo<=s.Hi/\s.Hi<18446744073709551616
theorem sk(x:Int):vc x=x%18446744073709551616:=rfl
theorem ve(h0:0<=x)(h1:x<18446744073709551616):vc x=x:=by rw [sk];omega
theorem xe(x:Int):0<=vc x/\vc x<18446744073709551616:=by rw [sk];omega
theorem Fu(x y:Int):wl .u64 x y=((BitVec.ofInt 64 x &&& BitVec.ofInt 64 y).toNat:Int)%18446744073709551616:=rfl
theorem IW(x y:Int):bOr .u64 x y=((BitVec.ofInt 64 x ||| BitVec.ofInt 64 y).toNat:Int)%18446744073709551616:=rfl
theorem Fv(x y:Int):Mq .u64 x y=((BitVec.ofInt 64 x ^^^ BitVec.ofInt 64 y).toNat:Int)%18446744073709551616:=rfl
theorem oZ(x y:Int):wm .u64 x y=(x*2^(min y.toNat 64))%18446744073709551616:=rfl
theorem Lb(x y:Int):iI .u64 x y=x.fdiv (2^(min y.toNat 64)):=rfl
theorem rB(h0:0<=x)(h1:x<18446744073709551616):(BitVec.ofInt 64 x).toNat=x.toNat:=by
 rw [BitVec.toNat_ofInt];omega
theorem Fw(x0:0<=x)(x1:x<18446744073709551616)(y0:0<=y)(y1:y<18446744073709551616):wl .u64 x y=((x.toNat &&& y.toNat:Nat):Int):=by
 rw [Fu,BitVec.toNat_and,rB x0 x1,rB y0 y1];have:x.toNat &&& y.toNat<=x.toNat:=Nat.and_le_left;omega
theorem IX(x0:0<=x)(x1:x<18446744073709551616)(y0:0<=y)(y1:y<18446744073709551616):bOr .u64 x y=((x.toNat ||| y.toNat:Nat):Int):=by
 have h:(BitVec.ofInt 64 x ||| BitVec.ofInt 64 y).toNat<2^64:=BitVec.isLt _;rw [IW,Int.emod_eq_of_lt (by omega) (by omega),BitVec.toNat_or,rB x0 x1,rB y0 y1]
theorem Lc(x0:0<=x)(x1:x<18446744073709551616)(y0:0<=y)(y1:y<18446744073709551616):Mq .u64 x y=((x.toNat ^^^ y.toNat:Nat):Int):=by
 have h:(BitVec.ofInt 64 x ^^^ BitVec.ofInt 64 y).toNat<2^64:=BitVec.isLt _;rw [Fv,Int.emod_eq_of_lt (by omega) (by omega),BitVec.toNat_xor,rB x0 x1,rB y0 y1]
theorem Ea(x0:0<=x)(x1:x<18446744073709551616)(y0:0<=y)(y1:y<18446744073709551616):x<=bOr .u64 x y/\y<=bOr .u64 x y/\bOr .u64 x y<18446744073709551616:=by
 have h:(BitVec.ofInt 64 x ||| BitVec.ofInt 64 y).toNat<2^64:=BitVec.isLt _;rw [BitVec.toNat_or,rB x0 x1,rB y0 y1] at h;rw [IX x0 x1 y0 y1];have h1:x.toNat<=x.toNat ||| y.toNat:=Nat.left_le_or
 have h2:y.toNat<=x.toNat ||| y.toNat:=Nat.right_le_or
 omega
theorem Eb(x y:Int):0<=wl .u64 x y/\wl .u64 x y<18446744073709551616:=by rw [Fu];omega
theorem BT(x y:Int):0<=bOr .u64 x y/\bOr .u64 x y<18446744073709551616:=by rw [IW];omega
theorem IY(x y:Int):0<=Mq .u64 x y/\Mq .u64 x y<18446744073709551616:=by rw [Fv];omega
theorem IZ(x y:Int):0<=wm .u64 x y/\wm .u64 x y<18446744073709551616:=by rw [oZ];omega
theorem Aj(x0:0<=x):iI .u64 x y=((x.toNat / 2^(min y.toNat 64):Nat):Int):=by
 rw [Lb];obtain ⟨a,rfl⟩:=zof x0;rw [Int.fdiv_eq_ediv_of_nonneg _ (by exact_mod_cast Nat.zero_le _)];simp
theorem Ec(x0:0<=x)(x1:x<18446744073709551616):0<=iI .u64 x y/\iI .u64 x y<=x:=by
 rw [Aj x0];have:=Nat.div_le_self x.toNat (2^(min y.toNat 64));generalize x.toNat / 2^(min y.toNat 64)=q at*
 omega
theorem Ak{s t:Int}(x0:0<=x)(xy:x<=y)(ts:t<=s):iI .u64 x s<=iI .u64 y t:=by
 rw [Aj x0,Aj (by omega)];have h1:x.toNat / 2^(min s.toNat 64)<=y.toNat / 2^(min s.toNat 64):=Nat.div_le_div_right (by omega);have h2:y.toNat / 2^(min s.toNat 64)<=y.toNat / 2^(min t.toNat 64):=Nat.div_le_div_left (Nat.pow_le_pow_right (by omega) (by omega)) (Nat.pow_pos (by omega))
 exact_mod_cast p8 h1 h2
theorem fy(h:0<=y):nn y=some ():=by unfold nn;rw [d8 (by omega)]
theorem mC(h:y≠0):nz y=some ():=by unfold nz;rw [d8 h]
def tM:ByteArray:=⟨[0,1,2,2,3,3,3,3,4,4,4,4,4,4,4,4,5,5,5,5,5,5,5,5,5,5,5,5,5,5,5,5,6,6,6,6,6,6,6,6,6,6,6,6,6,6,6,6,6,6,6,6,6,6,6,6,6,6,6,6,6,6,6,6,7,7,7,7,7,7,7,7,7,7,7,7,7,7,7,7,7,7,7,7,7,7,7,7,7,7,7,7,7,7,7,7,7,7,7,7,7,7,7,7,7,7,7,7,7,7,7,7,7,7,7,7,7,7,7,7,7,7,7,7,7,7,7,7,8,8,8,8,8,8,8,8,8,8,8,8,8,8,8,8,8,8,8,8,8,8,8,8,8,8,8,8,8,8,8,8,8,8,8,8,8,8,8,8,8,8,8,8,8,8,8,8,8,8,8,8,8,8,8,8,8,8,8,8,8,8,8,8,8,8,8,8,8,8,8,8,8,8,8,8,8,8,8,8,8,8,8,8,8,8,8,8,8,8,8,8,8,8,8,8,8,8,8,8,8,8,8,8,8,8,8,8,8,8,8,8,8,8,8,8,8,8,8,8,8,8,8,8,8,8,8,8].toArray⟩
theorem Rt:∀c:Nat,c<256->∃k:Nat,k<=8/\c<2^k/\(c=0->k=0)/\(0<c->2^(k-1)<=c)/\uo tM (c:Int)=some (k:Int):=by
 have h:∀c:Fin 256,∃k:Fin 9,(c:Nat)<2^(k:Nat)/\((c:Nat)=0->(k:Nat)=0)/\(0<(c:Nat)->2^((k:Nat)-1)<=(c:Nat))/\uo tM ((c:Nat):Int)=some ((k:Nat):Int):=by decide+kernel
 intro c hc;obtain ⟨k,h1,h2,h3,h4⟩:=h ⟨c,hc⟩;exact ⟨k,by omega,h1,h2,h3,h4⟩
theorem Fx{n:Nat}(s:Nat)(h:s<=64):iI .u64 (n:Int) (s:Int)=((n / 2^s:Nat):Int):=by
 rw [Aj (by omega)];have:min (s:Int).toNat 64=s:=by omega
 rw [this];simp
theorem NV(c s:Nat)(hc:c<256)(hs:s<=56):∃k:Nat,k<=8/\c<2^k/\(c=0->k=0)/\(0<c->2^(k-1)<=c)/\
  ((uo tM (IntKind.u8.wrap (c:Int))).bind λc15=>some (w64 ((s:Int)+(w64 c15))))=some ((s+k:Nat):Int):=by
 obtain ⟨k,h1,h2,h3,h4,h5⟩:=Rt c hc;refine ⟨k,h1,h2,h3,h4,?_⟩;have e:IntKind.u8.wrap (c:Int)=(c:Int):=by rw [IntKind.wrap_u8];omega
 rw [e,h5];show some _=some _;rw [qp (x:=(k:Int)) (by omega) (by omega),qp (by omega) (by omega)];simp
set_option maxRecDepth 100000 in
theorem su{n:Nat}(h1:n<18446744073709551616):∃k:Nat,k<=64/\gE (n:Int)=some (k:Int)/\n<2^k/\(n=0->k=0)/\(0<n->2^(k-1)<=n):=by
 have go:∀(c s:Nat),c<256->s<=56->c=n / 2^s->(s=0\/0<c)->∃k:Nat,k<=64/\((uo tM (IntKind.u8.wrap (c:Int))).bind λc15=>some (w64 ((s:Int)+(w64 c15))))=some (k:Int)/\n<2^k/\(n=0->k=0)/\(0<n->2^(k-1)<=n):=by
  intro c s hc hs he hz;obtain ⟨k,k1,k2,k3,k4,k5⟩:=NV c s hc hs;have hp:0<2^s:=Nat.pow_pos (by omega);refine ⟨s+k,by omega,k5,?_,λh0=> ?_,λh0=> ?_⟩
  ·rw [Nat.pow_add,Nat.mul_comm];exact (Nat.div_lt_iff_lt_mul hp).1 (by omega)
  ·subst h0;rw [Nat.zero_div] at he;rcases hz with hz|hz
   ·have:=k3 he;omega
   ·omega
  ·have hc0:0<c:=by
    rcases hz with rfl|hz
    ·simp at he;omega
    ·exact hz
   have hk:=k4 hc0
   have hk0:0<k:=by
    rcases yp k with rfl|hk
    ·simp at k2;omega
    ·exact hk
   rw [show s+k-1=s+(k-1) by omega,Nat.pow_add,Nat.mul_comm];exact (Nat.le_div_iff_mul_le hp).1 (by omega)
 show ∃k:Nat,k<=64/\((if decide ((n:Int)>=4294967296) then some (iI .u64 (n:Int) 32,(32:Int)) else some ((n:Int),0)).bind λo2=>
  (if decide (o2.1>=65536) then some (iI .u64 o2.1 16,w64 (o2.2+16)) else some (o2.1,o2.2)).bind λo6=>
  (if decide (o6.1>=256) then some (iI .u64 o6.1 8,w64 (o6.2+8)) else some (o6.1,o6.2)).bind λo10=>
  (uo tM (IntKind.u8.wrap o10.1)).bind λc15=>some (w64 (o10.2+(w64 c15))))=some (k:Int)/\_
 have s32:iI .u64 (n:Int) 32=((n / 2^32:Nat):Int):=Fx 32 (by omega);have s16:∀m:Nat,iI .u64 (m:Int) 16=((m / 2^16:Nat):Int):=λm=>Fx 16 (by omega)
 have s8:∀m:Nat,iI .u64 (m:Int) 8=((m / 2^8:Nat):Int):=λm=>Fx 8 (by omega)
 have last:∀m s:Nat,m<65536->s<=48->m=n / 2^s->(s=0\/0<m)->∃k:Nat,k<=64/\((if decide ((m:Int)>=256) then some (iI .u64 (m:Int) 8,w64 ((s:Int)+8)) else some ((m:Int),(s:Int))).bind λo10=>
  (uo tM (IntKind.u8.wrap o10.1)).bind λc15=>some (w64 (o10.2+(w64 c15))))=some (k:Int)/\n<2^k/\(n=0->k=0)/\(0<n->2^(k-1)<=n):=by
  intro m s hm hs he hz;by_cases h:m>=256
  ·rw [d7 (by simp;omega),s8,show w64 ((s:Int)+8)=((s+8:Nat):Int) by rw [qp (by omega) (by omega)];simp];exact go (m / 2^8) (s+8) (by omega) (by omega) (by rw [he,Nat.div_div_eq_div_mul,<- Nat.pow_add]) (.inr (by omega))
  ·rw [d8 (by simp;omega)];exact go m s (by omega) (by omega) he hz
 have mid:∀m s:Nat,m<4294967296->s<=32->m=n / 2^s->(s=0\/0<m)->∃k:Nat,k<=64/\((if decide ((m:Int)>=65536) then some (iI .u64 (m:Int) 16,w64 ((s:Int)+16)) else some ((m:Int),(s:Int))).bind λo6=>
  (if decide (o6.1>=256) then some (iI .u64 o6.1 8,w64 (o6.2+8)) else some (o6.1,o6.2)).bind λo10=>
  (uo tM (IntKind.u8.wrap o10.1)).bind λc15=>some (w64 (o10.2+(w64 c15))))=some (k:Int)/\n<2^k/\(n=0->k=0)/\(0<n->2^(k-1)<=n):=by
  intro m s hm hs he hz;by_cases h:m>=65536
  ·rw [d7 (by simp;omega),s16,show w64 ((s:Int)+16)=((s+16:Nat):Int) by rw [qp (by omega) (by omega)];simp];exact last (m / 2^16) (s+16) (by omega) (by omega) (by rw [he,Nat.div_div_eq_div_mul,<- Nat.pow_add]) (.inr (by omega))
  ·rw [d8 (by simp;omega)];exact last m s (by omega) (by omega) he hz
 by_cases h:n>=4294967296
 ·rw [d7 (by simp;omega),s32];exact mid (n / 2^32) 32 (by omega) (by omega) rfl (.inr (by omega))
 ·rw [d8 (by simp;omega)];exact mid n 0 (by omega) (by omega) (by simp) (.inl rfl)
end Go.Proofs.YtplmgfkghomelaaGreatDoor
