/- Texts KOps, KFlow, KCheck, KSpan of this proof. -/
import Derived.Test.YtbmknhpfkpmigaaGreatDoorF1
set_option linter.unusedVariables false
set_option linter.unusedSimpArgs false
namespace Go.Proofs.YtbmknhpfkpmigaaGreatDoor
open Go.Sx
def zg6 (n:Int):Bool:=decide (0<=n)&&decide (n<8)
def zpS (i:ze):Bool:=i.B==8||(zg6 i.B&&i.Imm==0)
def inB (n lo hi:Int):Bool:=decide (lo<=n)&&decide (n<=hi)
def qj (i:ze):Bool:=
 if i.Op==0||i.Op==11 then zg6 i.D&&i.A==0&&zpS i
 else if inB i.Op 1 10 then zg6 i.D&&zg6 i.A&&zpS i
 else if i.Op==12 then i.D==0&&zg6 i.A&&zpS i
 else if i.Op==13 then zg6 i.D&&i.A==0&&i.B==0&&inB i.Imm 0 1
 else if i.Op==14 then zg6 i.D&&i.A==0&&i.B==0&&inB i.Imm 0 3
 else if i.Op==15 then inB i.D 0 63&&i.A==0&&i.B==0&&i.Imm==0
 else if inB i.Op 16 19 then inB i.D 0 63&&zg6 i.A&&zpS i
 else if i.Op==20 then inB i.D 1 63&&zg6 i.A&&i.B==0&&inB i.Imm 1 255
 else if i.Op==21 then i.D==0&&i.A==0&&i.B==0&&inB i.Imm 0 6
 else if i.Op==22 then i.D==0&&zg6 i.A&&i.B==0&&i.Imm==0
 else false
def zb0 (i:ze):Bool:=qj i&&inB i.Op 15 19
def zd2 (i:ze):Bool:=qj i&&i.Op==20
def zF (i:ze):Int×Bool×Bool:=
 if zb0 i then (i.D+1,true,i.Op != 15)
 else if zd2 i then (-i.D,true,true)
 else (0,false,qj i&&i.Op != 22)
theorem zj0 (n:Int):n<0\/n>=23\/n=0\/n=1\/n=2\/n=3\/n=4\/n=5\/n=6\/n=7\/n=8\/n=9\/n=10\/n=11\/n=12\/n=13\/n=14\/n=15\/n=16\/n=17\/n=18\/n=19\/n=20\/n=21\/n=22:=by omega
theorem zkR (n:Int):zbR n=some (zg6 n):=rfl
theorem znp (n lo hi:Int):zbi n lo hi=some (inB n lo hi):=rfl
theorem zcC {α:Type} {c:Bool} {A B:Option α} {a b:α} (hA:A=some a) (hB:B=some b):(if c then A else B)=some (if c then a else b):=by
 cases c<;>simp [hA,hB]
theorem jR {c:Bool} {A:Option Bool} {a:Bool} (hA:A=some a):(if c then A else some false)=some (c&&a):=by
 cases c<;>simp [hA]
def zfa (p:ze) (s:Bool×ze) (c:Int):Bool×ze:=
 if c==100 then (s.1&&zg6 p.D,⟨s.2.Op,0,s.2.A,s.2.B,s.2.Imm⟩)
 else if c==97 then (s.1&&zg6 p.A,⟨s.2.Op,s.2.D,0,s.2.B,s.2.Imm⟩)
 else if c==115 then (if p.B==8 then (s.1,⟨s.2.Op,s.2.D,s.2.A,0,0⟩) else (s.1&&zg6 p.B,⟨s.2.Op,s.2.D,s.2.A,0,s.2.Imm⟩))
 else if c==102 then (s.1&&inB p.Imm 0 1,⟨s.2.Op,s.2.D,s.2.A,s.2.B,0⟩)
 else if c==109 then (s.1&&inB p.Imm 0 3,⟨s.2.Op,s.2.D,s.2.A,s.2.B,0⟩)
 else if c==104 then (s.1&&inB p.Imm 0 6,⟨s.2.Op,s.2.D,s.2.A,s.2.B,0⟩)
 else if c==110 then (s.1&&inB p.Imm 1 255,⟨s.2.Op,s.2.D,s.2.A,s.2.B,0⟩)
 else if c==106 then (s.1&&inB p.D 0 63,⟨s.2.Op,0,s.2.A,s.2.B,s.2.Imm⟩)
 else if c==98 then (s.1&&inB p.D 1 63,⟨s.2.Op,0,s.2.A,s.2.B,s.2.Imm⟩)
 else s
section
variable {p:ze} {x:Bool} {o d a b m:Int}
theorem zsN:zfa p (x,⟨o,d,a,b,m⟩) 100=(x&&zg6 p.D,⟨o,0,a,b,m⟩):=rfl
theorem zsO:zfa p (x,⟨o,d,a,b,m⟩) 97=(x&&zg6 p.A,⟨o,d,0,b,m⟩):=rfl
theorem zsP:zfa p (x,⟨o,d,a,b,m⟩) 115=(if p.B==8 then (x,⟨o,d,a,0,0⟩) else (x&&zg6 p.B,⟨o,d,a,0,m⟩)):=rfl
theorem zsQ:zfa p (x,⟨o,d,a,b,m⟩) 102=(x&&inB p.Imm 0 1,⟨o,d,a,b,0⟩):=rfl
theorem zsR:zfa p (x,⟨o,d,a,b,m⟩) 109=(x&&inB p.Imm 0 3,⟨o,d,a,b,0⟩):=rfl
theorem zsS:zfa p (x,⟨o,d,a,b,m⟩) 104=(x&&inB p.Imm 0 6,⟨o,d,a,b,0⟩):=rfl
theorem zsT:zfa p (x,⟨o,d,a,b,m⟩) 110=(x&&inB p.Imm 1 255,⟨o,d,a,b,0⟩):=rfl
theorem zsU:zfa p (x,⟨o,d,a,b,m⟩) 106=(x&&inB p.D 0 63,⟨o,0,a,b,m⟩):=rfl
theorem zsV:zfa p (x,⟨o,d,a,b,m⟩) 98=(x&&inB p.D 1 63,⟨o,0,a,b,m⟩):=rfl
end
theorem zbB {σ ρ:Type} {again:σ->Option ρ} {c:Bool} {A B:Option ρ} {a b:σ} (hA:A=again a) (hB:B=again b):(if c then A else B)=again (if c then a else b):=by
 cases c<;>simp [hA,hB]
theorem zcb {σ ρ:Type} {again:(Bool×σ)->Option ρ} {x y:Bool} {z:σ}:(if x then again (y,z) else again (false,z))=again (x&&y,z):=by
 cases x<;>simp
theorem zgO {p:ze} {r:qg×Bool} {i:Nat} {c:Int} {again:(Bool×ze)->Option (Bool×ze)} {s:Bool×ze} (h:zid r.1.fields (i:Int)=some c):
  zdZ p r i again s=again (zfa p s c):=by
 unfold zdZ zfa
 simp only [h,zbs,zkR,znp]
 refine zbB zcb ?_
 refine zbB zcb ?_
 refine zbB (zbB rfl zcb) ?_
 refine zbB zcb ?_
 refine zbB zcb ?_
 refine zbB zcb ?_
 refine zbB zcb ?_
 refine zbB zcb ?_
 refine zbB zcb rfl
def fin (x:Bool×ze):Bool:=x.1&&((x.2.Op==0)&&((x.2.D==0)&&((x.2.A==0)&&((x.2.B==0)&&(x.2.Imm==0)))))
theorem zi7 {p:ze} {f:qg} (ho:zcn p.Op=some (f,true)) {x:Bool×ze} (hz:f.fields.size<=3)
  (h:qf (zdZ p (f,true)) (fun (s:Bool×ze)=>(s.1,s.2)) f.fields.size 0 (true,⟨0,p.D,p.A,p.B,p.Imm⟩)=some x):vC p=some (fin x):=by
 have hr:room f.fields.size 1=some ():=by unfold room;rw [if_pos (by omega)]
 unfold vC fin
 simp only [ho,zbs,h,hr]
 cases x.1<;>simp
theorem zsp {p:ze} {f:qg} {c0:Int} (ho:zcn p.Op=some (f,true)) (hs:f.fields.size=1) (h0:zid f.fields 0=some c0):
  vC p=some (fin (zfa p (true,⟨0,p.D,p.A,p.B,p.Imm⟩) c0)):=by
 refine zi7 ho (by omega) ?_
 rw [hs]
 simp only [qf]
 rw [zgO (i:=0) (by simpa using h0)]
theorem zr5 {p:ze} {f:qg} {c0 c1:Int} (ho:zcn p.Op=some (f,true)) (hs:f.fields.size=2) (h0:zid f.fields 0=some c0) (h1:zid f.fields 1=some c1):
  vC p=some (fin (zfa p (zfa p (true,⟨0,p.D,p.A,p.B,p.Imm⟩) c0) c1)):=by
 refine zi7 ho (by omega) ?_
 rw [hs]
 simp only [qf]
 rw [zgO (i:=0) (by simpa using h0),zgO (i:=0+1) (by simpa using h1)]
theorem zsq {p:ze} {f:qg} {c0 c1 c2:Int} (ho:zcn p.Op=some (f,true)) (hs:f.fields.size=3) (h0:zid f.fields 0=some c0) (h1:zid f.fields 1=some c1) (h2:zid f.fields 2=some c2):
  vC p=some (fin (zfa p (zfa p (zfa p (true,⟨0,p.D,p.A,p.B,p.Imm⟩) c0) c1) c2)):=by
 refine zi7 ho (by omega) ?_
 rw [hs]
 simp only [qf]
 rw [zgO (i:=0) (by simpa using h0),zgO (i:=0+1) (by simpa using h1),zgO (i:=0+1+1) (by simpa using h2)]
theorem zaD (i:ze):vC i=some (qj i):=by
 have hcase:=zj0 i.Op
 obtain ⟨op,d,a,b,m⟩:=i
 simp only at hcase
 have out:op<0\/op>=23->vC ⟨op,d,a,b,m⟩=some (qj ⟨op,d,a,b,m⟩):=by
  intro h
  have e:zcn op=some (⟨ByteArray.empty,ByteArray.empty⟩,false):=by unfold zcn;rw [if_pos (by simp;omega)]
  have k: ∀ k:Int,0<=k->k<=22->(op==k)=false:=by intro k h1 h2;simp;omega
  have d1:inB op 1 10=false:=by simp [inB];omega
  have d2:inB op 16 19=false:=by simp [inB];omega
  have r:qj ⟨op,d,a,b,m⟩=false:=by
   unfold qj
   simp only [k 0 (by decide) (by decide),k 11 (by decide) (by decide),k 12 (by decide) (by decide),k 13 (by decide) (by decide),k 14 (by decide) (by decide),k 15 (by decide) (by decide),k 20 (by decide) (by decide),k 21 (by decide) (by decide),k 22 (by decide) (by decide),d1,d2]
   rfl
  unfold vC
  rw [r];simp [e]
 rcases hcase with h | h | h | h | h | h | h | h | h | h | h | h | h | h | h | h | h | h | h | h | h | h | h | h | h
 ·exact out (.inl h)
 ·exact out (.inr h)
 all_goals subst h
 all_goals
  first
   | rw [zr5 (c0:=100) (c1:=115) rfl rfl rfl rfl]
   | rw [zsq (c0:=100) (c1:=97) (c2:=115) rfl rfl rfl rfl rfl]
   | rw [zr5 (c0:=97) (c1:=115) rfl rfl rfl rfl]
   | rw [zr5 (c0:=100) (c1:=102) rfl rfl rfl rfl]
   | rw [zr5 (c0:=100) (c1:=109) rfl rfl rfl rfl]
   | rw [zsp (c0:=106) rfl rfl rfl]
   | rw [zsq (c0:=106) (c1:=97) (c2:=115) rfl rfl rfl rfl rfl]
   | rw [zsq (c0:=98) (c1:=97) (c2:=110) rfl rfl rfl rfl rfl]
   | rw [zsp (c0:=104) rfl rfl rfl]
   | rw [zsp (c0:=97) rfl rfl rfl]
  congr 1
  simp only [zsN,zsO,zsP,zsQ,zsR,zsS,zsT,zsU,zsV,fin,qj,zpS]
  cases h8:(b==8)
  ·simp [h8,inB]
   try (rw [Bool.eq_iff_iff];simp;constructor<;>intro h<;>simp_all;done)
  ·simp only [beq_iff_eq] at h8
   subst h8
   simp [inB]
   try (rw [Bool.eq_iff_iff];simp;constructor<;>intro h<;>simp_all;done)
theorem znq (op:Int) (h0:0<=op) (h1:op<23): ∃ f,zcn op=some (f,true)/\qQ f 106=some (inB op 15 19)/\qQ f 98=some (op==20):=by
 have hcase:=zj0 op
 rcases hcase with h | h | h | h | h | h | h | h | h | h | h | h | h | h | h | h | h | h | h | h | h | h | h | h | h
 ·omega
 ·omega
 all_goals subst h
 all_goals exact ⟨_,rfl,rfl,rfl⟩
theorem zj1 {i:ze} (h:qj i=true):0<=i.Op/\i.Op<23:=by
 rcases Int.lt_or_le i.Op 0 with h0 | h0
 ·exfalso
  have k: ∀ k:Int,0<=k->(i.Op==k)=false:=by intro k h1;simp;omega
  unfold qj inB at h
  simp only [k 0 (by decide),k 11 (by decide),k 12 (by decide),k 13 (by decide),k 14 (by decide),k 15 (by decide),k 20 (by decide),k 21 (by decide),k 22 (by decide)] at h
  simp at h
  repeat' (split at h)
  all_goals first
   | omega
   | cases h
 ·refine ⟨h0,?_⟩
  rcases Int.lt_or_le i.Op 23 with h1 | h1
  ·exact h1
  ·exfalso
   have k: ∀ k:Int,k<=22->(i.Op==k)=false:=by intro k h1;simp;omega
   unfold qj inB at h
   simp only [k 0 (by decide),k 11 (by decide),k 12 (by decide),k 13 (by decide),k 14 (by decide),k 15 (by decide),k 20 (by decide),k 21 (by decide),k 22 (by decide)] at h
   simp at h
   repeat' (split at h)
   all_goals first
    | omega
    | cases h
theorem ziE {i:ze} (h:zb0 i=true):0<=i.D/\i.D<=63/\15<=i.Op/\i.Op<=19:=by
 unfold zb0 at h
 simp only [zae] at h
 obtain ⟨hr,ho⟩:=h
 have hb:15<=i.Op/\i.Op<=19:=by simpa [inB] using ho
 refine ⟨?_,?_,hb⟩<;>
 ·have k: ∀ k:Int,k<15\/k>19->(i.Op==k)=false:=by intro k h1;simp;omega
  have d1:inB i.Op 1 10=false:=by simp [inB];omega
  unfold qj at hr
  simp only [k 0 (by decide),k 11 (by decide),k 12 (by decide),k 13 (by decide),k 14 (by decide),k 20 (by decide),k 21 (by decide),k 22 (by decide),d1] at hr
  simp [inB] at hr
  split at hr
  ·omega
  ·omega
theorem ziF {i:ze} (h:zd2 i=true):1<=i.D/\i.D<=63/\i.Op=20/\1<=i.Imm/\i.Imm<=255:=by
 unfold zd2 at h
 simp only [zae,beq_iff_eq] at h
 obtain ⟨hr,ho⟩:=h
 obtain ⟨op,d,a,b,m⟩:=i
 simp only at ho
 subst ho
 simp [qj,inB] at hr
 simp
 omega
theorem zfu (i:ze):zeA i=some (zF i):=by
 unfold zeA
 rw [zaD]
 simp only [zbs]
 cases hr:qj i with
 | false=>simp [zF,zb0,zd2,hr]
 | true=>
  obtain ⟨f,h1,h2,h3⟩:=znq i.Op (zj1 hr).1 (zj1 hr).2
  simp only [h1,zbs,h2,h3]
  cases hj:inB i.Op 15 19 with
  | true=>
   have:=ziE (i:=i) (by simp [zb0,hr,hj])
   simp [zF,zb0,hr,hj,qN (x:=i.D+1) (by omega) (by omega)]
  | false=>
   cases hl:(i.Op==20) with
   | true=>
    have:=ziF (i:=i) (by simp [zd2,hr,hl])
    have e:w64 (0-i.D)= -i.D:=by rw [qN (by omega) (by omega)];omega
    simp only [zF,zb0,zd2,hr,hj,hl,e]
    rfl
   | false=>
    simp [zF,zb0,zd2,hr,hj,hl]
end Go.Proofs.YtbmknhpfkpmigaaGreatDoor
namespace Go.Proofs.YtbmknhpfkpmigaaGreatDoor
open Go.Sx
def zbb {ρ:Type} (g:Nat->Option ρ):Nat->Nat->Option ρ
 | 0,_=>none
 | n+1,i=>match g i with
  | some v=>some v
  | none=>zbb g n (i+1)
def zeS {ρ:Type}:Option ρ->Unit ⊕ ρ
 | some v=> .inr v
 | none=> .inl ()
theorem zrC {ρ:Type} {body:Nat->(Unit->Option (Unit ⊕ ρ))->Unit->Option (Unit ⊕ ρ)} (g:Nat->Option ρ) {N:Nat}
  (hb: ∀ j again,j<N->body j again ()=match g j with | some v=>some (.inr v) | none=>again ()):
  ∀ (n i:Nat),i+n=N->qf body (fun _=>(.inl ())) n i ()=some (zeS (zbb g n i)):=by
 intro n
 induction n with
 | zero=>intro i _;rfl
 | succ n ih=>
  intro i hi
  show body i (qf body _ n (i+1)) ()=_
  rw [hb i _ (by omega)]
  unfold zbb
  cases g i with
  | some v=>rfl
  | none=>exact ih (i+1) (by omega)
theorem zdE {ρ:Type} {body:Nat->(Unit->Option (Unit ⊕ ρ))->Unit->Option (Unit ⊕ ρ)} (g:Nat->Option ρ) {N:Nat}
 (hb: ∀ j again,j<N->body j again ()=match g j with | some v=>some (.inr v) | none=>again ()):
 qf body (fun _=>(.inl ())) N 0 ()=some (zeS (zbb g N 0)):=zrC g hb N 0 (by omega)
theorem zbX {ρ:Type} {g:Nat->Option ρ} {v:ρ}: ∀ {n i:Nat},zbb g n i=some v-> ∃ j,i<=j/\j<i+n/\g j=some v/\ ∀ q,i<=q->q<j->g q=none:=by
 intro n
 induction n with
 | zero=>intro i h;cases h
 | succ n ih=>
  intro i h
  unfold zbb at h
  cases hg:g i with
  | some u=>
   rw [hg] at h
   cases h
   exact ⟨i,Nat.le_refl _,by omega,hg,fun q h1 h2=>by omega⟩
  | none=>
   rw [hg] at h
   obtain ⟨j,h1,h2,h3,h4⟩:=ih h
   refine ⟨j,by omega,by omega,h3,fun q q1 q2=> ?_⟩
   rcases Nat.eq_or_lt_of_le q1 with e | e
   ·subst e;exact hg
   ·exact h4 q e q2
theorem zcx {ρ:Type} {g:Nat->Option ρ}: ∀ {n i:Nat},zbb g n i=none-> ∀ q,i<=q->q<i+n->g q=none:=by
 intro n
 induction n with
 | zero=>intro i _ q h1 h2;omega
 | succ n ih=>
  intro i h q h1 h2
  unfold zbb at h
  cases hg:g i with
  | some u=>rw [hg] at h;cases h
  | none=>
   rw [hg] at h
   rcases Nat.eq_or_lt_of_le h1 with e | e
   ·subst e;exact hg
   ·exact ih h q e (by omega)
theorem zkI {ρ:Type} {g:Nat->Option ρ}: ∀ {n i:Nat},(∀ q,i<=q->q<i+n->g q=none)->zbb g n i=none:=by
 intro n
 induction n with
 | zero=>intro i _;rfl
 | succ n ih=>
  intro i h
  unfold zbb
  rw [h i (Nat.le_refl _) (by omega)]
  exact ih (fun q h1 h2=>h q (by omega) (by omega))
theorem zgl {α:Type} {xs:List α} {i:Nat} (h:i<xs.length):idx xs (i:Int)=some xs[i]:=by
 simp [Go.Sx.idx,h]
def zjK (n:Int) (p:Int) (i:ze):Int:=
 if !qj i then 12
 else if (zF i).2.1&&(decide (p+(zF i).1<0)||decide (p+(zF i).1>=n)) then 30
 else if (zF i).2.2&&p==n-1 then 36 else 0
theorem zeq (i:ze): -63<=(zF i).1/\(zF i).1<=64:=by
 unfold zF
 split
 ·rename_i h;have:=ziE h;simp;omega
 ·split
  ·rename_i h;have:=ziF h;simp;omega
  ·simp
def zaB (code:List ze) (p:Nat):Option (Int×Int):=match code[p]? with
 | some i=>if zjK code.length p i=0 then none else some ((p:Int),zjK code.length p i)
 | none=>none
theorem zjL (code:List ze) (hn:code.length<=64):zdp code=some ((zbb (zaB code) code.length 0).getD (0,0)):=by
 unfold zdp
 rw [zdE (zaB code) (N:=code.length)]
 ·simp only [zbs]
  cases zbb (zaB code) code.length 0<;>rfl
 ·intro j again hj
  unfold zfN
  have hx:code[j]? =some code[j]:=zeg hj
  generalize hi:code[j]=x at hx
  have hg:=zeq x
  have e1:w64 ((j:Int)+(zF x).1)=j+(zF x).1:=qN (by omega) (by omega)
  have e2:w64 ((code.length:Int)-1)=code.length-1:=qN (by omega) (by omega)
  have hr:zby [x]=some (qj x):=by
   unfold zby
   simp only [List.length_singleton,qf,zcJ]
   rcases zft (qj x) with h | h<;>simp [Go.Sx.idx,zaD,h]
  simp only [zgl hj,hi,zbs,zfu,hr,e1,e2,zaB,hx,zjK]
  rcases zft (qj x) with h1 | h1
  ·rcases zft ((zF x).2.1&&(decide ((j:Int)+(zF x).1<0)||decide ((j:Int)+(zF x).1>=code.length))) with h2 | h2
   ·simp only [h1,h2];rfl
   ·rcases zft ((zF x).2.2&&((j:Int)==code.length-1)) with h3 | h3
    ·simp only [h1,h2,h3];rfl
    ·simp only [h1,h2,h3];rfl
  ·simp only [h1];rfl
def zhr (code:List ze):Prop:= ∀ (p:Nat) (i:ze),code[p]? =some i->zjK code.length p i=0
theorem zm7 {code:List ze} (h:zbb (zaB code) code.length 0=none):zhr code:=by
 intro p i hi
 have hp:=(zes.1 hi).1
 have:=zcx h p (by omega) (by omega)
 unfold zaB at this
 rw [hi] at this
 simp only at this
 split at this
 ·assumption
 ·cases this
theorem zjM {code:List ze} (h:zhr code):zbb (zaB code) code.length 0=none:=by
 refine zkI (fun q _ hq=> ?_)
 have hi:=zeg (show q<code.length by omega)
 unfold zaB
 rw [hi]
 simp only [h q _ hi,if_true]
theorem zhr.right {code:List ze} (h:zhr code) {p:Nat} {i:ze} (hi:code[p]? =some i):qj i=true:=by
 have:=h p i hi
 unfold zjK at this
 rcases zft (qj i) with h1 | h1
 ·exact h1
 ·rw [h1] at this;simp at this
theorem zhr.leads {code:List ze} (h:zhr code) {p:Nat} {i:ze} (hi:code[p]? =some i) (hl:(zF i).2.1=true):0<=(p:Int)+(zF i).1/\(p:Int)+(zF i).1<code.length:=by
 have:=h p i hi
 unfold zjK at this
 rw [h.right hi,hl] at this
 simp at this
 split at this
 ·omega
 ·rename_i h2;omega
theorem zhr.on {code:List ze} (h:zhr code) {p:Nat} {i:ze} (hi:code[p]? =some i) (hl:(zF i).2.2=true):p+1<code.length:=by
 have hp:=(zes.1 hi).1
 have h1:=h p i hi
 unfold zjK at h1
 rw [h.right hi,hl] at h1
 rcases Nat.lt_or_ge (p+1) code.length with h2 | h2
 ·exact h2
 ·exfalso
  have e:((p:Int)==code.length-1)=true:=by simp;omega
  rw [e] at h1
  simp at h1
  split at h1<;>omega
theorem zhr.loop {code:List ze} (h:zhr code) {p:Nat} {i:ze} (hi:code[p]? =some i) (ho:i.Op=20):1<=i.D/\i.D<=p/\1<=i.Imm/\i.Imm<=255/\p+1<code.length:=by
 have hr:=h.right hi
 have hl:zd2 i=true:=by simp [zd2,hr,ho]
 have hj:zb0 i=false:=by simp [zb0,inB,ho]
 have hg:zF i=(-i.D,true,true):=by simp [zF,hl,hj]
 have h1:=h.leads hi (by rw [hg])
 have h2:=h.on hi (by rw [hg])
 rw [hg] at h1
 have h3:=ziF hl
 simp only at h1
 omega
def qp (i:ze) (p:Nat):zP:=⟨(p:Int)-i.D,p,i.Imm⟩
def lps (code:List ze):Nat->List zP
 | 0=> []
 | k+1=>match code[k]? with
  | some i=>if i.Op==20 then lps code k++ [qp i k] else lps code k
  | none=>lps code k
theorem zi1 (code:List ze): ∀ k,(lps code k).length<=k
 | 0=>Nat.le_refl _
 | k+1=>by
  have:=zi1 code k
  unfold lps
  split
  ·split
   ·simp;omega
   ·omega
  ·omega
theorem zfV {code:List ze} {l:zP}: ∀ {k:Nat},l∈lps code k↔ ∃ q i,q<k/\code[q]? =some i/\i.Op=20/\l=qp i q
 | 0=>by simp [lps]
 | k+1=>by
  unfold lps
  have ih:= @zfV code l k
  constructor
  ·intro h
   split at h
   ·rename_i i hi
    split at h
    ·rename_i ho
     rcases List.mem_append.1 h with h | h
     ·obtain ⟨q,j,h1,h2⟩:=ih.1 h
      exact ⟨q,j,by omega,h2⟩
     ·simp at h
      exact ⟨k,i,by omega,hi,by simpa using ho,h⟩
    ·obtain ⟨q,j,h1,h2⟩:=ih.1 h
     exact ⟨q,j,by omega,h2⟩
   ·obtain ⟨q,j,h1,h2⟩:=ih.1 h
    exact ⟨q,j,by omega,h2⟩
  ·rintro ⟨q,j,h1,h2,h3,h4⟩
   rcases Nat.lt_or_ge q k with hq | hq
   ·have:=ih.2 ⟨q,j,hq,h2,h3,h4⟩
    split
    ·split
     ·exact zal _ this
     ·exact this
    ·exact this
   ·have e:q=k:=by omega
    subst e
    rw [h2]
    simp only [h3]
    rw [if_pos (by simp)]
    exact zar _ (by simp [h4])
theorem ziC (code:List ze): ∀ k,(lps code k).Pairwise (fun a b=>a.At<b.At)/\ ∀ l∈lps code k,l.At<k
 | 0=>⟨List.Pairwise.nil,by simp [lps]⟩
 | k+1=>by
  obtain ⟨h1,h2⟩:=ziC code k
  unfold lps
  split
  ·split
   ·refine ⟨List.pairwise_append.2 ⟨h1,List.pairwise_singleton _ _,fun a ha b hb=> ?_⟩,fun l hl=> ?_⟩
    ·simp at hb;subst hb;exact h2 a ha
    ·rcases List.mem_append.1 hl with hl | hl
     ·have:=h2 l hl;omega
     ·simp at hl;subst hl;simp [qp];omega
   ·exact ⟨h1,fun l hl=>by have:=h2 l hl;omega⟩
  ·exact ⟨h1,fun l hl=>by have:=h2 l hl;omega⟩
theorem zi2 {code:List ze} (hn:code.length<=64) (hD:zhr code):zcq code=some (lps code code.length):=by
 refine OK.is ?_
 unfold zcq
 refine OK.bind2 (R:=fun y=>y=lps code code.length) ?_ (fun x hx=>OK.ret hx)
 refine OK.count (fun i s=>s=lps code i) rfl ?_ (fun s h=>h)
 intro i s again hi hs k
 subst hs
 unfold zgg
 refine OK.bind (OK.getN hi (fun x hx=> ?_))
 have hl:=zi1 code i
 refine OK.ite (fun h=> ?_) (fun h=> ?_)
 ·have hd:=hD.loop hx (by simpa using h)
  refine OK.bind (OK.hasRoom (by simp;omega) ?_)
  refine k _ ?_
  rw [lps,hx]
  simp only [h,if_true,qp]
  rw [qN (by omega) (by omega)]
 ·refine k _ ?_
  rw [lps,hx]
  simp [h]
def jf (code:List ze) (p a:Nat):Bool:=match code[a]? with
 | some i=>i.Op==20&&decide ((a:Int)-i.D<=p)&&decide (p<=a)
 | none=>false
def bod (code:List ze) (k p:Nat):List Int:=((List.range k).filter (jf code p)).map (fun (a:Nat)=>(a:Int))
theorem zgm (code:List ze) (k p:Nat):bod code (k+1) p=if jf code p k then bod code k p++ [(k:Int)] else bod code k p:=by
 unfold bod
 rw [List.range_succ,List.filter_append,List.map_append]
 cases h:jf code p k<;>simp [h]
theorem zkJ (code:List ze) (k p:Nat):(bod code k p).length<=k:=by
 unfold bod
 rw [List.length_map]
 exact Nat.le_trans (List.length_filter_le _ _) (by simp)
theorem zhB {code:List ze} {k p:Nat} {x:Int}:x∈bod code k p↔ ∃ a:Nat,a<k/\jf code p a=true/\x=a:=by
 unfold bod
 simp only [List.mem_map,List.mem_filter,List.mem_range]
 constructor
 ·rintro ⟨a,⟨h1,h2⟩,rfl⟩;exact ⟨a,h1,h2,rfl⟩
 ·rintro ⟨a,h1,h2,rfl⟩;exact ⟨a,⟨h1,h2⟩,rfl⟩
theorem zkK {code:List ze} {n p a:Nat} (ha:a<n):(bod code n p).contains (a:Int)=jf code p a:=by
 rw [Bool.eq_iff_iff,List.contains_iff_mem,zhB]
 constructor
 ·rintro ⟨b,_,h2,h3⟩
  have:a=b:=by omega
  subst this
  exact h2
 ·intro h
  exact ⟨a,ha,h,rfl⟩
open Classical in
noncomputable def pick {ρ:Type} (X:Prop) (v:ρ):Option ρ:=if X then some v else none
theorem zhC {ρ:Type} {X:Prop} {v:ρ} (h:X):pick X v=some v:=by unfold pick;rw [if_pos h]
theorem zfP {ρ:Type} {X:Prop} {v:ρ} (h: ¬ X):pick X v=none:=by unfold pick;rw [if_neg h]
theorem zgn {ρ:Type} {X:Prop} {v u:ρ} (h:pick X v=some u):X/\v=u:=by
 unfold pick at h
 split at h
 ·rename_i hx;cases h;exact ⟨hx,rfl⟩
 ·cases h
theorem zer {ρ:Type} {X:Prop} {v:ρ} (h:pick X v=none): ¬ X:=by
 unfold pick at h
 split at h
 ·cases h
 ·rename_i hx;exact hx
def zi3 (X:Nat->Prop) (n:Nat):Option Nat->Prop
 | some l=>l<n/\X l/\ ∀ q,q<l-> ¬ X q
 | none=> ∀ q,q<n-> ¬ X q
theorem zi3.unique {X:Nat->Prop} {n:Nat} {a b:Option Nat} (ha:zi3 X n a) (hb:zi3 X n b):a=b:=by
 cases a with
 | none=>
  cases b with
  | none=>rfl
  | some l=>exact absurd hb.2.1 (ha l hb.1)
 | some k=>
  cases b with
  | none=>exact absurd ha.2.1 (hb k ha.1)
  | some l=>
   rcases Nat.lt_trichotomy k l with h | h | h
   ·exact absurd ha.2.1 (hb.2.2 k h)
   ·rw [h]
   ·exact absurd hb.2.1 (ha.2.2 l h)
theorem zdF {ρ:Type} {X:Nat->Prop} {n:Nat} {v:Nat->ρ}: ∃ o,zi3 X n o/\zbb (fun l=>pick (X l) (v l)) n 0=o.map v:=by
 cases h:zbb (fun l=>pick (X l) (v l)) n 0 with
 | none=>exact ⟨none,fun q hq=>zer (zcx h q (by omega) (by omega)),rfl⟩
 | some u=>
  obtain ⟨j,_,h2,h3,h4⟩:=zbX h
  obtain ⟨hx,rfl⟩:=zgn h3
  exact ⟨some j,⟨by omega,hx,fun q hq=>zer (h4 q (by omega) hq)⟩,rfl⟩
def Crs (code:List ze) (l m:Nat):Prop:= ∃ il im,code[l]? =some il/\il.Op=20/\code[m]? =some im/\im.Op=20/\(l:Int)-il.D<=m/\(m:Int)-im.D<l-il.D
def Cr (code:List ze) (l:Nat):Prop:= ∃ m,m<l/\Crs code l m
theorem xr {code:List ze} {p a:Nat} {i:ze} (hi:code[a]? =some i) (ho:i.Op=20):jf code p a=true↔(a:Int)-i.D<=p/\p<=a:=by
 simp [jf,hi,ho]
theorem zql {code:List ze} (hD:zhr code) {l m:Nat} (hml:m<l) {il im:ze} (h1:code[l]? =some il) (h2:il.Op=20) (h3:code[m]? =some im) (h4:im.Op=20):
  Crs code l m↔(∃ p,p<code.length/\jf code p m=true/\jf code p l=true)/\(∃ p,p<code.length/\jf code p m=true/\jf code p l=false):=by
 have d1:=hD.loop h1 h2
 have d2:=hD.loop h3 h4
 constructor
 ·rintro ⟨il',im',e1,_,e3,_,c1,c2⟩
  rw [h1] at e1;cases e1
  rw [h3] at e3;cases e3
  refine ⟨⟨m,by omega,(xr h3 h4).2 (by omega),(xr h1 h2).2 (by omega)⟩,⟨((m:Int)-im.D).toNat,by omega,(xr h3 h4).2 (by omega),?_⟩⟩
  cases hc:jf code ((m:Int)-im.D).toNat l with
  | false=>rfl
  | true=>have:=(xr h1 h2).1 hc;omega
 ·rintro ⟨⟨p,_,a1,a2⟩,⟨q,_,b1,b2⟩⟩
  have a1:=(xr h3 h4).1 a1
  have a2:=(xr h1 h2).1 a2
  have b1:=(xr h3 h4).1 b1
  refine ⟨il,im,h1,h2,h3,h4,by omega,?_⟩
  rcases Int.lt_or_le ((m:Int)-im.D) (l-il.D) with h | h
  ·exact h
  ·exfalso
   have:=(xr h1 h2).2 (show (l:Int)-il.D<=q/\q<=l by omega)
   rw [b2] at this
   cases this
theorem zhD {ls:List zP} (hs:ls.Pairwise (fun a b=>a.At<b.At)) {i j:Nat} {a b:zP} (hi:ls[i]? =some a) (hj:ls[j]? =some b):a.At<b.At↔i<j:=by
 obtain ⟨h1,rfl⟩:=zes.1 hi
 obtain ⟨h2,rfl⟩:=zes.1 hj
 constructor
 ·intro h
  rcases Nat.lt_trichotomy i j with h3 | h3 | h3
  ·exact h3
  ·subst h3;omega
  ·have:=List.pairwise_iff_getElem.1 hs j i h2 h1 h3;omega
 ·intro h
  exact List.pairwise_iff_getElem.1 hs i j h1 h2 h
theorem zi4 {α:Type} {xs:List α} {k:Nat} (hk:k<=xs.length):cut xs 0 (k:Int)=some (xs.take k):=by
 unfold cut
 rw [if_pos (by omega)]
 simp
theorem zqm {code:List ze} (hn:code.length<=64) (hD:zhr code):
  ∃ o,zi3 (Cr code) code.length o/\qf (zcA (lps code code.length)) (fun _=>(.inl ())) (lps code code.length).length 0 ()=some (zeS (o.map fun (l:Nat)=>((l:Int),(31:Int)))):=by
 have hs:=(ziC code code.length).1
 have hl:=zi1 code code.length
 generalize hls:lps code code.length=ls at hs hl |-
 have mem: ∀ {l:zP},l∈ls↔ ∃ q i,q<code.length/\code[q]? =some i/\i.Op=20/\l=qp i q:=by
  intro l;rw [<- hls];exact zfV
 have main:qf (zcA ls) (fun _=>(.inl ())) ls.length 0 ()=some (zeS (zbb (fun k=>match ls[k]? with | some l=>pick (Cr code l.At.toNat) (l.At,(31:Int)) | none=>none) ls.length 0)):=by
  refine zdE _ (N:=ls.length) ?_
  intro k again hk
  have hx:=zeg hk
  generalize hi:ls[k]=x at hx
  obtain ⟨q,i,hq,hqi,hop,rfl⟩:=mem.1 (zmg hx)
  unfold zcA
  have htl:(ls.take k).length=k:=by rw [List.length_take];omega
  have inner:qf (zd7 (qp i q) (ls.take k)) (fun _=>(.inl ())) k 0 ()=some (zeS (zbb (fun m=>match ls[m]? with | some l=>pick (Crs code q l.At.toNat) ((q:Int),(31:Int)) | none=>none) k 0)):=by
   refine zdE _ (N:=k) ?_
   intro m again hm
   have hml:m<ls.length:=by omega
   have hy:=zeg hml
   generalize hj:ls[m]=y at hy
   have hyt:idx (ls.take k) (m:Int)=some y:=by
    rw [zgl (by omega)]
    simp [List.getElem_take,hj]
   obtain ⟨q',i',hq',hqi',hop',rfl⟩:=mem.1 (zmg hy)
   unfold zd7
   simp only [hyt,hy,zbs]
   have e:((qp i' q').At).toNat=q':=by simp [qp]
   rw [e]
   by_cases hc:Crs code q q'
   ·rw [zhC hc]
    obtain ⟨il,im,e1,_,e3,_,c1,c2⟩:=hc
    rw [hqi] at e1;cases e1
    rw [hqi'] at e3;cases e3
    have:(decide ((qp i' q').At>=(qp i q).Head)&&decide ((qp i' q').Head<(qp i q).Head))=true:=by
     have a1:(qp i' q').At=q':=rfl
     have a2:(qp i q).Head=q-i.D:=rfl
     have a3:(qp i' q').Head=q'-i'.D:=rfl
     simp only [a1,a2,a3,zae,zdq];exact ⟨c1,c2⟩
    simp only [this];rfl
   ·rw [zfP hc]
    have:(decide ((qp i' q').At>=(qp i q).Head)&&decide ((qp i' q').Head<(qp i q).Head))=false:=by
     cases h:(decide ((qp i' q').At>=(qp i q).Head)&&decide ((qp i' q').Head<(qp i q).Head)) with
     | false=>rfl
     | true=>
      exfalso;apply hc
      have a1:(qp i' q').At=q':=rfl
      have a2:(qp i q).Head=q-i.D:=rfl
      have a3:(qp i' q').Head=q'-i'.D:=rfl
      simp only [a1,a2,a3,zae,zdq] at h
      exact ⟨i,i',hqi,hop,hqi',hop',h.1,h.2⟩
    simp only [this];rfl
  simp only [zgl hk,hi,hx,zbs,zi4 (Nat.le_of_lt hk),htl,inner]
  have e:((qp i q).At).toNat=q:=by simp [qp]
  rw [e]
  cases hf:zbb (fun m=>match ls[m]? with | some l=>pick (Crs code q l.At.toNat) ((q:Int),(31:Int)) | none=>none) k 0 with
  | some v=>
   obtain ⟨m,_,h2,h3,_⟩:=zbX hf
   have hml:m<ls.length:=by omega
   have hy:=zeg hml
   rw [hy] at h3
   obtain ⟨hcr,rfl⟩:=zgn h3
   have hlt:=(zhD hs hy hx).2 (by omega)
   obtain ⟨q',i',hq',hqi',hop',e'⟩:=mem.1 (zmg hy)
   rw [e'] at hcr hlt
   rw [zhC ⟨q',by simp [qp] at hlt;omega,by simpa [qp] using hcr⟩]
   rfl
  | none=>
   have h0:=zcx hf
   rw [zfP]
   ·rfl
   ·rintro ⟨m,hm,hcr⟩
    obtain ⟨il,im,e1,_,e3,e4,c1,c2⟩:=id hcr
    have hmem:=mem.2 ⟨m,im,by omega,e3,e4,rfl⟩
    obtain ⟨j,hj,hje⟩:=List.mem_iff_getElem.1 hmem
    have hy:=zeg hj
    rw [hje] at hy
    have hlt:=(zhD hs hy hx).1 (by simp [qp];omega)
    have:=h0 j (by omega) (by omega)
    rw [hy] at this
    exact zer this (by simpa [qp] using hcr)
 cases hf:zbb (fun k=>match ls[k]? with | some l=>pick (Cr code l.At.toNat) (l.At,(31:Int)) | none=>none) ls.length 0 with
 | none=>
  refine ⟨none,fun q hq hc=> ?_,by rw [main,hf];rfl⟩
  obtain ⟨m,hm,il,im,e1,e2,_⟩:=id hc
  obtain ⟨j,hj,hje⟩:=List.mem_iff_getElem.1 (mem.2 ⟨q,il,hq,e1,e2,rfl⟩)
  have:=zcx hf j (by omega) (by omega)
  rw [zeg hj,hje] at this
  exact zer this (by simpa [qp] using hc)
 | some v=>
  obtain ⟨k,_,h2,h3,h4⟩:=zbX hf
  have hk:k<ls.length:=by omega
  have hx:=zeg hk
  rw [hx] at h3
  obtain ⟨hc,rfl⟩:=zgn h3
  obtain ⟨q,i,hq,hqi,hop,e⟩:=mem.1 (zmg hx)
  refine ⟨some q,⟨hq,?_,fun q' hq' hc'=> ?_⟩,?_⟩
  ·rw [e] at hc;simpa [qp] using hc
  ·obtain ⟨m,hm,il,im,e1,e2,_⟩:=id hc'
   obtain ⟨j,hj,hje⟩:=List.mem_iff_getElem.1 (mem.2 ⟨q',il,by omega,e1,e2,rfl⟩)
   have hy:=zeg hj
   have hlt:=(zhD hs hy hx).1 (by rw [hje,e];simp [qp];omega)
   have:=h4 j (by omega) hlt
   rw [hy,hje] at this
   exact zer this (by simpa [qp] using hc')
  ·rw [main,hf,e];rfl
def En (code:List ze) (p:Nat):Prop:= ∃ i,code[p]? =some i/\(zF i).2.1=true/\0<(zF i).1/\ ∃ a ia t,a<code.length/\code[a]? =some ia/\ia.Op=20/\(t:Nat)=(p:Int)+(zF i).1/\jf code t a=true/\jf code p a=false/\(t:Int) ≠ a-ia.D
theorem zqn (i:ze) (h:(zF i).2.1=true):(zF i).1 ≠ 0:=by
 unfold zF at h |-
 split
 ·rename_i hj;have:=ziE hj;simp;omega
 ·split
  ·rename_i hl;have:=ziF hl;simp;omega
  ·rename_i h1 h2;simp [h1,h2] at h
theorem zqo {code:List ze} (hn:code.length<=64) (hD:zhr code):
  qf (zd9 code (lps code code.length)) (fun _=>(.inl ())) code.length 0 ()=some (zeS (zbb (fun p=>pick (En code p) ((p:Int),(31:Int))) code.length 0)):=by
 refine zdE _ (N:=code.length) ?_
 intro p again hp
 have hx:=zeg hp
 generalize hi:code[p]=x at hx
 have hg:=zeq x
 have e1:w64 ((p:Int)+(zF x).1)=p+(zF x).1:=qN (by omega) (by omega)
 have hl:=zi1 code code.length
 have inner:qf (zd8 (lps code code.length) p (zF x)) (fun _=>(.inl ())) (lps code code.length).length 0 ()=
   some (zeS (zbb (fun k=>match (lps code code.length)[k]? with | some l=>pick ((zF x).2.1=true/\0<(zF x).1/\ ¬ (l.Head<=p/\(p:Int)<=l.At)/\(l.Head<=p+(zF x).1/\p+(zF x).1<=l.At)/\p+(zF x).1 ≠ l.Head) ((p:Int),(31:Int)) | none=>none) (lps code code.length).length 0)):=by
  refine zdE _ (N:=(lps code code.length).length) ?_
  intro k again hk
  have hy:=zeg hk
  generalize hj:(lps code code.length)[k]=y at hy
  unfold zd8
  simp only [zgl hk,hj,hy,zbs,zfR,e1]
  by_cases hc:((zF x).2.1=true/\0<(zF x).1/\ ¬ (y.Head<=p/\(p:Int)<=y.At)/\(y.Head<=p+(zF x).1/\p+(zF x).1<=y.At)/\p+(zF x).1 ≠ y.Head)
  ·rw [zhC hc]
   obtain ⟨c1,c2,c3,c4,c5⟩:=hc
   have d1:(decide ((p:Int)>=y.Head)&&decide ((p:Int)<=y.At))=false:=by
    cases h:(decide ((p:Int)>=y.Head)&&decide ((p:Int)<=y.At)) with
    | false=>rfl
    | true=>exfalso;apply c3;simp at h;omega
   have d2:(decide ((p:Int)+(zF x).1>=y.Head)&&decide ((p:Int)+(zF x).1<=y.At))=true:=by simp;omega
   have d3:decide ((zF x).1>0)=true:=by simp;omega
   have d4:((p:Int)+(zF x).1 != y.Head)=true:=by simp;omega
   simp only [c1,d1,d2,d3,d4];rfl
  ·rw [zfP hc]
   rcases zft (zF x).2.1 with c1 | c1
   ·rcases zft (decide ((zF x).1>0)) with d3 | d3
    ·rcases zft (decide ((p:Int)>=y.Head)&&decide ((p:Int)<=y.At)) with d1 | d1
     ·simp only [c1,d3,d1];rfl
     ·rcases zft (decide ((p:Int)+(zF x).1>=y.Head)&&decide ((p:Int)+(zF x).1<=y.At)) with d2 | d2
      ·rcases zft ((p:Int)+(zF x).1 != y.Head) with d4 | d4
       ·exfalso;apply hc
        simp at d1 d2 d3 d4
        exact ⟨c1,d3,by omega,by omega,d4⟩
       ·simp only [c1,d3,d1,d2,d4];rfl
      ·simp only [c1,d3,d1,d2];rfl
    ·simp only [c1,d3];rfl
   ·simp only [c1];rfl
 unfold zd9
 simp only [zgl hp,hi,zbs,zfu,inner]
 cases hf:zbb (fun k=>match (lps code code.length)[k]? with | some l=>pick ((zF x).2.1=true/\0<(zF x).1/\ ¬ (l.Head<=p/\(p:Int)<=l.At)/\(l.Head<=p+(zF x).1/\p+(zF x).1<=l.At)/\p+(zF x).1 ≠ l.Head) ((p:Int),(31:Int)) | none=>none) (lps code code.length).length 0 with
 | some v=>
  obtain ⟨k,_,h2,h3,_⟩:=zbX hf
  have hk:k<(lps code code.length).length:=by omega
  have hy:=zeg hk
  rw [hy] at h3
  obtain ⟨⟨c1,c2,c3,c4,c5⟩,rfl⟩:=zgn h3
  obtain ⟨q,i,hq,hqi,hop,e⟩:=zfV.1 (zmg hy)
  rw [e] at c3 c4 c5
  simp only [qp] at c3 c4 c5
  have hpos:0<=(p:Int)+(zF x).1:=by omega
  have hcv:jf code p q=false:=by
   cases hcv:jf code p q with
   | false=>rfl
   | true=>exfalso;apply c3;have:=(xr hqi hop).1 hcv;omega
  have hE:En code p:=⟨x,hx,c1,c2,q,i,((p:Int)+(zF x).1).toNat,hq,hqi,hop,by omega,(xr hqi hop).2 (by omega),hcv,by omega⟩
  rw [zhC hE]
  rfl
 | none=>
  have h0:=zcx hf
  rw [zfP]
  ·rfl
  ·rintro ⟨i',hi',c1,c2,a,ia,t,ha,hia,hop,ht,v1,v2,v3⟩
   rw [hx] at hi';cases hi'
   obtain ⟨j,hj,hje⟩:=List.mem_iff_getElem.1 (zfV.2 ⟨a,ia,ha,hia,hop,rfl⟩:qp ia a∈lps code code.length)
   have:=h0 j (by omega) (by omega)
   rw [zeg hj,hje] at this
   refine zer this ⟨c1,c2,?_,?_,?_⟩
   ·intro hh
    simp only [qp] at hh
    have:=(xr hia hop).2 (show (a:Int)-ia.D<=p/\p<=a by omega)
    rw [v2] at this;cases this
   ·have:=(xr hia hop).1 v1
    simp only [qp];omega
   ·simp only [qp];omega
def EnX (code:List ze) (p:Nat) (d a:Int):Prop:= ∃ (q:Nat) (ia:ze),a=q/\q<code.length/\code[q]? =some ia/\jf code p q=false/\(p:Int)+d ≠ q-ia.D
def zeE (code:List ze) (p:Nat):Nat->Int
 | 0=>1
 | k+1=>match code[k]? with
  | some i=>if jf code p k then zeE code p k*(i.Imm+1) else zeE code p k
  | none=>zeE code p k
def zhE (code:List ze):Nat->Int
 | 0=>0
 | k+1=>zhE code k+zeE code k code.length
theorem zjN {code:List ze} {p a:Nat} {i:ze} (hi:code[a]? =some i) (h:jf code p a=true):i.Op=20:=by
 unfold jf at h;rw [hi] at h;simp at h;exact h.1.1
theorem zgo {code:List ze} (hD:zhr code) (p:Nat): ∀ k,1<=zeE code p k
 | 0=>by simp [zeE]
 | k+1=>by
  have ih:=zgo hD p k
  unfold zeE
  split
  ·rename_i i hi
   split
   ·rename_i hc
    have hd:=hD.loop hi (zjN hi hc)
    have:1*1<=zeE code p k*(i.Imm+1):=Int.mul_le_mul ih (by omega) (by omega) (by omega)
    omega
   ·exact ih
  ·exact ih
theorem zfW {code:List ze} (hD:zhr code): ∀ k:Nat,(k:Int)<=zhE code k
 | 0=>by simp [zhE]
 | k+1=>by
  have:=zfW hD k
  have h2:=zgo hD k code.length
  unfold zhE
  omega
theorem zjO (code:List ze) (k:Nat):zhE code (k+1)=zhE code k+zeE code k code.length:=rfl
def mn (x:Int):Int:=if x<=257 then x else 257
theorem zrD {x b:Int} (hx:1<=x) (hb:1<=b):mn (mn x*b)=mn (x*b):=by
 unfold mn
 by_cases h:x<=257
 ·rw [if_pos h]
 ·rw [if_neg h]
  have h1:257*1<=257*b:=Int.mul_le_mul_of_nonneg_left hb (by decide)
  have h2:258*1<=x*b:=Int.mul_le_mul (by omega) hb (by decide) (by omega)
  by_cases h3:(257:Int)*b<=257
  ·rw [if_pos h3,if_neg (by omega)];omega
  ·rw [if_neg h3,if_neg (by omega)]
theorem zm8 {a b:Int} (ha:0<=a) (hb:0<=b):mn (mn a+mn b)=mn (a+b):=by
 unfold mn;(repeat' split)<;>omega
theorem zm9 (x:Int):zeR x 257=mn x:=by unfold zeR mn;split<;>split<;>omega
theorem zna (x:Int):mn x<=257/\mn x<=x:=by unfold mn;split<;>omega
def ze6 (p:Int):List zP->Int->Int
 | [],s=>s
 | l::r,s=>ze6 p r (if decide (p>=l.Head)&&decide (p<=l.At) then s*(l.Bound+1) else s)
theorem zbY (p:Int) (l:List zP): ∀ (a:List zP) (s:Int),ze6 p (a++l) s=ze6 p l (ze6 p a s)
 | [],s=>rfl
 | x::r,s=>by simp only [List.cons_append,ze6];exact zbY p l r _
theorem zhF (code:List ze) (p:Nat): ∀ k,ze6 p (lps code k) 1=zeE code p k
 | 0=>rfl
 | k+1=>by
  have ih:=zhF code p k
  unfold lps zeE
  cases hk:code[k]? with
  | none=>exact ih
  | some i=>
   simp only
   by_cases ho:i.Op=20
   ·rw [if_pos (by simp [ho]),zbY,ih]
    simp only [ze6,qp]
    have:jf code p k=(decide ((p:Int)>=(k:Int)-i.D)&&decide ((p:Int)<=k)):=by
     rw [Bool.eq_iff_iff,xr hk ho];simp
    rw [this]
    rfl
   ·rw [if_neg (by simp [ho])]
    have:jf code p k=false:=by simp [jf,hk,ho]
    simp [this,ih]
theorem zso {code:List ze} (hn:code.length<=64) (hD:zhr code) (p:Nat):
  qf (zeZ (lps code code.length) p) (fun (s:Int)=>s) (lps code code.length).length 0 1=some (mn (zeE code p code.length)):=by
 have hbound: ∀ (k:Nat) (l:zP),(lps code code.length)[k]? =some l->1<=l.Bound/\l.Bound<=255:=by
  intro k l hl
  obtain ⟨q,i,_,h2,h3,rfl⟩:=zfV.1 (zmg hl)
  have:=hD.loop h2 h3
  simp only [qp];omega
 rw [<- zhF code p code.length]
 generalize lps code code.length=ls at hbound
 refine OK.is ?_
 refine OK.count (fun (i:Nat) (s:Int)=>s=mn (ze6 p (ls.take i) 1)/\1<=ze6 p (ls.take i) 1) ⟨by simp [ze6,mn],by simp [ze6]⟩ ?_ (fun s h=>by rw [h.1];simp)
 intro i s again hi ⟨hs,h1⟩ k
 unfold zeZ
 refine OK.bind (OK.getN hi (fun x hx=> ?_))
 have hb:=hbound i x hx
 have htake:ls.take (i+1)=ls.take i++ [x]:=by
  rw [List.take_add_one,hx];rfl
 simp only [zfR,zbs]
 have hmn:=zna (ze6 p (ls.take i) 1)
 have hs1:1<=s:=by rw [hs];unfold mn;split<;>omega
 refine OK.ite (fun hc=> ?_) (fun hc=> ?_)
 ·have e1:w64 (x.Bound+1)=x.Bound+1:=qN (by omega) (by omega)
  have m1:s*(x.Bound+1)<=257*256:=Int.mul_le_mul (by omega) (by omega) (by omega) (by omega)
  have m0:0<=s*(x.Bound+1):=Int.mul_nonneg (by omega) (by omega)
  have e2:w64 (s*(x.Bound+1))=s*(x.Bound+1):=qN (by omega) (by omega)
  rw [e1,e2,zm9]
  refine k _ ⟨?_,?_⟩
  ·rw [htake,zbY]
   simp only [ze6,hc,if_true]
   rw [hs,zrD h1 (by omega)]
  ·rw [htake,zbY]
   simp only [ze6,hc,if_true]
   have:1*1<=ze6 p (ls.take i) 1*(x.Bound+1):=Int.mul_le_mul h1 (by omega) (by omega) (by omega)
   omega
 ·refine k _ ⟨?_,?_⟩
  ·rw [htake,zbY]
   simp only [ze6,hc]
   exact hs
  ·rw [htake,zbY]
   simp only [ze6,hc]
   exact h1
theorem zlw {code:List ze} (hn:code.length<=64) (hD:zhr code):ze0 code=some (mn (zhE code code.length)):=by
 unfold ze0
 rw [zi2 hn hD]
 simp only [zbs]
 refine OK.is ?_
 refine OK.bind2 (R:=fun y=>y=mn (zhE code code.length)) ?_ (fun x hx=>OK.ret hx)
 refine OK.count (fun (i:Nat) (s:Int)=>s=mn (zhE code i)) (by simp [zhE,mn]) ?_ (fun s h=>h)
 intro i s again hi hs k
 subst hs
 unfold zg3
 rw [zso hn hD i]
 simp only [zbs]
 have h1:=zna (zeE code i code.length)
 have h2:=zna (zhE code i)
 have h3:=zgo hD i code.length
 have h4:=zfW hD i
 have p1:1<=mn (zeE code i code.length):=by unfold mn;split<;>omega
 have p2:0<=mn (zhE code i):=by unfold mn;split<;>omega
 rw [qN (by omega) (by omega),zm9]
 refine k _ ?_
 rw [zjO,zm8 (by omega) (by omega)]
end Go.Proofs.YtbmknhpfkpmigaaGreatDoor
namespace Go.Proofs.YtbmknhpfkpmigaaGreatDoor
open Go.Sx
structure zii (code:List ze):Prop where
 n1:1<=code.length
 n64:code.length<=64
 fine:zhr code
 cr: ∀ l,l<code.length-> ¬ Cr code l
 en: ∀ p,p<code.length-> ¬ En code p
 cost:zhE code code.length<=256
theorem ziw {code:List ze} (hn:code.length<=64) (hD:zhr code):
  ∃ o,zi3 (Cr code) code.length o/\zdr code=some (match o with | some l=>((l:Int),31) | none=>(zbb (fun p=>pick (En code p) ((p:Int),(31:Int))) code.length 0).getD (0,0)):=by
 obtain ⟨o,h1,h2⟩:=zqm hn hD
 refine ⟨o,h1,?_⟩
 unfold zdr
 rw [zi2 hn hD]
 simp only [zbs,h2,zqo hn hD]
 cases o with
 | some l=>rfl
 | none=>cases zbb (fun p=>pick (En code p) ((p:Int),(31:Int))) code.length 0<;>rfl
theorem zjB (code:List ze): ∃ r,zbj code=some r/\(r.1=0\/0<=r.1/\r.1<code.length)/\(r.2=0->r.1=0/\zii code)/\(zii code->r.2=0):=by
 unfold zbj
 by_cases h0:code.length=0
 ·refine ⟨(0,10),?_,.inl rfl,by simp,fun h=>by have:=h.n1;omega⟩
  simp [h0]
 ·have e0:((code.length:Int)==0)=false:=by simp;exact fun h=>h0 (by simp [h])
  by_cases h1:64<code.length
  ·have e1:decide ((code.length:Int)>64)=true:=by simp;omega
   refine ⟨(0,11),?_,.inl rfl,by simp,fun h=>by have:=h.n64;omega⟩
   simp only [e0,e1];rfl
  ·have e1:decide ((code.length:Int)>64)=false:=by simp;omega
   have hn:code.length<=64:=by omega
   simp only [e0,e1,zjL code hn,zbs]
   cases hp:zbb (zaB code) code.length 0 with
   | some v=>
    obtain ⟨j,_,h2,h3,_⟩:=zbX hp
    have hne:v.2 ≠ 0/\v.1=j:=by
     unfold zaB at h3
     split at h3
     ·split at h3
      ·cases h3
      ·rename_i h4;cases h3;exact ⟨h4,rfl⟩
     ·cases h3
    refine ⟨v,?_,.inr ⟨by rw [hne.2];omega,by rw [hne.2];omega⟩,fun h=>absurd h hne.1,fun h=> ?_⟩
    ·have:(v.2 != 0)=true:=by simpa using hne.1
     simp [this]
    ·rw [zjM h.fine] at hp;cases hp
   | none=>
    have hD:=zm7 hp
    obtain ⟨o,o1,o2⟩:=ziw hn hD
    simp only [o2,zbs,Option.getD_none]
    cases o with
    | some l=>
     have:=o1.1
     refine ⟨((l:Int),31),by simp,.inr ⟨by simp,by simpa using this⟩,by simp,fun h=>absurd o1.2.1 (h.cr l o1.1)⟩
    | none=>
     obtain ⟨p,p1,p2⟩:=zdF (X:=En code) (n:=code.length) (v:=fun p=>((p:Int),(31:Int)))
     rw [p2]
     cases p with
     | some l=>
      have:=p1.1
      exact ⟨((l:Int),31),by simp,.inr ⟨by simp,by simpa using this⟩,by simp,fun h=>absurd p1.2.1 (h.en l p1.1)⟩
     | none=>
      simp only [zlw hn hD,zbs,Option.map_none,Option.getD_none]
      have hmn:=zna (zhE code code.length)
      by_cases hc:mn (zhE code code.length)>256
      ·refine ⟨(0,32),by simp [hc],.inl rfl,by simp,fun h=> ?_⟩
       have:=h.cost;omega
      ·refine ⟨(0,0),by simp [hc],.inl rfl,fun _=>⟨rfl,⟨by omega,hn,hD,o1,p1,?_⟩⟩,fun _=>rfl⟩
       unfold mn at hc
       split at hc<;>omega
theorem zl6 {code:List ze} (h:zii code):zbj code=some (0,0):=by
 obtain ⟨r,h1,_,h2,h3⟩:=zjB code
 have:=h3 h
 have h4:=(h2 this).1
 rw [h1]
 obtain ⟨a,b⟩:=r
 simp only at this h4
 subst this;subst h4;rfl
theorem zix {code:List ze} (h:zii code):zem code=some (lps code code.length,0):=by
 unfold zem
 rw [zl6 h]
 simp [zi2 h.n64 h.fine]
end Go.Proofs.YtbmknhpfkpmigaaGreatDoor
namespace Go.Proofs.YtbmknhpfkpmigaaGreatDoor
open Go.Sx
def SW (s:zc):Prop:=0<=s.Lo/\s.Lo<=s.Hi/\s.Hi<18446744073709551616
theorem zda (x:Int):jy x=x % 18446744073709551616:=rfl
theorem zaT {x:Int} (h0:0<=x) (h1:x<18446744073709551616):jy x=x:=by rw [zda];omega
theorem zbE (x:Int):0<=jy x/\jy x<18446744073709551616:=by rw [zda];omega
theorem zlJ (x y:Int):zex .u64 x y=((BitVec.ofInt 64 x &&& BitVec.ofInt 64 y).toNat:Int) % 18446744073709551616:=rfl
theorem zk6 (x y:Int):bOr .u64 x y=((BitVec.ofInt 64 x ||| BitVec.ofInt 64 y).toNat:Int) % 18446744073709551616:=rfl
theorem zjd (x y:Int):zio .u64 x y=((BitVec.ofInt 64 x ^^^ BitVec.ofInt 64 y).toNat:Int) % 18446744073709551616:=rfl
theorem zfw (x y:Int):zgJ .u64 x y=(x*2 ^ (min y.toNat 64)) % 18446744073709551616:=rfl
theorem zpi (x y:Int):zb4 .u64 x y=x.fdiv (2 ^ (min y.toNat 64)):=rfl
theorem zhW {x:Int} (h0:0<=x) (h1:x<18446744073709551616):(BitVec.ofInt 64 x).toNat=x.toNat:=by
 rw [BitVec.toNat_ofInt]
 omega
theorem zht {x y:Int} (x0:0<=x) (x1:x<18446744073709551616) (y0:0<=y) (y1:y<18446744073709551616):zex .u64 x y=((x.toNat &&& y.toNat:Nat):Int):=by
 rw [zlJ,BitVec.toNat_and,zhW x0 x1,zhW y0 y1]
 have:x.toNat &&& y.toNat<=x.toNat:=Nat.and_le_left
 omega
theorem zhX {x y:Int} (x0:0<=x) (x1:x<18446744073709551616) (y0:0<=y) (y1:y<18446744073709551616):bOr .u64 x y=((x.toNat ||| y.toNat:Nat):Int):=by
 have h:(BitVec.ofInt 64 x ||| BitVec.ofInt 64 y).toNat<2 ^ 64:=BitVec.isLt _
 rw [zk6,Int.emod_eq_of_lt (by omega) (by omega),BitVec.toNat_or,zhW x0 x1,zhW y0 y1]
theorem zqN {x y:Int} (x0:0<=x) (x1:x<18446744073709551616) (y0:0<=y) (y1:y<18446744073709551616):x<=bOr .u64 x y/\y<=bOr .u64 x y/\bOr .u64 x y<18446744073709551616:=by
 have h:(BitVec.ofInt 64 x ||| BitVec.ofInt 64 y).toNat<2 ^ 64:=BitVec.isLt _
 rw [BitVec.toNat_or,zhW x0 x1,zhW y0 y1] at h
 rw [zhX x0 x1 y0 y1]
 have h1:x.toNat<=x.toNat ||| y.toNat:=Nat.left_le_or
 have h2:y.toNat<=x.toNat ||| y.toNat:=Nat.right_le_or
 omega
theorem znT (x y:Int):0<=zex .u64 x y/\zex .u64 x y<18446744073709551616:=by rw [zlJ];omega
theorem zlK (x y:Int):0<=bOr .u64 x y/\bOr .u64 x y<18446744073709551616:=by rw [zk6];omega
theorem znU (x y:Int):0<=zio .u64 x y/\zio .u64 x y<18446744073709551616:=by rw [zjd];omega
theorem zk7 (x y:Int):0<=zgJ .u64 x y/\zgJ .u64 x y<18446744073709551616:=by rw [zfw];omega
theorem zhY {x y:Int} (x0:0<=x):zb4 .u64 x y=((x.toNat / 2 ^ (min y.toNat 64):Nat):Int):=by
 rw [zpi]
 obtain ⟨a,rfl⟩:=zof x0
 rw [Int.fdiv_eq_ediv_of_nonneg _ (by exact_mod_cast Nat.zero_le _)]
 simp
theorem zk8 {x y:Int} (x0:0<=x) (x1:x<18446744073709551616):0<=zb4 .u64 x y/\zb4 .u64 x y<=x:=by
 rw [zhY x0]
 have:=Nat.div_le_self x.toNat (2 ^ (min y.toNat 64))
 generalize x.toNat / 2 ^ (min y.toNat 64)=q at*
 omega
theorem zpj {x y s t:Int} (x0:0<=x) (xy:x<=y) (ts:t<=s):zb4 .u64 x s<=zb4 .u64 y t:=by
 rw [zhY x0,zhY (by omega)]
 have h1:x.toNat / 2 ^ (min s.toNat 64)<=y.toNat / 2 ^ (min s.toNat 64):=Nat.div_le_div_right (by omega)
 have h2:y.toNat / 2 ^ (min s.toNat 64)<=y.toNat / 2 ^ (min t.toNat 64):=Nat.div_le_div_left (Nat.pow_le_pow_right (by omega) (by omega)) (Nat.pow_pos (by omega))
 exact_mod_cast Nat.le_trans h1 h2
theorem zdJ {y:Int} (h:0<=y):nn y=some ():=by unfold nn;rw [if_neg (by omega)]
theorem zeF {y:Int} (h:y ≠ 0):nz y=some ():=by unfold nz;rw [if_neg h]
def zhZ:ByteArray:=⟨[0,1,2,2,3,3,3,3,4,4,4,4,4,4,4,4,5,5,5,5,5,5,5,5,5,5,5,5,5,5,5,5,6,6,6,6,6,6,6,6,6,6,6,6,6,6,6,6,6,6,6,6,6,6,6,6,6,6,6,6,6,6,6,6,7,7,7,7,7,7,7,7,7,7,7,7,7,7,7,7,7,7,7,7,7,7,7,7,7,7,7,7,7,7,7,7,7,7,7,7,7,7,7,7,7,7,7,7,7,7,7,7,7,7,7,7,7,7,7,7,7,7,7,7,7,7,7,7,8,8,8,8,8,8,8,8,8,8,8,8,8,8,8,8,8,8,8,8,8,8,8,8,8,8,8,8,8,8,8,8,8,8,8,8,8,8,8,8,8,8,8,8,8,8,8,8,8,8,8,8,8,8,8,8,8,8,8,8,8,8,8,8,8,8,8,8,8,8,8,8,8,8,8,8,8,8,8,8,8,8,8,8,8,8,8,8,8,8,8,8,8,8,8,8,8,8,8,8,8,8,8,8,8,8,8,8,8,8,8,8,8,8,8,8,8,8,8,8,8,8,8,8,8,8,8,8].toArray⟩
theorem zsX: ∀ c:Nat,c<256-> ∃ k:Nat,k<=8/\c<2 ^ k/\(c=0->k=0)/\(0<c->2 ^ (k-1)<=c)/\zid zhZ (c:Int)=some (k:Int):=by
 have h: ∀ c:Fin 256,∃ k:Fin 9,(c:Nat)<2 ^ (k:Nat)/\((c:Nat)=0->(k:Nat)=0)/\(0<(c:Nat)->2 ^ ((k:Nat)-1)<=(c:Nat))/\zid zhZ ((c:Nat):Int)=some ((k:Nat):Int):=by decide+kernel
 intro c hc
 obtain ⟨k,h1,h2,h3,h4⟩:=h ⟨c,hc⟩
 exact ⟨k,by omega,h1,h2,h3,h4⟩
theorem zg8 {n:Nat} (s:Nat) (h:s<=64):zb4 .u64 (n:Int) (s:Int)=((n / 2 ^ s:Nat):Int):=by
 rw [zhY (by omega)]
 have:min (s:Int).toNat 64=s:=by omega
 rw [this];simp
theorem zqO (c s:Nat) (hc:c<256) (hs:s<=56): ∃ k:Nat,k<=8/\c<2 ^ k/\(c=0->k=0)/\(0<c->2 ^ (k-1)<=c)/\
  ((zid zhZ (IntKind.u8.wrap (c:Int))).bind fun c15=>some (w64 ((s:Int)+(w64 c15))))=some ((s+k:Nat):Int):=by
 obtain ⟨k,h1,h2,h3,h4,h5⟩:=zsX c hc
 refine ⟨k,h1,h2,h3,h4,?_⟩
 have e:IntKind.u8.wrap (c:Int)=(c:Int):=by rw [IntKind.wrap_u8];omega
 rw [e,h5]
 show some _=some _
 rw [qN (x:=(k:Int)) (by omega) (by omega),qN (by omega) (by omega)]
 simp
set_option maxRecDepth 100000 in
theorem zhu {n:Nat} (h1:n<18446744073709551616): ∃ k:Nat,k<=64/\zdk (n:Int)=some (k:Int)/\n<2 ^ k/\(n=0->k=0)/\(0<n->2 ^ (k-1)<=n):=by
 have go: ∀ (c s:Nat),c<256->s<=56->c=n / 2 ^ s->(s=0\/0<c)-> ∃ k:Nat,k<=64/\((zid zhZ (IntKind.u8.wrap (c:Int))).bind fun c15=>some (w64 ((s:Int)+(w64 c15))))=some (k:Int)/\n<2 ^ k/\(n=0->k=0)/\(0<n->2 ^ (k-1)<=n):=by
  intro c s hc hs he hz
  obtain ⟨k,k1,k2,k3,k4,k5⟩:=zqO c s hc hs
  have hp:0<2 ^ s:=Nat.pow_pos (by omega)
  refine ⟨s+k,by omega,k5,?_,fun h0=> ?_,fun h0=> ?_⟩
  ·rw [Nat.pow_add,Nat.mul_comm]
   exact (Nat.div_lt_iff_lt_mul hp).1 (by omega)
  ·subst h0
   rw [Nat.zero_div] at he
   rcases hz with hz | hz
   ·have:=k3 he;omega
   ·omega
  ·have hc0:0<c:=by
    rcases hz with rfl | hz
    ·simp at he;omega
    ·exact hz
   have hk:=k4 hc0
   have hk0:0<k:=by
    rcases Nat.eq_zero_or_pos k with rfl | hk
    ·simp at k2;omega
    ·exact hk
   rw [show s+k-1=s+(k-1) by omega,Nat.pow_add,Nat.mul_comm]
   exact (Nat.le_div_iff_mul_le hp).1 (by omega)
 show ∃ k:Nat,k<=64/\((if decide ((n:Int)>=4294967296) then some (zb4 .u64 (n:Int) 32,(32:Int)) else some ((n:Int),0)).bind fun o2=>
  (if decide (o2.1>=65536) then some (zb4 .u64 o2.1 16,w64 (o2.2+16)) else some (o2.1,o2.2)).bind fun o6=>
  (if decide (o6.1>=256) then some (zb4 .u64 o6.1 8,w64 (o6.2+8)) else some (o6.1,o6.2)).bind fun o10=>
  (zid zhZ (IntKind.u8.wrap o10.1)).bind fun c15=>some (w64 (o10.2+(w64 c15))))=some (k:Int)/\_
 have s32:zb4 .u64 (n:Int) 32=((n / 2 ^ 32:Nat):Int):=zg8 32 (by omega)
 have s16: ∀ m:Nat,zb4 .u64 (m:Int) 16=((m / 2 ^ 16:Nat):Int):=fun m=>zg8 16 (by omega)
 have s8: ∀ m:Nat,zb4 .u64 (m:Int) 8=((m / 2 ^ 8:Nat):Int):=fun m=>zg8 8 (by omega)
 have last: ∀ m s:Nat,m<65536->s<=48->m=n / 2 ^ s->(s=0\/0<m)-> ∃ k:Nat,k<=64/\((if decide ((m:Int)>=256) then some (zb4 .u64 (m:Int) 8,w64 ((s:Int)+8)) else some ((m:Int),(s:Int))).bind fun o10=>
  (zid zhZ (IntKind.u8.wrap o10.1)).bind fun c15=>some (w64 (o10.2+(w64 c15))))=some (k:Int)/\n<2 ^ k/\(n=0->k=0)/\(0<n->2 ^ (k-1)<=n):=by
  intro m s hm hs he hz
  by_cases h:m>=256
  ·rw [if_pos (by simp;omega),s8,show w64 ((s:Int)+8)=((s+8:Nat):Int) by rw [qN (by omega) (by omega)];simp]
   exact go (m / 2 ^ 8) (s+8) (by omega) (by omega) (by rw [he,Nat.div_div_eq_div_mul,<- Nat.pow_add]) (.inr (by omega))
  ·rw [if_neg (by simp;omega)]
   exact go m s (by omega) (by omega) he hz
 have mid: ∀ m s:Nat,m<4294967296->s<=32->m=n / 2 ^ s->(s=0\/0<m)-> ∃ k:Nat,k<=64/\((if decide ((m:Int)>=65536) then some (zb4 .u64 (m:Int) 16,w64 ((s:Int)+16)) else some ((m:Int),(s:Int))).bind fun o6=>
  (if decide (o6.1>=256) then some (zb4 .u64 o6.1 8,w64 (o6.2+8)) else some (o6.1,o6.2)).bind fun o10=>
  (zid zhZ (IntKind.u8.wrap o10.1)).bind fun c15=>some (w64 (o10.2+(w64 c15))))=some (k:Int)/\n<2 ^ k/\(n=0->k=0)/\(0<n->2 ^ (k-1)<=n):=by
  intro m s hm hs he hz
  by_cases h:m>=65536
  ·rw [if_pos (by simp;omega),s16,show w64 ((s:Int)+16)=((s+16:Nat):Int) by rw [qN (by omega) (by omega)];simp]
   exact last (m / 2 ^ 16) (s+16) (by omega) (by omega) (by rw [he,Nat.div_div_eq_div_mul,<- Nat.pow_add]) (.inr (by omega))
  ·rw [if_neg (by simp;omega)]
   exact last m s (by omega) (by omega) he hz
 by_cases h:n>=4294967296
 ·rw [if_pos (by simp;omega),s32]
  exact mid (n / 2 ^ 32) 32 (by omega) (by omega) rfl (.inr (by omega))
 ·rw [if_neg (by simp;omega)]
  exact mid n 0 (by omega) (by omega) (by simp) (.inl rfl)
end Go.Proofs.YtbmknhpfkpmigaaGreatDoor
