/- Lemmas. -/
import Derived.Test.YtplmgfkghomelaaGreatDoorEng
set_option linter.unusedVariables false
set_option linter.unusedSimpArgs false
namespace Go.Sx
section
section
open Go.RowKit
abbrev SpS:=List (Nat×Value×List (Nat×Bool))
def rT:SpS->Nat->Option (Value×List (Nat×Bool))
 |[],_=>none
 |p::r,n=>match Nat.beq p.1 n with
  |true=>some p.2
  |false=>rT r n
def slk(S:SpS)(fr:Fr):Operand->Option (Value×List (Nat×Bool))
 |.tmp t=>match rT S t with
  |some e=>some e
  |none=>match kE fr t with
   |some v=>some (v,[])
   |none=>none
 |.const v=>some (v,[])
 |.global g=>some (.pointer (some ⟨g,0,none⟩),[])
 |.func f=>some (.func (.func f) #[] #[],[])
def JW(p:Nat×Bool):List (Nat×Bool)->Bool
 |[]=>false
 |q::r=>match Nat.beq q.1 p.1,q.2==p.2 with
  |true,true=>true
  |_,_=>JW p r
def ij:List (Nat×Bool)->List (Nat×Bool)->Bool
 |[],_=>true
 |p::r,B=>match JW p B with
  |true=>ij r B
  |false=>false
theorem AR{p:Nat×Bool}:∀{B:List (Nat×Bool)},JW p B=true->p∈B
 |[],h=>by cases h
 |q::r,h=>by
  unfold JW at h;split at h
  ·rename_i h1 h2
   have e1:=t6 h1
   grind
  ·exact zcm _ (AR h)
theorem gr:∀{A B:List (Nat×Bool)},ij A B=true->∀p∈A,p∈B
 |[],_,_,p,hp=>by cases hp
 |q::r,B,h,p,hp=>by
  unfold ij at h;split at h
  ·rename_i h1
   rcases j5.1 hp with rfl|hp
   ·exact AR h1
   ·exact gr h p hp
  ·cases h
def Hr(l:List Oper)(S:SpS)(o:Oper):Option (List (Nat×Bool)):=match o.guard with
 |none=>some []
 |some (j,b)=>match (vk l j).bind (·.dst) with
  |some d=>match rT S d with
   |some (.bool _,ls)=>some ((d,b)::ls)
   |_=>none
  |none=>none
def QB(S:SpS)(fr:Fr)(x:Operand):Value:=match slk S fr x with
 |some e=>e.1
 |none=>undef
def JX(S:SpS)(fr:Fr)(Ls:List (Nat×Bool)):List Operand->Bool
 |[]=>true
 |x::r=>match slk S fr x with
  |some e=>match ij e.2 Ls with
   |true=>JX S fr Ls r
   |false=>false
  |none=>false
def C1{α:Type}:List (Nat×α)->Nat->Option α
 |[],_=>none
 |p::r,n=>match Nat.beq p.1 n with
  |true=>some p.2
  |false=>C1 r n
def QC(P:Program)(lv:List (Nat×Pn))(pk:List (Nat×Bool))(i:Nat)(S:SpS)(fr:Fr)(Ls:List (Nat×Bool))(o:Oper):Option (Value×List (Value×Value)):=match o.op with
 |.pick (.tmp c) x y=>match C1 pk i with
  |some true=>match slk S fr (.tmp c),slk S fr x,slk S fr y with
   |some (.bool g,lc),some (.bool true,la),some (.bool b,lb)=>match ij lc Ls,ij la ((c,true)::Ls),ij lb ((c,false)::Ls) with
    |true,true,true=>some (.bool (g||b),[])
    |_,_,_=>none
   |_,_,_=>none
  |some false=>match slk S fr (.tmp c),slk S fr x,slk S fr y with
   |some (.bool g,lc),some (.bool a,la),some (.bool false,lb)=>match ij lc Ls,ij la ((c,true)::Ls),ij lb ((c,false)::Ls) with
    |true,true,true=>some (.bool (g&&a),[])
    |_,_,_=>none
   |_,_,_=>none
  |none=>none
 |.load t x=>match C1 lv i,slk S fr x with
  |some (.c a v),some (p,la)=>match ij la Ls,aj P (isAgg t) with
   |true,some false=>some (v,[(p,.pointer (some a))])
   |_,_=>none
  |some (.n b k cs),some (p,la)=>match ij la Ls,aj P (isAgg t),aj P (sizeOf t) with
   |true,some true,some m=>match Nat.beq m cs.length with
    |true=>some (.agg cs.toArray,[(p,.pointer (some ⟨b,k,none⟩))])
    |false=>none
   |_,_,_=>none
  |_,_=>none
 |_=>match ax o.op,JX S fr Ls o.op.operands.toList with
  |true,true=>match aj P (execOp (QB S fr) o) with
   |some (.value v)=>some (v,[])
   |_=>none
  |_,_=>none
def sH(P:Program)(l:List Oper)(N:Nat)(lv:List (Nat×Pn))(pk:List (Nat×Bool))(fr:Fr):Nat->Nat->SpS->List (Value×Value)->Option (SpS×List (Value×Value))
 |0,_,S,E=>some (S,E)
 |n+1,i,S,E=>match vk l i with
  |none=>none
  |some o=>match o.dst,Hr l S o with
   |some d,some Ls=>match Nat.blt d N,rT S d with
    |true,none=>match QC P lv pk i S fr Ls o with
     |some (v,e)=>sH P l N lv pk fr n (i+1) ((d,v,Ls)::S) (e++E)
     |none=>none
    |_,_=>none
   |_,_=>none
def Hd(S:SpS)(Ls:List (Nat×Bool)):Prop:=∀p∈Ls,∃ls,rT S p.1=some (.bool p.2,ls)
structure SpI (N:Nat) (S:SpS) (fr:Fr) (a:Act):Prop where
 size:a.tmps.size=N
 defers:a.defers=[]
 on:∀t v Ls,rT S t=some (v,Ls)->(Hd S Ls->a.tmps[t]? =some v)/\(¬ Hd S Ls->a.tmps[t]? =some undef)
 off:∀t v,rT S t=none->kE fr t=some v->a.tmps[t]? =some v
 closed:∀t v Ls,rT S t=some (v,Ls)->∀p∈Ls,∃u,rT S p.1=some u
theorem Hd.sub{S:SpS}{A B:List (Nat×Bool)}(h:Hd S B)(hs:ij A B=true):Hd S A:=λp hp=>h p (gr hs p hp)
section
variable {P:Program} {l:List Oper} {N:Nat} {lv:List (Nat×Pn)} {pk:List (Nat×Bool)} {fr:Fr} {S:SpS} {Ls:List (Nat×Bool)} {a:Act} {o:Oper} {i:Nat} {w:World}
theorem SpI.lk(h:SpI N S fr a){x:Operand}{v:Value}{la:List (Nat×Bool)}(hx:slk S fr x=some (v,la))(hl:Hd S la):a.eval x=v:=by
 cases x with
 |tmp t=>
  simp only [slk] at hx
  have:a.tmps[t]? =some v:=by
   split at hx
   ·rename_i e he
    cases hx
    exact (h.on t v la he).1 hl
   ·rename_i he
    split at hx
    ·rename_i u hu;cases hx;exact h.off t v he hu
    ·cases hx
  simp [Act.eval,yi,this]
 |const u=>simp only [slk] at hx;cases hx;rfl
 |global g=>simp only [slk] at hx;cases hx;rfl
 |func f=>simp only [slk] at hx;cases hx;rfl
theorem AU:∀{xs:List Operand},JX S fr Ls xs=true->∀x∈xs,∃e,slk S fr x=some e/\ij e.2 Ls=true
 |[],_,x,hx=>by cases hx
 |y::r,h,x,hx=>by
  unfold JX at h;split at h
  ·rename_i e he
   split at h
   ·rename_i hs
    rcases j5.1 hx with rfl|hx
    ·exact ⟨e,he,hs⟩
    ·exact AU h x hx
   ·cases h
  ·cases h
theorem SpI.want(h:SpI N S fr a)(hg:Hr l S o=some Ls):(Hd S Ls->Region.wanted o (yielded l.toArray a.tmps)=true)/\(¬ Hd S Ls->Region.wanted o (yielded l.toArray a.tmps)=false):=by
 unfold Hr at hg;unfold Region.wanted;split at hg
 ·rename_i hn
  cases hg
  rw [hn];exact ⟨λ_=>rfl,λk=>absurd (λp hp=>by cases hp) k⟩
 ·rename_i j b hn
  rw [hn];split at hg
  ·rename_i d hd
   split at hg
   ·rename_i g ls hs
    cases hg
    have hon:=h.on d _ _ hs;constructor
    ·intro k;have k2:Hd S ls:=λp hp=>k p (zcm _ hp)
     obtain ⟨ls',h1⟩:=k (d,b) zcs;rw [hs] at h1;cases h1;simp only [yielded,dx,hd,zbs,hon.1 k2];cases b<;>rfl
    ·intro k;by_cases k2:Hd S ls
     ·have hgb:g≠b:=λe=>k (λp hp=>by
       rcases j5.1 hp with rfl|hp
       ·grind
       ·exact k2 p hp)
      simp only [yielded,dx,hd,zbs,hon.1 k2]
      grind
     ·simp only [yielded,dx,hd,zbs,hon.2 k2];cases b<;>rfl
   ·cases hg
  ·cases hg
theorem SpI.val(h:SpI N S fr a){v:Value}{E:List (Value×Value)}(hv:QC P lv pk i S fr Ls o=some (v,E))(hE:∀p∈E,p.1=p.2)(hl:∀i e,C1 lv i=some e->e.Φ w)(hk:Hd S Ls):(execOp a.eval o).run P w=.ok (.value v) w:=by
 unfold QC at hv;split at hv
 ·rename_i c x y ho
  split at hv
  split at hv
  ·rename_i g lc la b lb h1 h2 h3
   split at hv
   ·rename_i s1 s2 s3
    cases hv
    have e1:=h.lk h1 (hk.sub s1);simp only [execOp,ho,e1,asBool];cases g with
    |true=>
     have hc:Hd S ((c,true)::Ls)\/Hd S la:=.inr (λp hp=>by
      rcases j5.1 (gr s2 p hp) with rfl|hp2
      ·cases hsc:rT S c with
       |none=>
        exfalso
        cases x with
        |tmp t=>
         simp only [slk] at h2;split at h2
         ·rename_i e he;cases h2;obtain ⟨u,hu⟩:=h.closed t _ _ he _ hp;rw [hsc] at hu;cases hu
         ·split at h2<;>cases h2;cases hp
        |const u=>simp only [slk] at h2;cases h2;cases hp
        |global g=>simp only [slk] at h2;cases h2
        |func f=>simp only [slk] at h2;cases h2
       |some u=>
        simp only [slk,hsc] at h1;cases h1;exact ⟨_,rfl⟩
      ·exact hk p hp2)
     have e2:=h.lk h2 (hc.elim (λk=>k.sub s2) id);simp [e2]
    |false=>
     have e3:=h.lk h3 (λp hp=>by
      rcases j5.1 (gr s3 p hp) with rfl|hp2
      ·cases hsc:rT S c with
       |none=>
        exfalso
        cases y with
        |tmp t=>
         simp only [slk] at h3;split at h3
         ·rename_i e he;cases h3;obtain ⟨u,hu⟩:=h.closed t _ _ he _ hp;rw [hsc] at hu;cases hu
         ·split at h3<;>cases h3;cases hp
        |const u=>simp only [slk] at h3;cases h3;cases hp
        |global g=>simp only [slk] at h3;cases h3
        |func f=>simp only [slk] at h3;cases h3
       |some u=>
        simp only [slk,hsc] at h1;cases h1;exact ⟨_,rfl⟩
      ·exact hk p hp2)
     simp [e3]
   ·cases hv
  ·cases hv
  split at hv
  ·rename_i g lc a' la lb h1 h2 h3
   split at hv
   ·rename_i s1 s2 s3
    cases hv
    have e1:=h.lk h1 (hk.sub s1);simp only [execOp,ho,e1,asBool];cases g with
    |true=>
     have e2:=h.lk h2 (λp hp=>by
      rcases j5.1 (gr s2 p hp) with rfl|hp2
      ·cases hsc:rT S c with
       |none=>
        exfalso
        cases x with
        |tmp t=>
         simp only [slk] at h2;split at h2
         ·rename_i e he;cases h2;obtain ⟨u,hu⟩:=h.closed t _ _ he _ hp;rw [hsc] at hu;cases hu
         ·split at h2<;>cases h2;cases hp
        |const u=>simp only [slk] at h2;cases h2;cases hp
        |global g=>simp only [slk] at h2;cases h2
        |func f=>simp only [slk] at h2;cases h2
       |some u=>
        simp only [slk,hsc] at h1;cases h1;exact ⟨_,rfl⟩
      ·exact hk p hp2)
     simp [e2]
    |false=>
     have e3:=h.lk h3 (λp hp=>by
      rcases j5.1 (gr s3 p hp) with rfl|hp2
      ·cases hsc:rT S c with
       |none=>
        exfalso
        cases y with
        |tmp t=>
         simp only [slk] at h3;split at h3
         ·rename_i e he;cases h3;obtain ⟨u,hu⟩:=h.closed t _ _ he _ hp;rw [hsc] at hu;cases hu
         ·split at h3<;>cases h3;cases hp
        |const u=>simp only [slk] at h3;cases h3;cases hp
        |global g=>simp only [slk] at h3;cases h3
        |func f=>simp only [slk] at h3;cases h3
       |some u=>
        simp only [slk,hsc] at h1;cases h1;exact ⟨_,rfl⟩
      ·exact hk p hp2)
     simp [e3]
   ·cases hv
  ·cases hv
  cases hv
 ·rename_i t x ho
  split at hv
  ·rename_i ad u p la h1 h2
   split at hv
   ·rename_i s1 hA
    cases hv
    have e1:=h.lk h2 (hk.sub s1);have e2:=hE _ zcs;simp only at e2;have h3:=oW (P:=P) (w:=w) hA (hl i _ h1);simp only [execOp,ho];rw [e1,e2];simp [h3]
   ·cases hv
  ·rename_i b k cs p la h1 h2
   split at hv
   ·rename_i m s1 hA hz
    split at hv
    ·rename_i hm
     cases hv
     have hm:=t6 hm;subst hm;have e1:=h.lk h2 (hk.sub s1);have e2:=hE _ zcs;simp only at e2;have h3:=oX (P:=P) (w:=w) hA hz (hl i _ h1);simp only [execOp,ho];rw [e1,e2];simp [h3]
    ·cases hv
   ·cases hv
  ·cases hv
 ·split at hv
  ·rename_i hs ho
   split at hv
   ·rename_i u hu
    cases hv
    rw [iB (ρ':=QB S fr) hs (λx hx=> ?_)]
    ·exact qV hu w
    ·obtain ⟨e,he,hs2⟩:=AU ho x hx;rw [h.lk (v:=e.1) (la:=e.2) he (hk.sub hs2)];simp [QB,he]
   ·cases hv
  ·cases hv
theorem lL{d t:Nat}{e:Value×List (Nat×Bool)}:rT ((d,e)::S) t=if d=t then some e else rT S t:=by
 simp only [rT];cases h:Nat.beq d t with
 |true=>rw [d7 (t6 h)]
 |false=>rw [d8 (p6 h)]
theorem SpI.put(h:SpI N S fr a){d:Nat}{v u:Value}(hd:Nat.blt d N=true)(hn:rT S d=none)(hg:Hr l S o=some Ls)(h1:Hd S Ls->u=v)(h2:¬ Hd S Ls->u=undef):SpI N ((d,v,Ls)::S) fr (a.put (some d) u):=by
 have hd':d<N:=by simpa [u6] using hd
 have hcl:∀p∈Ls,∃z,rT S p.1=some z:=by
  unfold Hr at hg;split at hg
  ·grind
  ·split at hg
   ·split at hg
    ·rename_i d' _ g ls hs
     cases hg
     intro p hp;rcases j5.1 hp with rfl|hp
     ·exact ⟨_,hs⟩
     ·exact h.closed _ _ _ hs p hp
    ·cases hg
   ·cases hg
 have hH:∀Ls',(∀p∈Ls',∃z,rT S p.1=some z)->(Hd ((d,v,Ls)::S) Ls'↔Hd S Ls'):=by
  intro Ls' hc
  have:∀p∈Ls',rT ((d,v,Ls)::S) p.1=rT S p.1:=by
   grind [lL]
  exact ⟨λk p hp=>by rw [<- this p hp];exact k p hp,λk p hp=>by rw [this p hp];exact k p hp⟩
 refine ⟨by simp [Act.put,h.size],by simp [Act.put,h.defers],λt v' Ls' ht=> ?_,λt v' ht hf=> ?_,λt v' Ls' ht p hp=> ?_⟩
 ·rw [lL] at ht;by_cases e:d=t
  ·subst e;rw [d7 rfl] at ht;cases ht;have hx:(a.put (some d) u).tmps[d]? =some u:=by simp [Act.put,h.size,hd']
   grind
  ·rw [d8 e] at ht;have hx:(a.put (some d) u).tmps[t]? =a.tmps[t]? :=by simp only [Act.put];exact Array.getElem?_setIfInBounds_ne e
   rw [hx];have hc:=h.closed t v' Ls' ht;exact ⟨λk=>(h.on t v' Ls' ht).1 ((hH Ls' hc).1 k),λk=>(h.on t v' Ls' ht).2 (λq=>k ((hH Ls' hc).2 q))⟩
 ·rw [lL] at ht;by_cases e:d=t
  ·grind
  ·rw [d8 e] at ht;have hx:(a.put (some d) u).tmps[t]? =a.tmps[t]? :=by simp only [Act.put];exact Array.getElem?_setIfInBounds_ne e
   rw [hx];exact h.off t v' ht hf
 ·have hex:∃z,rT S p.1=some z:=by
   rw [lL] at ht;by_cases e:d=t
   ·grind
   ·rw [d8 e] at ht;exact h.closed t v' Ls' ht p hp
  grind [lL]
theorem O0(G:Nat->Act->Prop)(hl:∀i e,C1 lv i=some e->e.Φ w)
  (step:∀i a o,vk l i=some o->(Region.wanted o (yielded l.toArray a.tmps)=true->∀v d,o.dst=some d->(execOp a.eval o).run P w=.ok (.value v) w->G (i+1) (a.put (some d) v)->G i a)/\
   (Region.wanted o (yielded l.toArray a.tmps)=false->∀d,o.dst=some d->G (i+1) (a.put (some d) undef)->G i a)):
  ∀(n i:Nat)(S:SpS)(E:List (Value×Value)){S2:SpS}{E2:List (Value×Value)}{a:Act},sH P l N lv pk fr n i S E=some (S2,E2)->(∀p∈E2,p.1=p.2)->SpI N S fr a->(∀a',SpI N S2 fr a'->G (i+n) a')->G i a:=by
 have hmono:∀(n i:Nat)(S:SpS)(E:List (Value×Value)){S2:SpS}{E2:List (Value×Value)},sH P l N lv pk fr n i S E=some (S2,E2)->∀p∈E,p∈E2:=by
  intro n
  induction n with
  |zero=>intro i S E S2 E2 h p hp;simp only [sH,g9,o7] at h;rw [<- h.2];exact hp
  |succ n ih=>
   intro i S E S2 E2 h p hp;unfold sH at h;split at h
   ·cases h
   ·split at h
    ·split at h
     ·split at h
      ·exact ih _ _ _ h p (zar _ hp)
      ·cases h
     ·cases h
    ·cases h
 intro n
 induction n with
 |zero=>intro i S E S2 E2 a h _ hI k;simp only [sH,g9,o7] at h;exact k a (by grind)
 |succ n ih=>
  intro i S E S2 E2 a h hE hI k;have h0:=h;unfold sH at h;split at h
  ·cases h
  ·rename_i o ho
   split at h
   ·rename_i d Ls hd hg
    split at h
    ·rename_i hN hn
     split at h
     ·rename_i v e hv
      have hEe:∀p∈e,p.1=p.2:=λp hp=>hE p (hmono _ _ _ _ h p (zal _ hp))
      obtain ⟨s1,s2⟩:=step i a o ho;by_cases hk:Hd S Ls
      ·refine s1 ((hI.want hg).1 hk) v d hd (hI.val hv hEe hl hk) (ih _ _ _ h hE (hI.put hN hn hg (λ_=>rfl) (λq=>absurd hk q)) ?_)
       grind
      ·refine s2 ((hI.want hg).2 hk) d hd (ih _ _ _ h hE (hI.put hN hn hg (λq=>absurd q hk) (λ_=>rfl)) ?_)
       grind
     ·cases h
    ·cases h
   ·cases h
def sI(S:SpS)(fr:Fr):List Nat->Bool
 |[]=>true
 |q::r=>(match rT S q with
  |some (_,[])=>true
  |some _=>false
  |none=>match kE fr q with
   |some _=>true
   |none=>false)&&sI S fr r
def JY(S:SpS)(fr:Fr):List Nat->Fr
 |[]=>[]
 |q::r=>(q,match rT S q with
  |some (v,_)=>v
  |none=>(kE fr q).getD undef)::JY S fr r
theorem SpI.rep(h:SpI N S fr a):∀{live:List Nat},sI S fr live=true->Rep N (JY S fr live) a
 |[],_=>⟨h.size,h.defers,λi v hi=>by cases hi⟩
 |q::r,hl=>by
  unfold sI at hl;rw [zae] at hl;have ih:=h.rep hl.2;refine {h with get:=λi v hi=> ?_};simp only [JY] at hi;rw [bm] at hi;split at hi
  ·rename_i e
   subst e;have h1:=hl.1;split at h1
   ·rename_i u he
    rw [he] at hi;cases hi;exact (h.on q _ _ he).1 (λp hp=>by cases hp)
   ·cases h1
   ·rename_i he
    split at h1
    ·rename_i u hu
     rw [he,hu] at hi;cases hi;exact h.off q _ he hu
    ·cases h1
  ·exact ih.get i v hi
theorem SpI.init(ha:Rep N fr a):SpI N [] fr a:=⟨ha.size,ha.defers,λt v Ls h=>(by cases h),λt v _ hf=>ha.get t v hf,λt v Ls h=>(by cases h)⟩
end
structure LvR (one many:List (Nat×LH)) (Fs:List Fa) (L:List Item) (w0:World) (Z:List Nat) (lv:List (Nat×Pn)):Prop where
 o:∀w,bC w0 Z Fs->St w0 Z w L->∀p∈lv,p.2.Φ w
section
variable {ρ:Type} {h:LH} {hs hs':List H} {f:Option ρ} {r:ρ} {Fs Fs':List Fa} {L L':List Item} {fr:Fr} {P:Program} {B:Func} {N:Nat} {w0:World} {Z:List Nat} {c x y:Code} {Q:Exit->Act->World->Prop} {l:List Oper} {i:Nat} {e:Exit} {v:Value} {one many:List (Nat×LH)} {lv:List (Nat×Pn)}
theorem LvR.nil:LvR [] [] Fs L w0 Z []:=⟨λ_ _ _ p hp=>by cases hp⟩
theorem LvR.c1{j:Nat}{a:Addr}(h1:Cel Fs L w0 Z h a v)(n:LvR one many Fs L w0 Z lv):LvR ((j,h)::one) many Fs L w0 Z ((j,.c a v)::lv):=⟨λw al s p hp=>by
 rcases j5.1 hp with rfl|hp
 ·exact h1.o w al s
 ·exact n.o w al s p hp⟩
theorem sJ{α:Type}:∀{xs:List (Nat×α)} {n:Nat} {x:α},C1 xs n=some x->∃p∈xs,p.2=x
 |[],_,_,h=>by cases h
 |p::r,n,x,h=>by
  unfold C1 at h;split at h
  ·grind
  ·obtain ⟨q,hq,e⟩:=sJ h;exact ⟨q,zcm _ hq,e⟩
def spS(P:Program)(l:List Oper)(N:Nat)(lv:List (Nat×Pn))(pk:List (Nat×Bool))(fr:Fr):SpS:=match sH P l N lv pk fr l.length 0 [] [] with
 |some p=>p.1
 |none=>[]
def spE(P:Program)(l:List Oper)(N:Nat)(lv:List (Nat×Pn))(pk:List (Nat×Bool))(fr:Fr):Option (List (Value×Value)):=match sH P l N lv pk fr l.length 0 [] [] with
 |some p=>some p.2
 |none=>none
theorem sK:∀{E:List (Value×Value)},E.map (·.1)=E.map (·.2)->∀p∈E,p.1=p.2
 |[],_,p,hp=>by cases hp
 |q::r,h,p,hp=>by
  simp only [yo,List.cons.injEq] at h;rcases j5.1 hp with rfl|hp
  ·exact h.1
  ·exact sK h.2 p hp
theorem GC.sc{id:Nat}{live:List Nat}{pk:List (Nat×Bool)}(hl:LvR one many Fs L w0 Z lv)(he:KR (spE P l N lv pk fr).isSome true)(hE:KR (((spE P l N lv pk fr).getD []).map (·.1)) (((spE P l N lv pk fr).getD []).map (·.2)))(hv:KR (sI (spS P l N lv pk fr) fr live) true)
  (n:GQ hs f r Fs L (JY (spS P l N lv pk fr) fr live) P B N w0 Z .normal Q):GC (.sc live one many pk::hs) f r Fs L fr P B N w0 Z (.region id l.toArray false) Q:=⟨λw a s e=>by
 refine f8 λb hb=> ?_
 have h1:=he.h;have h2:=sK hE.h;have h3:=hv.h;have h4:=n.o w a s e;unfold spE at h1 h2;unfold spS at h3 h4;cases hr:sH P l N lv pk fr l.length 0 [] [] with
 |none=>rw [hr] at h1;cases h1
 |some p=>
  rw [hr] at h2 h3 h4
  have key:=O0 (P:=P) (l:=l) (N:=N) (lv:=lv) (pk:=pk) (fr:=fr) (w:=w) (λi a=>wpList P l.toArray Q (l.drop i) a w)
   (λi e hi=>by obtain ⟨q,hq,rfl⟩:=sJ hi;exact hl.o w a s q hq)
   (λi a o ho=>⟨λhw v d hd hrun k=>by
     show wpList P l.toArray Q (l.drop i) a w;rw [aP ho];refine wpList_step (λK hK=> ?_);rw [d7 hw];unfold Oper.wp;rw [hrun,Oper.upon_value,hd];exact hK _ _ k,
    λhw d hd k=>by
     show wpList P l.toArray Q (l.drop i) a w;rw [aP ho];refine wpList_step (λK hK=> ?_);rw [hw,hd];exact hK _ _ k⟩) l.length 0 [] [] (a:=b) hr h2 (SpI.init hb) (λa' hI=>by
    have h5:=h4 a' (hI.rep h3)
    have h6:=f7 (P:=P) (l:=l) (N:=N) (Q:=Q) (i:=l.length) (fr:=JY p.1 fr live) (w:=w) (by
     cases hh:vk l l.length with
     |none=>rfl
     |some o=>exact absurd (pP hh) (by omega)) h4 a' (hI.rep h3)
    simpa using h6)
  exact key⟩
theorem GC.scS{id:Nat}{live:List Nat}{pk:List (Nat×Bool)}(hm:KR (P.follows .mixedOrders) true)(hB:KR (Region.lexB .any l.toArray) true)(hl:LvR one many Fs L w0 Z lv)(he:KR (spE P l N lv pk fr).isSome true)(hE:KR (((spE P l N lv pk fr).getD []).map (·.1)) (((spE P l N lv pk fr).getD []).map (·.2)))(hv:KR (sI (spS P l N lv pk fr) fr live) true)
  (n:GQ hs f r Fs L (JY (spS P l N lv pk fr) fr live) P B N w0 Z .normal Q):GC (.sc live one many pk::hs) f r Fs L fr P B N w0 Z (.region id l.toArray true) Q:=⟨λw a s e=>by
 refine CW.still hm.h hB.h λw1 hc1 b hb=> ?_
 have s1:=s.same hc1;have h1:=he.h;have h2:=sK hE.h;have h3:=hv.h;have h4:=n.o w1 a s1 e;unfold spE at h1 h2;unfold spS at h3 h4;cases hr:sH P l N lv pk fr l.length 0 [] [] with
 |none=>rw [hr] at h1;cases h1
 |some p=>
  rw [hr] at h2 h3 h4
  have key:=O0 (P:=P) (l:=l) (N:=N) (lv:=lv) (pk:=pk) (fr:=fr) (w:=w1) (λi a=>wpStill P l.toArray w1 (λa'=>Q .normal a' w1) ((l.take l.length).drop i) a)
   (λi e hi=>by obtain ⟨q,hq,rfl⟩:=sJ hi;exact hl.o w1 a s1 q hq)
   (λi a o ho=>⟨λhw v d hd hrun k=>by
     show wpStill P l.toArray w1 _ ((l.take l.length).drop i) a;rw [sy (c:=l.length) ho (by have:=pP ho;simp [u6,this])];refine wpStill_step (λK hK=> ?_);rw [d7 hw];unfold Oper.still;rw [hrun,Oper.stillUpon_value,hd];exact hK _ k,
    λhw d hd k=>by
     show wpStill P l.toArray w1 _ ((l.take l.length).drop i) a;rw [sy (c:=l.length) ho (by have:=pP ho;simp [u6,this])];refine wpStill_step (λK hK=> ?_);rw [hw,hd];exact hK _ k⟩) l.length 0 [] [] (a:=b) hr h2 (SpI.init hb) (λa' hI=>by
    have h6:=OS.fin (P:=P) (l:=l) (N:=N) (Q:=Q) (c:=l.length) (i:=l.length) (fr:=JY p.1 fr live) (w:=w1) (by simp) h4 a' (hI.rep h3)
    simpa using h6)
  exact key⟩
theorem GC.scB{id:Nat}{arr:Array Oper}{live:List Nat}{pk:List (Nat×Bool)}(hR:KR arr (rP B id).toArray)(hl:LvR one many Fs L w0 Z lv)(he:KR (spE P (rP B id) N lv pk fr).isSome true)(hE:KR (((spE P (rP B id) N lv pk fr).getD []).map (·.1)) (((spE P (rP B id) N lv pk fr).getD []).map (·.2)))(hv:KR (sI (spS P (rP B id) N lv pk fr) fr live) true)
 (n:GQ hs f r Fs L (JY (spS P (rP B id) N lv pk fr) fr live) P B N w0 Z .normal Q):GC (.sc live one many pk::hs) f r Fs L fr P B N w0 Z (.region id arr false) Q:=by have:=hR.h;subst this;exact GC.sc hl he hE hv n
theorem GC.scC{id:Nat}{arr:Array Oper}{live:List Nat}{pk:List (Nat×Bool)}(hR:KR arr (rP B id).toArray)(hm:KR (P.follows .mixedOrders) true)(hB:KR (Region.lexB .any (rP B id).toArray) true)(hl:LvR one many Fs L w0 Z lv)(he:KR (spE P (rP B id) N lv pk fr).isSome true)(hE:KR (((spE P (rP B id) N lv pk fr).getD []).map (·.1)) (((spE P (rP B id) N lv pk fr).getD []).map (·.2)))(hv:KR (sI (spS P (rP B id) N lv pk fr) fr live) true)
 (n:GQ hs f r Fs L (JY (spS P (rP B id) N lv pk fr) fr live) P B N w0 Z .normal Q):GC (.sc live one many pk::hs) f r Fs L fr P B N w0 Z (.region id arr true) Q:=by have:=hR.h;subst this;exact GC.scS hm hB hl he hE hv n
end
open Go.RowKit
section
variable {h:LH} {Fs Fs':List Fa} {L L':List Item} {fr:Fr} {P:Program} {B:Func} {N:Nat} {w0:World} {Z:List Nat} {l:List Oper} {i:Nat} {v:Value}
theorem LkV.of{o:Oper}(ho:okO l N fr i=some o)(hs:ax o.op=true)(hr:bC w0 Z Fs->∀a w,Rep N fr a->(execOp a.eval o).run P w=.ok (.value v) w):LkV Fs fr P B N w0 Z h l i v:=by
 obtain ⟨d,hl,hg,hd,hN⟩:=jD ho;exact ⟨o,d,hl,hg,hd,hN,hs,λa w b hb=>hr a b w hb⟩
def JZ:BinOp->Bool|.quo=>true|_=>false
def J0:BinOp->Bool|.rem=>true|_=>false
def J1:BinOp->Bool|.shl=>true|_=>false
def J2:BinOp->Bool|.shr=>true|_=>false
theorem J3{o:BinOp}(h:JZ o=true):o=.quo:=by cases o<;>first|rfl|cases h
theorem J4{o:BinOp}(h:J0 o=true):o=.rem:=by cases o<;>first|rfl|cases h
theorem J5{o:BinOp}(h:J1 o=true):o=.shl:=by cases o<;>first|rfl|cases h
theorem J6{o:BinOp}(h:J2 o=true):o=.shr:=by cases o<;>first|rfl|cases h
def biC(sel:BinOp->Bool)(l:List Oper)(N:Nat)(fr:Fr)(i:Nat):Option (IntKind×Int×IntKind×Int):=match okO l N fr i with
 |some ⟨_,.binOp op _ x y _,_,_,_,_⟩=>match sel op,look fr x,look fr y with
  |true,some (.int k a),some (.int k2 b)=>some (k,a,k2,b)
  |_,_,_=>none
 |_=>none
theorem rU{sel:BinOp->Bool}{p:IntKind×Int×IntKind×Int}(h:biC sel l N fr i=some p):∃d op t x y t2 ty pos af g,okO l N fr i=some ⟨d,.binOp op t x y t2,ty,pos,af,g⟩/\sel op=true/\look fr x=some (.int p.1 p.2.1)/\look fr y=some (.int p.2.2.1 p.2.2.2):=by
 grind [biC]
def biV(p:Option (IntKind×Int×IntKind×Int))(g:IntKind->Int->Int->Int):Value:=match p with
 |some (k,a,_,b)=>.int k (g k a b)
 |none=>undef
theorem LkV.qu{q:Nat}{b:Int}{u:Unit}(hq:nth Fs q=some (.oe (nz b) u))(hc:KR ((biC JZ l N fr i).map λp=>(p.2.2.2,decide (p.1=p.2.2.1))) (some (b,true))):LkV Fs fr P B N w0 Z (.qu q) l i (biV (biC JZ l N fr i) λk a b=>k.wrap (a.tdiv b)):=by
 have hc:=hc.h;cases hb:biC JZ l N fr i with
 |none=>rw [hb] at hc;cases hc
 |some p=>
  obtain ⟨k,a,k2,b'⟩:=p;rw [hb] at hc;simp only [t5,g9,o7,zdq] at hc;obtain ⟨rfl,rfl⟩:=hc;obtain ⟨d,op,t,x,y,t2,ty,pos,af,g,ho,hs,hx,hy⟩:=rU hb;have:=J3 hs;subst this;refine LkV.of ho rfl λal r w hr=> ?_
  have hz:b'≠0:=P7 (zz al hq);have e1:=hr.look hx;have e2:=hr.look hy;simp only at e1 e2;simp [execOp,eqGuard,binOp,e1,e2,Op.intDiv,hz,biV]
theorem LkV.re{q:Nat}{b:Int}{u:Unit}(hq:nth Fs q=some (.oe (nz b) u))(hc:KR ((biC J0 l N fr i).map λp=>(p.2.2.2,decide (p.1=p.2.2.1))) (some (b,true))):LkV Fs fr P B N w0 Z (.re q) l i (biV (biC J0 l N fr i) λk a b=>a.tmod b):=by
 have hc:=hc.h;cases hb:biC J0 l N fr i with
 |none=>rw [hb] at hc;cases hc
 |some p=>
  obtain ⟨k,a,k2,b'⟩:=p;rw [hb] at hc;simp only [t5,g9,o7,zdq] at hc;obtain ⟨rfl,rfl⟩:=hc;obtain ⟨d,op,t,x,y,t2,ty,pos,af,g,ho,hs,hx,hy⟩:=rU hb;have:=J4 hs;subst this;refine LkV.of ho rfl λal r w hr=> ?_
  have hz:b'≠0:=P7 (zz al hq);have e1:=hr.look hx;have e2:=hr.look hy;simp only at e1 e2;simp [execOp,eqGuard,binOp,e1,e2,Op.intDiv,hz,biV]
theorem LkV.hl{q:Nat}{b:Int}{u:Unit}(hq:nth Fs q=some (.oe (nn b) u))(hc:KR ((biC J1 l N fr i).map λp=>p.2.2.2) (some b)):LkV Fs fr P B N w0 Z (.hl q) l i (biV (biC J1 l N fr i) λk a b=>wd k a b):=by
 have hc:=hc.h;cases hb:biC J1 l N fr i with
 |none=>rw [hb] at hc;cases hc
 |some p=>
  obtain ⟨k,a,k2,b'⟩:=p;rw [hb] at hc;simp only [t5,g9] at hc;subst hc;obtain ⟨d,op,t,x,y,t2,ty,pos,af,g,ho,hs,hx,hy⟩:=rU hb;have:=J5 hs;subst this;exact LkV.of ho rfl λal r w hr=>Od rfl hx hy (P9 (zz al hq)) r w hr
theorem LkV.hr{q:Nat}{b:Int}{u:Unit}(hq:nth Fs q=some (.oe (nn b) u))(hc:KR ((biC J2 l N fr i).map λp=>p.2.2.2) (some b)):LkV Fs fr P B N w0 Z (.hr q) l i (biV (biC J2 l N fr i) λk a b=>iE k a b):=by
 have hc:=hc.h;cases hb:biC J2 l N fr i with
 |none=>rw [hb] at hc;cases hc
 |some p=>
  obtain ⟨k,a,k2,b'⟩:=p;rw [hb] at hc;simp only [t5,g9] at hc;subst hc;obtain ⟨d,op,t,x,y,t2,ty,pos,af,g,ho,hs,hx,hy⟩:=rU hb;have:=J6 hs;subst this;exact LkV.of ho rfl λal r w hr=>Oe rfl hx hy (P9 (zz al hq)) r w hr
def siC(P:Program)(l:List Oper)(N:Nat)(fr:Fr)(i:Nat):Option (ByteArray×Int):=match okO l N fr i with
 |some ⟨_,.index t x y,_,_,_,_⟩=>match P.underlying t,look fr x,look fr y with
  |some .string,some (.string s),some (.int _ q)=>some (s,q)
  |_,_,_=>none
 |_=>none
theorem LkV.si{q:Nat}{s:ByteArray}{t c:Int}(hq:nth Fs q=some (.oe (ue s t) c))(hc:KR (siC P l N fr i) (some (s,t))):LkV Fs fr P B N w0 Z (.si q) l i (.int .u8 c):=by
 have hc:=hc.h;unfold siC at hc;split at hc
 ·rename_i ho
  split at hc
  ·rename_i h1 h2 h3
   cases hc
   exact LkV.of ho rfl λal r w hr=>Lj rfl h2 h3 h1 (zz al hq) r w hr
  ·cases hc
 ·cases hc
def J7:BinOp->Bool|.eql=>true|_=>false
theorem J8{o:BinOp}(h:J7 o=true):o=.eql:=by cases o<;>first|rfl|cases h
def seC(sel:BinOp->Bool)(P:Program)(l:List Oper)(N:Nat)(fr:Fr)(i:Nat):Option Bool:=match okO l N fr i with
 |some ⟨_,.binOp op t x y _,_,_,_,_⟩=>match sel op,look fr x,look fr y,P.eqGuardType P.depth t with
  |true,some (.agg xs),some (.agg ys),false=>Je P 9 t (.agg xs) (.agg ys)
  |_,_,_,_=>none
 |_=>none
theorem LkV.sq(hc:KR (seC J7 P l N fr i).isSome true):LkV Fs fr P B N w0 Z .sq l i (.bool ((seC J7 P l N fr i).getD false)):=by
 have hc:=hc.h;cases hb:seC J7 P l N fr i with
 |none=>rw [hb] at hc;cases hc
 |some r=>
  unfold seC at hb;split at hb
  ·rename_i ho
   split at hb
   ·rename_i h1 h2 h3 h4
    have:=J8 h1;subst this;exact LkV.of ho rfl λal a w hr=>Ob rfl h2 h3 h4 hb a w hr
   ·cases hb
  ·cases hb
def adC(l:List Oper)(N:Nat)(fr:Fr)(i:Nat):Option (FuncId×Int×Int×Int):=match okO l N fr i with
 |some ⟨_,.call ⟨.value (.func f),⟨[x,y,z]⟩,⟨_⟩⟩,_,_,_,_⟩=>match look fr x,look fr y,look fr z with
  |some (.int .u64 p),some (.int .u64 q),some (.int .u64 c)=>some (f,p,q,c)
  |_,_,_=>none
 |_=>none
def adF(P:Program)(p:Option (FuncId×Int×Int×Int)):Option Func:=match p with
 |some (f,_)=>P.funcs[f]?
 |none=>none
theorem LkV.ad {q:Nat} {p1 p2 p3:Int} {x:Int×Int} (hq:nth Fs q=some (.oe (FM p1 p2 p3) x)) (hc:KR ((adC l N fr i).map (·.2)) (some (p1,p2,p3))) (h1:KR ((adF P (adC l N fr i)).map fun fn=>(fn.name== "runtime.NumGoroutine",fn.body.isNone)) (some (false,true)))
  (h3:KR ((adF P (adC l N fr i)).bind λfn=>some (Extern.findNext fn)) (some none)) (h4:KR ((adF P (adC l N fr i)).bind λfn=>Extern.find fn) (some add64Entry)):LkV Fs fr P B N w0 Z (.ad q) l i (.tuple [.int .u64 x.1,.int .u64 x.2].toArray):=by
 have hc:=hc.h;have h1:=h1.h;have h3:=h3.h;have h4:=h4.h;cases hb:adC l N fr i with
 |none=>rw [hb] at hc;cases hc
 |some p=>
  obtain ⟨f,a,b,c⟩:=p;rw [hb] at hc h1 h3 h4;simp only [t5,g9,o7] at hc;obtain ⟨rfl,rfl,rfl⟩:=hc;simp only [adF] at h1 h3 h4;cases hf:P.funcs[f]? with
  |none=>rw [hf] at h1;cases h1
  |some fn=>
   rw [hf] at h1 h3 h4;simp only [t5,g9,o7] at h1;simp only [zbs,g9] at h3 h4;unfold adC at hb;split at hb
   ·rename_i ho
    split at hb
    ·rename_i g1 g2 g3
     cases hb
     exact LkV.of ho rfl λal r w hr=>Hk (u:=x.1) (v:=x.2) rfl g1 g2 g3 hf h1.1 h1.2 h3 h4 (zz al hq) r w hr
    ·cases hb
   ·cases hb
def cpC(P:Program)(l:List Oper)(N:Nat)(fr:Fr)(i:Nat):Option (Value×Option Int×Option Int×Nat):=match okO l N fr i with
 |some ⟨_,.slice t x lo hi none,_,_,_,_⟩=>match P.underlying t,look fr x with
  |some (.slice e),some v=>match aj P (sizeOf e) with
   |some sz=>match lo,hi with
    |none,some y=>match look fr y with
     |some (.int _ q)=>some (v,none,some q,sz)
     |_=>none
    |some y,none=>match look fr y with
     |some (.int _ q)=>some (v,some q,none,sz)
     |_=>none
    |some y,some z=>match look fr y,look fr z with
     |some (.int _ q),some (.int _ r)=>some (v,some q,some r,sz)
     |_,_=>none
    |none,none=>none
   |none=>none
  |_,_=>none
 |_=>none
theorem LkV.cp{α:Type}{e q sz n c:Nat}{a:Option Addr}{enc:α->List Value}{xs ys:List α}{hi:Int}(he:nth Fs e=some (.rd (.slice a n c) enc sz xs))(hq:nth Fs q=some (.oe (cut xs 0 hi) ys))(hc:KR (cpC P l N fr i) (some (.slice a n c,none,some hi,sz))):
  LkV Fs fr P B N w0 Z (.cp e q) l i (.slice a ys.length c):=by
 have hc:=hc.h;unfold cpC at hc;split at hc
 ·rename_i ho
  split at hc
  ·rename_i h1 h2
   split at hc
   ·rename_i hz
    split at hc
    ·split at hc
     ·rename_i h3
      cases hc
      exact LkV.of ho rfl λal r w hr=>pO sz rfl h2 h3 (zz al hq) (Rd.cap (zz al he)) h1 hz r w hr
     ·cases hc
    ·grind
    ·grind
    ·cases hc
   ·cases hc
  ·cases hc
 ·cases hc
theorem LkV.cu{α:Type}{e q sz n c:Nat}{a:Option Addr}{enc:α->List Value}{xs ys:List α}{lo hi:Int}(he:nth Fs e=some (.rd (.slice a n c) enc sz xs))(hq:nth Fs q=some (.oe (cut xs lo hi) ys))(hc:KR (cpC P l N fr i) (some (.slice a n c,some lo,some hi,sz))):
  LkV Fs fr P B N w0 Z (.cu e q) l i (.slice (shd a c lo.toNat sz) ys.length (c-lo.toNat)):=by
 have hc:=hc.h;unfold cpC at hc;split at hc
 ·rename_i ho
  split at hc
  ·rename_i h1 h2
   split at hc
   ·rename_i hz
    split at hc
    ·grind
    ·grind
    ·split at hc
     ·rename_i h3 h4
      cases hc
      exact LkV.of ho rfl λal r w hr=>D5 sz rfl h2 h3 h4 (zz al hq) (Rd.cap (zz al he)) h1 hz r w hr
     ·cases hc
    ·cases hc
   ·cases hc
  ·cases hc
 ·cases hc
theorem LkV.cf{α:Type}{e q sz n c:Nat}{a:Option Addr}{enc:α->List Value}{xs ys:List α}{lo:Int}(he:nth Fs e=some (.rd (.slice a n c) enc sz xs))(hq:nth Fs q=some (.oe (cut xs lo ((xs.length:Nat):Int)) ys))(hn:KR n xs.length)(hc:KR (cpC P l N fr i) (some (.slice a n c,some lo,none,sz))):
  LkV Fs fr P B N w0 Z (.cf e q) l i (.slice (shd a c lo.toNat sz) ys.length (c-lo.toNat)):=by
 have hc:=hc.h;unfold cpC at hc;split at hc
 ·rename_i ho
  split at hc
  ·rename_i h1 h2
   split at hc
   ·rename_i hz
    split at hc
    ·grind
    ·split at hc
     ·rename_i h3
      cases hc
      exact LkV.of ho rfl λal r w hr=>fN sz rfl h2 hn.h h3 (zz al hq) h1 hz r w hr
     ·cases hc
    ·grind
    ·cases hc
   ·cases hc
  ·cases hc
 ·cases hc
theorem Adm.fp{α:Type}{e q sz n c:Nat}{a:Option Addr}{enc:α->List Value}{xs ys:List α}{hi:Int}{Fs1:List Fa}(he:nth Fs e=some (.rd (.slice a n c) enc sz xs))(hq:nth Fs q=some (.oe (cut xs 0 hi) ys))(hF:vc Fs (.rd (.slice a ys.length c) enc sz ys)=some Fs1):
 Adm (.fp e q) Fs L (λ_:Unit=>L) (λ_=>Fs1):=⟨λw0 Z w al s=>⟨(),s,jw (F:=.rd (.slice a ys.length c) enc sz ys) al (Rd.pre (zz al he) (zz al hq)) hF⟩⟩
theorem Adm.fu{α:Type}{e q sz n c:Nat}{a:Option Addr}{enc:α->List Value}{xs ys:List α}{lo hi:Int}{Fs1:List Fa}(he:nth Fs e=some (.rd (.slice a n c) enc sz xs))(hq:nth Fs q=some (.oe (cut xs lo hi) ys))(hF:vc Fs (.rd (.slice (shd a c lo.toNat sz) ys.length (c-lo.toNat)) enc sz ys)=some Fs1):
 Adm (.fu e q) Fs L (λ_:Unit=>L) (λ_=>Fs1):=⟨λw0 Z w al s=>⟨(),s,jw (F:=.rd (.slice (shd a c lo.toNat sz) ys.length (c-lo.toNat)) enc sz ys) al (Rd.part (zz al he) (zz al hq)) hF⟩⟩
end
open Go.RowKit
variable {sz:Nat} {α:Type} {o m j:Nat} {T:TypeId} {enc:α->List Value}
section
variable {ρ:Type} {h:LH} {hs hs':List H} {f:Option ρ} {r:ρ} {Fs Fs':List Fa} {L L':List Item} {fr:Fr} {P:Program} {B:Func} {N:Nat} {w0:World} {Z:List Nat} {l:List Oper} {i:Nat} {v:Value} {Q:Exit->Act->World->Prop}
def aiC(P:Program)(l:List Oper)(N:Nat)(fr:Fr)(i:Nat):Option (Addr×Int×Nat×Nat):=match okO l N fr i with
 |some ⟨_,.indexAddr t x y,_,_,_,_⟩=>match P.underlying t,look fr x,look fr y with
  |some (.array n e),some (.pointer (some a)),some (.int _ q)=>match aj P (sizeOf e) with
   |some sz=>some (a,q,n,sz)
   |none=>none
  |_,_,_=>none
 |_=>none
def aiV(p:Option (Addr×Int×Nat×Nat)):Value:=match p with
 |some (⟨b,k,none⟩,q,_,sz)=>.pointer (some ⟨b,k+q.toNat*sz,none⟩)
 |_=>undef
def aiN(p:Option (Addr×Int×Nat×Nat)):Option (Int×Nat):=match p with
 |some (⟨_,_,none⟩,q,n,_)=>some (q,n)
 |_=>none
def inB(p:Option (Int×Nat)):Bool:=match p with
 |some (q,n)=>decide (0<=q/\q<(n:Int))
 |none=>false
theorem J9{a:Addr}{q:Int}{n:Nat}(h:aiC P l N fr i=some (a,q,n,sz)):∃d t x y ty pos af g e kd,okO l N fr i=some ⟨d,.indexAddr t x y,ty,pos,af,g⟩/\P.underlying t=some (.array n e)/\look fr x=some (.pointer (some a))/\look fr y=some (.int kd q)/\aj P (sizeOf e)=some sz:=by
 grind [aiC]
theorem LkV.aiG(hh:bC w0 Z Fs->inB (aiN (aiC P l N fr i))=true)(hn:∃p,aiN (aiC P l N fr i)=some p):LkV Fs fr P B N w0 Z h l i (aiV (aiC P l N fr i)):=by
 obtain ⟨p,hp⟩:=hn;cases hb:aiC P l N fr i with
 |none=>rw [hb] at hp;cases hp
 |some w=>
  obtain ⟨⟨b,k,s⟩,q,n,sz⟩:=w;rw [hb] at hh hp;cases s with
  |some _=>cases hp
  |none=>
   obtain ⟨d,t,x,y,ty,pos,af,g,e,kd,ho,h1,h2,h3,h4⟩:=J9 hb;refine LkV.of ho rfl λal=> ?_
   have hi:=hh al;simp only [aiN,inB,zdq] at hi;exact Ll _ _ rfl h2 h3 hi.1 hi.2 h1 h4
theorem LkV.al(hc:KR (inB (aiN (aiC P l N fr i))) true):LkV Fs fr P B N w0 Z .al l i (aiV (aiC P l N fr i)):=LkV.aiG (λ_=>hc.h) (by
 have:=hc.h;cases e:aiN (aiC P l N fr i) with
 |none=>rw [e] at this;cases this
 |some p=>exact ⟨p,rfl⟩)
theorem LkV.af{q n x:Nat}{t:Int}(hq:nth Fs q=some (.oe (ain n t) x))(hc:KR (aiN (aiC P l N fr i)) (some (t,n))):LkV Fs fr P B N w0 Z (.af q) l i (aiV (aiC P l N fr i)):=LkV.aiG (λal=>by
 rw [hc.h];obtain ⟨h1,h2,_⟩:=rO (zz al hq);simp [inB,h1,h2]) ⟨_,hc.h⟩
theorem LkV.at{α:Type}{q g o:Nat}{v':Value}{xs:List α}{t:Int}{x:α}(hq:nth Fs q=some (.el v' g o t xs x))(hc:KR (aiN (aiC P l N fr i)) (some (t,xs.length))):LkV Fs fr P B N w0 Z (.at q) l i (aiV (aiC P l N fr i)):=LkV.aiG (λal=>by
 rw [hc.h];obtain ⟨h1,_⟩:=zz al hq
 grind [zU,inB]) ⟨_,hc.h⟩
theorem QD{w:World}{Z:List Nat}{b c:Nat}{xs:List α}{t:Int}{x:α}(h:Rd w Z (.slice (some ⟨b,o,none⟩) m c) enc sz xs)(hx:idx xs t=some x):(Fa.el (.slice (some ⟨b,o,none⟩) m c) b o t xs x).ok w Z:=by
 refine ⟨hx,c,?_⟩
 grind [Rd.len]
theorem GO.bt{α:Type}{e b o m c sz:Nat}{enc:α->List Value}{xs:List α}{t:Int}{k:α->Option ρ}{Fs1:α->List Fa}(he:nth Fs e=some (.rd (.slice (some ⟨b,o,none⟩) m c) enc sz xs))(hF:∀x,vc Fs (.el (.slice (some ⟨b,o,none⟩) m c) b o t xs x)=some (Fs1 x))
  (n:∀x,GO hs (k x) r (Fs1 x) L fr P B N w0 Z l i Q):GO (.bt e::hs) ((idx xs t).bind k) r Fs L fr P B N w0 Z l i Q:=⟨λw a s q=>by
 obtain ⟨x,hx,hk⟩:=zI q;exact (n x).o w (jw (F:=.el (.slice (some ⟨b,o,none⟩) m c) b o t xs x) a (QD (zz a he) hx) (hF x)) s hk⟩
def nzC(P:Program)(l:List Oper)(N:Nat)(fr:Fr)(i:Nat):Option (Option Addr):=match okO l N fr i with
 |some ⟨_,.binOp .eql t x y _,_,_,_,_⟩=>match P.underlying t,look fr x,look fr y with
  |some (.slice _),some (.slice a _ _),some (.slice none 0 0)=>some a
  |_,_,_=>none
 |_=>none
def nzV(p:Option (Option Addr)):Value:=match p with
 |some a=>.bool a.isNone
 |none=>undef
theorem LkV.nz(hc:KR (nzC P l N fr i).isSome true):LkV Fs fr P B N w0 Z .nz l i (nzV (nzC P l N fr i)):=by
 have hc:=hc.h;cases hb:nzC P l N fr i with
 |none=>rw [hb] at hc;cases hc
 |some a=>
  unfold nzC at hb;split at hb
  ·rename_i ho
   split at hb
   ·rename_i h1 h2 h3
    cases hb
    exact LkV.of ho rfl λal=>An rfl h2 h3 h1
   ·cases hb
  ·cases hb
theorem GC.nb{α:Type}{e m c sz:Nat}{a:Option Addr}{enc:α->List Value}{xs:List α}{φ:List α->Option ρ}{q:Operand}{x y:Code}{hs1 hs2:List H}(he:nth Fs e=some (.rd (.slice a m c) enc sz xs))(hφ:f=φ xs)(hp:KR (Nat.blt 0 sz) true)(hz:∀x,KR (enc x).length sz)
  (hc:KR (look fr q) (some (.bool a.isNone))) (n1:GC hs1 (φ []) r Fs L fr P B N w0 Z x Q) (n2:GC hs2 f r Fs L fr P B N w0 Z y Q):GC (.nb e hs1 hs2::hs) f r Fs L fr P B N w0 Z (.cond q x y) Q:=⟨λw al s g=>by
 rcases zft a.isNone with h|h
 ·have hn:xs=[]:=Rd.isnil (zz al he) (λx=>by
   have h1:=(hz x).h;have h2:0<sz:=by have:=hp.h;simpa [u6] using this
   grind) h
  rw [hφ,hn] at g;exact o8 hc.h h (n1.o w al s g)
 ·exact p7 hc.h h (n2.o w al s g)⟩
def asC(P:Program)(l:List Oper)(N:Nat)(fr:Fr)(i:Nat):Option (Nat×Nat×Nat×Option Int×Option Int×Nat):=match okO l N fr i with
 |some ⟨_,.slice t x lo hi none,_,_,_,_⟩=>match P.underlying t,look fr x with
  |some (.array n e),some (.pointer (some ⟨b,k,none⟩))=>match aj P (sizeOf e) with
   |some sz=>match lo,hi with
    |none,none=>some (b,k,n,none,none,sz)
    |none,some y=>match look fr y with
     |some (.int _ q)=>some (b,k,n,none,some q,sz)
     |_=>none
    |some y,some z=>match look fr y,look fr z with
     |some (.int _ q),some (.int _ r)=>some (b,k,n,some q,some r,sz)
     |_,_=>none
    |some _,none=>none
   |none=>none
  |_,_=>none
 |_=>none
def asB(p:Option (Nat×Nat×Nat×Option Int×Option Int×Nat)):Option (Nat×Option Int×Option Int):=p.map λq=>(q.2.2.1,q.2.2.2.1,q.2.2.2.2.1)
def asV(p:Option (Nat×Nat×Nat×Option Int×Option Int×Nat))(m:Nat):Value:=match p with
 |some (b,k,n,none,none,_)=>.slice (some ⟨b,k,none⟩) n n
 |some (b,k,n,none,some _,_)=>.slice (some ⟨b,k,none⟩) m n
 |some (b,k,n,some lo,some _,sz)=>.slice (shd (some ⟨b,k,none⟩) n lo.toNat sz) m (n-lo.toNat)
 |_=>undef
theorem LkV.sG{p:Nat×Nat×Nat×Option Int×Option Int×Nat}(hp:asC P l N fr i=some p)
  (hh:bC w0 Z Fs->p.2.2.2.2.1≠none->∃(α:Type)(xs ys:List α),xs.length=p.2.2.1/\cut xs (p.2.2.2.1.getD 0) (p.2.2.2.2.1.getD 0)=some ys/\ys.length=m):LkV Fs fr P B N w0 Z h l i (asV (some p) m):=by
 unfold asC at hp;split at hp
 ·rename_i ho
  split at hp
  ·rename_i h1 h2
   split at hp
   ·rename_i hz
    split at hp
    ·cases hp
     exact LkV.of ho rfl λal=>MK _ rfl h2 h1 hz
    ·split at hp
     ·rename_i h3
      cases hp
      refine LkV.of ho rfl λal=> ?_
      obtain ⟨α,xs,ys,e1,e2,rfl⟩:=hh al (by simp);exact MM _ rfl h2 h3 e1 e2 h1 hz
     ·cases hp
    ·split at hp
     ·rename_i h3 h4
      cases hp
      refine LkV.of ho rfl λal=> ?_
      obtain ⟨α,xs,ys,e1,e2,rfl⟩:=hh al (by simp);exact ML _ rfl h2 h3 h4 e1 e2 h1 hz
     ·cases hp
    ·cases hp
   ·cases hp
  ·cases hp
 ·cases hp
theorem EB{p:Option (Nat×Nat×Nat×Option Int×Option Int×Nat)}{a:Nat×Option Int×Option Int}(h:asB p=some a):∃q,p=some q/\q.2.2.1=a.1/\q.2.2.2.1=a.2.1/\q.2.2.2.2.1=a.2.2:=by
 cases p with
 |none=>cases h
 |some q=>cases h;exact ⟨q,rfl,rfl,rfl,rfl⟩
theorem LkV.sA(hc:KR ((asB (asC P l N fr i)).map (·.2)) (some (none,none))):LkV Fs fr P B N w0 Z .sA l i (asV (asC P l N fr i) 0):=by
 have hc:=hc.h;cases hb:asB (asC P l N fr i) with
 |none=>rw [hb] at hc;cases hc
 |some a=>
  grind [EB,LkV.sG]
theorem LkV.sU{α:Type}{q:Nat}{xs ys:List α}{lo hi:Int}(hq:nth Fs q=some (.oe (cut xs lo hi) ys))(hc:KR (asB (asC P l N fr i)) (some (xs.length,some lo,some hi))):LkV Fs fr P B N w0 Z (.sU q) l i (asV (asC P l N fr i) ys.length):=by
 obtain ⟨p,e1,e2,e3,e4⟩:=EB hc.h;rw [e1];exact LkV.sG e1 λal _=>⟨α,xs,ys,e2.symm,by rw [e3,e4];exact zz al hq,rfl⟩
theorem Giv.ru{α:Type}{j k0 n b q sz:Nat}{T:TypeId}{cs:List Value}{enc:α->List Value}{a:Nat->α}{lo hi:Int}{ys:List α}{js:List Nat}{src:List Src}{Fin:List Fa}(hq:nth Fs q=some (.oe (cut (Hj n a) lo hi) ys))(hj:nth L j=some (jT b T cs))(hcs:KR cs (cs.take k0++(eG enc n a++cs.drop (k0+n*sz))))(hk:KR (Nat.ble k0 cs.length) true)
  (hz:∀x,KR (enc x).length sz) (hn:KR (Nat.ble n 9223372036854775807) true) (hm:KR (mem? j js) false) (m:Giv src Fs L js Fin):Giv (.ru j k0 q::src) Fs L js (.rd (.slice (shd (some ⟨b,k0,none⟩) n lo.toNat sz) ys.length (n-lo.toNat)) enc sz ys::Fin):=
 ⟨λw0 Z w al s=>⟨Rd.part (s.arrRd j (by rw [<- zP];exact hj) enc (λx=>(hz x).h) n a k0 hcs.h hk.h hn.h js hm.h) (zz al hq),m.g w0 Z w al s⟩⟩
structure CF (Fs:List Fa) (L:List Item) (w0:World) (Z:List Nat) (c:Cs) (b o:Nat) (cs:List Value):Prop where
 o:∀w,bC w0 Z Fs->St w0 Z w L->∀k u,cs[k]? =some u->w.cell? ⟨b,o+k,none⟩=some u
theorem CF.o1{b:Nat}{cs:List Value}(hj:nth L j=some (jT b T cs)):CF Fs L w0 Z (.o j) b 0 cs:=⟨λw _ s k u hu=>by
 rw [x4];exact s.blk j (by rw [<- zP];exact hj) hu⟩
theorem CF.p1{b:Nat}{A cs C:List Value}(hj:nth L j=some (db b T A cs C)):CF Fs L w0 Z (.p j) b A.length cs:=⟨λw _ s k u hu=>s.prt j (by rw [<- zP];exact hj) k hu⟩
theorem CF.r1{q g:Nat}{v':Value}{xs xs':List α}{t:Int}{x:α}(he:nth L j=some (qi v' T enc sz xs'))(hq:nth Fs q=some (.el v' g o t xs x))(hxx:KR xs' xs)(hz:∀x,KR (enc x).length sz):CF Fs L w0 Z (.r j q) g (o+t.toNat*sz) (enc x):=
 ⟨λw a s k u hu=>by
  have he:=he;rw [hxx.h] at he;obtain ⟨h1,c,h2⟩:=zz a hq;exact s.rowc j (by rw [<- zP];exact he) (λx=>(hz x).h) h1 h2 k u hu⟩
theorem CF.b1{e b:Nat}{cs:List Value}(he:nth Fs e=some (.pb b cs)):CF Fs L w0 Z (.b e) b 0 cs:=⟨λw a s k u hu=>by
 rw [x4];exact RdB.cell (zz a he) s k hu⟩
structure Ka (A B:List Value):Prop where
 e:A=B
theorem Ka.nil:Ka [] []:=⟨rfl⟩
theorem Ka.u{A B:List Value}{u:Value}(n:Ka A B):Ka (u::A) (u::B):=⟨by rw [n.e]⟩
theorem Giv.bj{j b:Nat}{T:TypeId}{cs cs':List Value}{js:List Nat}{src:List Src}{Fin:List Fa}(hj:nth L j=some (jT b T cs))(hV:Ka cs cs')(hm:KR (mem? j js) false)(m:Giv src Fs L js Fin):Giv (.bj j::src) Fs L js (.pb b cs'::Fin):=
 ⟨λw0 Z w al s=>⟨by
  rw [<- hV.e];exact s.rdB j (by rw [<- zP];exact hj) js hm.h,m.g w0 Z w al s⟩⟩
theorem Giv.bq{e b:Nat}{u u':Value}{cr cr':List Value}{js:List Nat}{src:List Src}{Fin:List Fa}(he:nth Fs e=some (.pb b (u::cr)))(hV:Ka (u::cr) (u'::cr'))(m:Giv src Fs L js Fin):Giv (.bq e::src) Fs L js (.pb b (u'::cr')::Fin):=
 ⟨λw0 Z w al s=>⟨by
  have h:RdB w0 Z b (u::cr):=zz al he;have:=h.give s js;rw [hV.e] at this;exact this,m.g w0 Z w al s⟩⟩
theorem Cel.cc{c:Cs}{b o k:Nat}{cs:List Value}(hC:CF Fs L w0 Z c b o cs)(hv:nth cs k=some v):Cel Fs L w0 Z (.cc c k) ⟨b,o+k,none⟩ v:=⟨λw a s=>hC.o w a s k v (by grind [zP])⟩
theorem pW.cN{c:Cs}{b o k n:Nat}{cs us:List Value}(hC:CF Fs L w0 Z c b o cs)(hv:Hn cs k n=some us):pW Fs L w0 Z (.cN c k n) b (o+k) us:=⟨λw a s j u hj=>by
 rw [yq];exact hC.o w a s (k+j) u ((fZ hv).2 j u hj)⟩
theorem CF.arr{c:Cs}{b e k0 n x:Nat}{cs:List Value}{a:Nat->α}{t:Int}(hC:CF Fs L w0 Z c b o cs)(hq:nth Fs e=some (.oe (ain n t) x))
  (hcs:KR cs (cs.take k0++(eG enc n a++cs.drop (k0+n*sz)))) (hk:KR (Nat.ble k0 cs.length) true) (hz:∀x,KR (enc x).length sz):CF Fs L w0 Z c b (o+k0+t.toNat*sz) (enc (a x)):=
 ⟨λw al s k u hu=>Ey (λf u hf=>hC.o w al s f u hf) enc (λx=>(hz x).h) n a k0 hcs.h hk.h (zz al hq) k u hu⟩
theorem Cel.ca{α:Type}{c:Cs}{b o e k0 ff n sz x:Nat}{enc:α->List Value}{cs:List Value}{a:Nat->α}{t:Int}{u:Value}(hC:CF Fs L w0 Z c b o cs)(hq:nth Fs e=some (.oe (ain n t) x))(hu:nth cs k0=some u)(ha:nth (enc (a 0)) 0=some u)
  (hcs:KR cs (cs.take k0++(eG enc n a++cs.drop (k0+n*sz)))) (hk:KR (Nat.ble k0 cs.length) true) (hz:∀x,KR (enc x).length sz) (hv:nth (enc (a x)) ff=some v):Cel Fs L w0 Z (.ca c e k0 ff sz enc) ⟨b,o+k0+t.toNat*sz+ff,none⟩ v:=
 ⟨λw al s=>(CF.arr hC hq hcs hk hz).o w al s ff v (by grind [zP])⟩
theorem pW.cA{α:Type}{c:Cs}{b o e k0 ff n m sz x:Nat}{enc:α->List Value}{cs us:List Value}{a:Nat->α}{t:Int}{u:Value}(hC:CF Fs L w0 Z c b o cs)(hq:nth Fs e=some (.oe (ain n t) x))(hu:nth cs k0=some u)(ha:nth (enc (a 0)) 0=some u)
  (hcs:KR cs (cs.take k0++(eG enc n a++cs.drop (k0+n*sz)))) (hk:KR (Nat.ble k0 cs.length) true) (hz:∀x,KR (enc x).length sz) (hv:Hn (enc (a x)) ff m=some us):pW Fs L w0 Z (.cA c e k0 ff m sz enc) b (o+k0+t.toNat*sz+ff) us:=
 ⟨λw al s j u hj=>by
  rw [yq];exact (CF.arr hC hq hcs hk hz).o w al s (ff+j) u ((fZ hv).2 j u hj)⟩
def O3{α:Type}(enc:α->List Value):Nat->(Nat->α)->List Value->Option (List Value)
 |0,_,C=>some C
 |n+1,a,C=>match O3 enc n (λi=>a (i+1)) C with
  |some q=>lw (enc (a 0)) q
  |none=>none
theorem C2{α:Type}{enc:α->List Value}:∀{n:Nat} {a:Nat->α} {C q:List Value},O3 enc n a C=some q->q=eG enc n a++C
 |0,_,_,_,h=>by cases h;rfl
 |n+1,a,C,q,h=>by
  unfold O3 at h;split at h
  ·rename_i e
   rw [bJ h,C2 e,eG,w6]
  ·cases h
def Hs{α:Type}:List α->Nat->Option (List α)
 |l,0=>some l
 |[],_+1=>none
 |_::r,n+1=>Hs r n
theorem wo{α:Type}:∀{l q:List α} {n:Nat},Hs l n=some q->q=l.drop n
 |l,q,0,h=>by cases l<;>(cases h;rfl)
 |[],_,_+1,h=>by cases h
 |_::r,q,n+1,h=>by rw [List.drop_succ_cons];exact wo h
theorem wq{α:Type}:∀{l q:List α} {n:Nat},ul l n=some q->q=l.take n
 |l,q,0,h=>by cases l<;>(cases h;rfl)
 |[],_,_+1,h=>by cases h
 |x::r,q,n+1,h=>by
  unfold ul at h;split at h
  ·rename_i e;cases h;rw [List.take_succ_cons,wq e]
  ·cases h
theorem kL{k:Nat}{b:Nat}{us:List Value}(hc:stC P l fr i m=some ⟨b,k,none⟩)(hw:fQ (stV l fr i)=some us)(hm:us.length=m):
  ∃t x y ty pos af g u,vk l i=some ⟨none,.store t x y,ty,pos,af,g⟩/\gd l fr ⟨none,.store t x y,ty,pos,af,g⟩=some true/\look fr x=some (.pointer (some ⟨b,k,none⟩))/\look fr y=some u/\u.cells.toList=us/\aj P (sizeOf t)=some u.cells.toList.length:=by
 obtain ⟨u,hu,hcs⟩:=lJ hw;unfold stC at hc;unfold stV at hu;split at hc
 ·rename_i t x' y' ty pos af g hl
  rw [hl] at hu;simp only at hu;split at hc
  ·rename_i a' m' hg hx hz
   split at hc
   ·rename_i hb
    have e1:=t6 hb
    grind
   ·cases hc
  ·cases hc
 ·cases hc
theorem GO.sa{α:Type}{j e k0 ff m n sz b x:Nat}{enc:α->List Value}{dec:List Value->α}{T:TypeId}{cs us cs1 A C q cs':List Value}{a:Nat->α}{t:Int}{u:Value}{L1:List Item}(hj:nth L j=some (jT b T cs))(hq:nth Fs e=some (.oe (ain n t) x))
  (hu:nth cs k0=some u) (ha:nth (enc (a 0)) 0=some u) (hcs:KR cs (cs.take k0++(eG enc n a++cs.drop (k0+n*sz)))) (hk:KR (Nat.ble k0 cs.length) true) (hz:∀x,KR (enc x).length sz)
  (hv:wm (stV l fr i) 0 m=some us) (hw:KR (fQ (stV l fr i)) (some us)) (hs':eM (enc (a x)) us ff=some cs1) (hd:KR (enc (dec cs1)) cs1) (hc:KR (stC P l fr i m) (some ⟨b,k0+t.toNat*sz+ff,none⟩))
  (hm:KR us.length m) (h1:KR (eA us) true) (h0:KR (FN us) true) (hA:ul cs k0=some A) (hC:Hs cs (k0+n*sz)=some C) (hN:O3 enc n (aset a x (dec cs1)) C=some q) (hQ:lw A q=some cs')
  (hL:dc L j (jT b T cs')=some L1) (n:GO hs f r Fs L1 fr P B N w0 Z l (i+1) Q):GO (.sa j e k0 ff m sz enc dec::hs) f r Fs L fr P B N w0 Z l i Q:=⟨λw al s e=>by
 obtain ⟨t,x',y',ty,pos,af,g,v,hl,hg,hx,hy,hcv,hsz⟩:=kL hc.h hw.h hm.h;obtain ⟨e3,e4⟩:=bp hs' (by intro e5;have:=h0.h;rw [e5] at this;cases this);rw [<- hcv] at e3 e4
 refine OW.stA s j (by rw [<- zP];exact hj) hl hg hx hy hsz (by rw [hcv];exact h1.h) enc (λx=>(hz x).h) _ a k0 hcs.h hk.h (zz al hq) ff rfl (u7 (by rw [<- (hz (a _)).h];exact e4)) (dec cs1) (by rw [e3,hd.h]) cs'
  (by grind [bJ,C2,wq,wo]) λw' s'=> ?_
 exact n.o w' al (by grind [qJ]) e⟩
theorem GO.sra{α:Type}{j q e ff m cn sz sze g o x:Nat}{enc:α->List Value}{dec:List Value->α}{ence:(Nat->α)->List Value}{T:TypeId}{v':Value}{xs xs':List (Nat->α)}{tt t:Int}{z:Nat->α}{us cs1:List Value}{L1:List Item}
  (he:nth L j=some (qi v' T ence sze xs')) (hq:nth Fs q=some (.el v' g o tt xs z)) (hxx:KR xs' xs) (hi:nth Fs e=some (.oe (ain cn t) x)) (hE:∀y,KR (ence y) (eG enc cn y)) (hze:∀y,KR (ence y).length sze) (hz:∀x,KR (enc x).length sz)
  (hv:wm (stV l fr i) 0 m=some us) (hw:KR (fQ (stV l fr i)) (some us)) (hs':eM (enc (z x)) us ff=some cs1) (hd:KR (enc (dec cs1)) cs1) (hc:KR (stC P l fr i m) (some ⟨g,o+tt.toNat*sze+0+t.toNat*sz+ff,none⟩))
  (hm:KR us.length m) (h1:KR (eA us) true) (h0:KR (FN us) true) (hL:dc L j (qi v' T ence sze (xs'.set tt.toNat (aset z x (dec cs1))))=some L1)
  (n:GO hs f r Fs L1 fr P B N w0 Z l (i+1) Q):GO (.sra j q e ff m sz enc dec::hs) f r Fs L fr P B N w0 Z l i Q:=⟨λw al s hf=>by
 obtain ⟨t',x',y',ty,pos,af,g',v,hl,hg,hx,hy,hcv,hsz⟩:=kL hc.h hw.h hm.h;obtain ⟨e3,e4⟩:=bp hs' (by intro e5;have:=h0.h;rw [e5] at this;cases this);rw [<- hcv] at e3 e4;have hxx:=hxx.h;subst hxx;obtain ⟨hx1,cp,hx2⟩:=zz al hq
 have hA:∀y:Nat->α,ence y=(ence z).take 0++(eG enc cn y++(ence z).drop (0+cn*sz)):=λy=>by
  have h5:(ence z).drop (0+cn*sz)=[]:=x8 (by rw [(hE z).h,wj (λx=>(hz x).h)];omega);rw [h5,(hE y).h];simp
 refine OW.stRA s j (by rw [<- zP];exact he) hx2 (λx=>(hze x).h) hl hg hx1 hx hy hsz (by rw [hcv];exact h1.h) enc (λx=>(hz x).h) cn z 0 (hA z) (by cases h9:ence z<;>rfl) (zz al hi) ff rfl (u7 (by rw [<- (hz (z x)).h];exact e4)) (dec cs1) (by rw [e3,hd.h]) (aset z x (dec cs1)) (hA (aset z x (dec cs1))) λw' s'=> ?_
 exact n.o w' al (by grind [qJ]) hf⟩
theorem FO{A B:List Value}(h:A.length=B.length):qG A B 0=B:=by
 grind [qG]
theorem GO.srw{α:Type}{j q m cn sze g o:Nat}{enc:α->List Value}{ence:(Nat->α)->List Value}{T:TypeId}{v' u:Value}{xs xs':List (Nat->α)}{tt:Int}{z a:Nat->α}{us:List Value}{L1:List Item}
  (he:nth L j=some (qi v' T ence sze xs')) (hq:nth Fs q=some (.el v' g o tt xs z)) (hxx:KR xs' xs) (hze:∀y,KR (ence y).length sze)
  (hv:wm (stV l fr i) 0 m=some us) (hu:nth us 0=some u) (ha:nth (enc (a 0)) 0=some u) (hcs:KR (ence a) us) (hw:KR (fQ (stV l fr i)) (some us)) (hc:KR (stC P l fr i m) (some ⟨g,o+tt.toNat*sze+0,none⟩))
  (hm:KR us.length m) (h1:KR (eA us) true) (hL:dc L j (qi v' T ence sze (xs'.set tt.toNat a))=some L1)
  (n:GO hs f r Fs L1 fr P B N w0 Z l (i+1) Q):GO (.srw j q m cn enc::hs) f r Fs L fr P B N w0 Z l i Q:=⟨λw al s hf=>by
 obtain ⟨t',x',y',ty,pos,af,g',v,hl,hg,hx,hy,hcv,hsz⟩:=kL hc.h hw.h hm.h;have hxx:=hxx.h;subst hxx;obtain ⟨hx1,cp,hx2⟩:=zz al hq;have hl1:us.length=sze:=by rw [<- hcs.h];exact (hze a).h
 refine OW.stR s j (by rw [<- zP];exact he) hx2 (λx=>(hze x).h) hl hg hx1 0 hx rfl hy hsz (by rw [hcv];exact h1.h) (u7 (by rw [hcv];omega)) a (by rw [hcv,FO (by rw [hl1];exact (hze z).h),hcs.h]) λw' s'=> ?_
 exact n.o w' al (by grind [qJ]) hf⟩
theorem GO.sp1{j k m b:Nat}{T:TypeId}{A C cs us cs':List Value}{L1:List Item}(hj:nth L j=some (db b T A cs C))(hv:wm (stV l fr i) 0 m=some us)(hs':eM cs us k=some cs')(hw:KR (fQ (stV l fr i)) (some us))(hc:KR (stC P l fr i m) (some ⟨b,A.length+k,none⟩))
  (hm:KR us.length m) (h1:KR (eA us) true) (h0:KR (FN us) true) (hL:dc L j (db b T A cs' C)=some L1) (n:GO hs f r Fs L1 fr P B N w0 Z l (i+1) Q):GO (.sp1 j k m::hs) f r Fs L fr P B N w0 Z l i Q:=⟨λw a s q=>by
 obtain ⟨t,x',y',ty,pos,af,g,v,hl,hg,hx,hy,hcv,hsz⟩:=kL hc.h hw.h hm.h;obtain ⟨e3,e4⟩:=bp hs' (by intro e5;have:=h0.h;rw [e5] at this;cases this);rw [<- hcv] at e3 e4;refine OW.stP s j (by rw [<- zP];exact hj) hl hg k hx hy hsz (by rw [hcv];exact h1.h) (u7 e4) cs' e3 λw' s'=> ?_
 exact n.o w' a (by grind [qJ]) q⟩
theorem GO.spa{α:Type}{j e k0 ff m n sz b x:Nat}{enc:α->List Value}{dec:List Value->α}{T:TypeId}{A' C' cs us cs1 A C q cs':List Value}{a:Nat->α}{t:Int}{u:Value}{L1:List Item}(hj:nth L j=some (db b T A' cs C'))(hq:nth Fs e=some (.oe (ain n t) x))
  (hu:nth cs k0=some u) (ha:nth (enc (a 0)) 0=some u) (hcs:KR cs (cs.take k0++(eG enc n a++cs.drop (k0+n*sz)))) (hk:KR (Nat.ble k0 cs.length) true) (hz:∀x,KR (enc x).length sz)
  (hv:wm (stV l fr i) 0 m=some us) (hw:KR (fQ (stV l fr i)) (some us)) (hs':eM (enc (a x)) us ff=some cs1) (hd:KR (enc (dec cs1)) cs1) (hc:KR (stC P l fr i m) (some ⟨b,A'.length+k0+t.toNat*sz+ff,none⟩))
  (hm:KR us.length m) (h1:KR (eA us) true) (h0:KR (FN us) true) (hA:ul cs k0=some A) (hC:Hs cs (k0+n*sz)=some C) (hN:O3 enc n (aset a x (dec cs1)) C=some q) (hQ:lw A q=some cs')
  (hL:dc L j (db b T A' cs' C')=some L1) (n:GO hs f r Fs L1 fr P B N w0 Z l (i+1) Q):GO (.spa j e k0 ff m sz enc dec::hs) f r Fs L fr P B N w0 Z l i Q:=⟨λw al s e=>by
 obtain ⟨t,x',y',ty,pos,af,g,v,hl,hg,hx,hy,hcv,hsz⟩:=kL hc.h hw.h hm.h;obtain ⟨e3,e4⟩:=bp hs' (by intro e5;have:=h0.h;rw [e5] at this;cases this);rw [<- hcv] at e3 e4
 refine OW.stPA s j (by rw [<- zP];exact hj) hl hg hx hy hsz (by rw [hcv];exact h1.h) enc (λx=>(hz x).h) _ a k0 hcs.h hk.h (zz al hq) ff rfl (u7 (by rw [<- (hz (a _)).h];exact e4)) (dec cs1) (by rw [e3,hd.h]) cs'
  (by grind [bJ,C2,wq,wo]) λw' s'=> ?_
 exact n.o w' al (by grind [qJ]) e⟩
theorem Sim.part{A B:List Item}{b:Nat}{X C cs cs':List Value}(h2:KR cs cs')(n:Sim A B):Sim (db b T X cs C::A) (db b T X cs' C::B):=⟨by rw [h2.h,n.e]⟩
theorem Adm.pt{j k m b:Nat}{T:TypeId}{cs A M C:List Value}{L1:List Item}(hj:nth L j=some (jT b T cs))(hA:ul cs k=some A)(hM:Hn cs k m=some M)(hC:Hs cs (k+m)=some C)(he:KR cs (A++(M++C)))(hL:dc L j (db b T A M C)=some L1):
  Adm (.pt j k m) Fs L (λ_:Unit=>L1) (λ_=>Fs):=⟨λw0 Z w al s=>⟨(),by
 have e:L1=L:=by
  rw [qJ hL];unfold db;rw [<- he.h];apply m6;intro q;rw [yy];rw [zP] at hj;split
  ·rename_i h1
   subst h1;rw [hj];simp [(zes.1 hj).1]
  ·rfl
 rw [e];exact s,al⟩⟩
end
end
variable {α σ ρ:Type} {x:α} {Q:α->Prop} {o:Option α} {xs:List α}
def OK(o:Option α)(Q:α->Prop):Prop:=∃r,o=some r/\Q r
theorem OK.ret(h:Q x):OK (some x) Q:=⟨x,rfl,h⟩
theorem b9:type_of% @OK.ret:=OK.ret
theorem OK.bind{α β:Type}{o:Option α}{f:α->Option β}{Q:β->Prop}(h:OK o (λx=>OK (f x) Q)):OK (o.bind f) Q:=by
 obtain ⟨x,rfl,h⟩:=h;exact h
theorem f9:type_of% @OK.bind:=OK.bind
theorem OK.mono{R:α->Prop}(h:OK o Q)(k:∀x,Q x->R x):OK o R:=by
 obtain ⟨x,rfl,h⟩:=h;exact ⟨x,rfl,k x h⟩
theorem OK.bind2{β:Type}{f:α->Option β}{R:α->Prop}{Q:β->Prop}(h:OK o R)(k:∀x,R x->OK (f x) Q):OK (o.bind f) Q:=
 f9 (h.mono k)
theorem d6:type_of% @OK.bind2:=OK.bind2
theorem OK.ite{α:Type}{c:Bool}{A B:Option α}{Q:α->Prop}(h1:c=true->OK A Q)(h2:c=false->OK B Q):
  OK (if c then A else B) Q:=by
 grind
theorem d5:type_of% @OK.ite:=OK.ite
theorem OK.ite_true{c:Bool}{A B:Option α}(h:c=true)(h1:OK A Q):OK (if c then A else B) Q:=by
 subst h;exact h1
theorem m9:type_of% @OK.ite_true:=OK.ite_true
theorem OK.ite_false{c:Bool}{A B:Option α}(h:c=false)(h1:OK B Q):OK (if c then A else B) Q:=by
 subst h;exact h1
theorem j8:type_of% @OK.ite_false:=OK.ite_false
theorem OK.get{t:Int}(h0:0<=t)(h1:t<xs.length)
  (h:∀x,xs[t.toNat]? =some x->Q x):OK (idx xs t) Q:=by
 have hl:t.toNat<xs.length:=by omega
 refine ⟨xs[t.toNat],?_,h _ (zeg hl)⟩;unfold Go.Sx.idx
 grind
theorem OK.getN{i:Nat}(h1:i<xs.length)
  (h:∀x,xs[i]? =some x->Q x):OK (Go.Sx.idx xs (i:Int)) Q:=
 OK.get (by omega) (by omega) (λx hx=>h x (by simpa using hx))
theorem i7:type_of% @OK.getN:=OK.getN
theorem OK.hasRoom{m b:Nat}{Q:Unit->Prop}(h:m*b<=140737488355328)(k:Q ()):OK (room m b) Q:=
 ⟨(),by unfold Go.Sx.room;rw [d7 h],k⟩
theorem OK.mkl{n:Int}{b:Nat}{Q:Nat->Prop}(h0:0<=n)(h:n.toNat*b<=140737488355328)(k:Q n.toNat):OK (mkLen n b) Q:=
 ⟨n.toNat,by unfold Go.Sx.mkLen;rw [d7 ⟨h0,h⟩],k⟩
theorem OK.count_from{body:Nat->(σ->Option ρ)->σ->Option ρ}{out:σ->ρ}{N:Nat}{Q:ρ->Prop}(I:Nat->σ->Prop)
    (hb:∀i s again,i<N->I i s->(∀s',I (i+1) s'->OK (again s') Q)->OK (body i again s) Q)
    (ho:∀s,I N s->Q (out s)):∀(n i:Nat)(s:σ),i+n=N->I i s->OK (jN body out n i s) Q:=by
  intro n
  induction n with
  | zero => intro i s hi h; have e : i = N := by omega
            subst e;exact b9 (ho s h)
  |succ n ih=>intro i s hi h;exact hb i s _ (by omega) h (λs' h'=>ih (i+1) s' (by omega) h')
theorem OK.count{body:Nat->(σ->Option ρ)->σ->Option ρ}{out:σ->ρ}{N:Nat}{Q:ρ->Prop}(I:Nat->σ->Prop){s:σ}
 (h0:I 0 s)
 (hb:∀i s again,i<N->I i s->(∀s',I (i+1) s'->OK (again s') Q)->OK (body i again s) Q)
 (ho:∀s,I N s->Q (out s)):OK (jN body out N 0 s) Q:=OK.count_from I hb ho N 0 s (by omega) h0
theorem i4:type_of% @OK.count:=OK.count
theorem OK.rounds{R:Type}{body:(σ->Option R)->σ->Option R}{Q:R->Prop}(I:σ->Prop)(m:σ->Nat)
  (hb:∀s again,I s->(∀s',I s'->m s'<m s->OK (again s') Q)->OK (body again s) Q):
  ∀(fu:Nat)(s:σ),I s->m s<fu->OK (loop body fu s) Q:=by
 intro fu
 induction fu with
 |zero=>intro s _ h;omega
 |succ n ih=>intro s h hm;exact hb s _ h (λs' h' hm'=>ih s' h' (by omega))
theorem OK.none_{A:Option ρ}{B:α->Option ρ}{Q:ρ->Prop}(h:OK A Q):OK (vB none A B) Q:=h
theorem OK.some_{A:Option ρ}{B:α->Option ρ}{Q:ρ->Prop}(h:OK (B x) Q):OK (vB (some x) A B) Q:=h
theorem OK.eq(h:o=some x)(k:Q x):OK o Q:=⟨x,h,k⟩
theorem OK.is(h:OK o (λy=>y=x)):o=some x:=by
 obtain ⟨y,rfl,rfl⟩:=h;rfl
theorem fL{i j:Nat}:(xs.set i x)[j]? =if i=j then (if i<xs.length then some x else none) else xs[j]? :=by
 rw [yy]
end
open Go.RowKit
open Go.RowKit
section
variable {P:Program} {N:Nat} {Q:Exit->Act->World->Prop} {fr fr':List (Nat×Value)} {w w0:World} {l:List Oper} {i:Nat} {o:Oper} {S0:List Nat} {L:List Item} {α:Type}
theorem Jl{R:Rp α}{r:Nat}{S:List Nat}{m:List (Int×α)}{ho:Option (Int×Value)}{t tk te:TypeId}{x:Operand}{ats:List Nat}(hst:St w0 S0 w L)(j:Nat)(hj:L[j]? =some (mN r R S m ho))
  (hop:o.op=.call ⟨.builtin .len,[x].toArray,ats.toArray⟩) (ha0:ats[0]? =some t) (hx:look fr x=some (.map (some r))) (ht:P.underlying t=some (.map tk te)):∀b,Rep N fr b->(execOp b.eval o).run P w=.ok (.value (.int .i64 (m.length:Int))) w:=by
 intro b hb;obtain ⟨mv,Ss,hr⟩:=hst.all j _ hj;obtain ⟨A,clock,hA,hE⟩:=hr.map;have e1:=hb.look hx
 have h1:A.size=m.length:=by
  have:=congrArg List.length hE.eq;have h2:=congrArg List.length hr.Tk
  grind
 have ha1:(ats.toArray)[0]? =some t:=by simpa using ha0
 simp [execOp,hop,resolve,invoke,builtin,e1,Builtin.len_,ha1,run_underlying ht,cL hA,goInt,h1]
theorem OW.inl{d M:Nat}{f:FuncId}{fn:Func}{c:Code}{args:List Value}(hl:vk l i=some o)(hg:gd l fr o=some true)(hd:o.dst=some d)(hN:Nat.blt d N=true)
  (hp:I9 P fr o=some (f,args)) (hf:P.funcs[f]? =some fn) (hb:fn.body=some c) (hM:fn.ntmps=M) (hs:Nat.ble args.length M=true)
  (h:CW P M c (bodyPost P fn (λe w'=>∃v,e=.returned v/\OW P l N Q (i+1) ((d,v)::fr) w')) (rx 0 args) w):OW P l N Q i fr w:=
 OW.fn hl hg hd hN hp (CW.start hf hb hM hs h) (λ_ _ h=>h)
def Lu{α:Type}(b:Nat)(enc:α->List Value)(sz:Nat)(xs:List α):Item where
 S:=[b]
 Φ w:=Rd w [] (.slice (some ⟨b,0,none⟩) xs.length xs.length) enc sz xs/\b<w.heap.size
 loc w w' hb h:=by
  obtain ⟨⟨h1,a,c,hv,hlc,hc⟩,h2⟩:=h;have e:w'.heap[b]? =w.heap[b]? :=hb b (by simp);refine ⟨⟨h1,a,c,hv,hlc,λt x f u hx hu=> ?_⟩,?_⟩
  ·obtain ⟨b',o,ha,hn,hcell⟩:=hc t x f u hx hu
   have hb':b'=b:=by
    rw [ha] at hv;simp only [Value.slice.injEq,g9,Addr.mk.injEq] at hv;exact hv.1.1.symm
   subst hb';refine ⟨b',o,ha,hn,?_⟩;rw [<- hcell];exact World.cell?_of_block e
  ·have:=w7.1 (e.trans (RL h2));exact this.1
 lt w h x hx:=by
  simp only [i6] at hx;subst hx;exact h.2
theorem OW.mark{d t e g:Nat}{x:Operand}{ty:TypeId}{pos:String}{af:Array Edge}{gdd:Option (Nat×Bool)}{enc:α->List Value}{sz n:Nat}{xs:List α}{T:TypeId}(hst:St w0 S0 w L)(j:Nat)(hj:L[j]? =some (qi (.slice (some ⟨g,0,none⟩) n n) T enc sz xs))
  (hl:vk l i=some ⟨some d,.convert t t x,ty,pos,af,gdd⟩) (hg:gd l fr ⟨some d,.convert t t x,ty,pos,af,gdd⟩=some true) (hN:Nat.blt d N=true) (hx:look fr x=some (.slice (some ⟨g,0,none⟩) n n))
  (ht:P.underlying t=some (.slice e)) (he:P.underlying e=some (.int .u8)) (hen:∀x,(enc x).length=sz) (hn:xs.length=n) (hn0:0<n)
  (h:∀w',St w0 S0 w' (L.set j (Lu g enc sz xs))->OW P l N Q (i+1) ((d,.slice (some ⟨g,0,none⟩) n n)::fr) w'):OW P l N Q i fr w:=by
 have hrow:=hst.all j _ hj;have hrow2:dJ w T sz (.slice (some ⟨g,0,none⟩) n n) xs.length (jQ enc xs):=hrow;have hcopy:=hrow2;obtain ⟨hlen,hc⟩:=hrow2;rcases hc with ⟨h0,a,hv⟩|⟨g',o',cap,cur,hv,hp,hh,hle,hm,hsz,htk⟩
 ·exact absurd h0 (by omega)
 ·simp only [Value.slice.injEq,g9,Addr.mk.injEq,and_true] at hv;obtain ⟨⟨rfl,rfl⟩,h1,rfl⟩:=hv;have hsh:w.shape? g=some (T,cur.size):=by unfold World.shape?;rw [hh]
  let w':=w.freeze ⟨g,cur.size,none⟩ 1
  have hfr:w'.heap[g]? =some (.cells cur T (cur.size,cur.size+1)):=by
   show (w.freeze ⟨g,cur.size,none⟩ 1).heap[g]? =_;unfold World.freeze;rw [d8 (by decide)];simp only;rw [Array.getElem?_modify,d7 rfl,hh];rfl
  have hoth:∀k,k≠g->w'.heap[k]? =w.heap[k]? :=by
   intro k hk;show (w.freeze ⟨g,cur.size,none⟩ 1).heap[k]? =_;unfold World.freeze;rw [d8 (by decide)];simp only;rw [Array.getElem?_modify,d8 (λe=>hk e.symm)]
  have hsz':w'.heap.size=w.heap.size:=by
   show (w.freeze ⟨g,cur.size,none⟩ 1).heap.size=_;unfold World.freeze;rw [d8 (by decide)];simp
  refine j6 (w':=w') hl hg rfl hN (λa ha=> ?_) (h w' ?_)
  ·have e1:=ha.look hx;simp [execOp,e1,convert,run_underlying ht,run_underlying he,markStringish,hsh];rfl
  ·have hrd:Rd w [] (.slice (some ⟨g,0,none⟩) xs.length xs.length) enc sz xs:=by
    have:=kG (F:=[]) hen hcopy (λ_ _=>by simp);rw [hn];exact this
   refine hst.upd j hj ⟨rfl,rfl,rfl,by rw [hsz'];exact l6 _,λk _ hk=>hoth k (by rintro rfl;exact hk (by simp [qi,xL hp]))⟩ ?_ (λb hb=>.inl ?_) (by simp [Lu])
   ·obtain ⟨h1',a,c,hv',hlc,hcl⟩:=hrd;refine ⟨⟨h1',a,c,hv',hlc,λq x f u hx hu=> ?_⟩,by rw [hsz'];exact (w7.1 hh).1⟩
    obtain ⟨b',o,ha,hnn,hcell⟩:=hcl q x f u hx hu;refine ⟨b',o,ha,hnn,?_⟩;rw [<- hcell]
    have hb':b'=g:=by
     rw [ha] at hv';simp only [Value.slice.injEq,g9,Addr.mk.injEq] at hv';exact hv'.1.1.symm
    subst hb';simp only [World.cell?,hfr,hh]
   ·simp only [Lu,i6] at hb;subst hb;simp [qi,xL hp]
end
section
variable {α:Type} {w w':World} {r:Nat} {R:Rp α} {S:List Nat} {m:List (Int×α)} {ho:Option (Int×Value)} {mv:List (Int×Value)} {Ss:List (List Nat)}
theorem As:∀{m:List (Int×α)} {k:Int} {x:α},jB (mput m k x) k=some x
 |[],k,x=>by simp [mput,jB]
 |p::m,k,x=>by
  unfold mput;by_cases h:(p.1==k)=true
  ·grind [jB]
  ·rw [d8 h];unfold jB;rw [d8 h];exact As
theorem pf:∀{m:List (Int×α)} {k:Int} {x:α},jB m k=none->(k,x)∉m
 |[],k,x,_=>by simp
 |p::m,k,x,h=>by
  unfold jB at h;by_cases hp:(p.1==k)=true
  ·grind
  ·rw [d8 hp] at h;intro hm;rcases j5.1 hm with e|hm
   ·subst e;simp at hp
   ·exact pf h hm
theorem Fx{k:Int}{x:α}{i:Nat}(hp:gp m k=some i):(m.set i (k,x)).map (·.1)=m.map (·.1):=by
 obtain ⟨v,_,hv⟩:=tQ hp;rw [ye];apply m6
 grind
theorem ny.giveH(h:ny w r R S m ho mv Ss){k:Int}{v:Value}{x:α}{i:Nat}(hho:∀k' u,ho=some (k',u)->k'=k)(hp:gp m k=some i)
  (hw:∀b∈Ss.flatten,w'.heap[b]? =w.heap[b]?) (hm:∃A clock,w'.heap[r]? =some (.map A clock)/\nw (λv:Value=>v) (mv.set i (k,v)) A.toList clock):ny w' r R (r::(Ss.set i []).flatten) (m.set i (k,x)) (some (k,v)) (mv.set i (k,v)) (Ss.set i []):=by
 have hn:=h.nd;rw [h.hS] at hn;obtain ⟨n1,n2⟩:=r9.1 hn;have hS:=h.hS;obtain ⟨u0,_,hu0⟩:=tQ hp;have l1:=(zes.1 hu0).1;have hpv:=(cm h.Tk k).trans hp;obtain ⟨v0,_,hv0⟩:=tQ hpv;have l2:=(zes.1 hv0).1;have l3:i<Ss.length:=by rw [h.ls];exact l1
 refine ⟨hm,by rw [ye,ye,h.Tk],by rw [j7,j7];exact h.ls,rfl,?_,λk' v' i' e hp'=> ?_,λi' q S' p g1 g2 g3 g4=> ?_⟩
 ·refine r9.2 ⟨λhb=> ?_,aK n2 l8 (λ_ _ _ _ b hb=>absurd hb znm)⟩;rcases jU hb with hb|hb
  ·grind
  ·exact n1 hb
 ·grind [cm,Fx]
 ·rcases vA g3 with ⟨rfl,rfl⟩|⟨hne,g3⟩
  ·grind [cm,Fx]
  ·rcases vA g2 with ⟨e,_⟩|⟨_,g2⟩
   ·exact absurd e hne
   ·rcases vA g4 with ⟨e,_⟩|⟨_,g4⟩
    ·exact absurd e hne
    ·refine R.loc w w' _ S' _ (λb hb=>hw b (k6.2 ⟨S',zmg g3,hb⟩)) (h.own i' q S' p (λk' u e hp'=> ?_) g2 g3 g4)
     grind
theorem ny.comeH(h:ny w r R S m ho mv Ss){k:Int}{v:Value}{x:α}(hho:∀k' u,ho=some (k',u)->k'=k)(hp:gp m k=none)
  (hw:∀b∈Ss.flatten,w'.heap[b]? =w.heap[b]?) (hm:∃A clock,w'.heap[r]? =some (.map A clock)/\nw (λv:Value=>v) (mv++[(k,v)]) A.toList clock):ny w' r R (r::(Ss++[[]]).flatten) (m++[(k,x)]) (some (k,v)) (mv++[(k,v)]) (Ss++[[]]):=by
 have hn:=h.nd;rw [h.hS] at hn;obtain ⟨n1,n2⟩:=r9.1 hn;have hS:=h.hS;have hl:=h.len;have hls:=h.ls
 have hpos:gp (m++[(k,x)]) k=some m.length:=by
  have hg:jB (m++[(k,x)]) k=some x:=by
   have:=xn.1 hp;rw [<- hU this];exact As
  obtain ⟨i,hi,hv⟩:=eC hg;rw [hi];have li:=(zes.1 hv).1;rcases Nat.lt_or_ge i m.length with hlt|hge
  ·rw [x9 hlt] at hv;have:=xn.1 hp
   exact absurd this (by
    intro hnone;have hmem:=zmg hv
    grind [pf])
  grind
 refine ⟨hm,by rw [u5,u5,h.Tk];rfl,by simp [h.ls],rfl,?_,λk' v' i' e hp'=> ?_,λi' q S' p g1 g2 g3 g4=> ?_⟩
 ·grind
 ·grind
 ·rcases aX g2 with ⟨l1,g2⟩|⟨l1,g2⟩
  ·rcases aX g3 with ⟨l2,g3⟩|⟨l2,g3⟩
   ·rcases aX g4 with ⟨l3,g4⟩|⟨l3,g4⟩
    ·refine R.loc w w' _ S' _ (λb hb=>hw b (k6.2 ⟨S',zmg g3,hb⟩)) (h.own i' q S' p (λk' u e hp'=> ?_) g2 g3 g4)
     grind
    ·omega
   ·omega
  grind
end
section
variable {P:Program} {N:Nat} {Q:Exit->Act->World->Prop} {fr fr':List (Nat×Value)} {w w0:World} {l:List Oper} {i:Nat} {o:Oper} {S0:List Nat} {L:List Item} {α:Type} {R:Rp α} {r:Nat} {S:List Nat} {m:List (Int×α)} {ho:Option (Int×Value)}
theorem OW.mputH{t tk te:TypeId}{x y z:Operand}{ty:TypeId}{pos:String}{af:Array Edge}{gdd:Option (Nat×Bool)}(hst:St w0 S0 w L)(q:Nat){kd:IntKind}{k:Int}{v:Value}(u:α)(hq:L[q]? =some (mN r R S m ho))(hho:∀k' u,ho=some (k',u)->k'=k)
  (hl:vk l i=some ⟨none,.mapUpdate t x y z,ty,pos,af,gdd⟩) (hg:gd l fr ⟨none,.mapUpdate t x y z,ty,pos,af,gdd⟩=some true) (hx:look fr x=some (.map (some r))) (hy:look fr y=some (.int .i64 k)) (hz:look fr z=some v)
  (ht:P.underlying t=some (.map tk te)) (hk:P.underlying tk=some (.int kd)) (h:∀S' w',St w0 S0 w' (L.set q (mN r R S' (Sx.mput m k u) (some (k,v))))->OW P l N Q (i+1) fr w'):OW P l N Q i fr w:=by
 obtain ⟨mv,Ss,hr⟩:=hst.all q _ hq;have hS:=hr.hS;have hn:=hr.nd;rw [hS] at hn;obtain ⟨n1,_⟩:=r9.1 hn
 have hI:St w [r] w [CG r (λv:Value=>v) mv]:=by
  refine ⟨w9 _ _,λn it hi=> ?_,λn it hi=> ?_,λn n' a b hne h1 h2=> ?_,λn it hi y hy=> ?_⟩
  ·cases n with
   |zero=>simp at hi;subst hi;exact hr.map
   |succ n=>simp at hi
  ·grind [CG]
  ·grind
  grind [CG]
 obtain ⟨w',hrun,hst'⟩:=wa (P:=P) (k:=k) (x:=v) hI 0 rfl ht hk;have hchg:Chg [r] w w':=hst'.chg;have hm':∃A clock,w'.heap[r]? =some (.map A clock)/\nw (λv:Value=>v) (Sx.mput mv k v) A.toList clock:=hst'.all 0 _ rfl;have hlt:=hr.lt;have hw:∀b∈Ss.flatten,w'.heap[b]? =w.heap[b]? :=λb hb=>hchg.block b (hlt b (by grind)) (by grind)
 obtain ⟨Ss',mv',hfin,hsub⟩:∃Ss' mv',ny w' r R (r::List.flatten Ss') (Sx.mput m k u) (some (k,v)) mv' Ss'/\∀b∈List.flatten Ss',b∈Ss.flatten:=by
  cases hp:gp m k with
  |none=>
   have hp':gp mv k=none:=(cm hr.Tk k).trans hp;rw [hU (xn.1 hp')] at hm';rw [hU (xn.1 hp)];refine ⟨_,_,hr.comeH hho hp hw hm',λb hb=> ?_⟩
   grind
  |some n=>
   have hp':gp mv k=some n:=(cm hr.Tk k).trans hp;rw [mz hp'] at hm';rw [mz hp];exact ⟨_,_,hr.giveH hho hp hw hm',λb hb=>(jU hb).elim (λh=>absurd h znm) id⟩
 refine OW.ops hl hg rfl (λa ha=> ?_) (h (r::List.flatten Ss') w' ?_)
 ·simp [execOp,ha.look hx,ha.look hy,ha.look hz,hrun]
 ·have hsub2:∀b∈r::List.flatten Ss',b∈S:=λb hb=>by
   grind
  exact hst.upd q hq (it':=mN r R (r::List.flatten Ss') (Sx.mput m k u) (some (k,v))) (hchg.mono (λb hb=>by simp only [i6] at hb;subst hb;show b∈S;rw [hS];exact zcs)) ⟨_,_,hfin⟩ (λb hb=>.inl (hsub2 b hb)) hfin.nd
end
open Go.RowKit
variable {T:TypeId} {a:Option Addr} {n c:Nat} {q:Int}
section
variable {α:Type} {enc:α->List Value} {sz:Nat}
theorem mI(he:∀x,(enc x).length=sz)(xs:List α)(n:Nat):(jQ enc xs).take (n*sz)=jQ enc (xs.take n):=by
 induction xs generalizing n with
 |nil=>simp [jQ]
 |cons x r ih=>
  cases n with
  |zero=>simp [jQ]
  |succ n=>
   have h1:=he x;simp only [jQ,List.take_succ_cons];rw [List.take_append,h1,y5,show n*sz+sz-sz=n*sz by omega,ih,r7 (by omega)]
theorem sD(he:∀x,(enc x).length=sz)(xs:List α)(n:Nat):(jQ enc xs).drop (n*sz)=jQ enc (xs.drop n):=by
 induction xs generalizing n with
 |nil=>simp [jQ]
 |cons x r ih=>
  cases n with
  |zero=>simp
  |succ n=>
   have h1:=he x;simp only [jQ,List.drop_succ_cons];rw [RG,h1,y5,show n*sz+sz-sz=n*sz by omega,ih,x8 (by omega),List.nil_append]
theorem ii(xs ys:List α):jQ enc (xs++ys)=jQ enc xs++jQ enc ys:=by
 induction xs with
 |nil=>rfl
 |cons x r ih=>simp only [y7,jQ,ih,w6]
theorem JQ{a b:List Value}(h1:eA a=true)(h2:eA b=true):eA (a++b)=true:=by
 induction a with
 |nil=>exact h2
 |cons x r ih=>
  grind [eA]
theorem Hm{z:α}(h:eA (enc z)=true)(n:Nat):eA (jQ enc (List.replicate n z))=true:=by
 induction n with
 |zero=>rfl
 |succ n ih=>exact JQ h ih
theorem ng{zs:Array Value}{z:α}(h:zs.toList=enc z)(n:Nat):(Builtin.zeroCells zs n).toList=jQ enc (List.replicate n z):=by
 have hs:zs.size=(enc z).length:=by rw [<- h];simp
 have key:∀n,(List.range (n*zs.size)).map (λi=>zs[i%zs.size]!)=jQ enc (List.replicate n z):=by
  intro n
  induction n with
  |zero=>simp [jQ]
  |succ n ih=>
   rw [y5,List.range_add,u5,ih,List.replicate_succ',ii]
   congr 1
   simp only [jQ,i9,List.map_map];refine m6 (λi=> ?_);rw [x5];by_cases hi:i<zs.size
   ·rw [List.getElem?_range hi];simp only [t5,Function.comp];rw [show (n*zs.size+i)%zs.size=i by rw [Nat.add_comm,Nat.add_mul_mod_self_right,z4 hi],<- h,getElem!_pos zs i hi];simp [hi]
   grind
 simpa [Builtin.zeroCells] using key n
theorem dJ.pre{w:World}{xs ys:List α}(he:∀x,(enc x).length=sz)(h:dJ w T sz (.slice a n c) xs.length (jQ enc xs))(hc:cut xs 0 q=some ys):
  dJ w T sz (.slice a ys.length c) ys.length (jQ enc ys):=by
 obtain ⟨_,h1,h2,e⟩:=aY hc;have hl:=iP hc
 have hys:ys=xs.take ys.length:=by
  grind
 refine ⟨qP he _,?_⟩;rcases h.2 with ⟨h0,a',hv⟩|⟨g,o,cap,cur,hv,hp,hg,hnc,hm,hcs,ht⟩
 ·grind
 ·simp only [Value.slice.injEq] at hv;obtain ⟨rfl,rfl,rfl⟩:=hv;refine .inr ⟨g,o,c,cur,rfl,hp,hg,by omega,hm,hcs,?_⟩;have hle:ys.length*sz<=xs.length*sz:=o9 _ (by omega)
  have e2:((cur.toList.drop o).take (xs.length*sz)).take (ys.length*sz)=(cur.toList.drop o).take (ys.length*sz):=by
   grind
  grind [mI,jQ]
theorem dJ.suf{w:World}{xs ys:List α}(he:∀x,(enc x).length=sz)(h:dJ w T sz (.slice a n c) xs.length (jQ enc xs))(hc:cut xs q (xs.length:Int)=some ys):
  dJ w T sz (.slice (shd a c q.toNat sz) ys.length (c-q.toNat)) ys.length (jQ enc ys):=by
 obtain ⟨h0,h1,h2,e⟩:=aY hc;have hl:=iP hc
 have hys:ys=xs.drop q.toNat:=by
  rw [e];simp
 refine ⟨qP he _,?_⟩;rcases h.2 with ⟨hz,a',hv⟩|⟨g,o,cap,cur,hv,hp,hg,hnc,hm,hcs,ht⟩
 ·grind
 ·simp only [Value.slice.injEq] at hv;obtain ⟨rfl,rfl,rfl⟩:=hv;by_cases hcq:c=q.toNat
  ·have h3:ys.length=0:=by omega
   exact .inl ⟨h3,_,by rw [h3,hcq,Nat.sub_self]⟩
  ·have hqn:q.toNat<=xs.length:=by omega
   have hlen:ys.length=xs.length-q.toNat:=by grind
   refine .inr ⟨g,o+q.toNat*sz,c-q.toNat,cur,?_,by omega,hg,by omega,by omega,?_,?_⟩
   ·simp [shd,hcq,Addr.add]
   ·have:(c-q.toNat)*sz+q.toNat*sz=c*sz:=by rw [<- u4];congr 1;omega
    omega
   ·have hm1:q.toNat*sz+ys.length*sz=xs.length*sz:=by rw [<- u4];congr 1;omega
    have e3:((cur.toList.drop o).take (xs.length*sz)).drop (q.toNat*sz)=(cur.toList.drop (o+q.toNat*sz)).take (ys.length*sz):=by
     rw [List.drop_take,yl]
     congr 1
     omega
    grind [sD]
end
section
variable {P:Program} {N:Nat} {Q:Exit->Act->World->Prop} {fr fr':List (Nat×Value)} {w w0:World} {l:List Oper} {i:Nat} {o:Oper} {S0:List Nat} {L:List Item} {α:Type} {enc:α->List Value} {sz:Nat}
theorem St.cutRow{xs ys:List α}(hst:St w0 S0 w L)(j:Nat)(hj:L[j]? =some (qi (.slice a n c) T enc sz xs))(he:∀x,(enc x).length=sz)(hc:cut xs 0 q=some ys):
  St w0 S0 w (L.set j (qi (.slice a ys.length c) T enc sz ys)):=by
 have h:=hst.all j _ hj
 have e:(cY (.slice a ys.length c)).toList=(cY (.slice a n c)).toList:=by
  cases a with
  |none=>rfl
  |some a=>cases c<;>rfl
 exact hst.upd j hj (w9 _ _) (dJ.pre he h hc) (λb hb=>.inl (by
  show b∈(cY (.slice a n c)).toList;rw [<- e];exact hb)) vj
theorem St.sufRow{xs ys:List α}(hst:St w0 S0 w L)(j:Nat)(hj:L[j]? =some (qi (.slice a n c) T enc sz xs))(he:∀x,(enc x).length=sz)(hc:cut xs q (xs.length:Int)=some ys):
  St w0 S0 w (L.set j (qi (.slice (shd a c q.toNat sz) ys.length (c-q.toNat)) T enc sz ys)):=by
 have h:=hst.all j _ hj;refine hst.upd j hj (w9 _ _) (dJ.suf he h hc) (λb hb=>.inl ?_) vj;have hb:b∈(cY (.slice (shd a c q.toNat sz) ys.length (c-q.toNat))).toList:=hb;show b∈(cY (.slice a n c)).toList;cases c with
 |zero=>rw [Nat.zero_sub,ez] at hb;cases hb
 |succ c=>
  cases a with
  |none=>
   have:shd none (c+1) q.toNat sz=none:=by grind [shd]
   rw [this] at hb;cases hb
  |some a=>
   by_cases hcq:c+1=q.toNat
   ·rw [hcq,Nat.sub_self,ez] at hb;cases hb
   ·have e1:shd (some a) (c+1) q.toNat sz=some (a.add (q.toNat*sz)):=by unfold shd;rw [d8 hcq];rfl
    rw [e1] at hb;rcases yn (c+1-q.toNat) with h0|h0
    ·grind [ez]
    ·rw [xL h0] at hb;rw [xL (Nat.succ_pos c)]
     have e2:(a.add (q.toNat*sz)).block=a.block:=by
      obtain ⟨b0,o0,s0⟩:=a;unfold Addr.add
      grind
     grind
theorem OW.clearR{t e:TypeId}{ats:List Nat}{x:Operand}{ty:TypeId}{pos:String}{af:Array Edge}{gdd:Option (Nat×Bool)}(hst:St w0 S0 w L)(j:Nat){xs ys:List α}(hj:L[j]? =some (qi (.slice a n c) T enc sz xs))(he:∀x,(enc x).length=sz)
  (hl:vk l i=some ⟨none,.call ⟨.builtin .clear,[x].toArray,ats.toArray⟩,ty,pos,af,gdd⟩) (hg:gd l fr ⟨none,.call ⟨.builtin .clear,[x].toArray,ats.toArray⟩,ty,pos,af,gdd⟩=some true) (hc:cut xs q (xs.length:Int)=some ys) (hx:look fr x=some (.slice (shd a c q.toNat sz) ys.length (c-q.toNat))) (ha0:ats[0]? =some t) (ht:P.underlying t=some (.slice e)) (z:α)
  (hz:(aj P (zeroValue e)).map (·.cells.toList)=some (enc z)) (h1:eA (enc z)=true)
  (h:∀w',St w0 S0 w' (L.set j (qi (.slice a n c) T enc sz (xs.take q.toNat++List.replicate ys.length z)))->OW P l N Q (i+1) fr w'):OW P l N Q i fr w:=by
 obtain ⟨h0,hq1,hq2,e0⟩:=aY hc;have hl0:=iP hc;have hyl:ys.length=xs.length-q.toNat:=by omega
 have ha1:(ats.toArray)[0]? =some t:=by simpa using ha0
 have hr:dJ w T sz (.slice a n c) xs.length (jQ enc xs):=hst.all j _ hj;cases hy:ys.length with
 |zero=>
  have hxs:xs.take q.toNat++List.replicate ys.length z=xs:=by
   rw [hy,List.replicate_zero,i9,r7 (by omega)]
  have hst':St w0 S0 w (L.set j (qi (.slice a n c) T enc sz (xs.take q.toNat++List.replicate ys.length z))):=by
   rw [hxs];have hlj:=(zes.1 hj)
   rw [show L.set j (qi (.slice a n c) T enc sz xs)=L from by
    obtain ⟨h5,h6⟩:=hlj;rw [<- h6,List.set_getElem_self]]
   exact hst
  refine OW.opn (v:=.tuple #[]) hl hg rfl (w':=w) (λb hb=> ?_) (h _ hst');have e1:=hb.look hx;rw [hy] at e1;cases hshd:shd a c q.toNat sz with
  |none=>rw [hshd] at e1;simp [execOp,resolve,invoke,builtin,e1,Builtin.clear_,ha1,run_underlying ht]
  |some a'=>rw [hshd] at e1;simp [execOp,resolve,invoke,builtin,e1,Builtin.clear_,ha1,run_underlying ht]
 |succ k=>
  rcases hr.2 with ⟨hz0,_⟩|⟨g,o,cap,cur,hv,hp,hgc,hnc,hm,hcs,htake⟩
  ·omega
  ·simp only [Value.slice.injEq] at hv;obtain ⟨rfl,rfl,rfl⟩:=hv;have hcq:¬ c=q.toNat:=by omega
   have eshd:shd (some ⟨g,o,none⟩) c q.toNat sz=some ⟨g,o+q.toNat*sz,none⟩:=by simp [shd,hcq,Addr.add]
   cases hzv:aj P (zeroValue e) with
   |none=>rw [hzv] at hz;cases hz
   |some zv=>
    rw [hzv] at hz;have hzc:zv.cells.toList=enc z:=by simpa using hz
    have hvs:=ng (enc:=enc) hzc (k+1)
    let vs:=jQ enc (List.replicate (k+1) z)
    have hvl:vs.length=(k+1)*sz:=by
     have:=qP he (List.replicate (k+1) z)
     simpa using this
    have hsum:q.toNat*sz+(k+1)*sz=xs.length*sz:=by rw [<- u4];congr 1;omega
    have hcap:xs.length*sz<=c*sz:=o9 _ hnc;have hfit:o+q.toNat*sz+vs.length<=cur.size:=by omega
    have hst2:=run_storeCells_at (P:=P) g (o+q.toNat*sz) T vs 0 cur w hgc (by simpa using hfit) (eB (Hm h1 _));refine OW.opn (v:=.tuple #[]) hl hg rfl (w':=w.setRow g (qG cur.toList vs (o+q.toNat*sz)).toArray) (λb hb=> ?_) (h _ ?_)
    ·have e1:=hb.look hx;rw [hy,eshd] at e1;have hz':=qV hzv w;have h3:(storeCells ⟨g,o+q.toNat*sz,none⟩ vs).run P w=.ok () (w.setRow g (qG cur.toList vs (o+q.toNat*sz)).toArray):=by grind [qG]
     have h4:(Builtin.zeroCells zv.cells (k+1)).toList=vs:=hvs;simp [execOp,resolve,invoke,builtin,e1,Builtin.clear_,ha1,run_underlying ht,hz',h4,h3]
    ·have hlen:(qG cur.toList vs (o+q.toNat*sz)).length=cur.size:=by simp [qG] at hfit |-;omega
     refine hst.upd j hj ⟨rfl,rfl,rfl,by simp [World.setRow],λk' _ hn=>setRow_other w g k' _ (by grind [qi,xL])⟩ ?_ (λk' hk'=>.inl hk') vj;have hl2:(xs.take q.toNat++List.replicate ys.length z).length=xs.length:=by simp;omega
     show dJ (w.setRow g _) T sz _ _ _;rw [hl2];refine ⟨by grind [qP],.inr ⟨g,o,c,_,rfl,hp,setRow_heap w g cur _ T _ hgc,hnc,hm,by grind,?_⟩⟩;simp only;rw [cJ (by omega) (by omega) (by grind),htake,show o+q.toNat*sz-o=q.toNat*sz by omega]
     grind [ii,mI,qG,qP]
end
end Go.Sx
