/- Lemmas. -/
import Derived.Test.YtplmgfkghomelaaGreatDoorEng
set_option linter.unusedVariables false
set_option linter.unusedSimpArgs false
namespace Go.Sx
section
section
open Go.RowKit
abbrev SpS:=List (Nat×Value×List (Nat×Bool))
def rW:SpS->Nat->Option (Value×List (Nat×Bool))
 |[],_=>none
 |p::r,n=>match Nat.beq p.1 n with
  |true=>some p.2
  |false=>rW r n
def slk(S:SpS)(fr:Fr):Operand->Option (Value×List (Nat×Bool))
 |.tmp t=>match rW S t with
  |some e=>some e
  |none=>match kH fr t with
   |some v=>some (v,[])
   |none=>none
 |.const v=>some (v,[])
 |.global g=>some (.pointer (some ⟨g,0,none⟩),[])
 |.func f=>some (.func (.func f) #[] #[],[])
def JX(p:Nat×Bool):List (Nat×Bool)->Bool
 |[]=>false
 |q::r=>match Nat.beq q.1 p.1,q.2==p.2 with
  |true,true=>true
  |_,_=>JX p r
def iy:List (Nat×Bool)->List (Nat×Bool)->Bool
 |[],_=>true
 |p::r,B=>match JX p B with
  |true=>iy r B
  |false=>false
theorem AY{p:Nat×Bool}:∀{B:List (Nat×Bool)},JX p B=true->p∈B
 |[],h=>by cases h
 |q::r,h=>by
  unfold JX at h;split at h
  ·rename_i h1 h2
   have e1:=u6 h1
   grind
  ·exact zcm _ (AY h)
theorem gB:∀{A B:List (Nat×Bool)},iy A B=true->∀p∈A,p∈B
 |[],_,_,p,hp=>by cases hp
 |q::r,B,h,p,hp=>by
  unfold iy at h;split at h
  ·rename_i h1
   rcases j4.1 hp with rfl|hp
   ·exact AY h1
   ·exact gB h p hp
  ·cases h
def HC(l:List Oper)(S:SpS)(o:Oper):Option (List (Nat×Bool)):=match o.guard with
 |none=>some []
 |some (j,b)=>match (vo l j).bind (·.dst) with
  |some d=>match rW S d with
   |some (.bool _,ls)=>some ((d,b)::ls)
   |_=>none
  |none=>none
def Qy(S:SpS)(fr:Fr)(x:Operand):Value:=match slk S fr x with
 |some e=>e.1
 |none=>undef
def JY(S:SpS)(fr:Fr)(Ls:List (Nat×Bool)):List Operand->Bool
 |[]=>true
 |x::r=>match slk S fr x with
  |some e=>match iy e.2 Ls with
   |true=>JY S fr Ls r
   |false=>false
  |none=>false
def Da{α:Type}:List (Nat×α)->Nat->Option α
 |[],_=>none
 |p::r,n=>match Nat.beq p.1 n with
  |true=>some p.2
  |false=>Da r n
def Qz(P:Program)(lv:List (Nat×Pn))(pk:List (Nat×Bool))(i:Nat)(S:SpS)(fr:Fr)(Ls:List (Nat×Bool))(o:Oper):Option (Value×List (Value×Value)):=match o.op with
 |.pick (.tmp c) x y=>match Da pk i with
  |some true=>match slk S fr (.tmp c),slk S fr x,slk S fr y with
   |some (.bool g,lc),some (.bool true,la),some (.bool b,lb)=>match iy lc Ls,iy la ((c,true)::Ls),iy lb ((c,false)::Ls) with
    |true,true,true=>some (.bool (g||b),[])
    |_,_,_=>none
   |_,_,_=>none
  |some false=>match slk S fr (.tmp c),slk S fr x,slk S fr y with
   |some (.bool g,lc),some (.bool a,la),some (.bool false,lb)=>match iy lc Ls,iy la ((c,true)::Ls),iy lb ((c,false)::Ls) with
    |true,true,true=>some (.bool (g&&a),[])
    |_,_,_=>none
   |_,_,_=>none
  |none=>none
 |.load t x=>match Da lv i,slk S fr x with
  |some (.c a v),some (p,la)=>match iy la Ls,aX P (isAgg t) with
   |true,some false=>some (v,[(p,.pointer (some a))])
   |_,_=>none
  |some (.n b k cs),some (p,la)=>match iy la Ls,aX P (isAgg t),aX P (sizeOf t) with
   |true,some true,some m=>match Nat.beq m cs.length with
    |true=>some (.agg cs.toArray,[(p,.pointer (some ⟨b,k,none⟩))])
    |false=>none
   |_,_,_=>none
  |_,_=>none
 |_=>match aF o.op,JY S fr Ls o.op.operands.toList with
  |true,true=>match aX P (execOp (Qy S fr) o) with
   |some (.value v)=>some (v,[])
   |_=>none
  |_,_=>none
def sJ(P:Program)(l:List Oper)(N:Nat)(lv:List (Nat×Pn))(pk:List (Nat×Bool))(fr:Fr):Nat->Nat->SpS->List (Value×Value)->Option (SpS×List (Value×Value))
 |0,_,S,E=>some (S,E)
 |n+1,i,S,E=>match vo l i with
  |none=>none
  |some o=>match o.dst,HC l S o with
   |some d,some Ls=>match Nat.blt d N,rW S d with
    |true,none=>match Qz P lv pk i S fr Ls o with
     |some (v,e)=>sJ P l N lv pk fr n (i+1) ((d,v,Ls)::S) (e++E)
     |none=>none
    |_,_=>none
   |_,_=>none
def Hd(S:SpS)(Ls:List (Nat×Bool)):Prop:=∀p∈Ls,∃ls,rW S p.1=some (.bool p.2,ls)
structure SpI (N:Nat) (S:SpS) (fr:Fr) (a:Act):Prop where
 size:a.tmps.size=N
 defers:a.defers=[]
 on:∀t v Ls,rW S t=some (v,Ls)->(Hd S Ls->a.tmps[t]? =some v)/\(¬ Hd S Ls->a.tmps[t]? =some undef)
 off:∀t v,rW S t=none->kH fr t=some v->a.tmps[t]? =some v
 closed:∀t v Ls,rW S t=some (v,Ls)->∀p∈Ls,∃u,rW S p.1=some u
theorem Hd.sub{S:SpS}{A B:List (Nat×Bool)}(h:Hd S B)(hs:iy A B=true):Hd S A:=λp hp=>h p (gB hs p hp)
section
variable {P:Program} {l:List Oper} {N:Nat} {lv:List (Nat×Pn)} {pk:List (Nat×Bool)} {fr:Fr} {S:SpS} {Ls:List (Nat×Bool)} {a:Act} {o:Oper} {i:Nat} {w:World}
theorem SpI.lk(h:SpI N S fr a){x:Operand}{v:Value}{la:List (Nat×Bool)}(hx:slk S fr x=some (v,la))(hl:Hd S la):a.eval x=v:=by
 cases x with
 |tmp t=>
  simp only [slk] at hx
  have:a.tmps[t]? =some v:=by
   split at hx
   ·rename_i e he
    cases hx
    exact (h.on t v la he).1 hl
   ·rename_i he
    split at hx
    ·rename_i u hu;cases hx;exact h.off t v he hu
    ·cases hx
  simp [Act.eval,yi,this]
 |const u=>simp only [slk] at hx;cases hx;rfl
 |global g=>simp only [slk] at hx;cases hx;rfl
 |func f=>simp only [slk] at hx;cases hx;rfl
theorem AZ:∀{xs:List Operand},JY S fr Ls xs=true->∀x∈xs,∃e,slk S fr x=some e/\iy e.2 Ls=true
 |[],_,x,hx=>by cases hx
 |y::r,h,x,hx=>by
  unfold JY at h;split at h
  ·rename_i e he
   split at h
   ·rename_i hs
    rcases j4.1 hx with rfl|hx
    ·exact ⟨e,he,hs⟩
    ·exact AZ h x hx
   ·cases h
  ·cases h
theorem SpI.want(h:SpI N S fr a)(hg:HC l S o=some Ls):(Hd S Ls->Region.wanted o (yielded l.toArray a.tmps)=true)/\(¬ Hd S Ls->Region.wanted o (yielded l.toArray a.tmps)=false):=by
 unfold HC at hg;unfold Region.wanted;split at hg
 ·rename_i hn
  cases hg
  rw [hn];exact ⟨λ_=>rfl,λk=>absurd (λp hp=>by cases hp) k⟩
 ·rename_i j b hn
  rw [hn];split at hg
  ·rename_i d hd
   split at hg
   ·rename_i g ls hs
    cases hg
    have hon:=h.on d _ _ hs;constructor
    ·intro k;have k2:Hd S ls:=λp hp=>k p (zcm _ hp)
     obtain ⟨ls',h1⟩:=k (d,b) zcs;rw [hs] at h1;cases h1;simp only [yielded,dL,hd,zbs,hon.1 k2];cases b<;>rfl
    ·intro k;by_cases k2:Hd S ls
     ·have hgb:g≠b:=λe=>k (λp hp=>by
       rcases j4.1 hp with rfl|hp
       ·grind
       ·exact k2 p hp)
      simp only [yielded,dL,hd,zbs,hon.1 k2]
      grind
     ·simp only [yielded,dL,hd,zbs,hon.2 k2];cases b<;>rfl
   ·cases hg
  ·cases hg
theorem SpI.val(h:SpI N S fr a){v:Value}{E:List (Value×Value)}(hv:Qz P lv pk i S fr Ls o=some (v,E))(hE:∀p∈E,p.1=p.2)(hl:∀i e,Da lv i=some e->e.Φ w)(hk:Hd S Ls):(execOp a.eval o).run P w=.ok (.value v) w:=by
 unfold Qz at hv;split at hv
 ·rename_i c x y ho
  split at hv
  split at hv
  ·rename_i g lc la b lb h1 h2 h3
   split at hv
   ·rename_i s1 s2 s3
    cases hv
    have e1:=h.lk h1 (hk.sub s1);simp only [execOp,ho,e1,asBool];cases g with
    |true=>
     have hc:Hd S ((c,true)::Ls)\/Hd S la:=.inr (λp hp=>by
      rcases j4.1 (gB s2 p hp) with rfl|hp2
      ·cases hsc:rW S c with
       |none=>
        exfalso
        cases x with
        |tmp t=>
         simp only [slk] at h2;split at h2
         ·rename_i e he;cases h2;obtain ⟨u,hu⟩:=h.closed t _ _ he _ hp;rw [hsc] at hu;cases hu
         ·split at h2<;>cases h2;cases hp
        |const u=>simp only [slk] at h2;cases h2;cases hp
        |global g=>simp only [slk] at h2;cases h2
        |func f=>simp only [slk] at h2;cases h2
       |some u=>
        simp only [slk,hsc] at h1;cases h1;exact ⟨_,rfl⟩
      ·exact hk p hp2)
     have e2:=h.lk h2 (hc.elim (λk=>k.sub s2) id);simp [e2]
    |false=>
     have e3:=h.lk h3 (λp hp=>by
      rcases j4.1 (gB s3 p hp) with rfl|hp2
      ·cases hsc:rW S c with
       |none=>
        exfalso
        cases y with
        |tmp t=>
         simp only [slk] at h3;split at h3
         ·rename_i e he;cases h3;obtain ⟨u,hu⟩:=h.closed t _ _ he _ hp;rw [hsc] at hu;cases hu
         ·split at h3<;>cases h3;cases hp
        |const u=>simp only [slk] at h3;cases h3;cases hp
        |global g=>simp only [slk] at h3;cases h3
        |func f=>simp only [slk] at h3;cases h3
       |some u=>
        simp only [slk,hsc] at h1;cases h1;exact ⟨_,rfl⟩
      ·exact hk p hp2)
     simp [e3]
   ·cases hv
  ·cases hv
  split at hv
  ·rename_i g lc a' la lb h1 h2 h3
   split at hv
   ·rename_i s1 s2 s3
    cases hv
    have e1:=h.lk h1 (hk.sub s1);simp only [execOp,ho,e1,asBool];cases g with
    |true=>
     have e2:=h.lk h2 (λp hp=>by
      rcases j4.1 (gB s2 p hp) with rfl|hp2
      ·cases hsc:rW S c with
       |none=>
        exfalso
        cases x with
        |tmp t=>
         simp only [slk] at h2;split at h2
         ·rename_i e he;cases h2;obtain ⟨u,hu⟩:=h.closed t _ _ he _ hp;rw [hsc] at hu;cases hu
         ·split at h2<;>cases h2;cases hp
        |const u=>simp only [slk] at h2;cases h2;cases hp
        |global g=>simp only [slk] at h2;cases h2
        |func f=>simp only [slk] at h2;cases h2
       |some u=>
        simp only [slk,hsc] at h1;cases h1;exact ⟨_,rfl⟩
      ·exact hk p hp2)
     simp [e2]
    |false=>
     have e3:=h.lk h3 (λp hp=>by
      rcases j4.1 (gB s3 p hp) with rfl|hp2
      ·cases hsc:rW S c with
       |none=>
        exfalso
        cases y with
        |tmp t=>
         simp only [slk] at h3;split at h3
         ·rename_i e he;cases h3;obtain ⟨u,hu⟩:=h.closed t _ _ he _ hp;rw [hsc] at hu;cases hu
         ·split at h3<;>cases h3;cases hp
        |const u=>simp only [slk] at h3;cases h3;cases hp
        |global g=>simp only [slk] at h3;cases h3
        |func f=>simp only [slk] at h3;cases h3
       |some u=>
        simp only [slk,hsc] at h1;cases h1;exact ⟨_,rfl⟩
      ·exact hk p hp2)
     simp [e3]
   ·cases hv
  ·cases hv
  cases hv
 ·rename_i t x ho
  split at hv
  ·rename_i ad u p la h1 h2
   split at hv
   ·rename_i s1 hA
    cases hv
    have e1:=h.lk h2 (hk.sub s1);have e2:=hE _ zcs;simp only at e2;have h3:=mE (P:=P) (w:=w) hA (hl i _ h1);simp only [execOp,ho];rw [e1,e2];simp [h3]
   ·cases hv
  ·rename_i b k cs p la h1 h2
   split at hv
   ·rename_i m s1 hA hz
    split at hv
    ·rename_i hm
     cases hv
     have hm:=u6 hm;subst hm;have e1:=h.lk h2 (hk.sub s1);have e2:=hE _ zcs;simp only at e2;have h3:=pf (P:=P) (w:=w) hA hz (hl i _ h1);simp only [execOp,ho];rw [e1,e2];simp [h3]
    ·cases hv
   ·cases hv
  ·cases hv
 ·split at hv
  ·rename_i hs ho
   split at hv
   ·rename_i u hu
    cases hv
    rw [iG (ρ':=Qy S fr) hs (λx hx=> ?_)]
    ·exact qZ hu w
    ·obtain ⟨e,he,hs2⟩:=AZ ho x hx;rw [h.lk (v:=e.1) (la:=e.2) he (hk.sub hs2)];simp [Qy,he]
   ·cases hv
  ·cases hv
theorem lT{d t:Nat}{e:Value×List (Nat×Bool)}:rW ((d,e)::S) t=if d=t then some e else rW S t:=by
 simp only [rW];cases h:Nat.beq d t with
 |true=>rw [d7 (u6 h)]
 |false=>rw [d8 (p6 h)]
theorem SpI.put(h:SpI N S fr a){d:Nat}{v u:Value}(hd:Nat.blt d N=true)(hn:rW S d=none)(hg:HC l S o=some Ls)(h1:Hd S Ls->u=v)(h2:¬ Hd S Ls->u=undef):SpI N ((d,v,Ls)::S) fr (a.put (some d) u):=by
 have hd':d<N:=by simpa [w7] using hd
 have hcl:∀p∈Ls,∃z,rW S p.1=some z:=by
  unfold HC at hg;split at hg
  ·grind
  ·split at hg
   ·split at hg
    ·rename_i d' _ g ls hs
     cases hg
     intro p hp;rcases j4.1 hp with rfl|hp
     ·exact ⟨_,hs⟩
     ·exact h.closed _ _ _ hs p hp
    ·cases hg
   ·cases hg
 have hH:∀Ls',(∀p∈Ls',∃z,rW S p.1=some z)->(Hd ((d,v,Ls)::S) Ls'↔Hd S Ls'):=by
  intro Ls' hc
  have:∀p∈Ls',rW ((d,v,Ls)::S) p.1=rW S p.1:=by
   grind [lT]
  exact ⟨λk p hp=>by rw [<- this p hp];exact k p hp,λk p hp=>by rw [this p hp];exact k p hp⟩
 refine ⟨by simp [Act.put,h.size],by simp [Act.put,h.defers],λt v' Ls' ht=> ?_,λt v' ht hf=> ?_,λt v' Ls' ht p hp=> ?_⟩
 ·rw [lT] at ht;by_cases e:d=t
  ·subst e;rw [d7 rfl] at ht;cases ht;have hx:(a.put (some d) u).tmps[d]? =some u:=by simp [Act.put,h.size,hd']
   grind
  ·rw [d8 e] at ht;have hx:(a.put (some d) u).tmps[t]? =a.tmps[t]? :=by simp only [Act.put];exact Array.getElem?_setIfInBounds_ne e
   rw [hx];have hc:=h.closed t v' Ls' ht;exact ⟨λk=>(h.on t v' Ls' ht).1 ((hH Ls' hc).1 k),λk=>(h.on t v' Ls' ht).2 (λq=>k ((hH Ls' hc).2 q))⟩
 ·rw [lT] at ht;by_cases e:d=t
  ·grind
  ·rw [d8 e] at ht;have hx:(a.put (some d) u).tmps[t]? =a.tmps[t]? :=by simp only [Act.put];exact Array.getElem?_setIfInBounds_ne e
   rw [hx];exact h.off t v' ht hf
 ·have hex:∃z,rW S p.1=some z:=by
   rw [lT] at ht;by_cases e:d=t
   ·grind
   ·rw [d8 e] at ht;exact h.closed t v' Ls' ht p hp
  grind [lT]
theorem OV(G:Nat->Act->Prop)(hl:∀i e,Da lv i=some e->e.Φ w)
  (step:∀i a o,vo l i=some o->(Region.wanted o (yielded l.toArray a.tmps)=true->∀v d,o.dst=some d->(execOp a.eval o).run P w=.ok (.value v) w->G (i+1) (a.put (some d) v)->G i a)/\
   (Region.wanted o (yielded l.toArray a.tmps)=false->∀d,o.dst=some d->G (i+1) (a.put (some d) undef)->G i a)):
  ∀(n i:Nat)(S:SpS)(E:List (Value×Value)){S2:SpS}{E2:List (Value×Value)}{a:Act},sJ P l N lv pk fr n i S E=some (S2,E2)->(∀p∈E2,p.1=p.2)->SpI N S fr a->(∀a',SpI N S2 fr a'->G (i+n) a')->G i a:=by
 have hmono:∀(n i:Nat)(S:SpS)(E:List (Value×Value)){S2:SpS}{E2:List (Value×Value)},sJ P l N lv pk fr n i S E=some (S2,E2)->∀p∈E,p∈E2:=by
  intro n
  induction n with
  |zero=>intro i S E S2 E2 h p hp;simp only [sJ,i5,m9] at h;rw [<- h.2];exact hp
  |succ n ih=>
   intro i S E S2 E2 h p hp;unfold sJ at h;split at h
   ·cases h
   ·split at h
    ·split at h
     ·split at h
      ·exact ih _ _ _ h p (zar _ hp)
      ·cases h
     ·cases h
    ·cases h
 intro n
 induction n with
 |zero=>intro i S E S2 E2 a h _ hI k;simp only [sJ,i5,m9] at h;exact k a (by grind)
 |succ n ih=>
  intro i S E S2 E2 a h hE hI k;have h0:=h;unfold sJ at h;split at h
  ·cases h
  ·rename_i o ho
   split at h
   ·rename_i d Ls hd hg
    split at h
    ·rename_i hN hn
     split at h
     ·rename_i v e hv
      have hEe:∀p∈e,p.1=p.2:=λp hp=>hE p (hmono _ _ _ _ h p (zal _ hp))
      obtain ⟨s1,s2⟩:=step i a o ho;by_cases hk:Hd S Ls
      ·refine s1 ((hI.want hg).1 hk) v d hd (hI.val hv hEe hl hk) (ih _ _ _ h hE (hI.put hN hn hg (λ_=>rfl) (λq=>absurd hk q)) ?_)
       grind
      ·refine s2 ((hI.want hg).2 hk) d hd (ih _ _ _ h hE (hI.put hN hn hg (λq=>absurd q hk) (λ_=>rfl)) ?_)
       grind
     ·cases h
    ·cases h
   ·cases h
def sK(S:SpS)(fr:Fr):List Nat->Bool
 |[]=>true
 |q::r=>(match rW S q with
  |some (_,[])=>true
  |some _=>false
  |none=>match kH fr q with
   |some _=>true
   |none=>false)&&sK S fr r
def JZ(S:SpS)(fr:Fr):List Nat->Fr
 |[]=>[]
 |q::r=>(q,match rW S q with
  |some (v,_)=>v
  |none=>(kH fr q).getD undef)::JZ S fr r
theorem SpI.rep(h:SpI N S fr a):∀{live:List Nat},sK S fr live=true->Rep N (JZ S fr live) a
 |[],_=>⟨h.size,h.defers,λi v hi=>by cases hi⟩
 |q::r,hl=>by
  unfold sK at hl;rw [zae] at hl;have ih:=h.rep hl.2;refine {h with get:=λi v hi=> ?_};simp only [JZ] at hi;rw [bF] at hi;split at hi
  ·rename_i e
   subst e;have h1:=hl.1;split at h1
   ·rename_i u he
    rw [he] at hi;cases hi;exact (h.on q _ _ he).1 (λp hp=>by cases hp)
   ·cases h1
   ·rename_i he
    split at h1
    ·rename_i u hu
     rw [he,hu] at hi;cases hi;exact h.off q _ he hu
    ·cases h1
  ·exact ih.get i v hi
theorem SpI.init(ha:Rep N fr a):SpI N [] fr a:=⟨ha.size,ha.defers,λt v Ls h=>(by cases h),λt v _ hf=>ha.get t v hf,λt v Ls h=>(by cases h)⟩
end
structure LvR (one many:List (Nat×LH)) (Fs:List Fa) (L:List Item) (w0:World) (Z:List Nat) (lv:List (Nat×Pn)):Prop where
 o:∀w,bP w0 Z Fs->St w0 Z w L->∀p∈lv,p.2.Φ w
section
variable {ρ:Type} {h:LH} {hs hs':List H} {f:Option ρ} {r:ρ} {Fs Fs':List Fa} {L L':List Item} {fr:Fr} {P:Program} {B:Func} {N:Nat} {w0:World} {Z:List Nat} {c x y:Code} {Q:Exit->Act->World->Prop} {l:List Oper} {i:Nat} {e:Exit} {v:Value} {one many:List (Nat×LH)} {lv:List (Nat×Pn)}
theorem LvR.nil:LvR [] [] Fs L w0 Z []:=⟨λ_ _ _ p hp=>by cases hp⟩
theorem LvR.c1{j:Nat}{a:Addr}(h1:Cel Fs L w0 Z h a v)(n:LvR one many Fs L w0 Z lv):LvR ((j,h)::one) many Fs L w0 Z ((j,.c a v)::lv):=⟨λw al s p hp=>by
 rcases j4.1 hp with rfl|hp
 ·exact h1.o w al s
 ·exact n.o w al s p hp⟩
theorem sL{α:Type}:∀{xs:List (Nat×α)} {n:Nat} {x:α},Da xs n=some x->∃p∈xs,p.2=x
 |[],_,_,h=>by cases h
 |p::r,n,x,h=>by
  unfold Da at h;split at h
  ·grind
  ·obtain ⟨q,hq,e⟩:=sL h;exact ⟨q,zcm _ hq,e⟩
def spS(P:Program)(l:List Oper)(N:Nat)(lv:List (Nat×Pn))(pk:List (Nat×Bool))(fr:Fr):SpS:=match sJ P l N lv pk fr l.length 0 [] [] with
 |some p=>p.1
 |none=>[]
def spE(P:Program)(l:List Oper)(N:Nat)(lv:List (Nat×Pn))(pk:List (Nat×Bool))(fr:Fr):Option (List (Value×Value)):=match sJ P l N lv pk fr l.length 0 [] [] with
 |some p=>some p.2
 |none=>none
theorem sM:∀{E:List (Value×Value)},E.map (·.1)=E.map (·.2)->∀p∈E,p.1=p.2
 |[],_,p,hp=>by cases hp
 |q::r,h,p,hp=>by
  simp only [yl,List.cons.injEq] at h;rcases j4.1 hp with rfl|hp
  ·exact h.1
  ·exact sM h.2 p hp
theorem GC.sc{id:Nat}{live:List Nat}{pk:List (Nat×Bool)}(hl:LvR one many Fs L w0 Z lv)(he:KR (spE P l N lv pk fr).isSome true)(hE:KR (((spE P l N lv pk fr).getD []).map (·.1)) (((spE P l N lv pk fr).getD []).map (·.2)))(hv:KR (sK (spS P l N lv pk fr) fr live) true)
  (n:GQ hs f r Fs L (JZ (spS P l N lv pk fr) fr live) P B N w0 Z .normal Q):GC (.sc live one many pk::hs) f r Fs L fr P B N w0 Z (.region id l.toArray false) Q:=⟨λw a s e=>by
 refine f8 λb hb=> ?_
 have h1:=he.h;have h2:=sM hE.h;have h3:=hv.h;have h4:=n.o w a s e;unfold spE at h1 h2;unfold spS at h3 h4;cases hr:sJ P l N lv pk fr l.length 0 [] [] with
 |none=>rw [hr] at h1;cases h1
 |some p=>
  rw [hr] at h2 h3 h4
  have key:=OV (P:=P) (l:=l) (N:=N) (lv:=lv) (pk:=pk) (fr:=fr) (w:=w) (λi a=>wpList P l.toArray Q (l.drop i) a w)
   (λi e hi=>by obtain ⟨q,hq,rfl⟩:=sL hi;exact hl.o w a s q hq)
   (λi a o ho=>⟨λhw v d hd hrun k=>by
     show wpList P l.toArray Q (l.drop i) a w;rw [ba ho];refine wpList_step (λK hK=> ?_);rw [d7 hw];unfold Oper.wp;rw [hrun,Oper.upon_value,hd];exact hK _ _ k,
    λhw d hd k=>by
     show wpList P l.toArray Q (l.drop i) a w;rw [ba ho];refine wpList_step (λK hK=> ?_);rw [hw,hd];exact hK _ _ k⟩) l.length 0 [] [] (a:=b) hr h2 (SpI.init hb) (λa' hI=>by
    have h5:=h4 a' (hI.rep h3)
    have h6:=f7 (P:=P) (l:=l) (N:=N) (Q:=Q) (i:=l.length) (fr:=JZ p.1 fr live) (w:=w) (by
     cases hh:vo l l.length with
     |none=>rfl
     |some o=>exact absurd (pT hh) (by omega)) h4 a' (hI.rep h3)
    simpa using h6)
  exact key⟩
theorem GC.scS{id:Nat}{live:List Nat}{pk:List (Nat×Bool)}(hm:KR (P.follows .mixedOrders) true)(hB:KR (Region.lexB .any l.toArray) true)(hl:LvR one many Fs L w0 Z lv)(he:KR (spE P l N lv pk fr).isSome true)(hE:KR (((spE P l N lv pk fr).getD []).map (·.1)) (((spE P l N lv pk fr).getD []).map (·.2)))(hv:KR (sK (spS P l N lv pk fr) fr live) true)
  (n:GQ hs f r Fs L (JZ (spS P l N lv pk fr) fr live) P B N w0 Z .normal Q):GC (.sc live one many pk::hs) f r Fs L fr P B N w0 Z (.region id l.toArray true) Q:=⟨λw a s e=>by
 refine CW.still hm.h hB.h λw1 hc1 b hb=> ?_
 have s1:=s.same hc1;have h1:=he.h;have h2:=sM hE.h;have h3:=hv.h;have h4:=n.o w1 a s1 e;unfold spE at h1 h2;unfold spS at h3 h4;cases hr:sJ P l N lv pk fr l.length 0 [] [] with
 |none=>rw [hr] at h1;cases h1
 |some p=>
  rw [hr] at h2 h3 h4
  have key:=OV (P:=P) (l:=l) (N:=N) (lv:=lv) (pk:=pk) (fr:=fr) (w:=w1) (λi a=>wpStill P l.toArray w1 (λa'=>Q .normal a' w1) ((l.take l.length).drop i) a)
   (λi e hi=>by obtain ⟨q,hq,rfl⟩:=sL hi;exact hl.o w1 a s1 q hq)
   (λi a o ho=>⟨λhw v d hd hrun k=>by
     show wpStill P l.toArray w1 _ ((l.take l.length).drop i) a;rw [sB (c:=l.length) ho (by have:=pT ho;simp [w7,this])];refine wpStill_step (λK hK=> ?_);rw [d7 hw];unfold Oper.still;rw [hrun,Oper.stillUpon_value,hd];exact hK _ k,
    λhw d hd k=>by
     show wpStill P l.toArray w1 _ ((l.take l.length).drop i) a;rw [sB (c:=l.length) ho (by have:=pT ho;simp [w7,this])];refine wpStill_step (λK hK=> ?_);rw [hw,hd];exact hK _ k⟩) l.length 0 [] [] (a:=b) hr h2 (SpI.init hb) (λa' hI=>by
    have h6:=OS.fin (P:=P) (l:=l) (N:=N) (Q:=Q) (c:=l.length) (i:=l.length) (fr:=JZ p.1 fr live) (w:=w1) (by simp) h4 a' (hI.rep h3)
    simpa using h6)
  exact key⟩
theorem GC.scB{id:Nat}{arr:Array Oper}{live:List Nat}{pk:List (Nat×Bool)}(hR:KR arr (rS B id).toArray)(hl:LvR one many Fs L w0 Z lv)(he:KR (spE P (rS B id) N lv pk fr).isSome true)(hE:KR (((spE P (rS B id) N lv pk fr).getD []).map (·.1)) (((spE P (rS B id) N lv pk fr).getD []).map (·.2)))(hv:KR (sK (spS P (rS B id) N lv pk fr) fr live) true)
 (n:GQ hs f r Fs L (JZ (spS P (rS B id) N lv pk fr) fr live) P B N w0 Z .normal Q):GC (.sc live one many pk::hs) f r Fs L fr P B N w0 Z (.region id arr false) Q:=by have:=hR.h;subst this;exact GC.sc hl he hE hv n
theorem GC.scC{id:Nat}{arr:Array Oper}{live:List Nat}{pk:List (Nat×Bool)}(hR:KR arr (rS B id).toArray)(hm:KR (P.follows .mixedOrders) true)(hB:KR (Region.lexB .any (rS B id).toArray) true)(hl:LvR one many Fs L w0 Z lv)(he:KR (spE P (rS B id) N lv pk fr).isSome true)(hE:KR (((spE P (rS B id) N lv pk fr).getD []).map (·.1)) (((spE P (rS B id) N lv pk fr).getD []).map (·.2)))(hv:KR (sK (spS P (rS B id) N lv pk fr) fr live) true)
 (n:GQ hs f r Fs L (JZ (spS P (rS B id) N lv pk fr) fr live) P B N w0 Z .normal Q):GC (.sc live one many pk::hs) f r Fs L fr P B N w0 Z (.region id arr true) Q:=by have:=hR.h;subst this;exact GC.scS hm hB hl he hE hv n
end
open Go.RowKit
section
variable {h:LH} {Fs Fs':List Fa} {L L':List Item} {fr:Fr} {P:Program} {B:Func} {N:Nat} {w0:World} {Z:List Nat} {l:List Oper} {i:Nat} {v:Value}
theorem LkV.of{o:Oper}(ho:okO l N fr i=some o)(hs:aF o.op=true)(hr:bP w0 Z Fs->∀a w,Rep N fr a->(execOp a.eval o).run P w=.ok (.value v) w):LkV Fs fr P B N w0 Z h l i v:=by
 obtain ⟨d,hl,hg,hd,hN⟩:=jM ho;exact ⟨o,d,hl,hg,hd,hN,hs,λa w b hb=>hr a b w hb⟩
def J0:BinOp->Bool|.quo=>true|_=>false
def J1:BinOp->Bool|.rem=>true|_=>false
def J2:BinOp->Bool|.shl=>true|_=>false
def J3:BinOp->Bool|.shr=>true|_=>false
theorem J4{o:BinOp}(h:J0 o=true):o=.quo:=by cases o<;>first|rfl|cases h
theorem J5{o:BinOp}(h:J1 o=true):o=.rem:=by cases o<;>first|rfl|cases h
theorem J6{o:BinOp}(h:J2 o=true):o=.shl:=by cases o<;>first|rfl|cases h
theorem J7{o:BinOp}(h:J3 o=true):o=.shr:=by cases o<;>first|rfl|cases h
def biC(sel:BinOp->Bool)(l:List Oper)(N:Nat)(fr:Fr)(i:Nat):Option (IntKind×Int×IntKind×Int):=match okO l N fr i with
 |some ⟨_,.binOp op _ x y _,_,_,_,_⟩=>match sel op,look fr x,look fr y with
  |true,some (.int k a),some (.int k2 b)=>some (k,a,k2,b)
  |_,_,_=>none
 |_=>none
theorem rX{sel:BinOp->Bool}{p:IntKind×Int×IntKind×Int}(h:biC sel l N fr i=some p):∃d op t x y t2 ty pos af g,okO l N fr i=some ⟨d,.binOp op t x y t2,ty,pos,af,g⟩/\sel op=true/\look fr x=some (.int p.1 p.2.1)/\look fr y=some (.int p.2.2.1 p.2.2.2):=by
 unfold biC at h;split at h
 ·rename_i ho
  split at h
  ·rename_i h1 h2 h3
   cases h
   exact ⟨_,_,_,_,_,_,_,_,_,_,ho,h1,h2,h3⟩
  ·cases h
 ·cases h
def biV(p:Option (IntKind×Int×IntKind×Int))(g:IntKind->Int->Int->Int):Value:=match p with
 |some (k,a,_,b)=>.int k (g k a b)
 |none=>undef
theorem LkV.qu{q:Nat}{b:Int}{u:Unit}(hq:nth Fs q=some (.oe (nz b) u))(hc:KR ((biC J0 l N fr i).map λp=>(p.2.2.2,decide (p.1=p.2.2.1))) (some (b,true))):LkV Fs fr P B N w0 Z (.qu q) l i (biV (biC J0 l N fr i) λk a b=>k.wrap (a.tdiv b)):=by
 have hc:=hc.h;cases hb:biC J0 l N fr i with
 |none=>rw [hb] at hc;cases hc
 |some p=>
  obtain ⟨k,a,k2,b'⟩:=p;rw [hb] at hc;simp only [u5,i5,m9,zdq] at hc;obtain ⟨rfl,rfl⟩:=hc;obtain ⟨d,op,t,x,y,t2,ty,pos,af,g,ho,hs,hx,hy⟩:=rX hb;have:=J4 hs;subst this;refine LkV.of ho rfl λal r w hr=> ?_
  have hz:b'≠0:=P6 (zC al hq);have e1:=hr.look hx;have e2:=hr.look hy;simp only at e1 e2;simp [execOp,eqGuard,binOp,e1,e2,Op.intDiv,hz,biV]
theorem LkV.re{q:Nat}{b:Int}{u:Unit}(hq:nth Fs q=some (.oe (nz b) u))(hc:KR ((biC J1 l N fr i).map λp=>(p.2.2.2,decide (p.1=p.2.2.1))) (some (b,true))):LkV Fs fr P B N w0 Z (.re q) l i (biV (biC J1 l N fr i) λk a b=>a.tmod b):=by
 have hc:=hc.h;cases hb:biC J1 l N fr i with
 |none=>rw [hb] at hc;cases hc
 |some p=>
  obtain ⟨k,a,k2,b'⟩:=p;rw [hb] at hc;simp only [u5,i5,m9,zdq] at hc;obtain ⟨rfl,rfl⟩:=hc;obtain ⟨d,op,t,x,y,t2,ty,pos,af,g,ho,hs,hx,hy⟩:=rX hb;have:=J5 hs;subst this;refine LkV.of ho rfl λal r w hr=> ?_
  have hz:b'≠0:=P6 (zC al hq);have e1:=hr.look hx;have e2:=hr.look hy;simp only at e1 e2;simp [execOp,eqGuard,binOp,e1,e2,Op.intDiv,hz,biV]
theorem LkV.hl{q:Nat}{b:Int}{u:Unit}(hq:nth Fs q=some (.oe (nn b) u))(hc:KR ((biC J2 l N fr i).map λp=>p.2.2.2) (some b)):LkV Fs fr P B N w0 Z (.hl q) l i (biV (biC J2 l N fr i) λk a b=>wm k a b):=by
 have hc:=hc.h;cases hb:biC J2 l N fr i with
 |none=>rw [hb] at hc;cases hc
 |some p=>
  obtain ⟨k,a,k2,b'⟩:=p;rw [hb] at hc;simp only [u5,i5] at hc;subst hc;obtain ⟨d,op,t,x,y,t2,ty,pos,af,g,ho,hs,hx,hy⟩:=rX hb;have:=J6 hs;subst this;exact LkV.of ho rfl λal r w hr=>Oa rfl hx hy (P8 (zC al hq)) r w hr
theorem LkV.hr{q:Nat}{b:Int}{u:Unit}(hq:nth Fs q=some (.oe (nn b) u))(hc:KR ((biC J3 l N fr i).map λp=>p.2.2.2) (some b)):LkV Fs fr P B N w0 Z (.hr q) l i (biV (biC J3 l N fr i) λk a b=>iI k a b):=by
 have hc:=hc.h;cases hb:biC J3 l N fr i with
 |none=>rw [hb] at hc;cases hc
 |some p=>
  obtain ⟨k,a,k2,b'⟩:=p;rw [hb] at hc;simp only [u5,i5] at hc;subst hc;obtain ⟨d,op,t,x,y,t2,ty,pos,af,g,ho,hs,hx,hy⟩:=rX hb;have:=J7 hs;subst this;exact LkV.of ho rfl λal r w hr=>Ob rfl hx hy (P8 (zC al hq)) r w hr
def siC(P:Program)(l:List Oper)(N:Nat)(fr:Fr)(i:Nat):Option (ByteArray×Int):=match okO l N fr i with
 |some ⟨_,.index t x y,_,_,_,_⟩=>match P.underlying t,look fr x,look fr y with
  |some .string,some (.string s),some (.int _ q)=>some (s,q)
  |_,_,_=>none
 |_=>none
theorem LkV.si{q:Nat}{s:ByteArray}{t c:Int}(hq:nth Fs q=some (.oe (uo s t) c))(hc:KR (siC P l N fr i) (some (s,t))):LkV Fs fr P B N w0 Z (.si q) l i (.int .u8 c):=by
 have hc:=hc.h;unfold siC at hc;split at hc
 ·rename_i ho
  split at hc
  ·rename_i h1 h2 h3
   cases hc
   exact LkV.of ho rfl λal r w hr=>Lu rfl h2 h3 h1 (zC al hq) r w hr
  ·cases hc
 ·cases hc
def J8:BinOp->Bool|.eql=>true|_=>false
def J9:BinOp->Bool|.neq=>true|_=>false
theorem Ka{o:BinOp}(h:J8 o=true):o=.eql:=by cases o<;>first|rfl|cases h
theorem Kb{o:BinOp}(h:J9 o=true):o=.neq:=by cases o<;>first|rfl|cases h
def seC(sel:BinOp->Bool)(P:Program)(l:List Oper)(N:Nat)(fr:Fr)(i:Nat):Option Bool:=match okO l N fr i with
 |some ⟨_,.binOp op t x y _,_,_,_,_⟩=>match sel op,look fr x,look fr y,P.eqGuardType P.depth t with
  |true,some (.agg xs),some (.agg ys),false=>GJ P 9 t (.agg xs) (.agg ys)
  |_,_,_,_=>none
 |_=>none
theorem LkV.sq(hc:KR (seC J8 P l N fr i).isSome true):LkV Fs fr P B N w0 Z .sq l i (.bool ((seC J8 P l N fr i).getD false)):=by
 have hc:=hc.h;cases hb:seC J8 P l N fr i with
 |none=>rw [hb] at hc;cases hc
 |some r=>
  unfold seC at hb;split at hb
  ·rename_i ho
   split at hb
   ·rename_i h1 h2 h3 h4
    have:=Ka h1;subst this;exact LkV.of ho rfl λal a w hr=>N8 rfl h2 h3 h4 hb a w hr
   ·cases hb
  ·cases hb
theorem LkV.sn(hc:KR (seC J9 P l N fr i).isSome true):LkV Fs fr P B N w0 Z .sn l i (.bool (!(seC J9 P l N fr i).getD false)):=by
 have hc:=hc.h;cases hb:seC J9 P l N fr i with
 |none=>rw [hb] at hc;cases hc
 |some r=>
  unfold seC at hb;split at hb
  ·rename_i ho
   split at hb
   ·rename_i h1 h2 h3 h4
    have:=Kb h1;subst this;exact LkV.of ho rfl λal a w hr=>Lw rfl h2 h3 h4 hb a w hr
   ·cases hb
  ·cases hb
def adC(l:List Oper)(N:Nat)(fr:Fr)(i:Nat):Option (FuncId×Int×Int×Int):=match okO l N fr i with
 |some ⟨_,.call ⟨.value (.func f),⟨[x,y,z]⟩,⟨_⟩⟩,_,_,_,_⟩=>match look fr x,look fr y,look fr z with
  |some (.int .u64 p),some (.int .u64 q),some (.int .u64 c)=>some (f,p,q,c)
  |_,_,_=>none
 |_=>none
def adF(P:Program)(p:Option (FuncId×Int×Int×Int)):Option Func:=match p with
 |some (f,_)=>P.funcs[f]?
 |none=>none
theorem LkV.ad {q:Nat} {p1 p2 p3:Int} {x:Int×Int} (hq:nth Fs q=some (.oe (FY p1 p2 p3) x)) (hc:KR ((adC l N fr i).map (·.2)) (some (p1,p2,p3))) (h1:KR ((adF P (adC l N fr i)).map fun fn=>(fn.name== "runtime.NumGoroutine",fn.body.isNone)) (some (false,true)))
  (h3:KR ((adF P (adC l N fr i)).bind λfn=>some (Extern.findNext fn)) (some none)) (h4:KR ((adF P (adC l N fr i)).bind λfn=>Extern.find fn) (some add64Entry)):LkV Fs fr P B N w0 Z (.ad q) l i (.tuple [.int .u64 x.1,.int .u64 x.2].toArray):=by
 have hc:=hc.h;have h1:=h1.h;have h3:=h3.h;have h4:=h4.h;cases hb:adC l N fr i with
 |none=>rw [hb] at hc;cases hc
 |some p=>
  obtain ⟨f,a,b,c⟩:=p;rw [hb] at hc h1 h3 h4;simp only [u5,i5,m9] at hc;obtain ⟨rfl,rfl,rfl⟩:=hc;simp only [adF] at h1 h3 h4;cases hf:P.funcs[f]? with
  |none=>rw [hf] at h1;cases h1
  |some fn=>
   rw [hf] at h1 h3 h4;simp only [u5,i5,m9] at h1;simp only [zbs,i5] at h3 h4;unfold adC at hb;split at hb
   ·rename_i ho
    split at hb
    ·rename_i g1 g2 g3
     cases hb
     exact LkV.of ho rfl λal r w hr=>Hw (u:=x.1) (v:=x.2) rfl g1 g2 g3 hf h1.1 h1.2 h3 h4 (zC al hq) r w hr
    ·cases hb
   ·cases hb
def cpC(P:Program)(l:List Oper)(N:Nat)(fr:Fr)(i:Nat):Option (Value×Option Int×Option Int×Nat):=match okO l N fr i with
 |some ⟨_,.slice t x lo hi none,_,_,_,_⟩=>match P.underlying t,look fr x with
  |some (.slice e),some v=>match aX P (sizeOf e) with
   |some sz=>match lo,hi with
    |none,some y=>match look fr y with
     |some (.int _ q)=>some (v,none,some q,sz)
     |_=>none
    |some y,none=>match look fr y with
     |some (.int _ q)=>some (v,some q,none,sz)
     |_=>none
    |some y,some z=>match look fr y,look fr z with
     |some (.int _ q),some (.int _ r)=>some (v,some q,some r,sz)
     |_,_=>none
    |none,none=>none
   |none=>none
  |_,_=>none
 |_=>none
theorem LkV.cp{α:Type}{e q sz n c:Nat}{a:Option Addr}{enc:α->List Value}{xs ys:List α}{hi:Int}(he:nth Fs e=some (.rd (.slice a n c) enc sz xs))(hq:nth Fs q=some (.oe (cut xs 0 hi) ys))(hc:KR (cpC P l N fr i) (some (.slice a n c,none,some hi,sz))):
  LkV Fs fr P B N w0 Z (.cp e q) l i (.slice a ys.length c):=by
 have hc:=hc.h;unfold cpC at hc;split at hc
 ·rename_i ho
  split at hc
  ·rename_i h1 h2
   split at hc
   ·rename_i hz
    split at hc
    ·split at hc
     ·rename_i h3
      cases hc
      exact LkV.of ho rfl λal r w hr=>uf sz rfl h2 h3 (zC al hq) (Rd.cap (zC al he)) h1 hz r w hr
     ·cases hc
    ·split at hc<;>cases hc
    ·split at hc<;>cases hc
    ·cases hc
   ·cases hc
  ·cases hc
 ·cases hc
theorem LkV.cu{α:Type}{e q sz n c:Nat}{a:Option Addr}{enc:α->List Value}{xs ys:List α}{lo hi:Int}(he:nth Fs e=some (.rd (.slice a n c) enc sz xs))(hq:nth Fs q=some (.oe (cut xs lo hi) ys))(hc:KR (cpC P l N fr i) (some (.slice a n c,some lo,some hi,sz))):
  LkV Fs fr P B N w0 Z (.cu e q) l i (.slice (shd a c lo.toNat sz) ys.length (c-lo.toNat)):=by
 have hc:=hc.h;unfold cpC at hc;split at hc
 ·rename_i ho
  split at hc
  ·rename_i h1 h2
   split at hc
   ·rename_i hz
    split at hc
    ·split at hc<;>cases hc
    ·split at hc<;>cases hc
    ·split at hc
     ·rename_i h3 h4
      cases hc
      exact LkV.of ho rfl λal r w hr=>Eg sz rfl h2 h3 h4 (zC al hq) (Rd.cap (zC al he)) h1 hz r w hr
     ·cases hc
    ·cases hc
   ·cases hc
  ·cases hc
 ·cases hc
theorem LkV.cf{α:Type}{e q sz n c:Nat}{a:Option Addr}{enc:α->List Value}{xs ys:List α}{lo:Int}(he:nth Fs e=some (.rd (.slice a n c) enc sz xs))(hq:nth Fs q=some (.oe (cut xs lo ((xs.length:Nat):Int)) ys))(hn:KR n xs.length)(hc:KR (cpC P l N fr i) (some (.slice a n c,some lo,none,sz))):
  LkV Fs fr P B N w0 Z (.cf e q) l i (.slice (shd a c lo.toNat sz) ys.length (c-lo.toNat)):=by
 have hc:=hc.h;unfold cpC at hc;split at hc
 ·rename_i ho
  split at hc
  ·rename_i h1 h2
   split at hc
   ·rename_i hz
    split at hc
    ·split at hc<;>cases hc
    ·split at hc
     ·rename_i h3
      cases hc
      exact LkV.of ho rfl λal r w hr=>fY sz rfl h2 hn.h h3 (zC al hq) h1 hz r w hr
     ·cases hc
    ·split at hc<;>cases hc
    ·cases hc
   ·cases hc
  ·cases hc
 ·cases hc
theorem Adm.fp{α:Type}{e q sz n c:Nat}{a:Option Addr}{enc:α->List Value}{xs ys:List α}{hi:Int}{Fs1:List Fa}(he:nth Fs e=some (.rd (.slice a n c) enc sz xs))(hq:nth Fs q=some (.oe (cut xs 0 hi) ys))(hF:vq Fs (.rd (.slice a ys.length c) enc sz ys)=some Fs1):
 Adm (.fp e q) Fs L (λ_:Unit=>L) (λ_=>Fs1):=⟨λw0 Z w al s=>⟨(),s,jC (F:=.rd (.slice a ys.length c) enc sz ys) al (Rd.pre (zC al he) (zC al hq)) hF⟩⟩
theorem Adm.fu{α:Type}{e q sz n c:Nat}{a:Option Addr}{enc:α->List Value}{xs ys:List α}{lo hi:Int}{Fs1:List Fa}(he:nth Fs e=some (.rd (.slice a n c) enc sz xs))(hq:nth Fs q=some (.oe (cut xs lo hi) ys))(hF:vq Fs (.rd (.slice (shd a c lo.toNat sz) ys.length (c-lo.toNat)) enc sz ys)=some Fs1):
 Adm (.fu e q) Fs L (λ_:Unit=>L) (λ_=>Fs1):=⟨λw0 Z w al s=>⟨(),s,jC (F:=.rd (.slice (shd a c lo.toNat sz) ys.length (c-lo.toNat)) enc sz ys) al (Rd.part (zC al he) (zC al hq)) hF⟩⟩
end
open Go.RowKit
variable {sz:Nat} {α:Type} {o m j:Nat} {T:TypeId} {enc:α->List Value}
section
variable {ρ:Type} {h:LH} {hs hs':List H} {f:Option ρ} {r:ρ} {Fs Fs':List Fa} {L L':List Item} {fr:Fr} {P:Program} {B:Func} {N:Nat} {w0:World} {Z:List Nat} {l:List Oper} {i:Nat} {v:Value} {Q:Exit->Act->World->Prop}
def aiC(P:Program)(l:List Oper)(N:Nat)(fr:Fr)(i:Nat):Option (Addr×Int×Nat×Nat):=match okO l N fr i with
 |some ⟨_,.indexAddr t x y,_,_,_,_⟩=>match P.underlying t,look fr x,look fr y with
  |some (.array n e),some (.pointer (some a)),some (.int _ q)=>match aX P (sizeOf e) with
   |some sz=>some (a,q,n,sz)
   |none=>none
  |_,_,_=>none
 |_=>none
def aiV(p:Option (Addr×Int×Nat×Nat)):Value:=match p with
 |some (⟨b,k,none⟩,q,_,sz)=>.pointer (some ⟨b,k+q.toNat*sz,none⟩)
 |_=>undef
def aiN(p:Option (Addr×Int×Nat×Nat)):Option (Int×Nat):=match p with
 |some (⟨_,_,none⟩,q,n,_)=>some (q,n)
 |_=>none
def inB(p:Option (Int×Nat)):Bool:=match p with
 |some (q,n)=>decide (0<=q/\q<(n:Int))
 |none=>false
theorem Kc{a:Addr}{q:Int}{n:Nat}(h:aiC P l N fr i=some (a,q,n,sz)):∃d t x y ty pos af g e kd,okO l N fr i=some ⟨d,.indexAddr t x y,ty,pos,af,g⟩/\P.underlying t=some (.array n e)/\look fr x=some (.pointer (some a))/\look fr y=some (.int kd q)/\aX P (sizeOf e)=some sz:=by
 grind [aiC]
theorem LkV.aiG(hh:bP w0 Z Fs->inB (aiN (aiC P l N fr i))=true)(hn:∃p,aiN (aiC P l N fr i)=some p):LkV Fs fr P B N w0 Z h l i (aiV (aiC P l N fr i)):=by
 obtain ⟨p,hp⟩:=hn;cases hb:aiC P l N fr i with
 |none=>rw [hb] at hp;cases hp
 |some w=>
  obtain ⟨⟨b,k,s⟩,q,n,sz⟩:=w;rw [hb] at hh hp;cases s with
  |some _=>cases hp
  |none=>
   obtain ⟨d,t,x,y,ty,pos,af,g,e,kd,ho,h1,h2,h3,h4⟩:=Kc hb;refine LkV.of ho rfl λal=> ?_
   have hi:=hh al;simp only [aiN,inB,zdq] at hi;exact Lv _ _ rfl h2 h3 hi.1 hi.2 h1 h4
theorem LkV.al(hc:KR (inB (aiN (aiC P l N fr i))) true):LkV Fs fr P B N w0 Z .al l i (aiV (aiC P l N fr i)):=LkV.aiG (λ_=>hc.h) (by
 have:=hc.h;cases e:aiN (aiC P l N fr i) with
 |none=>rw [e] at this;cases this
 |some p=>exact ⟨p,rfl⟩)
theorem LkV.af{q n x:Nat}{t:Int}(hq:nth Fs q=some (.oe (ain n t) x))(hc:KR (aiN (aiC P l N fr i)) (some (t,n))):LkV Fs fr P B N w0 Z (.af q) l i (aiV (aiC P l N fr i)):=LkV.aiG (λal=>by
 rw [hc.h];obtain ⟨h1,h2,_⟩:=wu (zC al hq);simp [inB,h1,h2]) ⟨_,hc.h⟩
theorem LkV.at{α:Type}{q g o:Nat}{v':Value}{xs:List α}{t:Int}{x:α}(hq:nth Fs q=some (.el v' g o t xs x))(hc:KR (aiN (aiC P l N fr i)) (some (t,xs.length))):LkV Fs fr P B N w0 Z (.at q) l i (aiV (aiC P l N fr i)):=LkV.aiG (λal=>by
 rw [hc.h];obtain ⟨h1,_⟩:=zC al hq
 grind [zT,inB]) ⟨_,hc.h⟩
theorem QA{w:World}{Z:List Nat}{b c:Nat}{xs:List α}{t:Int}{x:α}(h:Rd w Z (.slice (some ⟨b,o,none⟩) m c) enc sz xs)(hx:idx xs t=some x):(Fa.el (.slice (some ⟨b,o,none⟩) m c) b o t xs x).ok w Z:=by
 refine ⟨hx,c,?_⟩
 grind [Rd.len]
theorem GO.bt{α:Type}{e b o m c sz:Nat}{enc:α->List Value}{xs:List α}{t:Int}{k:α->Option ρ}{Fs1:α->List Fa}(he:nth Fs e=some (.rd (.slice (some ⟨b,o,none⟩) m c) enc sz xs))(hF:∀x,vq Fs (.el (.slice (some ⟨b,o,none⟩) m c) b o t xs x)=some (Fs1 x))
  (n:∀x,GO hs (k x) r (Fs1 x) L fr P B N w0 Z l i Q):GO (.bt e::hs) ((idx xs t).bind k) r Fs L fr P B N w0 Z l i Q:=⟨λw a s q=>by
 obtain ⟨x,hx,hk⟩:=zM q;exact (n x).o w (jC (F:=.el (.slice (some ⟨b,o,none⟩) m c) b o t xs x) a (QA (zC a he) hx) (hF x)) s hk⟩
def nzC(P:Program)(l:List Oper)(N:Nat)(fr:Fr)(i:Nat):Option (Option Addr):=match okO l N fr i with
 |some ⟨_,.binOp .eql t x y _,_,_,_,_⟩=>match P.underlying t,look fr x,look fr y with
  |some (.slice _),some (.slice a _ _),some (.slice none 0 0)=>some a
  |_,_,_=>none
 |_=>none
def nzV(p:Option (Option Addr)):Value:=match p with
 |some a=>.bool a.isNone
 |none=>undef
theorem LkV.nz(hc:KR (nzC P l N fr i).isSome true):LkV Fs fr P B N w0 Z .nz l i (nzV (nzC P l N fr i)):=by
 have hc:=hc.h;cases hb:nzC P l N fr i with
 |none=>rw [hb] at hc;cases hc
 |some a=>
  unfold nzC at hb;split at hb
  ·rename_i ho
   split at hb
   ·rename_i h1 h2 h3
    cases hb
    exact LkV.of ho rfl λal=>Aw rfl h2 h3 h1
   ·cases hb
  ·cases hb
theorem GC.nb{α:Type}{e m c sz:Nat}{a:Option Addr}{enc:α->List Value}{xs:List α}{φ:List α->Option ρ}{q:Operand}{x y:Code}{hs1 hs2:List H}(he:nth Fs e=some (.rd (.slice a m c) enc sz xs))(hφ:f=φ xs)(hp:KR (Nat.blt 0 sz) true)(hz:∀x,KR (enc x).length sz)
  (hc:KR (look fr q) (some (.bool a.isNone))) (n1:GC hs1 (φ []) r Fs L fr P B N w0 Z x Q) (n2:GC hs2 f r Fs L fr P B N w0 Z y Q):GC (.nb e hs1 hs2::hs) f r Fs L fr P B N w0 Z (.cond q x y) Q:=⟨λw al s g=>by
 rcases zft a.isNone with h|h
 ·have hn:xs=[]:=Rd.isnil (zC al he) (λx=>by
   have h1:=(hz x).h;have h2:0<sz:=by have:=hp.h;simpa [w7] using this
   grind) h
  rw [hφ,hn] at g;exact p7 hc.h h (n1.o w al s g)
 ·exact q8 hc.h h (n2.o w al s g)⟩
def asC(P:Program)(l:List Oper)(N:Nat)(fr:Fr)(i:Nat):Option (Nat×Nat×Nat×Option Int×Option Int×Nat):=match okO l N fr i with
 |some ⟨_,.slice t x lo hi none,_,_,_,_⟩=>match P.underlying t,look fr x with
  |some (.array n e),some (.pointer (some ⟨b,k,none⟩))=>match aX P (sizeOf e) with
   |some sz=>match lo,hi with
    |none,none=>some (b,k,n,none,none,sz)
    |none,some y=>match look fr y with
     |some (.int _ q)=>some (b,k,n,none,some q,sz)
     |_=>none
    |some y,some z=>match look fr y,look fr z with
     |some (.int _ q),some (.int _ r)=>some (b,k,n,some q,some r,sz)
     |_,_=>none
    |some _,none=>none
   |none=>none
  |_,_=>none
 |_=>none
def asB(p:Option (Nat×Nat×Nat×Option Int×Option Int×Nat)):Option (Nat×Option Int×Option Int):=p.map λq=>(q.2.2.1,q.2.2.2.1,q.2.2.2.2.1)
def asV(p:Option (Nat×Nat×Nat×Option Int×Option Int×Nat))(m:Nat):Value:=match p with
 |some (b,k,n,none,none,_)=>.slice (some ⟨b,k,none⟩) n n
 |some (b,k,n,none,some _,_)=>.slice (some ⟨b,k,none⟩) m n
 |some (b,k,n,some lo,some _,sz)=>.slice (shd (some ⟨b,k,none⟩) n lo.toNat sz) m (n-lo.toNat)
 |_=>undef
theorem LkV.sG{p:Nat×Nat×Nat×Option Int×Option Int×Nat}(hp:asC P l N fr i=some p)
  (hh:bP w0 Z Fs->p.2.2.2.2.1≠none->∃(α:Type)(xs ys:List α),xs.length=p.2.2.1/\cut xs (p.2.2.2.1.getD 0) (p.2.2.2.2.1.getD 0)=some ys/\ys.length=m):LkV Fs fr P B N w0 Z h l i (asV (some p) m):=by
 unfold asC at hp;split at hp
 ·rename_i ho
  split at hp
  ·rename_i h1 h2
   split at hp
   ·rename_i hz
    split at hp
    ·cases hp
     exact LkV.of ho rfl λal=>MM _ rfl h2 h1 hz
    ·split at hp
     ·rename_i h3
      cases hp
      refine LkV.of ho rfl λal=> ?_
      obtain ⟨α,xs,ys,e1,e2,rfl⟩:=hh al (by simp);exact MO _ rfl h2 h3 e1 e2 h1 hz
     ·cases hp
    ·split at hp
     ·rename_i h3 h4
      cases hp
      refine LkV.of ho rfl λal=> ?_
      obtain ⟨α,xs,ys,e1,e2,rfl⟩:=hh al (by simp);exact MN _ rfl h2 h3 h4 e1 e2 h1 hz
     ·cases hp
    ·cases hp
   ·cases hp
  ·cases hp
 ·cases hp
theorem EP{p:Option (Nat×Nat×Nat×Option Int×Option Int×Nat)}{a:Nat×Option Int×Option Int}(h:asB p=some a):∃q,p=some q/\q.2.2.1=a.1/\q.2.2.2.1=a.2.1/\q.2.2.2.2.1=a.2.2:=by
 cases p with
 |none=>cases h
 |some q=>cases h;exact ⟨q,rfl,rfl,rfl,rfl⟩
theorem LkV.sA(hc:KR ((asB (asC P l N fr i)).map (·.2)) (some (none,none))):LkV Fs fr P B N w0 Z .sA l i (asV (asC P l N fr i) 0):=by
 have hc:=hc.h;cases hb:asB (asC P l N fr i) with
 |none=>rw [hb] at hc;cases hc
 |some a=>
  grind [EP,LkV.sG]
theorem LkV.sU{α:Type}{q:Nat}{xs ys:List α}{lo hi:Int}(hq:nth Fs q=some (.oe (cut xs lo hi) ys))(hc:KR (asB (asC P l N fr i)) (some (xs.length,some lo,some hi))):LkV Fs fr P B N w0 Z (.sU q) l i (asV (asC P l N fr i) ys.length):=by
 obtain ⟨p,e1,e2,e3,e4⟩:=EP hc.h;rw [e1];exact LkV.sG e1 λal _=>⟨α,xs,ys,e2.symm,by rw [e3,e4];exact zC al hq,rfl⟩
theorem Giv.ru{α:Type}{j k0 n b q sz:Nat}{T:TypeId}{cs:List Value}{enc:α->List Value}{a:Nat->α}{lo hi:Int}{ys:List α}{js:List Nat}{src:List Src}{Fin:List Fa}(hq:nth Fs q=some (.oe (cut (Hv n a) lo hi) ys))(hj:nth L j=some (jS b T cs))(hcs:KR cs (cs.take k0++(eQ enc n a++cs.drop (k0+n*sz))))(hk:KR (Nat.ble k0 cs.length) true)
  (hz:∀x,KR (enc x).length sz) (hn:KR (Nat.ble n 9223372036854775807) true) (hm:KR (mem? j js) false) (m:Giv src Fs L js Fin):Giv (.ru j k0 q::src) Fs L js (.rd (.slice (shd (some ⟨b,k0,none⟩) n lo.toNat sz) ys.length (n-lo.toNat)) enc sz ys::Fin):=
 ⟨λw0 Z w al s=>⟨Rd.part (s.arrRd j (by rw [<- zO];exact hj) enc (λx=>(hz x).h) n a k0 hcs.h hk.h hn.h js hm.h) (zC al hq),m.g w0 Z w al s⟩⟩
structure CF (Fs:List Fa) (L:List Item) (w0:World) (Z:List Nat) (c:Cs) (b o:Nat) (cs:List Value):Prop where
 o:∀w,bP w0 Z Fs->St w0 Z w L->∀k u,cs[k]? =some u->w.cell? ⟨b,o+k,none⟩=some u
theorem CF.o1{b:Nat}{cs:List Value}(hj:nth L j=some (jS b T cs)):CF Fs L w0 Z (.o j) b 0 cs:=⟨λw _ s k u hu=>by
 rw [yh];exact s.blk j (by rw [<- zO];exact hj) hu⟩
theorem CF.p1{b:Nat}{A cs C:List Value}(hj:nth L j=some (du b T A cs C)):CF Fs L w0 Z (.p j) b A.length cs:=⟨λw _ s k u hu=>s.prt j (by rw [<- zO];exact hj) k hu⟩
theorem CF.r1{q g:Nat}{v':Value}{xs xs':List α}{t:Int}{x:α}(he:nth L j=some (qo v' T enc sz xs'))(hq:nth Fs q=some (.el v' g o t xs x))(hxx:KR xs' xs)(hz:∀x,KR (enc x).length sz):CF Fs L w0 Z (.r j q) g (o+t.toNat*sz) (enc x):=
 ⟨λw a s k u hu=>by
  have he:=he;rw [hxx.h] at he;obtain ⟨h1,c,h2⟩:=zC a hq;exact s.rowc j (by rw [<- zO];exact he) (λx=>(hz x).h) h1 h2 k u hu⟩
theorem CF.b1{e b:Nat}{cs:List Value}(he:nth Fs e=some (.pb b cs)):CF Fs L w0 Z (.b e) b 0 cs:=⟨λw a s k u hu=>by
 rw [yh];exact RdB.cell (zC a he) s k hu⟩
structure Kd (A B:List Value):Prop where
 e:A=B
theorem Kd.nil:Kd [] []:=⟨rfl⟩
theorem Kd.u{A B:List Value}{u:Value}(n:Kd A B):Kd (u::A) (u::B):=⟨by rw [n.e]⟩
theorem Giv.bj{j b:Nat}{T:TypeId}{cs cs':List Value}{js:List Nat}{src:List Src}{Fin:List Fa}(hj:nth L j=some (jS b T cs))(hV:Kd cs cs')(hm:KR (mem? j js) false)(m:Giv src Fs L js Fin):Giv (.bj j::src) Fs L js (.pb b cs'::Fin):=
 ⟨λw0 Z w al s=>⟨by
  rw [<- hV.e];exact s.rdB j (by rw [<- zO];exact hj) js hm.h,m.g w0 Z w al s⟩⟩
theorem Giv.bq{e b:Nat}{u u':Value}{cr cr':List Value}{js:List Nat}{src:List Src}{Fin:List Fa}(he:nth Fs e=some (.pb b (u::cr)))(hV:Kd (u::cr) (u'::cr'))(m:Giv src Fs L js Fin):Giv (.bq e::src) Fs L js (.pb b (u'::cr')::Fin):=
 ⟨λw0 Z w al s=>⟨by
  have h:RdB w0 Z b (u::cr):=zC al he;have:=h.give s js;rw [hV.e] at this;exact this,m.g w0 Z w al s⟩⟩
theorem Cel.cc{c:Cs}{b o k:Nat}{cs:List Value}(hC:CF Fs L w0 Z c b o cs)(hv:nth cs k=some v):Cel Fs L w0 Z (.cc c k) ⟨b,o+k,none⟩ v:=⟨λw a s=>hC.o w a s k v (by grind [zO])⟩
theorem rh.cN{c:Cs}{b o k n:Nat}{cs us:List Value}(hC:CF Fs L w0 Z c b o cs)(hv:Hy cs k n=some us):rh Fs L w0 Z (.cN c k n) b (o+k) us:=⟨λw a s j u hj=>by
 rw [yr];exact hC.o w a s (k+j) u ((gr hv).2 j u hj)⟩
theorem CF.arr{c:Cs}{b e k0 n x:Nat}{cs:List Value}{a:Nat->α}{t:Int}(hC:CF Fs L w0 Z c b o cs)(hq:nth Fs e=some (.oe (ain n t) x))
  (hcs:KR cs (cs.take k0++(eQ enc n a++cs.drop (k0+n*sz)))) (hk:KR (Nat.ble k0 cs.length) true) (hz:∀x,KR (enc x).length sz):CF Fs L w0 Z c b (o+k0+t.toNat*sz) (enc (a x)):=
 ⟨λw al s k u hu=>EL (λf u hf=>hC.o w al s f u hf) enc (λx=>(hz x).h) n a k0 hcs.h hk.h (zC al hq) k u hu⟩
theorem Cel.ca{α:Type}{c:Cs}{b o e k0 ff n sz x:Nat}{enc:α->List Value}{cs:List Value}{a:Nat->α}{t:Int}{u:Value}(hC:CF Fs L w0 Z c b o cs)(hq:nth Fs e=some (.oe (ain n t) x))(hu:nth cs k0=some u)(ha:nth (enc (a 0)) 0=some u)
  (hcs:KR cs (cs.take k0++(eQ enc n a++cs.drop (k0+n*sz)))) (hk:KR (Nat.ble k0 cs.length) true) (hz:∀x,KR (enc x).length sz) (hv:nth (enc (a x)) ff=some v):Cel Fs L w0 Z (.ca c e k0 ff sz enc) ⟨b,o+k0+t.toNat*sz+ff,none⟩ v:=
 ⟨λw al s=>(CF.arr hC hq hcs hk hz).o w al s ff v (by grind [zO])⟩
theorem rh.cA{α:Type}{c:Cs}{b o e k0 ff n m sz x:Nat}{enc:α->List Value}{cs us:List Value}{a:Nat->α}{t:Int}{u:Value}(hC:CF Fs L w0 Z c b o cs)(hq:nth Fs e=some (.oe (ain n t) x))(hu:nth cs k0=some u)(ha:nth (enc (a 0)) 0=some u)
  (hcs:KR cs (cs.take k0++(eQ enc n a++cs.drop (k0+n*sz)))) (hk:KR (Nat.ble k0 cs.length) true) (hz:∀x,KR (enc x).length sz) (hv:Hy (enc (a x)) ff m=some us):rh Fs L w0 Z (.cA c e k0 ff m sz enc) b (o+k0+t.toNat*sz+ff) us:=
 ⟨λw al s j u hj=>by
  rw [yr];exact (CF.arr hC hq hcs hk hz).o w al s (ff+j) u ((gr hv).2 j u hj)⟩
def OX{α:Type}(enc:α->List Value):Nat->(Nat->α)->List Value->Option (List Value)
 |0,_,C=>some C
 |n+1,a,C=>match OX enc n (λi=>a (i+1)) C with
  |some q=>lD (enc (a 0)) q
  |none=>none
theorem Db{α:Type}{enc:α->List Value}:∀{n:Nat} {a:Nat->α} {C q:List Value},OX enc n a C=some q->q=eQ enc n a++C
 |0,_,_,_,h=>by cases h;rfl
 |n+1,a,C,q,h=>by
  unfold OX at h;split at h
  ·rename_i e
   rw [bY h,Db e,eQ,o4]
  ·cases h
def HD{α:Type}:List α->Nat->Option (List α)
 |l,0=>some l
 |[],_+1=>none
 |_::r,n+1=>HD r n
theorem wz{α:Type}:∀{l q:List α} {n:Nat},HD l n=some q->q=l.drop n
 |l,q,0,h=>by cases l<;>(cases h;rfl)
 |[],_,_+1,h=>by cases h
 |_::r,q,n+1,h=>by rw [List.drop_succ_cons];exact wz h
theorem wA{α:Type}:∀{l q:List α} {n:Nat},uz l n=some q->q=l.take n
 |l,q,0,h=>by cases l<;>(cases h;rfl)
 |[],_,_+1,h=>by cases h
 |x::r,q,n+1,h=>by
  unfold uz at h;split at h
  ·rename_i e;cases h;rw [List.take_succ_cons,wA e]
  ·cases h
theorem kP{k:Nat}{b:Nat}{us:List Value}(hc:stC P l fr i m=some ⟨b,k,none⟩)(hw:ga (stV l fr i)=some us)(hm:us.length=m):
  ∃t x y ty pos af g u,vo l i=some ⟨none,.store t x y,ty,pos,af,g⟩/\gd l fr ⟨none,.store t x y,ty,pos,af,g⟩=some true/\look fr x=some (.pointer (some ⟨b,k,none⟩))/\look fr y=some u/\u.cells.toList=us/\aX P (sizeOf t)=some u.cells.toList.length:=by
 obtain ⟨u,hu,hcs⟩:=lQ hw;unfold stC at hc;unfold stV at hu;split at hc
 ·rename_i t x' y' ty pos af g hl
  rw [hl] at hu;simp only at hu;split at hc
  ·rename_i a' m' hg hx hz
   split at hc
   ·rename_i hb
    have e1:=u6 hb
    grind
   ·cases hc
  ·cases hc
 ·cases hc
theorem GO.sa{α:Type}{j e k0 ff m n sz b x:Nat}{enc:α->List Value}{dec:List Value->α}{T:TypeId}{cs us cs1 A C q cs':List Value}{a:Nat->α}{t:Int}{u:Value}{L1:List Item}(hj:nth L j=some (jS b T cs))(hq:nth Fs e=some (.oe (ain n t) x))
  (hu:nth cs k0=some u) (ha:nth (enc (a 0)) 0=some u) (hcs:KR cs (cs.take k0++(eQ enc n a++cs.drop (k0+n*sz)))) (hk:KR (Nat.ble k0 cs.length) true) (hz:∀x,KR (enc x).length sz)
  (hv:wx (stV l fr i) 0 m=some us) (hw:KR (ga (stV l fr i)) (some us)) (hs':eX (enc (a x)) us ff=some cs1) (hd:KR (enc (dec cs1)) cs1) (hc:KR (stC P l fr i m) (some ⟨b,k0+t.toNat*sz+ff,none⟩))
  (hm:KR us.length m) (h1:KR (dG us) true) (h0:KR (FZ us) true) (hA:uz cs k0=some A) (hC:HD cs (k0+n*sz)=some C) (hN:OX enc n (aset a x (dec cs1)) C=some q) (hQ:lD A q=some cs')
  (hL:dH L j (jS b T cs')=some L1) (n:GO hs f r Fs L1 fr P B N w0 Z l (i+1) Q):GO (.sa j e k0 ff m sz enc dec::hs) f r Fs L fr P B N w0 Z l i Q:=⟨λw al s e=>by
 obtain ⟨t,x',y',ty,pos,af,g,v,hl,hg,hx,hy,hcv,hsz⟩:=kP hc.h hw.h hm.h;obtain ⟨e3,e4⟩:=bH hs' (by intro e5;have:=h0.h;rw [e5] at this;cases this);rw [<- hcv] at e3 e4
 refine OW.stA s j (by rw [<- zO];exact hj) hl hg hx hy hsz (by rw [hcv];exact h1.h) enc (λx=>(hz x).h) _ a k0 hcs.h hk.h (zC al hq) ff rfl (v9 (by rw [<- (hz (a _)).h];exact e4)) (dec cs1) (by rw [e3,hd.h]) cs'
  (by grind [bY,Db,wA,wz]) λw' s'=> ?_
 exact n.o w' al (by grind [qH]) e⟩
theorem GO.sra{α:Type}{j q e ff m cn sz sze g o x:Nat}{enc:α->List Value}{dec:List Value->α}{ence:(Nat->α)->List Value}{T:TypeId}{v':Value}{xs xs':List (Nat->α)}{tt t:Int}{z:Nat->α}{us cs1:List Value}{L1:List Item}
  (he:nth L j=some (qo v' T ence sze xs')) (hq:nth Fs q=some (.el v' g o tt xs z)) (hxx:KR xs' xs) (hi:nth Fs e=some (.oe (ain cn t) x)) (hE:∀y,KR (ence y) (eQ enc cn y)) (hze:∀y,KR (ence y).length sze) (hz:∀x,KR (enc x).length sz)
  (hv:wx (stV l fr i) 0 m=some us) (hw:KR (ga (stV l fr i)) (some us)) (hs':eX (enc (z x)) us ff=some cs1) (hd:KR (enc (dec cs1)) cs1) (hc:KR (stC P l fr i m) (some ⟨g,o+tt.toNat*sze+0+t.toNat*sz+ff,none⟩))
  (hm:KR us.length m) (h1:KR (dG us) true) (h0:KR (FZ us) true) (hL:dH L j (qo v' T ence sze (xs'.set tt.toNat (aset z x (dec cs1))))=some L1)
  (n:GO hs f r Fs L1 fr P B N w0 Z l (i+1) Q):GO (.sra j q e ff m sz enc dec::hs) f r Fs L fr P B N w0 Z l i Q:=⟨λw al s hf=>by
 obtain ⟨t',x',y',ty,pos,af,g',v,hl,hg,hx,hy,hcv,hsz⟩:=kP hc.h hw.h hm.h;obtain ⟨e3,e4⟩:=bH hs' (by intro e5;have:=h0.h;rw [e5] at this;cases this);rw [<- hcv] at e3 e4;have hxx:=hxx.h;subst hxx;obtain ⟨hx1,cp,hx2⟩:=zC al hq
 have hA:∀y:Nat->α,ence y=(ence z).take 0++(eQ enc cn y++(ence z).drop (0+cn*sz)):=λy=>by
  have h5:(ence z).drop (0+cn*sz)=[]:=x5 (by rw [(hE z).h,wv (λx=>(hz x).h)];omega);rw [h5,(hE y).h];simp
 refine OW.stRA s j (by rw [<- zO];exact he) hx2 (λx=>(hze x).h) hl hg hx1 hx hy hsz (by rw [hcv];exact h1.h) enc (λx=>(hz x).h) cn z 0 (hA z) (by cases h9:ence z<;>rfl) (zC al hi) ff rfl (v9 (by rw [<- (hz (z x)).h];exact e4)) (dec cs1) (by rw [e3,hd.h]) (aset z x (dec cs1)) (hA (aset z x (dec cs1))) λw' s'=> ?_
 exact n.o w' al (by grind [qH]) hf⟩
theorem F0{A B:List Value}(h:A.length=B.length):qC A B 0=B:=by
 grind [qC]
theorem GO.srw{α:Type}{j q m cn sze g o:Nat}{enc:α->List Value}{ence:(Nat->α)->List Value}{T:TypeId}{v' u:Value}{xs xs':List (Nat->α)}{tt:Int}{z a:Nat->α}{us:List Value}{L1:List Item}
  (he:nth L j=some (qo v' T ence sze xs')) (hq:nth Fs q=some (.el v' g o tt xs z)) (hxx:KR xs' xs) (hze:∀y,KR (ence y).length sze)
  (hv:wx (stV l fr i) 0 m=some us) (hu:nth us 0=some u) (ha:nth (enc (a 0)) 0=some u) (hcs:KR (ence a) us) (hw:KR (ga (stV l fr i)) (some us)) (hc:KR (stC P l fr i m) (some ⟨g,o+tt.toNat*sze+0,none⟩))
  (hm:KR us.length m) (h1:KR (dG us) true) (hL:dH L j (qo v' T ence sze (xs'.set tt.toNat a))=some L1)
  (n:GO hs f r Fs L1 fr P B N w0 Z l (i+1) Q):GO (.srw j q m cn enc::hs) f r Fs L fr P B N w0 Z l i Q:=⟨λw al s hf=>by
 obtain ⟨t',x',y',ty,pos,af,g',v,hl,hg,hx,hy,hcv,hsz⟩:=kP hc.h hw.h hm.h;have hxx:=hxx.h;subst hxx;obtain ⟨hx1,cp,hx2⟩:=zC al hq;have hl1:us.length=sze:=by rw [<- hcs.h];exact (hze a).h
 refine OW.stR s j (by rw [<- zO];exact he) hx2 (λx=>(hze x).h) hl hg hx1 0 hx rfl hy hsz (by rw [hcv];exact h1.h) (v9 (by rw [hcv];omega)) a (by rw [hcv,F0 (by rw [hl1];exact (hze z).h),hcs.h]) λw' s'=> ?_
 exact n.o w' al (by grind [qH]) hf⟩
theorem GO.sp1{j k m b:Nat}{T:TypeId}{A C cs us cs':List Value}{L1:List Item}(hj:nth L j=some (du b T A cs C))(hv:wx (stV l fr i) 0 m=some us)(hs':eX cs us k=some cs')(hw:KR (ga (stV l fr i)) (some us))(hc:KR (stC P l fr i m) (some ⟨b,A.length+k,none⟩))
  (hm:KR us.length m) (h1:KR (dG us) true) (h0:KR (FZ us) true) (hL:dH L j (du b T A cs' C)=some L1) (n:GO hs f r Fs L1 fr P B N w0 Z l (i+1) Q):GO (.sp1 j k m::hs) f r Fs L fr P B N w0 Z l i Q:=⟨λw a s q=>by
 obtain ⟨t,x',y',ty,pos,af,g,v,hl,hg,hx,hy,hcv,hsz⟩:=kP hc.h hw.h hm.h;obtain ⟨e3,e4⟩:=bH hs' (by intro e5;have:=h0.h;rw [e5] at this;cases this);rw [<- hcv] at e3 e4;refine OW.stP s j (by rw [<- zO];exact hj) hl hg k hx hy hsz (by rw [hcv];exact h1.h) (v9 e4) cs' e3 λw' s'=> ?_
 exact n.o w' a (by grind [qH]) q⟩
theorem GO.spa{α:Type}{j e k0 ff m n sz b x:Nat}{enc:α->List Value}{dec:List Value->α}{T:TypeId}{A' C' cs us cs1 A C q cs':List Value}{a:Nat->α}{t:Int}{u:Value}{L1:List Item}(hj:nth L j=some (du b T A' cs C'))(hq:nth Fs e=some (.oe (ain n t) x))
  (hu:nth cs k0=some u) (ha:nth (enc (a 0)) 0=some u) (hcs:KR cs (cs.take k0++(eQ enc n a++cs.drop (k0+n*sz)))) (hk:KR (Nat.ble k0 cs.length) true) (hz:∀x,KR (enc x).length sz)
  (hv:wx (stV l fr i) 0 m=some us) (hw:KR (ga (stV l fr i)) (some us)) (hs':eX (enc (a x)) us ff=some cs1) (hd:KR (enc (dec cs1)) cs1) (hc:KR (stC P l fr i m) (some ⟨b,A'.length+k0+t.toNat*sz+ff,none⟩))
  (hm:KR us.length m) (h1:KR (dG us) true) (h0:KR (FZ us) true) (hA:uz cs k0=some A) (hC:HD cs (k0+n*sz)=some C) (hN:OX enc n (aset a x (dec cs1)) C=some q) (hQ:lD A q=some cs')
  (hL:dH L j (du b T A' cs' C')=some L1) (n:GO hs f r Fs L1 fr P B N w0 Z l (i+1) Q):GO (.spa j e k0 ff m sz enc dec::hs) f r Fs L fr P B N w0 Z l i Q:=⟨λw al s e=>by
 obtain ⟨t,x',y',ty,pos,af,g,v,hl,hg,hx,hy,hcv,hsz⟩:=kP hc.h hw.h hm.h;obtain ⟨e3,e4⟩:=bH hs' (by intro e5;have:=h0.h;rw [e5] at this;cases this);rw [<- hcv] at e3 e4
 refine OW.stPA s j (by rw [<- zO];exact hj) hl hg hx hy hsz (by rw [hcv];exact h1.h) enc (λx=>(hz x).h) _ a k0 hcs.h hk.h (zC al hq) ff rfl (v9 (by rw [<- (hz (a _)).h];exact e4)) (dec cs1) (by rw [e3,hd.h]) cs'
  (by grind [bY,Db,wA,wz]) λw' s'=> ?_
 exact n.o w' al (by grind [qH]) e⟩
theorem Sim.part{A B:List Item}{b:Nat}{X C cs cs':List Value}(h2:KR cs cs')(n:Sim A B):Sim (du b T X cs C::A) (du b T X cs' C::B):=⟨by rw [h2.h,n.e]⟩
theorem Adm.pt{j k m b:Nat}{T:TypeId}{cs A M C:List Value}{L1:List Item}(hj:nth L j=some (jS b T cs))(hA:uz cs k=some A)(hM:Hy cs k m=some M)(hC:HD cs (k+m)=some C)(he:KR cs (A++(M++C)))(hL:dH L j (du b T A M C)=some L1):
  Adm (.pt j k m) Fs L (λ_:Unit=>L1) (λ_=>Fs):=⟨λw0 Z w al s=>⟨(),by
 have e:L1=L:=by
  rw [qH hL];unfold du;rw [<- he.h];apply m8;intro q;rw [yo];rw [zO] at hj;split
  ·rename_i h1
   subst h1;rw [hj];simp [(zes.1 hj).1]
  ·rfl
 rw [e];exact s,al⟩⟩
end
end
variable {α σ ρ:Type} {x:α} {Q:α->Prop} {o:Option α} {xs:List α}
def OK(o:Option α)(Q:α->Prop):Prop:=∃r,o=some r/\Q r
theorem OK.ret(h:Q x):OK (some x) Q:=⟨x,rfl,h⟩
theorem b9:type_of% @OK.ret:=OK.ret
theorem OK.bind{α β:Type}{o:Option α}{f:α->Option β}{Q:β->Prop}(h:OK o (λx=>OK (f x) Q)):OK (o.bind f) Q:=by
 obtain ⟨x,rfl,h⟩:=h;exact h
theorem f9:type_of% @OK.bind:=OK.bind
theorem OK.mono{R:α->Prop}(h:OK o Q)(k:∀x,Q x->R x):OK o R:=by
 obtain ⟨x,rfl,h⟩:=h;exact ⟨x,rfl,k x h⟩
theorem OK.bind2{β:Type}{f:α->Option β}{R:α->Prop}{Q:β->Prop}(h:OK o R)(k:∀x,R x->OK (f x) Q):OK (o.bind f) Q:=
 f9 (h.mono k)
theorem d6:type_of% @OK.bind2:=OK.bind2
theorem OK.ite{α:Type}{c:Bool}{A B:Option α}{Q:α->Prop}(h1:c=true->OK A Q)(h2:c=false->OK B Q):
  OK (if c then A else B) Q:=by
 grind
theorem d5:type_of% @OK.ite:=OK.ite
theorem OK.ite_true{c:Bool}{A B:Option α}(h:c=true)(h1:OK A Q):OK (if c then A else B) Q:=by
 subst h;exact h1
theorem o5:type_of% @OK.ite_true:=OK.ite_true
theorem OK.ite_false{c:Bool}{A B:Option α}(h:c=false)(h1:OK B Q):OK (if c then A else B) Q:=by
 subst h;exact h1
theorem j7:type_of% @OK.ite_false:=OK.ite_false
theorem OK.get{t:Int}(h0:0<=t)(h1:t<xs.length)
  (h:∀x,xs[t.toNat]? =some x->Q x):OK (idx xs t) Q:=by
 have hl:t.toNat<xs.length:=by omega
 refine ⟨xs[t.toNat],?_,h _ (zeg hl)⟩;unfold Go.Sx.idx
 grind
theorem OK.getN{i:Nat}(h1:i<xs.length)
  (h:∀x,xs[i]? =some x->Q x):OK (Go.Sx.idx xs (i:Int)) Q:=
 OK.get (by omega) (by omega) (λx hx=>h x (by simpa using hx))
theorem i7:type_of% @OK.getN:=OK.getN
theorem OK.hasRoom{m b:Nat}{Q:Unit->Prop}(h:m*b<=140737488355328)(k:Q ()):OK (room m b) Q:=
 ⟨(),by unfold Go.Sx.room;rw [d7 h],k⟩
theorem OK.mkl{n:Int}{b:Nat}{Q:Nat->Prop}(h0:0<=n)(h:n.toNat*b<=140737488355328)(k:Q n.toNat):OK (mkLen n b) Q:=
 ⟨n.toNat,by unfold Go.Sx.mkLen;rw [d7 ⟨h0,h⟩],k⟩
theorem OK.count_from{body:Nat->(σ->Option ρ)->σ->Option ρ}{out:σ->ρ}{N:Nat}{Q:ρ->Prop}(I:Nat->σ->Prop)
    (hb:∀i s again,i<N->I i s->(∀s',I (i+1) s'->OK (again s') Q)->OK (body i again s) Q)
    (ho:∀s,I N s->Q (out s)):∀(n i:Nat)(s:σ),i+n=N->I i s->OK (jL body out n i s) Q:=by
  intro n
  induction n with
  | zero => intro i s hi h; have e : i = N := by omega
            subst e;exact b9 (ho s h)
  |succ n ih=>intro i s hi h;exact hb i s _ (by omega) h (λs' h'=>ih (i+1) s' (by omega) h')
theorem OK.count{body:Nat->(σ->Option ρ)->σ->Option ρ}{out:σ->ρ}{N:Nat}{Q:ρ->Prop}(I:Nat->σ->Prop){s:σ}
 (h0:I 0 s)
 (hb:∀i s again,i<N->I i s->(∀s',I (i+1) s'->OK (again s') Q)->OK (body i again s) Q)
 (ho:∀s,I N s->Q (out s)):OK (jL body out N 0 s) Q:=OK.count_from I hb ho N 0 s (by omega) h0
theorem g8:type_of% @OK.count:=OK.count
theorem OK.rounds{R:Type}{body:(σ->Option R)->σ->Option R}{Q:R->Prop}(I:σ->Prop)(m:σ->Nat)
  (hb:∀s again,I s->(∀s',I s'->m s'<m s->OK (again s') Q)->OK (body again s) Q):
  ∀(fu:Nat)(s:σ),I s->m s<fu->OK (loop body fu s) Q:=by
 intro fu
 induction fu with
 |zero=>intro s _ h;omega
 |succ n ih=>intro s h hm;exact hb s _ h (λs' h' hm'=>ih s' h' (by omega))
theorem OK.none_{A:Option ρ}{B:α->Option ρ}{Q:ρ->Prop}(h:OK A Q):OK (aa none A B) Q:=h
theorem OK.some_{A:Option ρ}{B:α->Option ρ}{Q:ρ->Prop}(h:OK (B x) Q):OK (aa (some x) A B) Q:=h
theorem OK.eq(h:o=some x)(k:Q x):OK o Q:=⟨x,h,k⟩
theorem OK.is(h:OK o (λy=>y=x)):o=some x:=by
 obtain ⟨y,rfl,rfl⟩:=h;rfl
theorem aq{i j:Nat}:(xs.set i x)[j]? =if i=j then (if i<xs.length then some x else none) else xs[j]? :=by
 rw [yo]
end
open Go.RowKit
open Go.RowKit
section
variable {P:Program} {N:Nat} {Q:Exit->Act->World->Prop} {fr fr':List (Nat×Value)} {w w0:World} {l:List Oper} {i:Nat} {o:Oper} {S0:List Nat} {L:List Item} {α:Type}
theorem Jo{R:Rp α}{r:Nat}{S:List Nat}{m:List (Int×α)}{ho:Option (Int×Value)}{t tk te:TypeId}{x:Operand}{ats:List Nat}(hst:St w0 S0 w L)(j:Nat)(hj:L[j]? =some (mN r R S m ho))
  (hop:o.op=.call ⟨.builtin .len,[x].toArray,ats.toArray⟩) (ha0:ats[0]? =some t) (hx:look fr x=some (.map (some r))) (ht:P.underlying t=some (.map tk te)):∀b,Rep N fr b->(execOp b.eval o).run P w=.ok (.value (.int .i64 (m.length:Int))) w:=by
 intro b hb;obtain ⟨mv,Ss,hr⟩:=hst.all j _ hj;obtain ⟨A,clock,hA,hE⟩:=hr.map;have e1:=hb.look hx
 have h1:A.size=m.length:=by
  have:=congrArg List.length hE.eq;have h2:=congrArg List.length hr.Tc;simp at this h2;omega
 have ha1:(ats.toArray)[0]? =some t:=by simpa using ha0
 simp [execOp,hop,resolve,invoke,builtin,e1,Builtin.len_,ha1,run_underlying ht,dd hA,goInt,h1]
theorem OW.inl{d M:Nat}{f:FuncId}{fn:Func}{c:Code}{args:List Value}(hl:vo l i=some o)(hg:gd l fr o=some true)(hd:o.dst=some d)(hN:Nat.blt d N=true)
  (hp:Jc P fr o=some (f,args)) (hf:P.funcs[f]? =some fn) (hb:fn.body=some c) (hM:fn.ntmps=M) (hs:Nat.ble args.length M=true)
  (h:CW P M c (bodyPost P fn (λe w'=>∃v,e=.returned v/\OW P l N Q (i+1) ((d,v)::fr) w')) (rC 0 args) w):OW P l N Q i fr w:=
 OW.fn hl hg hd hN hp (CW.start hf hb hM hs h) (λ_ _ h=>h)
end
section
variable {α:Type} {w w':World} {r:Nat} {R:Rp α} {S:List Nat} {m:List (Int×α)} {ho:Option (Int×Value)} {mv:List (Int×Value)} {Ss:List (List Nat)}
theorem AB:∀{m:List (Int×α)} {k:Int} {x:α},jz (mput m k x) k=some x
 |[],k,x=>by simp [mput,jz]
 |p::m,k,x=>by
  unfold mput;by_cases h:(p.1==k)=true
  ·rw [d7 h];simp [jz]
  ·rw [d8 h];unfold jz;rw [d8 h];exact AB
theorem pp:∀{m:List (Int×α)} {k:Int} {x:α},jz m k=none->(k,x)∉m
 |[],k,x,_=>by simp
 |p::m,k,x,h=>by
  unfold jz at h;by_cases hp:(p.1==k)=true
  ·rw [d7 hp] at h;cases h
  ·rw [d8 hp] at h;intro hm;rcases j4.1 hm with e|hm
   ·subst e;simp at hp
   ·exact pp h hm
theorem FJ{k:Int}{x:α}{i:Nat}(hp:gz m k=some i):(m.set i (k,x)).map (·.1)=m.map (·.1):=by
 obtain ⟨v,_,hv⟩:=uc hp;rw [ya];apply m8;intro j;rw [yo];split
 ·rename_i e
  subst e;rw [t5,hv];have:=(zes.1 hv).1;simp [this]
 ·rfl
theorem nC.giveH(h:nC w r R S m ho mv Ss){k:Int}{v:Value}{x:α}{i:Nat}(hho:∀k' u,ho=some (k',u)->k'=k)(hp:gz m k=some i)
  (hw:∀b∈Ss.flatten,w'.heap[b]? =w.heap[b]?) (hm:∃A clock,w'.heap[r]? =some (.map A clock)/\nB (λv:Value=>v) (mv.set i (k,v)) A.toList clock):nC w' r R (r::(Ss.set i []).flatten) (m.set i (k,x)) (some (k,v)) (mv.set i (k,v)) (Ss.set i []):=by
 have hn:=h.nd;rw [h.hS] at hn;obtain ⟨n1,n2⟩:=s7.1 hn;have hS:=h.hS;obtain ⟨u0,_,hu0⟩:=uc hp;have l1:=(zes.1 hu0).1;have hpv:=(cI h.Tc k).trans hp;obtain ⟨v0,_,hv0⟩:=uc hpv;have l2:=(zes.1 hv0).1;have l3:i<Ss.length:=by rw [h.ls];exact l1
 refine ⟨hm,by rw [ya,ya,h.Tc],by rw [j5,j5];exact h.ls,rfl,?_,λk' v' i' e hp'=> ?_,λi' q S' p g1 g2 g3 g4=> ?_⟩
 ·refine s7.2 ⟨λhb=> ?_,aU n2 l8 (λ_ _ _ _ b hb=>absurd hb znm)⟩;rcases jT hb with hb|hb
  ·exact absurd hb znm
  ·exact n1 hb
 ·simp only [i5,m9] at e;obtain ⟨rfl,rfl⟩:=e;rw [cI (FJ hp) k,hp] at hp';cases hp';exact ⟨by rw [x6 l2],by rw [x6 l3]⟩
 ·rcases vD g3 with ⟨rfl,rfl⟩|⟨hne,g3⟩
  ·exact absurd ((cI (FJ hp) k).trans hp) (g1 k v rfl)
  ·rcases vD g2 with ⟨e,_⟩|⟨_,g2⟩
   ·exact absurd e hne
   ·rcases vD g4 with ⟨e,_⟩|⟨_,g4⟩
    ·exact absurd e hne
    ·refine R.loc w w' _ S' _ (λb hb=>hw b (k7.2 ⟨S',zmg g3,hb⟩)) (h.own i' q S' p (λk' u e hp'=> ?_) g2 g3 g4);rw [hho k' u e,hp] at hp';exact hne (j6 hp').symm
theorem nC.comeH(h:nC w r R S m ho mv Ss){k:Int}{v:Value}{x:α}(hho:∀k' u,ho=some (k',u)->k'=k)(hp:gz m k=none)
  (hw:∀b∈Ss.flatten,w'.heap[b]? =w.heap[b]?) (hm:∃A clock,w'.heap[r]? =some (.map A clock)/\nB (λv:Value=>v) (mv++[(k,v)]) A.toList clock):nC w' r R (r::(Ss++[[]]).flatten) (m++[(k,x)]) (some (k,v)) (mv++[(k,v)]) (Ss++[[]]):=by
 have hn:=h.nd;rw [h.hS] at hn;obtain ⟨n1,n2⟩:=s7.1 hn;have hS:=h.hS;have hl:=h.len;have hls:=h.ls
 have hpos:gz (m++[(k,x)]) k=some m.length:=by
  have hg:jz (m++[(k,x)]) k=some x:=by
   have:=xr.1 hp;rw [<- io this];exact AB
  obtain ⟨i,hi,hv⟩:=eM hg;rw [hi];have li:=(zes.1 hv).1;rcases y7 i m.length with hlt|hge
  ·rw [u4 hlt] at hv;have:=xr.1 hp
   exact absurd this (by
    intro hnone;have hmem:=zmg hv;exact pp hnone hmem)
  ·simp at li
   congr 1
   omega
 refine ⟨hm,by rw [v6,v6,h.Tc];rfl,by simp [h.ls],rfl,?_,λk' v' i' e hp'=> ?_,λi' q S' p g1 g2 g3 g4=> ?_⟩
 ·rw [yd];have e1:[([]:List Nat)].flatten=[]:=rfl;rw [e1,i8];exact hn
 ·simp only [i5,m9] at e;obtain ⟨rfl,rfl⟩:=e;rw [hpos] at hp';cases hp';constructor
  ·rw [v8 (by omega),show m.length-mv.length=0 by omega];rfl
  ·rw [v8 (by omega),show m.length-Ss.length=0 by omega];rfl
 ·rcases bw g2 with ⟨l1,g2⟩|⟨l1,g2⟩
  ·rcases bw g3 with ⟨l2,g3⟩|⟨l2,g3⟩
   ·rcases bw g4 with ⟨l3,g4⟩|⟨l3,g4⟩
    ·refine R.loc w w' _ S' _ (λb hb=>hw b (k7.2 ⟨S',zmg g3,hb⟩)) (h.own i' q S' p (λk' u e hp'=> ?_) g2 g3 g4);rw [hho k' u e,hp] at hp';cases hp'
    ·omega
   ·omega
  ·have k1:=(zes.1 g2).1;simp at k1;exact absurd (by rw [hpos];congr 1;omega) (g1 k v rfl)
end
section
variable {P:Program} {N:Nat} {Q:Exit->Act->World->Prop} {fr fr':List (Nat×Value)} {w w0:World} {l:List Oper} {i:Nat} {o:Oper} {S0:List Nat} {L:List Item} {α:Type} {R:Rp α} {r:Nat} {S:List Nat} {m:List (Int×α)} {ho:Option (Int×Value)}
theorem OW.mputH{t tk te:TypeId}{x y z:Operand}{ty:TypeId}{pos:String}{af:Array Edge}{gdd:Option (Nat×Bool)}(hst:St w0 S0 w L)(q:Nat){kd:IntKind}{k:Int}{v:Value}(u:α)(hq:L[q]? =some (mN r R S m ho))(hho:∀k' u,ho=some (k',u)->k'=k)
  (hl:vo l i=some ⟨none,.mapUpdate t x y z,ty,pos,af,gdd⟩) (hg:gd l fr ⟨none,.mapUpdate t x y z,ty,pos,af,gdd⟩=some true) (hx:look fr x=some (.map (some r))) (hy:look fr y=some (.int .i64 k)) (hz:look fr z=some v)
  (ht:P.underlying t=some (.map tk te)) (hk:P.underlying tk=some (.int kd)) (h:∀S' w',St w0 S0 w' (L.set q (mN r R S' (Sx.mput m k u) (some (k,v))))->OW P l N Q (i+1) fr w'):OW P l N Q i fr w:=by
 obtain ⟨mv,Ss,hr⟩:=hst.all q _ hq;have hS:=hr.hS;have hn:=hr.nd;rw [hS] at hn;obtain ⟨n1,_⟩:=s7.1 hn
 have hI:St w [r] w [CO r (λv:Value=>v) mv]:=by
  refine ⟨w9 _ _,λn it hi=> ?_,λn it hi=> ?_,λn n' a b hne h1 h2=> ?_,λn it hi y hy=> ?_⟩
  ·cases n with
   |zero=>simp at hi;subst hi;exact hr.map
   |succ n=>simp at hi
  ·cases n with
   |zero=>simp at hi;subst hi;simp [CO]
   |succ n=>simp at hi
  ·cases n with
   |zero=>cases n' with
    |zero=>exact absurd rfl hne
    |succ n'=>simp at h2
   |succ n=>simp at h1
  ·cases n with
   |zero=>simp at hi;subst hi;exact .inl (by simpa [CO] using hy)
   |succ n=>simp at hi
 obtain ⟨w',hrun,hst'⟩:=wj (P:=P) (k:=k) (x:=v) hI 0 rfl ht hk;have hchg:Chg [r] w w':=hst'.chg;have hm':∃A clock,w'.heap[r]? =some (.map A clock)/\nB (λv:Value=>v) (Sx.mput mv k v) A.toList clock:=hst'.all 0 _ rfl;have hlt:=hr.lt;have hw:∀b∈Ss.flatten,w'.heap[b]? =w.heap[b]? :=λb hb=>hchg.block b (hlt b (by rw [hS];exact zcm _ hb)) (by simp only [i6];rintro rfl;exact n1 hb)
 obtain ⟨Ss',mv',hfin,hsub⟩:∃Ss' mv',nC w' r R (r::List.flatten Ss') (Sx.mput m k u) (some (k,v)) mv' Ss'/\∀b∈List.flatten Ss',b∈Ss.flatten:=by
  cases hp:gz m k with
  |none=>
   have hp':gz mv k=none:=(cI hr.Tc k).trans hp;rw [io (xr.1 hp')] at hm';rw [io (xr.1 hp)];refine ⟨_,_,hr.comeH hho hp hw hm',λb hb=> ?_⟩;rw [yd] at hb;rcases g9.1 hb with hb|hb
   ·exact hb
   ·simp at hb
  |some n=>
   have hp':gz mv k=some n:=(cI hr.Tc k).trans hp;rw [mF hp'] at hm';rw [mF hp];exact ⟨_,_,hr.giveH hho hp hw hm',λb hb=>(jT hb).elim (λh=>absurd h znm) id⟩
 refine OW.ops hl hg rfl (λa ha=> ?_) (h (r::List.flatten Ss') w' ?_)
 ·simp [execOp,ha.look hx,ha.look hy,ha.look hz,hrun]
 ·have hsub2:∀b∈r::List.flatten Ss',b∈S:=λb hb=>by
   rcases j4.1 hb with rfl|hb
   ·rw [hS];exact zcs
   ·rw [hS];exact zcm _ (hsub b hb)
  exact hst.upd q hq (it':=mN r R (r::List.flatten Ss') (Sx.mput m k u) (some (k,v))) (hchg.mono (λb hb=>by simp only [i6] at hb;subst hb;show b∈S;rw [hS];exact zcs)) ⟨_,_,hfin⟩ (λb hb=>.inl (hsub2 b hb)) hfin.nd
end
open Go.RowKit
variable {T:TypeId} {a:Option Addr} {n c:Nat} {q:Int}
section
variable {α:Type} {enc:α->List Value} {sz:Nat}
theorem mM(he:∀x,(enc x).length=sz)(xs:List α)(n:Nat):(xf enc xs).take (n*sz)=xf enc (xs.take n):=by
 induction xs generalizing n with
 |nil=>simp [xf]
 |cons x r ih=>
  cases n with
  |zero=>simp [xf]
  |succ n=>
   have h1:=he x;simp only [xf,List.take_succ_cons];rw [List.take_append,h1,yq,show n*sz+sz-sz=n*sz by omega,ih,r9 (by omega)]
theorem sF(he:∀x,(enc x).length=sz)(xs:List α)(n:Nat):(xf enc xs).drop (n*sz)=xf enc (xs.drop n):=by
 induction xs generalizing n with
 |nil=>simp [xf]
 |cons x r ih=>
  cases n with
  |zero=>simp
  |succ n=>
   have h1:=he x;simp only [xf,List.drop_succ_cons];rw [RA,h1,yq,show n*sz+sz-sz=n*sz by omega,ih,x5 (by omega),List.nil_append]
theorem iw(xs ys:List α):xf enc (xs++ys)=xf enc xs++xf enc ys:=by
 induction xs with
 |nil=>rfl
 |cons x r ih=>simp only [y8,xf,ih,o4]
theorem JR{a b:List Value}(h1:dG a=true)(h2:dG b=true):dG (a++b)=true:=by
 induction a with
 |nil=>exact h2
 |cons x r ih=>
  unfold dG at h1;show dG (x::(r++b))=true;unfold dG;cases hx:x.oneCell' with
  |true=>rw [hx] at h1;exact ih h1
  |false=>rw [hx] at h1;cases h1
theorem Hx{z:α}(h:dG (enc z)=true)(n:Nat):dG (xf enc (List.replicate n z))=true:=by
 induction n with
 |zero=>rfl
 |succ n ih=>exact JR h ih
theorem np{zs:Array Value}{z:α}(h:zs.toList=enc z)(n:Nat):(Builtin.zeroCells zs n).toList=xf enc (List.replicate n z):=by
 have hs:zs.size=(enc z).length:=by rw [<- h];simp
 have key:∀n,(List.range (n*zs.size)).map (λi=>zs[i%zs.size]!)=xf enc (List.replicate n z):=by
  intro n
  induction n with
  |zero=>simp [xf]
  |succ n ih=>
   rw [yq,List.range_add,v6,ih,List.replicate_succ',iw]
   congr 1
   simp only [xf,i8,List.map_map];refine m8 (λi=> ?_);rw [t5];by_cases hi:i<zs.size
   ·rw [List.getElem?_range hi];simp only [u5,Function.comp];rw [show (n*zs.size+i)%zs.size=i by rw [Nat.add_comm,Nat.add_mul_mod_self_right,z6 hi],<- h,getElem!_pos zs i hi];simp [hi]
   ·rw [ym (by simpa using hi),ym (by omega)];rfl
 simpa [Builtin.zeroCells] using key n
theorem et.pre{w:World}{xs ys:List α}(he:∀x,(enc x).length=sz)(h:et w T sz (.slice a n c) xs.length (xf enc xs))(hc:cut xs 0 q=some ys):
  et w T sz (.slice a ys.length c) ys.length (xf enc ys):=by
 obtain ⟨_,h1,h2,e⟩:=bz hc;have hl:=iU hc
 have hys:ys=xs.take ys.length:=by
  rw [hl];simpa using e
 refine ⟨qL he _,?_⟩;rcases h.2 with ⟨h0,a',hv⟩|⟨g,o,cap,cur,hv,hp,hg,hnc,hm,hcs,ht⟩
 ·simp only [Value.slice.injEq] at hv;obtain ⟨rfl,rfl,rfl⟩:=hv;have:ys.length=0:=by omega
  exact .inl ⟨this,a,by rw [this]⟩
 ·simp only [Value.slice.injEq] at hv;obtain ⟨rfl,rfl,rfl⟩:=hv;refine .inr ⟨g,o,c,cur,rfl,hp,hg,by omega,hm,hcs,?_⟩;have hle:ys.length*sz<=xs.length*sz:=o9 _ (by omega)
  have e2:((cur.toList.drop o).take (xs.length*sz)).take (ys.length*sz)=(cur.toList.drop o).take (ys.length*sz):=by
   rw [y6,Nat.min_eq_left hle]
  rw [<- e2,ht,mM he];exact congrArg (xf enc) hys.symm
theorem et.suf{w:World}{xs ys:List α}(he:∀x,(enc x).length=sz)(h:et w T sz (.slice a n c) xs.length (xf enc xs))(hc:cut xs q (xs.length:Int)=some ys):
  et w T sz (.slice (shd a c q.toNat sz) ys.length (c-q.toNat)) ys.length (xf enc ys):=by
 obtain ⟨h0,h1,h2,e⟩:=bz hc;have hl:=iU hc
 have hys:ys=xs.drop q.toNat:=by
  rw [e];simp
 refine ⟨qL he _,?_⟩;rcases h.2 with ⟨hz,a',hv⟩|⟨g,o,cap,cur,hv,hp,hg,hnc,hm,hcs,ht⟩
 ·simp only [Value.slice.injEq] at hv;obtain ⟨rfl,rfl,rfl⟩:=hv;have h3:ys.length=0:=by omega
  exact .inl ⟨h3,_,by rw [h3,Nat.zero_sub]⟩
 ·simp only [Value.slice.injEq] at hv;obtain ⟨rfl,rfl,rfl⟩:=hv;by_cases hcq:c=q.toNat
  ·have h3:ys.length=0:=by omega
   exact .inl ⟨h3,_,by rw [h3,hcq,Nat.sub_self]⟩
  ·have hqn:q.toNat<=xs.length:=by omega
   have hlen:ys.length=xs.length-q.toNat:=by rw [hys,yx]
   refine .inr ⟨g,o+q.toNat*sz,c-q.toNat,cur,?_,by omega,hg,by omega,by omega,?_,?_⟩
   ·simp [shd,hcq,Addr.add]
   ·have:(c-q.toNat)*sz+q.toNat*sz=c*sz:=by rw [<- v5];congr 1;omega
    omega
   ·have hm1:q.toNat*sz+ys.length*sz=xs.length*sz:=by rw [<- v5];congr 1;omega
    have e3:((cur.toList.drop o).take (xs.length*sz)).drop (q.toNat*sz)=(cur.toList.drop (o+q.toNat*sz)).take (ys.length*sz):=by
     rw [List.drop_take,yt]
     congr 1
     omega
    rw [<- e3,ht,sF he,hys]
end
section
variable {P:Program} {N:Nat} {Q:Exit->Act->World->Prop} {fr fr':List (Nat×Value)} {w w0:World} {l:List Oper} {i:Nat} {o:Oper} {S0:List Nat} {L:List Item} {α:Type} {enc:α->List Value} {sz:Nat}
theorem St.cutRow{xs ys:List α}(hst:St w0 S0 w L)(j:Nat)(hj:L[j]? =some (qo (.slice a n c) T enc sz xs))(he:∀x,(enc x).length=sz)(hc:cut xs 0 q=some ys):
  St w0 S0 w (L.set j (qo (.slice a ys.length c) T enc sz ys)):=by
 have h:=hst.all j _ hj
 have e:(dF (.slice a ys.length c)).toList=(dF (.slice a n c)).toList:=by
  cases a with
  |none=>rfl
  |some a=>cases c<;>rfl
 exact hst.upd j hj (w9 _ _) (et.pre he h hc) (λb hb=>.inl (by
  show b∈(dF (.slice a n c)).toList;rw [<- e];exact hb)) vn
theorem St.sufRow{xs ys:List α}(hst:St w0 S0 w L)(j:Nat)(hj:L[j]? =some (qo (.slice a n c) T enc sz xs))(he:∀x,(enc x).length=sz)(hc:cut xs q (xs.length:Int)=some ys):
  St w0 S0 w (L.set j (qo (.slice (shd a c q.toNat sz) ys.length (c-q.toNat)) T enc sz ys)):=by
 have h:=hst.all j _ hj;refine hst.upd j hj (w9 _ _) (et.suf he h hc) (λb hb=>.inl ?_) vn;have hb:b∈(dF (.slice (shd a c q.toNat sz) ys.length (c-q.toNat))).toList:=hb;show b∈(dF (.slice a n c)).toList;cases c with
 |zero=>rw [Nat.zero_sub,eL] at hb;cases hb
 |succ c=>
  cases a with
  |none=>
   have:shd none (c+1) q.toNat sz=none:=by unfold shd;split<;>rfl
   rw [this] at hb;cases hb
  |some a=>
   by_cases hcq:c+1=q.toNat
   ·rw [hcq,Nat.sub_self,eL] at hb;cases hb
   ·have e1:shd (some a) (c+1) q.toNat sz=some (a.add (q.toNat*sz)):=by unfold shd;rw [d8 hcq];rfl
    rw [e1] at hb;rcases yp (c+1-q.toNat) with h0|h0
    ·rw [h0,eL] at hb;cases hb
    ·rw [vH h0] at hb;rw [vH (Nat.succ_pos c)]
     have e2:(a.add (q.toNat*sz)).block=a.block:=by
      obtain ⟨b0,o0,s0⟩:=a;unfold Addr.add;simp only
      try split
      all_goals rfl
     rw [e2] at hb;exact hb
theorem OW.clearR{t e:TypeId}{ats:List Nat}{x:Operand}{ty:TypeId}{pos:String}{af:Array Edge}{gdd:Option (Nat×Bool)}(hst:St w0 S0 w L)(j:Nat){xs ys:List α}(hj:L[j]? =some (qo (.slice a n c) T enc sz xs))(he:∀x,(enc x).length=sz)
  (hl:vo l i=some ⟨none,.call ⟨.builtin .clear,[x].toArray,ats.toArray⟩,ty,pos,af,gdd⟩) (hg:gd l fr ⟨none,.call ⟨.builtin .clear,[x].toArray,ats.toArray⟩,ty,pos,af,gdd⟩=some true) (hc:cut xs q (xs.length:Int)=some ys) (hx:look fr x=some (.slice (shd a c q.toNat sz) ys.length (c-q.toNat))) (ha0:ats[0]? =some t) (ht:P.underlying t=some (.slice e)) (z:α)
  (hz:(aX P (zeroValue e)).map (·.cells.toList)=some (enc z)) (h1:dG (enc z)=true)
  (h:∀w',St w0 S0 w' (L.set j (qo (.slice a n c) T enc sz (xs.take q.toNat++List.replicate ys.length z)))->OW P l N Q (i+1) fr w'):OW P l N Q i fr w:=by
 obtain ⟨h0,hq1,hq2,e0⟩:=bz hc;have hl0:=iU hc;have hyl:ys.length=xs.length-q.toNat:=by omega
 have ha1:(ats.toArray)[0]? =some t:=by simpa using ha0
 have hr:et w T sz (.slice a n c) xs.length (xf enc xs):=hst.all j _ hj;cases hy:ys.length with
 |zero=>
  have hxs:xs.take q.toNat++List.replicate ys.length z=xs:=by
   rw [hy,List.replicate_zero,i8,r9 (by omega)]
  have hst':St w0 S0 w (L.set j (qo (.slice a n c) T enc sz (xs.take q.toNat++List.replicate ys.length z))):=by
   rw [hxs];have hlj:=(zes.1 hj)
   rw [show L.set j (qo (.slice a n c) T enc sz xs)=L from by
    obtain ⟨h5,h6⟩:=hlj;rw [<- h6,List.set_getElem_self]]
   exact hst
  refine OW.opn (v:=.tuple #[]) hl hg rfl (w':=w) (λb hb=> ?_) (h _ hst');have e1:=hb.look hx;rw [hy] at e1;cases hshd:shd a c q.toNat sz with
  |none=>rw [hshd] at e1;simp [execOp,resolve,invoke,builtin,e1,Builtin.clear_,ha1,run_underlying ht]
  |some a'=>rw [hshd] at e1;simp [execOp,resolve,invoke,builtin,e1,Builtin.clear_,ha1,run_underlying ht]
 |succ k=>
  rcases hr.2 with ⟨hz0,_⟩|⟨g,o,cap,cur,hv,hp,hgc,hnc,hm,hcs,htake⟩
  ·omega
  ·simp only [Value.slice.injEq] at hv;obtain ⟨rfl,rfl,rfl⟩:=hv;have hcq:¬ c=q.toNat:=by omega
   have eshd:shd (some ⟨g,o,none⟩) c q.toNat sz=some ⟨g,o+q.toNat*sz,none⟩:=by simp [shd,hcq,Addr.add]
   cases hzv:aX P (zeroValue e) with
   |none=>rw [hzv] at hz;cases hz
   |some zv=>
    rw [hzv] at hz;have hzc:zv.cells.toList=enc z:=by simpa using hz
    have hvs:=np (enc:=enc) hzc (k+1)
    let vs:=xf enc (List.replicate (k+1) z)
    have hvl:vs.length=(k+1)*sz:=by
     have:=qL he (List.replicate (k+1) z)
     simpa using this
    have hsum:q.toNat*sz+(k+1)*sz=xs.length*sz:=by rw [<- v5];congr 1;omega
    have hcap:xs.length*sz<=c*sz:=o9 _ hnc;have hfit:o+q.toNat*sz+vs.length<=cur.size:=by omega
    have hst2:=run_storeCells_at (P:=P) g (o+q.toNat*sz) T vs 0 cur w hgc (by simpa using hfit) (db (Hx h1 _));refine OW.opn (v:=.tuple #[]) hl hg rfl (w':=w.setRow g (qC cur.toList vs (o+q.toNat*sz)).toArray) (λb hb=> ?_) (h _ ?_)
    ·have e1:=hb.look hx;rw [hy,eshd] at e1;have hz':=qZ hzv w;have h3:(storeCells ⟨g,o+q.toNat*sz,none⟩ vs).run P w=.ok () (w.setRow g (qC cur.toList vs (o+q.toNat*sz)).toArray):=by simpa [qC] using hst2
     have h4:(Builtin.zeroCells zv.cells (k+1)).toList=vs:=hvs;simp [execOp,resolve,invoke,builtin,e1,Builtin.clear_,ha1,run_underlying ht,hz',h4,h3]
    ·have hlen:(qC cur.toList vs (o+q.toNat*sz)).length=cur.size:=by simp [qC] at hfit |-;omega
     refine hst.upd j hj ⟨rfl,rfl,rfl,by simp [World.setRow],λk' _ hn=>setRow_other w g k' _ (by rintro rfl;exact hn (by simp [qo,vH hp]))⟩ ?_ (λk' hk'=>.inl hk') vn
     have hl2:(xs.take q.toNat++List.replicate ys.length z).length=xs.length:=by simp;omega
     show et (w.setRow g _) T sz _ _ _;rw [hl2];refine ⟨by rw [qL he,hl2],.inr ⟨g,o,c,_,rfl,hp,setRow_heap w g cur _ T _ hgc,hnc,hm,by rw [List.size_toArray,hlen];exact hcs,?_⟩⟩
     simp only;rw [dc (by omega) (by omega) (by have:= @Array.length_toList _ cur;omega),htake,show o+q.toNat*sz-o=q.toNat*sz by omega];rw [iw,<- mM he,hy];unfold qC;rw [x5 (by rw [qL he];omega),i8]
end
end Go.Sx
