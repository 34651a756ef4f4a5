/- Texts Eng4, Eng5, Eng6, Pure, Range, Reg, Cuts, Ins, Ifc of this proof. -/
import Derived.Test.YtbmknhpfkpmigaaGreatDoorEng
import Derived.Lib.Overlaps
import Derived.Lib.AppendZerosOnto
set_option linter.unusedVariables false
set_option linter.unusedSimpArgs false
namespace Go.Sx
open Go.RowKit
abbrev SpS:=List (Nat×Value×List (Nat×Bool))
def zho:SpS->Nat->Option (Value×List (Nat×Bool))
 | [],_=>none
 | p::r,n=>match Nat.beq p.1 n with
  | true=>some p.2
  | false=>zho r n
def slk (S:SpS) (fr:Fr):Operand->Option (Value×List (Nat×Bool))
 | .tmp t=>match zho S t with
  | some e=>some e
  | none=>match zeu fr t with
   | some v=>some (v,[])
   | none=>none
 | .const v=>some (v,[])
 | .global g=>some (.pointer (some ⟨g,0,none⟩),[])
 | .func f=>some (.func (.func f) #[] #[],[])
def zow (p:Nat×Bool):List (Nat×Bool)->Bool
 | []=>false
 | q::r=>match Nat.beq q.1 p.1,q.2==p.2 with
  | true,true=>true
  | _,_=>zow p r
def zdY:List (Nat×Bool)->List (Nat×Bool)->Bool
 | [],_=>true
 | p::r,B=>match zow p B with
  | true=>zdY r B
  | false=>false
theorem zjv {p:Nat×Bool}: ∀ {B:List (Nat×Bool)},zow p B=true->p∈B
 | [],h=>by cases h
 | q::r,h=>by
  unfold zow at h
  split at h
  ·rename_i h1 h2
   have e1:=Nat.eq_of_beq_eq_true h1
   have e2:=eq_of_beq h2
   have:q=p:=Prod.ext e1 e2
   rw [this];exact zcs
  ·exact zcm _ (zjv h)
theorem zdh: ∀ {A B:List (Nat×Bool)},zdY A B=true-> ∀ p∈A,p∈B
 | [],_,_,p,hp=>by cases hp
 | q::r,B,h,p,hp=>by
  unfold zdY at h
  split at h
  ·rename_i h1
   rcases List.mem_cons.1 hp with rfl | hp
   ·exact zjv h1
   ·exact zdh h p hp
  ·cases h
def zmS (l:List Oper) (S:SpS) (o:Oper):Option (List (Nat×Bool)):=match o.guard with
 | none=>some []
 | some (j,b)=>match (vg l j).bind (·.dst) with
  | some d=>match zho S d with
   | some (.bool _,ls)=>some ((d,b)::ls)
   | _=>none
  | none=>none
def zsb (S:SpS) (fr:Fr) (x:Operand):Value:=match slk S fr x with
 | some e=>e.1
 | none=>undef
def zox (S:SpS) (fr:Fr) (Ls:List (Nat×Bool)):List Operand->Bool
 | []=>true
 | x::r=>match slk S fr x with
  | some e=>match zdY e.2 Ls with
   | true=>zox S fr Ls r
   | false=>false
  | none=>false
def zky {α:Type}:List (Nat×α)->Nat->Option α
 | [],_=>none
 | p::r,n=>match Nat.beq p.1 n with
  | true=>some p.2
  | false=>zky r n
def zsc (P:Program) (lv:List (Nat×Pn)) (pk:List (Nat×Bool)) (i:Nat) (S:SpS) (fr:Fr) (Ls:List (Nat×Bool)) (o:Oper):Option (Value×List (Value×Value)):=match o.op with
 | .pick (.tmp c) x y=>match zky pk i with
  | some true=>match slk S fr (.tmp c),slk S fr x,slk S fr y with
   | some (.bool g,lc),some (.bool true,la),some (.bool b,lb)=>match zdY lc Ls,zdY la ((c,true)::Ls),zdY lb ((c,false)::Ls) with
    | true,true,true=>some (.bool (g||b),[])
    | _,_,_=>none
   | _,_,_=>none
  | some false=>match slk S fr (.tmp c),slk S fr x,slk S fr y with
   | some (.bool g,lc),some (.bool a,la),some (.bool false,lb)=>match zdY lc Ls,zdY la ((c,true)::Ls),zdY lb ((c,false)::Ls) with
    | true,true,true=>some (.bool (g&&a),[])
    | _,_,_=>none
   | _,_,_=>none
  | none=>none
 | .load t x=>match zky lv i,slk S fr x with
  | some (.c a v),some (p,la)=>match zdY la Ls,zbw P (isAgg t) with
   | true,some false=>some (v,[(p,.pointer (some a))])
   | _,_=>none
  | some (.n b k cs),some (p,la)=>match zdY la Ls,zbw P (isAgg t),zbw P (sizeOf t) with
   | true,some true,some m=>match Nat.beq m cs.length with
    | true=>some (.agg cs.toArray,[(p,.pointer (some ⟨b,k,none⟩))])
    | false=>none
   | _,_,_=>none
  | _,_=>none
 | _=>match vS o.op,zox S fr Ls o.op.operands.toList with
  | true,true=>match zbw P (execOp (zsb S fr) o) with
   | some (.value v)=>some (v,[])
   | _=>none
  | _,_=>none
def zik (P:Program) (l:List Oper) (N:Nat) (lv:List (Nat×Pn)) (pk:List (Nat×Bool)) (fr:Fr):Nat->Nat->SpS->List (Value×Value)->Option (SpS×List (Value×Value))
 | 0,_,S,E=>some (S,E)
 | n+1,i,S,E=>match vg l i with
  | none=>none
  | some o=>match o.dst,zmS l S o with
   | some d,some Ls=>match Nat.blt d N,zho S d with
    | true,none=>match zsc P lv pk i S fr Ls o with
     | some (v,e)=>zik P l N lv pk fr n (i+1) ((d,v,Ls)::S) (e++E)
     | none=>none
    | _,_=>none
   | _,_=>none
def Hd (S:SpS) (Ls:List (Nat×Bool)):Prop:= ∀ p∈Ls,∃ ls,zho S p.1=some (.bool p.2,ls)
structure SpI (N:Nat) (S:SpS) (fr:Fr) (a:Act):Prop where
 size:a.tmps.size=N
 defers:a.defers= []
 on: ∀ t v Ls,zho S t=some (v,Ls)->(Hd S Ls->a.tmps[t]? =some v)/\(¬ Hd S Ls->a.tmps[t]? =some undef)
 off: ∀ t v,zho S t=none->zeu fr t=some v->a.tmps[t]? =some v
 closed: ∀ t v Ls,zho S t=some (v,Ls)-> ∀ p∈Ls,∃ u,zho S p.1=some u
theorem Hd.sub {S:SpS} {A B:List (Nat×Bool)} (h:Hd S B) (hs:zdY A B=true):Hd S A:=fun p hp=>h p (zdh hs p hp)
section
variable {P:Program} {l:List Oper} {N:Nat} {lv:List (Nat×Pn)} {pk:List (Nat×Bool)} {fr:Fr} {S:SpS} {Ls:List (Nat×Bool)} {a:Act} {o:Oper} {i:Nat} {w:World}
theorem SpI.lk (h:SpI N S fr a) {x:Operand} {v:Value} {la:List (Nat×Bool)} (hx:slk S fr x=some (v,la)) (hl:Hd S la):a.eval x=v:=by
 cases x with
 | tmp t=>
  simp only [slk] at hx
  have:a.tmps[t]? =some v:=by
   split at hx
   ·rename_i e he
    cases hx
    exact (h.on t v la he).1 hl
   ·rename_i he
    split at hx
    ·rename_i u hu;cases hx;exact h.off t v he hu
    ·cases hx
  simp [Act.eval,Array.getD_eq_getD_getElem?,this]
 | const u=>simp only [slk] at hx;cases hx;rfl
 | global g=>simp only [slk] at hx;cases hx;rfl
 | func f=>simp only [slk] at hx;cases hx;rfl
theorem zjw: ∀ {xs:List Operand},zox S fr Ls xs=true-> ∀ x∈xs,∃ e,slk S fr x=some e/\zdY e.2 Ls=true
 | [],_,x,hx=>by cases hx
 | y::r,h,x,hx=>by
  unfold zox at h
  split at h
  ·rename_i e he
   split at h
   ·rename_i hs
    rcases List.mem_cons.1 hx with rfl | hx
    ·exact ⟨e,he,hs⟩
    ·exact zjw h x hx
   ·cases h
  ·cases h
theorem SpI.want (h:SpI N S fr a) (hg:zmS l S o=some Ls):(Hd S Ls->Region.wanted o (yielded l.toArray a.tmps)=true)/\(¬ Hd S Ls->Region.wanted o (yielded l.toArray a.tmps)=false):=by
 unfold zmS at hg
 unfold Region.wanted
 split at hg
 ·rename_i hn
  cases hg
  rw [hn]
  exact ⟨fun _=>rfl,fun k=>absurd (fun p hp=>by cases hp) k⟩
 ·rename_i j b hn
  rw [hn]
  split at hg
  ·rename_i d hd
   split at hg
   ·rename_i g ls hs
    cases hg
    have hon:=h.on d _ _ hs
    constructor
    ·intro k
     have k2:Hd S ls:=fun p hp=>k p (zcm _ hp)
     obtain ⟨ls',h1⟩:=k (d,b) zcs
     rw [hs] at h1
     cases h1
     simp only [yielded,zbm,hd,zbs,hon.1 k2]
     cases b<;>rfl
    ·intro k
     by_cases k2:Hd S ls
     ·have hgb:g ≠ b:=fun e=>k (fun p hp=>by
       rcases List.mem_cons.1 hp with rfl | hp
       ·exact ⟨ls,by rw [hs,e]⟩
       ·exact k2 p hp)
      simp only [yielded,zbm,hd,zbs,hon.1 k2]
      cases g<;>cases b<;>first | rfl | exact absurd rfl hgb
     ·simp only [yielded,zbm,hd,zbs,hon.2 k2]
      cases b<;>rfl
   ·cases hg
  ·cases hg
theorem SpI.val (h:SpI N S fr a) {v:Value} {E:List (Value×Value)} (hv:zsc P lv pk i S fr Ls o=some (v,E)) (hE: ∀ p∈E,p.1=p.2) (hl: ∀ i e,zky lv i=some e->e.Φ w) (hk:Hd S Ls):(execOp a.eval o).run P w= .ok (.value v) w:=by
 unfold zsc at hv
 split at hv
 ·rename_i c x y ho
  split at hv
  split at hv
  ·rename_i g lc la b lb h1 h2 h3
   split at hv
   ·rename_i s1 s2 s3
    cases hv
    have e1:=h.lk h1 (hk.sub s1)
    simp only [execOp,ho,e1,asBool]
    cases g with
    | true=>
     have hc:Hd S ((c,true)::Ls)\/Hd S la:= .inr (fun p hp=>by
      rcases List.mem_cons.1 (zdh s2 p hp) with rfl | hp2
      ·cases hsc:zho S c with
       | none=>
        exfalso
        cases x with
        | tmp t=>
         simp only [slk] at h2
         split at h2
         ·rename_i e he;cases h2;obtain ⟨u,hu⟩:=h.closed t _ _ he _ hp;rw [hsc] at hu;cases hu
         ·split at h2<;>cases h2;cases hp
        | const u=>simp only [slk] at h2;cases h2;cases hp
        | global g=>simp only [slk] at h2;cases h2
        | func f=>simp only [slk] at h2;cases h2
       | some u=>
        simp only [slk,hsc] at h1
        cases h1
        exact ⟨_,rfl⟩
      ·exact hk p hp2)
     have e2:=h.lk h2 (hc.elim (fun k=>k.sub s2) id)
     simp [e2]
    | false=>
     have e3:=h.lk h3 (fun p hp=>by
      rcases List.mem_cons.1 (zdh s3 p hp) with rfl | hp2
      ·cases hsc:zho S c with
       | none=>
        exfalso
        cases y with
        | tmp t=>
         simp only [slk] at h3
         split at h3
         ·rename_i e he;cases h3;obtain ⟨u,hu⟩:=h.closed t _ _ he _ hp;rw [hsc] at hu;cases hu
         ·split at h3<;>cases h3;cases hp
        | const u=>simp only [slk] at h3;cases h3;cases hp
        | global g=>simp only [slk] at h3;cases h3
        | func f=>simp only [slk] at h3;cases h3
       | some u=>
        simp only [slk,hsc] at h1
        cases h1
        exact ⟨_,rfl⟩
      ·exact hk p hp2)
     simp [e3]
   ·cases hv
  ·cases hv
  split at hv
  ·rename_i g lc a' la lb h1 h2 h3
   split at hv
   ·rename_i s1 s2 s3
    cases hv
    have e1:=h.lk h1 (hk.sub s1)
    simp only [execOp,ho,e1,asBool]
    cases g with
    | true=>
     have e2:=h.lk h2 (fun p hp=>by
      rcases List.mem_cons.1 (zdh s2 p hp) with rfl | hp2
      ·cases hsc:zho S c with
       | none=>
        exfalso
        cases x with
        | tmp t=>
         simp only [slk] at h2
         split at h2
         ·rename_i e he;cases h2;obtain ⟨u,hu⟩:=h.closed t _ _ he _ hp;rw [hsc] at hu;cases hu
         ·split at h2<;>cases h2;cases hp
        | const u=>simp only [slk] at h2;cases h2;cases hp
        | global g=>simp only [slk] at h2;cases h2
        | func f=>simp only [slk] at h2;cases h2
       | some u=>
        simp only [slk,hsc] at h1
        cases h1
        exact ⟨_,rfl⟩
      ·exact hk p hp2)
     simp [e2]
    | false=>
     have e3:=h.lk h3 (fun p hp=>by
      rcases List.mem_cons.1 (zdh s3 p hp) with rfl | hp2
      ·cases hsc:zho S c with
       | none=>
        exfalso
        cases y with
        | tmp t=>
         simp only [slk] at h3
         split at h3
         ·rename_i e he;cases h3;obtain ⟨u,hu⟩:=h.closed t _ _ he _ hp;rw [hsc] at hu;cases hu
         ·split at h3<;>cases h3;cases hp
        | const u=>simp only [slk] at h3;cases h3;cases hp
        | global g=>simp only [slk] at h3;cases h3
        | func f=>simp only [slk] at h3;cases h3
       | some u=>
        simp only [slk,hsc] at h1
        cases h1
        exact ⟨_,rfl⟩
      ·exact hk p hp2)
     simp [e3]
   ·cases hv
  ·cases hv
  cases hv
 ·rename_i t x ho
  split at hv
  ·rename_i ad u p la h1 h2
   split at hv
   ·rename_i s1 hA
    cases hv
    have e1:=h.lk h2 (hk.sub s1)
    have e2:=hE _ zcs
    simp only at e2
    have h3:=zff (P:=P) (w:=w) hA (hl i _ h1)
    simp only [execOp,ho]
    rw [e1,e2]
    simp [h3]
   ·cases hv
  ·rename_i b k cs p la h1 h2
   split at hv
   ·rename_i m s1 hA hz
    split at hv
    ·rename_i hm
     cases hv
     have hm:=Nat.eq_of_beq_eq_true hm
     subst hm
     have e1:=h.lk h2 (hk.sub s1)
     have e2:=hE _ zcs
     simp only at e2
     have h3:=zfg (P:=P) (w:=w) hA hz (hl i _ h1)
     simp only [execOp,ho]
     rw [e1,e2]
     simp [h3]
    ·cases hv
   ·cases hv
  ·cases hv
 ·split at hv
  ·rename_i hs ho
   split at hv
   ·rename_i u hu
    cases hv
    rw [zd5 (ρ':=zsb S fr) hs (fun x hx=> ?_)]
    ·exact jB hu w
    ·obtain ⟨e,he,hs2⟩:=zjw ho x hx
     rw [h.lk (v:=e.1) (la:=e.2) he (hk.sub hs2)]
     simp [zsb,he]
   ·cases hv
  ·cases hv
theorem zeW {d t:Nat} {e:Value×List (Nat×Bool)}:zho ((d,e)::S) t=if d=t then some e else zho S t:=by
 simp only [zho]
 cases h:Nat.beq d t with
 | true=>rw [if_pos (Nat.eq_of_beq_eq_true h)]
 | false=>rw [if_neg (Nat.ne_of_beq_eq_false h)]
theorem SpI.put (h:SpI N S fr a) {d:Nat} {v u:Value} (hd:Nat.blt d N=true) (hn:zho S d=none) (hg:zmS l S o=some Ls) (h1:Hd S Ls->u=v) (h2: ¬ Hd S Ls->u=undef):SpI N ((d,v,Ls)::S) fr (a.put (some d) u):=by
 have hd':d<N:=by simpa [Nat.blt_eq] using hd
 have hcl: ∀ p∈Ls,∃ z,zho S p.1=some z:=by
  unfold zmS at hg
  split at hg
  ·cases hg;intro p hp;cases hp
  ·split at hg
   ·split at hg
    ·rename_i d' _ g ls hs
     cases hg
     intro p hp
     rcases List.mem_cons.1 hp with rfl | hp
     ·exact ⟨_,hs⟩
     ·exact h.closed _ _ _ hs p hp
    ·cases hg
   ·cases hg
 have hH: ∀ Ls',(∀ p∈Ls',∃ z,zho S p.1=some z)->(Hd ((d,v,Ls)::S) Ls'↔Hd S Ls'):=by
  intro Ls' hc
  have: ∀ p∈Ls',zho ((d,v,Ls)::S) p.1=zho S p.1:=by
   intro p hp
   rw [zeW,if_neg]
   rintro rfl
   obtain ⟨z,hz⟩:=hc p hp
   rw [hn] at hz;cases hz
  exact ⟨fun k p hp=>by rw [<- this p hp];exact k p hp,fun k p hp=>by rw [this p hp];exact k p hp⟩
 refine ⟨by simp [Act.put,h.size],by simp [Act.put,h.defers],fun t v' Ls' ht=> ?_,fun t v' ht hf=> ?_,fun t v' Ls' ht p hp=> ?_⟩
 ·rw [zeW] at ht
  by_cases e:d=t
  ·subst e
   rw [if_pos rfl] at ht
   cases ht
   have hx:(a.put (some d) u).tmps[d]? =some u:=by simp [Act.put,h.size,hd']
   rw [hx]
   exact ⟨fun k=>by rw [h1 ((hH Ls hcl).1 k)],fun k=>by rw [h2 (fun q=>k ((hH Ls hcl).2 q))]⟩
  ·rw [if_neg e] at ht
   have hx:(a.put (some d) u).tmps[t]? =a.tmps[t]? :=by simp only [Act.put];exact Array.getElem?_setIfInBounds_ne e
   rw [hx]
   have hc:=h.closed t v' Ls' ht
   exact ⟨fun k=>(h.on t v' Ls' ht).1 ((hH Ls' hc).1 k),fun k=>(h.on t v' Ls' ht).2 (fun q=>k ((hH Ls' hc).2 q))⟩
 ·rw [zeW] at ht
  by_cases e:d=t
  ·rw [if_pos e] at ht;cases ht
  ·rw [if_neg e] at ht
   have hx:(a.put (some d) u).tmps[t]? =a.tmps[t]? :=by simp only [Act.put];exact Array.getElem?_setIfInBounds_ne e
   rw [hx];exact h.off t v' ht hf
 ·have hex: ∃ z,zho S p.1=some z:=by
   rw [zeW] at ht
   by_cases e:d=t
   ·rw [if_pos e] at ht;cases ht;exact hcl p hp
   ·rw [if_neg e] at ht;exact h.closed t v' Ls' ht p hp
  obtain ⟨z,hz⟩:=hex
  refine ⟨z,?_⟩
  rw [zeW,if_neg]
  ·exact hz
  ·rintro rfl;rw [hn] at hz;cases hz
theorem zsd (G:Nat->Act->Prop) (hl: ∀ i e,zky lv i=some e->e.Φ w)
  (step: ∀ i a o,vg l i=some o->(Region.wanted o (yielded l.toArray a.tmps)=true-> ∀ v d,o.dst=some d->(execOp a.eval o).run P w= .ok (.value v) w->G (i+1) (a.put (some d) v)->G i a)/\
   (Region.wanted o (yielded l.toArray a.tmps)=false-> ∀ d,o.dst=some d->G (i+1) (a.put (some d) undef)->G i a)):
  ∀ (n i:Nat) (S:SpS) (E:List (Value×Value)) {S2:SpS} {E2:List (Value×Value)} {a:Act},zik P l N lv pk fr n i S E=some (S2,E2)->(∀ p∈E2,p.1=p.2)->SpI N S fr a->(∀ a',SpI N S2 fr a'->G (i+n) a')->G i a:=by
 have hmono: ∀ (n i:Nat) (S:SpS) (E:List (Value×Value)) {S2:SpS} {E2:List (Value×Value)},zik P l N lv pk fr n i S E=some (S2,E2)-> ∀ p∈E,p∈E2:=by
  intro n
  induction n with
  | zero=>intro i S E S2 E2 h p hp;simp only [zik,Option.some.injEq,Prod.mk.injEq] at h;rw [<- h.2];exact hp
  | succ n ih=>
   intro i S E S2 E2 h p hp
   unfold zik at h
   split at h
   ·cases h
   ·split at h
    ·split at h
     ·split at h
      ·exact ih _ _ _ h p (zar _ hp)
      ·cases h
     ·cases h
    ·cases h
 intro n
 induction n with
 | zero=>intro i S E S2 E2 a h _ hI k;simp only [zik,Option.some.injEq,Prod.mk.injEq] at h;exact k a (by rw [<- h.1];exact hI)
 | succ n ih=>
  intro i S E S2 E2 a h hE hI k
  have h0:=h
  unfold zik at h
  split at h
  ·cases h
  ·rename_i o ho
   split at h
   ·rename_i d Ls hd hg
    split at h
    ·rename_i hN hn
     split at h
     ·rename_i v e hv
      have hEe: ∀ p∈e,p.1=p.2:=fun p hp=>hE p (hmono _ _ _ _ h p (zal _ hp))
      obtain ⟨s1,s2⟩:=step i a o ho
      by_cases hk:Hd S Ls
      ·refine s1 ((hI.want hg).1 hk) v d hd (hI.val hv hEe hl hk) (ih _ _ _ h hE (hI.put hN hn hg (fun _=>rfl) (fun q=>absurd hk q)) ?_)
       intro a' hI'
       have:=k a' hI'
       rwa [Nat.add_assoc,Nat.add_comm 1 n]
      ·refine s2 ((hI.want hg).2 hk) d hd (ih _ _ _ h hE (hI.put hN hn hg (fun q=>absurd q hk) (fun _=>rfl)) ?_)
       intro a' hI'
       have:=k a' hI'
       rwa [Nat.add_assoc,Nat.add_comm 1 n]
     ·cases h
    ·cases h
   ·cases h
def zjx (S:SpS) (fr:Fr):List Nat->Bool
 | []=>true
 | q::r=>(match zho S q with
  | some (_,[])=>true
  | some _=>false
  | none=>match zeu fr q with
   | some _=>true
   | none=>false)&&zjx S fr r
def zrb (S:SpS) (fr:Fr):List Nat->Fr
 | []=> []
 | q::r=>(q,match zho S q with
  | some (v,_)=>v
  | none=>(zeu fr q).getD undef)::zrb S fr r
theorem SpI.rep (h:SpI N S fr a): ∀ {live:List Nat},zjx S fr live=true->Rep N (zrb S fr live) a
 | [],_=>⟨h.size,h.defers,fun i v hi=>by cases hi⟩
 | q::r,hl=>by
  unfold zjx at hl
  rw [zae] at hl
  have ih:=h.rep hl.2
  refine ⟨h.size,h.defers,fun i v hi=> ?_⟩
  simp only [zrb] at hi
  rw [zaO] at hi
  split at hi
  ·rename_i e
   subst e
   have h1:=hl.1
   split at h1
   ·rename_i u he
    rw [he] at hi
    cases hi
    exact (h.on q _ _ he).1 (fun p hp=>by cases hp)
   ·cases h1
   ·rename_i he
    split at h1
    ·rename_i u hu
     rw [he,hu] at hi
     cases hi
     exact h.off q _ he hu
    ·cases h1
  ·exact ih.get i v hi
theorem SpI.init (ha:Rep N fr a):SpI N [] fr a:=⟨ha.size,ha.defers,fun t v Ls h=>(by cases h),fun t v _ hf=>ha.get t v hf,fun t v Ls h=>(by cases h)⟩
end
structure LvR (one many:List (Nat×LH)) (Fs:List Fa) (L:List zz) (w0:World) (Z:List Nat) (lv:List (Nat×Pn)):Prop where
 o: ∀ w,zbG w0 Z Fs->St w0 Z w L-> ∀ p∈lv,p.2.Φ w
section
variable {ρ:Type} {h:LH} {hs hs':List H} {f:Option ρ} {r:ρ} {Fs Fs':List Fa} {L L':List zz} {fr:Fr} {P:Program} {B:Func} {N:Nat} {w0:World} {Z:List Nat} {c x y:Code} {Q:Exit->Act->World->Prop} {l:List Oper} {i:Nat} {e:Exit} {v:Value} {one many:List (Nat×LH)} {lv:List (Nat×Pn)}
theorem LvR.nil:LvR [] [] Fs L w0 Z []:=⟨fun _ _ _ p hp=>by cases hp⟩
theorem LvR.c1 {j:Nat} {a:Addr} (h1:Cel Fs L w0 Z h a v) (n:LvR one many Fs L w0 Z lv):LvR ((j,h)::one) many Fs L w0 Z ((j,.c a v)::lv):=⟨fun w al s p hp=>by
 rcases List.mem_cons.1 hp with rfl | hp
 ·exact h1.o w al s
 ·exact n.o w al s p hp⟩
theorem zjy {α:Type}: ∀ {xs:List (Nat×α)} {n:Nat} {x:α},zky xs n=some x-> ∃ p∈xs,p.2=x
 | [],_,_,h=>by cases h
 | p::r,n,x,h=>by
  unfold zky at h
  split at h
  ·cases h;exact ⟨p,zcs,rfl⟩
  ·obtain ⟨q,hq,e⟩:=zjy h;exact ⟨q,zcm _ hq,e⟩
def spS (P:Program) (l:List Oper) (N:Nat) (lv:List (Nat×Pn)) (pk:List (Nat×Bool)) (fr:Fr):SpS:=match zik P l N lv pk fr l.length 0 [] [] with
 | some p=>p.1
 | none=> []
def spE (P:Program) (l:List Oper) (N:Nat) (lv:List (Nat×Pn)) (pk:List (Nat×Bool)) (fr:Fr):Option (List (Value×Value)):=match zik P l N lv pk fr l.length 0 [] [] with
 | some p=>some p.2
 | none=>none
theorem zjz: ∀ {E:List (Value×Value)},E.map (·.1)=E.map (·.2)-> ∀ p∈E,p.1=p.2
 | [],_,p,hp=>by cases hp
 | q::r,h,p,hp=>by
  simp only [List.map_cons,List.cons.injEq] at h
  rcases List.mem_cons.1 hp with rfl | hp
  ·exact h.1
  ·exact zjz h.2 p hp
theorem GC.sc {id:Nat} {live:List Nat} {pk:List (Nat×Bool)} (hl:LvR one many Fs L w0 Z lv) (he:KR (spE P l N lv pk fr).isSome true) (hE:KR (((spE P l N lv pk fr).getD []).map (·.1)) (((spE P l N lv pk fr).getD []).map (·.2))) (hv:KR (zjx (spS P l N lv pk fr) fr live) true)
  (n:GQ hs f r Fs L (zrb (spS P l N lv pk fr) fr live) P B N w0 Z .normal Q):GC (.sc live one many pk::hs) f r Fs L fr P B N w0 Z (.region id l.toArray false) Q:=⟨fun w a s e=>by
 refine CW.region fun b hb=> ?_
 have h1:=he.h
 have h2:=zjz hE.h
 have h3:=hv.h
 have h4:=n.o w a s e
 unfold spE at h1 h2
 unfold spS at h3 h4
 cases hr:zik P l N lv pk fr l.length 0 [] [] with
 | none=>rw [hr] at h1;cases h1
 | some p=>
  rw [hr] at h2 h3 h4
  have key:=zsd (P:=P) (l:=l) (N:=N) (lv:=lv) (pk:=pk) (fr:=fr) (w:=w) (fun i a=>wpList P l.toArray Q (l.drop i) a w)
   (fun i e hi=>by obtain ⟨q,hq,rfl⟩:=zjy hi;exact hl.o w a s q hq)
   (fun i a o ho=>⟨fun hw v d hd hrun k=>by
     show wpList P l.toArray Q (l.drop i) a w
     rw [zap ho]
     refine wpList_step (fun K hK=> ?_)
     rw [if_pos hw]
     unfold Oper.wp
     rw [hrun,Oper.upon_value,hd]
     exact hK _ _ k,
    fun hw d hd k=>by
     show wpList P l.toArray Q (l.drop i) a w
     rw [zap ho]
     refine wpList_step (fun K hK=> ?_)
     rw [hw,hd]
     exact hK _ _ k⟩) l.length 0 [] [] (a:=b) hr h2 (SpI.init hb) (fun a' hI=>by
    have h5:=h4 a' (hI.rep h3)
    have h6:=OW.nil (P:=P) (l:=l) (N:=N) (Q:=Q) (i:=l.length) (fr:=zrb p.1 fr live) (w:=w) (by
     cases hh:vg l l.length with
     | none=>rfl
     | some o=>exact absurd (zjm hh) (by omega)) h4 a' (hI.rep h3)
    simpa using h6)
  exact key⟩
theorem GC.scB {id:Nat} {arr:Array Oper} {live:List Nat} {pk:List (Nat×Bool)} (hR:KR arr (zjt B id).toArray) (hl:LvR one many Fs L w0 Z lv) (he:KR (spE P (zjt B id) N lv pk fr).isSome true) (hE:KR (((spE P (zjt B id) N lv pk fr).getD []).map (·.1)) (((spE P (zjt B id) N lv pk fr).getD []).map (·.2))) (hv:KR (zjx (spS P (zjt B id) N lv pk fr) fr live) true)
 (n:GQ hs f r Fs L (zrb (spS P (zjt B id) N lv pk fr) fr live) P B N w0 Z .normal Q):GC (.sc live one many pk::hs) f r Fs L fr P B N w0 Z (.region id arr false) Q:=by have:=hR.h;subst this;exact GC.sc hl he hE hv n
end
end Go.Sx
namespace Go.Sx
open Go.RowKit
section
variable {h:LH} {Fs Fs':List Fa} {L L':List zz} {fr:Fr} {P:Program} {B:Func} {N:Nat} {w0:World} {Z:List Nat} {l:List Oper} {i:Nat} {v:Value}
theorem LkV.of {o:Oper} (ho:okO l N fr i=some o) (hs:vS o.op=true) (hr:zbG w0 Z Fs-> ∀ a w,Rep N fr a->(execOp a.eval o).run P w= .ok (.value v) w):LkV Fs fr P B N w0 Z h l i v:=by
 obtain ⟨d,hl,hg,hd,hN⟩:=jo ho
 exact ⟨o,d,hl,hg,hd,hN,hs,fun a w b hb=>hr a b w hb⟩
def zoy:BinOp->Bool | .quo=>true | _=>false
def zoz:BinOp->Bool | .rem=>true | _=>false
def zkz:BinOp->Bool | .shl=>true | _=>false
def zkA:BinOp->Bool | .shr=>true | _=>false
theorem zoA {o:BinOp} (h:zoy o=true):o= .quo:=by cases o<;>first | rfl | cases h
theorem zoB {o:BinOp} (h:zoz o=true):o= .rem:=by cases o<;>first | rfl | cases h
theorem zli {o:BinOp} (h:zkz o=true):o= .shl:=by cases o<;>first | rfl | cases h
theorem zlj {o:BinOp} (h:zkA o=true):o= .shr:=by cases o<;>first | rfl | cases h
def biC (sel:BinOp->Bool) (l:List Oper) (N:Nat) (fr:Fr) (i:Nat):Option (IntKind×Int×IntKind×Int):=match okO l N fr i with
 | some ⟨_,.binOp op _ x y _,_,_,_,_⟩=>match sel op,look fr x,look fr y with
  | true,some (.int k a),some (.int k2 b)=>some (k,a,k2,b)
  | _,_,_=>none
 | _=>none
theorem zfm {sel:BinOp->Bool} {p:IntKind×Int×IntKind×Int} (h:biC sel l N fr i=some p): ∃ d op t x y t2 ty pos af g,okO l N fr i=some ⟨d,.binOp op t x y t2,ty,pos,af,g⟩/\sel op=true/\look fr x=some (.int p.1 p.2.1)/\look fr y=some (.int p.2.2.1 p.2.2.2):=by
 unfold biC at h
 split at h
 ·rename_i ho
  split at h
  ·rename_i h1 h2 h3
   cases h
   exact ⟨_,_,_,_,_,_,_,_,_,_,ho,h1,h2,h3⟩
  ·cases h
 ·cases h
def biV (p:Option (IntKind×Int×IntKind×Int)) (g:IntKind->Int->Int->Int):Value:=match p with
 | some (k,a,_,b)=> .int k (g k a b)
 | none=>undef
theorem LkV.qu {q:Nat} {b:Int} {u:Unit} (hq:nth Fs q=some (.oe (nz b) u)) (hc:KR ((biC zoy l N fr i).map fun p=>(p.2.2.2,decide (p.1=p.2.2.1))) (some (b,true))):LkV Fs fr P B N w0 Z (.qu q) l i (biV (biC zoy l N fr i) fun k a b=>k.wrap (a.tdiv b)):=by
 have hc:=hc.h
 cases hb:biC zoy l N fr i with
 | none=>rw [hb] at hc;cases hc
 | some p=>
  obtain ⟨k,a,k2,b'⟩:=p
  rw [hb] at hc
  simp only [Option.map_some,Option.some.injEq,Prod.mk.injEq,zdq] at hc
  obtain ⟨rfl,rfl⟩:=hc
  obtain ⟨d,op,t,x,y,t2,ty,pos,af,g,ho,hs,hx,hy⟩:=zfm hb
  have:=zoA hs
  subst this
  refine LkV.of ho rfl fun al r w hr=> ?_
  have hz:b' ≠ 0:=zrT (zA al hq)
  have e1:=hr.look hx
  have e2:=hr.look hy
  simp only at e1 e2
  simp [execOp,eqGuard,binOp,e1,e2,Op.intDiv,hz,biV]
theorem LkV.re {q:Nat} {b:Int} {u:Unit} (hq:nth Fs q=some (.oe (nz b) u)) (hc:KR ((biC zoz l N fr i).map fun p=>(p.2.2.2,decide (p.1=p.2.2.1))) (some (b,true))):LkV Fs fr P B N w0 Z (.re q) l i (biV (biC zoz l N fr i) fun k a b=>a.tmod b):=by
 have hc:=hc.h
 cases hb:biC zoz l N fr i with
 | none=>rw [hb] at hc;cases hc
 | some p=>
  obtain ⟨k,a,k2,b'⟩:=p
  rw [hb] at hc
  simp only [Option.map_some,Option.some.injEq,Prod.mk.injEq,zdq] at hc
  obtain ⟨rfl,rfl⟩:=hc
  obtain ⟨d,op,t,x,y,t2,ty,pos,af,g,ho,hs,hx,hy⟩:=zfm hb
  have:=zoB hs
  subst this
  refine LkV.of ho rfl fun al r w hr=> ?_
  have hz:b' ≠ 0:=zrT (zA al hq)
  have e1:=hr.look hx
  have e2:=hr.look hy
  simp only at e1 e2
  simp [execOp,eqGuard,binOp,e1,e2,Op.intDiv,hz,biV]
theorem LkV.hl {q:Nat} {b:Int} {u:Unit} (hq:nth Fs q=some (.oe (nn b) u)) (hc:KR ((biC zkz l N fr i).map fun p=>p.2.2.2) (some b)):LkV Fs fr P B N w0 Z (.hl q) l i (biV (biC zkz l N fr i) fun k a b=>zgJ k a b):=by
 have hc:=hc.h
 cases hb:biC zkz l N fr i with
 | none=>rw [hb] at hc;cases hc
 | some p=>
  obtain ⟨k,a,k2,b'⟩:=p
  rw [hb] at hc
  simp only [Option.map_some,Option.some.injEq] at hc
  subst hc
  obtain ⟨d,op,t,x,y,t2,ty,pos,af,g,ho,hs,hx,hy⟩:=zfm hb
  have:=zli hs
  subst this
  exact LkV.of ho rfl fun al r w hr=>zoe rfl hx hy (zrV (zA al hq)) r w hr
theorem LkV.hr {q:Nat} {b:Int} {u:Unit} (hq:nth Fs q=some (.oe (nn b) u)) (hc:KR ((biC zkA l N fr i).map fun p=>p.2.2.2) (some b)):LkV Fs fr P B N w0 Z (.hr q) l i (biV (biC zkA l N fr i) fun k a b=>zb4 k a b):=by
 have hc:=hc.h
 cases hb:biC zkA l N fr i with
 | none=>rw [hb] at hc;cases hc
 | some p=>
  obtain ⟨k,a,k2,b'⟩:=p
  rw [hb] at hc
  simp only [Option.map_some,Option.some.injEq] at hc
  subst hc
  obtain ⟨d,op,t,x,y,t2,ty,pos,af,g,ho,hs,hx,hy⟩:=zfm hb
  have:=zlj hs
  subst this
  exact LkV.of ho rfl fun al r w hr=>zog rfl hx hy (zrV (zA al hq)) r w hr
theorem LkV.hc {e k m n:Nat} (hq:nth Fs e=some (.ct k m n)) (hc:KR ((biC zkz l N fr i).map fun p=>p.2.2.2) (some (jy ((k:Nat):Int)))):LkV Fs fr P B N w0 Z (.hc e) l i (biV (biC zkz l N fr i) fun k a b=>zgJ k a b):=by
 have hc:=hc.h
 cases hb:biC zkz l N fr i with
 | none=>rw [hb] at hc;cases hc
 | some p=>
  obtain ⟨kk,a,k2,b'⟩:=p
  rw [hb] at hc
  simp only [Option.map_some,Option.some.injEq] at hc
  subst hc
  obtain ⟨d,op,t,x,y,t2,ty,pos,af,g,ho,hs,hx,hy⟩:=zfm hb
  have:=zli hs
  subst this
  exact LkV.of ho rfl fun al r w hr=>zoe rfl hx hy (zod _) r w hr
theorem LkV.hd {e k m n:Nat} (hq:nth Fs e=some (.ct k m n)) (hc:KR ((biC zkA l N fr i).map fun p=>p.2.2.2) (some (jy ((k:Nat):Int)))):LkV Fs fr P B N w0 Z (.hd e) l i (biV (biC zkA l N fr i) fun k a b=>zb4 k a b):=by
 have hc:=hc.h
 cases hb:biC zkA l N fr i with
 | none=>rw [hb] at hc;cases hc
 | some p=>
  obtain ⟨kk,a,k2,b'⟩:=p
  rw [hb] at hc
  simp only [Option.map_some,Option.some.injEq] at hc
  subst hc
  obtain ⟨d,op,t,x,y,t2,ty,pos,af,g,ho,hs,hx,hy⟩:=zfm hb
  have:=zlj hs
  subst this
  exact LkV.of ho rfl fun al r w hr=>zog rfl hx hy (zod _) r w hr
def siC (P:Program) (l:List Oper) (N:Nat) (fr:Fr) (i:Nat):Option (ByteArray×Int):=match okO l N fr i with
 | some ⟨_,.index t x y,_,_,_,_⟩=>match P.underlying t,look fr x,look fr y with
  | some .string,some (.string s),some (.int _ q)=>some (s,q)
  | _,_,_=>none
 | _=>none
theorem LkV.si {q:Nat} {s:ByteArray} {t c:Int} (hq:nth Fs q=some (.oe (zid s t) c)) (hc:KR (siC P l N fr i) (some (s,t))):LkV Fs fr P B N w0 Z (.si q) l i (.int .u8 c):=by
 have hc:=hc.h
 unfold siC at hc
 split at hc
 ·rename_i ho
  split at hc
  ·rename_i h1 h2 h3
   cases hc
   exact LkV.of ho rfl fun al r w hr=>zpr rfl h2 h3 h1 (zA al hq) r w hr
  ·cases hc
 ·cases hc
def zoC:BinOp->Bool | .eql=>true | _=>false
def zoD:BinOp->Bool | .neq=>true | _=>false
theorem zoE {o:BinOp} (h:zoC o=true):o= .eql:=by cases o<;>first | rfl | cases h
theorem zoF {o:BinOp} (h:zoD o=true):o= .neq:=by cases o<;>first | rfl | cases h
def seC (sel:BinOp->Bool) (P:Program) (l:List Oper) (N:Nat) (fr:Fr) (i:Nat):Option Bool:=match okO l N fr i with
 | some ⟨_,.binOp op t x y _,_,_,_,_⟩=>match sel op,look fr x,look fr y,P.eqGuardType P.depth t with
  | true,some (.agg xs),some (.agg ys),false=>zmH P 9 t (.agg xs) (.agg ys)
  | _,_,_,_=>none
 | _=>none
theorem LkV.sq (hc:KR (seC zoC P l N fr i).isSome true):LkV Fs fr P B N w0 Z .sq l i (.bool ((seC zoC P l N fr i).getD false)):=by
 have hc:=hc.h
 cases hb:seC zoC P l N fr i with
 | none=>rw [hb] at hc;cases hc
 | some r=>
  unfold seC at hb
  split at hb
  ·rename_i ho
   split at hb
   ·rename_i h1 h2 h3 h4
    have:=zoE h1
    subst this
    exact LkV.of ho rfl fun al a w hr=>zq5 rfl h2 h3 h4 hb a w hr
   ·cases hb
  ·cases hb
theorem LkV.sn (hc:KR (seC zoD P l N fr i).isSome true):LkV Fs fr P B N w0 Z .sn l i (.bool (!(seC zoD P l N fr i).getD false)):=by
 have hc:=hc.h
 cases hb:seC zoD P l N fr i with
 | none=>rw [hb] at hc;cases hc
 | some r=>
  unfold seC at hb
  split at hb
  ·rename_i ho
   split at hb
   ·rename_i h1 h2 h3 h4
    have:=zoF h1
    subst this
    exact LkV.of ho rfl fun al a w hr=>zpt rfl h2 h3 h4 hb a w hr
   ·cases hb
  ·cases hb
def adC (l:List Oper) (N:Nat) (fr:Fr) (i:Nat):Option (FuncId×Int×Int×Int):=match okO l N fr i with
 | some ⟨_,.call ⟨.value (.func f),⟨[x,y,z]⟩,⟨_⟩⟩,_,_,_,_⟩=>match look fr x,look fr y,look fr z with
  | some (.int .u64 p),some (.int .u64 q),some (.int .u64 c)=>some (f,p,q,c)
  | _,_,_=>none
 | _=>none
def adF (P:Program) (p:Option (FuncId×Int×Int×Int)):Option Func:=match p with
 | some (f,_)=>P.funcs[f]?
 | none=>none
theorem LkV.ad {q:Nat} {p1 p2 p3:Int} {x:Int×Int} (hq:nth Fs q=some (.oe (zlW p1 p2 p3) x)) (hc:KR ((adC l N fr i).map (·.2)) (some (p1,p2,p3))) (h1:KR ((adF P (adC l N fr i)).map fun fn=>(fn.name== "runtime.NumGoroutine",fn.body.isNone)) (some (false,true)))
  (h3:KR ((adF P (adC l N fr i)).bind fun fn=>some (Extern.findNext fn)) (some none)) (h4:KR ((adF P (adC l N fr i)).bind fun fn=>Extern.find fn) (some add64Entry)):LkV Fs fr P B N w0 Z (.ad q) l i (.tuple [.int .u64 x.1,.int .u64 x.2].toArray):=by
 have hc:=hc.h
 have h1:=h1.h
 have h3:=h3.h
 have h4:=h4.h
 cases hb:adC l N fr i with
 | none=>rw [hb] at hc;cases hc
 | some p=>
  obtain ⟨f,a,b,c⟩:=p
  rw [hb] at hc h1 h3 h4
  simp only [Option.map_some,Option.some.injEq,Prod.mk.injEq] at hc
  obtain ⟨rfl,rfl,rfl⟩:=hc
  simp only [adF] at h1 h3 h4
  cases hf:P.funcs[f]? with
  | none=>rw [hf] at h1;cases h1
  | some fn=>
   rw [hf] at h1 h3 h4
   simp only [Option.map_some,Option.some.injEq,Prod.mk.injEq] at h1
   simp only [zbs,Option.some.injEq] at h3 h4
   unfold adC at hb
   split at hb
   ·rename_i ho
    split at hb
    ·rename_i g1 g2 g3
     cases hb
     exact LkV.of ho rfl fun al r w hr=>zmP (u:=x.1) (v:=x.2) rfl g1 g2 g3 hf h1.1 h1.2 h3 h4 (zA al hq) r w hr
    ·cases hb
   ·cases hb
def cpC (P:Program) (l:List Oper) (N:Nat) (fr:Fr) (i:Nat):Option (Value×Option Int×Option Int×Nat):=match okO l N fr i with
 | some ⟨_,.slice t x lo hi none,_,_,_,_⟩=>match P.underlying t,look fr x with
  | some (.slice e),some v=>match zbw P (sizeOf e) with
   | some sz=>match lo,hi with
    | none,some y=>match look fr y with
     | some (.int _ q)=>some (v,none,some q,sz)
     | _=>none
    | some y,none=>match look fr y with
     | some (.int _ q)=>some (v,some q,none,sz)
     | _=>none
    | some y,some z=>match look fr y,look fr z with
     | some (.int _ q),some (.int _ r)=>some (v,some q,some r,sz)
     | _,_=>none
    | none,none=>none
   | none=>none
  | _,_=>none
 | _=>none
theorem LkV.cp {α:Type} {e q sz n c:Nat} {a:Option Addr} {enc:α->List Value} {xs ys:List α} {hi:Int} (he:nth Fs e=some (.rd (.slice a n c) enc sz xs)) (hq:nth Fs q=some (.oe (cut xs 0 hi) ys)) (hc:KR (cpC P l N fr i) (some (.slice a n c,none,some hi,sz))):
  LkV Fs fr P B N w0 Z (.cp e q) l i (.slice a ys.length c):=by
 have hc:=hc.h
 unfold cpC at hc
 split at hc
 ·rename_i ho
  split at hc
  ·rename_i h1 h2
   split at hc
   ·rename_i hz
    split at hc
    ·split at hc
     ·rename_i h3
      cases hc
      exact LkV.of ho rfl fun al r w hr=>zld sz rfl h2 h3 (zA al hq) (Rd.cap (zA al he)) h1 hz r w hr
     ·cases hc
    ·split at hc<;>cases hc
    ·split at hc<;>cases hc
    ·cases hc
   ·cases hc
  ·cases hc
 ·cases hc
theorem LkV.cu {α:Type} {e q sz n c:Nat} {a:Option Addr} {enc:α->List Value} {xs ys:List α} {lo hi:Int} (he:nth Fs e=some (.rd (.slice a n c) enc sz xs)) (hq:nth Fs q=some (.oe (cut xs lo hi) ys)) (hc:KR (cpC P l N fr i) (some (.slice a n c,some lo,some hi,sz))):
  LkV Fs fr P B N w0 Z (.cu e q) l i (.slice (shd a c lo.toNat sz) ys.length (c-lo.toNat)):=by
 have hc:=hc.h
 unfold cpC at hc
 split at hc
 ·rename_i ho
  split at hc
  ·rename_i h1 h2
   split at hc
   ·rename_i hz
    split at hc
    ·split at hc<;>cases hc
    ·split at hc<;>cases hc
    ·split at hc
     ·rename_i h3 h4
      cases hc
      exact LkV.of ho rfl fun al r w hr=>zq3 sz rfl h2 h3 h4 (zA al hq) (Rd.cap (zA al he)) h1 hz r w hr
     ·cases hc
    ·cases hc
   ·cases hc
  ·cases hc
 ·cases hc
theorem LkV.cf {α:Type} {e q sz n c:Nat} {a:Option Addr} {enc:α->List Value} {xs ys:List α} {lo:Int} (he:nth Fs e=some (.rd (.slice a n c) enc sz xs)) (hq:nth Fs q=some (.oe (cut xs lo ((xs.length:Nat):Int)) ys)) (hn:KR n xs.length) (hc:KR (cpC P l N fr i) (some (.slice a n c,some lo,none,sz))):
  LkV Fs fr P B N w0 Z (.cf e q) l i (.slice (shd a c lo.toNat sz) ys.length (c-lo.toNat)):=by
 have hc:=hc.h
 unfold cpC at hc
 split at hc
 ·rename_i ho
  split at hc
  ·rename_i h1 h2
   split at hc
   ·rename_i hz
    split at hc
    ·split at hc<;>cases hc
    ·split at hc
     ·rename_i h3
      cases hc
      exact LkV.of ho rfl fun al r w hr=>zoc sz rfl h2 hn.h h3 (zA al hq) h1 hz r w hr
     ·cases hc
    ·split at hc<;>cases hc
    ·cases hc
   ·cases hc
  ·cases hc
 ·cases hc
theorem Adm.fp {α:Type} {e q sz n c:Nat} {a:Option Addr} {enc:α->List Value} {xs ys:List α} {hi:Int} {Fs1:List Fa} (he:nth Fs e=some (.rd (.slice a n c) enc sz xs)) (hq:nth Fs q=some (.oe (cut xs 0 hi) ys)) (hF:vA Fs (.rd (.slice a ys.length c) enc sz ys)=some Fs1):
 Adm (.fp e q) Fs L (fun _:Unit=>L) (fun _=>Fs1):=⟨fun w0 Z w al s=>⟨(),s,qV (F:= .rd (.slice a ys.length c) enc sz ys) al (Rd.pre (zA al he) (zA al hq)) hF⟩⟩
theorem Adm.fu {α:Type} {e q sz n c:Nat} {a:Option Addr} {enc:α->List Value} {xs ys:List α} {lo hi:Int} {Fs1:List Fa} (he:nth Fs e=some (.rd (.slice a n c) enc sz xs)) (hq:nth Fs q=some (.oe (cut xs lo hi) ys)) (hF:vA Fs (.rd (.slice (shd a c lo.toNat sz) ys.length (c-lo.toNat)) enc sz ys)=some Fs1):
 Adm (.fu e q) Fs L (fun _:Unit=>L) (fun _=>Fs1):=⟨fun w0 Z w al s=>⟨(),s,qV (F:= .rd (.slice (shd a c lo.toNat sz) ys.length (c-lo.toNat)) enc sz ys) al (Rd.part (zA al he) (zA al hq)) hF⟩⟩
end
end Go.Sx
namespace Go.Sx
open Go.RowKit
section
variable {ρ:Type} {h:LH} {hs hs':List H} {f:Option ρ} {r:ρ} {Fs Fs':List Fa} {L L':List zz} {fr:Fr} {P:Program} {B:Func} {N:Nat} {w0:World} {Z:List Nat} {l:List Oper} {i:Nat} {v:Value} {Q:Exit->Act->World->Prop}
def aiC (P:Program) (l:List Oper) (N:Nat) (fr:Fr) (i:Nat):Option (Addr×Int×Nat×Nat):=match okO l N fr i with
 | some ⟨_,.indexAddr t x y,_,_,_,_⟩=>match P.underlying t,look fr x,look fr y with
  | some (.array n e),some (.pointer (some a)),some (.int _ q)=>match zbw P (sizeOf e) with
   | some sz=>some (a,q,n,sz)
   | none=>none
  | _,_,_=>none
 | _=>none
def aiV (p:Option (Addr×Int×Nat×Nat)):Value:=match p with
 | some (⟨b,k,none⟩,q,_,sz)=> .pointer (some ⟨b,k+q.toNat*sz,none⟩)
 | _=>undef
def aiN (p:Option (Addr×Int×Nat×Nat)):Option (Int×Nat):=match p with
 | some (⟨_,_,none⟩,q,n,_)=>some (q,n)
 | _=>none
def inB (p:Option (Int×Nat)):Bool:=match p with
 | some (q,n)=>decide (0<=q/\q<(n:Int))
 | none=>false
theorem zoG {a:Addr} {q:Int} {n sz:Nat} (h:aiC P l N fr i=some (a,q,n,sz)): ∃ d t x y ty pos af g e kd,okO l N fr i=some ⟨d,.indexAddr t x y,ty,pos,af,g⟩/\P.underlying t=some (.array n e)/\look fr x=some (.pointer (some a))/\look fr y=some (.int kd q)/\zbw P (sizeOf e)=some sz:=by
 unfold aiC at h
 split at h
 ·rename_i ho
  split at h
  ·rename_i h1 h2 h3
   split at h
   ·rename_i h4
    cases h
    exact ⟨_,_,_,_,_,_,_,_,_,_,ho,h1,h2,h3,h4⟩
   ·cases h
  ·cases h
 ·cases h
theorem LkV.aiG (hh:zbG w0 Z Fs->inB (aiN (aiC P l N fr i))=true) (hn: ∃ p,aiN (aiC P l N fr i)=some p):LkV Fs fr P B N w0 Z h l i (aiV (aiC P l N fr i)):=by
 obtain ⟨p,hp⟩:=hn
 cases hb:aiC P l N fr i with
 | none=>rw [hb] at hp;cases hp
 | some w=>
  obtain ⟨⟨b,k,s⟩,q,n,sz⟩:=w
  rw [hb] at hh hp
  cases s with
  | some _=>cases hp
  | none=>
   obtain ⟨d,t,x,y,ty,pos,af,g,e,kd,ho,h1,h2,h3,h4⟩:=zoG hb
   refine LkV.of ho rfl fun al=> ?_
   have hi:=hh al
   simp only [aiN,inB,zdq] at hi
   exact zps _ _ rfl h2 h3 hi.1 hi.2 h1 h4
theorem LkV.al (hc:KR (inB (aiN (aiC P l N fr i))) true):LkV Fs fr P B N w0 Z .al l i (aiV (aiC P l N fr i)):=LkV.aiG (fun _=>hc.h) (by
 have:=hc.h
 cases e:aiN (aiC P l N fr i) with
 | none=>rw [e] at this;cases this
 | some p=>exact ⟨p,rfl⟩)
theorem LkV.af {q n x:Nat} {t:Int} (hq:nth Fs q=some (.oe (ain n t) x)) (hc:KR (aiN (aiC P l N fr i)) (some (t,n))):LkV Fs fr P B N w0 Z (.af q) l i (aiV (aiC P l N fr i)):=LkV.aiG (fun al=>by
 rw [hc.h]
 obtain ⟨h1,h2,_⟩:=ziQ (zA al hq)
 simp [inB,h1,h2]) ⟨_,hc.h⟩
theorem LkV.at {α:Type} {q g o:Nat} {v':Value} {xs:List α} {t:Int} {x:α} (hq:nth Fs q=some (.el v' g o t xs x)) (hc:KR (aiN (aiC P l N fr i)) (some (t,xs.length))):LkV Fs fr P B N w0 Z (.at q) l i (aiV (aiC P l N fr i)):=LkV.aiG (fun al=>by
 rw [hc.h]
 obtain ⟨h1,_⟩:=zA al hq
 obtain ⟨h1,h2,_⟩:=qB h1
 simp [inB,h1,h2]) ⟨_,hc.h⟩
theorem zse {α:Type} {w:World} {Z:List Nat} {b o m c sz:Nat} {enc:α->List Value} {xs:List α} {t:Int} {x:α} (h:Rd w Z (.slice (some ⟨b,o,none⟩) m c) enc sz xs) (hx:idx xs t=some x):(Fa.el (.slice (some ⟨b,o,none⟩) m c) b o t xs x).ok w Z:=by
 refine ⟨hx,c,?_⟩
 obtain ⟨_,a,c',e⟩:=Rd.len h
 cases e
 rfl
theorem GO.bt {α:Type} {e b o m c sz:Nat} {enc:α->List Value} {xs:List α} {t:Int} {k:α->Option ρ} {Fs1:α->List Fa} (he:nth Fs e=some (.rd (.slice (some ⟨b,o,none⟩) m c) enc sz xs)) (hF: ∀ x,vA Fs (.el (.slice (some ⟨b,o,none⟩) m c) b o t xs x)=some (Fs1 x))
  (n: ∀ x,GO hs (k x) r (Fs1 x) L fr P B N w0 Z l i Q):GO (.bt e::hs) ((idx xs t).bind k) r Fs L fr P B N w0 Z l i Q:=⟨fun w a s q=>by
 obtain ⟨x,hx,hk⟩:=zq q
 exact (n x).o w (qV (F:= .el (.slice (some ⟨b,o,none⟩) m c) b o t xs x) a (zse (zA a he) hx) (hF x)) s hk⟩
def nzC (P:Program) (l:List Oper) (N:Nat) (fr:Fr) (i:Nat):Option (Option Addr):=match okO l N fr i with
 | some ⟨_,.binOp .eql t x y _,_,_,_,_⟩=>match P.underlying t,look fr x,look fr y with
  | some (.slice _),some (.slice a _ _),some (.slice none 0 0)=>some a
  | _,_,_=>none
 | _=>none
def nzV (p:Option (Option Addr)):Value:=match p with
 | some a=> .bool a.isNone
 | none=>undef
theorem LkV.nz (hc:KR (nzC P l N fr i).isSome true):LkV Fs fr P B N w0 Z .nz l i (nzV (nzC P l N fr i)):=by
 have hc:=hc.h
 cases hb:nzC P l N fr i with
 | none=>rw [hb] at hc;cases hc
 | some a=>
  unfold nzC at hb
  split at hb
  ·rename_i ho
   split at hb
   ·rename_i h1 h2 h3
    cases hb
    exact LkV.of ho rfl fun al=>zpu rfl h2 h3 h1
   ·cases hb
  ·cases hb
theorem GC.nb {α:Type} {e m c sz:Nat} {a:Option Addr} {enc:α->List Value} {xs:List α} {φ:List α->Option ρ} {q:Operand} {x y:Code} {hs1 hs2:List H} (he:nth Fs e=some (.rd (.slice a m c) enc sz xs)) (hφ:f=φ xs) (hp:KR (Nat.blt 0 sz) true) (hz: ∀ x,KR (enc x).length sz)
  (hc:KR (look fr q) (some (.bool a.isNone))) (n1:GC hs1 (φ []) r Fs L fr P B N w0 Z x Q) (n2:GC hs2 f r Fs L fr P B N w0 Z y Q):GC (.nb e hs1 hs2::hs) f r Fs L fr P B N w0 Z (.cond q x y) Q:=⟨fun w al s g=>by
 rcases zft a.isNone with h | h
 ·have hn:xs= []:=Rd.isnil (zA al he) (fun x=>by
   have h1:=(hz x).h
   have h2:0<sz:=by have:=hp.h;simpa [Nat.blt_eq] using this
   exact ⟨(enc x)[0]'(by omega),by simp⟩) h
  rw [hφ,hn] at g
  exact CW.cond_t hc.h h (n1.o w al s g)
 ·exact CW.cond_f hc.h h (n2.o w al s g)⟩
def asC (P:Program) (l:List Oper) (N:Nat) (fr:Fr) (i:Nat):Option (Nat×Nat×Nat×Option Int×Option Int×Nat):=match okO l N fr i with
 | some ⟨_,.slice t x lo hi none,_,_,_,_⟩=>match P.underlying t,look fr x with
  | some (.array n e),some (.pointer (some ⟨b,k,none⟩))=>match zbw P (sizeOf e) with
   | some sz=>match lo,hi with
    | none,none=>some (b,k,n,none,none,sz)
    | none,some y=>match look fr y with
     | some (.int _ q)=>some (b,k,n,none,some q,sz)
     | _=>none
    | some y,some z=>match look fr y,look fr z with
     | some (.int _ q),some (.int _ r)=>some (b,k,n,some q,some r,sz)
     | _,_=>none
    | some _,none=>none
   | none=>none
  | _,_=>none
 | _=>none
def asB (p:Option (Nat×Nat×Nat×Option Int×Option Int×Nat)):Option (Nat×Option Int×Option Int):=p.map fun q=>(q.2.2.1,q.2.2.2.1,q.2.2.2.2.1)
def asV (p:Option (Nat×Nat×Nat×Option Int×Option Int×Nat)) (m:Nat):Value:=match p with
 | some (b,k,n,none,none,_)=> .slice (some ⟨b,k,none⟩) n n
 | some (b,k,n,none,some _,_)=> .slice (some ⟨b,k,none⟩) m n
 | some (b,k,n,some lo,some _,sz)=> .slice (shd (some ⟨b,k,none⟩) n lo.toNat sz) m (n-lo.toNat)
 | _=>undef
theorem LkV.sG {p:Nat×Nat×Nat×Option Int×Option Int×Nat} {m:Nat} (hp:asC P l N fr i=some p)
  (hh:zbG w0 Z Fs->p.2.2.2.2.1 ≠ none-> ∃ (α:Type) (xs ys:List α),xs.length=p.2.2.1/\cut xs (p.2.2.2.1.getD 0) (p.2.2.2.2.1.getD 0)=some ys/\ys.length=m):LkV Fs fr P B N w0 Z h l i (asV (some p) m):=by
 unfold asC at hp
 split at hp
 ·rename_i ho
  split at hp
  ·rename_i h1 h2
   split at hp
   ·rename_i hz
    split at hp
    ·cases hp
     exact LkV.of ho rfl fun al=>zpZ _ rfl h2 h1 hz
    ·split at hp
     ·rename_i h3
      cases hp
      refine LkV.of ho rfl fun al=> ?_
      obtain ⟨α,xs,ys,e1,e2,rfl⟩:=hh al (by simp)
      exact zp1 _ rfl h2 h3 e1 e2 h1 hz
     ·cases hp
    ·split at hp
     ·rename_i h3 h4
      cases hp
      refine LkV.of ho rfl fun al=> ?_
      obtain ⟨α,xs,ys,e1,e2,rfl⟩:=hh al (by simp)
      exact zp0 _ rfl h2 h3 h4 e1 e2 h1 hz
     ·cases hp
    ·cases hp
   ·cases hp
  ·cases hp
 ·cases hp
theorem zoH {p:Option (Nat×Nat×Nat×Option Int×Option Int×Nat)} {a:Nat×Option Int×Option Int} (h:asB p=some a): ∃ q,p=some q/\q.2.2.1=a.1/\q.2.2.2.1=a.2.1/\q.2.2.2.2.1=a.2.2:=by
 cases p with
 | none=>cases h
 | some q=>cases h;exact ⟨q,rfl,rfl,rfl,rfl⟩
theorem LkV.sU {α:Type} {q:Nat} {xs ys:List α} {lo hi:Int} (hq:nth Fs q=some (.oe (cut xs lo hi) ys)) (hc:KR (asB (asC P l N fr i)) (some (xs.length,some lo,some hi))):LkV Fs fr P B N w0 Z (.sU q) l i (asV (asC P l N fr i) ys.length):=by
 obtain ⟨p,e1,e2,e3,e4⟩:=zoH hc.h
 rw [e1]
 exact LkV.sG e1 fun al _=>⟨α,xs,ys,e2.symm,by rw [e3,e4];exact zA al hq,rfl⟩
theorem Giv.ru {α:Type} {j k0 n b q sz:Nat} {T:TypeId} {cs:List Value} {enc:α->List Value} {a:Nat->α} {lo hi:Int} {ys:List α} {js:List Nat} {src:List Src} {Fin:List Fa} (hq:nth Fs q=some (.oe (cut (vp n a) lo hi) ys)) (hj:nth L j=some (jF b T cs)) (hcs:KR cs (cs.take k0++(zcG enc n a++cs.drop (k0+n*sz)))) (hk:KR (Nat.ble k0 cs.length) true)
  (hz: ∀ x,KR (enc x).length sz) (hn:KR (Nat.ble n 9223372036854775807) true) (hm:KR (mem? j js) false) (m:Giv src Fs L js Fin):Giv (.ru j k0 q::src) Fs L js (.rd (.slice (shd (some ⟨b,k0,none⟩) n lo.toNat sz) ys.length (n-lo.toNat)) enc sz ys::Fin):=
 ⟨fun w0 Z w al s=>⟨Rd.part (s.arrRd j (by rw [<- zD];exact hj) enc (fun x=>(hz x).h) n a k0 hcs.h hk.h hn.h js hm.h) (zA al hq),m.g w0 Z w al s⟩⟩
structure CF (Fs:List Fa) (L:List zz) (w0:World) (Z:List Nat) (c:Cs) (b o:Nat) (cs:List Value):Prop where
 o: ∀ w,zbG w0 Z Fs->St w0 Z w L-> ∀ k u,cs[k]? =some u->w.cell? ⟨b,o+k,none⟩=some u
theorem CF.o1 {j b:Nat} {T:TypeId} {cs:List Value} (hj:nth L j=some (jF b T cs)):CF Fs L w0 Z (.o j) b 0 cs:=⟨fun w _ s k u hu=>by
 rw [Nat.zero_add];exact s.blk j (by rw [<- zD];exact hj) hu⟩
theorem CF.p1 {j b:Nat} {T:TypeId} {A cs C:List Value} (hj:nth L j=some (zgD b T A cs C)):CF Fs L w0 Z (.p j) b A.length cs:=⟨fun w _ s k u hu=>s.prt j (by rw [<- zD];exact hj) k hu⟩
theorem CF.r1 {α:Type} {j q g o sz:Nat} {T:TypeId} {v':Value} {enc:α->List Value} {xs xs':List α} {t:Int} {x:α} (he:nth L j=some (zZ v' T enc sz xs')) (hq:nth Fs q=some (.el v' g o t xs x)) (hxx:KR xs' xs) (hz: ∀ x,KR (enc x).length sz):CF Fs L w0 Z (.r j q) g (o+t.toNat*sz) (enc x):=
 ⟨fun w a s k u hu=>by
  have he:=he
  rw [hxx.h] at he
  obtain ⟨h1,c,h2⟩:=zA a hq
  exact s.rowc j (by rw [<- zD];exact he) (fun x=>(hz x).h) h1 h2 k u hu⟩
theorem CF.b1 {e b:Nat} {cs:List Value} (he:nth Fs e=some (.pb b cs)):CF Fs L w0 Z (.b e) b 0 cs:=⟨fun w a s k u hu=>by
 rw [Nat.zero_add];exact RdB.cell (zA a he) s k hu⟩
structure zrc (A B:List Value):Prop where
 e:A=B
theorem zrc.u {A B:List Value} {u:Value} (n:zrc A B):zrc (u::A) (u::B):=⟨by rw [n.e]⟩
theorem zrc.k {A B:List Value} {u v:Value} (h:KR u v) (n:zrc A B):zrc (u::A) (v::B):=⟨by rw [h.h,n.e]⟩
theorem Cel.cc {c:Cs} {b o k:Nat} {cs:List Value} (hC:CF Fs L w0 Z c b o cs) (hv:nth cs k=some v):Cel Fs L w0 Z (.cc c k) ⟨b,o+k,none⟩ v:=⟨fun w a s=>hC.o w a s k v (by rw [<- zD];exact hv)⟩
theorem CF.arr {α:Type} {c:Cs} {b o e k0 n sz x:Nat} {enc:α->List Value} {cs:List Value} {a:Nat->α} {t:Int} (hC:CF Fs L w0 Z c b o cs) (hq:nth Fs e=some (.oe (ain n t) x))
  (hcs:KR cs (cs.take k0++(zcG enc n a++cs.drop (k0+n*sz)))) (hk:KR (Nat.ble k0 cs.length) true) (hz: ∀ x,KR (enc x).length sz):CF Fs L w0 Z c b (o+k0+t.toNat*sz) (enc (a x)):=
 ⟨fun w al s k u hu=>zlf (fun f u hf=>hC.o w al s f u hf) enc (fun x=>(hz x).h) n a k0 hcs.h hk.h (zA al hq) k u hu⟩
theorem Cel.ca {α:Type} {c:Cs} {b o e k0 ff n sz x:Nat} {enc:α->List Value} {cs:List Value} {a:Nat->α} {t:Int} {u:Value} (hC:CF Fs L w0 Z c b o cs) (hq:nth Fs e=some (.oe (ain n t) x)) (hu:nth cs k0=some u) (ha:nth (enc (a 0)) 0=some u)
  (hcs:KR cs (cs.take k0++(zcG enc n a++cs.drop (k0+n*sz)))) (hk:KR (Nat.ble k0 cs.length) true) (hz: ∀ x,KR (enc x).length sz) (hv:nth (enc (a x)) ff=some v):Cel Fs L w0 Z (.ca c e k0 ff sz enc) ⟨b,o+k0+t.toNat*sz+ff,none⟩ v:=
 ⟨fun w al s=>(CF.arr hC hq hcs hk hz).o w al s ff v (by rw [<- zD];exact hv)⟩
theorem zhy.cA {α:Type} {c:Cs} {b o e k0 ff n m sz x:Nat} {enc:α->List Value} {cs us:List Value} {a:Nat->α} {t:Int} {u:Value} (hC:CF Fs L w0 Z c b o cs) (hq:nth Fs e=some (.oe (ain n t) x)) (hu:nth cs k0=some u) (ha:nth (enc (a 0)) 0=some u)
  (hcs:KR cs (cs.take k0++(zcG enc n a++cs.drop (k0+n*sz)))) (hk:KR (Nat.ble k0 cs.length) true) (hz: ∀ x,KR (enc x).length sz) (hv:zoo (enc (a x)) ff m=some us):zhy Fs L w0 Z (.cA c e k0 ff m sz enc) b (o+k0+t.toNat*sz+ff) us:=
 ⟨fun w al s j u hj=>by
  rw [Nat.add_assoc];exact (CF.arr hC hq hcs hk hz).o w al s (ff+j) u ((zdX hv).2 j u hj)⟩
def zr0 {α:Type} (enc:α->List Value):Nat->(Nat->α)->List Value->Option (List Value)
 | 0,_,C=>some C
 | n+1,a,C=>match zr0 enc n (fun i=>a (i+1)) C with
  | some q=>zg0 (enc (a 0)) q
  | none=>none
theorem zmT {α:Type} {enc:α->List Value}: ∀ {n:Nat} {a:Nat->α} {C q:List Value},zr0 enc n a C=some q->q=zcG enc n a++C
 | 0,_,_,_,h=>by cases h;rfl
 | n+1,a,C,q,h=>by
  unfold zr0 at h
  split at h
  ·rename_i e
   rw [zcU h,zmT e,zcG,List.append_assoc]
  ·cases h
def zoI {α:Type}:List α->Nat->Option (List α)
 | l,0=>some l
 | [],_+1=>none
 | _::r,n+1=>zoI r n
theorem zlk {α:Type}: ∀ {l q:List α} {n:Nat},zoI l n=some q->q=l.drop n
 | l,q,0,h=>by cases l<;>(cases h;rfl)
 | [],_,_+1,h=>by cases h
 | _::r,q,n+1,h=>by rw [List.drop_succ_cons];exact zlk h
theorem zll {α:Type}: ∀ {l q:List α} {n:Nat},ziS l n=some q->q=l.take n
 | l,q,0,h=>by cases l<;>(cases h;rfl)
 | [],_,_+1,h=>by cases h
 | x::r,q,n+1,h=>by
  unfold ziS at h
  split at h
  ·rename_i e;cases h;rw [List.take_succ_cons,zll e]
  ·cases h
theorem zez {k m:Nat} {b:Nat} {us:List Value} (hc:stC P l fr i m=some ⟨b,k,none⟩) (hw:zcX (stV l fr i)=some us) (hm:us.length=m):
  ∃ t x y ty pos af g u,vg l i=some ⟨none,.store t x y,ty,pos,af,g⟩/\gd l fr ⟨none,.store t x y,ty,pos,af,g⟩=some true/\look fr x=some (.pointer (some ⟨b,k,none⟩))/\look fr y=some u/\u.cells.toList=us/\zbw P (sizeOf t)=some u.cells.toList.length:=by
 obtain ⟨u,hu,hcs⟩:=zeV hw
 unfold stC at hc
 unfold stV at hu
 split at hc
 ·rename_i t x' y' ty pos af g hl
  rw [hl] at hu
  simp only at hu
  split at hc
  ·rename_i a' m' hg hx hz
   split at hc
   ·rename_i hb
    have e1:=Nat.eq_of_beq_eq_true hb
    cases hc
    exact ⟨_,_,_,_,_,_,_,u,hl,hg,hx,hu,hcs,by rw [hcs,hz,e1,hm]⟩
   ·cases hc
  ·cases hc
 ·cases hc
theorem GO.sa {α:Type} {j e k0 ff m n sz b x:Nat} {enc:α->List Value} {dec:List Value->α} {T:TypeId} {cs us cs1 A C q cs':List Value} {a:Nat->α} {t:Int} {u:Value} {L1:List zz} (hj:nth L j=some (jF b T cs)) (hq:nth Fs e=some (.oe (ain n t) x))
  (hu:nth cs k0=some u) (ha:nth (enc (a 0)) 0=some u) (hcs:KR cs (cs.take k0++(zcG enc n a++cs.drop (k0+n*sz)))) (hk:KR (Nat.ble k0 cs.length) true) (hz: ∀ x,KR (enc x).length sz)
  (hv:ziT (stV l fr i) 0 m=some us) (hw:KR (zcX (stV l fr i)) (some us)) (hs':zcV (enc (a x)) us ff=some cs1) (hd:KR (enc (dec cs1)) cs1) (hc:KR (stC P l fr i m) (some ⟨b,k0+t.toNat*sz+ff,none⟩))
  (hm:KR us.length m) (h1:KR (zec us) true) (h0:KR (zmM us) true) (hA:ziS cs k0=some A) (hC:zoI cs (k0+n*sz)=some C) (hN:zr0 enc n (zcg a x (dec cs1)) C=some q) (hQ:zg0 A q=some cs')
  (hL:zch L j (jF b T cs')=some L1) (n:GO hs f r Fs L1 fr P B N w0 Z l (i+1) Q):GO (.sa j e k0 ff m sz enc dec::hs) f r Fs L fr P B N w0 Z l i Q:=⟨fun w al s e=>by
 obtain ⟨t,x',y',ty,pos,af,g,v,hl,hg,hx,hy,hcv,hsz⟩:=zez hc.h hw.h hm.h
 obtain ⟨e3,e4⟩:=zbh hs' (by intro e5;have:=h0.h;rw [e5] at this;cases this)
 rw [<- hcv] at e3 e4
 refine OW.stA s j (by rw [<- zD];exact hj) hl hg hx hy hsz (by rw [hcv];exact h1.h) enc (fun x=>(hz x).h) _ a k0 hcs.h hk.h (zA al hq) ff rfl (Nat.ble_eq_true_of_le (by rw [<- (hz (a _)).h];exact e4)) (dec cs1) (by rw [e3,hd.h]) cs'
  (by rw [zcU hQ,zmT hN,zll hA,zlk hC]) fun w' s'=> ?_
 exact n.o w' al (by rw [qT hL];exact s') e⟩
theorem GO.sra {α:Type} {j q e ff m cn sz sze g o x:Nat} {enc:α->List Value} {dec:List Value->α} {ence:(Nat->α)->List Value} {T:TypeId} {v':Value} {xs xs':List (Nat->α)} {tt t:Int} {z:Nat->α} {us cs1:List Value} {L1:List zz}
  (he:nth L j=some (zZ v' T ence sze xs')) (hq:nth Fs q=some (.el v' g o tt xs z)) (hxx:KR xs' xs) (hi:nth Fs e=some (.oe (ain cn t) x)) (hE: ∀ y,KR (ence y) (zcG enc cn y)) (hze: ∀ y,KR (ence y).length sze) (hz: ∀ x,KR (enc x).length sz)
  (hv:ziT (stV l fr i) 0 m=some us) (hw:KR (zcX (stV l fr i)) (some us)) (hs':zcV (enc (z x)) us ff=some cs1) (hd:KR (enc (dec cs1)) cs1) (hc:KR (stC P l fr i m) (some ⟨g,o+tt.toNat*sze+0+t.toNat*sz+ff,none⟩))
  (hm:KR us.length m) (h1:KR (zec us) true) (h0:KR (zmM us) true) (hL:zch L j (zZ v' T ence sze (xs'.set tt.toNat (zcg z x (dec cs1))))=some L1)
  (n:GO hs f r Fs L1 fr P B N w0 Z l (i+1) Q):GO (.sra j q e ff m sz enc dec::hs) f r Fs L fr P B N w0 Z l i Q:=⟨fun w al s hf=>by
 obtain ⟨t',x',y',ty,pos,af,g',v,hl,hg,hx,hy,hcv,hsz⟩:=zez hc.h hw.h hm.h
 obtain ⟨e3,e4⟩:=zbh hs' (by intro e5;have:=h0.h;rw [e5] at this;cases this)
 rw [<- hcv] at e3 e4
 have hxx:=hxx.h
 subst hxx
 obtain ⟨hx1,cp,hx2⟩:=zA al hq
 have hA: ∀ y:Nat->α,ence y=(ence z).take 0++(zcG enc cn y++(ence z).drop (0+cn*sz)):=fun y=>by
  have h5:(ence z).drop (0+cn*sz)= []:=List.drop_of_length_le (by rw [(hE z).h,ziR (fun x=>(hz x).h)];omega)
  rw [h5,(hE y).h]
  simp
 refine OW.stRA s j (by rw [<- zD];exact he) hx2 (fun x=>(hze x).h) hl hg hx1 hx hy hsz (by rw [hcv];exact h1.h) enc (fun x=>(hz x).h) cn z 0 (hA z) (by cases h9:ence z<;>rfl) (zA al hi) ff rfl (Nat.ble_eq_true_of_le (by rw [<- (hz (z x)).h];exact e4)) (dec cs1) (by rw [e3,hd.h]) (zcg z x (dec cs1)) (hA (zcg z x (dec cs1))) fun w' s'=> ?_
 exact n.o w' al (by rw [qT hL];exact s') hf⟩
theorem zlY {A B:List Value} (h:A.length=B.length):qk A B 0=B:=by
 unfold qk
 rw [List.drop_of_length_le (by omega)]
 simp
theorem GO.srw {α:Type} {j q m cn sze g o:Nat} {enc:α->List Value} {ence:(Nat->α)->List Value} {T:TypeId} {v' u:Value} {xs xs':List (Nat->α)} {tt:Int} {z a:Nat->α} {us:List Value} {L1:List zz}
  (he:nth L j=some (zZ v' T ence sze xs')) (hq:nth Fs q=some (.el v' g o tt xs z)) (hxx:KR xs' xs) (hze: ∀ y,KR (ence y).length sze)
  (hv:ziT (stV l fr i) 0 m=some us) (hu:nth us 0=some u) (ha:nth (enc (a 0)) 0=some u) (hcs:KR (ence a) us) (hw:KR (zcX (stV l fr i)) (some us)) (hc:KR (stC P l fr i m) (some ⟨g,o+tt.toNat*sze+0,none⟩))
  (hm:KR us.length m) (h1:KR (zec us) true) (hL:zch L j (zZ v' T ence sze (xs'.set tt.toNat a))=some L1)
  (n:GO hs f r Fs L1 fr P B N w0 Z l (i+1) Q):GO (.srw j q m cn enc::hs) f r Fs L fr P B N w0 Z l i Q:=⟨fun w al s hf=>by
 obtain ⟨t',x',y',ty,pos,af,g',v,hl,hg,hx,hy,hcv,hsz⟩:=zez hc.h hw.h hm.h
 have hxx:=hxx.h
 subst hxx
 obtain ⟨hx1,cp,hx2⟩:=zA al hq
 have hl1:us.length=sze:=by rw [<- hcs.h];exact (hze a).h
 refine OW.stR s j (by rw [<- zD];exact he) hx2 (fun x=>(hze x).h) hl hg hx1 0 hx rfl hy hsz (by rw [hcv];exact h1.h) (Nat.ble_eq_true_of_le (by rw [hcv];omega)) a (by rw [hcv,zlY (by rw [hl1];exact (hze z).h),hcs.h]) fun w' s'=> ?_
 exact n.o w' al (by rw [qT hL];exact s') hf⟩
theorem GO.sp1 {j k m b:Nat} {T:TypeId} {A C cs us cs':List Value} {L1:List zz} (hj:nth L j=some (zgD b T A cs C)) (hv:ziT (stV l fr i) 0 m=some us) (hs':zcV cs us k=some cs') (hw:KR (zcX (stV l fr i)) (some us)) (hc:KR (stC P l fr i m) (some ⟨b,A.length+k,none⟩))
  (hm:KR us.length m) (h1:KR (zec us) true) (h0:KR (zmM us) true) (hL:zch L j (zgD b T A cs' C)=some L1) (n:GO hs f r Fs L1 fr P B N w0 Z l (i+1) Q):GO (.sp1 j k m::hs) f r Fs L fr P B N w0 Z l i Q:=⟨fun w a s q=>by
 obtain ⟨t,x',y',ty,pos,af,g,v,hl,hg,hx,hy,hcv,hsz⟩:=zez hc.h hw.h hm.h
 obtain ⟨e3,e4⟩:=zbh hs' (by intro e5;have:=h0.h;rw [e5] at this;cases this)
 rw [<- hcv] at e3 e4
 refine OW.stP s j (by rw [<- zD];exact hj) hl hg k hx hy hsz (by rw [hcv];exact h1.h) (Nat.ble_eq_true_of_le e4) cs' e3 fun w' s'=> ?_
 exact n.o w' a (by rw [qT hL];exact s') q⟩
theorem Sim.part {A B:List zz} {b:Nat} {T:TypeId} {X C cs cs':List Value} (h2:KR cs cs') (n:Sim A B):Sim (zgD b T X cs C::A) (zgD b T X cs' C::B):=⟨by rw [h2.h,n.e]⟩
theorem Adm.pt {j k m b:Nat} {T:TypeId} {cs A M C:List Value} {L1:List zz} (hj:nth L j=some (jF b T cs)) (hA:ziS cs k=some A) (hM:zoo cs k m=some M) (hC:zoI cs (k+m)=some C) (he:KR cs (A++(M++C))) (hL:zch L j (zgD b T A M C)=some L1):
  Adm (.pt j k m) Fs L (fun _:Unit=>L1) (fun _=>Fs):=⟨fun w0 Z w al s=>⟨(),by
 have e:L1=L:=by
  rw [qT hL]
  unfold zgD
  rw [<- he.h]
  apply List.ext_getElem?
  intro q
  rw [List.getElem?_set]
  rw [zD] at hj
  split
  ·rename_i h1
   subst h1
   rw [hj]
   simp [(zes.1 hj).1]
  ·rfl
 rw [e];exact s,al⟩⟩
end
end Go.Sx
namespace Go.Sx
def OK {α:Type} (o:Option α) (Q:α->Prop):Prop:= ∃ r,o=some r/\Q r
theorem OK.ret {α:Type} {x:α} {Q:α->Prop} (h:Q x):OK (some x) Q:=⟨x,rfl,h⟩
theorem OK.bind {α β:Type} {o:Option α} {f:α->Option β} {Q:β->Prop} (h:OK o (fun x=>OK (f x) Q)):OK (o.bind f) Q:=by
 obtain ⟨x,rfl,h⟩:=h
 exact h
theorem OK.mono {α:Type} {o:Option α} {Q R:α->Prop} (h:OK o Q) (k: ∀ x,Q x->R x):OK o R:=by
 obtain ⟨x,rfl,h⟩:=h
 exact ⟨x,rfl,k x h⟩
theorem OK.bind2 {α β:Type} {o:Option α} {f:α->Option β} {R:α->Prop} {Q:β->Prop} (h:OK o R) (k: ∀ x,R x->OK (f x) Q):OK (o.bind f) Q:=
 OK.bind (h.mono k)
theorem OK.ite {α:Type} {c:Bool} {A B:Option α} {Q:α->Prop} (h1:c=true->OK A Q) (h2:c=false->OK B Q):
  OK (if c then A else B) Q:=by
 cases c with
 | true=>exact h1 rfl
 | false=>exact h2 rfl
theorem OK.ite_true {α:Type} {c:Bool} {A B:Option α} {Q:α->Prop} (h:c=true) (h1:OK A Q):OK (if c then A else B) Q:=by
 subst h;exact h1
theorem OK.ite_false {α:Type} {c:Bool} {A B:Option α} {Q:α->Prop} (h:c=false) (h1:OK B Q):OK (if c then A else B) Q:=by
 subst h;exact h1
theorem OK.get {α:Type} {xs:List α} {t:Int} {Q:α->Prop} (h0:0<=t) (h1:t<xs.length)
  (h: ∀ x,xs[t.toNat]? =some x->Q x):OK (idx xs t) Q:=by
 have hl:t.toNat<xs.length:=by omega
 refine ⟨xs[t.toNat],?_,h _ (zeg hl)⟩
 unfold Go.Sx.idx
 rw [if_pos h0,zeg hl]
theorem OK.getN {α:Type} {xs:List α} {i:Nat} {Q:α->Prop} (h1:i<xs.length)
  (h: ∀ x,xs[i]? =some x->Q x):OK (Go.Sx.idx xs (i:Int)) Q:=
 OK.get (by omega) (by omega) (fun x hx=>h x (by simpa using hx))
theorem OK.hasRoom {m b:Nat} {Q:Unit->Prop} (h:m*b<=140737488355328) (k:Q ()):OK (room m b) Q:=
 ⟨(),by unfold Go.Sx.room;rw [if_pos h],k⟩
theorem OK.mkl {n:Int} {b:Nat} {Q:Nat->Prop} (h0:0<=n) (h:n.toNat*b<=140737488355328) (k:Q n.toNat):OK (mkLen n b) Q:=
 ⟨n.toNat,by unfold Go.Sx.mkLen;rw [if_pos ⟨h0,h⟩],k⟩
theorem OK.count_from {σ ρ:Type} {body:Nat->(σ->Option ρ)->σ->Option ρ} {out:σ->ρ} {N:Nat} {Q:ρ->Prop} (I:Nat->σ->Prop)
    (hb: ∀ i s again,i<N->I i s->(∀ s',I (i+1) s'->OK (again s') Q)->OK (body i again s) Q)
    (ho: ∀ s,I N s->Q (out s)): ∀ (n i:Nat) (s:σ),i+n=N->I i s->OK (qf body out n i s) Q:=by
  intro n
  induction n with
  | zero => intro i s hi h; have e : i = N := by omega
            subst e;exact OK.ret (ho s h)
  | succ n ih=>intro i s hi h;exact hb i s _ (by omega) h (fun s' h'=>ih (i+1) s' (by omega) h')
theorem OK.count {σ ρ:Type} {body:Nat->(σ->Option ρ)->σ->Option ρ} {out:σ->ρ} {N:Nat} {Q:ρ->Prop} (I:Nat->σ->Prop) {s:σ}
 (h0:I 0 s)
 (hb: ∀ i s again,i<N->I i s->(∀ s',I (i+1) s'->OK (again s') Q)->OK (body i again s) Q)
 (ho: ∀ s,I N s->Q (out s)):OK (qf body out N 0 s) Q:=OK.count_from I hb ho N 0 s (by omega) h0
theorem OK.rounds {σ R:Type} {body:(σ->Option R)->σ->Option R} {Q:R->Prop} (I:σ->Prop) (m:σ->Nat)
  (hb: ∀ s again,I s->(∀ s',I s'->m s'<m s->OK (again s') Q)->OK (body again s) Q):
  ∀ (fu:Nat) (s:σ),I s->m s<fu->OK (loop body fu s) Q:=by
 intro fu
 induction fu with
 | zero=>intro s _ h;omega
 | succ n ih=>intro s h hm;exact hb s _ h (fun s' h' hm'=>ih s' h' (by omega))
theorem OK.none_ {α ρ:Type} {A:Option ρ} {B:α->Option ρ} {Q:ρ->Prop} (h:OK A Q):OK (zdV none A B) Q:=h
theorem OK.some_ {α ρ:Type} {A:Option ρ} {B:α->Option ρ} {Q:ρ->Prop} {x:α} (h:OK (B x) Q):OK (zdV (some x) A B) Q:=h
theorem OK.is {α:Type} {o:Option α} {x:α} (h:OK o (fun y=>y=x)):o=some x:=by
 obtain ⟨y,rfl,rfl⟩:=h
 rfl
theorem zq8 {α:Type} {xs:List α} {i j:Nat} {x:α}:(xs.set i x)[j]? =if i=j then (if i<xs.length then some x else none) else xs[j]? :=by
 rw [List.getElem?_set]
end Go.Sx
namespace Go.Sx
open Go.RowKit
def zd6 {ε σ ρ:Type} (body:ε->σ->Option (σ ⊕ ρ)) (fin:σ->Option ρ):List ε->σ->Option ρ
 | [],s=>fin s
 | e::q,s=>(body e s).bind fun t=>match t with
  | .inl s'=>zd6 body fin q s'
  | .inr r=>some r
def zlS {ε σ ρ:Type} (body:ε->σ->Option (σ ⊕ ρ)) (fin:σ->Option ρ) (m:List ε) (s:σ):Prop:= ∀ q,q.Perm m-> ∀ r,zd6 body fin m s=some r->zd6 body fin q s=some r
theorem zle {β γ:Type} [DecidableEq γ] (f:β->γ) (p:β->Bool): ∀ {l:List β} {b:β},l.Pairwise (fun x y=>f x ≠ f y)->b∈l->p b=true->(l.filter p).Perm (b::l.filter (fun q=>p q&& !decide (f q=f b))):=by
 intro l
 induction l with
 | nil=>intro b _ hb;simp at hb
 | cons x r ih=>
  intro b hl hb hp
  obtain ⟨h1,h2⟩:=List.pairwise_cons.1 hl
  rcases List.mem_cons.1 hb with rfl | hb
  ·have e:(b::r).filter (fun q=>p q&& !decide (f q=f b))=r.filter p:=by
    rw [List.filter_cons,if_neg (by simp)]
    exact List.filter_congr (fun y hy=>by simp [Ne.symm (h1 y hy)])
   rw [e,List.filter_cons,if_pos hp]
  ·have hne:f x ≠ f b:=h1 b hb
   rw [List.filter_cons,List.filter_cons]
   by_cases hx:p x=true
   ·rw [if_pos hx,if_pos (by simp [hx,hne])]
    exact ((ih h2 hb hp).cons x).trans (List.Perm.swap _ _ _)
   ·rw [if_neg hx,if_neg (by simp [hx])]
    exact ih h2 hb hp
structure Rng {α:Type} (w:World) (it r:Nat) (R:Rp α) (S:List Nat) (m rem:List (Int×α)) (last:Option (Int×Value×α)) (mv:List (Int×Value)) (Ss:List (List Nat)) (A:Array MapEntry) (clock since:Nat) (zcy:Array Nat) (c0:Nat):Prop where
 row:zfG w r R S m none mv Ss
 map:w.heap[r]? =some (.map A clock)
 ents:zfz (fun v:Value=>v) mv A.toList clock
 iter:w.heap[it]? =some (.mapIter (some r) since zcy c0)
 apart:it ∉ S
 hold: ∀ x∈A.toList,x.born<since
 le:since<=c0
 le2:since<=clock
 left:rem=((A.toList.zip m).filter (fun p=> !zcy.contains p.1.born)).map (·.2)
 now: ∀ k v x,last=some (k,v,x)->c0=clock/\ ∃ (i:Nat) (e:MapEntry) (s':Array Nat),A.toList[i]? =some e/\mv[i]? =some (k,v)/\m[i]? =some (k,x)/\zcy=s'.push e.born
def zol {α:Type} (it r:Nat) (R:Rp α) (S:List Nat) (m rem:List (Int×α)) (last:Option (Int×Value×α)):zz where
 S:=it::S
 Φ w:= ∃ mv Ss A clock since zcy c0,Rng w it r R S m rem last mv Ss A clock since zcy c0
 loc w w' hb h:=by
  obtain ⟨mv,Ss,A,clock,since,zcy,c0,h⟩:=h
  have hS:=h.row.hS
  refine ⟨mv,Ss,A,clock,since,zcy,c0,h.row.loc (fun b hbs=>hb b (zcm _ hbs)),?_,h.ents,?_,h.apart,h.hold,h.le,h.le2,h.left,h.now⟩
  ·rw [hb r (zcm _ (by rw [hS];exact zcs))];exact h.map
  ·rw [hb it zcs];exact h.iter
 lt w h b hb:=by
  obtain ⟨mv,Ss,A,clock,since,zcy,c0,h⟩:=h
  rcases List.mem_cons.1 hb with rfl | hb
  ·exact (Array.getElem?_eq_some_iff.1 h.iter).1
  ·exact h.row.lt b hb
section
variable {P:Program} {N:Nat} {Q:Exit->Act->World->Prop} {fr fr':List (Nat×Value)} {w w0:World} {l:List Oper} {i:Nat} {o:Oper} {S0:List Nat} {L:List zz} {α:Type} {R:Rp α} {r it:Nat} {S:List Nat} {m rem:List (Int×α)} {last:Option (Int×Value×α)}
theorem OW.range {d:Nat} {t tk te:TypeId} {x:Operand} {ty:TypeId} {pos:String} {af:Array Edge} {gdd:Option (Nat×Bool)} (hst:St w0 S0 w L) (j:Nat) (hj:L[j]? =some (mN r R S m none))
  (hl:vg l i=some ⟨some d,.range t x,ty,pos,af,gdd⟩) (hg:gd l fr ⟨some d,.range t x,ty,pos,af,gdd⟩=some true) (hN:Nat.blt d N=true) (hx:look fr x=some (.map (some r))) (ht:P.underlying t=some (.map tk te))
  (h: ∀ it w',St w0 S0 w' (L.set j (zol it r R S m m none))->OW P l N Q (i+1) ((d,.pointer (some ⟨it,0,none⟩))::fr) w'):OW P l N Q i fr w:=by
 obtain ⟨mv,Ss,hr⟩:=hst.all j _ hj
 obtain ⟨A,clock,hA,hE⟩:=hr.map
 have hlt:=hr.lt
 refine OW.op hl hg rfl hN (w':=w.alloc (.mapIter (some r) clock #[] clock)) (fun a ha=> ?_) (h w.heap.size _ ?_)
 ·have:=run_range_map (P:=P) w t tk te r A clock ht hA
  simp [execOp,ha.look hx,this]
 ·have hchg:Chg (mN r R S m none).S w (w.alloc (.mapIter (some r) clock #[] clock)):=Chg.alloc _ _
  have hold: ∀ b∈S,(w.alloc (.mapIter (some r) clock #[] clock)).heap[b]? =w.heap[b]? :=fun b hb=>Below.heap_alloc _ _ _ (hlt b hb)
  have hnin:w.heap.size ∉ S:=fun hb=>Nat.lt_irrefl _ (hlt _ hb)
  refine hst.upd j hj hchg ⟨mv,Ss,A,clock,clock,#[],clock,hr.loc hold,?_,hE,heap_alloc_new _ _,hnin,hE.lt,Nat.le_refl _,Nat.le_refl _,?_,fun _ _ _ e=>(by cases e)⟩ (fun b hb=> ?_) (List.nodup_cons.2 ⟨hnin,hr.nd⟩)
  ·rw [Below.heap_alloc _ _ _ (Array.getElem?_eq_some_iff.1 hA).1];exact hA
  ·have e1:(A.toList.zip m).filter (fun p=> !(#[]:Array Nat).contains p.1.born)=A.toList.zip m:=List.filter_eq_self.2 (fun x _=>by simp)
   rw [e1,List.map_snd_zip (by have:=hE.len;have:=hr.len;omega)]
  ·rcases List.mem_cons.1 hb with rfl | hb
   ·exact .inr (Nat.le_refl _)
   ·exact .inl hb
theorem zlT {mv:List (Int×Value)} {A:List MapEntry} {clock:Nat} (h:zfz (fun v:Value=>v) mv A clock):(A.map (·.born)).Nodup:=by
 have:=h.born
 rw [List.nodup_iff_pairwise_ne,List.pairwise_map]
 exact this.imp (fun h=>Nat.ne_of_lt h)
theorem OW.rnext {d:Nat} {x:Operand} {ty:TypeId} {pos:String} {af:Array Edge} {gdd:Option (Nat×Bool)} (hst:St w0 S0 w L) (j:Nat) (hj:L[j]? =some (zol it r R S m rem last))
  (hl:vg l i=some ⟨some d,.next x false,ty,pos,af,gdd⟩) (hg:gd l fr ⟨some d,.next x false,ty,pos,af,gdd⟩=some true) (hN:Nat.blt d N=true) (hx:look fr x=some (.pointer (some ⟨it,0,none⟩)))
  (h0:rem= []->OW P l N Q (i+1) ((d,.tuple #[.bool false])::fr) w)
  (h1: ∀ k v x rem' w',rem.Perm ((k,x)::rem')->St w0 S0 w' (L.set j (zol it r R S m rem' (some (k,v,x))))->OW P l N Q (i+1) ((d,.tuple #[.bool true,.int .i64 k,v])::fr) w'):OW P l N Q i fr w:=by
 obtain ⟨mv,Ss,A,clock,since,zcy,c0,h⟩:=hst.all j _ hj
 have hml:A.toList.length=m.length:=by rw [h.ents.len,h.row.len]
 rcases run_next_at (P:=P) w ty it r since c0 zcy A clock h.iter h.map h.hold h.le with ⟨hz,hrun⟩ | ⟨e,he,w1,hw1,hrun⟩
 ·refine OW.op hl hg rfl hN (w':=w) (fun a ha=> ?_) (h0 ?_)
  ·simp [execOp,ha.look hx,hrun]
  ·rw [h.left]
   have:leftOf A zcy= #[]:=Array.eq_empty_of_size_eq_zero hz
   have hf: ∀ x∈A.toList,zcy.contains x.born=true:=by
    intro x hx
    cases hc:zcy.contains x.born with
    | true=>rfl
    | false=>
     have:x∈(leftOf A zcy).toList:=by
      unfold leftOf
      simp only [Array.toList_filter,List.mem_filter]
      exact ⟨hx,by rw [hc];rfl⟩
     rw [‹leftOf A zcy= #[]›] at this
     simp at this
   have e1:(A.toList.zip m).filter (fun p=> !zcy.contains p.1.born)= []:=by
    rw [List.filter_eq_nil_iff]
    rintro ⟨x,y⟩ hp
    have:=hf x (List.of_mem_zip hp).1
    simpa using this
   rw [e1]
   rfl
 ·have hem:e∈A.toList/\zcy.contains e.born=false:=by
   have:e∈(leftOf A zcy).toList:=he
   unfold leftOf at this
   simp only [Array.toList_filter,List.mem_filter] at this
   exact ⟨this.1,by simpa using this.2⟩
  obtain ⟨n,hn,hne⟩:=List.mem_iff_getElem.1 hem.1
  have n1:n<m.length:=by omega
  have n2:n<mv.length:=by rw [h.row.len];omega
  have hmv:(e.key,e.val)=(.int .i64 mv[n].1,mv[n].2):=by
   have h1:(A.toList.map (fun e=>(e.key,e.val)))[n]? =(mv.map (zkf (fun v:Value=>v)))[n]? :=by rw [h.ents.eq]
   rw [List.getElem?_map,List.getElem?_map,zeg hn,zeg n2,hne] at h1
   simpa [zkf] using h1
  have hkeys:mv[n].1=m[n].1:=by
   have h1:(mv.map (·.1))[n]? =(m.map (·.1))[n]? :=by rw [h.row.keys]
   rw [List.getElem?_map,List.getElem?_map,zeg n1,zeg n2] at h1
   simpa using h1
  simp only [Prod.mk.injEq] at hmv
  have hchg:Chg [it] w (ChangeMaps.setBlock w1 it (.mapIter (some r) since (zcy.push e.born) clock)):=by
   rcases hw1 with rfl | rfl
   ·exact ⟨rfl,rfl,rfl,by simp [ChangeMaps.setBlock],fun k hk hn=>by
     have:it ≠ k:=fun e=>hn (by simp [e])
     simp [ChangeMaps.setBlock,Array.getElem?_setIfInBounds,this]⟩
   ·exact ⟨rfl,rfl,rfl,by simp [ChangeMaps.setBlock],fun k hk hn=>by
     have:it ≠ k:=fun e=>hn (by simp [e])
     simp [ChangeMaps.setBlock,Array.getElem?_setIfInBounds,this]
     rfl⟩
  have hlt:=h.row.lt
  have hlit:=(Array.getElem?_eq_some_iff.1 h.iter).1
  have hS:=h.row.hS
  have hri:r ≠ it:=fun e1=>h.apart (by rw [<- e1,hS];exact zcs)
  refine OW.op hl hg rfl hN (w':=ChangeMaps.setBlock w1 it (.mapIter (some r) since (zcy.push e.born) clock)) (fun a ha=> ?_) (h1 mv[n].1 mv[n].2 m[n].2 (((A.toList.zip m).filter (fun p=> !(zcy.push e.born).contains p.1.born)).map (·.2)) _ ?_ ?_)
  ·simp [execOp,ha.look hx,hrun,hmv.1,hmv.2]
  ·rw [h.left]
   have hz:(e,m[n])∈A.toList.zip m:=by
    rw [List.mem_iff_getElem]
    exact ⟨n,by rw [List.length_zip];omega,by rw [List.getElem_zip,hne]⟩
   have hpw:(A.toList.zip m).Pairwise (fun x y=>x.1.born ≠ y.1.born):=by
    have h1:=zlT h.ents
    have h2:(A.toList.zip m).map (fun p=>p.1.born)=A.toList.map (·.born):=by
     have h3:((A.toList.zip m).map Prod.fst).map (fun e:MapEntry=>e.born)=A.toList.map (·.born):=by rw [List.map_fst_zip (by omega)]
     rw [<- h3,List.map_map]
     rfl
    rw [<- h2,List.nodup_iff_pairwise_ne,List.pairwise_map] at h1
    exact h1
   have:=zle (fun p:MapEntry×(Int×α)=>p.1.born) (fun p=> !zcy.contains p.1.born) hpw hz (by simp only [hem.2];rfl)
   have hm:=this.map (·.2)
   rw [List.map_cons] at hm
   have e2:(A.toList.zip m).filter (fun p=> !(zcy.push e.born).contains p.1.born)=(A.toList.zip m).filter (fun q=>(!zcy.contains q.1.born)&& !decide (q.1.born=e.born)):=by
    apply List.filter_congr
    rintro ⟨x,y⟩ _
    have:(zcy.push e.born).contains x.born=(zcy.contains x.born||decide (x.born=e.born)):=by
     rw [Bool.eq_iff_iff]
     simp only [Array.contains_iff_mem,Array.mem_push,Bool.or_eq_true,zdq]
    simp only [this,Bool.not_or]
   rw [e2]
   have e3:(mv[n].1,m[n].2)=m[n]:=by rw [hkeys]
   rw [e3]
   exact hm
  ·have hch:=hchg
   refine hst.upd j hj (hchg.mono (fun b hb=>by rw [List.mem_singleton.1 hb];exact zcs)) ⟨mv,Ss,A,clock,since,zcy.push e.born,clock,h.row.loc (fun b hb=>hch.block b (hlt b hb) (by simp only [List.mem_singleton];rintro rfl;exact h.apart hb)),?_,h.ents,?_,h.apart,h.hold,h.le2,h.le2,rfl,fun k v x e1=> ?_⟩ (fun b hb=> .inl hb) (List.nodup_cons.2 ⟨h.apart,h.row.nd⟩)
   ·rw [hch.block r (Array.getElem?_eq_some_iff.1 h.map).1 (by simpa using hri)];exact h.map
   ·have:it<w1.heap.size:=by rcases hw1 with rfl | rfl<;>exact hlit
    simp [ChangeMaps.setBlock,this]
   ·simp only [Option.some.injEq,Prod.mk.injEq] at e1
    obtain ⟨rfl,rfl,rfl⟩:=e1
    exact ⟨rfl,n,e,zcy,by rw [zeg hn,hne],zeg n2,by rw [zeg n1,hkeys],rfl⟩
theorem OW.rentry {d:Nat} {x:Operand} {ty:TypeId} {pos:String} {af:Array Edge} {gdd:Option (Nat×Bool)} {k:Int} {v:Value} {u:α} (hst:St w0 S0 w L) (j:Nat) (hj:L[j]? =some (zol it r R S m rem (some (k,v,u))))
  (hl:vg l i=some ⟨some d,.entry x,ty,pos,af,gdd⟩) (hg:gd l fr ⟨some d,.entry x,ty,pos,af,gdd⟩=some true) (hN:Nat.blt d N=true) (hx:look fr x=some (.pointer (some ⟨it,0,none⟩)))
  (h:OW P l N Q (i+1) ((d,.tuple #[.int .i64 k,v])::fr) w):OW P l N Q i fr w:=by
 obtain ⟨mv,Ss,A,clock,since,zcy,c0,hr⟩:=hst.all j _ hj
 obtain ⟨rfl,n,e,s',he,hmv,hm,rfl⟩:=hr.now k v u rfl
 have hrun:=run_entry_at (P:=P) w it r since s' A c0 e hr.iter hr.map (zmg he) (zlT hr.ents)
 have hk:(e.key,e.val)=(.int .i64 k,v):=by
  have h1:(A.toList.map (fun e=>(e.key,e.val)))[n]? =(mv.map (zkf (fun v:Value=>v)))[n]? :=by rw [hr.ents.eq]
  rw [List.getElem?_map,List.getElem?_map,he,hmv] at h1
  simpa [zkf] using h1
 simp only [Prod.mk.injEq] at hk
 refine OW.op hl hg rfl hN (fun a ha=> ?_) h
 simp [execOp,ha.look hx,hrun,hk.1,hk.2]
theorem St.rsee {k:Int} {v:Value} {u:α} (hst:St w0 S0 w L) (j:Nat) (hj:L[j]? =some (zol it r R S m rem (some (k,v,u)))) (ids:List Nat) (hn:mem? j ids=false):R.rd w (fp (sel L ids)) u [v]:=by
 obtain ⟨mv,Ss,A,clock,since,zcy,c0,hr⟩:=hst.all j _ hj
 obtain ⟨_,n,e,s',he,hmv,hm,_⟩:=hr.now k v u rfl
 have hl:=(zes.1 hm).1
 have l2:n<Ss.length:=by rw [hr.row.ls];exact hl
 have hown:=hr.row.own n (k,v) Ss[n] (k,u) (fun _ _ e=>(by cases e)) hmv (zeg l2) hm
 refine R.see _ _ _ _ _ hown (fun b hb=>hst.noin j hj ids hn b ?_)
 show b∈it::S
 rw [hr.row.hS]
 exact zcm _ (zcm _ (List.mem_flatten.2 ⟨Ss[n],List.getElem_mem l2,hb⟩))
theorem St.unrng (hst:St w0 S0 w L) (j:Nat) (hj:L[j]? =some (zol it r R S m rem last)):St w0 S0 w (L.set j (mN r R S m none)):=by
 obtain ⟨mv,Ss,A,clock,since,zcy,c0,hr⟩:=hst.all j _ hj
 exact hst.upd j hj (Chg.refl _ _) ⟨mv,Ss,hr.row⟩ (fun b hb=> .inl (zcm _ hb)) hr.row.nd
theorem St.rseeRow {β:Type} {T:TypeId} {enc:β->List Value} {sz:Nat} {he: ∀ x,(enc x).length=sz} {hp:0<sz} {m rem:List (Int×List β)} {k:Int} {v:Value} {u:List β} (hst:St w0 S0 w L) (j:Nat) (hj:L[j]? =some (zol it r (zhc T enc sz he hp) S m rem (some (k,v,u)))) (ids:List Nat) (hn:mem? j ids=false):Rd w (fp (sel L ids)) v enc sz u:=by
 obtain ⟨u',hu,h⟩:=hst.rsee j hj ids hn
 cases hu
 exact h
end
theorem zeL {ε σ ρ:Type} {body:ε->σ->Option (σ ⊕ ρ)} {fin:σ->Option ρ} {e:ε} {q:List ε} {s s':σ} {o:Option ρ} (h:zd6 body fin (e::q) s=o) (hb:body e s=some (.inl s')):zd6 body fin q s'=o:=by
 simpa [zd6,hb] using h
theorem zlU {ε:Type} {rem rem':List ε} {e:ε} {n:Nat} (hn:n=rem.length) (hp:rem.Perm (e::rem')):rem'.length<n:=by
 have:=hp.length_eq
 simp at this
 omega
end Go.Sx
namespace Go.Sx
open Go.RowKit
section
variable {P:Program} {N:Nat} {Q:Exit->Act->World->Prop} {fr fr':List (Nat×Value)} {w w0:World} {l:List Oper} {i:Nat} {o:Oper} {S0:List Nat} {L:List zz} {α:Type}
theorem zom {R:Rp α} {r:Nat} {S:List Nat} {m:List (Int×α)} {ho:Option (Int×Value)} {t tk te:TypeId} {x:Operand} {ats:List Nat} (hst:St w0 S0 w L) (j:Nat) (hj:L[j]? =some (mN r R S m ho))
  (hop:o.op= .call ⟨.builtin .len,[x].toArray,ats.toArray⟩) (ha0:ats[0]? =some t) (hx:look fr x=some (.map (some r))) (ht:P.underlying t=some (.map tk te)): ∀ b,Rep N fr b->(execOp b.eval o).run P w= .ok (.value (.int .i64 (m.length:Int))) w:=by
 intro b hb
 obtain ⟨mv,Ss,hr⟩:=hst.all j _ hj
 obtain ⟨A,clock,hA,hE⟩:=hr.map
 have e1:=hb.look hx
 have h1:A.size=m.length:=by
  have:=congrArg List.length hE.eq
  have h2:=congrArg List.length hr.keys
  simp at this h2
  omega
 have ha1:(ats.toArray)[0]? =some t:=by simpa using ha0
 simp [execOp,hop,resolve,invoke,builtin,e1,Builtin.len_,ha1,run_underlying ht,zb3 hA,goInt,h1]
theorem St.rfptr {R:Rp α} {U:TypeId} {it r:Nat} {S:List Nat} {m rem:List (Int×α)} {k:Int} {v:Value} {x:α} (hst:St w0 S0 w L) (j:Nat) (hj:L[j]? =some (zol it r (za3 U R) S m rem (some (k,v,x)))): ∃ b,v= .pointer (some ⟨b,0,none⟩):=by
 obtain ⟨b,cs',h,_⟩:=hst.rsee j hj [] rfl
 exact ⟨b,by simpa using h⟩
theorem St.rcell {β:Type} {f:α->List Value->List Value} {sz:Nat} {hl: ∀ x vs,(f x vs).length=sz} {g:α->β} {A:Rp β} {U:TypeId} {it r:Nat} {S:List Nat} {m rem:List (Int×α)} {k:Int} {b:Nat} {x:α} (hst:St w0 S0 w L) (j:Nat)
  (hj:L[j]? =some (zol it r (za3 U (qU f sz hl g A)) S m rem (some (k,.pointer (some ⟨b,0,none⟩),x)))) (q:Nat) {u:Value} (hq: ∀ vs,(f x vs)[q]? =some u):w.cell? ⟨b,q,none⟩=some u:=by
 obtain ⟨b',cs',h,_,hh,vs,hcs,_⟩:=hst.rsee j hj [] rfl
 simp only [List.cons.injEq,Value.pointer.injEq,Option.some.injEq,Addr.mk.injEq,and_true] at h
 subst h
 have:=hq vs
 rw [<- hcs] at this
 simp only [World.cell?,hh]
 simpa using this
def zrW (w:World) (r:Nat) (k:Int) (v:Value):Prop:= ∃ A clock mv,w.heap[r]? =some (.map A clock)/\zfz (fun v:Value=>v) mv A.toList clock/\qO mv k=some v
theorem St.mpeek {R:Rp α} {U:TypeId} {r:Nat} {S:List Nat} {m:List (Int×α)} (hst:St w0 S0 w L) (j:Nat) (hj:L[j]? =some (mN r (za3 U R) S m none)) {k:Int} {x:α} (hx:qO m k=some x):
  ∃ b,zrW w r k (.pointer (some ⟨b,0,none⟩))/\(za3 U R).rd w [] x [.pointer (some ⟨b,0,none⟩)]:=by
 obtain ⟨mv,Ss,hr⟩:=hst.all j _ hj
 obtain ⟨v,S1,S2,Ss',hv,hown,_⟩:=hr.take hx
 obtain ⟨A,clock,hA,hE⟩:=hr.map
 have hrd:=(za3 U R).see w [v] S2 x [] hown (fun _ _ h=>by cases h)
 obtain ⟨b,cs',e,_⟩:=id hrd
 simp only [List.cons.injEq,and_true] at e
 subst e
 exact ⟨b,⟨A,clock,mv,hA,hE,hv⟩,hrd⟩
theorem zpz {o:Oper} {t tk te:TypeId} {x y:Operand} {r:Nat} {k:Int} {v:Value} {kd:IntKind} (h:zrW w r k v) (ho:o.op= .lookup t x y false) (hx:look fr x=some (.map (some r))) (hy:look fr y=some (.int .i64 k))
  (ht:P.underlying t=some (.map tk te)) (hk:P.underlying tk=some (.int kd)): ∀ b,Rep N fr b->(execOp b.eval o).run P w= .ok (.value v) w:=by
 intro b hb
 have e1:=hb.look hx
 have e2:=hb.look hy
 obtain ⟨A,clock,mv,hA,hE,hm⟩:=h
 have hf:=zhb (P:=P) (w:=w) (k:=k) hk hE
 obtain ⟨i,hp,_⟩:=zce hm
 rw [hp,hm] at hf
 simp [execOp,ho,Instr.lookup,run_underlying ht,e1,e2,zb3 hA,zbe hk,hf]
theorem zpA {β:Type} {f:α->List Value->List Value} {sz:Nat} {hl: ∀ x vs,(f x vs).length=sz} {g:α->β} {A:Rp β} {U:TypeId} {F:List Nat} {b:Nat} {x:α} (h:(za3 U (qU f sz hl g A)).rd w F x [.pointer (some ⟨b,0,none⟩)]) (q:Nat) {u:Value} (hq: ∀ vs,(f x vs)[q]? =some u):w.cell? ⟨b,q,none⟩=some u:=by
 obtain ⟨b',cs',h,_,hh,vs,hcs,_⟩:=h
 simp only [List.cons.injEq,Value.pointer.injEq,Option.some.injEq,Addr.mk.injEq,and_true] at h
 subst h
 have:=hq vs
 rw [<- hcs] at this
 simp only [World.cell?,hh]
 simpa using this
theorem OW.inl {d M:Nat} {f:FuncId} {fn:Func} {c:Code} {args:List Value} (hl:vg l i=some o) (hg:gd l fr o=some true) (hd:o.dst=some d) (hN:Nat.blt d N=true)
  (hp:zn8 P fr o=some (f,args)) (hf:P.funcs[f]? =some fn) (hb:fn.body=some c) (hM:fn.ntmps=M) (hs:Nat.ble args.length M=true)
  (h:CW P M c (bodyPost P fn (fun e w'=> ∃ v,e= .returned v/\OW P l N Q (i+1) ((d,v)::fr) w')) (zha 0 args) w):OW P l N Q i fr w:=
 OW.fn hl hg hd hN hp (CW.start hf hb hM hs h) (fun _ _ h=>h)
def zrg {α:Type} (b:Nat) (enc:α->List Value) (sz:Nat) (xs:List α):zz where
 S:= [b]
 Φ w:=Rd w [] (.slice (some ⟨b,0,none⟩) xs.length xs.length) enc sz xs/\b<w.heap.size
 loc w w' hb h:=by
  obtain ⟨⟨h1,a,c,hv,hlc,hc⟩,h2⟩:=h
  have e:w'.heap[b]? =w.heap[b]? :=hb b (by simp)
  refine ⟨⟨h1,a,c,hv,hlc,fun t x f u hx hu=> ?_⟩,?_⟩
  ·obtain ⟨b',o,ha,hn,hcell⟩:=hc t x f u hx hu
   have hb':b'=b:=by
    rw [ha] at hv
    simp only [Value.slice.injEq,Option.some.injEq,Addr.mk.injEq] at hv
    exact hv.1.1.symm
   subst hb'
   refine ⟨b',o,ha,hn,?_⟩
   rw [<- hcell]
   exact World.cell?_of_block e
  ·have:=Array.getElem?_eq_some_iff.1 (e.trans (Array.getElem?_eq_getElem h2))
   exact this.1
 lt w h x hx:=by
  simp only [List.mem_singleton] at hx
  subst hx
  exact h.2
theorem St.frd {enc:α->List Value} {sz b:Nat} {xs:List α} (hst:St w0 S0 w L) (j:Nat) (hj:L[j]? =some (zrg b enc sz xs)) (ids:List Nat) (hn:mem? j ids=false):Rd w (fp (sel L ids)) (.slice (some ⟨b,0,none⟩) xs.length xs.length) enc sz xs:=by
 obtain ⟨⟨h1,a,c,hv,hlc,hc⟩,h2⟩:=hst.all j _ hj
 have hb:=hst.noin j hj ids hn b (by simp [zrg])
 refine ⟨h1,a,c,hv,hlc,fun t x f u hx hu=> ?_⟩
 obtain ⟨b',o,ha,hn,hcell⟩:=hc t x f u hx hu
 have hb':b'=b:=by
  rw [ha] at hv
  simp only [Value.slice.injEq,Option.some.injEq,Addr.mk.injEq] at hv
  exact hv.1.1.symm
 subst hb'
 exact ⟨b',o,ha,hb,hcell⟩
theorem OW.mark {d t e g:Nat} {x:Operand} {ty:TypeId} {pos:String} {af:Array Edge} {gdd:Option (Nat×Bool)} {enc:α->List Value} {sz n:Nat} {xs:List α} {T:TypeId} (hst:St w0 S0 w L) (j:Nat) (hj:L[j]? =some (zZ (.slice (some ⟨g,0,none⟩) n n) T enc sz xs))
  (hl:vg l i=some ⟨some d,.convert t t x,ty,pos,af,gdd⟩) (hg:gd l fr ⟨some d,.convert t t x,ty,pos,af,gdd⟩=some true) (hN:Nat.blt d N=true) (hx:look fr x=some (.slice (some ⟨g,0,none⟩) n n))
  (ht:P.underlying t=some (.slice e)) (he:P.underlying e=some (.int .u8)) (hen: ∀ x,(enc x).length=sz) (hn:xs.length=n) (hn0:0<n)
  (h: ∀ w',St w0 S0 w' (L.set j (zrg g enc sz xs))->OW P l N Q (i+1) ((d,.slice (some ⟨g,0,none⟩) n n)::fr) w'):OW P l N Q i fr w:=by
 have hrow:=hst.all j _ hj
 have hrow2:zdn w T sz (.slice (some ⟨g,0,none⟩) n n) xs.length (vy enc xs):=hrow
 have hcopy:=hrow2
 obtain ⟨hlen,hc⟩:=hrow2
 rcases hc with ⟨h0,a,hv⟩ | ⟨g',o',cap,cur,hv,hp,hh,hle,hm,hsz,htk⟩
 ·exact absurd h0 (by omega)
 ·simp only [Value.slice.injEq,Option.some.injEq,Addr.mk.injEq,and_true] at hv
  obtain ⟨⟨rfl,rfl⟩,h1,rfl⟩:=hv
  have hsh:w.shape? g=some (T,cur.size):=by unfold World.shape?;rw [hh]
  let w':=w.freeze ⟨g,cur.size,none⟩ 1
  have hfr:w'.heap[g]? =some (.cells cur T (cur.size,cur.size+1)):=by
   show (w.freeze ⟨g,cur.size,none⟩ 1).heap[g]? =_
   unfold World.freeze
   rw [if_neg (by decide)]
   simp only
   rw [Array.getElem?_modify,if_pos rfl,hh]
   rfl
  have hoth: ∀ k,k ≠ g->w'.heap[k]? =w.heap[k]? :=by
   intro k hk
   show (w.freeze ⟨g,cur.size,none⟩ 1).heap[k]? =_
   unfold World.freeze
   rw [if_neg (by decide)]
   simp only
   rw [Array.getElem?_modify,if_neg (fun e=>hk e.symm)]
  have hsz':w'.heap.size=w.heap.size:=by
   show (w.freeze ⟨g,cur.size,none⟩ 1).heap.size=_
   unfold World.freeze
   rw [if_neg (by decide)]
   simp
  refine OW.op (w':=w') hl hg rfl hN (fun a ha=> ?_) (h w' ?_)
  ·have e1:=ha.look hx
   simp [execOp,e1,convert,run_underlying ht,run_underlying he,markStringish,hsh]
   rfl
  ·have hrd:Rd w [] (.slice (some ⟨g,0,none⟩) xs.length xs.length) enc sz xs:=by
    have:=zdM (F:= []) hen hcopy (fun _ _=>by simp)
    rw [hn]
    exact this
   refine hst.upd j hj ⟨rfl,rfl,rfl,by rw [hsz'];exact Nat.le_refl _,fun k _ hk=>hoth k (by rintro rfl;exact hk (by simp [zZ,za2 hp]))⟩ ?_ (fun b hb=> .inl ?_) (by simp [zrg])
   ·obtain ⟨h1',a,c,hv',hlc,hcl⟩:=hrd
    refine ⟨⟨h1',a,c,hv',hlc,fun q x f u hx hu=> ?_⟩,by rw [hsz'];exact (Array.getElem?_eq_some_iff.1 hh).1⟩
    obtain ⟨b',o,ha,hnn,hcell⟩:=hcl q x f u hx hu
    refine ⟨b',o,ha,hnn,?_⟩
    rw [<- hcell]
    have hb':b'=g:=by
     rw [ha] at hv'
     simp only [Value.slice.injEq,Option.some.injEq,Addr.mk.injEq] at hv'
     exact hv'.1.1.symm
    subst hb'
    simp only [World.cell?,hfr,hh]
   ·simp only [zrg,List.mem_singleton] at hb
    subst hb
    simp [zZ,za2 hp]
end
section
variable {α:Type} {w w':World} {r:Nat} {R:Rp α} {S:List Nat} {m:List (Int×α)} {ho:Option (Int×Value)} {mv:List (Int×Value)} {Ss:List (List Nat)}
theorem zjp: ∀ {m:List (Int×α)} {k:Int} {x:α},qO (mput m k x) k=some x
 | [],k,x=>by simp [mput,qO]
 | p::m,k,x=>by
  unfold mput
  by_cases h:(p.1==k)=true
  ·rw [if_pos h];simp [qO]
  ·rw [if_neg h]
   unfold qO
   rw [if_neg h]
   exact zjp
theorem zgG: ∀ {m:List (Int×α)} {k:Int} {x:α},qO m k=none->(k,x) ∉ m
 | [],k,x,_=>by simp
 | p::m,k,x,h=>by
  unfold qO at h
  by_cases hp:(p.1==k)=true
  ·rw [if_pos hp] at h;cases h
  ·rw [if_neg hp] at h
   intro hm
   rcases List.mem_cons.1 hm with e | hm
   ·subst e;simp at hp
   ·exact zgG h hm
theorem zlV {k:Int} {x:α} {i:Nat} (hp:zcE m k=some i):(m.set i (k,x)).map (·.1)=m.map (·.1):=by
 obtain ⟨v,_,hv⟩:=zia hp
 rw [List.map_set]
 apply List.ext_getElem?
 intro j
 rw [List.getElem?_set]
 split
 ·rename_i e
  subst e
  rw [List.getElem?_map,hv]
  have:=(zes.1 hv).1
  simp [this]
 ·rfl
theorem zfG.giveH (h:zfG w r R S m ho mv Ss) {k:Int} {v:Value} {x:α} {i:Nat} (hho: ∀ k' u,ho=some (k',u)->k'=k) (hp:zcE m k=some i)
  (hw: ∀ b∈Ss.flatten,w'.heap[b]? =w.heap[b]?) (hm: ∃ A clock,w'.heap[r]? =some (.map A clock)/\zfz (fun v:Value=>v) (mv.set i (k,v)) A.toList clock):zfG w' r R (r::(Ss.set i []).flatten) (m.set i (k,x)) (some (k,v)) (mv.set i (k,v)) (Ss.set i []):=by
 have hn:=h.nd
 rw [h.hS] at hn
 obtain ⟨n1,n2⟩:=List.nodup_cons.1 hn
 have hS:=h.hS
 obtain ⟨u0,_,hu0⟩:=zia hp
 have l1:=(zes.1 hu0).1
 have hpv:=(zbf h.keys k).trans hp
 obtain ⟨v0,_,hv0⟩:=zia hpv
 have l2:=(zes.1 hv0).1
 have l3:i<Ss.length:=by rw [h.ls];exact l1
 refine ⟨hm,by rw [List.map_set,List.map_set,h.keys],by rw [List.length_set,List.length_set];exact h.ls,rfl,?_,fun k' v' i' e hp'=> ?_,fun i' q S' p g1 g2 g3 g4=> ?_⟩
 ·refine List.nodup_cons.2 ⟨fun hb=> ?_,zak n2 List.nodup_nil (fun _ _ _ _ b hb=>absurd hb znm)⟩
  rcases jx hb with hb | hb
  ·exact absurd hb znm
  ·exact n1 hb
 ·simp only [Option.some.injEq,Prod.mk.injEq] at e
  obtain ⟨rfl,rfl⟩:=e
  rw [zbf (zlV hp) k,hp] at hp'
  cases hp'
  exact ⟨by rw [List.getElem?_set_self l2],by rw [List.getElem?_set_self l3]⟩
 ·rcases zaU g3 with ⟨rfl,rfl⟩ | ⟨hne,g3⟩
  ·exact absurd ((zbf (zlV hp) k).trans hp) (g1 k v rfl)
  ·rcases zaU g2 with ⟨e,_⟩ | ⟨_,g2⟩
   ·exact absurd e hne
   ·rcases zaU g4 with ⟨e,_⟩ | ⟨_,g4⟩
    ·exact absurd e hne
    ·refine R.loc w w' _ S' _ (fun b hb=>hw b (List.mem_flatten.2 ⟨S',zmg g3,hb⟩)) (h.own i' q S' p (fun k' u e hp'=> ?_) g2 g3 g4)
     rw [hho k' u e,hp] at hp'
     exact hne (Option.some.inj hp').symm
theorem zfG.comeH (h:zfG w r R S m ho mv Ss) {k:Int} {v:Value} {x:α} (hho: ∀ k' u,ho=some (k',u)->k'=k) (hp:zcE m k=none)
  (hw: ∀ b∈Ss.flatten,w'.heap[b]? =w.heap[b]?) (hm: ∃ A clock,w'.heap[r]? =some (.map A clock)/\zfz (fun v:Value=>v) (mv++ [(k,v)]) A.toList clock):zfG w' r R (r::(Ss++ [[]]).flatten) (m++ [(k,x)]) (some (k,v)) (mv++ [(k,v)]) (Ss++ [[]]):=by
 have hn:=h.nd
 rw [h.hS] at hn
 obtain ⟨n1,n2⟩:=List.nodup_cons.1 hn
 have hS:=h.hS
 have hl:=h.len
 have hls:=h.ls
 have hpos:zcE (m++ [(k,x)]) k=some m.length:=by
  have hg:qO (m++ [(k,x)]) k=some x:=by
   have:=xA.1 hp
   rw [<- zdO this]
   exact zjp
  obtain ⟨i,hi,hv⟩:=zce hg
  rw [hi]
  have li:=(zes.1 hv).1
  rcases Nat.lt_or_ge i m.length with hlt | hge
  ·rw [List.getElem?_append_left hlt] at hv
   have:=xA.1 hp
   exact absurd this (by
    intro hnone
    have hmem:=zmg hv
    exact zgG hnone hmem)
  ·simp at li
   congr 1
   omega
 refine ⟨hm,by rw [List.map_append,List.map_append,h.keys];rfl,by simp [h.ls],rfl,?_,fun k' v' i' e hp'=> ?_,fun i' q S' p g1 g2 g3 g4=> ?_⟩
 ·rw [List.flatten_append]
  have e1: [([]:List Nat)].flatten= []:=rfl
  rw [e1,List.append_nil]
  exact hn
 ·simp only [Option.some.injEq,Prod.mk.injEq] at e
  obtain ⟨rfl,rfl⟩:=e
  rw [hpos] at hp'
  cases hp'
  constructor
  ·rw [List.getElem?_append_right (by omega),show m.length-mv.length=0 by omega];rfl
  ·rw [List.getElem?_append_right (by omega),show m.length-Ss.length=0 by omega];rfl
 ·rcases xa g2 with ⟨l1,g2⟩ | ⟨l1,g2⟩
  ·rcases xa g3 with ⟨l2,g3⟩ | ⟨l2,g3⟩
   ·rcases xa g4 with ⟨l3,g4⟩ | ⟨l3,g4⟩
    ·refine R.loc w w' _ S' _ (fun b hb=>hw b (List.mem_flatten.2 ⟨S',zmg g3,hb⟩)) (h.own i' q S' p (fun k' u e hp'=> ?_) g2 g3 g4)
     rw [hho k' u e,hp] at hp'
     cases hp'
    ·omega
   ·omega
  ·have k1:=(zes.1 g2).1
   simp at k1
   exact absurd (by rw [hpos];congr 1;omega) (g1 k v rfl)
end
section
variable {P:Program} {N:Nat} {Q:Exit->Act->World->Prop} {fr fr':List (Nat×Value)} {w w0:World} {l:List Oper} {i:Nat} {o:Oper} {S0:List Nat} {L:List zz} {α:Type} {R:Rp α} {r:Nat} {S:List Nat} {m:List (Int×α)} {ho:Option (Int×Value)}
theorem OW.mputH {t tk te:TypeId} {x y z:Operand} {ty:TypeId} {pos:String} {af:Array Edge} {gdd:Option (Nat×Bool)} (hst:St w0 S0 w L) (q:Nat) {kd:IntKind} {k:Int} {v:Value} (u:α) (hq:L[q]? =some (mN r R S m ho)) (hho: ∀ k' u,ho=some (k',u)->k'=k)
  (hl:vg l i=some ⟨none,.mapUpdate t x y z,ty,pos,af,gdd⟩) (hg:gd l fr ⟨none,.mapUpdate t x y z,ty,pos,af,gdd⟩=some true) (hx:look fr x=some (.map (some r))) (hy:look fr y=some (.int .i64 k)) (hz:look fr z=some v)
  (ht:P.underlying t=some (.map tk te)) (hk:P.underlying tk=some (.int kd)) (h: ∀ S' w',St w0 S0 w' (L.set q (mN r R S' (Sx.mput m k u) (some (k,v))))->OW P l N Q (i+1) fr w'):OW P l N Q i fr w:=by
 obtain ⟨mv,Ss,hr⟩:=hst.all q _ hq
 have hS:=hr.hS
 have hn:=hr.nd
 rw [hS] at hn
 obtain ⟨n1,_⟩:=List.nodup_cons.1 hn
 have hI:St w [r] w [zku r (fun v:Value=>v) mv]:=by
  refine ⟨Chg.refl _ _,fun n it hi=> ?_,fun n it hi=> ?_,fun n n' a b hne h1 h2=> ?_,fun n it hi y hy=> ?_⟩
  ·cases n with
   | zero=>simp at hi;subst hi;exact hr.map
   | succ n=>simp at hi
  ·cases n with
   | zero=>simp at hi;subst hi;simp [zku]
   | succ n=>simp at hi
  ·cases n with
   | zero=>cases n' with
    | zero=>exact absurd rfl hne
    | succ n'=>simp at h2
   | succ n=>simp at h1
  ·cases n with
   | zero=>simp at hi;subst hi;exact .inl (by simpa [zku] using hy)
   | succ n=>simp at hi
 obtain ⟨w',hrun,hst'⟩:=ziO (P:=P) (k:=k) (x:=v) hI 0 rfl ht hk
 have hchg:Chg [r] w w':=hst'.chg
 have hm': ∃ A clock,w'.heap[r]? =some (.map A clock)/\zfz (fun v:Value=>v) (Sx.mput mv k v) A.toList clock:=hst'.all 0 _ rfl
 have hlt:=hr.lt
 have hw: ∀ b∈Ss.flatten,w'.heap[b]? =w.heap[b]? :=fun b hb=>hchg.block b (hlt b (by rw [hS];exact zcm _ hb)) (by simp only [List.mem_singleton];rintro rfl;exact n1 hb)
 obtain ⟨Ss',mv',hfin,hsub⟩: ∃ Ss' mv',zfG w' r R (r::List.flatten Ss') (Sx.mput m k u) (some (k,v)) mv' Ss'/\ ∀ b∈List.flatten Ss',b∈Ss.flatten:=by
  cases hp:zcE m k with
  | none=>
   have hp':zcE mv k=none:=(zbf hr.keys k).trans hp
   rw [zdO (xA.1 hp')] at hm'
   rw [zdO (xA.1 hp)]
   refine ⟨_,_,hr.comeH hho hp hw hm',fun b hb=> ?_⟩
   rw [List.flatten_append] at hb
   rcases List.mem_append.1 hb with hb | hb
   ·exact hb
   ·simp at hb
  | some n=>
   have hp':zcE mv k=some n:=(zbf hr.keys k).trans hp
   rw [zfi hp'] at hm'
   rw [zfi hp]
   exact ⟨_,_,hr.giveH hho hp hw hm',fun b hb=>(jx hb).elim (fun h=>absurd h znm) id⟩
 refine OW.ops hl hg rfl (fun a ha=> ?_) (h (r::List.flatten Ss') w' ?_)
 ·simp [execOp,ha.look hx,ha.look hy,ha.look hz,hrun]
 ·have hsub2: ∀ b∈r::List.flatten Ss',b∈S:=fun b hb=>by
   rcases List.mem_cons.1 hb with rfl | hb
   ·rw [hS];exact zcs
   ·rw [hS];exact zcm _ (hsub b hb)
  exact hst.upd q hq (it':=mN r R (r::List.flatten Ss') (Sx.mput m k u) (some (k,v))) (hchg.mono (fun b hb=>by simp only [List.mem_singleton] at hb;subst hb;show b∈S;rw [hS];exact zcs)) ⟨_,_,hfin⟩ (fun b hb=> .inl (hsub2 b hb)) hfin.nd
end
end Go.Sx
namespace Go.Sx
open Go.RowKit
section
variable {α:Type} {enc:α->List Value} {sz:Nat}
theorem zit (he: ∀ x,(enc x).length=sz) (xs:List α) (n:Nat):(vy enc xs).take (n*sz)=vy enc (xs.take n):=by
 induction xs generalizing n with
 | nil=>simp [vy]
 | cons x r ih=>
  cases n with
  | zero=>simp [vy]
  | succ n=>
   have h1:=he x
   simp only [vy,List.take_succ_cons]
   rw [List.take_append,h1,Nat.succ_mul,show n*sz+sz-sz=n*sz by omega,ih,List.take_of_length_le (by omega)]
theorem zlg (xs ys:List α):vy enc (xs++ys)=vy enc xs++vy enc ys:=by
 induction xs with
 | nil=>rfl
 | cons x r ih=>simp only [List.cons_append,vy,ih,List.append_assoc]
theorem zos {a b:List Value} (h1:zec a=true) (h2:zec b=true):zec (a++b)=true:=by
 induction a with
 | nil=>exact h2
 | cons x r ih=>
  unfold zec at h1
  show zec (x::(r++b))=true
  unfold zec
  cases hx:x.oneCell' with
  | true=>rw [hx] at h1;exact ih h1
  | false=>rw [hx] at h1;cases h1
theorem zmQ {z:α} (h:zec (enc z)=true) (n:Nat):zec (vy enc (List.replicate n z))=true:=by
 induction n with
 | zero=>rfl
 | succ n ih=>exact zos h ih
theorem zij {zs:Array Value} {z:α} (h:zs.toList=enc z) (n:Nat):(Builtin.zeroCells zs n).toList=vy enc (List.replicate n z):=by
 have hs:zs.size=(enc z).length:=by rw [<- h];simp
 have key: ∀ n,(List.range (n*zs.size)).map (fun i=>zs[i % zs.size]!)=vy enc (List.replicate n z):=by
  intro n
  induction n with
  | zero=>simp [vy]
  | succ n ih=>
   rw [Nat.succ_mul,List.range_add,List.map_append,ih,List.replicate_succ',zlg]
   congr 1
   simp only [vy,List.append_nil,List.map_map]
   refine List.ext_getElem? (fun i=> ?_)
   rw [List.getElem?_map]
   by_cases hi:i<zs.size
   ·rw [List.getElem?_range hi]
    simp only [Option.map_some,Function.comp]
    rw [show (n*zs.size+i) % zs.size=i by rw [Nat.add_comm,Nat.add_mul_mod_self_right,Nat.mod_eq_of_lt hi],<- h,getElem!_pos zs i hi]
    simp [hi]
   ·rw [List.getElem?_eq_none (by simpa using hi),List.getElem?_eq_none (by omega)]
    rfl
 simpa [Builtin.zeroCells] using key n
theorem zdn.pre {w:World} {T:TypeId} {a:Option Addr} {n c:Nat} {xs ys:List α} (he: ∀ x,(enc x).length=sz) (h:zdn w T sz (.slice a n c) xs.length (vy enc xs)) {q:Int} (hc:cut xs 0 q=some ys):
  zdn w T sz (.slice a ys.length c) ys.length (vy enc ys):=by
 obtain ⟨_,h1,h2,e⟩:=zbF hc
 have hl:=zfk hc
 have hys:ys=xs.take ys.length:=by
  rw [hl];simpa using e
 refine ⟨jZ he _,?_⟩
 rcases h.2 with ⟨h0,a',hv⟩ | ⟨g,o,cap,cur,hv,hp,hg,hnc,hm,hcs,ht⟩
 ·simp only [Value.slice.injEq] at hv
  obtain ⟨rfl,rfl,rfl⟩:=hv
  have:ys.length=0:=by omega
  exact .inl ⟨this,a,by rw [this]⟩
 ·simp only [Value.slice.injEq] at hv
  obtain ⟨rfl,rfl,rfl⟩:=hv
  refine .inr ⟨g,o,c,cur,rfl,hp,hg,by omega,hm,hcs,?_⟩
  have hle:ys.length*sz<=xs.length*sz:=Nat.mul_le_mul_right _ (by omega)
  have e2:((cur.toList.drop o).take (xs.length*sz)).take (ys.length*sz)=(cur.toList.drop o).take (ys.length*sz):=by
   rw [List.take_take,Nat.min_eq_left hle]
  rw [<- e2,ht,zit he]
  exact congrArg (vy enc) hys.symm
end
section
variable {P:Program} {N:Nat} {Q:Exit->Act->World->Prop} {fr fr':List (Nat×Value)} {w w0:World} {l:List Oper} {i:Nat} {o:Oper} {S0:List Nat} {L:List zz} {α:Type} {enc:α->List Value} {sz:Nat}
theorem St.cutRow {T:TypeId} {a:Option Addr} {n c:Nat} {xs ys:List α} (hst:St w0 S0 w L) (j:Nat) (hj:L[j]? =some (zZ (.slice a n c) T enc sz xs)) (he: ∀ x,(enc x).length=sz) {q:Int} (hc:cut xs 0 q=some ys):
  St w0 S0 w (L.set j (zZ (.slice a ys.length c) T enc sz ys)):=by
 have h:=hst.all j _ hj
 have e:(zbd (.slice a ys.length c)).toList=(zbd (.slice a n c)).toList:=by
  cases a with
  | none=>rfl
  | some a=>cases c<;>rfl
 exact hst.upd j hj (Chg.refl _ _) (zdn.pre he h hc) (fun b hb=> .inl (by
  show b∈(zbd (.slice a n c)).toList
  rw [<- e]
  exact hb)) zb2
theorem OW.clearR {t e:TypeId} {ats:List Nat} {x:Operand} {ty:TypeId} {pos:String} {af:Array Edge} {gdd:Option (Nat×Bool)} (hst:St w0 S0 w L) (j:Nat) {T:TypeId} {a:Option Addr} {n c:Nat} {xs ys:List α} (hj:L[j]? =some (zZ (.slice a n c) T enc sz xs)) (he: ∀ x,(enc x).length=sz)
  (hl:vg l i=some ⟨none,.call ⟨.builtin .clear,[x].toArray,ats.toArray⟩,ty,pos,af,gdd⟩) (hg:gd l fr ⟨none,.call ⟨.builtin .clear,[x].toArray,ats.toArray⟩,ty,pos,af,gdd⟩=some true)
  {q:Int} (hc:cut xs q (xs.length:Int)=some ys) (hx:look fr x=some (.slice (shd a c q.toNat sz) ys.length (c-q.toNat))) (ha0:ats[0]? =some t) (ht:P.underlying t=some (.slice e)) (z:α)
  (hz:(zbw P (zeroValue e)).map (·.cells.toList)=some (enc z)) (h1:zec (enc z)=true)
  (h: ∀ w',St w0 S0 w' (L.set j (zZ (.slice a n c) T enc sz (xs.take q.toNat++List.replicate ys.length z)))->OW P l N Q (i+1) fr w'):OW P l N Q i fr w:=by
 obtain ⟨h0,hq1,hq2,e0⟩:=zbF hc
 have hl0:=zfk hc
 have hyl:ys.length=xs.length-q.toNat:=by omega
 have ha1:(ats.toArray)[0]? =some t:=by simpa using ha0
 have hr:zdn w T sz (.slice a n c) xs.length (vy enc xs):=hst.all j _ hj
 cases hy:ys.length with
 | zero=>
  have hxs:xs.take q.toNat++List.replicate ys.length z=xs:=by
   rw [hy,List.replicate_zero,List.append_nil,List.take_of_length_le (by omega)]
  have hst':St w0 S0 w (L.set j (zZ (.slice a n c) T enc sz (xs.take q.toNat++List.replicate ys.length z))):=by
   rw [hxs]
   have hlj:=(zes.1 hj)
   rw [show L.set j (zZ (.slice a n c) T enc sz xs)=L from by
    obtain ⟨h5,h6⟩:=hlj
    rw [<- h6,List.set_getElem_self]]
   exact hst
  refine OW.opn (v:= .tuple #[]) hl hg rfl (w':=w) (fun b hb=> ?_) (h _ hst')
  have e1:=hb.look hx
  rw [hy] at e1
  cases hshd:shd a c q.toNat sz with
  | none=>rw [hshd] at e1;simp [execOp,resolve,invoke,builtin,e1,Builtin.clear_,ha1,run_underlying ht]
  | some a'=>rw [hshd] at e1;simp [execOp,resolve,invoke,builtin,e1,Builtin.clear_,ha1,run_underlying ht]
 | succ k=>
  rcases hr.2 with ⟨hz0,_⟩ | ⟨g,o,cap,cur,hv,hp,hgc,hnc,hm,hcs,htake⟩
  ·omega
  ·simp only [Value.slice.injEq] at hv
   obtain ⟨rfl,rfl,rfl⟩:=hv
   have hcq: ¬ c=q.toNat:=by omega
   have eshd:shd (some ⟨g,o,none⟩) c q.toNat sz=some ⟨g,o+q.toNat*sz,none⟩:=by simp [shd,hcq,Addr.add]
   cases hzv:zbw P (zeroValue e) with
   | none=>rw [hzv] at hz;cases hz
   | some zv=>
    rw [hzv] at hz
    have hzc:zv.cells.toList=enc z:=by simpa using hz
    have hvs:=zij (enc:=enc) hzc (k+1)
    let vs:=vy enc (List.replicate (k+1) z)
    have hvl:vs.length=(k+1)*sz:=by
     have:=jZ he (List.replicate (k+1) z)
     simpa using this
    have hsum:q.toNat*sz+(k+1)*sz=xs.length*sz:=by rw [<- Nat.add_mul];congr 1;omega
    have hcap:xs.length*sz<=c*sz:=Nat.mul_le_mul_right _ hnc
    have hfit:o+q.toNat*sz+vs.length<=cur.size:=by omega
    have hst2:=run_storeCells_at (P:=P) g (o+q.toNat*sz) T vs 0 cur w hgc (by simpa using hfit) (zdc (zmQ h1 _))
    refine OW.opn (v:= .tuple #[]) hl hg rfl (w':=w.setRow g (qk cur.toList vs (o+q.toNat*sz)).toArray) (fun b hb=> ?_) (h _ ?_)
    ·have e1:=hb.look hx
     rw [hy,eshd] at e1
     have hz':=jB hzv w
     have h3:(storeCells ⟨g,o+q.toNat*sz,none⟩ vs).run P w= .ok () (w.setRow g (qk cur.toList vs (o+q.toNat*sz)).toArray):=by simpa [qk] using hst2
     have h4:(Builtin.zeroCells zv.cells (k+1)).toList=vs:=hvs
     simp [execOp,resolve,invoke,builtin,e1,Builtin.clear_,ha1,run_underlying ht,hz',h4,h3]
    ·have hlen:(qk cur.toList vs (o+q.toNat*sz)).length=cur.size:=by simp [qk] at hfit |-;omega
     refine hst.upd j hj ⟨rfl,rfl,rfl,by simp [World.setRow],fun k' _ hn=>setRow_other w g k' _ (by rintro rfl;exact hn (by simp [zZ,za2 hp]))⟩ ?_ (fun k' hk'=> .inl hk') zb2
     have hl2:(xs.take q.toNat++List.replicate ys.length z).length=xs.length:=by simp;omega
     show zdn (w.setRow g _) T sz _ _ _
     rw [hl2]
     refine ⟨by rw [jZ he,hl2],.inr ⟨g,o,c,_,rfl,hp,setRow_heap w g cur _ T _ hgc,hnc,hm,by rw [List.size_toArray,hlen];exact hcs,?_⟩⟩
     simp only
     rw [zdd (by omega) (by omega) (by have:= @Array.length_toList _ cur;omega),htake,show o+q.toNat*sz-o=q.toNat*sz by omega]
     rw [zlg,<- zit he,hy]
     unfold qk
     rw [List.drop_of_length_le (by rw [jZ he];omega),List.append_nil]
end
end Go.Sx
namespace Go.Sx
open Go.RowKit
section
variable {P:Program} {N:Nat} {Q:Exit->Act->World->Prop} {fr fr':List (Nat×Value)} {w w0:World} {l:List Oper} {i:Nat} {o:Oper} {S0:List Nat} {L:List zz} {α:Type} {enc:α->List Value} {sz:Nat}
end
end Go.Sx
namespace Go.Sx
open Go.RowKit
def zrw {α:Type} (R:Rp α) (css:List (List Value)) (Ss:List (List Nat)) (xs:List α):zz where
 S:=Ss.flatten
 Φ w:=css.length=xs.length/\Ss.length=xs.length/\ ∀ (i:Nat) (cs:List Value) (S:List Nat) (x:α),css[i]? =some cs->Ss[i]? =some S->xs[i]? =some x->R.own w cs S x
 loc w w' h hr:=by
  obtain ⟨h1,h2,h5⟩:=hr
  exact ⟨h1,h2,fun i cs S x hc hS hx=>R.loc w w' cs S x (fun b hb=>h b (List.mem_flatten.2 ⟨S,zmg hS,hb⟩)) (h5 i cs S x hc hS hx)⟩
 lt w hr b hb:=by
  obtain ⟨h1,h2,h5⟩:=hr
  obtain ⟨S,hS,hbS⟩:=List.mem_flatten.1 hb
  obtain ⟨i,hi,rfl⟩:=List.mem_iff_getElem.1 hS
  exact R.lt _ _ _ _ (h5 i css[i] Ss[i] xs[i] (zeg (by omega)) (zeg hi) (zeg (by omega))) b hbS
section
variable {P:Program} {N:Nat} {Q:Exit->Act->World->Prop} {fr fr':List (Nat×Value)} {w w0:World} {l:List Oper} {i:Nat} {o:Oper} {S0:List Nat} {L:List zz} {α β:Type} {A:Rp α} {B:Rp β} {hA:A.sz=1} {hB:B.sz=1} {v u:Value} {S:List Nat}
def looks (fr:List (Nat×Value)):List Operand->Option (List Value)
 | []=>some []
 | x::r=>match look fr x,looks fr r with
  | some v,some vs=>some (v::vs)
  | _,_=>none
theorem St.nOf {T:TypeId} {R:Rp α} {v:Value} {sz:Nat} {css:List (List Value)} {Ss:List (List Nat)} {xs:List α} (h:St w0 S0 w L) (k j:Nat) (hkj:Nat.beq k j=false) (hs:sz=R.sz) (hk:L[k]? =some (zZ v T (fit sz) sz css)) (hj:L[j]? =some (zrw R css Ss xs)): ∃ S',St w0 S0 w ((L.set k (nI T R v S' xs none)).set j nilI):=by
 subst hs
 obtain ⟨b1,b2,b5⟩:=h.all j _ hj
 have hrow:=h.all k _ hk
 have hd: ∀ b∈(zbd v).toList,b ∉ Ss.flatten:=h.apart k j _ _ (Nat.ne_of_beq_eq_false hkj) hk hj
 have hn:Ss.flatten.Nodup:=h.nd j _ hj
 have hnd:((zbd v).toList++Ss.flatten).Nodup:=List.nodup_append.2 ⟨zb1,hn,fun a ha b hb e=>by subst e;exact hd a ha hb⟩
 refine ⟨_,h.fuse k j hkj hk hj (C:=nI T R v ((zbd v).toList++Ss.flatten) xs none) ⟨css,Ss,⟨?_,b1,b2,rfl,hnd,(fun _ _ e=>by cases e),fun i c S' z _ hc hS hz=>b5 i c S' z hc hS hz⟩⟩ hnd (fun b hb=>List.mem_append.1 hb)⟩
 rw [<- b1]
 exact hrow
end
end Go.Sx
