/- Texts Laid, Plan, More of this proof. -/
import Derived.Test.YtbmknhpfkpmigaaGreatDoorLib
import Derived.OpenShut
import Derived.Deep.DeepHandedRow
import Derived.LaidLaws
import Derived.SevenTiedAt
import Derived.Orders
import Derived.Laws.StructEq
import Derived.WalkSpells
set_option linter.unusedSimpArgs false
set_option linter.unusedVariables false
namespace Go.Sx
open Go.ChangeShapes Go.WideShapes Go.ChangeAt Go.RowKit
mutual
def vo {H:Type}:DataW H->Option (List Value)
 | .lit (.int k n)=>some [.int k n]
 | .lit (.bool b)=>some [.bool b]
 | .lit (.string bs)=>some [.string ⟨bs.toArray⟩]
 | .agg ds=>zh3 ds
 | _=>none
def zh3 {H:Type}:List (DataW H)->Option (List Value)
 | []=>some []
 | d::r=>match vo d,zh3 r with
  | some a,some b=>some (a++b)
  | _,_=>none
end
def zkb (P:Program) (n:Nat):Nat->List Field->Bool
 | o,[]=>o==n
 | o,f::r=>f.offset==o&&zkb P n (o+P.cellsOf f.type) r
def zn5 (P:Program):Nat->TypeId->Bool
 | 0,_=>false
 | n+1,t=>match P.underlying t with
  | some (.int _) | some .bool | some .string=>true
  | some (.struct fs)=>zkb P (P.cellsOf t) 0 fs.toList&&fs.toList.all (fun f=>zn5 P n f.type)
  | some (.array m e)=>P.cellsOf t==m*P.cellsOf e&&zn5 P n e
  | _=>false
theorem zgz {H:Type} {ds:List (DataW H)} {cs:List Value}: ∀ {ls:List (List Value)},ls.length=ds.length->(∀ (i:Nat) (d:DataW H) (l:List Value),ds[i]? =some d->ls[i]? =some l->vo d=some l)->ls.flatten=cs->zh3 ds=some cs:=by
 induction ds generalizing cs with
 | nil=>intro ls hl _ h;cases ls with
  | nil=>simp at h;subst h;simp [zh3]
  | cons _ _=>simp at hl
 | cons d r ih=>
  intro ls hl hp h
  cases ls with
  | nil=>simp at hl
  | cons l q=>
   have h1:=hp 0 d l rfl rfl
   have h2:=ih (ls:=q) (cs:=q.flatten) (by simpa using hl) (fun i d l h3 h4=>hp (i+1) d l (by simpa using h3) (by simpa using h4)) rfl
   simp only [zh3,h1,h2]
   simpa using h
theorem zjh {P:Program} {cs:List Value} {n:Nat} (hn:cs.length=n): ∀ {fs:List Field} {o:Nat},zkb P n o fs=true->o<=n->(fs.map fun f=>(cs.drop f.offset).take (P.cellsOf f.type)).flatten=cs.drop o:=by
 intro fs
 induction fs with
 | nil=>
  intro o h _
  simp only [zkb,beq_iff_eq] at h
  subst h
  simp [<- hn]
 | cons f r ih=>
  intro o h ho
  simp only [zkb,Bool.and_eq_true,beq_iff_eq] at h
  obtain ⟨h1,h2⟩:=h
  subst h1
  have hle:f.offset+P.cellsOf f.type<=n:=by
   clear ih
   have: ∀ {fs:List Field} {o:Nat},zkb P n o fs=true->o<=n:=by
    intro fs
    induction fs with
    | nil=>intro o h;simp only [zkb,beq_iff_eq] at h;omega
    | cons g q ih=>intro o h;simp only [zkb,Bool.and_eq_true,beq_iff_eq] at h;have:=ih h.2;omega
   exact this h2
  simp only [List.map_cons,List.flatten_cons]
  rw [ih h2 hle]
  rw [<- List.drop_drop,List.take_append_drop]
theorem zin {c:Nat}: ∀ {n:Nat} {cs:List Value},cs.length=n*c->((List.range n).map fun i=>(cs.drop (i*c)).take c).flatten=cs:=by
 intro n
 induction n with
 | zero=>intro cs h;simp at h;simp [h]
 | succ n ih=>
  intro cs h
  rw [List.range_succ_eq_map,List.map_cons,List.flatten_cons,List.map_map]
  have h2:=ih (cs:=cs.drop c) (by rw [List.length_drop,h,Nat.succ_mul];omega)
  have e:((List.range n).map ((fun i=>(cs.drop (i*c)).take c) ∘ Nat.succ))=(List.range n).map fun i=>((cs.drop c).drop (i*c)).take c:=by
   apply List.map_congr_left
   intro i _
   simp only [Function.comp,List.drop_drop]
   rw [show Nat.succ i*c=c+i*c by rw [Nat.succ_mul];omega]
  rw [e,h2]
  simp
theorem zmB {H:Type} {enc:TypeId×Value->H} {P:Program} {w:World} {base:Nat} {sp:Nat->Bool} {held:Bool}: ∀ (n:Nat) {fuel:Nat} {t:TypeId} {cs:List Value} {d:DataW H} {p:List MemPlace},
  zn5 P n t=true->DataW.trod enc P w base sp held fuel t cs=some (d,p)->vo d=some cs:=by
 intro n
 induction n with
 | zero=>intro fuel t cs d p h;cases h
 | succ n ih=>
  intro fuel t cs d p h hd
  unfold zn5 at h
  split at h
  ·rename_i k hu
   obtain ⟨m,rfl,he,_⟩:=DataW.trod_int hu hd
   cases he
   simp [vo]
  ·rename_i hu
   obtain ⟨b,rfl,he⟩:=DataW.trod_bool hu hd
   cases he
   simp [vo]
  ·rename_i hu
   obtain ⟨s,rfl,he,_⟩:=DataW.trod_string hu hd
   cases he
   simp [vo]
  ·rename_i fs hu
   simp only [Bool.and_eq_true,List.all_eq_true] at h
   obtain ⟨h1,h2⟩:=h
   obtain ⟨xs,m,rfl,he,hl,hxl,hf⟩:=DataW.trod_struct hu hd
   cases he
   rw [vo]
   refine zgz (ls:=fs.toList.map fun f=>(cs.drop f.offset).take (P.cellsOf f.type)) (by simp [hxl]) (fun i d l hi hl'=> ?_) (by rw [zjh hl h1 (Nat.zero_le _)];rfl)
   rw [List.getElem?_map] at hi hl'
   cases hfi:fs[i]? with
   | none=>rw [Array.getElem?_toList,hfi] at hl';cases hl'
   | some f=>
    rw [Array.getElem?_toList,hfi] at hl'
    cases hl'
    have h3:=hf i f hfi
    cases hx:xs[i]? with
    | none=>rw [hx] at hi;cases hi
    | some x=>
     rw [hx] at hi h3
     cases hi
     exact ih (h2 f (by simpa using Array.mem_of_getElem? hfi)) h3
  ·rename_i m e hu
   simp only [Bool.and_eq_true,beq_iff_eq] at h
   obtain ⟨h1,h2⟩:=h
   obtain ⟨xs,q,rfl,he,hl,hxl,hf⟩:=DataW.trod_array hu hd
   cases he
   rw [vo]
   refine zgz (ls:=(List.range m).map fun i=>(cs.drop (i*P.cellsOf e)).take (P.cellsOf e)) (by simp [hxl]) (fun i d l hi hl'=> ?_) (zin (by omega))
   rw [List.getElem?_map] at hi hl'
   have him:i<m:=by
    cases hr:(List.range m)[i]? with
    | none=>rw [hr] at hl';cases hl'
    | some j=>have:=(List.getElem?_eq_some_iff.1 hr).1;simpa using this
   rw [List.getElem?_range him] at hl'
   cases hl'
   have h3:=hf i him
   cases hx:xs[i]? with
   | none=>rw [hx] at hi;cases hi
   | some x=>
    rw [hx] at hi h3
    cases hi
    exact ih h2 h3
  ·cases h
theorem zqZ {P:Program} {w:World} {nm:String} {d:DataW Unit}: ∀ {laid:List (String×DataW Unit)} {ps:List MemPlace} {i:Nat},DataW.LaidVars P w laid ps->laid[i]? =some (nm,d)->
  ∃ g t cs fuel p,P.globalNamed nm=some g/\(P.globals[g]?).map (·.type)=some t/\w.var? P nm=some cs/\DataW.trod (fun _=>()) P w 0 (fun _=>true) false fuel t cs.toList=some (d,p):=by
 intro laid
 induction laid with
 | nil=>intro ps i _ h;simp at h
 | cons x r ih=>
  intro ps i h hi
  obtain ⟨n,e⟩:=x
  obtain ⟨g,t,cs,fuel,p,q,h1,h2,h3,h4,h5,_⟩:=h
  cases i with
  | zero=>
   simp only [List.getElem?_cons_zero,Option.some.injEq,Prod.mk.injEq] at hi
   obtain ⟨rfl,rfl⟩:=hi
   exact ⟨g,t,cs,fuel,p,h1,h2,h3,h4⟩
  | succ i=>exact ih h5 (by simpa using hi)
theorem zn6 {α:Type} {P:Program} {W:World} {laid:List (String×DataW Unit)} {nm:String} {d:DataW Unit} {g t sz:Nat} {enc:α->List Value} {xs:List α} (i k:Nat) (h:laidMet P laid W) (hi:laid[i]? =some (nm,d)) (hg:P.globalNamed nm=some g)
  (hty:(P.globals[g]?).map (·.type)=some t) (hf:zn5 P k t=true) (hc:vo d=some (vy enc xs)) (he: ∀ x,(enc x).length=sz) (hl:Nat.ble xs.length 9223372036854775807=true) {m:Nat} (hm:xs.length=m):
  Rd W [] (.slice (some ⟨g,0,none⟩) m m) enc sz xs:=by
 subst hm
 obtain ⟨ps,hv,_,_⟩:=h
 obtain ⟨g',t',cs,fuel,p,h1,h2,h3,h4⟩:=zqZ hv hi
 obtain rfl:=Option.some.inj (hg.symm.trans h1)
 obtain rfl:=Option.some.inj (hty.symm.trans h2)
 have h5:=zmB k hf h4
 rw [hc] at h5
 have e:=Option.some.inj h5
 refine ⟨Nat.le_of_ble_eq_true hl,_,_,rfl,Nat.le_refl _,fun j x f u hx hu=>⟨g,0,rfl,by simp,?_⟩⟩
 rw [Nat.zero_add,World.var?_cell hg h3,<- Array.getElem?_toList,<- e]
 exact zfx he hx hu
theorem zji {C:Checked} {os:Os} {f:FuncId} {fn:Func} {s:ChangeSpec} {F:Stop.Interp} {conds:List PathCond} {laid:List (String×DataW Unit)} {tb:TypeId} (H:Type) (enc:TypeId×Value->H)
  (own:ownKnob C.prog.godebug=none) (started:os.Started) (noInit:C.prog.inits.idxOf? f=none) (hfn:C.prog.funcs[f]? =some fn)
  (witness: ∃ (w:World) (tape:Tape) (i:Input),w.os=os/\(w.forCall tape i).Shaped C.prog/\i.vars= []/\Input.okWide C.prog (w.forCall tape i) .any w.heap.size f i/\
   (OpenSpec.ofChange s).preRow enc C.prog fn conds false laid (w.forCall tape i).memory i.args/\({}:Assume).holds C.prog (lone (Frame.enter C.prog f i.args .normal) [] (w.forCall tape i)))
  (laidOut:laidOutB C.prog=true) (hvars:s.vars= []) (hts:fn.params.toList.all (fun t=>C.prog.readableRec t&&decide (t<C.prog.types.size))=true)
  (hrt:fn.resultTypes= #[tb]) (htb:C.prog.underlying tb=some .bool)
  (hres: ∀ (ds:List (DataW H)),ds.length=fn.params.toList.length->(s.fn H (ds++ [])).results= [.lit (.bool true)]/\(s.fn H (ds++ [])).args=ds/\(s.fn H (ds++ [])).vars= [])
  (contract: ∀ (W:World) (base:Nat) (args:Array Value) (ds:List (DataW H)) (ps:List MemPlace),laidMetH C.prog laid W->
   (∀ (j:Nat) t v,fn.params[j]? =some t->args[j]? =some v->Value.okWide C.prog W .any base t v)->
   DataW.TrodAll enc C.prog W 0 (fun _=>true) true fn.params.toList args.toList ds ps->(∀ n∈DataW.weightsEach C.prog fn.params.toList ds,n<=reachBytes)->
   Calls C.prog f args W fun e W'=>e= .returned (.bool true)/\Chg [] W W'):
  ReturnsInHanded {} C os f .any ((OpenSpec.ofChange s).preRow enc C.prog fn conds false laid) (((OpenSpec.ofChange s).at F).post enc C.prog fn false true false false):=by
 refine returnsInHanded_of_row (s:=OpenSpec.ofChange s) own started noInit hfn witness ?_
 intro W base args ds gs before hval hW _ _ hsz hL _ _
 have hW':=hW
 obtain ⟨p,q,hA,hV,rfl,_,_⟩:=hW
 have hV':DataW.TrodVars enc C.prog W (fun _=>true) s.vars gs q:=hV
 rw [hvars] at hV'
 obtain ⟨rfl,rfl⟩:=trodVars_none hV'
 have hw: ∀ n∈DataW.weightsEach C.prog fn.params.toList ds,n<=reachBytes:=by
  intro n hn
  have:n∈DataW.weightsEach C.prog (fn.params.toList++(OpenSpec.ofChange s).bare.plain.varTypes C.prog) (ds++ []):=by
   rw [List.append_nil]
   exact ze3 (zfT hA) hn
  have h2:=List.all_eq_true.1 hsz n this
  simpa using h2
 refine (contract W base args ds p hL hval hA hw).mono fun e W' ⟨he,hc⟩=> ?_
 subst he
 have hb:=hc.below
 have hlt: ∀ x∈p,x.block<W.heap.size:=fun x hx=>hW'.lt x (List.mem_append_left _ hx)
 obtain ⟨r1,r2,r3⟩:=hres ds (zfT hA)
 refine ⟨_,rfl,?_⟩
 show s.post enc C.prog fn false true false false W args _ W'
 refine ⟨ds,[],p++ [],[]++ [],p,[],hW',?_,?_,?_,hb.frame _,fun h=>by cases h⟩
 ·rw [r1,hrt]
  exact zmU htb
 ·rw [r2]
  exact zgi laidOut hb hts hA hlt
 ·rw [r3,hvars]
  rfl
def zrS (g:Nat) (cs:List Value) (h:Array Obj):Array Obj:=h.modify g fun
 | .cells _ t frozen=> .cells cs.toArray t frozen
 | o=>o
def zn7:List (Nat×List Value)->Array Obj->Array Obj
 | [],h=>h
 | (g,cs)::r,h=>zn7 r (zrS g cs h)
def zh4 (P:Program) (os:Os) (ts:List (Nat×List Value)):World:=
 {World.holding P os ⟨#[],#[],[]⟩ with heap:=zn7 ts (World.holding P os ⟨#[],#[],[]⟩).heap}
end Go.Sx
namespace Go.Sx
open Go.RowKit
def zpw:List Operand->List Nat
 | []=> []
 | .tmp t::r=>t::zpw r
 | _::r=>zpw r
def lk (l:List Oper) (o:Oper):List Nat:=zpw o.op.operands.toList++(match o.guard with
 | none=> []
 | some (j,_)=>match (vg l j).bind (·.dst) with
  | some d=> [d]
  | none=> [])
theorem zoh {t:Nat} {xs:List Operand} (h:Operand.tmp t∈xs):t∈zpw xs:=by
 induction xs with
 | nil=>exact absurd h znm
 | cons x r ih=>
  rcases List.mem_cons.1 h with h2 | h2
  ·subst h2;exact zcs
  ·cases x with
   | tmp u=>exact zcm _ (ih h2)
   | const v=>exact ih h2
   | global g=>exact ih h2
   | func f=>exact ih h2
theorem zoi {a b:Act} {x:Operand} (h: ∀ t,x= .tmp t->a.tmps[t]? =b.tmps[t]?):a.eval x=b.eval x:=by
 cases x with
 | tmp t=>simp [Act.eval,Array.getD_eq_getD_getElem?,h t rfl]
 | _=>rfl
theorem zdP {l:List Oper} {o:Oper} {a b:Act} (hs:vS o.op=true) (h: ∀ s∈lk l o,a.tmps[s]? =b.tmps[s]?):execOp a.eval o=execOp b.eval o:=
 zd5 hs (fun x hx=>zoi (fun t e=>h t (zal _ (zoh (by rw [<- e];exact hx)))))
theorem zbO {l:List Oper} {o:Oper} {a b:Act} (h: ∀ s∈lk l o,a.tmps[s]? =b.tmps[s]?):Region.wanted o (yielded l.toArray a.tmps)=Region.wanted o (yielded l.toArray b.tmps):=by
 unfold Region.wanted
 cases hg:o.guard with
 | none=>rfl
 | some g=>
  obtain ⟨j,c⟩:=g
  have hy:yielded l.toArray a.tmps j=yielded l.toArray b.tmps j:=by
   unfold yielded
   rw [zbm]
   cases hd:(vg l j).bind (·.dst) with
   | none=>rfl
   | some d=>
    have:=h d (by
     unfold lk
     rw [hg]
     simp only [hd]
     exact zar _ (List.mem_singleton.2 rfl))
    simp only [zbs,this]
  simp only [hy]
abbrev zfH:=List (Nat×(World->Prop))
def holds:zfH->World->Prop
 | [],_=>True
 | p::r,w=>p.2 w/\holds r w
def zeT (keep:List Nat):zfH->zfH
 | []=> []
 | p::r=>match mem? p.1 keep with
  | true=>p::zeT keep r
  | false=>zeT keep r
theorem zkn {F:zfH} {w:World} (h:holds F w): ∀ p∈F,p.2 w:=by
 induction F with
 | nil=>intro p hp;exact absurd hp znm
 | cons q r ih=>
  intro p hp
  rcases List.mem_cons.1 hp with rfl | hp
  ·exact h.1
  ·exact ih h.2 p hp
theorem zko {keep:List Nat} {F:zfH} {p:Nat×(World->Prop)} (hp:p∈F) (hk:p.1∈keep):p∈zeT keep F:=by
 induction F with
 | nil=>exact absurd hp znm
 | cons q r ih=>
  unfold zeT
  rcases List.mem_cons.1 hp with rfl | hp
  ·rw [mem?_iff.2 hk];exact zcs
  ·split
   ·exact zcm _ (ih hp)
   ·exact ih hp
def aft (l:List Oper) (i:Nat):List Nat:=match vg l i with
 | none=> []
 | some o=>(o.after.toList.filter (fun e=>Region.binds .any e)).map (·.on)
theorem zoj {l:List Oper} {i j:Nat} {o:Oper} (h:vg l i=some o):j∈aft l i↔ ∃ e∈o.after,Region.binds .any e=true/\e.on=j:=by
 unfold aft
 rw [h]
 simp only [List.mem_map,List.mem_filter,Array.mem_toList_iff]
 constructor
 ·rintro ⟨e,⟨h1,h2⟩,h3⟩;exact ⟨e,h1,h2,h3⟩
 ·rintro ⟨e,h1,h2,h3⟩;exact ⟨e,⟨h1,h2⟩,h3⟩
def close (l:List Oper):Nat->List Nat->List Nat->List Nat
 | 0,_,zcy=>zcy
 | _+1,[],zcy=>zcy
 | n+1,j::r,zcy=>match mem? j zcy with
  | true=>close l n r zcy
  | false=>close l n (aft l j++r) (j::zcy)
def zpX (l:List Oper) (i:Nat):List Nat:=close l ((l.length+1)*(l.length+1)) (aft l i) []
theorem zgE {l:List Oper} {p:Nat->Prop} (down: ∀ j,p j-> ∀ k∈aft l j,p k): ∀ (n:Nat) (todo zcy:List Nat),(∀ x∈todo,p x)->(∀ x∈zcy,p x)-> ∀ x∈close l n todo zcy,p x
 | 0,_,_,_,h=>h
 | _+1,[],_,_,h=>h
 | n+1,j::r,zcy,ht,h=>by
  unfold close
  split
  ·exact zgE down n r zcy (fun x hx=>ht x (zcm _ hx)) h
  ·refine zgE down n (aft l j++r) (j::zcy) (fun x hx=> ?_) (fun x hx=> ?_)
   ·rcases List.mem_append.1 hx with hx | hx
    ·exact down j (ht j zcs) x hx
    ·exact ht x (zcm _ hx)
   ·rcases List.mem_cons.1 hx with rfl | hx
    ·exact ht _ zcs
    ·exact h x hx
def zsY (P:Program) (l:List Oper) (F:zfH) (b:Act) (j:Nat):Prop:=
  ∃ (o : Oper) (v : Value), vg l j = some o /\ vS o.op = true /\ (∀ d, o.dst = some d -> b.tmps[d]? = some v) /\
    ((Region.wanted o (yielded l.toArray b.tmps)=true/\((∀ w,(execOp b.eval o).run P w= .ok (.value v) w)\/ ∃ Φ,(j,Φ)∈F/\ ∀ w,Φ w->(execOp b.eval o).run P w= .ok (.value v) w))\/
     (Region.wanted o (yielded l.toArray b.tmps)=false/\v=undef))
def zcf (l:List Oper) (j:Nat):Option Nat:=(vg l j).bind (·.dst)
def zhl (l:List Oper) (j:Nat):List Nat:=match vg l j with
 | none=> []
 | some o=>lk l o
structure Rel (P:Program) (l:List Oper) (done eff:List Nat) (F:zfH) (w:World) (listed:Array Bool) (a b:Act):Prop where
 size:listed.size=l.length
 asz:a.tmps.size=b.tmps.size
 adf:a.defers=b.defers
 sub: ∀ j,listed.getD j false=true->j∈done
 down: ∀ j,listed.getD j false=true-> ∀ k∈aft l j,listed.getD k false=true
 eff: ∀ j∈eff,listed.getD j false=true
 same: ∀ s,(∀ j∈done,listed.getD j false=false->zcf l j ≠ some s)->a.tmps[s]? =b.tmps[s]?
 facts: ∀ p∈F,listed.getD p.1 false=false->p.2 w
 pend: ∀ j∈done,listed.getD j false=false->zsY P l F b j
 ord: ∀ i∈done,listed.getD i false=false-> ∀ j∈done,listed.getD j false=false-> ∀ s,zcf l j=some s->s∈zhl l i->j∈aft l i
def cnt (l:List Oper) (listed:Array Bool):Nat:=((List.range l.length).filter (fun j=> !listed.getD j false)).length
theorem zok {p q:Nat->Bool} (h: ∀ j,q j=true->p j=true) {t:Nat} (hp:p t=true) (hq:q t=false): ∀ n,t<n->((List.range n).filter q).length<((List.range n).filter p).length:=by
 have le: ∀ n,((List.range n).filter q).length<=((List.range n).filter p).length:=by
  intro n
  induction n with
  | zero=>exact Nat.le_refl _
  | succ n ih=>
   rw [List.range_succ,List.filter_append,List.filter_append,List.length_append,List.length_append]
   have:(List.filter q [n]).length<=(List.filter p [n]).length:=by
    cases h1:q n with
    | true=>simp [h1,h n h1]
    | false=>simp [h1]
   omega
 intro n
 induction n with
 | zero=>intro ht;omega
 | succ n ih=>
  intro ht
  rw [List.range_succ,List.filter_append,List.filter_append,List.length_append,List.length_append]
  by_cases e:t=n
  ·subst e
   have:=le t
   simp [hp,hq]
   omega
  ·have:=ih (by omega)
   have:(List.filter q [n]).length<=(List.filter p [n]).length:=by
    cases h1:q n with
    | true=>simp [h1,h n h1]
    | false=>simp [h1]
   omega
theorem zjl {l:List Oper} {listed:Array Bool} {j:Nat} (hs:listed.size=l.length) (hj:j<l.length) (h:listed.getD j false=false):cnt l (listed.setIfInBounds j true)<cnt l listed:=by
 unfold cnt
 refine zok (fun k hk=> ?_) (t:=j) (by rw [h];rfl) ?_ l.length hj
 ·cases hl:listed.getD k false with
  | false=>rfl
  | true=>rw [getD_set_true hl] at hk;exact hk
 ·simp [hs,hj]
def zsx (l:List Oper):Bool:=(List.range l.length).all fun i=>(aft l i).all fun j=>Nat.blt j i
theorem zq7 {l:List Oper} {i:Nat} (h:i<l.length): ∃ o,vg l i=some o:=by
 have:l.toArray[i]? =some l[i]:=by simp [h]
 rw [zbm] at this
 exact ⟨_,this⟩
theorem zjm {l:List Oper} {i:Nat} {o:Oper} (h:vg l i=some o):i<l.length:=(zes.1 (zhw h)).1
theorem zkp {listed:Array Bool} {j:Nat} (h:j<listed.size):listed.getD j true=listed.getD j false:=by
 simp [h]
theorem zey {l:List Oper} {listed:Array Bool} (hs:listed.size=l.length) {j:Nat}:j∈Region.ready .any l.toArray listed↔j<l.length/\listed.getD j false=false/\ ∀ k∈aft l j,listed.getD k false=true:=by
 rw [mem_ready]
 constructor
 ·rintro ⟨h0,o,ho,h⟩
  rw [zbm] at ho
  have hj:=zjm ho
  refine ⟨hj,by rw [<- zkp (by omega)];exact h0,fun k hk=> ?_⟩
  obtain ⟨e,he,hb,rfl⟩:=(zoj ho).1 hk
  exact h e he hb
 ·rintro ⟨hj,h0,h⟩
  obtain ⟨o,ho⟩:=zq7 hj
  refine ⟨by rw [zkp (by omega)];exact h0,o,by rw [zbm];exact ho,fun e he hb=>h _ ((zoj ho).2 ⟨e,he,hb,rfl⟩)⟩
theorem zjn {l:List Oper} {listed:Array Bool} (ht:zsx l=true) (hs:listed.size=l.length) (hr:Region.ready .any l.toArray listed= []): ∀ j,j<l.length->listed.getD j false=true:=by
 intro j
 induction j using Nat.strongRecOn with
 | _ j ih=>
  intro hj
  cases h:listed.getD j false with
  | true=>rfl
  | false=>
   have:j∈Region.ready .any l.toArray listed:=(zey hs).2 ⟨hj,h,fun k hk=>by
    have h1:=List.all_eq_true.1 (List.all_eq_true.1 ht j (by simpa using hj)) k hk
    have hkj:k<j:=by simpa [Nat.blt_eq] using h1
    exact ih k hkj (by omega)⟩
   rw [hr] at this
   exact absurd this znm
section
variable {P:Program} {l:List Oper} {N:Nat} {Q:Exit->Act->World->Prop} {done eff:List Nat} {F:zfH} {w:World} {fr:List (Nat×Value)} {a b:Act} {listed:Array Bool}
theorem Rel.get_put {d:Option Nat} {v:Value} {a:Act} {s:Nat} (h:d ≠ some s):(a.put d v).tmps[s]? =a.tmps[s]? :=by
 cases d with
 | none=>rfl
 | some d=>
  have:d ≠ s:=fun e=>h (by rw [e])
  simp only [Act.put]
  rw [Array.getElem?_setIfInBounds_ne this]
theorem zcF {d:Option Nat} {v:Value} {a:Act}:(a.put d v).tmps.size=a.tmps.size:=by
 cases d<;>simp [Act.put]
theorem qz {d:Option Nat} {v:Value} {a:Act}:(a.put d v).defers=a.defers:=by
 cases d<;>simp [Act.put]
theorem ziP {d:Nat} {v:Value} {a:Act} (h:d<a.tmps.size):(a.put (some d) v).tmps[d]? =some v:=by
 simp [Act.put,h]
theorem zaS {listed:Array Bool} {i j:Nat} (h:(listed.setIfInBounds i true).getD j false=false):listed.getD j false=false:=by
 cases hl:listed.getD j false with
 | false=>rfl
 | true=>rw [getD_set_true hl] at h;exact h
theorem zbg {listed:Array Bool} {i:Nat} (h:i<listed.size):(listed.setIfInBounds i true).getD i false=true:=by
 simp [h]
theorem zgX (ht:zsx l=true) (hsel:l.all (fun o=>vS o.op)=true)
  (cbn: ∀ listed a,Rel P l done eff F w listed a b->Region.ready .any l.toArray listed= []->Q .normal a w)
  (cb: ∀ fuel listed a,Rel P l done eff F w listed a b->cnt l listed<=fuel+1-> ∀ j∈Region.ready .any l.toArray listed,j ∉ done->wpOp P l.toArray Q j (wpAny P .any l.toArray Q fuel (listed.setIfInBounds j true)) a w):
  ∀ fuel listed a,Rel P l done eff F w listed a b->cnt l listed<=fuel->wpAny P .any l.toArray Q fuel listed a w:=by
 intro fuel
 induction fuel with
 | zero=>
  intro listed a hR hc
  have hr:Region.ready .any l.toArray listed= []:=by
   rw [List.eq_nil_iff_forall_not_mem]
   intro j hj
   obtain ⟨h1,h2,_⟩:=(zey hR.size).1 hj
   have:=zjl hR.size h1 h2
   omega
  exact ⟨hr,cbn _ _ hR hr⟩
 | succ fuel ih=>
  intro listed a hR hc
  refine ⟨fun hr=>cbn _ _ hR hr,fun j hj=> ?_⟩
  by_cases hd:j∈done
  ·obtain ⟨h1,h2,h3⟩:=(zey hR.size).1 hj
   obtain ⟨o,v,ho,hs,hdst,hrun⟩:=hR.pend j hd h2
   have hagree: ∀ s∈lk l o,a.tmps[s]? =b.tmps[s]? :=fun s hs'=>hR.same s (fun k hk hkl e=>by
    have:=hR.ord j hd h2 k hk hkl s e (by unfold zhl;rw [ho];exact hs')
    rw [h3 k this] at hkl
    cases hkl)
   have next:wpAny P .any l.toArray Q fuel (listed.setIfInBounds j true) (a.put o.dst v) w:=by
    refine ih _ _ ⟨by simpa using hR.size,by rw [zcF,hR.asz],by rw [qz,hR.adf],fun k hk=> ?_,fun k hk q hq=> ?_,fun k hk=>getD_set_true (hR.eff k hk),fun s hs'=> ?_,fun p hp hl=>hR.facts p hp (zaS hl),fun k hk hl=>hR.pend k hk (zaS hl),
     fun i hi hil k hk hkl=>hR.ord i hi (zaS hil) k hk (zaS hkl)⟩ ?_
    ·by_cases e:j=k
     ·subst e;exact hd
     ·rw [getD_set_ne false e] at hk;exact hR.sub k hk
    ·by_cases e:j=k
     ·subst e;exact getD_set_true (h3 q hq)
     ·rw [getD_set_ne false e] at hk;exact getD_set_true (hR.down k hk q hq)
    ·by_cases e:o.dst=some s
     ·have hb:=hdst s e
      have hlt:s<a.tmps.size:=by rw [hR.asz];exact (Array.getElem?_eq_some_iff.1 hb).1
      rw [e,ziP hlt,hb]
     ·rw [Rel.get_put e]
      refine hR.same s (fun k hk hkl hke=> ?_)
      by_cases ejk:j=k
      ·subst ejk
       unfold zcf at hke
       rw [ho] at hke
       exact e hke
      ·exact hs' k hk (by rw [getD_set_ne false ejk];exact hkl) hke
    ·have:=zjl hR.size h1 h2
     omega
   unfold wpOp
   rw [zbm,ho]
   simp only []
   rw [zbO hagree]
   rcases hrun with ⟨hw,hrun⟩ | ⟨hw,rfl⟩
   ·rw [if_pos hw]
    left
    unfold Oper.wp
    rw [zdP hs hagree]
    have:(execOp b.eval o).run P w= .ok (.value v) w:=by
     rcases hrun with hrun | ⟨Φ,hF,hrun⟩
     ·exact hrun w
     ·exact hrun w (hR.facts _ hF h2)
    rw [this,Oper.upon_value]
    exact next
   ·rw [if_neg (by rw [hw];exact Bool.false_ne_true)]
    exact next
  ·exact cb fuel listed a hR hc j hj hd
def zsJ (P:Program) (l:List Oper) (Q:Exit->Act->World->Prop) (done eff:List Nat) (F:zfH) (b:Act) (w:World):Prop:=
 ∀ fuel listed a,Rel P l done eff F w listed a b->cnt l listed<=fuel->wpAny P .any l.toArray Q fuel listed a w
def OA (P:Program) (l:List Oper) (N:Nat) (Q:Exit->Act->World->Prop) (done eff:List Nat) (F:zfH) (fr:List (Nat×Value)) (w:World):Prop:=
 ∀ b,Rep N fr b->zsJ P l Q done eff F b w
def zjo (l:List Oper):Bool:=zsx l&&l.all (fun o=>vS o.op)
theorem CW.plan {id:Nat} (hm:P.follows .mixedOrders=true) (h: ∀ w1,Chg [] w w1->OA P l N Q [] [] [] fr w1):CW P N (.region id l.toArray true) Q fr w:=fun a ha=>by
 refine wp_region_any hm ?_
 refine h {w with drawn:=w.drawn+1} ⟨rfl,rfl,rfl,Nat.le_refl _,fun _ _ _=>rfl⟩ a ha _ _ _ ⟨by simp,rfl,rfl,fun j hj=> ?_,fun j hj=> ?_,fun j hj=>absurd hj znm,fun s _=>rfl,fun p hp=>absurd hp znm,fun j hj=>absurd hj znm,fun j hj=>absurd hj znm⟩ ?_
 ·exfalso
  by_cases hlt:j<l.length
  ·simp [hlt] at hj
  ·simp [hlt] at hj
 ·exfalso
  by_cases hlt:j<l.length
  ·simp [hlt] at hj
  ·simp [hlt] at hj
 ·unfold cnt
  refine Nat.le_trans (List.length_filter_le _ _) ?_
  simp
def zoq (l:List Oper) (done eff:List Nat) (i:Nat):Bool:=
 !mem? i done&&(match zcf l i with
  | none=>true
  | some d=> !mem? d (zhl l i)&&done.all (fun j=>mem? j eff||(!mem? d (zhl l j)&& !(zcf l j==some d))))&&
 done.all (fun j=>mem? j eff||mem? j (aft l i)||match zcf l j with
  | none=>true
  | some s=> !mem? s (zhl l i))
theorem not_mem? {n:Nat} {l:List Nat} (h:(!mem? n l)=true):n ∉ l:=fun hm=>by rw [mem?_iff.2 hm] at h;cases h
theorem OA.add {i:Nat} {o:Oper} {v:Value} (fr2:List (Nat×Value)) (F2:zfH) (hl:vg l i=some o) (hck:zoq l done eff i=true) (hs:vS o.op=true)
  (hfr: ∀ b,Rep N fr b->Rep N fr2 (b.put o.dst v))
  (hF: ∀ p∈F,p∈F2) (hF2: ∀ p∈F2,p∈F\/p.2 w)
  (hv: ∀ b,Rep N fr b->(Region.wanted o (yielded l.toArray b.tmps)=true/\((∀ w,(execOp b.eval o).run P w= .ok (.value v) w)\/ ∃ Φ,(i,Φ)∈F2/\ ∀ w,Φ w->(execOp b.eval o).run P w= .ok (.value v) w))\/
   (Region.wanted o (yielded l.toArray b.tmps)=false/\v=undef))
  (hN: ∀ d,o.dst=some d->d<N)
  (h:OA P l N Q (i::done) eff F2 fr2 w):OA P l N Q done eff F fr w:=by
 intro b hb fuel listed a hR hc
 unfold zoq at hck
 simp only [zae] at hck
 obtain ⟨⟨hn,hd⟩,hlk⟩:=hck
 have hn:=not_mem? hn
 have hdi:zcf l i=o.dst:=by unfold zcf;rw [hl];rfl
 have hli:zhl l i=lk l o:=by unfold zhl;rw [hl]
 have hil:listed.getD i false=false:=by
  cases hx:listed.getD i false with
  | false=>rfl
  | true=>exact absurd (hR.sub i hx) hn
 have noteff: ∀ j,listed.getD j false=false->mem? j eff=false:=fun j hj=>by
  cases hm:mem? j eff with
  | false=>rfl
  | true=>rw [hR.eff j (mem?_iff.1 hm)] at hj;cases hj
 have hd1: ∀ d,o.dst=some d->d ∉ lk l o/\ ∀ j∈done,listed.getD j false=false->d ∉ zhl l j/\zcf l j ≠ some d:=by
  intro d e
  rw [hdi,e] at hd
  simp only [zae] at hd
  refine ⟨by rw [<- hli];exact not_mem? hd.1,fun j hj hjl=> ?_⟩
  have:=List.all_eq_true.1 hd.2 j hj
  rw [noteff j hjl,Bool.false_or,zae] at this
  refine ⟨not_mem? this.1,fun e2=> ?_⟩
  rw [e2] at this
  simp at this
 have hd2: ∀ j∈done,listed.getD j false=false-> ∀ s,zcf l j=some s->s∈zhl l i->j∈aft l i:=by
  intro j hj hjl s e hs'
  have:=List.all_eq_true.1 hlk j hj
  rw [noteff j hjl,Bool.false_or,e] at this
  simp only [Bool.or_eq_true] at this
  rcases this with h1 | h1
  ·exact mem?_iff.1 h1
  ·exact absurd hs' (not_mem? h1)
 have keepL: ∀ (o':Oper),(∀ d,o.dst=some d->d ∉ lk l o')-> ∀ s∈lk l o',(b.put o.dst v).tmps[s]? =b.tmps[s]? :=fun o' h' s hs'=>Rel.get_put (fun e=>h' s e hs')
 refine h (b.put o.dst v) (hfr b hb) fuel listed a ⟨hR.size,by rw [zcF,hR.asz],by rw [qz,hR.adf],fun j hj=>zcm _ (hR.sub j hj),hR.down,hR.eff,fun s hs'=> ?_,fun p hp hl'=> ?_,fun j hj hjl=> ?_,?_⟩ hc
 ·have hne:o.dst ≠ some s:=fun e=>hs' i zcs hil (by rw [hdi,e])
  rw [Rel.get_put hne]
  exact hR.same s (fun j hj=>hs' j (zcm _ hj))
 ·rcases hF2 p hp with h1 | h1
  ·exact hR.facts p h1 hl'
  ·exact h1
 ·rcases List.mem_cons.1 hj with rfl | hj
  ·have e1:=keepL o (fun d e=>(hd1 d e).1)
   refine ⟨o,v,hl,hs,fun d e=> ?_,?_⟩
   ·rw [e]
    exact ziP (by rw [hb.size];exact hN d e)
   ·rw [zbO e1,zdP hs e1]
    exact hv b hb
  ·obtain ⟨o',v',ho',hs',hdst',hrun'⟩:=hR.pend j hj hjl
   have hlj:zhl l j=lk l o':=by unfold zhl;rw [ho']
   have hdj:zcf l j=o'.dst:=by unfold zcf;rw [ho'];rfl
   have e1:=keepL o' (fun d e=>by rw [<- hlj];exact ((hd1 d e).2 j hj hjl).1)
   refine ⟨o',v',ho',hs',fun d e=> ?_,?_⟩
   ·rw [Rel.get_put (fun e2=>((hd1 d e2).2 j hj hjl).2 (by rw [hdj,e]))]
    exact hdst' d e
   ·rw [zbO e1,zdP hs' e1]
    rcases hrun' with ⟨h1,h2 | ⟨Φ,h2,h3⟩⟩ | h1
    ·exact .inl ⟨h1,.inl h2⟩
    ·exact .inl ⟨h1,.inr ⟨Φ,hF _ h2,h3⟩⟩
    ·exact .inr h1
 ·intro i' hi' hil' j hj hjl s e hs'
  rcases List.mem_cons.1 hi' with rfl | hi2
  ·rcases List.mem_cons.1 hj with rfl | hj2
   ·exfalso
    rw [hdi] at e
    rw [hli] at hs'
    exact (hd1 s e).1 hs'
   ·exact hd2 j hj2 hjl s e hs'
  ·rcases List.mem_cons.1 hj with rfl | hj2
   ·exfalso
    rw [hdi] at e
    exact ((hd1 s e).2 i' hi2 hil').1 hs'
   ·exact hR.ord i' hi2 hil' j hj2 hjl s e hs'
def zsK (l:List Oper) (done:List Nat):Bool:=(List.range l.length).all fun j=>mem? j done
theorem OA.fin (hp:zjo l=true) (hall:zsK l done=true) (h:QW N Q .normal fr w):OA P l N Q done eff F fr w:=by
 intro b hb
 unfold zjo at hp
 rw [zae] at hp
 refine zgX hp.1 hp.2 (fun listed a hR hr=> ?_) (fun fuel listed a hR hc j hj hd=> ?_)
 ·have hpr:=zjn hp.1 hR.size hr
  have same: ∀ s,a.tmps[s]? =b.tmps[s]? :=fun s=>hR.same s (fun j hj hjl e=>by
   unfold zcf at e
   cases ho:vg l j with
   | none=>rw [ho] at e;cases e
   | some o=>rw [hpr j (zjm ho)] at hjl;cases hjl)
  exact h a ⟨hR.asz.trans hb.size,hR.adf.trans hb.defers,fun i v hi=>(same i).trans (hb.get i v hi)⟩
 ·obtain ⟨h1,_,_⟩:=(zey hR.size).1 hj
  exact absurd (mem?_iff.1 (List.all_eq_true.1 hall j (by simpa using h1))) hd
def zsy (l:List Oper) (done eff:List Nat) (i:Nat):Bool:=
 !mem? i done&&
 (List.range l.length).all (fun j=>mem? j done||Nat.beq j i||(aft l j).any (fun k=> !mem? k done))&&
 done.all (fun j=>mem? j eff||mem? j (zpX l i)||match zcf l j with
  | none=>true
  | some s=> !mem? s (zhl l i))&&
 (match zcf l i with
  | none=>true
  | some d=>done.all (fun j=>mem? j eff||mem? j (zpX l i)||(!mem? d (zhl l j)&& !(zcf l j==some d))))
def ziq (l:List Oper) (i:Nat) (keep:List Nat):zfH->Bool
 | []=>true
 | p::r=>(mem? p.1 (zpX l i)||mem? p.1 keep)&&ziq l i keep r
theorem zkq {i:Nat} {keep:List Nat} (h:ziq l i keep F=true): ∀ p∈F,p.1∈zpX l i\/p.1∈keep:=by
 induction F with
 | nil=>intro p hp;exact absurd hp znm
 | cons q r ih=>
  unfold ziq at h
  rw [zae,Bool.or_eq_true] at h
  intro p hp
  rcases List.mem_cons.1 hp with rfl | hp
  ·exact h.1.imp mem?_iff.1 mem?_iff.1
  ·exact ih h.2 p hp
def zfl (P:Program) (l:List Oper) (Q:Exit->Act->World->Prop) (done eff:List Nat) (F:zfH) (e:Exit) (b:Act) (w:World):Prop:=match e with
 | .normal=>holds F w/\zsJ P l Q done eff F b w
 | _=>False
def bare (o:Oper):Oper:= {o with guard:=none}
theorem OA.act {i:Nat} {o:Oper} (keep:List Nat) (hp:zjo l=true) (hl:vg l i=some o) (hg:gd l fr o=some true) (hck:zsy l done eff i=true) (hk:ziq l i keep F=true)
  (h:OW P [bare o] N (zfl P l Q (i::done) (i::eff) (zeT keep F)) 0 fr w):OA P l N Q done eff F fr w:=by
 intro b hb
 unfold zjo at hp
 rw [zae] at hp
 unfold zsy at hck
 simp only [zae] at hck
 obtain ⟨⟨⟨hn,hsat⟩,hlk⟩,hd⟩:=hck
 have hn:=not_mem? hn
 have hilt:=zjm hl
 have hs:vS o.op=true:=List.all_eq_true.1 hp.2 o (zmg (zhw hl))
 have hdi:zcf l i=o.dst:=by unfold zcf;rw [hl];rfl
 have hli:zhl l i=lk l o:=by unfold zhl;rw [hl]
 refine zgX hp.1 hp.2 (fun listed a hR hr=> ?_) (fun fuel listed a hR hc j hj hd'=> ?_)
 ·exact absurd (hR.sub i (zjn hp.1 hR.size hr i hilt)) hn
 obtain ⟨h1,h2,h3⟩:=(zey hR.size).1 hj
 have h3': ∀ k∈zpX l j,listed.getD k false=true:=zgE (p:=fun k=>listed.getD k false=true) hR.down _ _ _ h3 (fun x hx=>absurd hx znm)
 have noteff: ∀ j,listed.getD j false=false->mem? j eff=false:=fun j hj=>by
  cases hm:mem? j eff with
  | false=>rfl
  | true=>rw [hR.eff j (mem?_iff.1 hm)] at hj;cases hj
 have e:j=i:=by
  have:=List.all_eq_true.1 hsat j (by simpa using h1)
  simp only [Bool.or_eq_true] at this
  rcases this with (h4 | h4) | h4
  ·exact absurd (mem?_iff.1 h4) hd'
  ·exact Nat.eq_of_beq_eq_true h4
  ·obtain ⟨k,hk1,hk2⟩:=List.any_eq_true.1 h4
   exact absurd (hR.sub k (h3 k hk1)) (not_mem? hk2)
 subst e
 have hagree: ∀ s∈lk l o,a.tmps[s]? =b.tmps[s]? :=fun s hs'=>hR.same s (fun k hk' hkl e=>by
  have:=List.all_eq_true.1 hlk k hk'
  rw [noteff k hkl,Bool.false_or,e] at this
  simp only [Bool.or_eq_true] at this
  rcases this with h4 | h4
  ·rw [h3' k (mem?_iff.1 h4)] at hkl;cases hkl
  ·exact absurd (by rw [hli];exact hs') (not_mem? h4))
 have hd1: ∀ d,o.dst=some d-> ∀ k∈done,listed.getD k false=false->d ∉ zhl l k/\zcf l k ≠ some d:=by
  intro d e k hk' hkl
  rw [hdi,e] at hd
  have:=List.all_eq_true.1 hd k hk'
  rw [noteff k hkl,Bool.false_or] at this
  simp only [Bool.or_eq_true,zae] at this
  rcases this with h4 | h4
  ·rw [h3' k (mem?_iff.1 h4)] at hkl;cases hkl
  ·refine ⟨not_mem? h4.1,fun e2=> ?_⟩
   rw [e2] at h4
   simp at h4
 have next: ∀ (v:Value) (w':World) (a1 b1:Act),a1.tmps=(a.put o.dst v).tmps->b1.tmps=(b.put o.dst v).tmps->a1.defers=b1.defers->zfl P l Q (j::done) (j::eff) (zeT keep F) .normal b1 w'->
   wpAny P .any l.toArray Q fuel (listed.setIfInBounds j true) a1 w':=by
  intro v w' a1 b1 ea eb ed hA
  obtain ⟨hf,hA⟩:=hA
  have isz:j<listed.size:=by rw [hR.size];exact h1
  refine hA fuel _ a1 ⟨by simpa using hR.size,by rw [ea,eb,zcF,zcF,hR.asz],ed,fun k hk'=> ?_,fun k hk' q hq=> ?_,fun k hk'=> ?_,fun s hs'=> ?_,fun p hp' _=>zkn hf p hp',fun k hk' hkl=> ?_,?_⟩ ?_
  ·by_cases e:j=k
   ·subst e;exact zcs
   ·rw [getD_set_ne false e] at hk';exact zcm _ (hR.sub k hk')
  ·by_cases e:j=k
   ·subst e;exact getD_set_true (h3 q hq)
   ·rw [getD_set_ne false e] at hk';exact getD_set_true (hR.down k hk' q hq)
  ·rcases List.mem_cons.1 hk' with rfl | hk'
   ·exact zbg isz
   ·exact getD_set_true (hR.eff k hk')
  ·rw [ea,eb]
   by_cases e:o.dst=some s
   ·rw [e]
    by_cases hlt:s<b.tmps.size
    ·rw [ziP hlt,ziP (by rw [hR.asz];exact hlt)]
    ·rw [Array.getElem?_eq_none (by rw [zcF,hR.asz];omega),Array.getElem?_eq_none (by rw [zcF];omega)]
   ·rw [Rel.get_put e,Rel.get_put e]
    exact hR.same s (fun k hk' hkl=>hs' k (zcm _ hk') (by
     have:j ≠ k:=fun e2=>hd' (by rw [e2];exact hk')
     rw [getD_set_ne false this]
     exact hkl))
  ·rcases List.mem_cons.1 hk' with rfl | hk'
   ·rw [zbg isz] at hkl;cases hkl
   have hkl:=zaS hkl
   obtain ⟨o',v',ho',hs',hdst',hrun'⟩:=hR.pend k hk' hkl
   have hlj:zhl l k=lk l o':=by unfold zhl;rw [ho']
   have hdj:zcf l k=o'.dst:=by unfold zcf;rw [ho'];rfl
   have e1: ∀ s∈lk l o',b1.tmps[s]? =b.tmps[s]? :=fun s hs2=>by
    rw [eb]
    exact Rel.get_put (fun e=>(hd1 s e k hk' hkl).1 (by rw [hlj];exact hs2))
   refine ⟨o',v',ho',hs',fun d e=> ?_,?_⟩
   ·rw [eb,Rel.get_put (fun e2=>(hd1 d e2 k hk' hkl).2 (by rw [hdj,e]))]
    exact hdst' d e
   ·rw [zbO e1,zdP hs' e1]
    rcases hrun' with ⟨g1,g2 | ⟨Φ,g2,g3⟩⟩ | g1
    ·exact .inl ⟨g1,.inl g2⟩
    ·refine .inl ⟨g1,.inr ⟨Φ,zko g2 ?_,g3⟩⟩
     rcases zkq hk _ g2 with h4 | h4
     ·rw [h3' k h4] at hkl;cases hkl
     ·exact h4
    ·exact .inr g1
  ·intro i' hi' hil' k hk' hkl s e hs'
   rcases List.mem_cons.1 hi' with rfl | hi'
   ·rw [zbg isz] at hil';cases hil'
   rcases List.mem_cons.1 hk' with rfl | hk'
   ·rw [zbg isz] at hkl;cases hkl
   exact hR.ord i' hi' (zaS hil') k hk' (zaS hkl) s e hs'
  ·have:=zjl hR.size h1 h2
   omega
 have hb1:=h b hb
 have hwant:Region.wanted o (yielded l.toArray b.tmps)=true:=xU hg hb
 have hb2:(bare o).wp P b w (fun a w=>zfl P l Q (j::done) (j::eff) (zeT keep F) .normal a w) (zfl P l Q (j::done) (j::eff) (zeT keep F)):=by
  have:wpList P [bare o].toArray (zfl P l Q (j::done) (j::eff) (zeT keep F)) [bare o] b w:=hb1
  unfold wpList at this
  rw [if_pos (show Region.wanted (bare o) (yielded [bare o].toArray b.tmps)=true from rfl)] at this
  rcases this with h4 | ⟨_,a',w',h4⟩
  ·exact h4
  ·exact h4.elim
 unfold wpOp
 rw [zbm,hl]
 simp only []
 rw [zbO hagree,if_pos hwant]
 left
 unfold Oper.wp at hb2 |-
 have hex:execOp b.eval (bare o)=execOp a.eval o:=by
  rw [zdP hs hagree]
  rfl
 rw [hex] at hb2
 generalize (execOp a.eval o).run P w=r at hb2 |-
 cases r with
 | ok n w'=>
  cases n with
  | value v=>exact next v w' _ _ rfl rfl (by rw [qz,qz,hR.adf]) hb2
  | skip=>exact next undef w' _ _ rfl rfl (by rw [qz,qz,hR.adf]) hb2
  | defer d=>exact next undef w' _ _ (by cases ho:o.dst<;>rfl) (by cases ho:o.dst<;>simp [bare,ho,Act.put]) (by rw [qz,qz,hR.adf]) hb2
  | enter f args=>
   refine Calls.mono hb2 (fun e w'' he=> ?_)
   cases e with
   | returned v=>exact next v w'' _ _ rfl rfl (by rw [qz,qz,hR.adf]) he
   | panicked c=>exact he.elim
   | outgrown=>obtain ⟨_,_,he⟩:=he;exact he.elim
  | row row args=>exact Rows.mono hb2 (fun v w'' he=>next v w'' _ _ rfl rfl (by rw [qz,qz,hR.adf]) he)
  | _=>exact hb2.elim
 | halt x w'=>
  cases x with
  | panic v=>exact hb2.elim
  | _=>exact hb2.elim
def zsL (l:List Oper) (done is:List Nat):Bool:=(List.range l.length).all (fun j=>mem? j done||mem? j is||(aft l j).any (fun k=> !mem? k done))
def zmJ (l:List Oper) (done eff:List Nat) (i:Nat):Bool:=
 !mem? i done&&
 done.all (fun j=>mem? j eff||mem? j (zpX l i)||match zcf l j with
  | none=>true
  | some s=> !mem? s (zhl l i))&&
 (match zcf l i with
  | none=>true
  | some d=>done.all (fun j=>mem? j eff||mem? j (zpX l i)||(!mem? d (zhl l j)&& !(zcf l j==some d))))
def Alt (P:Program) (l:List Oper) (N:Nat) (Q:Exit->Act->World->Prop) (done eff:List Nat) (F:zfH) (fr:List (Nat×Value)) (w:World) (i:Nat):Prop:=
 ∃ (o:Oper) (keep:List Nat),vg l i=some o/\gd l fr o=some true/\zmJ l done eff i=true/\ziq l i keep F=true/\OW P [bare o] N (zfl P l Q (i::done) (i::eff) (zeT keep F)) 0 fr w
theorem Alt.of {i:Nat} {o:Oper} (keep:List Nat) (hl:vg l i=some o) (hg:gd l fr o=some true) (hck:zmJ l done eff i=true) (hk:ziq l i keep F=true)
 (h:OW P [bare o] N (zfl P l Q (i::done) (i::eff) (zeT keep F)) 0 fr w):Alt P l N Q done eff F fr w i:=⟨o,keep,hl,hg,hck,hk,h⟩
theorem zpx {p:Nat->Prop}: ∀ i,i∈([]:List Nat)->p i:=fun i h=>absurd h znm
theorem zkr {p:Nat->Prop} {a:Nat} {r:List Nat} (h:p a) (hr: ∀ i,i∈r->p i): ∀ i,i∈a::r->p i:=fun i hi=>by
 rcases List.mem_cons.1 hi with rfl | hi
 ·exact h
 ·exact hr i hi
theorem OA.acts (is:List Nat) (i0:Nat) (hp:zjo l=true) (hi0:mem? i0 is&& !mem? i0 done&&Nat.blt i0 l.length=true) (hsat:zsL l done is=true)
  (hall: ∀ i,i∈is->Alt P l N Q done eff F fr w i):OA P l N Q done eff F fr w:=by
 intro b hb
 unfold zjo at hp
 rw [zae] at hp
 simp only [zae] at hi0
 refine zgX hp.1 hp.2 (fun listed a hR hr=> ?_) (fun fuel listed a hR hc j hj hd'=> ?_)
 ·exact absurd (hR.sub i0 (zjn hp.1 hR.size hr i0 (by simpa [Nat.blt_eq] using hi0.2))) (not_mem? hi0.1.2)
 obtain ⟨h1,h2,h3⟩:=(zey hR.size).1 hj
 have h3': ∀ k∈zpX l j,listed.getD k false=true:=zgE (p:=fun k=>listed.getD k false=true) hR.down _ _ _ h3 (fun x hx=>absurd hx znm)
 have noteff: ∀ j,listed.getD j false=false->mem? j eff=false:=fun j hj=>by
  cases hm:mem? j eff with
  | false=>rfl
  | true=>rw [hR.eff j (mem?_iff.1 hm)] at hj;cases hj
 have e:j∈is:=by
  have:=List.all_eq_true.1 hsat j (by simpa using h1)
  simp only [Bool.or_eq_true] at this
  rcases this with (h4 | h4) | h4
  ·exact absurd (mem?_iff.1 h4) hd'
  ·exact mem?_iff.1 h4
  ·obtain ⟨k,hk1,hk2⟩:=List.any_eq_true.1 h4
   exact absurd (hR.sub k (h3 k hk1)) (not_mem? hk2)
 obtain ⟨o,keep,hl,hg,hck,hk,h⟩:=hall j e
 unfold zmJ at hck
 simp only [zae] at hck
 obtain ⟨⟨hn,hlk⟩,hd⟩:=hck
 have hn:=not_mem? hn
 have hs:vS o.op=true:=List.all_eq_true.1 hp.2 o (zmg (zhw hl))
 have hdi:zcf l j=o.dst:=by unfold zcf;rw [hl];rfl
 have hli:zhl l j=lk l o:=by unfold zhl;rw [hl]
 have hagree: ∀ s∈lk l o,a.tmps[s]? =b.tmps[s]? :=fun s hs'=>hR.same s (fun k hk' hkl e=>by
  have:=List.all_eq_true.1 hlk k hk'
  rw [noteff k hkl,Bool.false_or,e] at this
  simp only [Bool.or_eq_true] at this
  rcases this with h4 | h4
  ·rw [h3' k (mem?_iff.1 h4)] at hkl;cases hkl
  ·exact absurd (by rw [hli];exact hs') (not_mem? h4))
 have hd1: ∀ d,o.dst=some d-> ∀ k∈done,listed.getD k false=false->d ∉ zhl l k/\zcf l k ≠ some d:=by
  intro d e k hk' hkl
  rw [hdi,e] at hd
  have:=List.all_eq_true.1 hd k hk'
  rw [noteff k hkl,Bool.false_or] at this
  simp only [Bool.or_eq_true,zae] at this
  rcases this with h4 | h4
  ·rw [h3' k (mem?_iff.1 h4)] at hkl;cases hkl
  ·refine ⟨not_mem? h4.1,fun e2=> ?_⟩
   rw [e2] at h4
   simp at h4
 have next: ∀ (v:Value) (w':World) (a1 b1:Act),a1.tmps=(a.put o.dst v).tmps->b1.tmps=(b.put o.dst v).tmps->a1.defers=b1.defers->zfl P l Q (j::done) (j::eff) (zeT keep F) .normal b1 w'->
   wpAny P .any l.toArray Q fuel (listed.setIfInBounds j true) a1 w':=by
  intro v w' a1 b1 ea eb ed hA
  obtain ⟨hf,hA⟩:=hA
  have isz:j<listed.size:=by rw [hR.size];exact h1
  refine hA fuel _ a1 ⟨by simpa using hR.size,by rw [ea,eb,zcF,zcF,hR.asz],ed,fun k hk'=> ?_,fun k hk' q hq=> ?_,fun k hk'=> ?_,fun s hs'=> ?_,fun p hp' _=>zkn hf p hp',fun k hk' hkl=> ?_,?_⟩ ?_
  ·by_cases e:j=k
   ·subst e;exact zcs
   ·rw [getD_set_ne false e] at hk';exact zcm _ (hR.sub k hk')
  ·by_cases e:j=k
   ·subst e;exact getD_set_true (h3 q hq)
   ·rw [getD_set_ne false e] at hk';exact getD_set_true (hR.down k hk' q hq)
  ·rcases List.mem_cons.1 hk' with rfl | hk'
   ·exact zbg isz
   ·exact getD_set_true (hR.eff k hk')
  ·rw [ea,eb]
   by_cases e:o.dst=some s
   ·rw [e]
    by_cases hlt:s<b.tmps.size
    ·rw [ziP hlt,ziP (by rw [hR.asz];exact hlt)]
    ·rw [Array.getElem?_eq_none (by rw [zcF,hR.asz];omega),Array.getElem?_eq_none (by rw [zcF];omega)]
   ·rw [Rel.get_put e,Rel.get_put e]
    exact hR.same s (fun k hk' hkl=>hs' k (zcm _ hk') (by
     have:j ≠ k:=fun e2=>hd' (by rw [e2];exact hk')
     rw [getD_set_ne false this]
     exact hkl))
  ·rcases List.mem_cons.1 hk' with rfl | hk'
   ·rw [zbg isz] at hkl;cases hkl
   have hkl:=zaS hkl
   obtain ⟨o',v',ho',hs',hdst',hrun'⟩:=hR.pend k hk' hkl
   have hlj:zhl l k=lk l o':=by unfold zhl;rw [ho']
   have hdj:zcf l k=o'.dst:=by unfold zcf;rw [ho'];rfl
   have e1: ∀ s∈lk l o',b1.tmps[s]? =b.tmps[s]? :=fun s hs2=>by
    rw [eb]
    exact Rel.get_put (fun e=>(hd1 s e k hk' hkl).1 (by rw [hlj];exact hs2))
   refine ⟨o',v',ho',hs',fun d e=> ?_,?_⟩
   ·rw [eb,Rel.get_put (fun e2=>(hd1 d e2 k hk' hkl).2 (by rw [hdj,e]))]
    exact hdst' d e
   ·rw [zbO e1,zdP hs' e1]
    rcases hrun' with ⟨g1,g2 | ⟨Φ,g2,g3⟩⟩ | g1
    ·exact .inl ⟨g1,.inl g2⟩
    ·refine .inl ⟨g1,.inr ⟨Φ,zko g2 ?_,g3⟩⟩
     rcases zkq hk _ g2 with h4 | h4
     ·rw [h3' k h4] at hkl;cases hkl
     ·exact h4
    ·exact .inr g1
  ·intro i' hi' hil' k hk' hkl s e hs'
   rcases List.mem_cons.1 hi' with rfl | hi'
   ·rw [zbg isz] at hil';cases hil'
   rcases List.mem_cons.1 hk' with rfl | hk'
   ·rw [zbg isz] at hkl;cases hkl
   exact hR.ord i' hi' (zaS hil') k hk' (zaS hkl) s e hs'
  ·have:=zjl hR.size h1 h2
   omega
 have hb1:=h b hb
 have hwant:Region.wanted o (yielded l.toArray b.tmps)=true:=xU hg hb
 have hb2:(bare o).wp P b w (fun a w=>zfl P l Q (j::done) (j::eff) (zeT keep F) .normal a w) (zfl P l Q (j::done) (j::eff) (zeT keep F)):=by
  have:wpList P [bare o].toArray (zfl P l Q (j::done) (j::eff) (zeT keep F)) [bare o] b w:=hb1
  unfold wpList at this
  rw [if_pos (show Region.wanted (bare o) (yielded [bare o].toArray b.tmps)=true from rfl)] at this
  rcases this with h4 | ⟨_,a',w',h4⟩
  ·exact h4
  ·exact h4.elim
 unfold wpOp
 rw [zbm,hl]
 simp only []
 rw [zbO hagree,if_pos hwant]
 left
 unfold Oper.wp at hb2 |-
 have hex:execOp b.eval (bare o)=execOp a.eval o:=by
  rw [zdP hs hagree]
  rfl
 rw [hex] at hb2
 generalize (execOp a.eval o).run P w=r at hb2 |-
 cases r with
 | ok n w'=>
  cases n with
  | value v=>exact next v w' _ _ rfl rfl (by rw [qz,qz,hR.adf]) hb2
  | skip=>exact next undef w' _ _ rfl rfl (by rw [qz,qz,hR.adf]) hb2
  | defer d=>exact next undef w' _ _ (by cases ho:o.dst<;>rfl) (by cases ho:o.dst<;>simp [bare,ho,Act.put]) (by rw [qz,qz,hR.adf]) hb2
  | enter f args=>
   refine Calls.mono hb2 (fun e w'' he=> ?_)
   cases e with
   | returned v=>exact next v w'' _ _ rfl rfl (by rw [qz,qz,hR.adf]) he
   | panicked c=>exact he.elim
   | outgrown=>obtain ⟨_,_,he⟩:=he;exact he.elim
  | row row args=>exact Rows.mono hb2 (fun v w'' he=>next v w'' _ _ rfl rfl (by rw [qz,qz,hR.adf]) he)
  | _=>exact hb2.elim
 | halt x w'=>
  cases x with
  | panic v=>exact hb2.elim
  | _=>exact hb2.elim
theorem OA.next {o:Oper} {F2:zfH} (hf:holds F2 w) (h:OA P l N Q done eff F2 fr w):OW P [o] N (zfl P l Q done eff F2) 1 fr w:=
 OW.nil rfl (fun b hb=>⟨hf,h b hb⟩)
def zgF (P:Program) (l:List Oper) (N:Nat) (eff:List Nat):List Nat->List Nat->List (Nat×Value)->Option (List (Nat×Value))
 | [],_,fr=>some fr
 | i::r,done,fr=>match vg l i with
  | none=>none
  | some o=>match zoq l done eff i,vS o.op with
   | true,true=>match o.dst with
    | none=>match gd l fr o with
     | some false=>zgF P l N eff r (i::done) fr
     | _=>none
    | some d=>match Nat.blt d N with
     | false=>none
     | true=>match gd l fr o with
      | some true=>match zpn P fr o with
       | some v=>zgF P l N eff r (i::done) ((d,v)::fr)
       | none=>none
      | some false=>zgF P l N eff r (i::done) ((d,undef)::fr)
      | none=>none
   | _,_=>none
def zsz (is done:List Nat):List Nat:=match is with
 | []=>done
 | i::r=>zsz r (i::done)
theorem zpy: ∀ (is done:List Nat) (fr:List (Nat×Value)) {fr2:List (Nat×Value)},zgF P l N eff is done fr=some fr2->OA P l N Q (zsz is done) eff F fr2 w->OA P l N Q done eff F fr w:=by
 intro is
 induction is with
 | nil=>intro done fr fr2 h k;simp only [zgF,Option.some.injEq] at h;subst h;exact k
 | cons i r ih=>
  intro done fr fr2 h k
  unfold zgF at h
  split at h
  ·cases h
  ·rename_i o ho
   split at h
   ·rename_i hck hsel
    split at h
    ·rename_i hd
     split at h
     ·rename_i hg
      refine OA.add (v:=undef) fr F ho hck hsel (fun b hb=>by rw [hd];exact hb) (fun p hp=>hp) (fun p hp=> .inl hp) (fun b hb=> .inr ⟨xU hg hb,rfl⟩) (fun d e=>by rw [hd] at e;cases e) ?_
      exact ih _ _ h k
     ·cases h
    ·rename_i d hd
     split at h
     ·cases h
     ·rename_i hN
      have hN': ∀ d',o.dst=some d'->d'<N:=fun d' e=>by rw [hd] at e;cases e;simpa [Nat.blt_eq] using hN
      split at h
      ·rename_i hg
       split at h
       ·rename_i v hv
        refine OA.add (v:=v) ((d,v)::fr) F ho hck hsel (fun b hb=>by rw [hd];exact hb.put hN) (fun p hp=>hp) (fun p hp=> .inl hp) (fun b hb=> .inl ⟨xU hg hb,.inl (fun w=>zh5 hv hb w)⟩) hN' ?_
        exact ih _ _ h k
       ·cases h
      ·rename_i hg
       refine OA.add (v:=undef) ((d,undef)::fr) F ho hck hsel (fun b hb=>by rw [hd];exact hb.put hN) (fun p hp=>hp) (fun p hp=> .inl hp) (fun b hb=> .inr ⟨xU hg hb,rfl⟩) hN' ?_
       exact ih _ _ h k
      ·cases h
   ·cases h
theorem OA.val {i d:Nat} {o:Oper} {v:Value} (hl:vg l i=some o) (hck:zoq l done eff i=true) (hs:vS o.op=true) (hg:gd l fr o=some true) (hd:o.dst=some d) (hN:Nat.blt d N=true)
  (hr: ∀ b w,Rep N fr b->(execOp b.eval o).run P w= .ok (.value v) w)
  (h:OA P l N Q (i::done) eff F ((d,v)::fr) w):OA P l N Q done eff F fr w:=
 OA.add (v:=v) ((d,v)::fr) F hl hck hs (fun b hb=>by rw [hd];exact hb.put hN) (fun p hp=>hp) (fun p hp=> .inl hp) (fun b hb=> .inl ⟨xU hg hb,.inl (fun w=>hr b w hb)⟩)
  (fun d' e=>by rw [hd] at e;cases e;simpa [Nat.blt_eq] using hN) h
theorem OA.sees {i d:Nat} {o:Oper} {v:Value} (Φ:World->Prop) (hl:vg l i=some o) (hck:zoq l done eff i=true) (hs:vS o.op=true) (hg:gd l fr o=some true) (hd:o.dst=some d) (hN:Nat.blt d N=true)
  (hr: ∀ b w,Rep N fr b->Φ w->(execOp b.eval o).run P w= .ok (.value v) w) (hw:Φ w)
  (h:OA P l N Q (i::done) eff ((i,Φ)::F) ((d,v)::fr) w):OA P l N Q done eff F fr w:=
 OA.add (v:=v) ((d,v)::fr) ((i,Φ)::F) hl hck hs (fun b hb=>by rw [hd];exact hb.put hN) (fun p hp=>zcm _ hp)
  (fun p hp=>by
   rcases List.mem_cons.1 hp with rfl | hp
   ·exact .inr hw
   ·exact .inl hp)
  (fun b hb=> .inl ⟨xU hg hb,.inr ⟨Φ,zcs,fun w hw=>hr b w hb hw⟩⟩)
  (fun d' e=>by rw [hd] at e;cases e;simpa [Nat.blt_eq] using hN) h
theorem OA.split (s:Nat) {b:Bool} (hs:zeu fr s=some (.bool b)) (ht:b=true->OA P l N Q done eff F ((s,.bool true)::fr) w) (hf:b=false->OA P l N Q done eff F ((s,.bool false)::fr) w):OA P l N Q done eff F fr w:=by
 cases b with
 | true => exact fun a ha => ht rfl a ⟨ha.size, ha.defers, fun j v hj => by
   rw [zaO] at hj
   by_cases e:s=j
   ·subst e;rw [if_pos rfl] at hj;exact ha.get _ _ (hs.trans hj)
   ·rw [if_neg e] at hj;exact ha.get _ _ hj⟩
 | false => exact fun a ha => hf rfl a ⟨ha.size, ha.defers, fun j v hj => by
   rw [zaO] at hj
   by_cases e:s=j
   ·subst e;rw [if_pos rfl] at hj;exact ha.get _ _ (hs.trans hj)
   ·rw [if_neg e] at hj;exact ha.get _ _ hj⟩
theorem OA.ld {i d:Nat} {t:TypeId} {x:Operand} {ty:TypeId} {pos:String} {af:Array Edge} {gdd:Option (Nat×Bool)} (hl:vg l i=some ⟨some d,.load t x,ty,pos,af,gdd⟩) (hck:zoq l done eff i=true)
  (hg:gd l fr ⟨some d,.load t x,ty,pos,af,gdd⟩=some true) (hN:Nat.blt d N=true)
  {a:Addr} {v:Value} (hx:look fr x=some (.pointer (some a))) (hA:zbw P (isAgg t)=some false) (hv:w.cell? a=some v)
  (h:OA P l N Q (i::done) eff ((i,fun w=>w.cell? a=some v)::F) ((d,v)::fr) w):OA P l N Q done eff F fr w:=by
 refine OA.sees (fun w=>w.cell? a=some v) hl hck rfl hg rfl hN (fun a w ha hv=> ?_) hv h
 have e1:=ha.look hx
 simp [execOp,e1,zff hA hv]
theorem OA.ldN {i d:Nat} {t:TypeId} {x:Operand} {ty:TypeId} {pos:String} {af:Array Edge} {gdd:Option (Nat×Bool)} (hl:vg l i=some ⟨some d,.load t x,ty,pos,af,gdd⟩) (hck:zoq l done eff i=true)
  (hg:gd l fr ⟨some d,.load t x,ty,pos,af,gdd⟩=some true) (hN:Nat.blt d N=true)
  {b k:Nat} (cs:List Value) (hx:look fr x=some (.pointer (some ⟨b,k,none⟩))) (hA:zbw P (isAgg t)=some true) (hs:zbw P (sizeOf t)=some cs.length)
  (hv: ∀ j u,cs[j]? =some u->w.cell? ⟨b,k+j,none⟩=some u)
  (h:OA P l N Q (i::done) eff ((i,fun w=> ∀ j u,cs[j]? =some u->w.cell? ⟨b,k+j,none⟩=some u)::F) ((d,.agg cs.toArray)::fr) w):OA P l N Q done eff F fr w:=by
 refine OA.sees (fun w=> ∀ j u,cs[j]? =some u->w.cell? ⟨b,k+j,none⟩=some u) hl hck rfl hg rfl hN (fun a w ha hv=> ?_) hv h
 have e1:=ha.look hx
 simp [execOp,e1,zfg hA hs hv]
end
end Go.Sx
namespace Go.Sx
open Go.RowKit
section
variable {P:Program} {N:Nat} {fr:List (Nat×Value)} {w:World}
theorem zlc {ty:TypeId} {a:Addr} {v:Value} (h:(Instr.loadAt ty (.pointer (some a))).run P w= .ok v w):(loadVar ty a).run P w= .ok v w:=by
 simpa [Instr.loadAt,Instr.sureAddr] using h
def zeR (x y:Int):Int:=if y<x then y else x
def zeU (x y:Int):Int:=if y>x then y else x
def zid (s:ByteArray) (t:Int):Option Int:=match (if 0<=t then s[t.toNat]? else none) with
 | some b=>some (b.toNat:Int)
 | none=>none
theorem zpr {o:Oper} {t:TypeId} {x y:Operand} {s:ByteArray} {q c:Int} {kd:IntKind} (ho:o.op= .index t x y) (hx:look fr x=some (.string s)) (hy:look fr y=some (.int kd q))
  (ht:P.underlying t=some .string) (h:zid s q=some c): ∀ a w,Rep N fr a->(execOp a.eval o).run P w= .ok (.value (.int .u8 c)) w:=by
 intro a w ha
 have e1:=ha.look hx
 have e2:=ha.look hy
 unfold zid at h
 split at h
 ·rename_i b hb
  cases h
  simp [execOp,ho,Instr.index,e1,e2,asIntOf,run_underlying ht,hb]
 ·cases h
theorem zps {o:Oper} {t:TypeId} {x y:Operand} {n:Nat} (e sz:Nat) {b k:Nat} {q:Int} {kd:IntKind} (ho:o.op= .indexAddr t x y) (hx:look fr x=some (.pointer (some ⟨b,k,none⟩))) (hy:look fr y=some (.int kd q))
  (h0:0<=q) (h1:q<(n:Int)) (ht:P.underlying t=some (.array n e)) (hs:zbw P (sizeOf e)=some sz): ∀ a w,Rep N fr a->(execOp a.eval o).run P w= .ok (.value (.pointer (some ⟨b,k+q.toNat*sz,none⟩))) w:=by
 intro a w ha
 have e1:=ha.look hx
 have e2:=ha.look hy
 simp [execOp,ho,Instr.indexAt,Instr.sureAddr,e1,e2,asIntOf,run_underlying ht,h0,h1,jB hs,zcD]
end
def zhx (P:Program) (eqv:TypeId->Value->Value->Option Bool) (xs ys:Array Value):List Field->Option Bool
 | []=>some true
 | f::r=>match f.name== "_",zbw P (part f.type xs f.offset),zbw P (part f.type ys f.offset) with
  | false,some x,some y=>match eqv f.type x y,zhx P eqv xs ys r with
   | some b,some c=>some (b&&c)
   | _,_=>none
  | _,_,_=>none
def zmH (P:Program):Nat->TypeId->Value->Value->Option Bool
 | 0,_,_,_=>none
 | n+1,t,x,y=>match P.underlying t,x,y with
  | some (.int _),.int k a,.int k' b=>if k=k' then some (a==b) else none
  | some .bool,.bool a,.bool b=>some (a==b)
  | some .string,.string a,.string b=>some (a==b)
  | some (.struct fs),.agg xs,.agg ys=>match P.stoodInHeld t with
   | false=>zhx P (zmH P n) xs ys fs.toList
   | true=>none
  | _,_,_=>none
theorem zmI {P:Program} {eqv:TypeId->Value->Value->Option Bool} {xs ys:Array Value} {d:Nat} {w:World} (he: ∀ t x y r,eqv t x y=some r->(Op.equalIn d t x y).run P w= .ok r w):
  ∀ {fs:List Field} {r:Bool},zhx P eqv xs ys fs=some r->(Op.eqFields d xs ys fs).run P w= .ok r w:=by
 intro fs
 induction fs with
 | nil=>intro r h;cases h;simp [Op.eqFields]
 | cons f fs ih=>
  intro r h
  unfold zhx at h
  split at h
  ·rename_i x y hn hx hy
   split at h
   ·rename_i b c hb hc
    cases h
    have hn':f.name ≠ "_" :=by simpa using hn
    have e1:=jB hx w
    have e2:=jB hy w
    have e3:=he _ _ _ _ hb
    have e4:=ih hc
    unfold Op.eqFields
    rw [if_pos hn']
    simp only [Sem.run_bind,e1,e2,e3,Result.andThen_ok]
    cases b with
    | true=>simpa using e4
    | false=>simp
   ·cases h
  ·cases h
theorem zkl {P:Program} (w:World): ∀ (n:Nat) {t:TypeId} {x y:Value} {r:Bool},zmH P n t x y=some r-> ∀ d,n<=d->(Op.equalIn d t x y).run P w= .ok r w:=by
 intro n
 induction n with
 | zero=>intro t x y r h;cases h
 | succ n ih=>
  intro t x y r h d hd
  obtain ⟨d,rfl⟩: ∃ e,d=e+1:=⟨d-1,by omega⟩
  unfold zmH at h
  split at h
  ·rename_i hu
   split at h
   ·rename_i hk
    cases h
    simp [Op.equalIn,run_underlying hu,hk]
   ·cases h
  ·rename_i hu
   cases h
   simp [Op.equalIn,run_underlying hu]
  ·rename_i hu
   cases h
   simp [Op.equalIn,run_underlying hu]
  ·rename_i fs xs ys hu
   split at h
   ·rename_i hp
    have hf:P.fieldsOf t=fs:=by unfold Program.fieldsOf;rw [hu]
    rw [run_equalIn_struct w d t xs ys (by rw [hf];exact hu) hp,hf]
    exact zmI (fun t x y r h=>ih h d (by omega)) h
   ·cases h
  ·cases h
section
variable {P:Program} {N:Nat} {fr:List (Nat×Value)}
theorem zq5 {o:Oper} {t t2:TypeId} {x y:Operand} {xs ys:Array Value} {r:Bool} (ho:o.op= .binOp .eql t x y t2) (hx:look fr x=some (.agg xs)) (hy:look fr y=some (.agg ys))
  (hm:P.eqGuardType P.depth t=false) (h:zmH P 9 t (.agg xs) (.agg ys)=some r): ∀ a w,Rep N fr a->(execOp a.eval o).run P w= .ok (.value (.bool r)) w:=by
 intro a w ha
 have e1:=ha.look hx
 have e2:=ha.look hy
 have e3:=run_eqGuard_agg (P:=P) w .eql t x y xs ys hm
 have e4:=zkl w 9 h 10000 (by omega)
 simp [execOp,ho,e1,e2,e3,run_eql_struct,e4]
theorem zpt {o:Oper} {t t2:TypeId} {x y:Operand} {xs ys:Array Value} {r:Bool} (ho:o.op= .binOp .neq t x y t2) (hx:look fr x=some (.agg xs)) (hy:look fr y=some (.agg ys))
  (hm:P.eqGuardType P.depth t=false) (h:zmH P 9 t (.agg xs) (.agg ys)=some r): ∀ a w,Rep N fr a->(execOp a.eval o).run P w= .ok (.value (.bool (!r))) w:=by
 intro a w ha
 have e1:=ha.look hx
 have e2:=ha.look hy
 have e3:=run_eqGuard_agg (P:=P) w .neq t x y xs ys hm
 have e4:=zkl w 9 h 10000 (by omega)
 simp [execOp,ho,e1,e2,e3,run_neq_struct,e4]
end
def cut {α:Type} (xs:List α) (lo hi:Int):Option (List α):=if 0<=lo/\lo<=hi/\hi<=xs.length then some ((xs.take hi.toNat).drop lo.toNat) else none
theorem zbF {α:Type} {xs ys:List α} {lo hi:Int} (h:cut xs lo hi=some ys):0<=lo/\lo<=hi/\hi<=xs.length/\ys=(xs.take hi.toNat).drop lo.toNat:=by
 unfold cut at h
 split at h
 ·rename_i hc
  cases h
  exact ⟨hc.1,hc.2.1,hc.2.2,rfl⟩
 ·cases h
theorem zfk {α:Type} {xs ys:List α} {lo hi:Int} (h:cut xs lo hi=some ys):ys.length=hi.toNat-lo.toNat:=by
 obtain ⟨h0,h1,h2,rfl⟩:=zbF h
 rw [List.length_drop,List.length_take]
 omega
theorem zrU {α:Type} {xs ys:List α} {lo hi:Int} (h:cut xs lo hi=some ys):ys.length<=xs.length:=by
 obtain ⟨h0,h1,h2,rfl⟩:=zbF h
 rw [List.length_drop,List.length_take]
 omega
theorem zq6 {α:Type} {xs ys:List α} {hi t:Int} {x:α} (h:cut xs 0 hi=some ys) (hx:idx ys t=some x):idx xs t=some x:=by
 obtain ⟨h0,h1,h2,rfl⟩:=zbF h
 obtain ⟨t0,t1,t2⟩:=qB hx
 unfold idx
 rw [if_pos t0]
 simp only [Int.toNat_zero,List.drop_zero] at t2 t1
 rw [List.getElem?_take] at t2
 split at t2
 ·exact t2
 ·cases t2
theorem St.cap {w0 w:World} {S0:List Nat} {L:List zz} (h:St w0 S0 w L) (j:Nat) {α:Type} {a:Option Addr} {n c:Nat} {T:TypeId} {enc:α->List Value} {sz:Nat} {xs:List α} (hj:L[j]? =some (zZ (.slice a n c) T enc sz xs)):xs.length<=c:=by
 have hr:=h.all j _ hj
 rcases hr.2 with ⟨hn,b,he⟩ | ⟨g,o,cap,cur,he,_,_,hnc,_⟩
 ·omega
 ·cases he
  exact hnc
section
variable {P:Program} {N:Nat} {fr:List (Nat×Value)}
theorem zld {α:Type} {o:Oper} {t e:TypeId} {x y:Operand} {a:Option Addr} {n c:Nat} {q:Int} {kd:IntKind} {xs ys:List α} (sz:Nat) (ho:o.op= .slice t x none (some y) none) (hx:look fr x=some (.slice a n c)) (hy:look fr y=some (.int kd q))
  (hc:cut xs 0 q=some ys) (hcap:xs.length<=c) (ht:P.underlying t=some (.slice e)) (hs:zbw P (sizeOf e)=some sz): ∀ b w,Rep N fr b->(execOp b.eval o).run P w= .ok (.value (.slice a ys.length c)) w:=by
 intro b w hb
 have e1:=hb.look hx
 have e2:=hb.look hy
 obtain ⟨h0,h1,h2,_⟩:=zbF hc
 have hl:=zfk hc
 have h3:0<=q/\q<=(c:Int):=⟨h1,by omega⟩
 have e3:q.toNat-0=ys.length:=by simpa using hl.symm
 have e4:(if c=0 then a else a.map (fun x=>x.add 0))=a:=by
  split
  ·rfl
  ·cases a with
   | none=>rfl
   | some z=>simp [Addr.add]
 simp [execOp,ho,Instr.sliceAt,Instr.slice,Instr.sliceBounds,Instr.sliceBound,run_underlying ht,e1,e2,asIntOf,h3,jB hs,hl,e4]
end
section
variable {P:Program} {N:Nat} {fr:List (Nat×Value)}
theorem zpu {o:Oper} {t t2 e:TypeId} {x y:Operand} {a:Option Addr} {n c:Nat} (ho:o.op= .binOp .eql t x y t2) (hx:look fr x=some (.slice a n c)) (hy:look fr y=some (.slice none 0 0)) (ht:P.underlying t=some (.slice e)):
  ∀ b w,Rep N fr b->(execOp b.eval o).run P w= .ok (.value (.bool a.isNone)) w:=by
 intro b w hb
 have e1:=hb.look hx
 have e2:=hb.look hy
 have e3:(binOp .eql t (.slice a n c) (.slice none 0 0)).run P w= .ok (.bool a.isNone) w:=by
  exact Lib.run_eql_slice_nil w t e a n c 0 0 ht
 simp [execOp,ho,e1,e2,eqGuard,e3]
end
def zex (k:IntKind) (x y:Int):Int:=k.wrap (BitVec.ofInt k.bits x &&& BitVec.ofInt k.bits y).toNat
def bOr (k:IntKind) (x y:Int):Int:=k.wrap (BitVec.ofInt k.bits x ||| BitVec.ofInt k.bits y).toNat
def zio (k:IntKind) (x y:Int):Int:=k.wrap (BitVec.ofInt k.bits x ^^^ BitVec.ofInt k.bits y).toNat
def zie (k:IntKind) (x y:Int):Int:=k.wrap (BitVec.ofInt k.bits x &&& ~~~(BitVec.ofInt k.bits y)).toNat
def zgJ (k:IntKind) (x y:Int):Int:=k.wrap (x*2 ^ (min y.toNat k.bits))
def zb4 (k:IntKind) (x y:Int):Int:=x.fdiv (2 ^ (min y.toNat k.bits))
def nn (y:Int):Option Unit:=if y<0 then none else some ()
theorem zod (x:Int): ¬ jy x<0:=by
 have e:jy x=x % 18446744073709551616:=rfl
 rw [e];omega
theorem zrV {y:Int} {u:Unit} (h:nn y=some u): ¬ y<0:=by
 unfold nn at h
 split at h
 ·cases h
 ·assumption
section
variable {P:Program} {N:Nat} {fr:List (Nat×Value)}
theorem zoe {o:Oper} {t t2:TypeId} {x y:Operand} {k yk:IntKind} {a b:Int} (ho:o.op= .binOp .shl t x y t2) (hx:look fr x=some (.int k a)) (hy:look fr y=some (.int yk b)) (hb: ¬ b<0):
  ∀ r w,Rep N fr r->(execOp r.eval o).run P w= .ok (.value (.int k (zgJ k a b))) w:=by
 intro r w hr
 have e1:=hr.look hx
 have e2:=hr.look hy
 simp [execOp,ho,e1,e2,eqGuard,binOp,Op.shift,hb,zgJ]
theorem zog {o:Oper} {t t2:TypeId} {x y:Operand} {k yk:IntKind} {a b:Int} (ho:o.op= .binOp .shr t x y t2) (hx:look fr x=some (.int k a)) (hy:look fr y=some (.int yk b)) (hb: ¬ b<0):
  ∀ r w,Rep N fr r->(execOp r.eval o).run P w= .ok (.value (.int k (zb4 k a b))) w:=by
 intro r w hr
 have e1:=hr.look hx
 have e2:=hr.look hy
 simp [execOp,ho,e1,e2,eqGuard,binOp,Op.shift,hb,zb4]
end
end Go.Sx
