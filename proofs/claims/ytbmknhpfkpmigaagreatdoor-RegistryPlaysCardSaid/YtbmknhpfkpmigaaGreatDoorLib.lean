/- Texts Lib, Glue of this proof. -/
import Derived.WalkKit
import Derived.Laws.AppendOwn
import Derived.Laws.OwnMore
import Derived.KernelRfl
import Derived.StillTail
import Derived.Maps.AppendAt
import Derived.ProofKit
import Derived.SizedLaws
import Derived.Deep.Slices
set_option linter.unusedSimpArgs false
set_option linter.unusedVariables false
namespace Go.Sx
open Go.RowKit
theorem zbs.{u,v} {α:Type u} {β:Type v} (a:α) (f:α->Option β):(some a).bind f=f a:=rfl
theorem zft (b:Bool):b=true\/b=false:=Bool.eq_false_or_eq_true b
theorem zfe:(false=true)=False:=Bool.false_eq_true
theorem zof {a:Int} (h:0<=a): ∃ n:Nat,a=n:=Int.eq_ofNat_of_zero_le h
theorem zar.{u} {α:Type u} {b:α} (as:List α) {bs:List α} (h:b∈bs):b∈as++bs:=List.mem_append_right as h
theorem zal.{u} {α:Type u} {a:α} {as:List α} (bs:List α) (h:a∈as):a∈as++bs:=List.mem_append_left bs h
theorem zls (n:Nat):n<n.succ:=Nat.lt_succ_self n
theorem zmg.{u} {α:Type u} {l:List α} {i:Nat} {a:α} (h:l[i]? =some a):a∈l:=List.mem_of_getElem? h
theorem zcm.{u} {α:Type u} (y:α) {a:α} {l:List α} (h:a∈l):a∈y::l:=List.mem_cons_of_mem y h
theorem zes.{u} {α:Type u} {i:Nat} {a:α} {l:List α}:l[i]? =some a↔ ∃ h:i<l.length,l[i]=a:=List.getElem?_eq_some_iff
theorem zae (a b:Bool):((a&&b)=true)=(a=true/\b=true):=Bool.and_eq_true a b
theorem znm.{u} {α:Type u} {a:α}: ¬a∈ []:=List.not_mem_nil
theorem zeg.{u} {α:Type u} {l:List α} {i:Nat} (h:i<l.length):l[i]? =some l[i]:=List.getElem?_eq_getElem h
theorem zcs.{u} {α:Type u} {a:α} {l:List α}:a∈a::l:=List.mem_cons_self
theorem zdq {p:Prop} [inst:Decidable p]:(decide p=true)=p:=decide_eq_true_eq
def zeu:List (Nat×Value)->Nat->Option Value
 | [],_=>none
 | p::r,n=>match Nat.beq p.1 n with
  | true=>some p.2
  | false=>zeu r n
structure Rep (N:Nat) (fr:List (Nat×Value)) (a:Act):Prop where
 size:a.tmps.size=N
 defers:a.defers= []
 get: ∀ i v,zeu fr i=some v->a.tmps[i]? =some v
def look (fr:List (Nat×Value)):Operand->Option Value
 | .tmp t=>zeu fr t
 | .const v=>some v
 | .global g=>some (.pointer (some ⟨g,0,none⟩))
 | .func f=>some (.func (.func f) #[] #[])
theorem Rep.look {N:Nat} {fr:List (Nat×Value)} {a:Act} {x:Operand} {v:Value} (h:Rep N fr a) (hx:look fr x=some v):a.eval x=v:=by
 cases x with
 | tmp t=>
  have:=h.get t v hx
  simp [Act.eval,Array.getD_eq_getD_getElem?,this]
 | const v'=>simpa [Sx.look,Act.eval] using hx
 | global g=>simpa [Sx.look,Act.eval] using hx
 | func f=>simpa [Sx.look,Act.eval] using hx
theorem zaO {i:Nat} {v:Value} {fr:List (Nat×Value)} {n:Nat}:zeu ((i,v)::fr) n=if i=n then some v else zeu fr n:=by
 simp only [zeu]
 cases h:Nat.beq i n with
 | true=>rw [if_pos (Nat.eq_of_beq_eq_true h)]
 | false=>rw [if_neg (Nat.ne_of_beq_eq_false h)]
theorem Rep.put {N:Nat} {fr:List (Nat×Value)} {a:Act} {d:Nat} {v:Value} (h:Rep N fr a) (hd:Nat.blt d N=true):Rep N ((d,v)::fr) (a.put (some d) v):=by
 have hd':d<N:=by simpa [Nat.blt_eq] using hd
 refine ⟨by simp [Act.put,h.size],by simp [Act.put,h.defers],fun i u hi=> ?_⟩
 rw [zaO] at hi
 simp only [Act.put]
 by_cases e:d=i
 ·subst e
  rw [if_pos rfl] at hi
  cases hi
  simp [h.size,hd']
 ·rw [if_neg e] at hi
  rw [Array.getElem?_setIfInBounds_ne e]
  exact h.get i u hi
def vg:List Oper->Nat->Option Oper
 | [],_=>none
 | o::_,0=>some o
 | _::r,n+1=>vg r n
theorem zap {l:List Oper} {i:Nat} {o:Oper} (h:vg l i=some o):l.drop i=o::l.drop (i+1):=by
 induction l generalizing i with
 | nil=>cases h
 | cons x r ih=>
  cases i with
  | zero=>simp only [vg,Option.some.injEq] at h;subst h;rfl
  | succ i=>exact ih h
def OW (P:Program) (l:List Oper) (N:Nat) (Q:Exit->Act->World->Prop) (i:Nat) (fr:List (Nat×Value)) (w:World):Prop:=
 ∀ a,Rep N fr a->wpList P l.toArray Q (l.drop i) a w
def CW (P:Program) (N:Nat) (c:Code) (Q:Exit->Act->World->Prop) (fr:List (Nat×Value)) (w:World):Prop:=
 ∀ a,Rep N fr a->c.wp P Q a w
def QW (N:Nat) (Q:Exit->Act->World->Prop) (e:Exit) (fr:List (Nat×Value)) (w:World):Prop:=
 ∀ a,Rep N fr a->Q e a w
theorem zsw {p:Nat->Prop}: ∀ n,p n-> ∃ m,p m/\ ∀ k,p k->m<=k:=by
 intro n
 induction n using Nat.strongRecOn with
 | _ n ih=>
  intro hn
  by_cases h: ∃ k,k<n/\p k
  ·obtain ⟨k,hk,hp⟩:=h
   exact ih k hk hp
  ·exact ⟨n,hn,fun k hk=>Nat.le_of_not_lt (fun hlt=>h ⟨k,hlt,hk⟩)⟩
section
variable {P:Program} {N:Nat} {Q:Exit->Act->World->Prop} {fr fr':List (Nat×Value)} {w:World} {l:List Oper} {i:Nat} {o:Oper}
theorem CW.enter {f:FuncId} {fn:Func} {c:Code} {args:Array Value} {R:Ending->World->Prop} (hf:P.funcs[f]? =some fn) (hb:fn.body=some c) (hN:fn.ntmps=N)
  (hs:Nat.ble args.size N=true) (hfr: ∀ j v,zeu fr j=some v->args[j]? =some v)
  (h:CW P N c (bodyPost P fn R) fr w):Calls P f args w R:=by
 subst hN
 refine calls_of_wp hf hb (h _ ⟨?_,rfl,?_⟩)
 ·have:=Nat.le_of_ble_eq_true hs
  simp;omega
 ·intro j v hj
  have:=hfr j v hj
  rw [Array.getElem?_append_left (Array.getElem?_eq_some_iff.1 this).1]
  exact this
theorem CW.seq {x y:Code} (h:CW P N x (Exit.then (y.wp P Q) Q) fr w):CW P N (.seq x y) Q fr w:=fun a ha=>wp_seq (h a ha)
theorem CW.region {id:Nat} {l:List Oper} (h:OW P l N Q 0 fr w):CW P N (.region id l.toArray false) Q fr w:=
 fun a ha=>wp_region_lit (h a ha)
theorem CW.skip (h:QW N Q .normal fr w):CW P N .skip Q fr w:=fun a ha=>wp_skip (h a ha)
theorem CW.exit {id:Nat} (h:QW N Q (.exit id) fr w):CW P N (.exit id) Q fr w:=fun a ha=>wp_exit (h a ha)
theorem CW.ret (h:QW N Q .ret fr w):CW P N .ret Q fr w:=fun a ha=>wp_ret (h a ha)
theorem CW.block {id:Nat} {c:Code} (h:CW P N c (Exit.inBlock id Q) fr w):CW P N (.block id c) Q fr w:=fun a ha=>wp_block (h a ha)
theorem CW.cond_t {c:Operand} {x y:Code} {b:Bool} (hc:look fr c=some (.bool b)) (hb:b=true) (h:CW P N x Q fr w):CW P N (.cond c x y) Q fr w:=
 fun a ha=>wp_cond_true (by rw [ha.look hc,hb]) (h a ha)
theorem CW.cond_f {c:Operand} {x y:Code} {b:Bool} (hc:look fr c=some (.bool b)) (hb:b=false) (h:CW P N y Q fr w):CW P N (.cond c x y) Q fr w:=
 fun a ha=>wp_cond_false (by rw [ha.look hc,hb]) (h a ha)
theorem QW.next {y:Code} (h:CW P N y Q fr w):QW N (Exit.then (y.wp P Q) Q) .normal fr w:=h
theorem QW.then_exit {id:Nat} {K:Act->World->Prop} (h:QW N Q (.exit id) fr w):QW N (Exit.then K Q) (.exit id) fr w:=h
theorem QW.then_ret {K:Act->World->Prop} (h:QW N Q .ret fr w):QW N (Exit.then K Q) .ret fr w:=h
theorem QW.block_normal {id:Nat} (h:QW N Q .normal fr w):QW N (Exit.inBlock id Q) .normal fr w:=h
theorem QW.block_ret {id:Nat} (h:QW N Q .ret fr w):QW N (Exit.inBlock id Q) .ret fr w:=h
theorem QW.block_here {id:Nat} (h:QW N Q .normal fr w):QW N (Exit.inBlock id Q) (.exit id) fr w:=fun a ha=>by
 simp only [Exit.inBlock,if_true];exact h a ha
theorem QW.block_on {id id':Nat} (hne:Nat.beq id' id=false) (h:QW N Q (.exit id') fr w):QW N (Exit.inBlock id Q) (.exit id') fr w:=fun a ha=>by
 simp only [Exit.inBlock];rw [if_neg (Nat.ne_of_beq_eq_false hne)];exact h a ha
theorem QW.meet {J:Act->World->Prop} (h: ∀ a,Rep N fr a->J a w):QW N (Exit.then J Q) .normal fr w:=h
theorem QW.ret1 {fn:Func} {R:Ending->World->Prop} {s:Nat} {v:Value} (hr:fn.results= #[.tmp s]) (hs:zeu fr s=some v) (h:R (.returned v) w):QW N (bodyPost P fn R) .ret fr w:=fun a ha=>
 ⟨ha.defers,v,by rw [results_tmp hr,Array.getD_eq_getD_getElem?,ha.get s v hs];rfl,h⟩
theorem QW.ret2 {fn:Func} {R:Ending->World->Prop} {s t:Nat} {u v:Value} (hr:fn.results= #[.tmp s,.tmp t]) (hs:zeu fr s=some u) (ht:zeu fr t=some v) (h:R (.returned (.tuple #[u,v])) w):
  QW N (bodyPost P fn R) .ret fr w:=fun a ha=>
 ⟨ha.defers,_,by rw [results_tmp2 hr,Array.getD_eq_getD_getElem?,Array.getD_eq_getD_getElem?,ha.get s u hs,ha.get t v ht];rfl,h⟩
theorem QW.ret3 {fn:Func} {R:Ending->World->Prop} {s t q:Nat} {u v x:Value} (hr:fn.results= #[.tmp s,.tmp t,.tmp q]) (hs:zeu fr s=some u) (ht:zeu fr t=some v) (hq:zeu fr q=some x)
  (h:R (.returned (.tuple #[u,v,x])) w):QW N (bodyPost P fn R) .ret fr w:=fun a ha=>
 ⟨ha.defers,_,by
  have e:(results fn a.tmps).run P w= .ok (.tuple #[a.tmps.getD s undef,a.tmps.getD t undef,a.tmps.getD q undef]) w:=by simp [results,hr]
  rw [e,Array.getD_eq_getD_getElem?,Array.getD_eq_getD_getElem?,Array.getD_eq_getD_getElem?,ha.get s u hs,ha.get t v ht,ha.get q x hq];rfl,h⟩
theorem QW.ret0 {fn:Func} {R:Ending->World->Prop} (hr:fn.results= #[]) (h:R (.returned (.tuple #[])) w):QW N (bodyPost P fn R) .ret fr w:=fun _ ha=>
 ⟨ha.defers,_,results_none hr _ _ _,h⟩
theorem QW.end0 {fn:Func} {R:Ending->World->Prop} (hr:fn.results= #[]) (h:R (.returned (.tuple #[])) w):QW N (bodyPost P fn R) .normal fr w:=fun _ ha=>
 ⟨ha.defers,_,results_none hr _ _ _,h⟩
theorem CW.cut {x y:Code} (J:Act->World->Prop) (h1:CW P N x (Exit.then J Q) fr w) (h2: ∀ a w,J a w->y.wp P Q a w):CW P N (.seq x y) Q fr w:=fun a ha=>
 wp_seq (wp_mono (h1 a ha) (fun e _ _ hq=>by cases e<;>first | exact h2 _ _ hq | exact hq))
theorem zkc {c:Code} (J:Nat->Act->World->Prop)
  (round: ∀ n a w,J n a w->c.wp P (Exit.then (fun a' w'=> ∃ m,m<n/\J m a' w') Q) a w) {n:Nat} {a:Act} (h:J n a w):(Code.loop c).wp P Q a w:=by
 classical
 let ok:Act->World->Prop:=fun a w=> ∃ n,J n a w
 have hmin: ∀ a w,ok a w-> ∃ m,J m a w/\ ∀ k,J k a w->m<=k:=fun a w ⟨n,hn⟩=>zsw n hn
 let μ:Act->World->Nat:=fun a w=>if h:ok a w then Classical.choose (hmin a w h) else 0
 have spec: ∀ a w,(h:ok a w)->J (μ a w) a w/\ ∀ n,J n a w->μ a w<=n:=by
  intro a w h
  have hs:=Classical.choose_spec (hmin a w h)
  have e:μ a w=Classical.choose (hmin a w h):=dif_pos h
  rw [e]
  exact hs
 refine wp_loop ok μ ⟨n,h⟩ (fun a w hI=> ?_)
 have hs:=spec a w hI
 refine wp_mono (round _ a w hs.1) (fun e a' w' hq=> ?_)
 cases e with
 | normal=>
  obtain ⟨m,hm,hJ⟩:=hq
  exact ⟨⟨m,hJ⟩,Nat.lt_of_le_of_lt ((spec a' w' ⟨m,hJ⟩).2 m hJ) hm⟩
 | _=>exact hq
theorem CW.loop {c:Code} (J:Nat->Act->World->Prop) (n:Nat) (h: ∀ a,Rep N fr a->J n a w)
  (round: ∀ n a w,J n a w->c.wp P (Exit.then (fun a' w'=> ∃ m,m<n/\J m a' w') Q) a w):CW P N (.loop c) Q fr w:=
 fun a ha=>zkc J round (h a ha)
theorem OW.nil (hl:vg l i=none) (h:QW N Q .normal fr w):OW P l N Q i fr w:=fun a ha=>by
 have:l.drop i= []:=by
  clear h ha
  induction l generalizing i with
  | nil=>simp
  | cons x r ih=>
   cases i with
   | zero=>cases hl
   | succ i=>exact ih hl
 rw [this]
 exact wpList_nil (h a ha)
end
def zbw {α:Type} (P:Program):Sem α->Option α
 | .pure a=>some a
 | .program k=>zbw P (k P)
 | _=>none
theorem jB {α:Type} {P:Program} {s:Sem α} {a:α} (h:zbw P s=some a) (w:World):s.run P w= .ok a w:=by
 induction s with
 | pure b=>simp only [zbw,Option.some.injEq] at h;subst h;rfl
 | program k ih=>exact ih P h
 | _=>cases h
theorem zdm {α β:Type} {f g:α->β} {xs:Array α} (h: ∀ x∈xs.toList,f x=g x):xs.map f=xs.map g:=by
 apply Array.ext'
 simp only [Array.toList_map]
 exact List.map_congr_left h
theorem zeI {ρ ρ':Operand->Value} {c:Call} {t:TypeId} (h: ∀ x∈c.operands.toList,ρ x=ρ' x):resolve ρ c t=resolve ρ' c t:=by
 have ha:c.args.map ρ=c.args.map ρ':=zdm (fun x hx=>h x (by simp [Call.operands];exact .inr (by simpa using hx)))
 unfold resolve
 rw [ha]
 cases hc:c.callee with
 | builtin b=>rfl
 | invoke r m=>dsimp only;rw [h r (by simp [Call.operands,hc])]
 | value f=>dsimp only;rw [h f (by simp [Call.operands,hc])]
def vS:Op->Bool
 | .select .. =>false
 | _=>true
theorem zd5 {ρ ρ':Operand->Value} {o:Oper} (hs:vS o.op=true) (h: ∀ x∈o.op.operands.toList,ρ x=ρ' x):execOp ρ o=execOp ρ' o:=by
 obtain ⟨dst,op,ty,pos,after,guard⟩:=o
 cases op with
 | call c=>simp only [execOp];rw [zeI (by simpa [Op.operands] using h)]
 | go c=>simp only [execOp];rw [zeI (by simpa [Op.operands] using h)]
 | defer c=>simp only [execOp];rw [zeI (by simpa [Op.operands] using h)]
 | build t ps=>
  have:(ps.map fun (i,x)=>(i,ρ x))=ps.map fun (i,x)=>(i,ρ' x):=zdm (fun x hx=>by
   obtain ⟨i,x⟩:=x
   simp only [Prod.mk.injEq,true_and]
   exact h x (by simp [Op.operands];exact ⟨i,by simpa using hx⟩))
  simp only [execOp];rw [this]
 | buildSlice t n ps=>
  have:(ps.map fun (i,x)=>(i,ρ x))=ps.map fun (i,x)=>(i,ρ' x):=zdm (fun x hx=>by
   obtain ⟨i,x⟩:=x
   simp only [Prod.mk.injEq,true_and]
   exact h x (by simp [Op.operands];exact ⟨i,by simpa using hx⟩))
  simp only [execOp];rw [this]
 | makeFunc f a b=>
  have h1:a.map ρ=a.map ρ':=zdm (fun x hx=>h x (by simp [Op.operands];exact .inl (by simpa using hx)))
  have h2:b.map ρ=b.map ρ':=zdm (fun x hx=>h x (by simp [Op.operands];exact .inr (by simpa using hx)))
  simp only [execOp];rw [h1,h2]
 | makeMap t r=>cases r with
  | none=>rfl
  | some x=>simp only [execOp,Option.map_some];rw [h x (by simp [Op.operands])]
 | slice t x lo hi mx=>
  have hx:ρ x=ρ' x:=h x (by simp [Op.operands])
  have h1:lo.map ρ=lo.map ρ':=by cases lo with | none=>rfl | some y=>simp only [Option.map_some];rw [h y (by simp [Op.operands])]
  have h2:hi.map ρ=hi.map ρ':=by cases hi with | none=>rfl | some y=>simp only [Option.map_some];rw [h y (by simp [Op.operands])]
  have h3:mx.map ρ=mx.map ρ':=by cases mx with | none=>rfl | some y=>simp only [Option.map_some];rw [h y (by simp [Op.operands])]
  simp only [execOp];rw [hx,h1,h2,h3]
 | select cs b=>cases hs
 | _=>
  simp only [Op.operands,List.mem_cons,znm,or_false,forall_eq_or_imp,forall_eq] at h
  simp only [execOp]<;>first | rfl | simp only [h]
def rho (fr:List (Nat×Value)) (x:Operand):Value:=match look fr x with
 | some v=>v
 | none=>undef
def zcy (fr:List (Nat×Value)):List Operand->Bool
 | []=>true
 | x::r=>match look fr x with
  | some _=>zcy fr r
  | none=>false
def zpn (P:Program) (fr:List (Nat×Value)) (o:Oper):Option Value:=
 match vS o.op,zcy fr o.op.operands.toList with
 | true,true=>match zbw P (execOp (rho fr) o) with
  | some (.value v)=>some v
  | _=>none
 | _,_=>none
theorem zjj {fr:List (Nat×Value)} {l:List Operand} (h:zcy fr l=true): ∀ x∈l,look fr x=some (rho fr x):=by
 induction l with
 | nil=>intro x hx;cases hx
 | cons y r ih=>
  intro x hx
  unfold zcy at h
  split at h
  ·rename_i v hv
   rcases List.mem_cons.1 hx with rfl | hx
   ·simp [rho,hv]
   ·exact ih h x hx
  ·cases h
theorem zh5 {P:Program} {fr:List (Nat×Value)} {o:Oper} {v:Value} (h:zpn P fr o=some v) {N:Nat} {a:Act} (ha:Rep N fr a) (w:World):
  (execOp a.eval o).run P w= .ok (.value v) w:=by
 unfold zpn at h
 split at h
 ·rename_i h1 h2
  have hm:=zjj h2
  have hc:execOp a.eval o=execOp (rho fr) o:=zd5 h1 (fun x hx=>ha.look (hm x hx))
  rw [hc]
  split at h
  ·rename_i u hu
   simp only [Option.some.injEq] at h
   subst h
   exact jB hu w
  ·cases h
 ·cases h
def gd (l:List Oper) (fr:List (Nat×Value)) (o:Oper):Option Bool:=
 match o.guard with
 | none=>some true
 | some (j,b)=>match (vg l j).bind (·.dst) with
  | some d=>match zeu fr d with
   | some (.bool c)=>some (c==b)
   | some (.tuple _)=>some false
   | _=>none
  | none=>none
theorem zbm (l:List Oper) (j:Nat):l.toArray[j]? =vg l j:=by
 simp only [List.getElem?_toArray]
 induction l generalizing j with
 | nil=>cases j<;>rfl
 | cons x r ih=>cases j with
  | zero=>rfl
  | succ j=>simpa [vg] using ih j
theorem xU {l:List Oper} {fr:List (Nat×Value)} {o:Oper} {b:Bool} (h:gd l fr o=some b) {N:Nat} {a:Act} (ha:Rep N fr a):Region.wanted o (yielded l.toArray a.tmps)=b:=by
 unfold gd at h
 unfold Region.wanted
 split at h
 ·rename_i hg
  simp only [Option.some.injEq] at h
  subst h
  rw [hg]
 ·rename_i j c hg
  rw [hg]
  split at h
  ·rename_i d hd
   split at h
   ·rename_i u hu
    simp only [Option.some.injEq] at h
    subst h
    simp only [yielded,zbm,hd,zbs,ha.get d _ hu]
    cases u<;>cases c<;>rfl
   ·rename_i u hu
    simp only [Option.some.injEq] at h
    subst h
    simp only [yielded,zbm,hd,zbs,ha.get d _ hu]
    cases c<;>rfl
   ·cases h
  ·cases h
def zfd (P:Program) (l:List Oper) (N:Nat):Nat->Nat->List (Nat×Value)->Option (List (Nat×Value))
 | 0,_,fr=>some fr
 | n+1,i,fr=>match vg l i with
  | none=>none
  | some o=>match o.dst with
   | none=>none
   | some d=>match Nat.blt d N with
    | false=>none
    | true=>match gd l fr o with
     | some true=>match zpn P fr o with
      | some v=>zfd P l N n (i+1) ((d,v)::fr)
      | none=>none
     | some false=>zfd P l N n (i+1) ((d,undef)::fr)
     | none=>none
def mem? (n:Nat):List Nat->Bool
 | []=>false
 | m::r=>match Nat.beq m n with
  | true=>true
  | false=>mem? n r
def za1 (done:List Nat):List (Nat×Value)->List (Nat×Value)
 | []=> []
 | p::r=>match mem? p.1 done with
  | true=>za1 done r
  | false=>p::za1 (p.1::done) r
def zgW (fr:List (Nat×Value)):List (Nat×Value)->List (Option Value)
 | []=> []
 | p::r=>zeu fr p.1::zgW fr r
def zev:List (Nat×Value)->List (Option Value)
 | []=> []
 | p::r=>some p.2::zev r
theorem mem?_iff {n:Nat} {l:List Nat}:mem? n l=true↔n∈l:=by
 induction l with
 | nil=>simp [mem?]
 | cons m r ih=>
  unfold mem?
  cases h:Nat.beq m n with
  | true=>simp [(Nat.eq_of_beq_eq_true h).symm]
  | false=>simp only [ih,List.mem_cons];exact ⟨.inr,fun e=>e.resolve_left (fun x=>(Nat.ne_of_beq_eq_false h) x.symm)⟩
theorem zmC {fr:List (Nat×Value)}: ∀ {done:List Nat} {i:Nat} {v:Value},i ∉ done->zeu fr i=some v->(i,v)∈za1 done fr:=by
 induction fr with
 | nil=>intro _ _ _ _ h;cases h
 | cons p r ih=>
  intro done i v hn h
  obtain ⟨j,u⟩:=p
  rw [zaO] at h
  unfold za1
  by_cases e:j=i
  ·subst e
   rw [if_pos rfl] at h
   cases h
   have:mem? j done=false:=by
    cases hm:mem? j done with
    | true=>exact absurd (mem?_iff.1 hm) hn
    | false=>rfl
   simp only [this]
   exact zcs
  ·rw [if_neg e] at h
   split
   ·exact ih hn h
   ·exact zcm _ (ih (by simp only [List.mem_cons,not_or];exact ⟨fun x=>e x.symm,hn⟩) h)
theorem zkd {fr:List (Nat×Value)}: ∀ {l:List (Nat×Value)},zgW fr l=zev l-> ∀ p∈l,zeu fr p.1=some p.2:=by
 intro l
 induction l with
 | nil=>intro _ p hp;cases hp
 | cons q r ih=>
  intro h p hp
  simp only [zgW,zev,List.cons.injEq] at h
  rcases List.mem_cons.1 hp with rfl | hp
  ·exact h.1
  ·exact ih h.2 p hp
def agrees (fr fr':List (Nat×Value)):Prop:=zgW fr (za1 [] fr')=zev (za1 [] fr')
theorem Rep.agrees {N:Nat} {fr fr':List (Nat×Value)} {a:Act} (h:Rep N fr a) (hs:zgW fr (za1 [] fr')=zev (za1 [] fr')):Rep N fr' a:=
 ⟨h.size,h.defers,fun _ _ hi=>h.get _ _ (zkd hs _ (zmC (by simp) hi))⟩
section
variable {P:Program} {N:Nat} {Q:Exit->Act->World->Prop} {fr fr':List (Nat×Value)} {w:World} {l:List Oper} {i:Nat} {o:Oper}
theorem zlN: ∀ (n i:Nat) (fr:List (Nat×Value)) {fr2:List (Nat×Value)},zfd P l N n i fr=some fr2->OW P l N Q (i+n) fr2 w->OW P l N Q i fr w:=by
 intro n
 induction n with
 | zero=>intro i fr fr2 h k;simp only [zfd,Option.some.injEq] at h;subst h;exact k
 | succ n ih=>
  intro i fr fr2 h k
  unfold zfd at h
  split at h
  ·cases h
  ·rename_i o ho
   split at h
   ·cases h
   ·rename_i d hd
    split at h
    ·cases h
    ·rename_i hN
     split at h
     ·rename_i hg
      split at h
      ·rename_i v hv
       have:=ih (i+1) _ h (by rwa [Nat.add_assoc,Nat.add_comm 1 n])
       intro a ha
       rw [zap ho]
       refine wpList_step (fun K hK=> ?_)
       rw [xU hg ha,if_pos rfl]
       unfold Oper.wp
       rw [zh5 hv ha w,Oper.upon_value,hd]
       exact hK _ _ (this _ (ha.put hN))
      ·cases h
     ·rename_i hg
      have:=ih (i+1) _ h (by rwa [Nat.add_assoc,Nat.add_comm 1 n])
      intro a ha
      rw [zap ho]
      refine wpList_step (fun K hK=> ?_)
      rw [xU hg ha,hd]
      exact hK _ _ (this _ (ha.put hN))
     ·cases h
theorem OW.pure (n:Nat) (new:List (Nat×Value))
  (h:(zfd P l N n i fr).map (fun fr2=>zgW fr2 (za1 [] (new++fr)))=some (zev (za1 [] (new++fr))))
  (k:OW P l N Q (i+n) (new++fr) w):OW P l N Q i fr w:=by
 cases hc:zfd P l N n i fr with
 | none=>rw [hc] at h;cases h
 | some fr2=>
  rw [hc] at h
  simp only [Option.map_some,Option.some.injEq] at h
  exact zlN n i fr hc (fun a ha=>k a (ha.agrees h))
theorem OW.split (s:Nat) {c:Bool} (hs:zeu fr s=some (.bool c)) (ht:c=true->OW P l N Q i ((s,.bool true)::fr) w) (hf:c=false->OW P l N Q i ((s,.bool false)::fr) w):OW P l N Q i fr w:=by
 cases c with
 | true => exact fun a ha => ht rfl a ⟨ha.size, ha.defers, fun j v hj => by
   rw [zaO] at hj
   by_cases e:s=j
   ·subst e;rw [if_pos rfl] at hj;exact ha.get _ _ (hs.trans hj)
   ·rw [if_neg e] at hj;exact ha.get _ _ hj⟩
 | false => exact fun a ha => hf rfl a ⟨ha.size, ha.defers, fun j v hj => by
   rw [zaO] at hj
   by_cases e:s=j
   ·subst e;rw [if_pos rfl] at hj;exact ha.get _ _ (hs.trans hj)
   ·rw [if_neg e] at hj;exact ha.get _ _ hj⟩
theorem OW.op {d:Nat} {v:Value} {w':World} (hl:vg l i=some o) (hg:gd l fr o=some true) (hd:o.dst=some d) (hN:Nat.blt d N=true)
  (hr: ∀ a,Rep N fr a->(execOp a.eval o).run P w= .ok (.value v) w')
  (h:OW P l N Q (i+1) ((d,v)::fr) w'):OW P l N Q i fr w:=fun a ha=>by
 rw [zap hl]
 refine wpList_step (fun K hK=> ?_)
 rw [xU hg ha,if_pos rfl]
 unfold Oper.wp
 rw [hr a ha,Oper.upon_value,hd]
 exact hK _ _ (h _ (ha.put hN))
theorem OW.opn {v:Value} {w':World} (hl:vg l i=some o) (hg:gd l fr o=some true) (hd:o.dst=none)
  (hr: ∀ a,Rep N fr a->(execOp a.eval o).run P w= .ok (.value v) w')
  (h:OW P l N Q (i+1) fr w'):OW P l N Q i fr w:=fun a ha=>by
 rw [zap hl]
 refine wpList_step (fun K hK=> ?_)
 rw [xU hg ha,if_pos rfl]
 unfold Oper.wp
 rw [hr a ha,Oper.upon_value,hd]
 exact hK _ _ (h _ ha)
theorem OW.ops {w':World} (hl:vg l i=some o) (hg:gd l fr o=some true) (hd:o.dst=none)
  (hr: ∀ a,Rep N fr a->(execOp a.eval o).run P w= .ok .skip w')
  (h:OW P l N Q (i+1) fr w'):OW P l N Q i fr w:=fun a ha=>by
 rw [zap hl]
 refine wpList_step (fun K hK=> ?_)
 rw [xU hg ha,if_pos rfl]
 unfold Oper.wp
 rw [hr a ha,Oper.upon_skip,hd]
 exact hK _ _ (h _ ha)
theorem OW.call {d:Nat} {f:FuncId} {args:Array Value} {R:Ending->World->Prop} (hl:vg l i=some o) (hg:gd l fr o=some true) (hd:o.dst=some d) (hN:Nat.blt d N=true)
  (hr: ∀ a,Rep N fr a->(execOp a.eval o).run P w= .ok (.enter f args) w)
  (hc:Calls P f args w R)
  (h: ∀ e w',R e w'-> ∃ v,e= .returned v/\OW P l N Q (i+1) ((d,v)::fr) w'):OW P l N Q i fr w:=fun a ha=>by
 rw [zap hl]
 refine wpList_step (fun K hK=> ?_)
 rw [xU hg ha,if_pos rfl]
 unfold Oper.wp
 rw [hr a ha,Oper.upon_enter]
 refine hc.mono (fun e w' hR=> ?_)
 obtain ⟨v,rfl,h'⟩:=h e w' hR
 simp only [hd]
 exact hK _ _ (h' _ (ha.put hN))
end
structure Chg (S:List Nat) (w w':World):Prop where
 os:w'.os=w.os
 tape:w'.tape=w.tape
 output:w'.output=w.output
 size:w.heap.size<=w'.heap.size
 block: ∀ k,k<w.heap.size->k ∉ S->w'.heap[k]? =w.heap[k]?
section
variable {S S':List Nat} {a w w' c:World}
theorem Chg.refl (S:List Nat) (w:World):Chg S w w:=⟨rfl,rfl,rfl,Nat.le_refl _,fun _ _ _=>rfl⟩
theorem Chg.trans (h:Chg S a w) (k:Chg S w c):Chg S a c:=
 ⟨k.os.trans h.os,k.tape.trans h.tape,k.output.trans h.output,Nat.le_trans h.size k.size,fun i hi hn=>(k.block i (Nat.lt_of_lt_of_le hi h.size) hn).trans (h.block i hi hn)⟩
theorem Chg.alloc (w:World) (o:Obj):Chg S w (w.alloc o):=⟨rfl,rfl,rfl,by simp,fun k hk _=>Below.heap_alloc _ _ _ hk⟩
theorem Chg.mono (h:Chg S a w) (hs: ∀ x,x∈S->x∈S'):Chg S' a w:=⟨h.os,h.tape,h.output,h.size,fun k hk hn=>h.block k hk (fun hx=>hn (hs k hx))⟩
theorem Chg.grown {row:Option Nat} (h:w.grownBy w' row) (hr: ∀ b,row=some b->b∈S):Chg S w w':=
 ⟨h.os,h.tape,h.output,h.size,fun k hk hn=>h.block k hk (fun e=>hn (hr k e.symm))⟩
theorem Chg.below (h:Chg [] a w):Below a.heap.size a w:=⟨h.os,h.tape,h.output,h.size,fun k hk=>h.block k hk (by simp)⟩
end
structure zz where
 S:List Nat
 Φ:World->Prop
 loc: ∀ w w':World,(∀ b∈S,w'.heap[b]? =w.heap[b]?)->Φ w->Φ w'
 lt: ∀ w,Φ w-> ∀ b∈S,b<w.heap.size
def nilI:zz:=⟨[],fun _=>True,fun _ _ _ _=>trivial,fun _ _ _ h=>by cases h⟩
def fp:List zz->List Nat
 | []=> []
 | it::r=>it.S++fp r
theorem zai {L:List zz} {b:Nat}:b∈fp L↔ ∃ (i:Nat) (it:zz),L[i]? =some it/\b∈it.S:=by
 induction L with
 | nil=>simp [fp]
 | cons it r ih=>
  simp only [fp,List.mem_append,ih]
  constructor
  ·rintro (h | ⟨i,x,hi,hb⟩)
   ·exact ⟨0,it,rfl,h⟩
   ·exact ⟨i+1,x,hi,hb⟩
  ·rintro ⟨i,x,hi,hb⟩
   cases i with
   | zero=>simp only [List.getElem?_cons_zero,Option.some.injEq] at hi;subst hi;exact .inl hb
   | succ i=>exact .inr ⟨i,x,hi,hb⟩
structure St (w0:World) (S0:List Nat) (w:World) (L:List zz):Prop where
 chg:Chg S0 w0 w
 all: ∀ (i:Nat) (it:zz),L[i]? =some it->it.Φ w
 nd: ∀ (i:Nat) (it:zz),L[i]? =some it->it.S.Nodup
 apart: ∀ (i j:Nat) (a b:zz),i ≠ j->L[i]? =some a->L[j]? =some b-> ∀ x∈a.S,x ∉ b.S
 own: ∀ (i:Nat) (it:zz),L[i]? =some it-> ∀ x∈it.S,x∈S0\/w0.heap.size<=x
def sel (L:List zz):List Nat->List zz
 | []=> []
 | i::r=>L.getD i nilI::sel L r
def zB:List Nat->Bool
 | []=>true
 | i::r=>match mem? i r with
  | true=>false
  | false=>zB r
theorem zcW {L:List zz} {idx:List Nat} {k:Nat} {it:zz} (h:(sel L idx)[k]? =some it): ∃ i,idx[k]? =some i/\L.getD i nilI=it:=by
 induction idx generalizing k with
 | nil=>simp [sel] at h
 | cons j r ih=>
  cases k with
  | zero=>exact ⟨j,rfl,by simpa [sel] using h⟩
  | succ k=>exact ih (by simpa [sel] using h)
theorem zbc {idx:List Nat} (h:zB idx=true): ∀ {i j a b:Nat},i ≠ j->idx[i]? =some a->idx[j]? =some b->a ≠ b:=by
 induction idx with
 | nil=>intro i j a b _ h1;simp at h1
 | cons m r ih=>
  have hm:m ∉ r:=fun hx=>by simp [zB,mem?_iff.2 hx] at h
  have hr:zB r=true:=by
   simp only [zB] at h
   split at h
   ·cases h
   ·exact h
  intro i j a b hij hi hj
  cases i with
  | zero=>
   cases j with
   | zero=>exact absurd rfl hij
   | succ j=>
    simp only [List.getElem?_cons_zero,Option.some.injEq] at hi
    subst hi
    rintro rfl
    exact hm (zmg (by simpa using hj))
  | succ i=>
   cases j with
   | zero=>
    simp only [List.getElem?_cons_zero,Option.some.injEq] at hj
    subst hj
    rintro rfl
    exact hm (zmg (by simpa using hi))
   | succ j=>exact ih hr (i:=i) (j:=j) (by omega) (by simpa using hi) (by simpa using hj)
theorem vx {L:List zz} {i:Nat} {it:zz} (h:L.getD i nilI=it):L[i]? =some it\/it=nilI:=by
 rw [List.getD_eq_getElem?_getD] at h
 cases hi:L[i]? with
 | none=>rw [hi] at h;exact .inr h.symm
 | some x=>rw [hi] at h;exact .inl (by rw [<- h];rfl)
section
variable {w0 w w':World} {S0:List Nat} {L L':List zz} {it it':zz}
theorem St.same (h:St w0 S0 w L) (hc:Chg [] w w'):St w0 S0 w' L:=
 ⟨h.chg.trans (hc.mono (by simp)),fun i it hi=>it.loc w w' (fun b hb=>hc.block b (it.lt w (h.all i it hi) b hb) (by simp)) (h.all i it hi),h.nd,h.apart,h.own⟩
theorem St.upd (h:St w0 S0 w L) (i:Nat) (hi:L[i]? =some it) (hc:Chg it.S w w') (hΦ:it'.Φ w') (hS: ∀ b∈it'.S,b∈it.S\/w.heap.size<=b) (hnd:it'.S.Nodup):
  St w0 S0 w' (L.set i it'):=by
 have hlt:i<L.length:=(zes.1 hi).1
 have hset: ∀ (j:Nat) (x:zz),(L.set i it')[j]? =some x->(j=i/\x=it')\/(j ≠ i/\L[j]? =some x):=by
  intro j x hj
  by_cases e:i=j
  ·subst e;rw [List.getElem?_set_self hlt] at hj;exact .inl ⟨rfl,(Option.some.inj hj).symm⟩
  ·rw [List.getElem?_set_ne e] at hj;exact .inr ⟨fun x=>e x.symm,hj⟩
 refine ⟨⟨hc.os.trans h.chg.os,hc.tape.trans h.chg.tape,hc.output.trans h.chg.output,Nat.le_trans h.chg.size hc.size,fun k hk hn=> ?_⟩,fun j x hj=> ?_,fun j x hj=> ?_,fun j k a b hjk hj hk x hx=> ?_,fun j x hj y hy=> ?_⟩
 ·rw [hc.block k (Nat.lt_of_lt_of_le hk h.chg.size) (fun hx=>by rcases h.own i it hi k hx with h1 | h1;exact hn h1;omega)]
  exact h.chg.block k hk hn
 ·rcases hset j x hj with ⟨rfl,rfl⟩ | ⟨hne,hj⟩
  ·exact hΦ
  ·exact x.loc w w' (fun b hb=>hc.block b (x.lt w (h.all j x hj) b hb) (h.apart j i x it hne hj hi b hb)) (h.all j x hj)
 ·rcases hset j x hj with ⟨rfl,rfl⟩ | ⟨hne,hj⟩
  ·exact hnd
  ·exact h.nd j x hj
 ·rcases hset j a hj with ⟨rfl,rfl⟩ | ⟨hne,hj2⟩
  ·rcases hset k b hk with ⟨rfl,rfl⟩ | ⟨hne,hk⟩
   ·exact absurd rfl hjk
   ·intro hxb
    rcases hS x hx with h1 | h1
    ·exact h.apart j k it b (fun e=>hne e.symm) hi hk x h1 hxb
    ·have:=b.lt w (h.all k b hk) x hxb;omega
  ·rcases hset k b hk with ⟨rfl,rfl⟩ | ⟨hne',hk⟩
   ·intro hxb
    rcases hS x hxb with h1 | h1
    ·exact h.apart j k a it hne hj2 hi x hx h1
    ·have:=a.lt w (h.all j a hj2) x hx;omega
   ·exact h.apart j k a b hjk hj2 hk x hx
 ·rcases hset j x hj with ⟨rfl,rfl⟩ | ⟨hne,hj⟩
  ·rcases hS y hy with h1 | h1
   ·exact h.own j it hi y h1
   ·exact .inr (Nat.le_trans h.chg.size h1)
  ·exact h.own j x hj y hy
theorem St.join {R:List zz} {rest:List Nat} (h:St w0 S0 w L) {idx:List Nat} (hd:zB (idx++rest)=true) (k:St w (fp (sel L idx)) w' R):St w0 S0 w' (R++sel L rest):=by
 have hrest: ∀ (j:Nat) (x:zz),(sel L rest)[j]? =some x->(∃ i,rest[j]? =some i/\L[i]? =some x)\/x=nilI:=by
  intro j x hj
  obtain ⟨i,hi,hx⟩:=zcW hj
  rcases vx hx with hx | hx
  ·exact .inl ⟨i,hi,hx⟩
  ·exact .inr hx
 have hfp: ∀ b,b∈fp (sel L idx)-> ∃ (j i:Nat) (it:zz),idx[j]? =some i/\L[i]? =some it/\b∈it.S:=by
  intro b hb
  obtain ⟨j,it,hj,hb⟩:=zai.1 hb
  obtain ⟨i,hi,hx⟩:=zcW hj
  rcases vx hx with hx | hx
  ·exact ⟨j,i,it,hi,hx,hb⟩
  ·subst hx;cases hb
 have hno: ∀ (j i:Nat) (x:zz),rest[j]? =some i->L[i]? =some x-> ∀ b∈x.S,b ∉ fp (sel L idx):=by
  intro j i x hj hx b hb hf
  obtain ⟨j',i',it,hj',hi',hb'⟩:=hfp b hf
  have hlt:j'<idx.length:=(zes.1 hj').1
  have hne:i' ≠ i:=zbc hd (i:=j') (j:=idx.length+j) (by omega) (by rw [List.getElem?_append_left hlt];exact hj') (by rw [List.getElem?_append_right (by omega)];simpa using hj)
  exact h.apart i' i it x hne hi' hx b hb' hb
 have hget: ∀ (j:Nat) (x:zz),(R++sel L rest)[j]? =some x->(j<R.length/\R[j]? =some x)\/(R.length<=j/\(sel L rest)[j-R.length]? =some x):=by
  intro j x hj
  rcases Nat.lt_or_ge j R.length with hlt | hge
  ·rw [List.getElem?_append_left hlt] at hj;exact .inl ⟨hlt,hj⟩
  ·rw [List.getElem?_append_right hge] at hj;exact .inr ⟨hge,hj⟩
 have hR: ∀ (j:Nat) (x:zz),R[j]? =some x-> ∀ b∈x.S,b∈fp (sel L idx)\/w.heap.size<=b:=k.own
 refine ⟨⟨k.chg.os.trans h.chg.os,k.chg.tape.trans h.chg.tape,k.chg.output.trans h.chg.output,Nat.le_trans h.chg.size k.chg.size,fun b hb hn=> ?_⟩,fun j x hj=> ?_,fun j x hj=> ?_,fun j j' a b hjk hj hj' x hx=> ?_,fun j x hj y hy=> ?_⟩
 ·rw [k.chg.block b (Nat.lt_of_lt_of_le hb h.chg.size) (fun hx=>by
   obtain ⟨_,i,it,_,hi,hb'⟩:=hfp b hx
   rcases h.own i it hi b hb' with h1 | h1
   ·exact hn h1
   ·omega)]
  exact h.chg.block b hb hn
 ·rcases hget j x hj with ⟨_,hj⟩ | ⟨_,hj⟩
  ·exact k.all j x hj
  ·rcases hrest _ x hj with ⟨i,hi,hx⟩ | rfl
   ·exact x.loc w w' (fun b hb=>k.chg.block b (x.lt w (h.all i x hx) b hb) (hno _ i x hi hx b hb)) (h.all i x hx)
   ·trivial
 ·rcases hget j x hj with ⟨_,hj⟩ | ⟨_,hj⟩
  ·exact k.nd j x hj
  ·rcases hrest _ x hj with ⟨i,hi,hx⟩ | rfl
   ·exact h.nd i x hx
   ·exact List.nodup_nil
 ·have cross: ∀ (p q:Nat) (a b:zz),R[p]? =some a->(sel L rest)[q]? =some b-> ∀ x∈a.S,x ∉ b.S:=by
   intro p q a b hp hq x hx hxb
   rcases hrest q b hq with ⟨i,hi,hb⟩ | rfl
   ·rcases hR p a hp x hx with h1 | h1
    ·exact hno q i b hi hb x hxb h1
    ·have:=b.lt w (h.all i b hb) x hxb;omega
   ·cases hxb
  rcases hget j a hj with ⟨_,hj⟩ | ⟨hg,hj⟩
  ·rcases hget j' b hj' with ⟨_,hj'⟩ | ⟨_,hj'⟩
   ·exact k.apart j j' a b hjk hj hj' x hx
   ·exact cross _ _ a b hj hj' x hx
  ·rcases hget j' b hj' with ⟨_,hj'⟩ | ⟨hg',hj'⟩
   ·intro hxb;exact cross _ _ b a hj' hj x hxb hx
   ·intro hxb
    rcases hrest _ a hj with ⟨i,hi,ha⟩ | rfl
    ·rcases hrest _ b hj' with ⟨i',hi',hb⟩ | rfl
     ·have hne:i ≠ i':=zbc hd (i:=idx.length+(j-R.length)) (j:=idx.length+(j'-R.length)) (by omega)
       (by rw [List.getElem?_append_right (by omega)];simpa using hi) (by rw [List.getElem?_append_right (by omega)];simpa using hi')
      exact h.apart i i' a b hne ha hb x hx hxb
     ·cases hxb
    ·cases hx
 ·rcases hget j x hj with ⟨_,hj⟩ | ⟨_,hj⟩
  ·rcases hR j x hj y hy with h1 | h1
   ·obtain ⟨_,i,it,_,hi,hb'⟩:=hfp y h1
    exact h.own i it hi y hb'
   ·exact .inr (Nat.le_trans h.chg.size h1)
  ·rcases hrest _ x hj with ⟨i,hi,hx⟩ | rfl
   ·exact h.own i x hx y hy
   ·cases hy
theorem St.part (h:St w0 S0 w L) (idx:List Nat) (hd:zB idx=true):St w (fp (sel L idx)) w (sel L idx):=by
 have hs: ∀ (j:Nat) (x:zz),(sel L idx)[j]? =some x->(∃ i,idx[j]? =some i/\L[i]? =some x)\/x=nilI:=by
  intro j x hj
  obtain ⟨i,hi,hx⟩:=zcW hj
  rcases vx hx with hx | hx
  ·exact .inl ⟨i,hi,hx⟩
  ·exact .inr hx
 refine ⟨Chg.refl _ _,fun j x hj=> ?_,fun j x hj=> ?_,fun j j' a b hjk hj hj' x hx=> ?_,fun j x hj y hy=> .inl (zai.2 ⟨j,x,hj,hy⟩)⟩
 ·rcases hs j x hj with ⟨i,_,hx⟩ | rfl
  ·exact h.all i x hx
  ·trivial
 ·rcases hs j x hj with ⟨i,_,hx⟩ | rfl
  ·exact h.nd i x hx
  ·exact List.nodup_nil
 ·rcases hs j a hj with ⟨i,hi,ha⟩ | rfl
  ·rcases hs j' b hj' with ⟨i',hi',hb⟩ | rfl
   ·exact h.apart i i' a b (zbc hd hjk hi hi') ha hb x hx
   ·intro hb;cases hb
  ·cases hx
theorem St.keep (h:St w0 S0 w L) (idx:List Nat) (hd:zB idx=true):St w0 S0 w (sel L idx):=
 St.join (R:= []) (rest:=idx) (idx:= []) h hd ⟨Chg.refl _ _,fun _ _ h=>by simp at h,fun _ _ h=>by simp at h,fun _ _ _ _ _ h=>by simp at h,fun _ _ h=>by simp at h⟩
theorem St.push (h:St w0 S0 w L) (hc:Chg [] w w') (hΦ:it.Φ w') (hf: ∀ b∈it.S,w.heap.size<=b) (hnd:it.S.Nodup):St w0 S0 w' (L++ [it]):=by
 have hget: ∀ (j:Nat) (x:zz),(L++ [it])[j]? =some x->(j<L.length/\L[j]? =some x)\/(j=L.length/\x=it):=by
  intro j x hj
  rcases Nat.lt_or_ge j L.length with hlt | hge
  ·rw [List.getElem?_append_left hlt] at hj;exact .inl ⟨hlt,hj⟩
  ·rw [List.getElem?_append_right hge] at hj
   rcases Nat.eq_or_lt_of_le hge with e | hlt
   ·subst e;simp at hj;exact .inr ⟨rfl,hj.symm⟩
   ·rw [List.getElem?_eq_none (by simp;omega)] at hj;cases hj
 have hs:=h.same hc
 refine ⟨hs.chg,fun j x hj=> ?_,fun j x hj=> ?_,fun j j' a b hjk hj hj' x hx=> ?_,fun j x hj y hy=> ?_⟩
 ·rcases hget j x hj with ⟨_,hj⟩ | ⟨_,rfl⟩
  ·exact hs.all j x hj
  ·exact hΦ
 ·rcases hget j x hj with ⟨_,hj⟩ | ⟨_,rfl⟩
  ·exact h.nd j x hj
  ·exact hnd
 ·rcases hget j a hj with ⟨_,hj2⟩ | ⟨e1,rfl⟩
  ·rcases hget j' b hj' with ⟨_,hj3⟩ | ⟨_,rfl⟩
   ·exact h.apart j j' a b hjk hj2 hj3 x hx
   ·intro hb;have:=hf x hb;have:=a.lt w (h.all j a hj2) x hx;omega
  ·rcases hget j' b hj' with ⟨_,hj3⟩ | ⟨e2,rfl⟩
   ·intro hb;have:=hf x hx;have:=b.lt w (h.all j' b hj3) x hb;omega
   ·omega
 ·rcases hget j x hj with ⟨_,hj⟩ | ⟨_,rfl⟩
  ·exact h.own j x hj y hy
  ·exact .inr (Nat.le_trans h.chg.size (hf y hy))
end
def jF (b:Nat) (T:TypeId) (cs:List Value):zz where
 S:= [b]
 Φ w:=w.heap[b]? =some (.cells cs.toArray T (0,0))
 loc w w' h hb:=by rw [h b (by simp)];exact hb
 lt w h x hx:=by simp only [List.mem_singleton] at hx;subst hx;exact (Array.getElem?_eq_some_iff.1 h).1
def vy {α:Type} (enc:α->List Value):List α->List Value
 | []=> []
 | x::r=>enc x++vy enc r
def zbd:Value->Option Nat
 | .slice (some a) _ (_+1)=>some a.block
 | _=>none
theorem za2 {a:Addr} {n c:Nat} (h:0<c):zbd (.slice (some a) n c)=some a.block:=by
 cases c with
 | zero=>omega
 | succ c=>rfl
theorem zh6 {a:Option Addr} {n:Nat}:zbd (.slice a n 0)=none:=by cases a<;>rfl
def zdn (w:World) (T:TypeId) (sz:Nat) (v:Value) (n:Nat) (xs:List Value):Prop:=
  xs.length=n*sz/\
  ((n=0/\ ∃ a,v= .slice a 0 0)\/
   ∃ g o cap cur,v= .slice (some ⟨g,o,none⟩) n cap/\0<cap/\w.heap[g]? =some (.cells cur T (0,0))/\n<=cap/\cap<=maxLen/\o+cap*sz<=cur.size/\(cur.toList.drop o).take (n*sz)=xs)
theorem zdn.loc {w w':World} {T:TypeId} {sz:Nat} {v:Value} {n:Nat} {xs:List Value} (h: ∀ b∈(zbd v).toList,w'.heap[b]? =w.heap[b]?) (hr:zdn w T sz v n xs):zdn w' T sz v n xs:=by
 refine ⟨hr.1,?_⟩
 rcases hr.2 with h1 | ⟨g,o,cap,cur,rfl,hp,hg,rest⟩
 ·exact .inl h1
 ·exact .inr ⟨g,o,cap,cur,rfl,hp,by rw [h g (by simp [za2 hp])];exact hg,rest⟩
theorem zdn.lt {w:World} {T:TypeId} {sz:Nat} {v:Value} {n:Nat} {xs:List Value} (hr:zdn w T sz v n xs): ∀ b∈(zbd v).toList,b<w.heap.size:=by
 intro b hb
 rcases hr.2 with ⟨_,a,rfl⟩ | ⟨g,o,cap,cur,rfl,hp,hg,rest⟩
 ·simp [zh6] at hb
 ·simp [za2 hp] at hb
  subst hb
  exact (Array.getElem?_eq_some_iff.1 hg).1
theorem zdn.nil (w:World) (T:TypeId) (sz:Nat) (a:Option Addr):zdn w T sz (.slice a 0 0) 0 []:=⟨by simp,.inl ⟨rfl,a,rfl⟩⟩
theorem zdn.fresh {w:World} {T:TypeId} {sz:Nat} {g n cap:Nat} {cur:Array Value} (hg:w.heap[g]? =some (.cells cur T (0,0))) (hnc:n<=cap) (hm:cap<=maxLen) (hcs:cur.size=cap*sz):
  zdn w T sz (.slice (some ⟨g,0,none⟩) n cap) n (cur.toList.take (n*sz)):=by
 have hle:n*sz<=cap*sz:=Nat.mul_le_mul_right _ hnc
 refine ⟨by rw [List.length_take,Array.length_toList];omega,?_⟩
 rcases Nat.eq_zero_or_pos cap with rfl | hp
 ·have:n=0:=by omega
  subst this
  exact .inl ⟨rfl,_,rfl⟩
 ·exact .inr ⟨g,0,cap,cur,rfl,hp,hg,hnc,hm,by omega,by simp⟩
theorem zb1 {v:Value}:(zbd v).toList.Nodup:=by cases h:zbd v<;>simp
def zZ {α:Type} (v:Value) (T:TypeId) (enc:α->List Value) (sz:Nat) (xs:List α):zz where
 S:=(zbd v).toList
 Φ w:=zdn w T sz v xs.length (vy enc xs)
 loc _ _ h hr:=hr.loc h
 lt _ hr:=hr.lt
theorem zb2 {α:Type} {v:Value} {T:TypeId} {enc:α->List Value} {sz:Nat} {xs:List α}:(zZ v T enc sz xs).S.Nodup:=zb1
theorem jZ {α:Type} {enc:α->List Value} {sz:Nat} (he: ∀ x,(enc x).length=sz) (xs:List α):(vy enc xs).length=xs.length*sz:=by
 induction xs with
 | nil=>simp [vy]
 | cons x r ih=>simp only [vy,List.length_append,he,ih,List.length_cons,Nat.add_mul];omega
theorem zfx {α:Type} {enc:α->List Value} {sz:Nat} (he: ∀ x,(enc x).length=sz) {xs:List α} {t f:Nat} {x:α} {u:Value} (hx:xs[t]? =some x) (hu:(enc x)[f]? =some u):
  (vy enc xs)[t*sz+f]? =some u:=by
 induction xs generalizing t with
 | nil=>simp at hx
 | cons y r ih=>
  cases t with
  | zero=>
   simp only [List.getElem?_cons_zero,Option.some.injEq] at hx
   subst hx
   have hf:f<(enc y).length:=(zes.1 hu).1
   simp only [vy,Nat.zero_mul,Nat.zero_add]
   rw [List.getElem?_append_left hf]
   exact hu
  | succ t=>
   have:=ih (t:=t) (by simpa using hx)
   simp only [vy]
   rw [List.getElem?_append_right (by rw [he,Nat.add_mul];omega),he]
   rw [show (t+1)*sz+f-sz=t*sz+f by rw [Nat.add_mul];omega]
   exact this
theorem zf3 {α:Type} {enc:α->List Value} (xs ys:List α):vy enc (xs++ys)=vy enc xs++vy enc ys:=by
 induction xs with
 | nil=>rfl
 | cons x r ih=>simp only [List.cons_append,vy,ih,List.append_assoc]
theorem zew {α:Type} {enc:α->List Value} {sz:Nat} (he: ∀ x,(enc x).length=sz) (_hp:0<sz) {xs:List α} {q:Nat} {u:Value} (h:(vy enc xs)[q]? =some u):
  ∃ t f x,xs[t]? =some x/\(enc x)[f]? =some u/\q=t*sz+f:=by
 induction xs generalizing q with
 | nil=>simp [vy] at h
 | cons y r ih=>
  simp only [vy] at h
  rcases Nat.lt_or_ge q (enc y).length with hlt | hge
  ·rw [List.getElem?_append_left hlt] at h
   exact ⟨0,q,y,rfl,h,by simp⟩
  ·rw [List.getElem?_append_right hge] at h
   obtain ⟨t,f,x,h1,h2,h3⟩:=ih h
   exact ⟨t+1,f,x,by simpa using h1,h2,by rw [Nat.add_mul];rw [he] at h3 hge;omega⟩
theorem zpo {α:Type} {enc:α->List Value} {xs:List α} {u:Value} (h:u∈vy enc xs): ∃ x,u∈enc x:=by
 induction xs with
 | nil=>simp [vy] at h
 | cons y r ih=>
  simp only [vy,List.mem_append] at h
  rcases h with h | h
  ·exact ⟨y,h⟩
  ·exact ih h
def qk (cs vs:List Value) (o:Nat):List Value:=cs.take o++vs++cs.drop (o+vs.length)
theorem zjk {α:Type} {enc:α->List Value} {sz:Nat} (he: ∀ x,(enc x).length=sz) {xs:List α} {t f:Nat} {x x':α} {vs:List Value} (hx:xs[t]? =some x)
  (hf:f+vs.length<=sz) (hs:qk (enc x) vs f=enc x'):qk (vy enc xs) vs (t*sz+f)=vy enc (xs.set t x'):=by
 induction xs generalizing t with
 | nil=>simp at hx
 | cons y r ih=>
  cases t with
  | zero=>
   simp only [List.getElem?_cons_zero,Option.some.injEq] at hx
   subst hx
   have hy:=he y
   simp only [vy,Nat.zero_mul,Nat.zero_add,List.set_cons_zero,qk] at hs |-
   rw [List.take_append_of_le_length (by omega),List.drop_append_of_le_length (by omega),<- List.append_assoc,hs]
  | succ t=>
   have:=ih (t:=t) (by simpa using hx)
   have hy:=he y
   simp only [vy,List.set_cons_succ]
   rw [<- this]
   unfold qk
   rw [List.take_append,List.take_of_length_le (by rw [hy,Nat.add_mul];omega),List.drop_append,List.drop_of_length_le (by rw [hy,Nat.add_mul];omega),hy]
   rw [show (t+1)*sz+f-sz=t*sz+f by rw [Nat.add_mul];omega,show (t+1)*sz+f+vs.length-sz=t*sz+f+vs.length by rw [Nat.add_mul];omega]
   simp [List.append_assoc]
def idx {α:Type} (xs:List α) (t:Int):Option α:=if 0<=t then xs[t.toNat]? else none
theorem qB {α:Type} {xs:List α} {t:Int} {x:α} (h:idx xs t=some x):0<=t/\t<xs.length/\xs[t.toNat]? =some x:=by
 unfold idx at h
 split at h
 ·rename_i h0
  have:=(zes.1 h).1
  exact ⟨h0,by omega,h⟩
 ·cases h
theorem zff {P:Program} {w:World} {t:TypeId} {a:Addr} {v:Value} (hA:zbw P (isAgg t)=some false) (hc:w.cell? a=some v):
  (Instr.loadAt t (.pointer (some a))).run P w= .ok v w:=by
 simp [Instr.loadAt,Instr.sureAddr,loadVar,jB hA,load,Sem.run,hc]
theorem zcD {b o k:Nat}:(⟨b,o,none⟩:Addr).add k=⟨b,o+k,none⟩:=by
 unfold Addr.add
 split
 ·rename_i h;subst h;rfl
 ·rfl
theorem zfg {P:Program} {w:World} {t:TypeId} {b o:Nat} {cs:List Value} (hA:zbw P (isAgg t)=some true) (hs:zbw P (sizeOf t)=some cs.length)
  (hc: ∀ j u,cs[j]? =some u->w.cell? ⟨b,o+j,none⟩=some u):
  (Instr.loadAt t (.pointer (some ⟨b,o,none⟩))).run P w= .ok (.agg cs.toArray) w:=by
 have:=run_loadCells_list (P:=P) w ⟨b,o,none⟩ cs (fun j v hj=>by rw [zcD];exact hc j v hj)
 simp [Instr.loadAt,Instr.sureAddr,loadVar,jB hA,jB hs,this]
def zec:List Value->Bool
 | []=>true
 | v::r=>match v.oneCell' with
  | true=>zec r
  | false=>false
theorem zdc {l:List Value} (h:zec l=true): ∀ v∈l,v.oneCell'=true:=by
 induction l with
 | nil=>intro v hv;cases hv
 | cons x r ih=>
  intro v hv
  unfold zec at h
  split at h
  ·rename_i hx
   rcases List.mem_cons.1 hv with rfl | hv
   ·exact hx
   ·exact ih h v hv
  ·cases h
theorem zfy {P:Program} {w:World} {t T:TypeId} {g o:Nat} {v:Value} {cur:Array Value} (hs:zbw P (sizeOf t)=some v.cells.toList.length) (h1:zec v.cells.toList=true)
  (hg:w.heap[g]? =some (.cells cur T (0,0))) (hle:o+v.cells.toList.length<=cur.size):
  (Instr.storeAt t (.pointer (some ⟨g,o,none⟩)) v).run P w= .ok () (w.setRow g (qk cur.toList v.cells.toList o).toArray):=by
 have hst:=run_storeCells_at (P:=P) g o T v.cells.toList 0 cur w hg (by simpa using hle) (zdc h1)
 have hsz:=jB hs w
 have hsz':v.cells.size=v.cells.toList.length:=by simp
 unfold Instr.storeAt Instr.sureAddr storeVar
 simp only [Sem.run_bind,Sem.run_pure,Result.andThen_ok,hsz,hsz',ne_eq,not_true_eq_false,if_false]
 simpa [qk] using hst
section
variable {P:Program} {N:Nat} {Q:Exit->Act->World->Prop} {fr fr':List (Nat×Value)} {w w0:World} {l:List Oper} {i:Nat} {o:Oper} {S0:List Nat} {L:List zz}
theorem St.blk (h:St w0 S0 w L) (j:Nat) {b:Nat} {T:TypeId} {cs:List Value} (hj:L[j]? =some (jF b T cs)) {k:Nat} {v:Value} (hv:cs[k]? =some v):w.cell? ⟨b,k,none⟩=some v:=by
 have:=h.all j _ hj
 rw [cell_of_row w b k cs.toArray T (0,0) this]
 simpa using hv
theorem St.row (h:St w0 S0 w L) (j:Nat) {α:Type} {v:Value} {T:TypeId} {enc:α->List Value} {sz:Nat} {xs:List α} (hj:L[j]? =some (zZ v T enc sz xs)) (he: ∀ x,(enc x).length=sz)
  {t:Int} {x:α} (hx:idx xs t=some x): ∃ g o cap,v= .slice (some ⟨g,o,none⟩) xs.length cap/\ ∀ f u,(enc x)[f]? =some u->w.cell? ⟨g,o+t.toNat*sz+f,none⟩=some u:=by
 have hr:=h.all j _ hj
 obtain ⟨h0,h1,h2⟩:=qB hx
 rcases hr.2 with ⟨hn,_⟩ | ⟨g,o,cap,cur,rfl,_,hg,_,_,_,htake⟩
 ·omega
 ·refine ⟨g,o,cap,rfl,fun f u hu=> ?_⟩
  have:=zfx he h2 hu
  rw [<- htake,List.getElem?_take] at this
  split at this
  ·rw [cell_of_row w g _ cur T (0,0) hg,Nat.add_assoc]
   rw [List.getElem?_drop] at this
   simpa using this
  ·cases this
theorem St.rowv (h:St w0 S0 w L) (j:Nat) {α:Type} {v:Value} {T:TypeId} {enc:α->List Value} {sz:Nat} {xs:List α} (hj:L[j]? =some (zZ v T enc sz xs))
  {t:Int} {x:α} (hx:idx xs t=some x): ∃ g o cap,v= .slice (some ⟨g,o,none⟩) xs.length cap:=by
 have hr:=h.all j _ hj
 obtain ⟨h0,h1,h2⟩:=qB hx
 rcases hr.2 with ⟨hn,_⟩ | ⟨g,o,cap,cur,rfl,_⟩
 ·omega
 ·exact ⟨g,o,cap,rfl⟩
theorem St.rowc (h:St w0 S0 w L) (j:Nat) {α:Type} {v:Value} {T:TypeId} {enc:α->List Value} {sz:Nat} {xs:List α} (hj:L[j]? =some (zZ v T enc sz xs)) (he: ∀ x,(enc x).length=sz)
  {t:Int} {x:α} (hx:idx xs t=some x) {g o n cap:Nat} (hv:v= .slice (some ⟨g,o,none⟩) n cap): ∀ f u,(enc x)[f]? =some u->w.cell? ⟨g,o+t.toNat*sz+f,none⟩=some u:=by
 obtain ⟨g',o',c',hv',hc⟩:=h.row j hj he hx
 rw [hv] at hv'
 simp only [Value.slice.injEq,Option.some.injEq,Addr.mk.injEq,and_true] at hv'
 obtain ⟨⟨rfl,rfl⟩,_,_⟩:=hv'
 exact hc
theorem St.blkN (h:St w0 S0 w L) (j:Nat) {b:Nat} {T:TypeId} {cs:List Value} (hj:L[j]? =some (jF b T cs)) (k n:Nat): ∀ q u,((cs.drop k).take n)[q]? =some u->w.cell? ⟨b,k+q,none⟩=some u:=by
 intro q u hq
 rw [List.getElem?_take] at hq
 split at hq
 ·rw [List.getElem?_drop] at hq
  exact h.blk j hj hq
 ·cases hq
theorem St.len (h:St w0 S0 w L) (j:Nat) {α:Type} {v:Value} {T:TypeId} {enc:α->List Value} {sz:Nat} {xs:List α} (hj:L[j]? =some (zZ v T enc sz xs)):
  xs.length<=9223372036854775807/\ ∃ a c,v= .slice a xs.length c:=by
 have hr:=h.all j _ hj
 rcases hr.2 with ⟨hn,a,rfl⟩ | ⟨g,o,cap,cur,rfl,_,hg,hnc,hm,_,htake⟩
 ·exact ⟨by omega,a,0,by rw [hn]⟩
 ·refine ⟨?_,_,_,rfl⟩
  simp only [maxLen] at hm
  omega
theorem OW.idx (e sz:Nat) {d:Nat} {t:TypeId} {x y:Operand} {ty:TypeId} {pos:String} {af:Array Edge} {gdd:Option (Nat×Bool)} (hl:vg l i=some ⟨some d,.indexAddr t x y,ty,pos,af,gdd⟩)
  (hg:gd l fr ⟨some d,.indexAddr t x y,ty,pos,af,gdd⟩=some true) (hN:Nat.blt d N=true)
  {b k n c:Nat} {q:Int} {kd:IntKind} {v:Value} (hx:look fr x=some v) (hv:v= .slice (some ⟨b,k,none⟩) n c) (hy:look fr y=some (.int kd q)) (h0:0<=q) (h1:q<n)
  (ht:P.underlying t=some (.slice e)) (hs:zbw P (sizeOf e)=some sz)
  (h:OW P l N Q (i+1) ((d,.pointer (some ⟨b,k+q.toNat*sz,none⟩))::fr) w):OW P l N Q i fr w:=by
 refine OW.op hl hg rfl hN (fun a ha=> ?_) h
 have e1:=ha.look hx
 have e2:=ha.look hy
 subst hv
 simp [execOp,Instr.indexAt,e1,e2,asIntOf,run_underlying ht,h0,h1,jB hs,zcD]
theorem OW.ld {d:Nat} {t:TypeId} {x:Operand} {ty:TypeId} {pos:String} {af:Array Edge} {gdd:Option (Nat×Bool)} (hl:vg l i=some ⟨some d,.load t x,ty,pos,af,gdd⟩)
  (hg:gd l fr ⟨some d,.load t x,ty,pos,af,gdd⟩=some true) (hN:Nat.blt d N=true)
  {a:Addr} {v:Value} (hx:look fr x=some (.pointer (some a))) (hA:zbw P (isAgg t)=some false) (hc:w.cell? a=some v)
  (h:OW P l N Q (i+1) ((d,v)::fr) w):OW P l N Q i fr w:=by
 refine OW.op hl hg rfl hN (fun a ha=> ?_) h
 have e1:=ha.look hx
 simp [execOp,e1,zff hA hc]
theorem OW.ldN {d:Nat} {t:TypeId} {x:Operand} {ty:TypeId} {pos:String} {af:Array Edge} {gdd:Option (Nat×Bool)} (hl:vg l i=some ⟨some d,.load t x,ty,pos,af,gdd⟩)
  (hg:gd l fr ⟨some d,.load t x,ty,pos,af,gdd⟩=some true) (hN:Nat.blt d N=true)
  {b k:Nat} (cs:List Value) (hx:look fr x=some (.pointer (some ⟨b,k,none⟩))) (hA:zbw P (isAgg t)=some true) (hs:zbw P (sizeOf t)=some cs.length)
  (hc: ∀ j u,cs[j]? =some u->w.cell? ⟨b,k+j,none⟩=some u)
  (h:OW P l N Q (i+1) ((d,.agg cs.toArray)::fr) w):OW P l N Q i fr w:=by
 refine OW.op hl hg rfl hN (fun a ha=> ?_) h
 have e1:=ha.look hx
 simp [execOp,e1,zfg hA hs hc]
theorem OW.stB {t:TypeId} {x y:Operand} {ty:TypeId} {pos:String} {af:Array Edge} {gdd:Option (Nat×Bool)} (hst:St w0 S0 w L) (j:Nat) {b:Nat} {T:TypeId} {cs:List Value} (hj:L[j]? =some (jF b T cs))
  (hl:vg l i=some ⟨none,.store t x y,ty,pos,af,gdd⟩) (hg:gd l fr ⟨none,.store t x y,ty,pos,af,gdd⟩=some true)
  {k:Nat} {v:Value} (hx:look fr x=some (.pointer (some ⟨b,k,none⟩))) (hy:look fr y=some v)
  (hs:zbw P (sizeOf t)=some v.cells.toList.length) (h1:zec v.cells.toList=true) (hle:Nat.ble (k+v.cells.toList.length) cs.length=true) (cs':List Value) (hcs:qk cs v.cells.toList k=cs')
  (h: ∀ w',St w0 S0 w' (L.set j (jF b T cs'))->OW P l N Q (i+1) fr w'):OW P l N Q i fr w:=by
 have hb:=hst.all j _ hj
 have hle':=Nat.le_of_ble_eq_true hle
 refine OW.ops hl hg rfl (w':=w.setRow b (qk cs.toArray.toList v.cells.toList k).toArray) (fun a ha=> ?_) (h _ ?_)
 ·have e1:=ha.look hx
  have e2:=ha.look hy
  have:=zfy (P:=P) (w:=w) (T:=T) (g:=b) hs h1 hb (by simpa using hle')
  simp [execOp,e1,e2,this]
 ·subst hcs
  refine hst.upd j hj ⟨rfl,rfl,rfl,by simp [World.setRow],fun q _ hn=>setRow_other w b q _ (by rintro rfl;exact hn (by simp [jF]))⟩ ?_ (fun q hq=> .inl hq) (by simp [jF])
  show (w.setRow b _).heap[b]? =_
  rw [setRow_heap w b cs.toArray _ T (0,0) hb]
theorem zdd {cs vs:List Value} {o k n:Nat} (h1:o<=k) (h2:k+vs.length<=o+n) (_h3:o+n<=cs.length):((qk cs vs k).drop o).take n=qk ((cs.drop o).take n) vs (k-o):=by
 unfold qk
 rw [List.append_assoc,List.drop_append,List.drop_take,List.length_take,show o-min k cs.length=0 by omega,List.drop_zero,List.take_append,List.take_append,List.take_take,List.take_take]
 simp only [List.length_take,List.length_drop]
 rw [show min n (k-o)=k-o by omega,show min (k-o) n=k-o by omega,show n-min (k-o) (cs.length-o)=n-(k-o) by omega]
 rw [List.take_of_length_le (l:=vs) (by omega),List.append_assoc]
 congr 2
 rw [List.drop_take,List.drop_drop]
 congr 1
 ·omega
 ·congr 1
  omega
theorem OW.stR {t:TypeId} {x y:Operand} {ty:TypeId} {pos:String} {af:Array Edge} {gdd:Option (Nat×Bool)} (hst:St w0 S0 w L) (j:Nat) {α:Type} {hd:Value} {g o cap n:Nat} {T:TypeId} {enc:α->List Value} {sz:Nat} {xs:List α}
  (hj:L[j]? =some (zZ hd T enc sz xs)) (hv:hd= .slice (some ⟨g,o,none⟩) n cap) (he: ∀ x,(enc x).length=sz)
  (hl:vg l i=some ⟨none,.store t x y,ty,pos,af,gdd⟩) (hg:gd l fr ⟨none,.store t x y,ty,pos,af,gdd⟩=some true)
  {q:Int} {z:α} (hz:Sx.idx xs q=some z) (f:Nat) {k:Nat} {v:Value} (hx:look fr x=some (.pointer (some ⟨g,k,none⟩))) (hk:k=o+q.toNat*sz+f) (hy:look fr y=some v)
  (hs:zbw P (sizeOf t)=some v.cells.toList.length) (h1:zec v.cells.toList=true) (hf:Nat.ble (f+v.cells.toList.length) sz=true) (z':α) (hz':qk (enc z) v.cells.toList f=enc z')
  (h: ∀ w',St w0 S0 w' (L.set j (zZ hd T enc sz (xs.set q.toNat z')))->OW P l N Q (i+1) fr w'):OW P l N Q i fr w:=by
 subst hv
 have hr:=hst.all j _ hj
 have hf':=Nat.le_of_ble_eq_true hf
 obtain ⟨h0,hq,hq2⟩:=qB hz
 rcases hr.2 with ⟨hn,_⟩ | ⟨g',o',cap',cur,hc,hp,hgc,hnc,hm,hcs,htake⟩
 ·omega
 ·simp only [Value.slice.injEq,Option.some.injEq,Addr.mk.injEq,and_true] at hc
  obtain ⟨⟨rfl,rfl⟩,rfl,rfl⟩:=hc
  have hql:q.toNat<xs.length:=by omega
  have hsz:q.toNat*sz+sz<=xs.length*sz:=by rw [<- Nat.succ_mul];exact Nat.mul_le_mul_right _ hql
  have hcap:xs.length*sz<=cap*sz:=Nat.mul_le_mul_right _ hnc
  have hfit:k+v.cells.toList.length<=cur.size:=by rw [hk];omega
  refine OW.ops hl hg rfl (w':=w.setRow g (qk cur.toList v.cells.toList k).toArray) (fun a ha=> ?_) (h _ ?_)
  ·have e1:=ha.look hx
   have e2:=ha.look hy
   have:=zfy (P:=P) (w:=w) (T:=T) (g:=g) hs h1 hgc hfit
   simp [execOp,e1,e2,this]
  ·have hlen:(qk cur.toList v.cells.toList k).length=cur.size:=by simp [qk] at hfit |-;omega
   refine hst.upd j hj ⟨rfl,rfl,rfl,by simp [World.setRow],fun q _ hn=>setRow_other w g q _ (by rintro rfl;exact hn (by simp [zZ,za2 hp]))⟩ ?_ (fun q hq=> .inl hq) zb2
   show zdn (w.setRow g _) T sz _ _ _
   refine ⟨by rw [jZ he],.inr ⟨g,o,cap,_,by simp,hp,setRow_heap w g cur _ T _ hgc,by simpa using hnc,hm,by rw [List.size_toArray,hlen];exact hcs,?_⟩⟩
   have hset:=zjk he (f:=f) (vs:=v.cells.toList) hq2 hf' hz'
   rw [<- hset,<- htake]
   simp only [List.length_set]
   rw [zdd (by omega) (by omega) (by have:= @Array.length_toList _ cur;omega)]
   congr 1
   omega
theorem zh7 {α:Type} {w:World} {n c:Nat} {T:TypeId} {enc:α->List Value} {sz:Nat} {xs:List α} {b:Nat} (hb:b∈(zZ (.slice (some ⟨w.heap.size,0,none⟩) n c) T enc sz xs).S):w.heap.size<=b:=by
 cases c with
 | zero=>simp [zZ,zh6] at hb
 | succ c=>simp [zZ,zbd] at hb;omega
theorem OW.alloc {d e:Nat} {ty:TypeId} {pos:String} {af:Array Edge} {gdd:Option (Nat×Bool)} (hst:St w0 S0 w L)
  (hl:vg l i=some ⟨some d,.alloc e,ty,pos,af,gdd⟩) (hg:gd l fr ⟨some d,.alloc e,ty,pos,af,gdd⟩=some true) (hN:Nat.blt d N=true)
  (cs:List Value) (hz:(zbw P (zeroValue e)).map (·.cells.toList)=some cs)
  (h: ∀ b w',St w0 S0 w' (L++ [jF b e cs])->OW P l N Q (i+1) ((d,.pointer (some ⟨b,0,none⟩))::fr) w'):OW P l N Q i fr w:=by
 cases hq:zbw P (zeroValue e) with
 | none=>rw [hq] at hz;cases hz
 | some z=>
  rw [hq] at hz
  simp only [Option.map_some,Option.some.injEq] at hz
  refine OW.op hl hg rfl hN (w':=w.alloc (.cells z.cells e)) (fun a _=> ?_) (h w.heap.size _ ?_)
  ·simp [execOp,Instr.alloc,jB hq,newVar,newRow,newObj,Sem.run]
  ·refine hst.push (Chg.alloc _ _) ?_ (fun b hb=>by simp only [jF,List.mem_singleton] at hb;omega) (by simp [jF])
   show (w.alloc _).heap[w.heap.size]? =_
   rw [heap_alloc_new,<- hz]
theorem OW.box {d e:Nat} {x:Operand} {v:Value} {ty:TypeId} {pos:String} {af:Array Edge} {gdd:Option (Nat×Bool)} (hst:St w0 S0 w L)
  (hl:vg l i=some ⟨some d,.box e x,ty,pos,af,gdd⟩) (hg:gd l fr ⟨some d,.box e x,ty,pos,af,gdd⟩=some true) (hN:Nat.blt d N=true)
  (hx:look fr x=some v) (cs:List Value) (hz:v.cells.toList=cs)
  (h: ∀ b w',St w0 S0 w' (L++ [jF b e cs])->OW P l N Q (i+1) ((d,.pointer (some ⟨b,0,none⟩))::fr) w'):OW P l N Q i fr w:=by
 refine OW.op hl hg rfl hN (w':=w.alloc (.cells v.cells e)) (fun a ha=> ?_) (h w.heap.size _ ?_)
 ·have e1:=ha.look hx
  simp [execOp,e1,Instr.box,newVar,newRow,newObj,Sem.run]
 ·refine hst.push (Chg.alloc _ _) ?_ (fun b hb=>by simp only [jF,List.mem_singleton] at hb;omega) (by simp [jF])
  show (w.alloc _).heap[w.heap.size]? =_
  rw [heap_alloc_new,<- hz]
theorem OW.row {α:Type} {d t n e:Nat} {ps:List (Nat×Operand)} {ty:TypeId} {pos:String} {af:Array Edge} {gdd:Option (Nat×Bool)} (hst:St w0 S0 w L)
  (hl:vg l i=some ⟨some d,.buildSlice t n ps.toArray,ty,pos,af,gdd⟩) (hg:gd l fr ⟨some d,.buildSlice t n ps.toArray,ty,pos,af,gdd⟩=some true) (hN:Nat.blt d N=true)
  {enc:α->List Value} {sz:Nat} (xs:List α) (hn:xs.length=n) (he: ∀ x,(enc x).length=sz) (hm:Nat.ble n 9223372036854775807=true)
  (hsn:zcy fr (ps.map (·.2))=true)
  (hz: ∀ w,(Instr.buildSlice t n (ps.toArray.map fun (i,x)=>(i,rho fr x))).run P w= .ok (.slice (some ⟨w.heap.size,0,none⟩) n n) (w.alloc (.cells (vy enc xs).toArray e)))
  (h: ∀ g w',St w0 S0 w' (L++ [zZ (.slice (some ⟨g,0,none⟩) n n) e enc sz xs])->OW P l N Q (i+1) ((d,.slice (some ⟨g,0,none⟩) n n)::fr) w'):OW P l N Q i fr w:=by
 refine OW.op hl hg rfl hN (w':=w.alloc (.cells (vy enc xs).toArray e)) (fun a ha=> ?_) (h w.heap.size _ ?_)
 ·have hp:(ps.toArray.map fun (i,x)=>(i,a.eval x))=ps.toArray.map fun (i,x)=>(i,rho fr x):=zdm (fun x hx=>by
   obtain ⟨j,x⟩:=x
   simp only [Prod.mk.injEq,true_and]
   exact ha.look (zjj hsn x (by simpa using ⟨j,by simpa using hx⟩)))
  simp only [execOp,hp,Sem.run_bind,hz,Result.andThen_ok,Sem.run_pure]
 ·refine hst.push (Chg.alloc _ _) ?_ (fun b hb=>zh7 hb) zb2
  have:=zdn.fresh (w:=w.alloc (.cells (vy enc xs).toArray e)) (T:=e) (sz:=sz) (n:=n) (cap:=n) (heap_alloc_new w _) (Nat.le_refl _) (by have:=Nat.le_of_ble_eq_true hm;simp only [maxLen];omega) (by simp [jZ he,hn])
  have e1:(vy enc xs).toArray.toList.take (n*sz)=vy enc xs:=List.take_of_length_le (by simp [jZ he,hn])
  rw [e1] at this
  simpa [zZ,hn] using this
end
def Rd {α:Type} (w:World) (S:List Nat) (v:Value) (enc:α->List Value) (sz:Nat) (xs:List α):Prop:=
 xs.length<=9223372036854775807/\ ∃ a c,v= .slice a xs.length c/\xs.length<=c/\ ∀ t x f u,xs[t]? =some x->(enc x)[f]? =some u-> ∃ b o,a=some ⟨b,o,none⟩/\b ∉ S/\w.cell? ⟨b,o+t*sz+f,none⟩=some u
section
variable {w0 w:World} {S0:List Nat} {L:List zz} {α:Type} {v:Value} {enc:α->List Value} {sz:Nat} {xs:List α}
theorem zfh {w:World} {a:Addr} {v:Value} (h:w.cell? a=some v):a.block<w.heap.size:=World.block_lt_of_cell? w a h
theorem Rd.on (h:Rd w0 S0 v enc sz xs) (hst:St w0 S0 w L):Rd w S0 v enc sz xs:=by
 obtain ⟨hn,a,c,hv,hlc,hc⟩:=h
 refine ⟨hn,a,c,hv,hlc,fun t x f u hx hu=> ?_⟩
 obtain ⟨b,o,ha,hb,hcell⟩:=hc t x f u hx hu
 exact ⟨b,o,ha,hb,(World.cell?_of_block (hst.chg.block b (zfh hcell) hb)).trans hcell⟩
theorem Rd.give (h:Rd w0 S0 v enc sz xs) (hst:St w0 S0 w L) (idx:List Nat):Rd w (fp (sel L idx)) v enc sz xs:=by
 obtain ⟨hn,a,c,hv,hlc,hc⟩:=h
 refine ⟨hn,a,c,hv,hlc,fun t x f u hx hu=> ?_⟩
 obtain ⟨b,o,ha,hb,hcell⟩:=hc t x f u hx hu
 refine ⟨b,o,ha,fun hf=> ?_,(World.cell?_of_block (hst.chg.block b (zfh hcell) hb)).trans hcell⟩
 obtain ⟨j,it,hj,hbs⟩:=zai.1 hf
 obtain ⟨k,_,hk⟩:=zcW hj
 rcases vx hk with hk | rfl
 ·rcases hst.own k it hk b hbs with h1 | h1
  ·exact hb h1
  ·have:=zfh hcell;simp only at this;omega
 ·cases hbs
theorem Rd.form (h:Rd w S0 v enc sz xs) (hsz: ∀ x,∃ u,(enc x)[0]? =some u) {t:Int} {x:α} (hx:idx xs t=some x):
  ∃ b o c,v= .slice (some ⟨b,o,none⟩) xs.length c/\ ∀ f u,(enc x)[f]? =some u->w.cell? ⟨b,o+t.toNat*sz+f,none⟩=some u:=by
 obtain ⟨_,a,c,hv,_,hc⟩:=h
 obtain ⟨_,_,h2⟩:=qB hx
 obtain ⟨u0,hu0⟩:=hsz x
 obtain ⟨b,o,ha,_,_⟩:=hc _ x 0 u0 h2 hu0
 refine ⟨b,o,c,by rw [hv,ha],fun f u hu=> ?_⟩
 obtain ⟨b',o',ha',_,hcell⟩:=hc _ x f u h2 hu
 rw [ha] at ha'
 simp only [Option.some.injEq,Addr.mk.injEq,and_true] at ha'
 obtain ⟨rfl,rfl⟩:=ha'
 exact hcell
theorem Rd.formv (h:Rd w S0 v enc sz xs) (hsz: ∀ x,∃ u,(enc x)[0]? =some u) {t:Int} {x:α} (hx:idx xs t=some x): ∃ b o c,v= .slice (some ⟨b,o,none⟩) xs.length c:=by
 obtain ⟨b,o,c,hv,_⟩:=h.form hsz hx
 exact ⟨b,o,c,hv⟩
theorem Rd.cellv (h:Rd w S0 v enc sz xs) (hst:St w S0 w0 L) {t:Int} {x:α} (hx:idx xs t=some x) {b o n c:Nat} (hv:v= .slice (some ⟨b,o,none⟩) n c):
  ∀ f u,(enc x)[f]? =some u->w0.cell? ⟨b,o+t.toNat*sz+f,none⟩=some u:=by
 obtain ⟨_,a,c',hv',_,hc⟩:=h.on hst
 obtain ⟨_,_,h2⟩:=qB hx
 intro f u hu
 obtain ⟨b',o',ha',_,hcell⟩:=hc _ x f u h2 hu
 rw [hv,ha'] at hv'
 simp only [Value.slice.injEq,Option.some.injEq,Addr.mk.injEq,and_true] at hv'
 obtain ⟨⟨rfl,rfl⟩,_,_⟩:=hv'
 exact hcell
theorem Rd.nil (w:World) (S:List Nat) (enc:α->List Value) (sz c:Nat):Rd w S (.slice none 0 c) enc sz ([]:List α):=⟨by simp,none,c,rfl,Nat.zero_le _,fun t x f u hx=>by simp at hx⟩
theorem Rd.len (h:Rd w S0 v enc sz xs):xs.length<=9223372036854775807/\ ∃ a c,v= .slice a xs.length c:=⟨h.1,let ⟨a,c,hv,_⟩:=h.2;⟨a,c,hv⟩⟩
theorem zdM {w:World} {v:Value} {T:TypeId} {enc:α->List Value} {sz:Nat} {xs:List α} (he: ∀ x,(enc x).length=sz) (hr:zdn w T sz v xs.length (vy enc xs)) {F:List Nat} (hF: ∀ b∈(zbd v).toList,b ∉ F):
  Rd w F v enc sz xs:=by
 rcases hr.2 with ⟨h0,a,rfl⟩ | ⟨g,o,cap,cur,rfl,hp,hg,hnc,hm,hcs,htake⟩
 ·refine ⟨by omega,a,0,by rw [h0],by omega,fun t x f u hx=> ?_⟩
  have:=(zes.1 hx).1
  omega
 ·refine ⟨by simp only [maxLen] at hm;omega,_,_,rfl,hnc,fun t x f u hx hu=>⟨g,o,rfl,hF g (by simp [za2 hp]),?_⟩⟩
  have:=zfx he hx hu
  rw [<- htake,List.getElem?_take] at this
  split at this
  ·rw [cell_of_row w g _ cur T (0,0) hg,Nat.add_assoc]
   rw [List.getElem?_drop] at this
   simpa using this
  ·cases this
theorem St.noin (hst:St w0 S0 w L) {A:zz} (j:Nat) (hj:L[j]? =some A) (idx:List Nat) (hn:mem? j idx=false): ∀ b∈A.S,b ∉ fp (sel L idx):=by
 intro b hb hf
 obtain ⟨k,it,hk,hbs⟩:=zai.1 hf
 obtain ⟨k',hk',hk⟩:=zcW hk
 rcases vx hk with hk | rfl
 ·have hne:j ≠ k':=by
   rintro rfl
   have:=mem?_iff.2 (zmg hk')
   rw [this] at hn
   cases hn
  exact hst.apart j k' A it hne hj hk b hb hbs
 ·cases hbs
theorem St.rd (hst:St w0 S0 w L) (j:Nat) {T:TypeId} (hj:L[j]? =some (zZ v T enc sz xs)) (he: ∀ x,(enc x).length=sz) (idx:List Nat) (hn:mem? j idx=false) (_hlen:xs.length<=9223372036854775807):
 Rd w (fp (sel L idx)) v enc sz xs:=zdM he (hst.all j _ hj) (hst.noin j hj idx hn)
end
section
variable {P:Program} {N:Nat} {Q:Exit->Act->World->Prop} {fr fr':List (Nat×Value)} {w w0:World} {l:List Oper} {i:Nat} {o:Oper} {S0:List Nat} {L:List zz}
theorem zdN {P:Program} {w:World} {t ty e:TypeId} {n:Nat} (ht:P.underlying t=some (.slice e)) (hs:zbw P (sizeOf e)=some n) {sz m:Nat} {xs:List Value} {v:Value} (hown:zdn w e sz v m xs) (a:Option Addr) (c:Nat):
  (Builtin.append_ #[t,t] ty #[v,.slice a 0 c]).run P w= .ok v w:=by
 rcases hown.2 with ⟨_,b,rfl⟩ | ⟨g,o,cap,cur,rfl,_,_,hnc,_⟩
 ·cases a<;>cases b<;>simp [Builtin.append_,run_underlying ht,jB hs,Builtin.lenOf,Builtin.firstCells,loadCells,loadCellsFrom,storeCells]
 ·cases a<;>simp [Builtin.append_,run_underlying ht,jB hs,Builtin.lenOf,Builtin.firstCells,hnc,loadCells,loadCellsFrom,storeCells]
theorem zhj {P:Program} (w:World) (t ty e:TypeId) (i:TypeInfo) (ht:P.underlying t=some (.slice e)) (hi:P.info? e=some i)
  (g o sLen sCap:Nat) (cur:Array Value) (hg:w.heap[g]? =some (.cells cur e (0,0)))
  (a:Addr) (m c:Nat) (news:List Value) (hl:news.length=m*i.size) (hnews: ∀ j u,news[j]? =some u->w.cell? (a.add j)=some u) (h1: ∀ u∈news,u.oneCell'=true)
  (hroom:sLen+m<=sCap) (hfit:o+sLen*i.size+news.length<=cur.size):
  (Builtin.append_ #[t,t] ty #[.slice (some ⟨g,o,none⟩) sLen sCap,.slice (some a) m c]).run P w=
   .ok (.slice (some ⟨g,o,none⟩) (sLen+m) sCap) (w.setRow g (qk cur.toList news (o+sLen*i.size)).toArray):=by
 have hf:=run_firstCells_some (P:=P) w i.size m a m c news hl hnews
 have hst:=run_storeCells_at P g (o+sLen*i.size) e news 0 cur w hg (by simpa using hfit) h1
 simp only [Nat.add_zero] at hst
 simp [Builtin.append_,run_underlying ht,sizeOf,typeInfo,hi,Builtin.lenOf,hroom,hf,zcD,hst,qk]
theorem zla {P:Program} (w:World) (t ty e:TypeId) (i:TypeInfo) (z:Value) (size bytes:Nat) (ht:P.underlying t=some (.slice e)) (hi:P.info? e=some i) (hz:i.zero=some z)
  (hsize:i.size=size) (hby:i.bytes=bytes) (hzs:z.cells.size=size) (v:Value) (n:Nat) (xs:List Value) (hown:zdn w e size v n xs)
  (a:Addr) (m c:Nat) (hm0:0<m) (news:List Value) (hl:news.length=m*size) (hnews: ∀ j u,news[j]? =some u->w.cell? (a.add j)=some u) (h1: ∀ u∈news,u.oneCell'=true)
  (h63:n+m<=maxLen) (hbytes:(n+m)*bytes<=140737488355328):
  ∃ v' w',(Builtin.append_ #[t,t] ty #[v,.slice (some a) m c]).run P w= .ok v' w'/\zdn w' e size v' (n+m) (xs++news)/\w.grownBy w' (zbd v)/\(zbd v'=zbd v\/zbd v'=some w.heap.size):=by
 subst hsize
 subst hby
 have hsmall:n+m<=9223372036854775807:=by simp only [maxLen] at h63;omega
 have hlen:(xs++news).length=(n+m)*i.size:=by rw [List.length_append,hown.1,hl,Nat.add_mul]
 have grown: ∀ (old:Nat),old<n+m-> ∀ (row:Option Nat),
   zdn (w.drew.alloc (.cells (xs.toArray++news.toArray++Builtin.zeroCells z.cells (grownCap w (n+m) old e-(n+m))) e)) e i.size
    (.slice (some ⟨w.heap.size,0,none⟩) (n+m) (grownCap w (n+m) old e)) (n+m) (xs++news)/\
   w.grownBy (w.drew.alloc (.cells (xs.toArray++news.toArray++Builtin.zeroCells z.cells (grownCap w (n+m) old e-(n+m))) e)) row/\zbd (.slice (some ⟨w.heap.size,0,none⟩) (n+m) (grownCap w (n+m) old e))=some w.heap.size:=by
  intro old ho row
  have hge:=grownCap_ge w (n+m) old e
  have hcm:grownCap w (n+m) old e<=maxLen:=grownCap_le_maxLen w (n+m) old e h63
  refine ⟨⟨hlen,.inr ⟨w.heap.size,0,_,_,rfl,by omega,heap_alloc_new w.drew _,hge,hcm,?_,?_⟩⟩,⟨rfl,rfl,rfl,by simp,fun k hk _=>heap_alloc_old w.drew _ hk⟩,za2 (by omega)⟩
  ·simp only [Array.size_append,List.size_toArray,size_zeroCells,hzs,hown.1,hl,<- Nat.add_mul,Nat.zero_add]
   exact Nat.le_of_eq (by congr 1;omega)
  ·simp only [Array.toList_append,List.append_assoc,List.drop_zero]
   rw [<- List.append_assoc,<- hlen]
   exact List.take_left
 rcases hown.2 with ⟨rfl,b,rfl⟩ | ⟨g,o,cap,cur,rfl,hp,hg,hnc,hcm,hcs,htake⟩
 ·have hx:xs= []:=List.eq_nil_of_length_eq_zero (by simpa using hown.1)
  subst hx
  cases b with
  | none=>
   have hr:=run_append_nil (P:=P) w t ty e i z ht hi hz a m c news hl hnews hm0 (by omega) (by have hb:=hbytes;simp only [Nat.zero_add] at hb;omega)
   have hgr:=grown 0 (by omega) (zbd (.slice none 0 0))
   simp only [Nat.zero_add,List.nil_append,Array.empty_append] at hgr |-
   exact ⟨_,_,hr,hgr.1,hgr.2.1,.inr hgr.2.2⟩
  | some b=>
   have hr:=run_append_grow (P:=P) w t ty e i z ht hi hz b 0 0 [] (by simp) (fun j v hj=>by simp at hj) a m c news hl hnews (by omega) (by omega) (growslice_fits (by omega) hbytes)
   have hgr:=grown 0 (by omega) (zbd (.slice (some b) 0 0))
   exact ⟨_,_,hr,hgr.1,hgr.2.1,.inr hgr.2.2⟩
 ·by_cases hroom:n+m<=cap
  ·have hle:(n+m)*i.size<=cap*i.size:=Nat.mul_le_mul_right _ hroom
   have hmul:(n+m)*i.size=n*i.size+m*i.size:=Nat.add_mul ..
   have hfit:o+n*i.size+news.length<=cur.size:=by rw [hl];omega
   have hr:=zhj (P:=P) w t ty e i ht hi g o n cap cur hg a m c news hl hnews h1 hroom hfit
   refine ⟨_,_,hr,⟨hlen,.inr ⟨g,o,cap,_,rfl,hp,setRow_heap w g cur _ e _ hg,hroom,hcm,?_,?_⟩⟩,⟨rfl,rfl,rfl,by simp [World.setRow],fun k _ hk=>setRow_other w g k _ (fun e=>hk (by simp [za2 hp,e]))⟩,.inl (by rw [za2 hp,za2 hp])⟩
   ·simp only [qk,List.size_toArray,List.length_append,List.length_take,List.length_drop,Array.length_toList]
    omega
   ·show ((qk cur.toList news (o+n*i.size)).drop o).take ((n+m)*i.size)=_
    rw [zdd (by omega) (by omega) (by have:= @Array.length_toList _ cur;omega),show o+n*i.size-o=n*i.size by omega,<- htake]
    unfold qk
    rw [List.take_take,show min (n*i.size) ((n+m)*i.size)=n*i.size by omega,List.drop_of_length_le (l:=(cur.toList.drop o).take ((n+m)*i.size)) (by rw [List.length_take];omega),List.append_nil]
  ·have holds: ∀ j u,xs[j]? =some u->w.cell? ((⟨g,o,none⟩:Addr).add j)=some u:=by
    intro j u hu
    rw [zcD,cell_of_row w g _ cur e (0,0) hg]
    rw [<- htake,List.getElem?_take] at hu
    split at hu
    ·rw [List.getElem?_drop] at hu
     simpa using hu
    ·cases hu
   have hr:=run_append_grow (P:=P) w t ty e i z ht hi hz ⟨g,o,none⟩ n cap xs hown.1 holds a m c news hl hnews (by omega) (by omega) (growslice_fits (by omega) hbytes)
   have hgr:=grown cap (by omega) (zbd (.slice (some ⟨g,o,none⟩) n cap))
   exact ⟨_,_,hr,hgr.1,hgr.2.1,.inr hgr.2.2⟩
structure zmN (P:Program) (e sz bytes:Nat):Prop where
 size:zbw P (sizeOf e)=some sz
 info: ∃ i z,P.info? e=some i/\i.zero=some z/\i.size=sz/\i.bytes=bytes/\z.cells.size=sz
 pos:0<sz
 bpos:0<bytes
theorem OW.app {α:Type} {d t e:Nat} {x y:Operand} {ty:TypeId} {pos:String} {af:Array Edge} {gdd:Option (Nat×Bool)} {ats:List Nat} (hst:St w0 S0 w L)
  (j:Nat) {v:Value} {enc:α->List Value} {sz bytes:Nat} {xs:List α} (hj:L[j]? =some (zZ v e enc sz xs)) (he: ∀ x,(enc x).length=sz) (ho: ∀ x,zec (enc x)=true)
  (hl:vg l i=some ⟨some d,.call ⟨.builtin .append,[x,y].toArray,ats.toArray⟩,ty,pos,af,gdd⟩) (ha:ats= [t,t]) (hg:gd l fr ⟨some d,.call ⟨.builtin .append,[x,y].toArray,ats.toArray⟩,ty,pos,af,gdd⟩=some true)
  (hN:Nat.blt d N=true) (hx:look fr x=some v) {v2:Value} (hy:look fr y=some v2) (ht:P.underlying t=some (.slice e)) (hel:zmN P e sz bytes)
  {ys:List α} {S:List Nat} (hr:Rd w S v2 enc sz ys) (hb:(xs.length+ys.length)*bytes<=140737488355328)
  (h: ∀ v' w',St w0 S0 w' (L.set j (zZ v' e enc sz (xs++ys)))->OW P l N Q (i+1) ((d,v')::fr) w'):OW P l N Q i fr w:=by
 subst ha
 have hrow:=hst.all j _ hj
 obtain ⟨hn,a2,c2,rfl,_,hc⟩:=hr
 obtain ⟨inf,z,hi,hz,hsz,hby,hzs⟩:=hel.info
 have hlim:=(hst.len j hj).1
 have exec: ∀ {v':Value} {w':World},(Builtin.append_ #[t,t] ty #[v,.slice a2 ys.length c2]).run P w= .ok v' w'-> ∀ a,Rep N fr a->
   (execOp a.eval ⟨some d,.call ⟨.builtin .append,[x,y].toArray,[t,t].toArray⟩,ty,pos,af,gdd⟩).run P w= .ok (.value v') w':=by
  intro v' w' hr a ha
  have e1:=ha.look hx
  have e2:=ha.look hy
  simp [execOp,resolve,invoke,builtin,e1,e2,hr]
 rcases Nat.eq_zero_or_pos ys.length with h0 | h0
 ·have hys:ys= []:=List.eq_nil_of_length_eq_zero h0
  subst hys
  refine OW.op hl hg rfl hN (exec (zdN ht hel.size hrow a2 c2)) (h v w ?_)
  have hlt:j<L.length:=(zes.1 hj).1
  have:L.set j (zZ v e enc sz (xs++ []))=L:=by
   rw [List.append_nil]
   apply List.ext_getElem?
   intro k
   rw [List.getElem?_set]
   split
   ·rename_i hk;subst hk;simp [hlt];have:=(zes.1 hj).2;exact this.symm
   ·rfl
  rw [this]
  exact hst
 ·obtain ⟨y0,hy0⟩: ∃ y0,ys[0]? =some y0:=⟨ys[0],zeg h0⟩
  obtain ⟨u0,hu0⟩: ∃ u0,(enc y0)[0]? =some u0:=⟨(enc y0)[0]'(by rw [he];exact hel.pos),zeg (by rw [he];exact hel.pos)⟩
  obtain ⟨b,k,rfl,_,_⟩:=hc 0 y0 0 u0 hy0 hu0
  have hcell: ∀ q u,(vy enc ys)[q]? =some u->w.cell? ((⟨b,k,none⟩:Addr).add q)=some u:=by
   intro q u hu
   rw [zcD]
   obtain ⟨t,f,x,hx,hf,hq⟩:=zew he hel.pos hu
   obtain ⟨b',k',hb',_,hcell⟩:=hc t x f u hx hf
   simp only [Option.some.injEq,Addr.mk.injEq,and_true] at hb'
   obtain ⟨rfl,rfl⟩:=hb'
   rw [hq,<- Nat.add_assoc]
   exact hcell
  have hone: ∀ u∈vy enc ys,u.oneCell'=true:=by
   intro u hu
   obtain ⟨x,hx⟩:=zpo hu
   exact zdc (ho x) u hx
  obtain ⟨v',w',hrun,hown,hgr,hat⟩:=zla (P:=P) w t ty e inf z sz bytes ht hi hz hsz hby hzs v xs.length (vy enc xs) hrow ⟨b,k,none⟩ ys.length c2 h0 (vy enc ys) (jZ he _) hcell hone
   (by have:=Nat.le_mul_of_pos_right (xs.length+ys.length) hel.bpos;simp only [maxLen];omega) hb
  refine OW.op hl hg rfl hN (exec hrun) (h v' w' ?_)
  refine hst.upd j hj (Chg.grown hgr (fun b hb=>by simp [zZ,hb])) ?_ (fun b hb=> ?_) zb2
  ·show zdn w' e sz v' _ _
   rw [zf3,List.length_append]
   exact hown
  ·have hb':zbd v'=some b:=by simpa [zZ] using hb
   rcases hat with hat | hat
   ·exact .inl (by simp [zZ,<- hat,hb'])
   ·rw [hat] at hb';exact .inr (by simp only [Option.some.injEq] at hb';omega)
end
def OS (P:Program) (l:List Oper) (N:Nat) (w:World) (R:Act->Prop) (c i:Nat) (fr:List (Nat×Value)):Prop:=
 ∀ a,Rep N fr a->wpStill P l.toArray w R ((l.take c).drop i) a
theorem zhw {l:List Oper} {i:Nat} {o:Oper} (h:vg l i=some o):l[i]? =some o:=by
 rw [<- zbm] at h
 simpa using h
theorem zlO {l:List Oper} {c i:Nat} {o:Oper} (hl:vg l i=some o) (hc:Nat.blt i c=true):(l.take c).drop i=o::(l.take c).drop (i+1):=by
 have hic:i<c:=by simpa [Nat.blt_eq] using hc
 have hg:=zhw hl
 have hlt:=(zes.1 hg).1
 have h1:i<(l.take c).length:=by rw [List.length_take];omega
 rw [List.drop_eq_getElem_cons h1]
 congr 1
 rw [List.getElem_take]
 exact (zes.1 hg).2
section
variable {P:Program} {N:Nat} {Q:Exit->Act->World->Prop} {R:Act->Prop} {fr fr':List (Nat×Value)} {w w0:World} {l:List Oper} {i c:Nat} {o:Oper} {S0:List Nat} {L:List zz}
theorem CW.still {id:Nat} {l:List Oper} (hm:P.follows .mixedOrders=true) (hB:Region.lexB .any l.toArray=true)
  (h: ∀ w1,Chg [] w w1->OS P l N w1 (fun a'=>Q .normal a' w1) l.length 0 fr):CW P N (.region id l.toArray true) Q fr w:=fun a ha=>by
 refine wp_region_still_lit hm hB ?_
 have:=h {w with drawn:=w.drawn+1} ⟨rfl,rfl,rfl,Nat.le_refl _,fun _ _ _=>rfl⟩ a ha
 simpa [OS] using this
theorem CW.tail {id:Nat} {l:List Oper} (c:Nat) (hm:P.follows .mixedOrders=true) (hB:Region.lexTailB .any l.toArray c=true)
  (h: ∀ w1,Chg [] w w1->OS P l N w1 (fun a'=>wpList P l.toArray Q (l.drop c) a' w1) c 0 fr):CW P N (.region id l.toArray true) Q fr w:=fun a ha=>by
 refine wp_region_still_tail c hm hB ?_
 have:=h {w with drawn:=w.drawn+1} ⟨rfl,rfl,rfl,Nat.le_refl _,fun _ _ _=>rfl⟩ a ha
 simpa [OS] using this
theorem OS.done (hc:Nat.ble c i=true) (h: ∀ a,Rep N fr a->R a):OS P l N w R c i fr:=fun a ha=>by
 have hci:=Nat.le_of_ble_eq_true hc
 have:(l.take c).drop i= []:=List.drop_of_length_le (by rw [List.length_take];omega)
 rw [this]
 exact wpStill_nil (h a ha)
theorem OS.on (h:OW P l N Q c fr w):OS P l N w (fun a'=>wpList P l.toArray Q (l.drop c) a' w) c c fr:=OS.done (Nat.ble_self_eq_true _) h
theorem OS.fin (hc:Nat.ble c i=true) (h:QW N Q .normal fr w):OS P l N w (fun a'=>Q .normal a' w) c i fr:=OS.done hc h
theorem zlP: ∀ (n i:Nat) (fr:List (Nat×Value)) {fr2:List (Nat×Value)},zfd P l N n i fr=some fr2->i+n<=c->OS P l N w R c (i+n) fr2->OS P l N w R c i fr:=by
 intro n
 induction n with
 | zero=>intro i fr fr2 h _ k;simp only [zfd,Option.some.injEq] at h;subst h;exact k
 | succ n ih=>
  intro i fr fr2 h hle k
  unfold zfd at h
  split at h
  ·cases h
  ·rename_i o ho
   split at h
   ·cases h
   ·rename_i d hd
    split at h
    ·cases h
    ·rename_i hN
     have hstep:=zlO (c:=c) ho (by simp [Nat.blt_eq];omega)
     split at h
     ·rename_i hg
      split at h
      ·rename_i v hv
       have:=ih (i+1) _ h (by omega) (by rwa [Nat.add_assoc,Nat.add_comm 1 n])
       intro a ha
       rw [hstep]
       refine wpStill_step (fun K hK=> ?_)
       rw [xU hg ha,if_pos rfl]
       unfold Oper.still
       rw [zh5 hv ha w,Oper.stillUpon_value,hd]
       exact hK _ (this _ (ha.put hN))
      ·cases h
     ·rename_i hg
      have:=ih (i+1) _ h (by omega) (by rwa [Nat.add_assoc,Nat.add_comm 1 n])
      intro a ha
      rw [hstep]
      refine wpStill_step (fun K hK=> ?_)
      rw [xU hg ha,hd]
      exact hK _ (this _ (ha.put hN))
     ·cases h
theorem OS.pure (n:Nat) (new:List (Nat×Value)) (hc:Nat.ble (i+n) c=true)
  (h:(zfd P l N n i fr).map (fun fr2=>zgW fr2 (za1 [] (new++fr)))=some (zev (za1 [] (new++fr))))
  (k:OS P l N w R c (i+n) (new++fr)):OS P l N w R c i fr:=by
 cases hc':zfd P l N n i fr with
 | none=>rw [hc'] at h;cases h
 | some fr2=>
  rw [hc'] at h
  simp only [Option.map_some,Option.some.injEq] at h
  exact zlP n i fr hc' (Nat.le_of_ble_eq_true hc) (fun a ha=>k a (ha.agrees h))
theorem OS.split (s:Nat) {b:Bool} (hs:zeu fr s=some (.bool b)) (ht:b=true->OS P l N w R c i ((s,.bool true)::fr)) (hf:b=false->OS P l N w R c i ((s,.bool false)::fr)):OS P l N w R c i fr:=by
 cases b with
 | true => exact fun a ha => ht rfl a ⟨ha.size, ha.defers, fun j v hj => by
   rw [zaO] at hj
   by_cases e:s=j
   ·subst e;rw [if_pos rfl] at hj;exact ha.get _ _ (hs.trans hj)
   ·rw [if_neg e] at hj;exact ha.get _ _ hj⟩
 | false => exact fun a ha => hf rfl a ⟨ha.size, ha.defers, fun j v hj => by
   rw [zaO] at hj
   by_cases e:s=j
   ·subst e;rw [if_pos rfl] at hj;exact ha.get _ _ (hs.trans hj)
   ·rw [if_neg e] at hj;exact ha.get _ _ hj⟩
theorem OS.op {d:Nat} {v:Value} (hl:vg l i=some o) (hc:Nat.blt i c=true) (hg:gd l fr o=some true) (hd:o.dst=some d) (hN:Nat.blt d N=true)
  (hr: ∀ a,Rep N fr a->(execOp a.eval o).run P w= .ok (.value v) w)
  (h:OS P l N w R c (i+1) ((d,v)::fr)):OS P l N w R c i fr:=fun a ha=>by
 rw [zlO hl hc]
 refine wpStill_step (fun K hK=> ?_)
 rw [xU hg ha,if_pos rfl]
 unfold Oper.still
 rw [hr a ha,Oper.stillUpon_value,hd]
 exact hK _ (h _ (ha.put hN))
theorem OS.ld {d:Nat} {t:TypeId} {x:Operand} {ty:TypeId} {pos:String} {af:Array Edge} {gdd:Option (Nat×Bool)} (hl:vg l i=some ⟨some d,.load t x,ty,pos,af,gdd⟩) (hc:Nat.blt i c=true)
  (hg:gd l fr ⟨some d,.load t x,ty,pos,af,gdd⟩=some true) (hN:Nat.blt d N=true)
  {a:Addr} {v:Value} (hx:look fr x=some (.pointer (some a))) (hA:zbw P (isAgg t)=some false) (hv:w.cell? a=some v)
  (h:OS P l N w R c (i+1) ((d,v)::fr)):OS P l N w R c i fr:=by
 refine OS.op hl hc hg rfl hN (fun a ha=> ?_) h
 have e1:=ha.look hx
 simp [execOp,e1,zff hA hv]
def zn8 (P:Program) (fr:List (Nat×Value)) (o:Oper):Option (FuncId×List Value):=
 match vS o.op,zcy fr o.op.operands.toList with
 | true,true=>match zbw P (execOp (rho fr) o) with
  | some (.enter f args)=>some (f,args.toList)
  | _=>none
 | _,_=>none
theorem zn9 {f:FuncId} {args:List Value} (h:zn8 P fr o=some (f,args)) {a:Act} (ha:Rep N fr a) (w:World):(execOp a.eval o).run P w= .ok (.enter f args.toArray) w:=by
 unfold zn8 at h
 split at h
 ·rename_i h1 h2
  have hm:=zjj h2
  have hc:execOp a.eval o=execOp (rho fr) o:=zd5 h1 (fun x hx=>ha.look (hm x hx))
  rw [hc]
  split at h
  ·rename_i g as hu
   simp only [Option.some.injEq,Prod.mk.injEq] at h
   obtain ⟨rfl,rfl⟩:=h
   simpa using jB hu w
  ·cases h
 ·cases h
theorem OW.fn {d:Nat} {f:FuncId} {args:List Value} {Rr:Ending->World->Prop} (hl:vg l i=some o) (hg:gd l fr o=some true) (hd:o.dst=some d) (hN:Nat.blt d N=true)
  (hp:zn8 P fr o=some (f,args)) (hc:Calls P f args.toArray w Rr)
  (h: ∀ e w',Rr e w'-> ∃ v,e= .returned v/\OW P l N Q (i+1) ((d,v)::fr) w'):OW P l N Q i fr w:=
 OW.call hl hg hd hN (fun _ ha=>zn9 hp ha w) hc h
end
theorem zq {α β:Type} {o:Option α} {f:α->Option β} {r:β} (h:o.bind f=some r): ∃ x,o=some x/\f x=some r:=by
 cases o with
 | none=>cases h
 | some x=>exact ⟨x,rfl,h⟩
theorem zed {α:Type} {c:Bool} {A B r:α} (h:(if c then A else B)=r) (hc:c=true):A=r:=by rw [if_pos hc] at h;exact h
theorem zee {α:Type} {c:Bool} {A B r:α} (h:(if c then A else B)=r) (hc:c=false):B=r:=by rw [if_neg (by simp [hc])] at h;exact h
def loop {σ R:Type} (body:(σ->Option R)->σ->Option R):Nat->σ->Option R
 | 0,_=>none
 | n+1,s=>body (loop body n) s
def qf {σ ρ:Type} (body:Nat->(σ->Option ρ)->σ->Option ρ) (out:σ->ρ):Nat->Nat->σ->Option ρ
 | 0,_,s=>some (out s)
 | n+1,i,s=>body i (qf body out n (i+1)) s
def zdV {α ρ:Type} (o:Option α) (A:ρ) (B:α->ρ):ρ:=match o with
 | none=>A
 | some k=>B k
def room (m bytes:Nat):Option Unit:=if m*bytes<=140737488355328 then some () else none
theorem zf4 {m bytes:Nat} {u:Unit} (h:room m bytes=some u):m*bytes<=140737488355328:=by
 unfold room at h
 split at h
 ·assumption
 ·cases h
def mkLen (n:Int) (bytes:Nat):Option Nat:=if 0<=n/\n.toNat*bytes<=140737488355328 then some n.toNat else none
def w64 (x:Int):Int:=IntKind.i64.wrap x
def jy (x:Int):Int:=IntKind.u64.wrap x
theorem qN {x:Int} (h0: -9223372036854775808<=x) (h1:x<=9223372036854775807):w64 x=x:=by
 unfold w64
 rw [IntKind.wrap_i64]
 omega
theorem zlQ {i n:Nat} (h:i<n) (hn:n<=9223372036854775807):w64 ((i:Int)+1)=((i+1:Nat):Int):=by
 rw [qN (by omega) (by omega)]
 omega
def zn (k:IntKind) (x:Int):List Value:= [.int k x]
def zef (x:Bool):List Value:= [.bool x]
def zq0 (x:ByteArray):List Value:= [.string x]
theorem zmN.of {P:Program} {e sz bytes:Nat} {i:TypeInfo} (h1:zbw P (sizeOf e)=some sz) (h2:P.info? e=some i) (h3:i.zero.map (·.cells.size)=some sz) (h4:i.size=sz) (h5:i.bytes=bytes) (h7:0<sz) (h8:0<bytes):zmN P e sz bytes:=by
 cases hz:i.zero with
 | none=>rw [hz] at h3;cases h3
 | some z=>exact ⟨h1,⟨i,z,h2,hz,h4,h5,by rw [hz] at h3;simpa using h3⟩,h7,h8⟩
def zha:Nat->List Value->List (Nat×Value)
 | _,[]=> []
 | i,v::r=>(i,v)::zha (i+1) r
theorem zmD {l:List Value}: ∀ {i j:Nat} {v:Value},zeu (zha i l) j=some v->i<=j/\l[j-i]? =some v:=by
 induction l with
 | nil=>intro i j v h;cases h
 | cons x r ih=>
  intro i j v h
  simp only [zha] at h
  rw [zaO] at h
  split at h
  ·rename_i e
   subst e
   exact ⟨Nat.le_refl _,by simpa using h⟩
  ·rename_i e
   obtain ⟨h1,h2⟩:=ih h
   refine ⟨by omega,?_⟩
   rw [show j-i=(j-(i+1))+1 by omega]
   simpa using h2
section
variable {P:Program} {N:Nat} {Q:Exit->Act->World->Prop} {fr fr':List (Nat×Value)} {w w0:World} {l:List Oper} {i:Nat} {o:Oper} {S0:List Nat} {L:List zz}
theorem CW.start {f:FuncId} {fn:Func} {c:Code} {args:List Value} {R:Ending->World->Prop} (hf:P.funcs[f]? =some fn) (hb:fn.body=some c) (hN:fn.ntmps=N)
  (hs:Nat.ble args.length N=true) (h:CW P N c (bodyPost P fn R) (zha 0 args) w):Calls P f args.toArray w R:=
 CW.enter hf hb hN (by simpa using hs) (fun j v hj=>by have:=(zmD hj).2;simpa using this) h
theorem CW.go {c:Code} {a:Act} (h:CW P N c Q fr w) (ha:Rep N fr a):c.wp P Q a w:=h a ha
theorem CW.cutK {c:Code} {K:Act->World->Prop} (J:Act->World->Prop) (h1:CW P N c (Exit.then J Q) fr w) (h2: ∀ a w,J a w->K a w):CW P N c (Exit.then K Q) fr w:=fun a ha=>
 wp_mono (h1 a ha) (fun e _ _ hq=>by cases e<;>first | exact h2 _ _ hq | exact hq)
theorem OW.make {α:Type} {d t e:Nat} {x y:Operand} {ty:TypeId} {pos:String} {af:Array Edge} {gdd:Option (Nat×Bool)} (hst:St w0 S0 w L)
  (hl:vg l i=some ⟨some d,.makeSlice t x y,ty,pos,af,gdd⟩) (hg:gd l fr ⟨some d,.makeSlice t x y,ty,pos,af,gdd⟩=some true) (hN:Nat.blt d N=true)
  {kl kc:IntKind} {n:Int} (hx:look fr x=some (.int kl n)) (hy:look fr y=some (.int kc n)) (ht:P.underlying t=some (.slice e)) {enc:α->List Value} {sz bytes:Nat} (hel:zmN P e sz bytes) (z:α)
  (hz:(zbw P (zeroValue e)).map (·.cells.toList)=some (enc z)) (he: ∀ x,(enc x).length=sz) {m:Nat} (hm:mkLen n bytes=some m)
  (h: ∀ g w',St w0 S0 w' (L++ [zZ (.slice (some ⟨g,0,none⟩) m m) e enc sz (List.replicate m z)])->OW P l N Q (i+1) ((d,.slice (some ⟨g,0,none⟩) m m)::fr) w'):OW P l N Q i fr w:=by
 obtain ⟨inf,zv,hi,hzv,hsz,hby,hzs⟩:=hel.info
 unfold mkLen at hm
 split at hm
 ·rename_i hcond
  obtain ⟨h0,hb⟩:=hcond
  simp only [Option.some.injEq] at hm
  obtain ⟨k,rfl⟩:=zof h0
  have hmk:m=k:=by simpa using hm.symm
  subst hmk
  simp only [Int.toNat_natCast] at hb
  have hle:m<=m*bytes:=Nat.le_mul_of_pos_right _ hel.bpos
  have hbz:(bytes:Int)*(m:Int)<=281474976710656:=by
   have h1:((bytes*m:Nat):Int)<=281474976710656:=by rw [Nat.mul_comm];omega
   rwa [Int.natCast_mul] at h1
  have hrun:=run_make (P:=P) w t e inf zv ht hi hzv kl kc m m (by omega) (Int.le_refl _) (by rw [hby];exact hbz) (by omega)
  simp only [Int.toNat_natCast,hsz] at hrun
  refine OW.op hl hg rfl hN (w':=w.alloc (.cells (madeCells zv.cells (m*sz)) e)) (fun a ha=> ?_) (h w.heap.size _ ?_)
  ·have e1:=ha.look hx
   have e2:=ha.look hy
   simp [execOp,e1,e2,hrun]
  ·refine hst.push (Chg.alloc _ _) ?_ (fun b hb=>zh7 hb) zb2
   have hzz:zv.cells.toList=enc z:=by
    cases hq:zbw P (zeroValue e) with
    | none=>rw [hq] at hz;cases hz
    | some z'=>
     have h1:=jB hq w
     have h2:(zeroValue e).run P w= .ok zv w:=by simp [zeroValue,typeInfo,hi,hzv]
     rw [h2] at h1
     cases h1
     rw [hq] at hz
     simpa using hz
   have hcells:(madeCells zv.cells (m*sz)).toList=vy enc (List.replicate m z):=by
    have hlen:zv.cells.toList.length=sz:=by rw [hzz,he]
    clear hrun h hst hl hg hb hz
    apply List.ext_getElem?
    intro q
    rcases Nat.lt_or_ge q (m*sz) with hq | hq
    ·have hpos:=hel.pos
     have hdm:q=q / sz*sz+q % sz:=by rw [Nat.mul_comm];exact (Nat.div_add_mod q sz).symm
     have hmod:q % sz<sz:=Nat.mod_lt _ hpos
     have hdiv:q / sz<m:=Nat.div_lt_of_lt_mul (by rw [Nat.mul_comm];exact hq)
     have hg:(List.replicate m z)[q / sz]? =some z:=by simp [hdiv]
     have hu:(enc z)[q % sz]? =some ((enc z)[q % sz]'(by rw [he];exact hmod)):=zeg _
     have hfl:=zfx he hg hu
     rw [<- hdm] at hfl
     rw [hfl]
     have hszz:zv.cells.size=sz:=hzs
     simp only [madeCells,Array.toList_map,Array.toList_range,List.getElem?_map,List.getElem?_range hq,Option.map_some,Option.some.injEq,hszz]
     rw [getElem!_pos zv.cells (q % sz) (by omega)]
     have:zv.cells[q % sz]'(by omega)=zv.cells.toList[q % sz]'(by simp;omega):=by simp
     rw [this]
     simp only [hzz]
    ·rw [List.getElem?_eq_none (by simp [madeCells];exact hq),List.getElem?_eq_none (by rw [jZ he];simpa using hq)]
   have:=zdn.fresh (w:=w.alloc (.cells (madeCells zv.cells (m*sz)) e)) (T:=e) (sz:=sz) (n:=m) (cap:=m) (heap_alloc_new w _) (Nat.le_refl _) (by simp only [maxLen];omega) (size_madeCells _ _)
   rw [hcells,List.take_of_length_le (by rw [jZ he];simp)] at this
   simpa [zZ] using this
 ·cases hm
end
end Go.Sx
namespace Go.Sx
theorem zke {σ R:Type} {b:(σ->Option R)->σ->Option R} {s:σ} {o:R} (h:loop b 0 s=some o):False:=by cases h
theorem zr8 {i N:Nat} (hi:i+0=N) (hc:decide ((i:Int)<(N:Int))=true):False:=by simp at hc;omega
theorem zr9 {i n N:Nat} (hi:i+(n+1)=N) (hc:decide ((i:Int)<(N:Int))=false):False:=by simp at hc;omega
theorem zeJ {i n N:Nat} (hi:i+(n+1)=N):i+1+n=N:=by omega
theorem zf5 {i N:Nat} (hc:decide ((i:Int)<(N:Int))=true) (hN:N<=9223372036854775807):w64 ((i:Int)+1)=((i+1:Nat):Int):=by
 simp at hc
 exact zlQ hc hN
theorem ziM {α ρ:Type} {o:Option α} {A:ρ} {B:α->ρ} {r:ρ} (h:zdV o A B=r) (e:o=none):A=r:=by subst e;exact h
theorem ziN {α ρ:Type} {o:Option α} {A:ρ} {B:α->ρ} {r:ρ} {k:α} (h:zdV o A B=r) (e:o=some k):B k=r:=by subst e;exact h
section
variable {N:Nat} {Q:Exit->Act->World->Prop} {e:Exit} {fr:List (Nat×Value)} {w w0:World} {S0:List Nat} {L:List zz}
theorem QW.say (s:Nat) {u v:Value} (hs:zeu fr s=some u) (h1:u=v) (h:QW N Q e ((s,v)::fr) w):QW N Q e fr w:=fun a ha=>h a ⟨ha.size,ha.defers,fun j x hj=>by
 rw [zaO] at hj
 by_cases hje:s=j
 ·subst hje;rw [if_pos rfl] at hj;exact ha.get _ _ (by rw [hs,h1];exact hj)
 ·rw [if_neg hje] at hj;exact ha.get _ _ hj⟩
theorem St.nilRow (h:St w0 S0 w L) (α:Type) (T:TypeId) (enc:α->List Value) (sz:Nat):St w0 S0 w (L++ [zZ (.slice none 0 0) T enc sz ([]:List α)]):=
 h.push (Chg.refl _ _) (zdn.nil w T sz none) (fun b hb=>by simp [zZ,zbd] at hb) zb2
end
section
variable {P:Program} {N:Nat} {Q:Exit->Act->World->Prop} {R:Act->Prop} {fr:List (Nat×Value)} {w:World} {l:List Oper} {i c:Nat}
def nz (b:Int):Option Unit:=if b=0 then none else some ()
theorem zrT {b:Int} {u:Unit} (h:nz b=some u):b ≠ 0:=by
 unfold nz at h
 split at h
 ·cases h
 ·assumption
end
def RdN {α:Type} (w:World) (S:List Nat) (v:Value) (D:World->List Nat->α->List Value->Prop) (sz:Nat) (xs:List α):Prop:=
 xs.length<=9223372036854775807/\ ∃ a c,v= .slice a xs.length c/\xs.length<=c/\ ∀ t x,xs[t]? =some x-> ∃ cs,D w S x cs/\ ∃ b o,a=some ⟨b,o,none⟩/\b ∉ S/\ ∀ f u,cs[f]? =some u->w.cell? ⟨b,o+t*sz+f,none⟩=some u
theorem RdN.len {α:Type} {w:World} {S:List Nat} {v:Value} {D:World->List Nat->α->List Value->Prop} {sz:Nat} {xs:List α} (h:RdN w S v D sz xs):
 xs.length<=9223372036854775807/\ ∃ a c,v= .slice a xs.length c:=⟨h.1,let ⟨a,c,hv,_⟩:=h.2;⟨a,c,hv⟩⟩
theorem RdN.formv {α:Type} {w:World} {S:List Nat} {v:Value} {D:World->List Nat->α->List Value->Prop} {sz:Nat} {xs:List α} (h:RdN w S v D sz xs) {t:Int} {x:α} (hx:idx xs t=some x):
  ∃ b o c cs,v= .slice (some ⟨b,o,none⟩) xs.length c/\D w S x cs/\ ∀ f u,cs[f]? =some u-> ∀ w' L',St w S w' L'->w'.cell? ⟨b,o+t.toNat*sz+f,none⟩=some u:=by
 obtain ⟨_,a,c,hv,_,hc⟩:=h
 obtain ⟨_,_,h2⟩:=qB hx
 obtain ⟨cs,hD,b,o,ha,hb,hcell⟩:=hc _ x h2
 refine ⟨b,o,c,cs,by rw [hv,ha],hD,fun f u hu w' L' hst=> ?_⟩
 have:=hcell f u hu
 exact (World.cell?_of_block (hst.chg.block b (zfh this) hb)).trans this
theorem CW.cutQ {P:Program} {N:Nat} {Q:Exit->Act->World->Prop} {fr:List (Nat×Value)} {w:World} {c:Code} (J:Act->World->Prop) (h1:CW P N c (Exit.then J Q) fr w) (h2: ∀ a w,J a w->Q .normal a w):CW P N c Q fr w:=fun a ha=>
 wp_mono (h1 a ha) (fun e _ _ hq=>by cases e<;>first | exact h2 _ _ hq | exact hq)
theorem QW.go {N:Nat} {Q:Exit->Act->World->Prop} {e:Exit} {fr:List (Nat×Value)} {w:World} {a:Act} (h:QW N Q e fr w) (ha:Rep N fr a):Q e a w:=h a ha
end Go.Sx
namespace Go.Sx
open Go.ChangeShapes Go.WideShapes Go.ChangeAt Go.RowKit
def Dec {α:Type} (P:Program) (t:TypeId) (D:World->List Nat->α->List Value->Prop) (G:α->Prop):Prop:=
 ∀ (H:Type) (enc:TypeId×Value->H) (w:World) (base:Nat) (spare:Nat->Bool) (held:Bool) (fuel:Nat) (cs:List Value) (x:DataW H×List MemPlace),
  DataW.trod enc P w base spare held fuel t cs=some x->(∀ n∈x.1.weights P t,n<=reachBytes)-> ∃ a,D w [] a cs/\G a
theorem Dec.int {P:Program} {t:TypeId} {k:IntKind} (hu:P.underlying t=some (.int k)):Dec P t (fun _ _ (a:Int) cs=>cs=zn k a) (fun a=>(Lit.int k a).wf=true):=by
 intro H enc w base spare held fuel cs x h _
 obtain ⟨n,rfl,_,hw⟩:=DataW.trod_int hu h
 exact ⟨n,rfl,hw⟩
theorem Dec.bool {P:Program} {t:TypeId} (hu:P.underlying t=some .bool):Dec P t (fun _ _ (a:Bool) cs=>cs=zef a) (fun _=>True):=by
 intro H enc w base spare held fuel cs x h _
 obtain ⟨n,rfl,_⟩:=DataW.trod_bool hu h
 exact ⟨n,rfl,trivial⟩
theorem Dec.string {P:Program} {t:TypeId} (hu:P.underlying t=some .string):Dec P t (fun _ _ (a:ByteArray) cs=>cs=zq0 a) (fun a=>a.size<=reachBytes):=by
 intro H enc w base spare held fuel cs x h hw
 obtain ⟨n,rfl,rfl,_⟩:=DataW.trod_string hu h
 have:=hw n.data.toList.length (by simp [DataW.weights])
 exact ⟨n,rfl,by simpa using this⟩
theorem Dec.mono {α:Type} {P:Program} {t:TypeId} {D D':World->List Nat->α->List Value->Prop} {G G':α->Prop} (h:Dec P t D G) (hD: ∀ w a cs,D w [] a cs->D' w [] a cs) (hG: ∀ a,G a->G' a):Dec P t D' G':=by
 intro H enc w base spare held fuel cs x hx hw
 obtain ⟨a,h1,h2⟩:=h H enc w base spare held fuel cs x hx hw
 exact ⟨a,hD _ _ _ h1,hG _ h2⟩
theorem zgh {H:Type} {P:Program} {e:TypeId}: ∀ {l:List (DataW H)} {d:DataW H},d∈l-> ∀ n∈d.weights P e,n∈DataW.weightsAll P e l
 | [],_,h,_,_=>absurd h List.not_mem_nil
 | a::r,d,h,n,hn=>by
  unfold DataW.weightsAll
  rcases List.mem_cons.1 h with rfl | h
  ·exact List.mem_append_left _ hn
  ·exact List.mem_append_right _ (zgh h n hn)
theorem zfO {H:Type} {P:Program}: ∀ {ts:List TypeId} {ds:List (DataW H)} {i:Nat} {t:TypeId} {d:DataW H},ts[i]? =some t->ds[i]? =some d-> ∀ n∈d.weights P t,n∈DataW.weightsEach P ts ds
 | [],_,_,_,_,h,_,_,_=>by simp at h
 | _::_,[],_,_,_,_,h,_,_=>by simp at h
 | a::r,b::q,0,t,d,h1,h2,n,hn=>by
  simp at h1 h2
  subst h1;subst h2
  unfold DataW.weightsEach
  exact List.mem_append_left _ hn
 | a::r,b::q,i+1,t,d,h1,h2,n,hn=>by
  unfold DataW.weightsEach
  exact List.mem_append_right _ (zfO (i:=i) (by simpa using h1) (by simpa using h2) n hn)
theorem cells?_at {w:World} {base:Nat} {a:Addr} {n:Nat} {cs:List Value} (h:w.cells? base a n=some cs):cs.length=n/\ ∀ (f:Nat) (u:Value),cs[f]? =some u->w.cell? (a.add f)=some u:=by
 obtain ⟨_,hl,hx⟩:=World.cells?_some h
 refine ⟨hl,fun f u hu=> ?_⟩
 have hf:f<n:=by have:=(List.getElem?_eq_some_iff.1 hu).1;omega
 first
  | exact (hx f hf).trans hu
  | exact (hx f hf).trans (by simpa using hu)
theorem zqb {a:Addr} (hs:a.spot=none) (m n:Nat):(a.add m).add n=⟨a.block,a.off+m+n,none⟩:=by
 obtain ⟨b,o,s⟩:=a
 cases hs
 unfold Addr.add
 by_cases h1:m=0
 ·subst h1
  by_cases h2:n=0
  ·subst h2;simp
  ·simp [h2]
 ·by_cases h2:n=0
  ·subst h2;simp [h1]
  ·simp [h1,h2]
theorem zhz {α:Type} {p:Nat->α->Prop}: ∀ n:Nat,(∀ i,i<n-> ∃ a,p i a)-> ∃ xs:List α,xs.length=n/\ ∀ i x,xs[i]? =some x->p i x
 | 0,_=>⟨[],rfl,fun i x h=>by simp at h⟩
 | n+1,h=>by
  obtain ⟨xs,h1,h2⟩:=zhz n (fun i hi=>h i (by omega))
  obtain ⟨a,ha⟩:=h n (by omega)
  refine ⟨xs++ [a],by simp [h1],fun i x hx=> ?_⟩
  rcases Nat.lt_or_ge i n with hi | hi
  ·rw [List.getElem?_append_left (by omega)] at hx
   exact h2 i x hx
  ·rw [List.getElem?_append_right (by omega)] at hx
   have e:i=n:=by
    have:=(List.getElem?_eq_some_iff.1 hx).1
    simp at this
    omega
   subst e
   simp [h1] at hx
   subst hx
   exact ha
theorem Dec.sliceN {α:Type} {P:Program} {t e:TypeId} {D:World->List Nat->α->List Value->Prop} {G:α->Prop} {sz bytes:Nat} (hd:Dec P e D G) (hu:P.underlying t=some (.slice e)) (hc:P.cellsOf e=sz) (hsz:0<sz) (hb:P.bytesOf e=bytes):
  Dec P t (fun w S (xs:List α) cs=> ∃ v,cs= [v]/\RdN w S v D sz xs) (fun xs=>xs.length*bytes<=reachBytes/\ ∀ x∈xs,G x):=by
 intro H enc w base spare held fuel cs x h hw
 rcases Go.Deep.open_slice hu h with ⟨rfl,rfl⟩ | ⟨a,len,cap,m,n,Dt,Pl,rfl,_,hl,hm,rfl,rfl,hx⟩
 ·exact ⟨[],⟨_,rfl,by simp,none,0,rfl,by simp,fun t x hx=>by simp at hx⟩,by simp,fun x hx=>absurd hx List.not_mem_nil⟩
 rw [hc] at hx
 have hle:len<=(if spare a.block then cap else len):=by split<;>omega
 unfold DataW.weights at hw
 simp only [hu] at hw
 obtain ⟨xs,hxl,hxs⟩:=zhz (p:=fun i y=>G y/\ ∃ cs,D w [] y cs/\w.cells? base (a.add (i*sz)) sz=some cs) len (fun i hi=>by
  obtain ⟨cs,h1,h2⟩:=hx i (by omega)
  obtain ⟨y,hD,hG⟩:=hd H enc w base spare held n cs _ h2 (fun k hk=>hw k (List.mem_cons_of_mem _ (List.mem_append_left _ (zgh (d:=Dt i) (List.mem_map.2 ⟨i,by simpa using hi,rfl⟩) k hk))))
  exact ⟨y,hG,cs,hD,h1⟩)
 have h0:=hw _ List.mem_cons_self
 simp only [List.length_map,List.length_range,hb] at h0
 have hlb:len*bytes<=reachBytes:=Nat.le_trans (Nat.mul_le_mul_right _ (by omega)) h0
 refine ⟨xs,⟨_,rfl,?_,some a,cap,by rw [hxl],by rw [hxl];exact hl,fun i y hy=> ?_⟩,by rw [hxl];exact hlb,fun y hy=> ?_⟩
 ·unfold maxLen at hm
  omega
 ·obtain ⟨_,cs,hD,hcs⟩:=hxs i y hy
  have hi:i<len:=by have:=(List.getElem?_eq_some_iff.1 hy).1;omega
  have hsp:a.spot=none:=by
   obtain ⟨cs0,h1,_⟩:=hx 0 (by omega)
   obtain ⟨hl0,hc0⟩:=cells?_at h1
   have:=hc0 0 cs0[0] (List.getElem?_eq_getElem (by omega))
   rw [Nat.zero_mul] at this
   simpa [Addr.add] using World.cell?_spot this
  refine ⟨cs,hD,a.block,a.off,?_,by simp,fun f u hu=> ?_⟩
  ·obtain ⟨b,o,s⟩:=a
   cases hsp
   rfl
  ·have:=(cells?_at hcs).2 f u hu
   rw [zqb hsp] at this
   exact this
 ·obtain ⟨i,hi⟩:=List.mem_iff_getElem?.1 hy
  exact (hxs i y hi).1
theorem Dec.slice {α:Type} {P:Program} {t e:TypeId} {enc:α->List Value} {G:α->Prop} {sz bytes:Nat} (hd:Dec P e (fun _ _ a cs=>cs=enc a) G) (hu:P.underlying t=some (.slice e)) (hc:P.cellsOf e=sz) (hsz:0<sz) (hb:P.bytesOf e=bytes):
  Dec P t (fun w S (xs:List α) cs=> ∃ v,cs= [v]/\Rd w S v enc sz xs) (fun xs=>xs.length*bytes<=reachBytes/\ ∀ x∈xs,G x):=by
 refine (Dec.sliceN hd hu hc hsz hb).mono ?_ (fun _ h=>h)
 rintro w xs cs ⟨v,rfl,h1,a,c,rfl,hlc,h2⟩
 refine ⟨_,rfl,h1,a,c,rfl,hlc,fun t x f u hx hu=> ?_⟩
 obtain ⟨cs,rfl,b,o,h3,h4,h5⟩:=h2 t x hx
 exact ⟨b,o,h3,h4,h5 f u hu⟩
theorem Dec.struct {P:Program} {t:TypeId} {fs:Array Field} {H:Type} {enc:TypeId×Value->H} {w:World} {base:Nat} {spare:Nat->Bool} {held:Bool} {fuel:Nat} {cs:List Value} {x:DataW H×List MemPlace}
  (hu:P.underlying t=some (.struct fs)) (h:DataW.trod enc P w base spare held fuel t cs=some x) (hw: ∀ n∈x.1.weights P t,n<=reachBytes):
  cs.length=P.cellsOf t/\ ∀ (α:Type) (D:World->List Nat->α->List Value->Prop) (G:α->Prop) (i:Nat) (f:Field),fs[i]? =some f->Dec P f.type D G-> ∃ a,D w [] a ((cs.drop f.offset).take (P.cellsOf f.type))/\G a:=by
 obtain ⟨xs,n,_,rfl,hl,hlen,hf⟩:=DataW.trod_struct hu h
 refine ⟨hl,fun α D G i f hi hd=> ?_⟩
 have h1:=hf i f hi
 have hil:i<xs.length:=by have:=(Array.getElem?_eq_some_iff.1 hi).1;omega
 rw [List.getElem?_eq_getElem hil] at h1
 unfold DataW.weights at hw
 simp only [hu] at hw
 refine hd H enc w base spare held n _ _ h1 (fun k hk=>hw k (zfO (i:=i) (t:=f.type) (d:=xs[i].1) ?_ ?_ k hk))
 ·rw [List.getElem?_map,Array.getElem?_toList,hi];rfl
 ·rw [List.getElem?_map,List.getElem?_eq_getElem hil];rfl
def zsF (P:Program) (t:TypeId):List (TypeId×Nat×Nat):=match P.underlying t with
 | some (.struct fs)=>fs.toList.map (fun f=>(f.type,f.offset,P.cellsOf f.type))
 | _=> []
theorem Dec.parts {P:Program} {t:TypeId} {L:List (TypeId×Nat×Nat)} {H:Type} {enc:TypeId×Value->H} {w:World} {base:Nat} {spare:Nat->Bool} {held:Bool} {fuel:Nat} {cs:List Value} {x:DataW H×List MemPlace}
  (hu:zsF P t=L) (hne:L ≠ []) (h:DataW.trod enc P w base spare held fuel t cs=some x) (hw: ∀ n∈x.1.weights P t,n<=reachBytes):
  cs.length=P.cellsOf t/\ ∀ (α:Type) (D:World->List Nat->α->List Value->Prop) (G:α->Prop) (i T o c:Nat),L[i]? =some (T,o,c)->Dec P T D G-> ∃ a,D w [] a ((cs.drop o).take c)/\G a:=by
 unfold zsF at hu
 split at hu
 ·rename_i fs hfs
  obtain ⟨h1,h2⟩:=Dec.struct hfs h hw
  refine ⟨h1,fun α D G i T o c hi hd=> ?_⟩
  rw [<- hu,List.getElem?_map,Array.getElem?_toList] at hi
  cases hf:fs[i]? with
  | none=>rw [hf] at hi;cases hi
  | some f=>
   rw [hf] at hi
   cases hi
   exact h2 α D G i f hf hd
 ·exact absurd hu.symm hne
theorem St.zero (w:World):St w [] w []:=⟨Chg.refl _ _,fun i it h=>by simp at h,fun i it h=>by simp at h,fun i j a b _ h=>by simp at h,fun i it h=>by simp at h⟩
theorem zgi {H:Type} {enc:TypeId×Value->H} {P:Program} (hl:laidOutB P=true) {W W':World} (hb:Below W.heap.size W W'):
  ∀ {ts:List TypeId} {vs:List Value} {ds:List (DataW H)} {ps:List MemPlace},ts.all (fun t=>P.readableRec t&&decide (t<P.types.size))=true->
   DataW.TrodAll enc P W 0 (fun _=>true) true ts vs ds ps->(∀ x∈ps,x.block<W.heap.size)->
   DataW.TrodAll enc P W' 0 (fun b=>decide (b<W.heap.size)) true ts vs ds ps
 | [],[],[],_,_,h,_=>h
 | [],[],_::_,_,_,h,_=>h.elim
 | [],_::_,_,_,_,h,_=>h.elim
 | _::_,[],_,_,_,h,_=>h.elim
 | _::_,_::_,[],_,_,h,_=>h.elim
 | t::ts,v::vs,d::ds,ps,ht,h,hlt=>by
  obtain ⟨p,q,h1,h2,rfl⟩:=h
  simp only [List.all_cons,Bool.and_eq_true,decide_eq_true_eq] at ht
  exact ⟨p,q,Below.trod hl ht.1.1 ht.1.2 h1 hb (fun x hx=>hlt x (List.mem_append_left _ hx)),zgi hl hb ht.2 h2 (fun x hx=>hlt x (List.mem_append_right _ hx)),rfl⟩
theorem trodAll_cons {H:Type} {enc:TypeId×Value->H} {P:Program} {w:World} {base:Nat} {spare:Nat->Bool} {held:Bool} {t:TypeId} {ts:List TypeId} {vs:List Value} {ds:List (DataW H)} {ps:List MemPlace}
  (h:DataW.TrodAll enc P w base spare held (t::ts) vs ds ps) (hw: ∀ n∈DataW.weightsEach P (t::ts) ds,n<=reachBytes):
  ∃ v vs' ds' ps',vs=v::vs'/\(∀ (α:Type) (D:World->List Nat->α->List Value->Prop) (G:α->Prop),Dec P t D G-> ∃ a,D w [] a v.cells.toList/\G a)/\
   DataW.TrodAll enc P w base spare held ts vs' ds' ps'/\ ∀ n∈DataW.weightsEach P ts ds',n<=reachBytes:=by
 cases vs with
 | nil=>exact h.elim
 | cons v vs=>
  cases ds with
  | nil=>exact h.elim
  | cons d ds=>
   obtain ⟨p,q,⟨fuel,h1⟩,h2,rfl⟩:=h
   unfold DataW.weightsEach at hw
   exact ⟨v,vs,ds,q,rfl,fun α D G hd=>hd H enc w base spare held fuel _ _ h1 (fun n hn=>hw n (List.mem_append_left _ hn)),h2,fun n hn=>hw n (List.mem_append_right _ hn)⟩
theorem trodAll_nil {H:Type} {enc:TypeId×Value->H} {P:Program} {w:World} {base:Nat} {spare:Nat->Bool} {held:Bool} {vs:List Value} {ds:List (DataW H)} {ps:List MemPlace}
  (h:DataW.TrodAll enc P w base spare held [] vs ds ps):vs= []:=by
 cases vs with
 | nil=>rfl
 | cons v vs=>cases ds<;>exact h.elim
theorem zfT {H:Type} {enc:TypeId×Value->H} {P:Program} {w:World} {base:Nat} {spare:Nat->Bool} {held:Bool}: ∀ {ts:List TypeId} {vs:List Value} {ds:List (DataW H)} {ps:List MemPlace},
  DataW.TrodAll enc P w base spare held ts vs ds ps->ds.length=ts.length
 | [],[],[],_,_=>rfl
 | [],[],_::_,_,h=>h.elim
 | [],_::_,_,_,h=>h.elim
 | _::_,[],_,_,h=>h.elim
 | _::_,_::_,[],_,h=>h.elim
 | t::ts,v::vs,d::ds,ps,h=>by
  obtain ⟨p,q,_,h2,_⟩:=h
  simp [zfT h2]
theorem ziW {P:Program} {w:World} {r:Reach} {base:Nat} {t:TypeId} {v u:Value} (hok:Value.okWide P w r base t v) (hc:v.cells.toList= [u])
  (hu:(∃ k,P.underlying t=some (.int k))\/P.underlying t=some .bool\/P.underlying t=some .string\/ ∃ e,P.underlying t=some (.slice e)):v=u:=by
 rcases hu with ⟨k,hu⟩ | hu | hu | ⟨e,hu⟩
 ·obtain ⟨n,rfl⟩:=okWide_int hu hok
  simpa [Value.cells] using hc
 ·obtain ⟨n,rfl⟩:=okWide_bool hu hok
  simpa [Value.cells] using hc
 ·obtain ⟨n,rfl⟩:=okWide_string hu hok
  simpa [Value.cells] using hc
 ·obtain ⟨a,l,c,rfl⟩:=okWide_slice hu hok
  simpa [Value.cells] using hc
theorem zmU {H:Type} {enc:TypeId×Value->H} {P:Program} {w:World} {base:Nat} {spare:Nat->Bool} {held:Bool} {t:TypeId} (hu:P.underlying t=some .bool):
 DataW.TrodAll enc P w base spare held [t] [.bool true] [.lit (.bool true)] ([]++ []):=trodAll_mk1 (shut_bool hu true)
theorem ze3 {H:Type} {P:Program} {us:List TypeId} {n:Nat}: ∀ {ts:List TypeId} {ds:List (DataW H)},ds.length=ts.length->n∈DataW.weightsEach P ts ds->n∈DataW.weightsEach P (ts++us) ds
 | [],[],_,h=>by simp [DataW.weightsEach] at h
 | [],_::_,h,_=>by simp at h
 | _::_,[],h,_=>by simp at h
 | t::ts,d::ds,hl,h=>by
  rw [List.cons_append]
  unfold DataW.weightsEach at h |-
  rcases List.mem_append.1 h with h | h
  ·exact List.mem_append_left _ h
  ·exact List.mem_append_right _ (ze3 (by simpa using hl) h)
end Go.Sx
