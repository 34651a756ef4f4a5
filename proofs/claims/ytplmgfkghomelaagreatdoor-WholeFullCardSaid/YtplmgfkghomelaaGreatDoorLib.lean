/- Lemmas. -/
import Derived.WalkKit
import Derived.StillTail
import Derived.Maps.AppendAt
import Derived.ProofKit
import Derived.SizedLaws
import Derived.Deep.Slices
import Derived.OpenShut
import Derived.Deep.DeepHandedRow
import Derived.SevenTiedAt
set_option linter.unusedVariables false
set_option linter.unusedSimpArgs false
namespace Go
theorem d7:type_of% @if_pos:=if_pos
theorem d8:type_of% @if_neg:=if_neg
theorem g9:type_of% @Option.some.injEq:=Option.some.injEq
theorem i5:type_of% @List.mem_append:=List.mem_append
theorem i6:type_of% @List.mem_singleton:=List.mem_singleton
theorem i9:type_of% @List.append_nil:=List.append_nil
theorem j4:type_of% @Option.some.inj:=Option.some.inj
theorem j5:type_of% @List.mem_cons:=List.mem_cons
theorem j7:type_of% @List.length_set:=List.length_set
theorem k6:type_of% @List.mem_flatten:=List.mem_flatten
theorem k7:type_of% @List.nodup_append:=List.nodup_append
theorem k8:type_of% @Int.toNat_natCast:=Int.toNat_natCast
theorem l6:type_of% @Nat.le_refl:=Nat.le_refl
theorem l8:type_of% @List.nodup_nil:=List.nodup_nil
theorem m6:type_of% @List.ext_getElem?:=List.ext_getElem?
theorem o7:type_of% @Prod.mk.injEq:=Prod.mk.injEq
theorem o9:type_of% @Nat.mul_le_mul_right:=Nat.mul_le_mul_right
theorem p5:type_of% @List.length_append:=List.length_append
theorem p6:type_of% @Nat.ne_of_beq_eq_false:=Nat.ne_of_beq_eq_false
theorem p8:type_of% @List.length_map:=List.length_map
theorem p9:type_of% @List.mem_or_eq_of_mem_set:=List.mem_or_eq_of_mem_set
theorem q7:type_of% @Bool.or_eq_true:=Bool.or_eq_true
theorem q8:type_of% @Nat.le_of_ble_eq_true:=Nat.le_of_ble_eq_true
theorem q9:type_of% @if_true:=if_true
theorem r6:type_of% @Int.le_refl:=Int.le_refl
theorem r7:type_of% @List.take_of_length_le:=List.take_of_length_le
theorem r9:type_of% @List.nodup_cons:=List.nodup_cons
theorem s9:type_of% @Nat.le_trans:=Nat.le_trans
theorem t5:type_of% @Option.map_some:=Option.map_some
theorem t6:type_of% @Nat.eq_of_beq_eq_true:=Nat.eq_of_beq_eq_true
theorem t8:type_of% @beq_iff_eq:=beq_iff_eq
theorem t9:type_of% @List.mem_iff_getElem:=List.mem_iff_getElem
theorem u4:type_of% @Nat.add_mul:=Nat.add_mul
theorem u5:type_of% @List.map_append:=List.map_append
theorem u6:type_of% @Nat.blt_eq:=Nat.blt_eq
theorem u7:type_of% @Nat.ble_eq_true_of_le:=Nat.ble_eq_true_of_le
theorem v8:type_of% @List.length_cons:=List.length_cons
theorem v9:type_of% @List.getElem?_of_mem:=List.getElem?_of_mem
theorem w6:type_of% @List.append_assoc:=List.append_assoc
theorem w7:type_of% @Array.getElem?_eq_some_iff:=Array.getElem?_eq_some_iff
theorem x3:type_of% @if_false:=if_false
theorem x4:type_of% @Nat.zero_add:=Nat.zero_add
theorem x5:type_of% @List.getElem?_map:=List.getElem?_map
theorem x6:type_of% @List.all_eq_true:=List.all_eq_true
theorem x7:type_of% @List.take_add_one:=List.take_add_one
theorem x8:type_of% @List.drop_of_length_le:=List.drop_of_length_le
theorem x9:type_of% @List.getElem?_append_left:=List.getElem?_append_left
theorem yc:type_of% @of_decide_eq_true:=of_decide_eq_true
theorem yd:type_of% @List.flatten_cons:=List.flatten_cons
theorem ye:type_of% @List.map_set:=List.map_set
theorem yf:type_of% @Option.map_eq_some_iff:=Option.map_eq_some_iff
theorem yg:type_of% @List.take_append_drop:=List.take_append_drop
theorem yh:type_of% @List.getElem?_set_self:=List.getElem?_set_self
theorem yi:type_of% @Array.getD_eq_getD_getElem?:=Array.getD_eq_getD_getElem?
theorem yj:type_of% @List.mem_map:=List.mem_map
theorem yl:type_of% @List.drop_drop:=List.drop_drop
theorem ym:type_of% @List.getElem_mem:=List.getElem_mem
theorem yn:type_of% @Nat.eq_zero_or_pos:=Nat.eq_zero_or_pos
theorem yo:type_of% @List.map_cons:=List.map_cons
theorem yp:type_of% @List.flatten_append:=List.flatten_append
theorem yq:type_of% @Nat.add_assoc:=Nat.add_assoc
theorem yr:type_of% @List.set_set:=List.set_set
theorem yu:type_of% @of_decide_eq_false:=of_decide_eq_false
theorem yv:type_of% @Int.ofNat_le:=Int.ofNat_le
theorem yw:type_of% @List.length_take:=List.length_take
theorem yx:type_of% @List.eq_nil_of_length_eq_zero:=List.eq_nil_of_length_eq_zero
theorem yy:type_of% @List.getElem?_set:=List.getElem?_set
theorem yz:type_of% @List.length_nil:=List.length_nil
theorem y4:type_of% @List.getElem?_append_right:=List.getElem?_append_right
theorem y5:type_of% @Nat.succ_mul:=Nat.succ_mul
theorem y6:type_of% @List.take_append_of_le_length:=List.take_append_of_le_length
theorem y7:type_of% @List.cons_append:=List.cons_append
theorem y8:type_of% @List.filter_append:=List.filter_append
theorem z3:type_of% @Nat.mul_le_mul:=Nat.mul_le_mul
theorem z4:type_of% @Nat.mod_eq_of_lt:=Nat.mod_eq_of_lt
theorem z5:type_of% @List.getElem?_set_ne:=List.getElem?_set_ne
theorem z6:type_of% @Option.bind_eq_some_iff:=Option.bind_eq_some_iff
theorem z7:type_of% @List.take_take:=List.take_take
theorem z8:type_of% @List.getElem?_cons_zero:=List.getElem?_cons_zero
theorem z9:type_of% @List.mem_of_mem_take:=List.mem_of_mem_take
theorem RG:type_of% @List.drop_append:=List.drop_append
theorem RH:type_of% @List.set_append_right:=List.set_append_right
theorem RK:type_of% @List.drop_eq_getElem_cons:=List.drop_eq_getElem_cons
theorem RL:type_of% @Array.getElem?_eq_getElem:=Array.getElem?_eq_getElem
theorem RM:type_of% @List.mem_append_right:=List.mem_append_right
theorem RN:type_of% @Bool.and_eq_true:=Bool.and_eq_true
theorem RP:type_of% @List.getElem?_eq_none:=List.getElem?_eq_none
theorem RR:type_of% @Nat.le_mul_of_pos_right:=Nat.le_mul_of_pos_right
theorem RS:type_of% @Int.mul_le_mul_of_nonneg_right:=Int.mul_le_mul_of_nonneg_right
theorem RT:type_of% @List.eq_of_mem_replicate:=List.eq_of_mem_replicate
theorem RU:type_of% @List.length_replicate:=List.length_replicate
theorem RW:type_of% @List.length_eq_zero_iff:=List.length_eq_zero_iff
end Go
namespace Go.Sx
section
section
section
open Go.RowKit
theorem zbs.{u,v}{α:Type u}{β:Type v}(a:α)(f:α->Option β):(some a).bind f=f a:=rfl
theorem zft(b:Bool):b=true\/b=false:=Bool.eq_false_or_eq_true b
theorem zfe:(false=true)=False:=Bool.false_eq_true
theorem zof{a:Int}(h:0<=a):∃n:Nat,a=n:=Int.eq_ofNat_of_zero_le h
theorem zar.{u}{α:Type u}{b:α}(as:List α){bs:List α}(h:b∈bs):b∈as++bs:=RM as h
theorem zal.{u}{α:Type u}{a:α}{as:List α}(bs:List α)(h:a∈as):a∈as++bs:=List.mem_append_left bs h
theorem zls(n:Nat):n<n.succ:=Nat.lt_succ_self n
theorem zmg.{u}{α:Type u}{l:List α}{i:Nat}{a:α}(h:l[i]? =some a):a∈l:=List.mem_of_getElem? h
theorem zcm.{u}{α:Type u}(y:α){a:α}{l:List α}(h:a∈l):a∈y::l:=List.mem_cons_of_mem y h
theorem zes.{u}{α:Type u}{i:Nat}{a:α}{l:List α}:l[i]? =some a↔∃h:i<l.length,l[i]=a:=List.getElem?_eq_some_iff
theorem zae(a b:Bool):((a&&b)=true)=(a=true/\b=true):=RN a b
theorem znm.{u}{α:Type u}{a:α}:¬a∈ []:=List.not_mem_nil
theorem zeg.{u}{α:Type u}{l:List α}{i:Nat}(h:i<l.length):l[i]? =some l[i]:=List.getElem?_eq_getElem h
theorem zcs.{u}{α:Type u}{a:α}{l:List α}:a∈a::l:=List.mem_cons_self
theorem zdq{p:Prop}[inst:Decidable p]:(decide p=true)=p:=decide_eq_true_eq
variable {i:Nat} {v:Value} {fr:List (Nat×Value)} {n:Nat} {l:List Oper} {o:Oper} {f:FuncId} {c:Code} {R:Ending->World->Prop} {y:Operand} {id:Nat} {K:Act->World->Prop} {a:Act} {α:Type} {P:Program} {N d:Nat} {w':World} {T:TypeId} {sz:Nat} {xs:List Value} {x:Operand} {ty:TypeId} {pos:String} {gdd:Option (Nat×Bool)} {e m bytes:Nat} {args:List Value} {enc:α->List Value}
def kE:List (Nat×Value)->Nat->Option Value
 |[],_=>none
 |p::r,n=>match Nat.beq p.1 n with
  |true=>some p.2
  |false=>kE r n
structure Rep (N:Nat) (fr:List (Nat×Value)) (a:Act):Prop where
 size:a.tmps.size=N
 defers:a.defers=[]
 get:∀i v,kE fr i=some v->a.tmps[i]? =some v
def look(fr:List (Nat×Value)):Operand->Option Value
 |.tmp t=>kE fr t
 |.const v=>some v
 |.global g=>some (.pointer (some ⟨g,0,none⟩))
 |.func f=>some (.func (.func f) #[] #[])
theorem Rep.look{N:Nat}{fr:List (Nat×Value)}{a:Act}{x:Operand}{v:Value}(h:Rep N fr a)(hx:look fr x=some v):a.eval x=v:=by
 cases x with
 |tmp t=>
  have:=h.get t v hx;simp [Act.eval,yi,this]
 |const v'=>simpa [Sx.look,Act.eval] using hx
 |global g=>simpa [Sx.look,Act.eval] using hx
 |func f=>simpa [Sx.look,Act.eval] using hx
theorem bm:kE ((i,v)::fr) n=if i=n then some v else kE fr n:=by
 simp only [kE];cases h:Nat.beq i n with
 |true=>rw [d7 (t6 h)]
 |false=>rw [d8 (p6 h)]
theorem Rep.put{N:Nat}{fr:List (Nat×Value)}{a:Act}{d:Nat}{v:Value}(h:Rep N fr a)(hd:Nat.blt d N=true):Rep N ((d,v)::fr) (a.put (some d) v):=by
 have hd':d<N:=by simpa [u6] using hd
 refine ⟨by simp [Act.put,h.size],by simp [Act.put,h.defers],λi u hi=> ?_⟩;rw [bm] at hi;simp only [Act.put];by_cases e:d=i
 ·subst e;rw [d7 rfl] at hi;cases hi;simp [h.size,hd']
 ·rw [d8 e] at hi;rw [Array.getElem?_setIfInBounds_ne e];exact h.get i u hi
def vk:List Oper->Nat->Option Oper
 |[],_=>none
 |o::_,0=>some o
 |_::r,n+1=>vk r n
theorem aP(h:vk l i=some o):l.drop i=o::l.drop (i+1):=by
 induction l generalizing i with
 |nil=>cases h
 |cons x r ih=>
  cases i with
  |zero=>simp only [vk,g9] at h;subst h;rfl
  |succ i=>exact ih h
def OW(P:Program)(l:List Oper)(N:Nat)(Q:Exit->Act->World->Prop)(i:Nat)(fr:List (Nat×Value))(w:World):Prop:=
 ∀a,Rep N fr a->wpList P l.toArray Q (l.drop i) a w
def CW(P:Program)(N:Nat)(c:Code)(Q:Exit->Act->World->Prop)(fr:List (Nat×Value))(w:World):Prop:=
 ∀a,Rep N fr a->c.wp P Q a w
def QW(N:Nat)(Q:Exit->Act->World->Prop)(e:Exit)(fr:List (Nat×Value))(w:World):Prop:=
 ∀a,Rep N fr a->Q e a w
theorem QV{p:Nat->Prop}:∀n,p n->∃m,p m/\∀k,p k->m<=k:=by
 intro n
 induction n using Nat.strongRecOn with
 |_ n ih=>
  grind
section
variable {P:Program} {N:Nat} {Q:Exit->Act->World->Prop} {fr fr':List (Nat×Value)} {w:World} {l:List Oper} {i:Nat} {o:Oper}
theorem CW.enter{fn:Func}{args:Array Value}(hf:P.funcs[f]? =some fn)(hb:fn.body=some c)(hN:fn.ntmps=N)
  (hs:Nat.ble args.size N=true) (hfr:∀j v,kE fr j=some v->args[j]? =some v)
  (h:CW P N c (bodyPost P fn R) fr w):Calls P f args w R:=by
 subst hN;refine calls_of_wp hf hb (h _ ⟨?_,rfl,?_⟩)
 ·have:=q8 hs;simp;omega
 grind
theorem CW.seq{x y:Code}(h:CW P N x (Exit.then (y.wp P Q) Q) fr w):CW P N (.seq x y) Q fr w:=λa ha=>wp_seq (h a ha)
theorem f4:type_of% @CW.seq:=CW.seq
theorem CW.region{id:Nat}{l:List Oper}(h:OW P l N Q 0 fr w):CW P N (.region id l.toArray false) Q fr w:=
 λa ha=>wp_region_lit (h a ha)
theorem f8:type_of% @CW.region:=CW.region
theorem CW.skip(h:QW N Q .normal fr w):CW P N .skip Q fr w:=λa ha=>wp_skip (h a ha)
theorem t7:type_of% @CW.skip:=CW.skip
theorem CW.exit{id:Nat}(h:QW N Q (.exit id) fr w):CW P N (.exit id) Q fr w:=λa ha=>wp_exit (h a ha)
theorem CW.ret(h:QW N Q .ret fr w):CW P N .ret Q fr w:=λa ha=>wp_ret (h a ha)
theorem o4:type_of% @CW.ret:=CW.ret
theorem CW.block{id:Nat}{c:Code}(h:CW P N c (Exit.inBlock id Q) fr w):CW P N (.block id c) Q fr w:=λa ha=>wp_block (h a ha)
theorem CW.cond_t{c:Operand}{x y:Code}{b:Bool}(hc:look fr c=some (.bool b))(hb:b=true)(h:CW P N x Q fr w):CW P N (.cond c x y) Q fr w:=
 λa ha=>wp_cond_true (by rw [ha.look hc,hb]) (h a ha)
theorem o8:type_of% @CW.cond_t:=CW.cond_t
theorem CW.cond_f{c:Operand}{x y:Code}{b:Bool}(hc:look fr c=some (.bool b))(hb:b=false)(h:CW P N y Q fr w):CW P N (.cond c x y) Q fr w:=
 λa ha=>wp_cond_false (by rw [ha.look hc,hb]) (h a ha)
theorem p7:type_of% @CW.cond_f:=CW.cond_f
theorem QW.next{y:Code}(h:CW P N y Q fr w):QW N (Exit.then (y.wp P Q) Q) .normal fr w:=h
theorem f5:type_of% @QW.next:=QW.next
theorem QW.then_exit(h:QW N Q (.exit id) fr w):QW N (Exit.then K Q) (.exit id) fr w:=h
theorem y9:type_of% @QW.then_exit:=QW.then_exit
theorem QW.then_ret(h:QW N Q .ret fr w):QW N (Exit.then K Q) .ret fr w:=h
theorem ya:type_of% @QW.then_ret:=QW.then_ret
theorem QW.block_normal(h:QW N Q .normal fr w):QW N (Exit.inBlock id Q) .normal fr w:=h
theorem yt:type_of% @QW.block_normal:=QW.block_normal
theorem QW.block_ret(h:QW N Q .ret fr w):QW N (Exit.inBlock id Q) .ret fr w:=h
theorem QW.block_here(h:QW N Q .normal fr w):QW N (Exit.inBlock id Q) (.exit id) fr w:=λa ha=>by
 simp only [Exit.inBlock,q9];exact h a ha
theorem QW.block_on{id':Nat}(hne:Nat.beq id' id=false)(h:QW N Q (.exit id') fr w):QW N (Exit.inBlock id Q) (.exit id') fr w:=λa ha=>by
 simp only [Exit.inBlock];rw [d8 (p6 hne)];exact h a ha
theorem QW.meet{J:Act->World->Prop}(h:∀a,Rep N fr a->J a w):QW N (Exit.then J Q) .normal fr w:=h
theorem QW.ret1{fn:Func}{s:Nat}(hr:fn.results= #[.tmp s])(hs:kE fr s=some v)(h:R (.returned v) w):QW N (bodyPost P fn R) .ret fr w:=λa ha=>
 ⟨ha.defers,v,by rw [results_tmp hr,yi,ha.get s v hs];rfl,h⟩
theorem s7:type_of% @QW.ret1:=QW.ret1
theorem QW.ret2{fn:Func}{s t:Nat}{u:Value}(hr:fn.results= #[.tmp s,.tmp t])(hs:kE fr s=some u)(ht:kE fr t=some v)(h:R (.returned (.tuple #[u,v])) w):
  QW N (bodyPost P fn R) .ret fr w:=λa ha=>
 ⟨ha.defers,_,by rw [results_tmp2 hr,yi,yi,ha.get s u hs,ha.get t v ht];rfl,h⟩
theorem QW.ret3{fn:Func}{s t q:Nat}{u x:Value}(hr:fn.results= #[.tmp s,.tmp t,.tmp q])(hs:kE fr s=some u)(ht:kE fr t=some v)(hq:kE fr q=some x)
  (h:R (.returned (.tuple #[u,v,x])) w):QW N (bodyPost P fn R) .ret fr w:=λa ha=>
 ⟨ha.defers,_,by
  have e:(results fn a.tmps).run P w=.ok (.tuple #[a.tmps.getD s undef,a.tmps.getD t undef,a.tmps.getD q undef]) w:=by simp [results,hr]
  rw [e,yi,yi,yi,ha.get s u hs,ha.get t v ht,ha.get q x hq];rfl,h⟩
theorem QW.ret0{fn:Func}(hr:fn.results= #[])(h:R (.returned (.tuple #[])) w):QW N (bodyPost P fn R) .ret fr w:=λ_ ha=>
 ⟨ha.defers,_,results_none hr _ _ _,h⟩
theorem QW.end0{fn:Func}(hr:fn.results= #[])(h:R (.returned (.tuple #[])) w):QW N (bodyPost P fn R) .normal fr w:=λ_ ha=>
 ⟨ha.defers,_,results_none hr _ _ _,h⟩
theorem Ca(J:Nat->Act->World->Prop)
  (round:∀n a w,J n a w->c.wp P (Exit.then (λa' w'=>∃m,m<n/\J m a' w') Q) a w) (h:J n a w):(Code.loop c).wp P Q a w:=by
 classical
 let ok:Act->World->Prop:=λa w=>∃n,J n a w
 have hmin:∀a w,ok a w->∃m,J m a w/\∀k,J k a w->m<=k:=λa w ⟨n,hn⟩=>QV n hn
 let μ:Act->World->Nat:=λa w=>if h:ok a w then Classical.choose (hmin a w h) else 0
 have spec:∀a w,(h:ok a w)->J (μ a w) a w/\∀n,J n a w->μ a w<=n:=by
  intro a w h
  grind
 refine wp_loop ok μ ⟨n,h⟩ (λa w hI=> ?_);have hs:=spec a w hI;refine wp_mono (round _ a w hs.1) (λe a' w' hq=> ?_);cases e with
 |normal=>
  grind
 |_=>exact hq
theorem CW.loop{c:Code}(J:Nat->Act->World->Prop)(n:Nat)(h:∀a,Rep N fr a->J n a w)
  (round:∀n a w,J n a w->c.wp P (Exit.then (λa' w'=>∃m,m<n/\J m a' w') Q) a w):CW P N (.loop c) Q fr w:=
 λa ha=>Ca J round (h a ha)
theorem OW.nil(hl:vk l i=none)(h:QW N Q .normal fr w):OW P l N Q i fr w:=λa ha=>by
 have:l.drop i=[]:=by
  clear h ha
  induction l generalizing i with
  |nil=>simp
  |cons x r ih=>
   cases i with
   |zero=>cases hl
   |succ i=>exact ih hl
 rw [this];exact wpList_nil (h a ha)
theorem f7:type_of% @OW.nil:=OW.nil
end
def aj{α:Type}(P:Program):Sem α->Option α
 |.pure a=>some a
 |.program k=>aj P (k P)
 |_=>none
theorem qV{s:Sem α}{a:α}(h:aj P s=some a)(w:World):s.run P w=.ok a w:=by
 induction s with
 |pure b=>simp only [aj,g9] at h;subst h;rfl
 |program k ih=>exact ih P h
 |_=>cases h
theorem gC{β:Type}{f g:α->β}{xs:Array α}(h:∀x∈xs.toList,f x=g x):xs.map f=xs.map g:=by
 grind
theorem lh{ρ ρ':Operand->Value}{c:Call}{t:TypeId}(h:∀x∈c.operands.toList,ρ x=ρ' x):resolve ρ c t=resolve ρ' c t:=by
 have ha:c.args.map ρ=c.args.map ρ':=gC (λx hx=>h x (by simp [Call.operands];exact .inr (by simpa using hx)))
 unfold resolve;rw [ha];cases hc:c.callee with
 |builtin b=>rfl
 |invoke r m=>dsimp only;rw [h r (by simp [Call.operands,hc])]
 |value f=>dsimp only;rw [h f (by simp [Call.operands,hc])]
def ax:Op->Bool
 |.select .. =>false
 |_=>true
theorem iB{ρ ρ':Operand->Value}(hs:ax o.op=true)(h:∀x∈o.op.operands.toList,ρ x=ρ' x):execOp ρ o=execOp ρ' o:=by
 obtain ⟨dst,op,ty,pos,after,guard⟩:=o;cases op with
 |call c=>simp only [execOp];rw [lh (by simpa [Op.operands] using h)]
 |go c=>simp only [execOp];rw [lh (by simpa [Op.operands] using h)]
 |defer c=>simp only [execOp];rw [lh (by simpa [Op.operands] using h)]
 |build t ps=>
  have:(ps.map λ(i,x)=>(i,ρ x))=ps.map λ(i,x)=>(i,ρ' x):=gC (λx hx=>by
   obtain ⟨i,x⟩:=x;simp only [o7,true_and];exact h x (by simp [Op.operands];exact ⟨i,by simpa using hx⟩))
  simp only [execOp];rw [this]
 |buildSlice t n ps=>
  have:(ps.map λ(i,x)=>(i,ρ x))=ps.map λ(i,x)=>(i,ρ' x):=gC (λx hx=>by
   obtain ⟨i,x⟩:=x;simp only [o7,true_and];exact h x (by simp [Op.operands];exact ⟨i,by simpa using hx⟩))
  simp only [execOp];rw [this]
 |makeFunc f a b=>
  have h1:a.map ρ=a.map ρ':=gC (λx hx=>h x (by simp [Op.operands];exact .inl (by simpa using hx)))
  have h2:b.map ρ=b.map ρ':=gC (λx hx=>h x (by simp [Op.operands];exact .inr (by simpa using hx)))
  simp only [execOp];rw [h1,h2]
 |makeMap t r=>cases r with
  |none=>rfl
  |some x=>simp only [execOp,t5];rw [h x (by simp [Op.operands])]
 |slice t x lo hi mx=>
  have hx:ρ x=ρ' x:=h x (by simp [Op.operands]);have h1:lo.map ρ=lo.map ρ':=by cases lo with|none=>rfl|some y=>simp only [t5];rw [h y (by simp [Op.operands])]
  have h2:hi.map ρ=hi.map ρ':=by cases hi with|none=>rfl|some y=>simp only [t5];rw [h y (by simp [Op.operands])]
  have h3:mx.map ρ=mx.map ρ':=by cases mx with|none=>rfl|some y=>simp only [t5];rw [h y (by simp [Op.operands])]
  simp only [execOp];rw [hx,h1,h2,h3]
 |select cs b=>cases hs
 |_=>
  simp only [Op.operands,j5,znm,or_false,forall_eq_or_imp,forall_eq] at h;simp only [execOp]<;>first|rfl|simp only [h]
def rho(fr:List (Nat×Value))(x:Operand):Value:=match look fr x with
 |some v=>v
 |none=>undef
def sb(fr:List (Nat×Value)):List Operand->Bool
 |[]=>true
 |x::r=>match look fr x with
  |some _=>sb fr r
  |none=>false
def Lg(P:Program)(fr:List (Nat×Value))(o:Oper):Option Value:=
 match ax o.op,sb fr o.op.operands.toList with
 |true,true=>match aj P (execOp (rho fr) o) with
  |some (.value v)=>some v
  |_=>none
 |_,_=>none
theorem Ak{l:List Operand}(h:sb fr l=true):∀x∈l,look fr x=some (rho fr x):=by
 induction l with
 |nil=>intro x hx;cases hx
 |cons y r ih=>
  grind [sb,rho]
theorem tK(h:Lg P fr o=some v)(ha:Rep N fr a)(w:World):
  (execOp a.eval o).run P w=.ok (.value v) w:=by
 unfold Lg at h;split at h
 ·rename_i h1 h2
  have hm:=Ak h2;have hc:execOp a.eval o=execOp (rho fr) o:=iB h1 (λx hx=>ha.look (hm x hx))
  grind [qV]
 ·cases h
def gd(l:List Oper)(fr:List (Nat×Value))(o:Oper):Option Bool:=
 match o.guard with
 |none=>some true
 |some (j,b)=>match (vk l j).bind (·.dst) with
  |some d=>match kE fr d with
   |some (.bool c)=>some (c==b)
   |some (.tuple _)=>some false
   |_=>none
  |none=>none
theorem dx(l:List Oper)(j:Nat):l.toArray[j]? =vk l j:=by
 simp only [List.getElem?_toArray]
 induction l generalizing j with
 |nil=>cases j<;>rfl
 |cons x r ih=>cases j with
  |zero=>rfl
  |succ j=>simpa [vk] using ih j
theorem xV{b:Bool}(h:gd l fr o=some b)(ha:Rep N fr a):Region.wanted o (yielded l.toArray a.tmps)=b:=by
 unfold gd at h;unfold Region.wanted;split at h
 ·grind
 ·rename_i j c hg
  rw [hg];split at h
  ·rename_i d hd
   split at h
   ·rename_i u hu
    simp only [g9] at h;subst h;simp only [yielded,dx,hd,zbs,ha.get d _ hu]
    grind
   ·rename_i u hu
    simp only [g9] at h;subst h;simp only [yielded,dx,hd,zbs,ha.get d _ hu];cases c<;>rfl
   ·cases h
  ·cases h
def kF(P:Program)(l:List Oper)(N:Nat):Nat->Nat->List (Nat×Value)->Option (List (Nat×Value))
 |0,_,fr=>some fr
 |n+1,i,fr=>match vk l i with
  |none=>none
  |some o=>match o.dst with
   |none=>none
   |some d=>match Nat.blt d N with
    |false=>none
    |true=>match gd l fr o with
     |some true=>match Lg P fr o with
      |some v=>kF P l N n (i+1) ((d,v)::fr)
      |none=>none
     |some false=>kF P l N n (i+1) ((d,undef)::fr)
     |none=>none
def mem?(n:Nat):List Nat->Bool
 |[]=>false
 |m::r=>match Nat.beq m n with
  |true=>true
  |false=>mem? n r
def aQ(done:List Nat):List (Nat×Value)->List (Nat×Value)
 |[]=>[]
 |p::r=>match mem? p.1 done with
  |true=>aQ done r
  |false=>p::aQ (p.1::done) r
def oV(fr:List (Nat×Value)):List (Nat×Value)->List (Option Value)
 |[]=>[]
 |p::r=>kE fr p.1::oV fr r
def iC:List (Nat×Value)->List (Option Value)
 |[]=>[]
 |p::r=>some p.2::iC r
theorem mem?_iff{l:List Nat}:mem? n l=true↔n∈l:=by
 induction l with
 |nil=>simp [mem?]
 |cons m r ih=>
  unfold mem?;cases h:Nat.beq m n with
  |true=>simp [(t6 h).symm]
  |false=>simp only [ih,j5];exact ⟨.inr,λe=>e.resolve_left (λx=>(p6 h) x.symm)⟩
theorem Gq:∀{done:List Nat} {i:Nat} {v:Value},i∉done->kE fr i=some v->(i,v)∈aQ done fr:=by
 induction fr with
 |nil=>intro _ _ _ _ h;cases h
 |cons p r ih=>
  intro done i v hn h;obtain ⟨j,u⟩:=p;rw [bm] at h;unfold aQ;by_cases e:j=i
  ·subst e;rw [d7 rfl] at h;cases h
   have:mem? j done=false:=by
    cases hm:mem? j done with
    |true=>exact absurd (mem?_iff.1 hm) hn
    |false=>rfl
   grind
  grind
theorem Cb:∀{l:List (Nat×Value)},oV fr l=iC l->∀p∈l,kE fr p.1=some p.2:=by
 intro l
 induction l with
 |nil=>intro _ p hp;cases hp
 |cons q r ih=>
  grind [oV,iC]
def agrees(fr fr':List (Nat×Value)):Prop:=oV fr (aQ [] fr')=iC (aQ [] fr')
theorem Rep.agrees{fr':List (Nat×Value)}(h:Rep N fr a)(hs:oV fr (aQ [] fr')=iC (aQ [] fr')):Rep N fr' a:=
 ⟨h.size,h.defers,λ_ _ hi=>h.get _ _ (Cb hs _ (Gq (by simp) hi))⟩
section
variable {P:Program} {N:Nat} {Q:Exit->Act->World->Prop} {fr fr':List (Nat×Value)} {w:World} {l:List Oper} {i:Nat} {o:Oper}
theorem Fp:∀(n i:Nat)(fr:List (Nat×Value)){fr2:List (Nat×Value)},kF P l N n i fr=some fr2->OW P l N Q (i+n) fr2 w->OW P l N Q i fr w:=by
 intro n
 induction n with
 |zero=>intro i fr fr2 h k;simp only [kF,g9] at h;subst h;exact k
 |succ n ih=>
  intro i fr fr2 h k;unfold kF at h;split at h
  ·cases h
  ·rename_i o ho
   split at h
   ·cases h
   ·rename_i d hd
    split at h
    ·cases h
    ·rename_i hN
     split at h
     ·rename_i hg
      split at h
      ·rename_i v hv
       have:=ih (i+1) _ h (by grind);intro a ha;rw [aP ho];refine wpList_step (λK hK=> ?_);rw [xV hg ha,d7 rfl];unfold Oper.wp;rw [tK hv ha w,Oper.upon_value,hd];exact hK _ _ (this _ (ha.put hN))
      ·cases h
     ·rename_i hg
      have:=ih (i+1) _ h (by grind);intro a ha;rw [aP ho];refine wpList_step (λK hK=> ?_);rw [xV hg ha,hd];exact hK _ _ (this _ (ha.put hN))
     ·cases h
theorem OW.pure(n:Nat)(new:List (Nat×Value))
  (h:(kF P l N n i fr).map (λfr2=>oV fr2 (aQ [] (new++fr)))=some (iC (aQ [] (new++fr))))
  (k:OW P l N Q (i+n) (new++fr) w):OW P l N Q i fr w:=by
 cases hc:kF P l N n i fr with
 |none=>rw [hc] at h;cases h
 |some fr2=>
  rw [hc] at h;simp only [t5,g9] at h;exact Fp n i fr hc (λa ha=>k a (ha.agrees h))
theorem d9:type_of% @OW.pure:=OW.pure
theorem OW.split(s:Nat){c:Bool}(hs:kE fr s=some (.bool c))(ht:c=true->OW P l N Q i ((s,.bool true)::fr) w)(hf:c=false->OW P l N Q i ((s,.bool false)::fr) w):OW P l N Q i fr w:=by
 cases c with
 | true => exact fun a ha => ht rfl a ⟨ha.size, ha.defers, fun j v hj => by
   rw [bm] at hj;by_cases e:s=j
   ·subst e;rw [d7 rfl] at hj;exact ha.get _ _ (hs.trans hj)
   ·rw [d8 e] at hj;exact ha.get _ _ hj⟩
 | false => exact fun a ha => hf rfl a ⟨ha.size, ha.defers, fun j v hj => by
   rw [bm] at hj;by_cases e:s=j
   ·subst e;rw [d7 rfl] at hj;exact ha.get _ _ (hs.trans hj)
   ·rw [d8 e] at hj;exact ha.get _ _ hj⟩
theorem OW.op(hl:vk l i=some o)(hg:gd l fr o=some true)(hd:o.dst=some d)(hN:Nat.blt d N=true)
  (hr:∀a,Rep N fr a->(execOp a.eval o).run P w=.ok (.value v) w')
  (h:OW P l N Q (i+1) ((d,v)::fr) w'):OW P l N Q i fr w:=λa ha=>by
 rw [aP hl];refine wpList_step (λK hK=> ?_);rw [xV hg ha,d7 rfl];unfold Oper.wp;rw [hr a ha,Oper.upon_value,hd];exact hK _ _ (h _ (ha.put hN))
theorem j6:type_of% @OW.op:=OW.op
theorem OW.opn(hl:vk l i=some o)(hg:gd l fr o=some true)(hd:o.dst=none)
  (hr:∀a,Rep N fr a->(execOp a.eval o).run P w=.ok (.value v) w')
  (h:OW P l N Q (i+1) fr w'):OW P l N Q i fr w:=λa ha=>by
 rw [aP hl];refine wpList_step (λK hK=> ?_);rw [xV hg ha,d7 rfl];unfold Oper.wp;rw [hr a ha,Oper.upon_value,hd];exact hK _ _ (h _ ha)
theorem OW.ops(hl:vk l i=some o)(hg:gd l fr o=some true)(hd:o.dst=none)
  (hr:∀a,Rep N fr a->(execOp a.eval o).run P w=.ok .skip w')
  (h:OW P l N Q (i+1) fr w'):OW P l N Q i fr w:=λa ha=>by
 rw [aP hl];refine wpList_step (λK hK=> ?_);rw [xV hg ha,d7 rfl];unfold Oper.wp;rw [hr a ha,Oper.upon_skip,hd];exact hK _ _ (h _ ha)
theorem OW.call{args:Array Value}(hl:vk l i=some o)(hg:gd l fr o=some true)(hd:o.dst=some d)(hN:Nat.blt d N=true)
  (hr:∀a,Rep N fr a->(execOp a.eval o).run P w=.ok (.enter f args) w)
  (hc:Calls P f args w R)
  (h:∀e w',R e w'->∃v,e=.returned v/\OW P l N Q (i+1) ((d,v)::fr) w'):OW P l N Q i fr w:=λa ha=>by
 rw [aP hl];refine wpList_step (λK hK=> ?_);rw [xV hg ha,d7 rfl];unfold Oper.wp;rw [hr a ha,Oper.upon_enter];refine hc.mono (λe w' hR=> ?_);obtain ⟨v,rfl,h'⟩:=h e w' hR;simp only [hd];exact hK _ _ (h' _ (ha.put hN))
end
structure Chg (S:List Nat) (w w':World):Prop where
 os:w'.os=w.os
 tape:w'.tape=w.tape
 output:w'.output=w.output
 size:w.heap.size<=w'.heap.size
 block:∀k,k<w.heap.size->k∉S->w'.heap[k]? =w.heap[k]?
section
variable {S S':List Nat} {a w w' c:World}
theorem Chg.refl(S:List Nat)(w:World):Chg S w w:=⟨rfl,rfl,rfl,l6 _,λ_ _ _=>rfl⟩
theorem w9:type_of% @Chg.refl:=Chg.refl
theorem Chg.trans(h:Chg S a w)(k:Chg S w c):Chg S a c:=
 ⟨k.os.trans h.os,k.tape.trans h.tape,k.output.trans h.output,s9 h.size k.size,λi hi hn=>(k.block i (Nat.lt_of_lt_of_le hi h.size) hn).trans (h.block i hi hn)⟩
theorem Chg.alloc(w:World)(o:Obj):Chg S w (w.alloc o):=⟨rfl,rfl,rfl,by simp,λk hk _=>Below.heap_alloc _ _ _ hk⟩
theorem Chg.mono(h:Chg S a w)(hs:∀x,x∈S->x∈S'):Chg S' a w:={h with block:=λk hk hn=>h.block k hk (λhx=>hn (hs k hx))}
theorem Chg.grown{row:Option Nat}(h:w.grownBy w' row)(hr:∀b,row=some b->b∈S):Chg S w w':=
 {h with block:=λk hk hn=>h.block k hk (λe=>hn (hr k e.symm))}
theorem Chg.below(h:Chg [] a w):Below a.heap.size a w:=⟨h.os,h.tape,h.output,h.size,λk hk=>h.block k hk (by simp)⟩
end
structure Item where
 S:List Nat
 Φ:World->Prop
 loc:∀w w':World,(∀b∈S,w'.heap[b]? =w.heap[b]?)->Φ w->Φ w'
 lt:∀w,Φ w->∀b∈S,b<w.heap.size
def nilI:Item:=⟨[],λ_=>True,λ_ _ _ _=>trivial,λ_ _ _ h=>by cases h⟩
def fp:List Item->List Nat
 |[]=>[]
 |it::r=>it.S++fp r
theorem vw{L:List Item}{b:Nat}:b∈fp L↔∃(i:Nat)(it:Item),L[i]? =some it/\b∈it.S:=by
 induction L with
 |nil=>simp [fp]
 |cons it r ih=>
  simp only [fp,i5,ih];constructor
  ·rintro (h|⟨i,x,hi,hb⟩)
   ·exact ⟨0,it,rfl,h⟩
   ·exact ⟨i+1,x,hi,hb⟩
  grind
structure St (w0:World) (S0:List Nat) (w:World) (L:List Item):Prop where
 chg:Chg S0 w0 w
 all:∀(i:Nat)(it:Item),L[i]? =some it->it.Φ w
 nd:∀(i:Nat)(it:Item),L[i]? =some it->it.S.Nodup
 apart:∀(i j:Nat)(a b:Item),i≠j->L[i]? =some a->L[j]? =some b->∀x∈a.S,x∉b.S
 own:∀(i:Nat)(it:Item),L[i]? =some it->∀x∈it.S,x∈S0\/w0.heap.size<=x
def sel(L:List Item):List Nat->List Item
 |[]=>[]
 |i::r=>L.getD i nilI::sel L r
def zQ:List Nat->Bool
 |[]=>true
 |i::r=>match mem? i r with
  |true=>false
  |false=>zQ r
theorem et{L:List Item}{idx:List Nat}{k:Nat}{it:Item}(h:(sel L idx)[k]? =some it):∃i,idx[k]? =some i/\L.getD i nilI=it:=by
 induction idx generalizing k with
 |nil=>simp [sel] at h
 |cons j r ih=>
  grind [sel]
theorem cj{idx:List Nat}(h:zQ idx=true):∀{i j a b:Nat},i≠j->idx[i]? =some a->idx[j]? =some b->a≠b:=by
 induction idx with
 |nil=>intro i j a b _ h1;simp at h1
 |cons m r ih=>
  have hm:m∉r:=λhx=>by simp [zQ,mem?_iff.2 hx] at h
  grind [zQ]
theorem xK{L:List Item}{it:Item}(h:L.getD i nilI=it):L[i]? =some it\/it=nilI:=by
 grind
section
variable {w0 w w':World} {S0:List Nat} {L L':List Item} {it it':Item}
theorem St.same(h:St w0 S0 w L)(hc:Chg [] w w'):St w0 S0 w' L:=
 ⟨h.chg.trans (hc.mono (by simp)),λi it hi=>it.loc w w' (λb hb=>hc.block b (it.lt w (h.all i it hi) b hb) (by simp)) (h.all i it hi),h.nd,h.apart,h.own⟩
theorem St.upd(h:St w0 S0 w L)(i:Nat)(hi:L[i]? =some it)(hc:Chg it.S w w')(hΦ:it'.Φ w')(hS:∀b∈it'.S,b∈it.S\/w.heap.size<=b)(hnd:it'.S.Nodup):
  St w0 S0 w' (L.set i it'):=by
 have hlt:i<L.length:=(zes.1 hi).1
 have hset:∀(j:Nat)(x:Item),(L.set i it')[j]? =some x->(j=i/\x=it')\/(j≠i/\L[j]? =some x):=by
  grind
 refine ⟨⟨hc.os.trans h.chg.os,hc.tape.trans h.chg.tape,hc.output.trans h.chg.output,s9 h.chg.size hc.size,λk hk hn=> ?_⟩,λj x hj=> ?_,λj x hj=> ?_,λj k a b hjk hj hk x hx=> ?_,λj x hj y hy=> ?_⟩
 ·rw [hc.block k (Nat.lt_of_lt_of_le hk h.chg.size) (λhx=>by rcases h.own i it hi k hx with h1|h1;exact hn h1;omega)];exact h.chg.block k hk hn
 ·rcases hset j x hj with ⟨rfl,rfl⟩|⟨hne,hj⟩
  ·exact hΦ
  ·exact x.loc w w' (λb hb=>hc.block b (x.lt w (h.all j x hj) b hb) (h.apart j i x it hne hj hi b hb)) (h.all j x hj)
 ·rcases hset j x hj with ⟨rfl,rfl⟩|⟨hne,hj⟩
  ·exact hnd
  ·exact h.nd j x hj
 ·rcases hset j a hj with ⟨rfl,rfl⟩|⟨hne,hj2⟩
  ·rcases hset k b hk with ⟨rfl,rfl⟩|⟨hne,hk⟩
   ·grind
   ·intro hxb;rcases hS x hx with h1|h1
    ·exact h.apart j k it b (λe=>hne e.symm) hi hk x h1 hxb
    ·have:=b.lt w (h.all k b hk) x hxb;omega
  ·rcases hset k b hk with ⟨rfl,rfl⟩|⟨hne',hk⟩
   ·intro hxb;rcases hS x hxb with h1|h1
    ·exact h.apart j k a it hne hj2 hi x hx h1
    ·have:=a.lt w (h.all j a hj2) x hx;omega
   ·exact h.apart j k a b hjk hj2 hk x hx
 ·rcases hset j x hj with ⟨rfl,rfl⟩|⟨hne,hj⟩
  ·rcases hS y hy with h1|h1
   ·exact h.own j it hi y h1
   ·exact .inr (s9 h.chg.size h1)
  ·exact h.own j x hj y hy
theorem St.join{R:List Item}{rest:List Nat}(h:St w0 S0 w L){idx:List Nat}(hd:zQ (idx++rest)=true)(k:St w (fp (sel L idx)) w' R):St w0 S0 w' (R++sel L rest):=by
 have hrest:∀(j:Nat)(x:Item),(sel L rest)[j]? =some x->(∃i,rest[j]? =some i/\L[i]? =some x)\/x=nilI:=by
  grind [et,xK]
 have hfp:∀b,b∈fp (sel L idx)->∃(j i:Nat)(it:Item),idx[j]? =some i/\L[i]? =some it/\b∈it.S:=by
  intro b hb;obtain ⟨j,it,hj,hb⟩:=vw.1 hb;obtain ⟨i,hi,hx⟩:=et hj;rcases xK hx with hx|hx
  ·grind
  ·subst hx;cases hb
 have hno:∀(j i:Nat)(x:Item),rest[j]? =some i->L[i]? =some x->∀b∈x.S,b∉fp (sel L idx):=by
  intro j i x hj hx b hb hf;obtain ⟨j',i',it,hj',hi',hb'⟩:=hfp b hf;have hlt:j'<idx.length:=(zes.1 hj').1;have hne:i'≠i:=cj hd (i:=j') (j:=idx.length+j) (by omega) (by grind) (by grind);exact h.apart i' i it x hne hi' hx b hb' hb
 have hget:∀(j:Nat)(x:Item),(R++sel L rest)[j]? =some x->(j<R.length/\R[j]? =some x)\/(R.length<=j/\(sel L rest)[j-R.length]? =some x):=by
  grind
 have hR:∀(j:Nat)(x:Item),R[j]? =some x->∀b∈x.S,b∈fp (sel L idx)\/w.heap.size<=b:=k.own;refine ⟨⟨k.chg.os.trans h.chg.os,k.chg.tape.trans h.chg.tape,k.chg.output.trans h.chg.output,s9 h.chg.size k.chg.size,λb hb hn=> ?_⟩,λj x hj=> ?_,λj x hj=> ?_,λj j' a b hjk hj hj' x hx=> ?_,λj x hj y hy=> ?_⟩
 ·rw [k.chg.block b (Nat.lt_of_lt_of_le hb h.chg.size) (λhx=>by
   obtain ⟨_,i,it,_,hi,hb'⟩:=hfp b hx;rcases h.own i it hi b hb' with h1|h1
   ·exact hn h1
   ·omega)]
  exact h.chg.block b hb hn
 ·rcases hget j x hj with ⟨_,hj⟩|⟨_,hj⟩
  ·exact k.all j x hj
  ·rcases hrest _ x hj with ⟨i,hi,hx⟩|rfl
   ·exact x.loc w w' (λb hb=>k.chg.block b (x.lt w (h.all i x hx) b hb) (hno _ i x hi hx b hb)) (h.all i x hx)
   ·trivial
 ·rcases hget j x hj with ⟨_,hj⟩|⟨_,hj⟩
  ·exact k.nd j x hj
  ·rcases hrest _ x hj with ⟨i,hi,hx⟩|rfl
   ·exact h.nd i x hx
   ·exact l8
 ·have cross:∀(p q:Nat)(a b:Item),R[p]? =some a->(sel L rest)[q]? =some b->∀x∈a.S,x∉b.S:=by
   intro p q a b hp hq x hx hxb;rcases hrest q b hq with ⟨i,hi,hb⟩|rfl
   ·rcases hR p a hp x hx with h1|h1
    ·grind
    ·have:=b.lt w (h.all i b hb) x hxb;omega
   ·cases hxb
  rcases hget j a hj with ⟨_,hj⟩|⟨hg,hj⟩
  ·rcases hget j' b hj' with ⟨_,hj'⟩|⟨_,hj'⟩
   ·exact k.apart j j' a b hjk hj hj' x hx
   grind
  ·rcases hget j' b hj' with ⟨_,hj'⟩|⟨hg',hj'⟩
   ·grind
   ·intro hxb;rcases hrest _ a hj with ⟨i,hi,ha⟩|rfl
    ·rcases hrest _ b hj' with ⟨i',hi',hb⟩|rfl
     ·have hne:i≠i':=cj hd (i:=idx.length+(j-R.length)) (j:=idx.length+(j'-R.length)) (by omega)
       (by rw [y4 (by omega)];simpa using hi) (by rw [y4 (by omega)];simpa using hi')
      exact h.apart i i' a b hne ha hb x hx hxb
     ·cases hxb
    ·cases hx
 ·rcases hget j x hj with ⟨_,hj⟩|⟨_,hj⟩
  ·rcases hR j x hj y hy with h1|h1
   ·obtain ⟨_,i,it,_,hi,hb'⟩:=hfp y h1;exact h.own i it hi y hb'
   ·exact .inr (s9 h.chg.size h1)
  ·rcases hrest _ x hj with ⟨i,hi,hx⟩|rfl
   ·exact h.own i x hx y hy
   ·cases hy
theorem St.part(h:St w0 S0 w L)(idx:List Nat)(hd:zQ idx=true):St w (fp (sel L idx)) w (sel L idx):=by
 have hs:∀(j:Nat)(x:Item),(sel L idx)[j]? =some x->(∃i,idx[j]? =some i/\L[i]? =some x)\/x=nilI:=by
  grind [et,xK]
 refine ⟨w9 _ _,λj x hj=> ?_,λj x hj=> ?_,λj j' a b hjk hj hj' x hx=> ?_,λj x hj y hy=>.inl (vw.2 ⟨j,x,hj,hy⟩)⟩
 ·rcases hs j x hj with ⟨i,_,hx⟩|rfl
  ·exact h.all i x hx
  ·trivial
 ·rcases hs j x hj with ⟨i,_,hx⟩|rfl
  ·exact h.nd i x hx
  ·exact l8
 ·rcases hs j a hj with ⟨i,hi,ha⟩|rfl
  ·rcases hs j' b hj' with ⟨i',hi',hb⟩|rfl
   ·exact h.apart i i' a b (cj hd hjk hi hi') ha hb x hx
   ·intro hb;cases hb
  ·cases hx
theorem St.keep(h:St w0 S0 w L)(idx:List Nat)(hd:zQ idx=true):St w0 S0 w (sel L idx):=
 St.join (R:=[]) (rest:=idx) (idx:=[]) h hd ⟨w9 _ _,λ_ _ h=>by simp at h,λ_ _ h=>by simp at h,λ_ _ _ _ _ h=>by simp at h,λ_ _ h=>by simp at h⟩
theorem St.push(h:St w0 S0 w L)(hc:Chg [] w w')(hΦ:it.Φ w')(hf:∀b∈it.S,w.heap.size<=b)(hnd:it.S.Nodup):St w0 S0 w' (L++[it]):=by
 have hget:∀(j:Nat)(x:Item),(L++[it])[j]? =some x->(j<L.length/\L[j]? =some x)\/(j=L.length/\x=it):=by
  grind
 have hs:=h.same hc;refine ⟨hs.chg,λj x hj=> ?_,λj x hj=> ?_,λj j' a b hjk hj hj' x hx=> ?_,λj x hj y hy=> ?_⟩
 ·rcases hget j x hj with ⟨_,hj⟩|⟨_,rfl⟩
  ·exact hs.all j x hj
  ·exact hΦ
 ·rcases hget j x hj with ⟨_,hj⟩|⟨_,rfl⟩
  ·exact h.nd j x hj
  ·exact hnd
 ·rcases hget j a hj with ⟨_,hj2⟩|⟨e1,rfl⟩
  ·rcases hget j' b hj' with ⟨_,hj3⟩|⟨_,rfl⟩
   ·exact h.apart j j' a b hjk hj2 hj3 x hx
   ·intro hb;have:=hf x hb;have:=a.lt w (h.all j a hj2) x hx;omega
  ·rcases hget j' b hj' with ⟨_,hj3⟩|⟨e2,rfl⟩
   ·intro hb;have:=hf x hx;have:=b.lt w (h.all j' b hj3) x hb;omega
   ·omega
 ·rcases hget j x hj with ⟨_,hj⟩|⟨_,rfl⟩
  ·exact h.own j x hj y hy
  ·exact .inr (s9 h.chg.size (hf y hy))
end
def jT(b:Nat)(T:TypeId)(cs:List Value):Item where
 S:=[b]
 Φ w:=w.heap[b]? =some (.cells cs.toArray T (0,0))
 loc w w' h hb:=by rw [h b (by simp)];exact hb
 lt w h x hx:=by simp only [i6] at hx;subst hx;exact (w7.1 h).1
def jQ{α:Type}(enc:α->List Value):List α->List Value
 |[]=>[]
 |x::r=>enc x++jQ enc r
def cY:Value->Option Nat
 |.slice (some a) _ (_+1)=>some a.block
 |_=>none
theorem xL{a:Addr}{c:Nat}(h:0<c):cY (.slice (some a) n c)=some a.block:=by
 cases c with
 |zero=>omega
 |succ c=>rfl
theorem ez{a:Option Addr}:cY (.slice a n 0)=none:=by cases a<;>rfl
def dJ(w:World)(T:TypeId)(sz:Nat)(v:Value)(n:Nat)(xs:List Value):Prop:=
  xs.length=n*sz/\
  ((n=0/\∃a,v=.slice a 0 0)\/
   ∃g o cap cur,v=.slice (some ⟨g,o,none⟩) n cap/\0<cap/\w.heap[g]? =some (.cells cur T (0,0))/\n<=cap/\cap<=maxLen/\o+cap*sz<=cur.size/\(cur.toList.drop o).take (n*sz)=xs)
theorem dJ.loc{w:World}(h:∀b∈(cY v).toList,w'.heap[b]? =w.heap[b]?)(hr:dJ w T sz v n xs):dJ w' T sz v n xs:=by
 refine ⟨hr.1,?_⟩;rcases hr.2 with h1|⟨g,o,cap,cur,rfl,hp,hg,rest⟩
 ·exact .inl h1
 ·exact .inr ⟨g,o,cap,cur,rfl,hp,by grind [xL],rest⟩
theorem dJ.lt{w:World}(hr:dJ w T sz v n xs):∀b∈(cY v).toList,b<w.heap.size:=by
 intro b hb;rcases hr.2 with ⟨_,a,rfl⟩|⟨g,o,cap,cur,rfl,hp,hg,rest⟩
 ·grind [ez]
 grind [xL]
theorem dJ.nil(w:World)(T:TypeId)(sz:Nat)(a:Option Addr):dJ w T sz (.slice a 0 0) 0 []:=⟨by simp,.inl ⟨rfl,a,rfl⟩⟩
theorem dJ.fresh{w:World}{g cap:Nat}{cur:Array Value}(hg:w.heap[g]? =some (.cells cur T (0,0)))(hnc:n<=cap)(hm:cap<=maxLen)(hcs:cur.size=cap*sz):
  dJ w T sz (.slice (some ⟨g,0,none⟩) n cap) n (cur.toList.take (n*sz)):=by
 have hle:n*sz<=cap*sz:=o9 _ hnc;refine ⟨by grind,?_⟩;rcases yn cap with rfl|hp
 ·have:n=0:=by omega
  subst this
  grind
 ·exact .inr ⟨g,0,cap,cur,rfl,hp,hg,hnc,hm,by omega,by simp⟩
theorem cI:(cY v).toList.Nodup:=by grind
def qi(v:Value)(T:TypeId)(enc:α->List Value)(sz:Nat)(xs:List α):Item where
 S:=(cY v).toList
 Φ w:=dJ w T sz v xs.length (jQ enc xs)
 loc _ _ h hr:=hr.loc h
 lt _ hr:=hr.lt
theorem vj{xs:List α}:(qi v T enc sz xs).S.Nodup:=cI
theorem qP(he:∀x,(enc x).length=sz)(xs:List α):(jQ enc xs).length=xs.length*sz:=by
 induction xs with
 |nil=>simp [jQ]
 |cons x r ih=>simp only [jQ,p5,he,ih,v8,u4];omega
theorem mR(he:∀x,(enc x).length=sz){xs:List α}{t f:Nat}{x:α}{u:Value}(hx:xs[t]? =some x)(hu:(enc x)[f]? =some u):
  (jQ enc xs)[t*sz+f]? =some u:=by
 induction xs generalizing t with
 |nil=>simp at hx
 |cons y r ih=>
  cases t with
  |zero=>
   grind [jQ]
  |succ t=>
   grind [jQ]
theorem tM(xs ys:List α):jQ enc (xs++ys)=jQ enc xs++jQ enc ys:=by
 induction xs with
 |nil=>rfl
 |cons x r ih=>simp only [y7,jQ,ih,w6]
theorem gD(he:∀x,(enc x).length=sz)(_hp:0<sz){xs:List α}{q:Nat}{u:Value}(h:(jQ enc xs)[q]? =some u):
  ∃t f x,xs[t]? =some x/\(enc x)[f]? =some u/\q=t*sz+f:=by
 induction xs generalizing q with
 |nil=>simp [jQ] at h
 |cons y r ih=>
  simp only [jQ] at h;rcases Nat.lt_or_ge q (enc y).length with hlt|hge
  ·rw [x9 hlt] at h;exact ⟨0,q,y,rfl,h,by simp⟩
  ·rw [y4 hge] at h;obtain ⟨t,f,x,h1,h2,h3⟩:=ih h;exact ⟨t+1,f,x,by simpa using h1,h2,by grind⟩
theorem Fq{xs:List α}{u:Value}(h:u∈jQ enc xs):∃x,u∈enc x:=by
 induction xs with
 |nil=>simp [jQ] at h
 |cons y r ih=>
  grind [jQ]
def qG(cs vs:List Value)(o:Nat):List Value:=cs.take o++vs++cs.drop (o+vs.length)
theorem Al(he:∀x,(enc x).length=sz){xs:List α}{t f:Nat}{x x':α}{vs:List Value}(hx:xs[t]? =some x)
  (hf:f+vs.length<=sz) (hs:qG (enc x) vs f=enc x'):qG (jQ enc xs) vs (t*sz+f)=jQ enc (xs.set t x'):=by
 induction xs generalizing t with
 |nil=>simp at hx
 |cons y r ih=>
  cases t with
  |zero=>
   grind [jQ,qG]
  |succ t=>
   have:=ih (t:=t) (by simpa using hx);have hy:=he y;simp only [jQ,List.set_cons_succ];rw [<- this];unfold qG;rw [List.take_append,r7 (by grind),RG,x8 (by grind),hy]
   grind
def idx(xs:List α)(t:Int):Option α:=if 0<=t then xs[t.toNat]? else none
theorem zU{xs:List α}{t:Int}{x:α}(h:idx xs t=some x):0<=t/\t<xs.length/\xs[t.toNat]? =some x:=by
 grind [idx]
theorem oW{w:World}{t:TypeId}{a:Addr}(hA:aj P (isAgg t)=some false)(hc:w.cell? a=some v):
  (Instr.loadAt t (.pointer (some a))).run P w=.ok v w:=by
 simp [Instr.loadAt,Instr.sureAddr,loadVar,qV hA,load,Sem.run,hc]
theorem dy{b o k:Nat}:(⟨b,o,none⟩:Addr).add k=⟨b,o+k,none⟩:=by
 unfold Addr.add
 grind
theorem oX{w:World}{t:TypeId}{b o:Nat}{cs:List Value}(hA:aj P (isAgg t)=some true)(hs:aj P (sizeOf t)=some cs.length)
  (hc:∀j u,cs[j]? =some u->w.cell? ⟨b,o+j,none⟩=some u):
  (Instr.loadAt t (.pointer (some ⟨b,o,none⟩))).run P w=.ok (.agg cs.toArray) w:=by
 have:=run_loadCells_list (P:=P) w ⟨b,o,none⟩ cs (λj v hj=>by grind [dy]);simp [Instr.loadAt,Instr.sureAddr,loadVar,qV hA,qV hs,this]
def eA:List Value->Bool
 |[]=>true
 |v::r=>match v.oneCell' with
  |true=>eA r
  |false=>false
theorem eB{l:List Value}(h:eA l=true):∀v∈l,v.oneCell'=true:=by
 induction l with
 |nil=>intro v hv;cases hv
 |cons x r ih=>
  grind [eA]
theorem pJ{w:World}{t:TypeId}{g o:Nat}{cur:Array Value}(hs:aj P (sizeOf t)=some v.cells.toList.length)(h1:eA v.cells.toList=true)
  (hg:w.heap[g]? =some (.cells cur T (0,0))) (hle:o+v.cells.toList.length<=cur.size):
  (Instr.storeAt t (.pointer (some ⟨g,o,none⟩)) v).run P w=.ok () (w.setRow g (qG cur.toList v.cells.toList o).toArray):=by
 have hst:=run_storeCells_at (P:=P) g o T v.cells.toList 0 cur w hg (by simpa using hle) (eB h1);have hsz:=qV hs w;have hsz':v.cells.size=v.cells.toList.length:=by simp
 unfold Instr.storeAt Instr.sureAddr storeVar;simp only [Sem.run_bind,Sem.run_pure,Result.andThen_ok,hsz,hsz',ne_eq,not_true_eq_false,x3]
 grind [qG]
section
variable {P:Program} {N:Nat} {Q:Exit->Act->World->Prop} {fr fr':List (Nat×Value)} {w w0:World} {l:List Oper} {i:Nat} {o:Oper} {S0:List Nat} {L:List Item}
theorem St.blk(h:St w0 S0 w L)(j:Nat){b:Nat}{cs:List Value}(hj:L[j]? =some (jT b T cs)){k:Nat}(hv:cs[k]? =some v):w.cell? ⟨b,k,none⟩=some v:=by
 have:=h.all j _ hj;rw [cell_of_row w b k cs.toArray T (0,0) this]
 simpa using hv
theorem St.row(h:St w0 S0 w L)(j:Nat){xs:List α}(hj:L[j]? =some (qi v T enc sz xs))(he:∀x,(enc x).length=sz)
  {t:Int} {x:α} (hx:idx xs t=some x):∃g o cap,v=.slice (some ⟨g,o,none⟩) xs.length cap/\∀f u,(enc x)[f]? =some u->w.cell? ⟨g,o+t.toNat*sz+f,none⟩=some u:=by
 have hr:=h.all j _ hj;obtain ⟨h0,h1,h2⟩:=zU hx;rcases hr.2 with ⟨hn,_⟩|⟨g,o,cap,cur,rfl,_,hg,_,_,_,htake⟩
 ·omega
 ·refine ⟨g,o,cap,rfl,λf u hu=> ?_⟩;have:=mR he h2 hu;rw [<- htake,List.getElem?_take] at this;split at this
  ·rw [cell_of_row w g _ cur T (0,0) hg,yq];rw [List.getElem?_drop] at this
   simpa using this
  ·cases this
theorem St.rowv(h:St w0 S0 w L)(j:Nat){xs:List α}(hj:L[j]? =some (qi v T enc sz xs))
  {t:Int} {x:α} (hx:idx xs t=some x):∃g o cap,v=.slice (some ⟨g,o,none⟩) xs.length cap:=by
 have hr:=h.all j _ hj;obtain ⟨h0,h1,h2⟩:=zU hx;rcases hr.2 with ⟨hn,_⟩|⟨g,o,cap,cur,rfl,_⟩
 ·omega
 grind
theorem St.rowc(h:St w0 S0 w L)(j:Nat){xs:List α}(hj:L[j]? =some (qi v T enc sz xs))(he:∀x,(enc x).length=sz)
  {t:Int} {x:α} (hx:idx xs t=some x) {g o cap:Nat} (hv:v=.slice (some ⟨g,o,none⟩) n cap):∀f u,(enc x)[f]? =some u->w.cell? ⟨g,o+t.toNat*sz+f,none⟩=some u:=by
 obtain ⟨g',o',c',hv',hc⟩:=h.row j hj he hx
 grind
theorem St.len(h:St w0 S0 w L)(j:Nat){xs:List α}(hj:L[j]? =some (qi v T enc sz xs)):
  xs.length<=9223372036854775807/\∃a c,v=.slice a xs.length c:=by
 have hr:=h.all j _ hj;rcases hr.2 with ⟨hn,a,rfl⟩|⟨g,o,cap,cur,rfl,_,hg,hnc,hm,_,htake⟩
 ·grind
 ·refine ⟨?_,_,_,rfl⟩;simp only [maxLen] at hm;omega
theorem OW.idx(e sz:Nat){t:TypeId}{af:Array Edge}(hl:vk l i=some ⟨some d,.indexAddr t x y,ty,pos,af,gdd⟩)
  (hg:gd l fr ⟨some d,.indexAddr t x y,ty,pos,af,gdd⟩=some true) (hN:Nat.blt d N=true)
  {b k c:Nat} {q:Int} {kd:IntKind} (hx:look fr x=some v) (hv:v=.slice (some ⟨b,k,none⟩) n c) (hy:look fr y=some (.int kd q)) (h0:0<=q) (h1:q<n)
  (ht:P.underlying t=some (.slice e)) (hs:aj P (sizeOf e)=some sz)
  (h:OW P l N Q (i+1) ((d,.pointer (some ⟨b,k+q.toNat*sz,none⟩))::fr) w):OW P l N Q i fr w:=by
 refine j6 hl hg rfl hN (λa ha=> ?_) h;have e1:=ha.look hx;have e2:=ha.look hy;subst hv;simp [execOp,Instr.indexAt,e1,e2,asIntOf,run_underlying ht,h0,h1,qV hs,dy]
theorem OW.ld{t:TypeId}{af:Array Edge}(hl:vk l i=some ⟨some d,.load t x,ty,pos,af,gdd⟩)
  (hg:gd l fr ⟨some d,.load t x,ty,pos,af,gdd⟩=some true) (hN:Nat.blt d N=true)
  {a:Addr} (hx:look fr x=some (.pointer (some a))) (hA:aj P (isAgg t)=some false) (hc:w.cell? a=some v)
  (h:OW P l N Q (i+1) ((d,v)::fr) w):OW P l N Q i fr w:=by
 refine j6 hl hg rfl hN (λa ha=> ?_) h;have e1:=ha.look hx;simp [execOp,e1,oW hA hc]
theorem OW.stB{t:TypeId}{af:Array Edge}(hst:St w0 S0 w L)(j:Nat){b:Nat}{cs:List Value}(hj:L[j]? =some (jT b T cs))
  (hl:vk l i=some ⟨none,.store t x y,ty,pos,af,gdd⟩) (hg:gd l fr ⟨none,.store t x y,ty,pos,af,gdd⟩=some true)
  {k:Nat} (hx:look fr x=some (.pointer (some ⟨b,k,none⟩))) (hy:look fr y=some v)
  (hs:aj P (sizeOf t)=some v.cells.toList.length) (h1:eA v.cells.toList=true) (hle:Nat.ble (k+v.cells.toList.length) cs.length=true) (cs':List Value) (hcs:qG cs v.cells.toList k=cs')
  (h:∀w',St w0 S0 w' (L.set j (jT b T cs'))->OW P l N Q (i+1) fr w'):OW P l N Q i fr w:=by
 have hb:=hst.all j _ hj;have hle':=q8 hle;refine OW.ops hl hg rfl (w':=w.setRow b (qG cs.toArray.toList v.cells.toList k).toArray) (λa ha=> ?_) (h _ ?_)
 ·have e1:=ha.look hx;have e2:=ha.look hy;have:=pJ (P:=P) (w:=w) (T:=T) (g:=b) hs h1 hb (by simpa using hle');simp [execOp,e1,e2,this]
 ·subst hcs;refine hst.upd j hj ⟨rfl,rfl,rfl,by simp [World.setRow],λq _ hn=>setRow_other w b q _ (by grind [jT])⟩ ?_ (λq hq=>.inl hq) (by simp [jT]);show (w.setRow b _).heap[b]? =_;rw [setRow_heap w b cs.toArray _ T (0,0) hb]
theorem cJ{cs vs:List Value}{o k:Nat}(h1:o<=k)(h2:k+vs.length<=o+n)(_h3:o+n<=cs.length):((qG cs vs k).drop o).take n=qG ((cs.drop o).take n) vs (k-o):=by
 unfold qG;rw [w6,RG,List.drop_take,yw,show o-min k cs.length=0 by omega,List.drop_zero,List.take_append,List.take_append,z7,z7];simp only [yw,List.length_drop];rw [show min n (k-o)=k-o by omega,show min (k-o) n=k-o by omega,show n-min (k-o) (cs.length-o)=n-(k-o) by omega];rw [r7 (l:=vs) (by omega),w6]
 congr 2
 rw [List.drop_take,yl]
 grind
theorem OW.stR{t:TypeId}{af:Array Edge}(hst:St w0 S0 w L)(j:Nat){hd:Value}{g o cap:Nat}{xs:List α}
  (hj:L[j]? =some (qi hd T enc sz xs)) (hv:hd=.slice (some ⟨g,o,none⟩) n cap) (he:∀x,(enc x).length=sz)
  (hl:vk l i=some ⟨none,.store t x y,ty,pos,af,gdd⟩) (hg:gd l fr ⟨none,.store t x y,ty,pos,af,gdd⟩=some true)
  {q:Int} {z:α} (hz:Sx.idx xs q=some z) (f:Nat) {k:Nat} (hx:look fr x=some (.pointer (some ⟨g,k,none⟩))) (hk:k=o+q.toNat*sz+f) (hy:look fr y=some v)
  (hs:aj P (sizeOf t)=some v.cells.toList.length) (h1:eA v.cells.toList=true) (hf:Nat.ble (f+v.cells.toList.length) sz=true) (z':α) (hz':qG (enc z) v.cells.toList f=enc z')
  (h:∀w',St w0 S0 w' (L.set j (qi hd T enc sz (xs.set q.toNat z')))->OW P l N Q (i+1) fr w'):OW P l N Q i fr w:=by
 subst hv;have hr:=hst.all j _ hj;have hf':=q8 hf;obtain ⟨h0,hq,hq2⟩:=zU hz;rcases hr.2 with ⟨hn,_⟩|⟨g',o',cap',cur,hc,hp,hgc,hnc,hm,hcs,htake⟩
 ·omega
 ·simp only [Value.slice.injEq,g9,Addr.mk.injEq,and_true] at hc;obtain ⟨⟨rfl,rfl⟩,rfl,rfl⟩:=hc;have hql:q.toNat<xs.length:=by omega
  have hsz:q.toNat*sz+sz<=xs.length*sz:=by rw [<- y5];exact o9 _ hql
  have hcap:xs.length*sz<=cap*sz:=o9 _ hnc;have hfit:k+v.cells.toList.length<=cur.size:=by rw [hk];omega
  refine OW.ops hl hg rfl (w':=w.setRow g (qG cur.toList v.cells.toList k).toArray) (λa ha=> ?_) (h _ ?_)
  ·have e1:=ha.look hx;have e2:=ha.look hy;have:=pJ (P:=P) (w:=w) (T:=T) (g:=g) hs h1 hgc hfit;simp [execOp,e1,e2,this]
  ·have hlen:(qG cur.toList v.cells.toList k).length=cur.size:=by simp [qG] at hfit |-;omega
   refine hst.upd j hj ⟨rfl,rfl,rfl,by simp [World.setRow],λq _ hn=>setRow_other w g q _ (by grind [qi,xL])⟩ ?_ (λq hq=>.inl hq) vj;show dJ (w.setRow g _) T sz _ _ _;refine ⟨by rw [qP he],.inr ⟨g,o,cap,_,by simp,hp,setRow_heap w g cur _ T _ hgc,by simpa using hnc,hm,by grind,?_⟩⟩;have hset:=Al he (f:=f) (vs:=v.cells.toList) hq2 hf' hz'
   grind [cJ]
theorem ob{w:World}{c:Nat}{xs:List α}{b:Nat}(hb:b∈(qi (.slice (some ⟨w.heap.size,0,none⟩) n c) T enc sz xs).S):w.heap.size<=b:=by
 cases c with
 |zero=>simp [qi,ez] at hb
 |succ c=>simp [qi,cY] at hb;omega
theorem OW.alloc{d e:Nat}{ty:TypeId}{pos:String}{af:Array Edge}{gdd:Option (Nat×Bool)}(hst:St w0 S0 w L)
  (hl:vk l i=some ⟨some d,.alloc e,ty,pos,af,gdd⟩) (hg:gd l fr ⟨some d,.alloc e,ty,pos,af,gdd⟩=some true) (hN:Nat.blt d N=true)
  (cs:List Value) (hz:(aj P (zeroValue e)).map (·.cells.toList)=some cs)
  (h:∀b w',St w0 S0 w' (L++[jT b e cs])->OW P l N Q (i+1) ((d,.pointer (some ⟨b,0,none⟩))::fr) w'):OW P l N Q i fr w:=by
 cases hq:aj P (zeroValue e) with
 |none=>rw [hq] at hz;cases hz
 |some z=>
  rw [hq] at hz;simp only [t5,g9] at hz;refine j6 hl hg rfl hN (w':=w.alloc (.cells z.cells e)) (λa _=> ?_) (h w.heap.size _ ?_)
  ·simp [execOp,Instr.alloc,qV hq,newVar,newRow,newObj,Sem.run]
  ·refine hst.push (Chg.alloc _ _) ?_ (λb hb=>by grind [jT]) (by simp [jT]);show (w.alloc _).heap[w.heap.size]? =_;rw [heap_alloc_new,<- hz]
theorem OW.box{d e:Nat}{x:Operand}{v:Value}{ty:TypeId}{pos:String}{af:Array Edge}{gdd:Option (Nat×Bool)}(hst:St w0 S0 w L)
  (hl:vk l i=some ⟨some d,.box e x,ty,pos,af,gdd⟩) (hg:gd l fr ⟨some d,.box e x,ty,pos,af,gdd⟩=some true) (hN:Nat.blt d N=true)
  (hx:look fr x=some v) (cs:List Value) (hz:v.cells.toList=cs)
  (h:∀b w',St w0 S0 w' (L++[jT b e cs])->OW P l N Q (i+1) ((d,.pointer (some ⟨b,0,none⟩))::fr) w'):OW P l N Q i fr w:=by
 refine j6 hl hg rfl hN (w':=w.alloc (.cells v.cells e)) (λa ha=> ?_) (h w.heap.size _ ?_)
 ·have e1:=ha.look hx;simp [execOp,e1,Instr.box,newVar,newRow,newObj,Sem.run]
 ·refine hst.push (Chg.alloc _ _) ?_ (λb hb=>by grind [jT]) (by simp [jT]);show (w.alloc _).heap[w.heap.size]? =_;rw [heap_alloc_new,<- hz]
theorem OW.row{t:Nat}{ps:List (Nat×Operand)}{af:Array Edge}(hst:St w0 S0 w L)
  (hl:vk l i=some ⟨some d,.buildSlice t n ps.toArray,ty,pos,af,gdd⟩) (hg:gd l fr ⟨some d,.buildSlice t n ps.toArray,ty,pos,af,gdd⟩=some true) (hN:Nat.blt d N=true) (xs:List α) (hn:xs.length=n) (he:∀x,(enc x).length=sz) (hm:Nat.ble n 9223372036854775807=true)
  (hsn:sb fr (ps.map (·.2))=true)
  (hz:∀w,(Instr.buildSlice t n (ps.toArray.map λ(i,x)=>(i,rho fr x))).run P w=.ok (.slice (some ⟨w.heap.size,0,none⟩) n n) (w.alloc (.cells (jQ enc xs).toArray e)))
  (h:∀g w',St w0 S0 w' (L++[qi (.slice (some ⟨g,0,none⟩) n n) e enc sz xs])->OW P l N Q (i+1) ((d,.slice (some ⟨g,0,none⟩) n n)::fr) w'):OW P l N Q i fr w:=by
 refine j6 hl hg rfl hN (w':=w.alloc (.cells (jQ enc xs).toArray e)) (λa ha=> ?_) (h w.heap.size _ ?_)
 ·have hp:(ps.toArray.map λ(i,x)=>(i,a.eval x))=ps.toArray.map λ(i,x)=>(i,rho fr x):=gC (λx hx=>by
   obtain ⟨j,x⟩:=x;simp only [o7,true_and];exact ha.look (Ak hsn x (by simpa using ⟨j,by simpa using hx⟩)))
  simp only [execOp,hp,Sem.run_bind,hz,Result.andThen_ok,Sem.run_pure]
 ·refine hst.push (Chg.alloc _ _) ?_ (λb hb=>ob hb) vj;have:=dJ.fresh (w:=w.alloc (.cells (jQ enc xs).toArray e)) (T:=e) (sz:=sz) (n:=n) (cap:=n) (heap_alloc_new w _) (l6 _) (by have:=q8 hm;simp only [maxLen];omega) (by simp [qP he,hn]);have e1:(jQ enc xs).toArray.toList.take (n*sz)=jQ enc xs:=r7 (by simp [qP he,hn]);rw [e1] at this
  simpa [qi,hn] using this
end
def Rd(w:World)(S:List Nat)(v:Value)(enc:α->List Value)(sz:Nat)(xs:List α):Prop:=
 xs.length<=9223372036854775807/\∃a c,v=.slice a xs.length c/\xs.length<=c/\∀t x f u,xs[t]? =some x->(enc x)[f]? =some u->∃b o,a=some ⟨b,o,none⟩/\b∉S/\w.cell? ⟨b,o+t*sz+f,none⟩=some u
section
variable {w0 w:World} {S0:List Nat} {L:List Item} {α:Type} {v:Value} {enc:α->List Value} {sz:Nat} {xs:List α}
theorem lj{w:World}{a:Addr}{v:Value}(h:w.cell? a=some v):a.block<w.heap.size:=World.block_lt_of_cell? w a h
theorem Rd.on(h:Rd w0 S0 v enc sz xs)(hst:St w0 S0 w L):Rd w S0 v enc sz xs:=by
 obtain ⟨hn,a,c,hv,hlc,hc⟩:=h;refine ⟨hn,a,c,hv,hlc,λt x f u hx hu=> ?_⟩;obtain ⟨b,o,ha,hb,hcell⟩:=hc t x f u hx hu;exact ⟨b,o,ha,hb,(World.cell?_of_block (hst.chg.block b (lj hcell) hb)).trans hcell⟩
theorem Rd.give(h:Rd w0 S0 v enc sz xs)(hst:St w0 S0 w L)(idx:List Nat):Rd w (fp (sel L idx)) v enc sz xs:=by
 obtain ⟨hn,a,c,hv,hlc,hc⟩:=h;refine ⟨hn,a,c,hv,hlc,λt x f u hx hu=> ?_⟩;obtain ⟨b,o,ha,hb,hcell⟩:=hc t x f u hx hu;refine ⟨b,o,ha,λhf=> ?_,(World.cell?_of_block (hst.chg.block b (lj hcell) hb)).trans hcell⟩;obtain ⟨j,it,hj,hbs⟩:=vw.1 hf;obtain ⟨k,_,hk⟩:=et hj;rcases xK hk with hk|rfl
 ·rcases hst.own k it hk b hbs with h1|h1
  ·exact hb h1
  ·have:=lj hcell;simp only at this;omega
 ·cases hbs
theorem Rd.form(h:Rd w S0 v enc sz xs)(hsz:∀x,∃u,(enc x)[0]? =some u){t:Int}{x:α}(hx:idx xs t=some x):
  ∃b o c,v=.slice (some ⟨b,o,none⟩) xs.length c/\∀f u,(enc x)[f]? =some u->w.cell? ⟨b,o+t.toNat*sz+f,none⟩=some u:=by
 obtain ⟨_,a,c,hv,_,hc⟩:=h;obtain ⟨_,_,h2⟩:=zU hx;obtain ⟨u0,hu0⟩:=hsz x;obtain ⟨b,o,ha,_,_⟩:=hc _ x 0 u0 h2 hu0;refine ⟨b,o,c,by rw [hv,ha],λf u hu=> ?_⟩
 grind
theorem Rd.formv(h:Rd w S0 v enc sz xs)(hsz:∀x,∃u,(enc x)[0]? =some u){t:Int}{x:α}(hx:idx xs t=some x):∃b o c,v=.slice (some ⟨b,o,none⟩) xs.length c:=by
 obtain ⟨b,o,c,hv,_⟩:=h.form hsz hx;exact ⟨b,o,c,hv⟩
theorem Rd.cellv(h:Rd w S0 v enc sz xs)(hst:St w S0 w0 L){t:Int}{x:α}(hx:idx xs t=some x){b o c:Nat}(hv:v=.slice (some ⟨b,o,none⟩) n c):
  ∀f u,(enc x)[f]? =some u->w0.cell? ⟨b,o+t.toNat*sz+f,none⟩=some u:=by
 obtain ⟨_,a,c',hv',_,hc⟩:=h.on hst;obtain ⟨_,_,h2⟩:=zU hx
 grind
theorem Rd.nil(w:World)(S:List Nat)(enc:α->List Value)(sz c:Nat):Rd w S (.slice none 0 c) enc sz ([]:List α):=⟨by simp,none,c,rfl,Nat.zero_le _,λt x f u hx=>by simp at hx⟩
theorem Rd.len(h:Rd w S0 v enc sz xs):xs.length<=9223372036854775807/\∃a c,v=.slice a xs.length c:=⟨h.1,let ⟨a,c,hv,_⟩:=h.2;⟨a,c,hv⟩⟩
theorem kG{w:World}{v:Value}{enc:α->List Value}{sz:Nat}{xs:List α}(he:∀x,(enc x).length=sz)(hr:dJ w T sz v xs.length (jQ enc xs)){F:List Nat}(hF:∀b∈(cY v).toList,b∉F):
  Rd w F v enc sz xs:=by
 rcases hr.2 with ⟨h0,a,rfl⟩|⟨g,o,cap,cur,rfl,hp,hg,hnc,hm,hcs,htake⟩
 ·refine ⟨by omega,a,0,by rw [h0],by omega,λt x f u hx=> ?_⟩
  grind
 ·refine ⟨by simp only [maxLen] at hm;omega,_,_,rfl,hnc,λt x f u hx hu=>⟨g,o,rfl,hF g (by simp [xL hp]),?_⟩⟩;have:=mR he hx hu;rw [<- htake,List.getElem?_take] at this;split at this
  ·rw [cell_of_row w g _ cur T (0,0) hg,yq]
   grind
  ·cases this
theorem St.noin(hst:St w0 S0 w L){A:Item}(j:Nat)(hj:L[j]? =some A)(idx:List Nat)(hn:mem? j idx=false):∀b∈A.S,b∉fp (sel L idx):=by
 intro b hb hf;obtain ⟨k,it,hk,hbs⟩:=vw.1 hf;obtain ⟨k',hk',hk⟩:=et hk;rcases xK hk with hk|rfl
 ·have hne:j≠k':=by
   rintro rfl;have:=mem?_iff.2 (zmg hk')
   grind
  exact hst.apart j k' A it hne hj hk b hb hbs
 ·cases hbs
theorem St.rd(hst:St w0 S0 w L)(j:Nat)(hj:L[j]? =some (qi v T enc sz xs))(he:∀x,(enc x).length=sz)(idx:List Nat)(hn:mem? j idx=false)(_hlen:xs.length<=9223372036854775807):
 Rd w (fp (sel L idx)) v enc sz xs:=kG he (hst.all j _ hj) (hst.noin j hj idx hn)
end
section
variable {P:Program} {N:Nat} {Q:Exit->Act->World->Prop} {fr fr':List (Nat×Value)} {w w0:World} {l:List Oper} {i:Nat} {o:Oper} {S0:List Nat} {L:List Item}
theorem hP{P:Program}{w:World}{t e:TypeId}(ht:P.underlying t=some (.slice e))(hs:aj P (sizeOf e)=some n)(hown:dJ w e sz v m xs)(a:Option Addr)(c:Nat):
  (Builtin.append_ #[t,t] ty #[v,.slice a 0 c]).run P w=.ok v w:=by
 rcases hown.2 with ⟨_,b,rfl⟩|⟨g,o,cap,cur,rfl,_,_,hnc,_⟩
 ·cases a<;>cases b<;>simp [Builtin.append_,run_underlying ht,qV hs,Builtin.lenOf,Builtin.firstCells,loadCells,loadCellsFrom,storeCells]
 ·cases a<;>simp [Builtin.append_,run_underlying ht,qV hs,Builtin.lenOf,Builtin.firstCells,hnc,loadCells,loadCellsFrom,storeCells]
theorem lA{P:Program}(w:World)(t ty e:TypeId)(i:TypeInfo)(ht:P.underlying t=some (.slice e))(hi:P.info? e=some i)
  (g o sLen sCap:Nat) (cur:Array Value) (hg:w.heap[g]? =some (.cells cur e (0,0)))
  (a:Addr) (m c:Nat) (news:List Value) (hl:news.length=m*i.size) (hnews:∀j u,news[j]? =some u->w.cell? (a.add j)=some u) (h1:∀u∈news,u.oneCell'=true)
  (hroom:sLen+m<=sCap) (hfit:o+sLen*i.size+news.length<=cur.size):
  (Builtin.append_ #[t,t] ty #[.slice (some ⟨g,o,none⟩) sLen sCap,.slice (some a) m c]).run P w=
   .ok (.slice (some ⟨g,o,none⟩) (sLen+m) sCap) (w.setRow g (qG cur.toList news (o+sLen*i.size)).toArray):=by
 have hf:=run_firstCells_some (P:=P) w i.size m a m c news hl hnews;have hst:=run_storeCells_at P g (o+sLen*i.size) e news 0 cur w hg (by simpa using hfit) h1;simp only [Nat.add_zero] at hst;simp [Builtin.append_,run_underlying ht,sizeOf,typeInfo,hi,Builtin.lenOf,hroom,hf,dy,hst,qG]
theorem I8{P:Program}(w:World)(t ty e:TypeId)(i:TypeInfo)(z:Value)(size bytes:Nat)(ht:P.underlying t=some (.slice e))(hi:P.info? e=some i)(hz:i.zero=some z)
  (hsize:i.size=size) (hby:i.bytes=bytes) (hzs:z.cells.size=size) (v:Value) (n:Nat) (xs:List Value) (hown:dJ w e size v n xs)
  (a:Addr) (m c:Nat) (hm0:0<m) (news:List Value) (hl:news.length=m*size) (hnews:∀j u,news[j]? =some u->w.cell? (a.add j)=some u) (h1:∀u∈news,u.oneCell'=true)
  (h63:n+m<=maxLen) (hbytes:(n+m)*bytes<=140737488355328):
  ∃v' w',(Builtin.append_ #[t,t] ty #[v,.slice (some a) m c]).run P w=.ok v' w'/\dJ w' e size v' (n+m) (xs++news)/\w.grownBy w' (cY v)/\(cY v'=cY v\/cY v'=some w.heap.size):=by
 subst hsize;subst hby;have hsmall:n+m<=9223372036854775807:=by simp only [maxLen] at h63;omega
 have hlen:(xs++news).length=(n+m)*i.size:=by rw [p5,hown.1,hl,u4]
 have grown:∀(old:Nat),old<n+m->∀(row:Option Nat),
   dJ (w.drew.alloc (.cells (xs.toArray++news.toArray++Builtin.zeroCells z.cells (grownCap w (n+m) old e-(n+m))) e)) e i.size
    (.slice (some ⟨w.heap.size,0,none⟩) (n+m) (grownCap w (n+m) old e)) (n+m) (xs++news)/\
   w.grownBy (w.drew.alloc (.cells (xs.toArray++news.toArray++Builtin.zeroCells z.cells (grownCap w (n+m) old e-(n+m))) e)) row/\cY (.slice (some ⟨w.heap.size,0,none⟩) (n+m) (grownCap w (n+m) old e))=some w.heap.size:=by
  intro old ho row;have hge:=grownCap_ge w (n+m) old e;have hcm:grownCap w (n+m) old e<=maxLen:=grownCap_le_maxLen w (n+m) old e h63;refine ⟨⟨hlen,.inr ⟨w.heap.size,0,_,_,rfl,by omega,heap_alloc_new w.drew _,hge,hcm,?_,?_⟩⟩,⟨rfl,rfl,rfl,by simp,λk hk _=>heap_alloc_old w.drew _ hk⟩,xL (by omega)⟩
  ·simp only [Array.size_append,List.size_toArray,size_zeroCells,hzs,hown.1,hl,<- u4,x4]
   grind
  grind
 rcases hown.2 with ⟨rfl,b,rfl⟩|⟨g,o,cap,cur,rfl,hp,hg,hnc,hcm,hcs,htake⟩
 ·have hx:xs=[]:=yx (by simpa using hown.1);subst hx;cases b with
  |none=>
   have hr:=run_append_nil (P:=P) w t ty e i z ht hi hz a m c news hl hnews hm0 (by omega) (by grind);have hgr:=grown 0 (by omega) (cY (.slice none 0 0))
   grind
  |some b=>
   have hr:=run_append_grow (P:=P) w t ty e i z ht hi hz b 0 0 [] (by simp) (λj v hj=>by simp at hj) a m c news hl hnews (by omega) (by omega) (growslice_fits (by omega) hbytes);have hgr:=grown 0 (by omega) (cY (.slice (some b) 0 0))
   grind
 ·by_cases hroom:n+m<=cap
  ·have hle:(n+m)*i.size<=cap*i.size:=o9 _ hroom;have hmul:(n+m)*i.size=n*i.size+m*i.size:=u4 ..;have hfit:o+n*i.size+news.length<=cur.size:=by rw [hl];omega
   have hr:=lA (P:=P) w t ty e i ht hi g o n cap cur hg a m c news hl hnews h1 hroom hfit;refine ⟨_,_,hr,⟨hlen,.inr ⟨g,o,cap,_,rfl,hp,setRow_heap w g cur _ e _ hg,hroom,hcm,?_,?_⟩⟩,⟨rfl,rfl,rfl,by simp [World.setRow],λk _ hk=>setRow_other w g k _ (λe=>hk (by grind [xL]))⟩,.inl (by grind [xL])⟩
   ·grind [qG]
   grind [qG,cJ]
  ·have holds:∀j u,xs[j]? =some u->w.cell? ((⟨g,o,none⟩:Addr).add j)=some u:=by
    intro j u hu;rw [dy,cell_of_row w g _ cur e (0,0) hg]
    grind
   have hr:=run_append_grow (P:=P) w t ty e i z ht hi hz ⟨g,o,none⟩ n cap xs hown.1 holds a m c news hl hnews (by omega) (by omega) (growslice_fits (by omega) hbytes);have hgr:=grown cap (by omega) (cY (.slice (some ⟨g,o,none⟩) n cap))
   grind
structure tN (P:Program) (e sz bytes:Nat):Prop where
 size:aj P (sizeOf e)=some sz
 Ut:∃i z,P.info? e=some i/\i.zero=some z/\i.size=sz/\i.bytes=bytes/\z.cells.size=sz
 pos:0<sz
 UB:0<bytes
theorem OW.app{t:Nat}{af:Array Edge}{ats:List Nat}(hst:St w0 S0 w L)
  (j:Nat) {xs:List α} (hj:L[j]? =some (qi v e enc sz xs)) (he:∀x,(enc x).length=sz) (ho:∀x,eA (enc x)=true)
  (hl:vk l i=some ⟨some d,.call ⟨.builtin .append,[x,y].toArray,ats.toArray⟩,ty,pos,af,gdd⟩) (ha:ats=[t,t]) (hg:gd l fr ⟨some d,.call ⟨.builtin .append,[x,y].toArray,ats.toArray⟩,ty,pos,af,gdd⟩=some true)
  (hN:Nat.blt d N=true) (hx:look fr x=some v) {v2:Value} (hy:look fr y=some v2) (ht:P.underlying t=some (.slice e)) (hel:tN P e sz bytes)
  {ys:List α} {S:List Nat} (hr:Rd w S v2 enc sz ys) (hb:(xs.length+ys.length)*bytes<=140737488355328)
  (h:∀v' w',St w0 S0 w' (L.set j (qi v' e enc sz (xs++ys)))->OW P l N Q (i+1) ((d,v')::fr) w'):OW P l N Q i fr w:=by
 subst ha;have hrow:=hst.all j _ hj;obtain ⟨hn,a2,c2,rfl,_,hc⟩:=hr;obtain ⟨inf,z,hi,hz,hsz,hby,hzs⟩:=hel.Ut;have hlim:=(hst.len j hj).1
 have exec:∀{v':Value} {w':World},(Builtin.append_ #[t,t] ty #[v,.slice a2 ys.length c2]).run P w=.ok v' w'->∀a,Rep N fr a->
   (execOp a.eval ⟨some d,.call ⟨.builtin .append,[x,y].toArray,[t,t].toArray⟩,ty,pos,af,gdd⟩).run P w=.ok (.value v') w':=by
  intro v' w' hr a ha;have e1:=ha.look hx;have e2:=ha.look hy;simp [execOp,resolve,invoke,builtin,e1,e2,hr]
 rcases yn ys.length with h0|h0
 ·have hys:ys=[]:=yx h0;subst hys;refine j6 hl hg rfl hN (exec (hP ht hel.size hrow a2 c2)) (h v w ?_);have hlt:j<L.length:=(zes.1 hj).1
  have:L.set j (qi v e enc sz (xs++[]))=L:=by
   rw [i9];apply m6
   grind
  rw [this];exact hst
 ·obtain ⟨y0,hy0⟩:∃y0,ys[0]? =some y0:=⟨ys[0],zeg h0⟩
  obtain ⟨u0,hu0⟩:∃u0,(enc y0)[0]? =some u0:=⟨(enc y0)[0]'(by rw [he];exact hel.pos),zeg (by rw [he];exact hel.pos)⟩
  obtain ⟨b,k,rfl,_,_⟩:=hc 0 y0 0 u0 hy0 hu0
  have hcell:∀q u,(jQ enc ys)[q]? =some u->w.cell? ((⟨b,k,none⟩:Addr).add q)=some u:=by
   intro q u hu;rw [dy];obtain ⟨t,f,x,hx,hf,hq⟩:=gD he hel.pos hu
   grind
  have hone:∀u∈jQ enc ys,u.oneCell'=true:=by
   intro u hu;obtain ⟨x,hx⟩:=Fq hu
   grind [eB]
  obtain ⟨v',w',hrun,hown,hgr,hat⟩:=I8 (P:=P) w t ty e inf z sz bytes ht hi hz hsz hby hzs v xs.length (jQ enc xs) hrow ⟨b,k,none⟩ ys.length c2 h0 (jQ enc ys) (qP he _) hcell hone
   (by have:=RR (xs.length+ys.length) hel.UB;simp only [maxLen];omega) hb
  refine j6 hl hg rfl hN (exec hrun) (h v' w' ?_);refine hst.upd j hj (Chg.grown hgr (λb hb=>by simp [qi,hb])) ?_ (λb hb=> ?_) vj
  ·show dJ w' e sz v' _ _
   grind [tM]
  grind [cY,qi]
end
def OS(P:Program)(l:List Oper)(N:Nat)(w:World)(R:Act->Prop)(c i:Nat)(fr:List (Nat×Value)):Prop:=
 ∀a,Rep N fr a->wpStill P l.toArray w R ((l.take c).drop i) a
theorem su(h:vk l i=some o):l[i]? =some o:=by
 rw [<- dx] at h
 simpa using h
theorem sy{c:Nat}(hl:vk l i=some o)(hc:Nat.blt i c=true):(l.take c).drop i=o::(l.take c).drop (i+1):=by
 have hic:i<c:=by simpa [u6] using hc
 have hg:=su hl;have hlt:=(zes.1 hg).1;have h1:i<(l.take c).length:=by grind
 rw [RK h1]
 grind
section
variable {P:Program} {N:Nat} {Q:Exit->Act->World->Prop} {R:Act->Prop} {fr fr':List (Nat×Value)} {w w0:World} {l:List Oper} {i c:Nat} {o:Oper} {S0:List Nat} {L:List Item}
theorem CW.still{l:List Oper}(hm:P.follows .mixedOrders=true)(hB:Region.lexB .any l.toArray=true)
  (h:∀w1,Chg [] w w1->OS P l N w1 (λa'=>Q .normal a' w1) l.length 0 fr):CW P N (.region id l.toArray true) Q fr w:=λa ha=>by
 refine wp_region_still_lit hm hB ?_;have:=h {w with drawn:=w.drawn+1} ⟨rfl,rfl,rfl,l6 _,λ_ _ _=>rfl⟩ a ha
 grind
theorem CW.tail{l:List Oper}(c:Nat)(hm:P.follows .mixedOrders=true)(hB:Region.lexTailB .any l.toArray c=true)
  (h:∀w1,Chg [] w w1->OS P l N w1 (λa'=>wpList P l.toArray Q (l.drop c) a' w1) c 0 fr):CW P N (.region id l.toArray true) Q fr w:=λa ha=>by
 refine wp_region_still_tail c hm hB ?_;have:=h {w with drawn:=w.drawn+1} ⟨rfl,rfl,rfl,l6 _,λ_ _ _=>rfl⟩ a ha
 grind
theorem OS.done(hc:Nat.ble c i=true)(h:∀a,Rep N fr a->R a):OS P l N w R c i fr:=λa ha=>by
 have hci:=q8 hc;have:(l.take c).drop i=[]:=x8 (by grind);rw [this];exact wpStill_nil (h a ha)
theorem OS.on(h:OW P l N Q c fr w):OS P l N w (λa'=>wpList P l.toArray Q (l.drop c) a' w) c c fr:=OS.done (Nat.ble_self_eq_true _) h
theorem OS.fin(hc:Nat.ble c i=true)(h:QW N Q .normal fr w):OS P l N w (λa'=>Q .normal a' w) c i fr:=OS.done hc h
theorem Ft:∀(n i:Nat)(fr:List (Nat×Value)){fr2:List (Nat×Value)},kF P l N n i fr=some fr2->i+n<=c->OS P l N w R c (i+n) fr2->OS P l N w R c i fr:=by
 intro n
 induction n with
 |zero=>intro i fr fr2 h _ k;simp only [kF,g9] at h;subst h;exact k
 |succ n ih=>
  intro i fr fr2 h hle k;unfold kF at h;split at h
  ·cases h
  ·rename_i o ho
   split at h
   ·cases h
   ·rename_i d hd
    split at h
    ·cases h
    ·rename_i hN
     have hstep:=sy (c:=c) ho (by simp [u6];omega);split at h
     ·rename_i hg
      split at h
      ·rename_i v hv
       have:=ih (i+1) _ h (by omega) (by grind);intro a ha;rw [hstep];refine wpStill_step (λK hK=> ?_);rw [xV hg ha,d7 rfl];unfold Oper.still;rw [tK hv ha w,Oper.stillUpon_value,hd];exact hK _ (this _ (ha.put hN))
      ·cases h
     ·rename_i hg
      have:=ih (i+1) _ h (by omega) (by grind);intro a ha;rw [hstep];refine wpStill_step (λK hK=> ?_);rw [xV hg ha,hd];exact hK _ (this _ (ha.put hN))
     ·cases h
theorem OS.pure(n:Nat)(new:List (Nat×Value))(hc:Nat.ble (i+n) c=true)
  (h:(kF P l N n i fr).map (λfr2=>oV fr2 (aQ [] (new++fr)))=some (iC (aQ [] (new++fr))))
  (k:OS P l N w R c (i+n) (new++fr)):OS P l N w R c i fr:=by
 cases hc':kF P l N n i fr with
 |none=>rw [hc'] at h;cases h
 |some fr2=>
  rw [hc'] at h;simp only [t5,g9] at h;exact Ft n i fr hc' (q8 hc) (λa ha=>k a (ha.agrees h))
theorem OS.split(s:Nat){b:Bool}(hs:kE fr s=some (.bool b))(ht:b=true->OS P l N w R c i ((s,.bool true)::fr))(hf:b=false->OS P l N w R c i ((s,.bool false)::fr)):OS P l N w R c i fr:=by
 cases b with
 | true => exact fun a ha => ht rfl a ⟨ha.size, ha.defers, fun j v hj => by
   rw [bm] at hj;by_cases e:s=j
   ·subst e;rw [d7 rfl] at hj;exact ha.get _ _ (hs.trans hj)
   ·rw [d8 e] at hj;exact ha.get _ _ hj⟩
 | false => exact fun a ha => hf rfl a ⟨ha.size, ha.defers, fun j v hj => by
   rw [bm] at hj;by_cases e:s=j
   ·subst e;rw [d7 rfl] at hj;exact ha.get _ _ (hs.trans hj)
   ·rw [d8 e] at hj;exact ha.get _ _ hj⟩
theorem OS.op(hl:vk l i=some o)(hc:Nat.blt i c=true)(hg:gd l fr o=some true)(hd:o.dst=some d)(hN:Nat.blt d N=true)
  (hr:∀a,Rep N fr a->(execOp a.eval o).run P w=.ok (.value v) w)
  (h:OS P l N w R c (i+1) ((d,v)::fr)):OS P l N w R c i fr:=λa ha=>by
 rw [sy hl hc];refine wpStill_step (λK hK=> ?_);rw [xV hg ha,d7 rfl];unfold Oper.still;rw [hr a ha,Oper.stillUpon_value,hd];exact hK _ (h _ (ha.put hN))
def I9(P:Program)(fr:List (Nat×Value))(o:Oper):Option (FuncId×List Value):=
 match ax o.op,sb fr o.op.operands.toList with
 |true,true=>match aj P (execOp (rho fr) o) with
  |some (.enter f args)=>some (f,args.toList)
  |_=>none
 |_,_=>none
theorem Ja(h:I9 P fr o=some (f,args))(ha:Rep N fr a)(w:World):(execOp a.eval o).run P w=.ok (.enter f args.toArray) w:=by
 unfold I9 at h;split at h
 ·rename_i h1 h2
  have hm:=Ak h2;have hc:execOp a.eval o=execOp (rho fr) o:=iB h1 (λx hx=>ha.look (hm x hx));rw [hc];split at h
  ·rename_i g as hu
   simp only [g9,o7] at h;obtain ⟨rfl,rfl⟩:=h
   simpa using qV hu w
  ·cases h
 ·cases h
theorem OW.fn{Rr:Ending->World->Prop}(hl:vk l i=some o)(hg:gd l fr o=some true)(hd:o.dst=some d)(hN:Nat.blt d N=true)
  (hp:I9 P fr o=some (f,args)) (hc:Calls P f args.toArray w Rr)
  (h:∀e w',Rr e w'->∃v,e=.returned v/\OW P l N Q (i+1) ((d,v)::fr) w'):OW P l N Q i fr w:=
 OW.call hl hg hd hN (λ_ ha=>Ja hp ha w) hc h
end
theorem zI{β:Type}{o:Option α}{f:α->Option β}{r:β}(h:o.bind f=some r):∃x,o=some x/\f x=some r:=by
 cases o with
 |none=>cases h
 |some x=>exact ⟨x,rfl,h⟩
theorem rJ{c:Bool}{A B r:α}(h:(if c then A else B)=r)(hc:c=true):A=r:=by grind
theorem rK{c:Bool}{A B r:α}(h:(if c then A else B)=r)(hc:c=false):B=r:=by grind
def loop{σ R:Type}(body:(σ->Option R)->σ->Option R):Nat->σ->Option R
 |0,_=>none
 |n+1,s=>body (loop body n) s
def jN{σ ρ:Type}(body:Nat->(σ->Option ρ)->σ->Option ρ)(out:σ->ρ):Nat->Nat->σ->Option ρ
 |0,_,s=>some (out s)
 |n+1,i,s=>body i (jN body out n (i+1)) s
def vB{α ρ:Type}(o:Option α)(A:ρ)(B:α->ρ):ρ:=match o with
 |none=>A
 |some k=>B k
def room(m bytes:Nat):Option Unit:=if m*bytes<=140737488355328 then some () else none
theorem pK{u:Unit}(h:room m bytes=some u):m*bytes<=140737488355328:=by
 grind [room]
def mkLen(n:Int)(bytes:Nat):Option Nat:=if 0<=n/\n.toNat*bytes<=140737488355328 then some n.toNat else none
def w64(x:Int):Int:=IntKind.i64.wrap x
def xS(x:Int):Int:=IntKind.u64.wrap x
theorem qt{x:Int}(h0: -9223372036854775808<=x)(h1:x<=9223372036854775807):w64 x=x:=by
 unfold w64;rw [IntKind.wrap_i64];omega
theorem Fu(h:i<n)(hn:n<=9223372036854775807):w64 ((i:Int)+1)=((i+1:Nat):Int):=by
 grind [qt]
def zx(k:IntKind)(x:Int):List Value:=[.int k x]
def iO(x:Bool):List Value:=[.bool x]
theorem tN.of{i:TypeInfo}(h1:aj P (sizeOf e)=some sz)(h2:P.info? e=some i)(h3:i.zero.map (·.cells.size)=some sz)(h4:i.size=sz)(h5:i.bytes=bytes)(h7:0<sz)(h8:0<bytes):tN P e sz bytes:=by
 cases hz:i.zero with
 |none=>rw [hz] at h3;cases h3
 |some z=>exact ⟨h1,⟨i,z,h2,hz,h4,h5,by grind⟩,h7,h8⟩
def rx:Nat->List Value->List (Nat×Value)
 |_,[]=>[]
 |i,v::r=>(i,v)::rx (i+1) r
theorem Gr{l:List Value}:∀{i j:Nat} {v:Value},kE (rx i l) j=some v->i<=j/\l[j-i]? =some v:=by
 induction l with
 |nil=>intro i j v h;cases h
 |cons x r ih=>
  intro i j v h;simp only [rx] at h;rw [bm] at h;split at h
  ·grind
  grind
section
variable {P:Program} {N:Nat} {Q:Exit->Act->World->Prop} {fr fr':List (Nat×Value)} {w w0:World} {l:List Oper} {i:Nat} {o:Oper} {S0:List Nat} {L:List Item}
theorem CW.start{fn:Func}(hf:P.funcs[f]? =some fn)(hb:fn.body=some c)(hN:fn.ntmps=N)
  (hs:Nat.ble args.length N=true) (h:CW P N c (bodyPost P fn R) (rx 0 args) w):Calls P f args.toArray w R:=
 CW.enter hf hb hN (by simpa using hs) (λj v hj=>by have:=(Gr hj).2;simpa using this) h
theorem CW.go(h:CW P N c Q fr w)(ha:Rep N fr a):c.wp P Q a w:=h a ha
theorem CW.cutK(J:Act->World->Prop)(h1:CW P N c (Exit.then J Q) fr w)(h2:∀a w,J a w->K a w):CW P N c (Exit.then K Q) fr w:=λa ha=>
 wp_mono (h1 a ha) (λe _ _ hq=>by cases e<;>first|exact h2 _ _ hq|exact hq)
theorem OW.make{t:Nat}{af:Array Edge}(hst:St w0 S0 w L)
  (hl:vk l i=some ⟨some d,.makeSlice t x y,ty,pos,af,gdd⟩) (hg:gd l fr ⟨some d,.makeSlice t x y,ty,pos,af,gdd⟩=some true) (hN:Nat.blt d N=true)
  {kl kc:IntKind} {n:Int} (hx:look fr x=some (.int kl n)) (hy:look fr y=some (.int kc n)) (ht:P.underlying t=some (.slice e)) (hel:tN P e sz bytes) (z:α)
  (hz:(aj P (zeroValue e)).map (·.cells.toList)=some (enc z)) (he:∀x,(enc x).length=sz) (hm:mkLen n bytes=some m)
  (h:∀g w',St w0 S0 w' (L++[qi (.slice (some ⟨g,0,none⟩) m m) e enc sz (List.replicate m z)])->OW P l N Q (i+1) ((d,.slice (some ⟨g,0,none⟩) m m)::fr) w'):OW P l N Q i fr w:=by
 obtain ⟨inf,zv,hi,hzv,hsz,hby,hzs⟩:=hel.Ut;unfold mkLen at hm;split at hm
 ·rename_i hcond
  obtain ⟨h0,hb⟩:=hcond;simp only [g9] at hm;obtain ⟨k,rfl⟩:=zof h0;have hmk:m=k:=by simpa using hm.symm
  subst hmk;simp only [k8] at hb;have hle:m<=m*bytes:=RR _ hel.UB
  have hbz:(bytes:Int)*(m:Int)<=281474976710656:=by
   grind
  have hrun:=run_make (P:=P) w t e inf zv ht hi hzv kl kc m m (by omega) (r6 _) (by rw [hby];exact hbz) (by omega)
  simp only [k8,hsz] at hrun;refine j6 hl hg rfl hN (w':=w.alloc (.cells (madeCells zv.cells (m*sz)) e)) (λa ha=> ?_) (h w.heap.size _ ?_)
  ·have e1:=ha.look hx;have e2:=ha.look hy;simp [execOp,e1,e2,hrun]
  ·refine hst.push (Chg.alloc _ _) ?_ (λb hb=>ob hb) vj
   have hzz:zv.cells.toList=enc z:=by
    cases hq:aj P (zeroValue e) with
    |none=>rw [hq] at hz;cases hz
    |some z'=>
     have h1:=qV hq w;have h2:(zeroValue e).run P w=.ok zv w:=by simp [zeroValue,typeInfo,hi,hzv]
     grind
   have hcells:(madeCells zv.cells (m*sz)).toList=jQ enc (List.replicate m z):=by
    have hlen:zv.cells.toList.length=sz:=by rw [hzz,he]
    clear hrun h hst hl hg hb hz;apply m6;intro q;rcases Nat.lt_or_ge q (m*sz) with hq|hq
    ·have hpos:=hel.pos;have hdm:q=q / sz*sz+q%sz:=by rw [Nat.mul_comm];exact (Nat.div_add_mod q sz).symm
     have hmod:q%sz<sz:=Nat.mod_lt _ hpos;have hdiv:q / sz<m:=Nat.div_lt_of_lt_mul (by grind);have hg:(List.replicate m z)[q / sz]? =some z:=by simp [hdiv]
     have hu:(enc z)[q%sz]? =some ((enc z)[q%sz]'(by rw [he];exact hmod)):=zeg _
     have hfl:=mR he hg hu;rw [<- hdm] at hfl;rw [hfl];have hszz:zv.cells.size=sz:=hzs;simp only [madeCells,Array.toList_map,Array.toList_range,x5,List.getElem?_range hq,t5,g9,hszz]
     grind
    ·rw [RP (by simp [madeCells];exact hq),RP (by rw [qP he];simpa using hq)]
   have:=dJ.fresh (w:=w.alloc (.cells (madeCells zv.cells (m*sz)) e)) (T:=e) (sz:=sz) (n:=m) (cap:=m) (heap_alloc_new w _) (l6 _) (by simp only [maxLen];omega) (size_madeCells _ _)
   grind [qP,qi]
 ·cases hm
end
end
variable {i N:Nat} {α:Type} {v:Value}
theorem Jb{σ R:Type}{b:(σ->Option R)->σ->Option R}{s:σ}{o:R}(h:loop b 0 s=some o):False:=by cases h
theorem QX(hi:i+0=N)(hc:decide ((i:Int)<(N:Int))=true):False:=by simp at hc;omega
theorem QY{n:Nat}(hi:i+(n+1)=N)(hc:decide ((i:Int)<(N:Int))=false):False:=by simp at hc;omega
theorem Am{n:Nat}(hi:i+(n+1)=N):i+1+n=N:=by omega
theorem D3(hc:decide ((i:Int)<(N:Int))=true)(hN:N<=9223372036854775807):w64 ((i:Int)+1)=((i+1:Nat):Int):=by
 simp at hc
 grind [Fu]
theorem pL{ρ:Type}{o:Option α}{A:ρ}{B:α->ρ}{r:ρ}(h:vB o A B=r)(e:o=none):A=r:=by subst e;exact h
theorem pM{ρ:Type}{o:Option α}{A:ρ}{B:α->ρ}{r:ρ}{k:α}(h:vB o A B=r)(e:o=some k):B k=r:=by subst e;exact h
section
variable {N:Nat} {Q:Exit->Act->World->Prop} {e:Exit} {fr:List (Nat×Value)} {w w0:World} {S0:List Nat} {L:List Item}
theorem QW.say(s:Nat){u:Value}(hs:kE fr s=some u)(h1:u=v)(h:QW N Q e ((s,v)::fr) w):QW N Q e fr w:=λa ha=>h a ⟨ha.size,ha.defers,λj x hj=>by
 rw [bm] at hj;by_cases hje:s=j
 ·subst hje;rw [d7 rfl] at hj;exact ha.get _ _ (by rw [hs,h1];exact hj)
 ·rw [d8 hje] at hj;exact ha.get _ _ hj⟩
theorem St.nilRow(h:St w0 S0 w L)(α:Type)(T:TypeId)(enc:α->List Value)(sz:Nat):St w0 S0 w (L++[qi (.slice none 0 0) T enc sz ([]:List α)]):=
 h.push (w9 _ _) (dJ.nil w T sz none) (λb hb=>by grind [qi,cY]) vj
end
section
variable {P:Program} {N:Nat} {Q:Exit->Act->World->Prop} {R:Act->Prop} {fr:List (Nat×Value)} {w:World} {l:List Oper} {i c:Nat}
def nz(b:Int):Option Unit:=if b=0 then none else some ()
theorem P7{b:Int}{u:Unit}(h:nz b=some u):b≠0:=by
 grind [nz]
end
def RdN(w:World)(S:List Nat)(v:Value)(D:World->List Nat->α->List Value->Prop)(sz:Nat)(xs:List α):Prop:=
 xs.length<=9223372036854775807/\∃a c,v=.slice a xs.length c/\xs.length<=c/\∀t x,xs[t]? =some x->∃cs,D w S x cs/\∃b o,a=some ⟨b,o,none⟩/\b∉S/\∀f u,cs[f]? =some u->w.cell? ⟨b,o+t*sz+f,none⟩=some u
theorem RdN.len{w:World}{S:List Nat}{D:World->List Nat->α->List Value->Prop}{sz:Nat}{xs:List α}(h:RdN w S v D sz xs):
 xs.length<=9223372036854775807/\∃a c,v=.slice a xs.length c:=⟨h.1,let ⟨a,c,hv,_⟩:=h.2;⟨a,c,hv⟩⟩
theorem RdN.formv{w:World}{S:List Nat}{D:World->List Nat->α->List Value->Prop}{sz:Nat}{xs:List α}(h:RdN w S v D sz xs){t:Int}{x:α}(hx:idx xs t=some x):
  ∃b o c cs,v=.slice (some ⟨b,o,none⟩) xs.length c/\D w S x cs/\∀f u,cs[f]? =some u->∀w' L',St w S w' L'->w'.cell? ⟨b,o+t.toNat*sz+f,none⟩=some u:=by
 obtain ⟨_,a,c,hv,_,hc⟩:=h;obtain ⟨_,_,h2⟩:=zU hx;obtain ⟨cs,hD,b,o,ha,hb,hcell⟩:=hc _ x h2;refine ⟨b,o,c,cs,by rw [hv,ha],hD,λf u hu w' L' hst=> ?_⟩;have:=hcell f u hu;exact (World.cell?_of_block (hst.chg.block b (lj this) hb)).trans this
theorem CW.cutQ{P:Program}{Q:Exit->Act->World->Prop}{fr:List (Nat×Value)}{w:World}{c:Code}(J:Act->World->Prop)(h1:CW P N c (Exit.then J Q) fr w)(h2:∀a w,J a w->Q .normal a w):CW P N c Q fr w:=λa ha=>
 wp_mono (h1 a ha) (λe _ _ hq=>by cases e<;>first|exact h2 _ _ hq|exact hq)
theorem QW.go{Q:Exit->Act->World->Prop}{e:Exit}{fr:List (Nat×Value)}{w:World}{a:Act}(h:QW N Q e fr w)(ha:Rep N fr a):Q e a w:=h a ha
end
open Go.ChangeShapes Go.WideShapes Go.ChangeAt Go.RowKit
variable {α:Type} {P:Program} {base:Nat} {held:Bool}
def Dec(P:Program)(t:TypeId)(D:World->List Nat->α->List Value->Prop)(G:α->Prop):Prop:=
 ∀(H:Type)(enc:TypeId×Value->H)(w:World)(base:Nat)(spare:Nat->Bool)(held:Bool)(fuel:Nat)(cs:List Value)(x:DataW H×List MemPlace),
  DataW.trod enc P w base spare held fuel t cs=some x->(∀n∈x.1.weights P t,n<=reachBytes)->∃a,D w [] a cs/\G a
theorem Dec.int{P:Program}{t:TypeId}{k:IntKind}(hu:P.underlying t=some (.int k)):Dec P t (λ_ _ (a:Int) cs=>cs=zx k a) (λa=>(Lit.int k a).wf=true):=by
 intro H enc w base spare held fuel cs x h _;obtain ⟨n,rfl,_,hw⟩:=DataW.trod_int hu h;exact ⟨n,rfl,hw⟩
theorem Dec.mono{t:TypeId}{D D':World->List Nat->α->List Value->Prop}{G G':α->Prop}(h:Dec P t D G)(hD:∀w a cs,D w [] a cs->D' w [] a cs)(hG:∀a,G a->G' a):Dec P t D' G':=by
 intro H enc w base spare held fuel cs x hx hw;obtain ⟨a,h1,h2⟩:=h H enc w base spare held fuel cs x hx hw;exact ⟨a,hD _ _ _ h1,hG _ h2⟩
theorem oz{H:Type}{P:Program}{e:TypeId}:∀{l:List (DataW H)} {d:DataW H},d∈l->∀n∈d.weights P e,n∈DataW.weightsAll P e l
 |[],_,h,_,_=>absurd h List.not_mem_nil
 |a::r,d,h,n,hn=>by
  unfold DataW.weightsAll;rcases j5.1 h with rfl|h
  ·grind
  ·exact RM _ (oz h n hn)
theorem nt{H:Type}{P:Program}:∀{ts:List TypeId} {ds:List (DataW H)} {i:Nat} {t:TypeId} {d:DataW H},ts[i]? =some t->ds[i]? =some d->∀n∈d.weights P t,n∈DataW.weightsEach P ts ds
 |[],_,_,_,_,h,_,_,_=>by simp at h
 |_::_,[],_,_,_,_,h,_,_=>by simp at h
 |a::r,b::q,0,t,d,h1,h2,n,hn=>by
  simp at h1 h2;subst h1;subst h2;unfold DataW.weightsEach
  grind
 |a::r,b::q,i+1,t,d,h1,h2,n,hn=>by
  unfold DataW.weightsEach;exact RM _ (nt (i:=i) (by simpa using h1) (by simpa using h2) n hn)
theorem cells?_at{w:World}{a:Addr}{n:Nat}{cs:List Value}(h:w.cells? base a n=some cs):cs.length=n/\∀(f:Nat)(u:Value),cs[f]? =some u->w.cell? (a.add f)=some u:=by
 obtain ⟨_,hl,hx⟩:=World.cells?_some h
 grind
theorem MZ{a:Addr}(hs:a.spot=none)(m n:Nat):(a.add m).add n=⟨a.block,a.off+m+n,none⟩:=by
 obtain ⟨b,o,s⟩:=a;cases hs;unfold Addr.add
 grind
theorem sO{α:Type}{p:Nat->α->Prop}:∀n:Nat,(∀i,i<n->∃a,p i a)->∃xs:List α,xs.length=n/\∀i x,xs[i]? =some x->p i x
 |0,_=>⟨[],rfl,λi x h=>by simp at h⟩
 |n+1,h=>by
  obtain ⟨xs,h1,h2⟩:=sO n (λi hi=>h i (by omega));obtain ⟨a,ha⟩:=h n (by omega);refine ⟨xs++[a],by simp [h1],λi x hx=> ?_⟩
  grind
theorem Dec.sliceN{t e:TypeId}{D:World->List Nat->α->List Value->Prop}{G:α->Prop}{sz bytes:Nat}(hd:Dec P e D G)(hu:P.underlying t=some (.slice e))(hc:P.cellsOf e=sz)(hsz:0<sz)(hb:P.bytesOf e=bytes):
  Dec P t (λw S (xs:List α) cs=>∃v,cs=[v]/\RdN w S v D sz xs) (λxs=>xs.length*bytes<=reachBytes/\∀x∈xs,G x):=by
 intro H enc w base spare held fuel cs x h hw;rcases Go.Deep.open_slice hu h with ⟨rfl,rfl⟩|⟨a,len,cap,m,n,Dt,Pl,rfl,_,hl,hm,rfl,rfl,hx⟩
 ·exact ⟨[],⟨_,rfl,by simp,none,0,rfl,by simp,λt x hx=>by simp at hx⟩,by simp,λx hx=>absurd hx List.not_mem_nil⟩
 rw [hc] at hx;have hle:len<=(if spare a.block then cap else len):=by split<;>omega
 unfold DataW.weights at hw;simp only [hu] at hw
 obtain ⟨xs,hxl,hxs⟩:=sO (p:=λi y=>G y/\∃cs,D w [] y cs/\w.cells? base (a.add (i*sz)) sz=some cs) len (λi hi=>by
  obtain ⟨cs,h1,h2⟩:=hx i (by omega);obtain ⟨y,hD,hG⟩:=hd H enc w base spare held n cs _ h2 (λk hk=>hw k (List.mem_cons_of_mem _ (List.mem_append_left _ (oz (d:=Dt i) (yj.2 ⟨i,by simpa using hi,rfl⟩) k hk))));exact ⟨y,hG,cs,hD,h1⟩)
 have h0:=hw _ List.mem_cons_self;simp only [p8,List.length_range,hb] at h0;have hlb:len*bytes<=reachBytes:=s9 (o9 _ (by omega)) h0;refine ⟨xs,⟨_,rfl,?_,some a,cap,by rw [hxl],by rw [hxl];exact hl,λi y hy=> ?_⟩,by rw [hxl];exact hlb,λy hy=> ?_⟩
 ·unfold maxLen at hm;omega
 ·obtain ⟨_,cs,hD,hcs⟩:=hxs i y hy;have hi:i<len:=by have:=(List.getElem?_eq_some_iff.1 hy).1;omega
  have hsp:a.spot=none:=by
   obtain ⟨cs0,h1,_⟩:=hx 0 (by omega);obtain ⟨hl0,hc0⟩:=cells?_at h1;have:=hc0 0 cs0[0] (List.getElem?_eq_getElem (by omega));rw [Nat.zero_mul] at this
   simpa [Addr.add] using World.cell?_spot this
  refine ⟨cs,hD,a.block,a.off,?_,by simp,λf u hu=> ?_⟩
  ·obtain ⟨b,o,s⟩:=a;cases hsp;rfl
  ·have:=(cells?_at hcs).2 f u hu;rw [MZ hsp] at this;exact this
 ·obtain ⟨i,hi⟩:=List.mem_iff_getElem?.1 hy;exact (hxs i y hi).1
theorem Dec.slice{α:Type}{P:Program}{t e:TypeId}{enc:α->List Value}{G:α->Prop}{sz bytes:Nat}(hd:Dec P e (λ_ _ a cs=>cs=enc a) G)(hu:P.underlying t=some (.slice e))(hc:P.cellsOf e=sz)(hsz:0<sz)(hb:P.bytesOf e=bytes):
  Dec P t (λw S (xs:List α) cs=>∃v,cs=[v]/\Rd w S v enc sz xs) (λxs=>xs.length*bytes<=reachBytes/\∀x∈xs,G x):=by
 refine (Dec.sliceN hd hu hc hsz hb).mono ?_ (λ_ h=>h);rintro w xs cs ⟨v,rfl,h1,a,c,rfl,hlc,h2⟩;refine ⟨_,rfl,h1,a,c,rfl,hlc,λt x f u hx hu=> ?_⟩;obtain ⟨cs,rfl,b,o,h3,h4,h5⟩:=h2 t x hx;exact ⟨b,o,h3,h4,h5 f u hu⟩
theorem Dec.struct{P:Program}{t:TypeId}{fs:Array Field}{H:Type}{enc:TypeId×Value->H}{w:World}{base:Nat}{spare:Nat->Bool}{held:Bool}{fuel:Nat}{cs:List Value}{x:DataW H×List MemPlace}
  (hu:P.underlying t=some (.struct fs)) (h:DataW.trod enc P w base spare held fuel t cs=some x) (hw:∀n∈x.1.weights P t,n<=reachBytes):
  cs.length=P.cellsOf t/\∀(α:Type)(D:World->List Nat->α->List Value->Prop)(G:α->Prop)(i:Nat)(f:Field),fs[i]? =some f->Dec P f.type D G->∃a,D w [] a ((cs.drop f.offset).take (P.cellsOf f.type))/\G a:=by
 obtain ⟨xs,n,_,rfl,hl,hlen,hf⟩:=DataW.trod_struct hu h;refine ⟨hl,λα D G i f hi hd=> ?_⟩;have h1:=hf i f hi;have hil:i<xs.length:=by grind
 rw [List.getElem?_eq_getElem hil] at h1;unfold DataW.weights at hw;simp only [hu] at hw;refine hd H enc w base spare held n _ _ h1 (λk hk=>hw k (nt (i:=i) (t:=f.type) (d:=xs[i].1) ?_ ?_ k hk))
 ·grind
 grind
def Q7(P:Program)(t:TypeId):List (TypeId×Nat×Nat):=match P.underlying t with
 |some (.struct fs)=>fs.toList.map (λf=>(f.type,f.offset,P.cellsOf f.type))
 |_=>[]
theorem Dec.parts{t:TypeId}{L:List (TypeId×Nat×Nat)}{H:Type}{enc:TypeId×Value->H}{w:World}{spare:Nat->Bool}{fuel:Nat}{cs:List Value}{x:DataW H×List MemPlace}
  (hu:Q7 P t=L) (hne:L≠ []) (h:DataW.trod enc P w base spare held fuel t cs=some x) (hw:∀n∈x.1.weights P t,n<=reachBytes):
  cs.length=P.cellsOf t/\∀(α:Type)(D:World->List Nat->α->List Value->Prop)(G:α->Prop)(i T o c:Nat),L[i]? =some (T,o,c)->Dec P T D G->∃a,D w [] a ((cs.drop o).take c)/\G a:=by
 unfold Q7 at hu;split at hu
 ·rename_i fs hfs
  obtain ⟨h1,h2⟩:=Dec.struct hfs h hw
  grind
 grind
theorem St.zero(w:World):St w [] w []:=⟨w9 _ _,λi it h=>by simp at h,λi it h=>by simp at h,λi j a b _ h=>by simp at h,λi it h=>by simp at h⟩
theorem oA{H:Type}{enc:TypeId×Value->H}{P:Program}(hl:laidOutB P=true){W W':World}(hb:Below W.heap.size W W'):
  ∀{ts:List TypeId} {vs:List Value} {ds:List (DataW H)} {ps:List MemPlace},ts.all (λt=>P.readableRec t&&decide (t<P.types.size))=true->
   DataW.TrodAll enc P W 0 (λ_=>true) true ts vs ds ps->(∀x∈ps,x.block<W.heap.size)->
   DataW.TrodAll enc P W' 0 (λb=>decide (b<W.heap.size)) true ts vs ds ps
 |[],[],[],_,_,h,_=>h
 |[],[],_::_,_,_,h,_=>h.elim
 |[],_::_,_,_,_,h,_=>h.elim
 |_::_,[],_,_,_,h,_=>h.elim
 |_::_,_::_,[],_,_,h,_=>h.elim
 |t::ts,v::vs,d::ds,ps,ht,h,hlt=>by
  obtain ⟨p,q,h1,h2,rfl⟩:=h;simp only [List.all_cons,RN,decide_eq_true_eq] at ht;exact ⟨p,q,Below.trod hl ht.1.1 ht.1.2 h1 hb (λx hx=>hlt x (List.mem_append_left _ hx)),oA hl hb ht.2 h2 (λx hx=>hlt x (RM _ hx)),rfl⟩
theorem trodAll_cons{H:Type}{enc:TypeId×Value->H}{w:World}{spare:Nat->Bool}{t:TypeId}{ts:List TypeId}{vs:List Value}{ds:List (DataW H)}{ps:List MemPlace}
  (h:DataW.TrodAll enc P w base spare held (t::ts) vs ds ps) (hw:∀n∈DataW.weightsEach P (t::ts) ds,n<=reachBytes):
  ∃v vs' ds' ps',vs=v::vs'/\(∀(α:Type)(D:World->List Nat->α->List Value->Prop)(G:α->Prop),Dec P t D G->∃a,D w [] a v.cells.toList/\G a)/\
   DataW.TrodAll enc P w base spare held ts vs' ds' ps'/\∀n∈DataW.weightsEach P ts ds',n<=reachBytes:=by
 cases vs with
 |nil=>exact h.elim
 |cons v vs=>
  cases ds with
  |nil=>exact h.elim
  |cons d ds=>
   obtain ⟨p,q,⟨fuel,h1⟩,h2,rfl⟩:=h;unfold DataW.weightsEach at hw;exact ⟨v,vs,ds,q,rfl,λα D G hd=>hd H enc w base spare held fuel _ _ h1 (λn hn=>hw n (List.mem_append_left _ hn)),h2,λn hn=>hw n (RM _ hn)⟩
theorem trodAll_nil{H:Type}{enc:TypeId×Value->H}{w:World}{spare:Nat->Bool}{vs:List Value}{ds:List (DataW H)}{ps:List MemPlace}
  (h:DataW.TrodAll enc P w base spare held [] vs ds ps):vs=[]:=by
 cases vs with
 |nil=>rfl
 |cons v vs=>cases ds<;>exact h.elim
theorem nM{H:Type}{enc:TypeId×Value->H}{P:Program}{w:World}{base:Nat}{spare:Nat->Bool}{held:Bool}:∀{ts:List TypeId} {vs:List Value} {ds:List (DataW H)} {ps:List MemPlace},
  DataW.TrodAll enc P w base spare held ts vs ds ps->ds.length=ts.length
 |[],[],[],_,_=>rfl
 |[],[],_::_,_,h=>h.elim
 |[],_::_,_,_,h=>h.elim
 |_::_,[],_,_,h=>h.elim
 |_::_,_::_,[],_,h=>h.elim
 |t::ts,v::vs,d::ds,ps,h=>by
  obtain ⟨p,q,_,h2,_⟩:=h;simp [nM h2]
theorem Kd{w:World}{r:Reach}{t:TypeId}{v:Value}{us:List Value}(hok:Value.okWide P w r base t v)(hc:v.cells.toList=us)
  (hu:(match P.underlying t with|some (.struct _)=>true|some (.array _ _)=>true|_=>false)=true):v=.agg us.toArray:=by
 unfold Value.okWide at hok;split at hok
 ·obtain ⟨cs,rfl,_,_⟩:=hok;simp only [Value.cells] at hc;rw [<- hc]
 ·obtain ⟨cs,rfl,_,_⟩:=hok;simp only [Value.cells] at hc;rw [<- hc]
 grind
theorem Hw{H:Type}{enc:TypeId×Value->H}{w:World}{spare:Nat->Bool}{t:TypeId}(hu:P.underlying t=some .bool):
 DataW.TrodAll enc P w base spare held [t] [.bool true] [.lit (.bool true)] ([]++[]):=trodAll_mk1 (shut_bool hu true)
theorem ma{H:Type}{P:Program}{us:List TypeId}{n:Nat}:∀{ts:List TypeId} {ds:List (DataW H)},ds.length=ts.length->n∈DataW.weightsEach P ts ds->n∈DataW.weightsEach P (ts++us) ds
 |[],[],_,h=>by simp [DataW.weightsEach] at h
 |[],_::_,h,_=>by simp at h
 |_::_,[],h,_=>by simp at h
 |t::ts,d::ds,hl,h=>by
  rw [y7];unfold DataW.weightsEach at h |-;rcases i5.1 h with h|h
  ·grind
  ·exact RM _ (ma (by simpa using hl) h)
end
open Go.ChangeShapes Go.WideShapes Go.ChangeAt Go.RowKit
mutual
def vv{H:Type}:DataW H->Option (List Value)
 |.lit (.int k n)=>some [.int k n]
 |.lit (.bool b)=>some [.bool b]
 |.lit (.string bs)=>some [.string ⟨bs.toArray⟩]
 |.agg ds=>tI ds
 |_=>none
def tI{H:Type}:List (DataW H)->Option (List Value)
 |[]=>some []
 |d::r=>match vv d,tI r with
  |some a,some b=>some (a++b)
  |_,_=>none
end
def B9(P:Program)(n:Nat):Nat->List Field->Bool
 |o,[]=>o==n
 |o,f::r=>f.offset==o&&B9 P n (o+P.cellsOf f.type) r
def I5(P:Program):Nat->TypeId->Bool
 |0,_=>false
 |n+1,t=>match P.underlying t with
  |some (.int _)|some .bool|some .string=>true
  |some (.struct fs)=>B9 P (P.cellsOf t) 0 fs.toList&&fs.toList.all (λf=>I5 P n f.type)
  |some (.array m e)=>P.cellsOf t==m*P.cellsOf e&&I5 P n e
  |_=>false
theorem oU{H:Type}{ds:List (DataW H)}{cs:List Value}:∀{ls:List (List Value)},ls.length=ds.length->(∀(i:Nat)(d:DataW H)(l:List Value),ds[i]? =some d->ls[i]? =some l->vv d=some l)->ls.flatten=cs->tI ds=some cs:=by
 induction ds generalizing cs with
 |nil=>intro ls hl _ h;cases ls with
  |nil=>simp at h;subst h;simp [tI]
  |cons _ _=>simp at hl
 |cons d r ih=>
  intro ls hl hp h;cases ls with
  |nil=>simp at hl
  |cons l q=>
   have h1:=hp 0 d l rfl rfl;have h2:=ih (ls:=q) (cs:=q.flatten) (by simpa using hl) (λi d l h3 h4=>hp (i+1) d l (by simpa using h3) (by simpa using h4)) rfl
   grind [tI]
theorem Ai{P:Program}{cs:List Value}{n:Nat}(hn:cs.length=n):∀{fs:List Field} {o:Nat},B9 P n o fs=true->o<=n->(fs.map λf=>(cs.drop f.offset).take (P.cellsOf f.type)).flatten=cs.drop o:=by
 intro fs
 induction fs with
 |nil=>
  grind [B9]
 |cons f r ih=>
  intro o h ho;simp only [B9,RN,t8] at h;obtain ⟨h1,h2⟩:=h;subst h1
  have hle:f.offset+P.cellsOf f.type<=n:=by
   clear ih
   have:∀{fs:List Field} {o:Nat},B9 P n o fs=true->o<=n:=by
    intro fs
    induction fs with
    |nil=>intro o h;simp only [B9,t8] at h;omega
    |cons g q ih=>intro o h;simp only [B9,RN,t8] at h;have:=ih h.2;omega
   exact this h2
  simp only [yo,yd];rw [ih h2 hle];rw [<- yl,yg]
theorem uz{c:Nat}:∀{n:Nat} {cs:List Value},cs.length=n*c->((List.range n).map λi=>(cs.drop (i*c)).take c).flatten=cs:=by
 intro n
 induction n with
 |zero=>intro cs h;simp at h;simp [h]
 |succ n ih=>
  intro cs h;rw [List.range_succ_eq_map,yo,yd,List.map_map];have h2:=ih (cs:=cs.drop c) (by grind)
  have e:((List.range n).map ((λi=>(cs.drop (i*c)).take c)∘Nat.succ))=(List.range n).map λi=>((cs.drop c).drop (i*c)).take c:=by
   apply List.map_congr_left
   intro i _;simp only [Function.comp,yl]
   grind
  rw [e,h2];simp
theorem Gp{H:Type}{enc:TypeId×Value->H}{P:Program}{w:World}{base:Nat}{sp:Nat->Bool}{held:Bool}:∀(n:Nat){fuel:Nat}{t:TypeId}{cs:List Value}{d:DataW H}{p:List MemPlace},
  I5 P n t=true->DataW.trod enc P w base sp held fuel t cs=some (d,p)->vv d=some cs:=by
 intro n
 induction n with
 |zero=>intro fuel t cs d p h;cases h
 |succ n ih=>
  intro fuel t cs d p h hd;unfold I5 at h;split at h
  ·rename_i k hu
   obtain ⟨m,rfl,he,_⟩:=DataW.trod_int hu hd
   grind [vv]
  ·rename_i hu
   obtain ⟨b,rfl,he⟩:=DataW.trod_bool hu hd
   grind [vv]
  ·rename_i hu
   obtain ⟨s,rfl,he,_⟩:=DataW.trod_string hu hd;cases he;simp [vv]
  ·rename_i fs hu
   simp only [RN,x6] at h;obtain ⟨h1,h2⟩:=h;obtain ⟨xs,m,rfl,he,hl,hxl,hf⟩:=DataW.trod_struct hu hd;cases he;rw [vv];refine oU (ls:=fs.toList.map λf=>(cs.drop f.offset).take (P.cellsOf f.type)) (by simp [hxl]) (λi d l hi hl'=> ?_) (by rw [Ai hl h1 (Nat.zero_le _)];rfl)
   grind
  ·rename_i m e hu
   simp only [RN,t8] at h;obtain ⟨h1,h2⟩:=h;obtain ⟨xs,q,rfl,he,hl,hxl,hf⟩:=DataW.trod_array hu hd;cases he;rw [vv];refine oU (ls:=(List.range m).map λi=>(cs.drop (i*P.cellsOf e)).take (P.cellsOf e)) (by simp [hxl]) (λi d l hi hl'=> ?_) (uz (by omega))
   grind
  ·cases h
theorem N7{P:Program}{w:World}{nm:String}{d:DataW Unit}:∀{laid:List (String×DataW Unit)} {ps:List MemPlace} {i:Nat},DataW.LaidVars P w laid ps->laid[i]? =some (nm,d)->
  ∃g t cs fuel p,P.globalNamed nm=some g/\(P.globals[g]?).map (·.type)=some t/\w.var? P nm=some cs/\DataW.trod (λ_=>()) P w 0 (λ_=>true) false fuel t cs.toList=some (d,p):=by
 intro laid
 induction laid with
 |nil=>intro ps i _ h;simp at h
 |cons x r ih=>
  intro ps i h hi;obtain ⟨n,e⟩:=x;obtain ⟨g,t,cs,fuel,p,q,h1,h2,h3,h4,h5,_⟩:=h
  grind
theorem I6{α:Type}{P:Program}{W:World}{laid:List (String×DataW Unit)}{nm:String}{d:DataW Unit}{g t sz:Nat}{enc:α->List Value}{xs:List α}(i k:Nat)(h:laidMet P laid W)(hi:laid[i]? =some (nm,d))(hg:P.globalNamed nm=some g)
  (hty:(P.globals[g]?).map (·.type)=some t) (hf:I5 P k t=true) (hc:vv d=some (jQ enc xs)) (he:∀x,(enc x).length=sz) (hl:Nat.ble xs.length 9223372036854775807=true) {m:Nat} (hm:xs.length=m):
  Rd W [] (.slice (some ⟨g,0,none⟩) m m) enc sz xs:=by
 subst hm;obtain ⟨ps,hv,_,_⟩:=h;obtain ⟨g',t',cs,fuel,p,h1,h2,h3,h4⟩:=N7 hv hi;obtain rfl:=j4 (hg.symm.trans h1);obtain rfl:=j4 (hty.symm.trans h2);have h5:=Gp k hf h4;rw [hc] at h5;have e:=j4 h5;refine ⟨q8 hl,_,_,rfl,l6 _,λj x f u hx hu=>⟨g,0,rfl,by simp,?_⟩⟩;rw [x4,World.var?_cell hg h3,<- Array.getElem?_toList,<- e]
 grind [mR]
theorem Aj{C:Checked}{os:Os}{f:FuncId}{fn:Func}{s:ChangeSpec}{F:Stop.Interp}{conds:List PathCond}{laid:List (String×DataW Unit)}{tb:TypeId}(H:Type)(enc:TypeId×Value->H)
  (own:ownKnob C.prog.godebug=none) (started:os.Started) (noInit:C.prog.inits.idxOf? f=none) (hfn:C.prog.funcs[f]? =some fn)
  (witness:∃(w:World)(tape:Tape)(i:Input),w.os=os/\(w.forCall tape i).Shaped C.prog/\i.vars=[]/\Input.okWide C.prog (w.forCall tape i) .any w.heap.size f i/\
   (OpenSpec.ofChange s).preRow enc C.prog fn conds false laid (w.forCall tape i).memory i.args/\({}:Assume).holds C.prog (lone (Frame.enter C.prog f i.args .normal) [] (w.forCall tape i)))
  (laidOut:laidOutB C.prog=true) (hvars:s.vars=[]) (hts:fn.params.toList.all (λt=>C.prog.readableRec t&&decide (t<C.prog.types.size))=true)
  (hrt:fn.resultTypes= #[tb]) (htb:C.prog.underlying tb=some .bool)
  (hres:∀(ds:List (DataW H)),ds.length=fn.params.toList.length->(s.fn H (ds++[])).results=[.lit (.bool true)]/\(s.fn H (ds++[])).args=ds/\(s.fn H (ds++[])).vars=[])
  (contract:∀(W:World)(base:Nat)(args:Array Value)(ds:List (DataW H))(ps:List MemPlace),laidMetH C.prog laid W->
   (∀(j:Nat) t v,fn.params[j]? =some t->args[j]? =some v->Value.okWide C.prog W .any base t v)->
   DataW.TrodAll enc C.prog W 0 (λ_=>true) true fn.params.toList args.toList ds ps->(∀n∈DataW.weightsEach C.prog fn.params.toList ds,n<=reachBytes)->
   Calls C.prog f args W λe W'=>e=.returned (.bool true)/\Chg [] W W'):
  ReturnsInHanded {} C os f .any ((OpenSpec.ofChange s).preRow enc C.prog fn conds false laid) (((OpenSpec.ofChange s).at F).post enc C.prog fn false true false false):=by
 refine returnsInHanded_of_row (s:=OpenSpec.ofChange s) own started noInit hfn witness ?_;intro W base args ds gs before hval hW _ _ hsz hL _ _;have hW':=hW;obtain ⟨p,q,hA,hV,rfl,_,_⟩:=hW;have hV':DataW.TrodVars enc C.prog W (λ_=>true) s.vars gs q:=hV;rw [hvars] at hV';obtain ⟨rfl,rfl⟩:=trodVars_none hV'
 have hw:∀n∈DataW.weightsEach C.prog fn.params.toList ds,n<=reachBytes:=by
  intro n hn
  have:n∈DataW.weightsEach C.prog (fn.params.toList++(OpenSpec.ofChange s).bare.plain.varTypes C.prog) (ds++[]):=by
   rw [i9];exact ma (nM hA) hn
  have h2:=x6.1 hsz n this
  simpa using h2
 refine (contract W base args ds p hL hval hA hw).mono λe W' ⟨he,hc⟩=> ?_
 subst he;have hb:=hc.below;have hlt:∀x∈p,x.block<W.heap.size:=λx hx=>hW'.lt x (List.mem_append_left _ hx)
 obtain ⟨r1,r2,r3⟩:=hres ds (nM hA);refine ⟨_,rfl,?_⟩;show s.post enc C.prog fn false true false false W args _ W';refine ⟨ds,[],p++[],[]++[],p,[],hW',?_,?_,?_,hb.frame _,λh=>by cases h⟩
 ·rw [r1,hrt];exact Hw htb
 ·rw [r2];exact oA laidOut hb hts hA hlt
 ·rw [r3,hvars];rfl
def P6(g:Nat)(cs:List Value)(h:Array Obj):Array Obj:=h.modify g λ
 |.cells _ t frozen=>.cells cs.toArray t frozen
 |o=>o
def I7:List (Nat×List Value)->Array Obj->Array Obj
 |[],h=>h
 |(g,cs)::r,h=>I7 r (P6 g cs h)
def tJ(P:Program)(os:Os)(ts:List (Nat×List Value)):World:=
 {World.holding P os ⟨#[],#[],[]⟩ with heap:=I7 ts (World.holding P os ⟨#[],#[],[]⟩).heap}
end Go.Sx
