/- Lemmas. -/
import Derived.WalkKit
import Derived.StillTail
import Derived.Maps.AppendAt
import Derived.ProofKit
import Derived.SizedLaws
import Derived.Deep.Slices
import Derived.OpenShut
import Derived.Deep.DeepHandedRow
import Derived.SevenTiedAt
set_option linter.all false
namespace Go
theorem d7:type_of% @if_pos:=if_pos
theorem d8:type_of% @if_neg:=if_neg
theorem f8:type_of% @List.mem_append:=List.mem_append
theorem g8:type_of% @List.mem_singleton:=List.mem_singleton
theorem i4:type_of% @List.append_nil:=List.append_nil
theorem i6:type_of% @Option.some.injEq:=Option.some.injEq
theorem i8:type_of% @Option.some.inj:=Option.some.inj
theorem j5:type_of% @List.mem_cons:=List.mem_cons
theorem j8:type_of% @List.length_set:=List.length_set
theorem j9:type_of% @List.mem_flatten:=List.mem_flatten
theorem k6:type_of% @List.nodup_append:=List.nodup_append
theorem k8:type_of% @List.map_append:=List.map_append
theorem k9:type_of% @Nat.le_refl:=Nat.le_refl
theorem l6:type_of% @Int.toNat_natCast:=Int.toNat_natCast
theorem l8:type_of% @List.length_append:=List.length_append
theorem m6:type_of% @List.length_map:=List.length_map
theorem o4:type_of% @List.ext_getElem?:=List.ext_getElem?
theorem o5:type_of% @List.nodup_nil:=List.nodup_nil
theorem o7:type_of% @Prod.mk.injEq:=Prod.mk.injEq
theorem o8:type_of% @List.getElem?_map:=List.getElem?_map
theorem p9:type_of% @List.map_cons:=List.map_cons
theorem q7:type_of% @List.nodup_cons:=List.nodup_cons
theorem q8:type_of% @List.getElem?_of_mem:=List.getElem?_of_mem
theorem q9:type_of% @if_true:=if_true
theorem r6:type_of% @Nat.mul_le_mul_right:=Nat.mul_le_mul_right
theorem r7:type_of% @Nat.ne_of_beq_eq_false:=Nat.ne_of_beq_eq_false
theorem r9:type_of% @List.mem_or_eq_of_mem_set:=List.mem_or_eq_of_mem_set
theorem s7:type_of% @Bool.or_eq_true:=Bool.or_eq_true
theorem s9:type_of% @List.take_of_length_le:=List.take_of_length_le
theorem t6:type_of% @Option.map_some:=Option.map_some
theorem t7:type_of% @Array.getElem?_eq_some_iff:=Array.getElem?_eq_some_iff
theorem t8:type_of% @Nat.le_trans:=Nat.le_trans
theorem u4:type_of% @List.length_cons:=List.length_cons
theorem u5:type_of% @Nat.le_of_ble_eq_true:=Nat.le_of_ble_eq_true
theorem u6:type_of% @List.append_assoc:=List.append_assoc
theorem w6:type_of% @List.mem_iff_getElem:=List.mem_iff_getElem
theorem w7:type_of% @Nat.eq_of_beq_eq_true:=Nat.eq_of_beq_eq_true
theorem w8:type_of% @Nat.add_mul:=Nat.add_mul
theorem x2:type_of% @List.mem_map:=List.mem_map
theorem x3:type_of% @beq_iff_eq:=beq_iff_eq
theorem x4:type_of% @Int.le_refl:=Int.le_refl
theorem x5:type_of% @if_false:=if_false
theorem x6:type_of% @Nat.blt_eq:=Nat.blt_eq
theorem x7:type_of% @Nat.ble_eq_true_of_le:=Nat.ble_eq_true_of_le
theorem x9:type_of% @List.take_append_drop:=List.take_append_drop
theorem ya:type_of% @Nat.zero_add:=Nat.zero_add
theorem yb:type_of% @List.flatten_cons:=List.flatten_cons
theorem ye:type_of% @List.getElem?_append_left:=List.getElem?_append_left
theorem yf:type_of% @List.all_eq_true:=List.all_eq_true
theorem yh:type_of% @List.take_add_one:=List.take_add_one
theorem yi:type_of% @List.getElem_mem:=List.getElem_mem
theorem yj:type_of% @List.length_nil:=List.length_nil
theorem yo:type_of% @List.map_set:=List.map_set
theorem yp:type_of% @Option.map_eq_some_iff:=Option.map_eq_some_iff
theorem yq:type_of% @of_decide_eq_true:=of_decide_eq_true
theorem yr:type_of% @List.drop_of_length_le:=List.drop_of_length_le
theorem yt:type_of% @List.filter_append:=List.filter_append
theorem yv:type_of% @List.sum_append:=List.sum_append
theorem yw:type_of% @List.length_take:=List.length_take
theorem yx:type_of% @List.flatten_append:=List.flatten_append
theorem yy:type_of% @List.getElem?_set_self:=List.getElem?_set_self
theorem yz:type_of% @Array.getD_eq_getD_getElem?:=Array.getD_eq_getD_getElem?
theorem y4:type_of% @List.drop_drop:=List.drop_drop
theorem y5:type_of% @List.sum_cons:=List.sum_cons
theorem y6:type_of% @List.eq_nil_of_length_eq_zero:=List.eq_nil_of_length_eq_zero
theorem y7:type_of% @List.getElem?_set:=List.getElem?_set
theorem y8:type_of% @Nat.eq_zero_or_pos:=Nat.eq_zero_or_pos
theorem y9:type_of% @Nat.add_assoc:=Nat.add_assoc
theorem z7:type_of% @Option.bind_eq_some_iff:=Option.bind_eq_some_iff
theorem z8:type_of% @of_decide_eq_false:=of_decide_eq_false
theorem Tq:type_of% @Int.ofNat_le:=Int.ofNat_le
theorem Tr:type_of% @List.nil_append:=List.nil_append
theorem Ts:type_of% @List.cons_append:=List.cons_append
theorem Tt:type_of% @List.set_set:=List.set_set
theorem Tu:type_of% @List.getElem?_append_right:=List.getElem?_append_right
theorem Tv:type_of% @List.map_congr_left:=List.map_congr_left
theorem Tw:type_of% @Nat.succ_mul:=Nat.succ_mul
theorem Tx:type_of% @List.take_append_of_le_length:=List.take_append_of_le_length
theorem Ty:type_of% @List.take_take:=List.take_take
theorem Tz:type_of% @List.mem_of_mem_take:=List.mem_of_mem_take
theorem TA:type_of% @List.getElem?_eq_none:=List.getElem?_eq_none
theorem TB:type_of% @List.eq_of_mem_replicate:=List.eq_of_mem_replicate
theorem TC:type_of% @Nat.mul_le_mul:=Nat.mul_le_mul
theorem TD:type_of% @Nat.mod_eq_of_lt:=Nat.mod_eq_of_lt
theorem TE:type_of% @List.getElem?_set_ne:=List.getElem?_set_ne
theorem TF:type_of% @List.take_length:=List.take_length
theorem TG:type_of% @List.getElem?_drop:=List.getElem?_drop
theorem TH:type_of% @List.getElem?_cons_zero:=List.getElem?_cons_zero
theorem TJ:type_of% @List.getElem?_range:=List.getElem?_range
theorem TK:type_of% @List.length_eq_zero_iff:=List.length_eq_zero_iff
theorem TL:type_of% @List.drop_append:=List.drop_append
theorem TM:type_of% @List.set_append_right:=List.set_append_right
theorem TN:type_of% @Array.getElem?_eq_getElem:=Array.getElem?_eq_getElem
theorem TO:type_of% @List.mem_append_right:=List.mem_append_right
theorem TP:type_of% @Bool.and_eq_true:=Bool.and_eq_true
theorem TQ:type_of% @List.drop_eq_getElem_cons:=List.drop_eq_getElem_cons
theorem TR:type_of% @Nat.le_mul_of_pos_right:=Nat.le_mul_of_pos_right
theorem TS:type_of% @Int.mul_le_mul_of_nonneg_right:=Int.mul_le_mul_of_nonneg_right
theorem TT:type_of% @List.length_filter_le:=List.length_filter_le
theorem TU:type_of% @List.length_replicate:=List.length_replicate
theorem TV:type_of% @List.mem_of_mem_eraseIdx:=List.mem_of_mem_eraseIdx
theorem TW:type_of% @List.eraseIdx_eq_take_drop_succ:=List.eraseIdx_eq_take_drop_succ
end Go
namespace Go.Sx
open Go.RowKit
variable {α β:Type}{w' w w0:World}{x y O:Operand}{P:Program}{N i sz n d s e r m bytes q z:Nat}{fr fr':List (Nat×Value)}{v V W:Value}{Q:Exit->Act->World->Prop}{l:List Oper}{S0 S F:List Nat}{enc:α->List Value}{xs ys:List α}{a:Act}{o:Oper}{T ty a6:TypeId}{c M U:Code}{f:FuncId}{pos:String}{p:Option (Nat×Bool)}{R:Ending->World->Prop}{g:Bool}{vs b:List Value}{D D':World->List Nat->α->List Value->Prop}{K:Act->World->Prop}{G G':α->Prop}{u ρ':Operand->Value}{A:α}{ps:List MemPlace}{j a4:Int}{h:Prop}{C:Nat->Prop}{E:Func}{I:Array Value}{X:Array α}{Y:Call}{Z:List Operand}{a0:Option Nat}{J:Addr}{a3:Option Addr}{t:Array Edge}{kd kc:IntKind}{a7:Act->Prop}{a8:Unit}{a9:(α->Option β)->α->Option β}{b0:β}{b2:Exit}{B:Array Field}{b3:TypeId×Value->β}{b4:Nat->Bool}{b5:DataW β×List MemPlace}{k:List TypeId}{b6:List (DataW β)}{b7:TypeId×Value->α}{b8:List (DataW α)}{c0:Reach}
theorem zbs.{u,v}{α:Type u}{β:Type v}(a:α)(f:α->Option β):(some a).bind f=f a:=rfl
theorem zft(b:Bool):b=true\/b=false:=Bool.eq_false_or_eq_true b
theorem zfe:(false=true)=False:=Bool.false_eq_true
theorem zof(h:0<=j):∃n:Nat,j=n:=Int.eq_ofNat_of_zero_le h
theorem zar.{u}{α:Type u}{b:α}(as:List α){a:List α}(h:b∈a):b∈as++a:=TO as h
theorem zal.{u}{α:Type u}{a:α}{as:List α}(b:List α)(h:a∈as):a∈as++b:=List.mem_append_left b h
theorem zls(n:Nat):n<n.succ:=Nat.lt_succ_self n
theorem zmg.{u}{α:Type u}{l:List α}{a:α}(h:l[i]? =some a):a∈l:=List.mem_of_getElem? h
theorem zcm.{u}{α:Type u}(y:α){a:α}{l:List α}(h:a∈l):a∈y::l:=List.mem_cons_of_mem y h
theorem zes.{u}{α:Type u}{a:α}{l:List α}:l[i]? =some a↔∃h:i<l.length,l[i]=a:=List.getElem?_eq_some_iff
theorem zae(a b:Bool):((a&&b)=true)=(a=true/\b=true):=TP a b
theorem znm.{u}{α:Type u}{a:α}:¬a∈ []:=List.not_mem_nil
theorem zeg.{u}{α:Type u}{l:List α}(h:i<l.length):l[i]? =some l[i]:=List.getElem?_eq_getElem h
theorem zcs.{u}{α:Type u}{a:α}{l:List α}:a∈a::l:=List.mem_cons_self
theorem zdq[inst:Decidable h]:(decide h=true)=h:=decide_eq_true_eq
def lK:List (Nat×Value)->Nat->Option Value
 |[],_=>none
 |p::r,n=>match Nat.beq p.1 n with
  |true=>some p.2
  |false=>lK r n
structure Rep (N:Nat) (fr:List (Nat×Value)) (a:Act):Prop where
 size:a.tmps.size=N
 defers:a.defers=[]
 get:∀i v,lK fr i=some v->a.tmps[i]? =some v
def look(fr:List (Nat×Value)):Operand->Option Value
 |.tmp t=>lK fr t
 |.const v=>some v
 |.global g=>some (.pointer (some ⟨g,0,none⟩))
 |.func f=>some (.func (.func f) #[] #[])
theorem Rep.look(h:Rep N fr a)(b:look fr x=some v):a.eval x=v:=by
 cases x with
 |tmp t=>
  have:=h.get t v b;simp [Act.eval,yz,this]
 |const c=>simpa [Sx.look,Act.eval] using b
 |global g=>simpa [Sx.look,Act.eval] using b
 |func f=>simpa [Sx.look,Act.eval] using b
theorem bF:lK ((i,v)::fr) n=if i=n then some v else lK fr n:=by
 simp only [lK];cases h:Nat.beq i n with
 |true=>rw [d7 (w7 h)]
 |false=>rw [d8 (r7 h)]
theorem Rep.put(h:Rep N fr a)(f:Nat.blt d N=true):Rep N ((d,v)::fr) (a.put (some d) v):=by
 have c:d<N:=by simpa [x6] using f
 refine ⟨by simp [Act.put,h.size],by simp [Act.put,h.defers],λi u b=> ?_⟩;rw [bF] at b;simp only [Act.put];by_cases e:d=i
 ·subst e;rw [d7 rfl] at b;cases b;simp [h.size,c]
 ·rw [d8 e] at b;rw [Array.getElem?_setIfInBounds_ne e];exact h.get i u b
def vg:List Oper->Nat->Option Oper
 |[],_=>none
 |o::_,0=>some o
 |_::r,n+1=>vg r n
theorem aX(h:vg l i=some o):l.drop i=o::l.drop (i+1):=by
 induction l generalizing i with
 |nil=>cases h
 |cons x r a=>
  cases i with
  |zero=>simp only [vg,i6] at h;subst h;rfl
  |succ i=>exact a h
def OW(P:Program)(l:List Oper)(N:Nat)(Q:Exit->Act->World->Prop)(i:Nat)(fr:List (Nat×Value))(w:World):Prop:=
 ∀a,Rep N fr a->wpList P l.toArray Q (l.drop i) a w
def CW(P:Program)(N:Nat)(c:Code)(Q:Exit->Act->World->Prop)(fr:List (Nat×Value))(w:World):Prop:=
 ∀a,Rep N fr a->c.wp P Q a w
def QW(N:Nat)(Q:Exit->Act->World->Prop)(e:Exit)(fr:List (Nat×Value))(w:World):Prop:=
 ∀a,Rep N fr a->Q e a w
theorem SE:∀n,C n->∃m,C m/\∀k,C k->m<=k:=by
 intro n
 induction n using Nat.strongRecOn with
 |_ n i=>
  grind
theorem CW.enter(a:P.funcs[f]? =some E)(b:E.body=some c)(d:E.ntmps=N)
  (e:Nat.ble I.size N=true) (g:∀j v,lK fr j=some v->I[j]? =some v)
  (h:CW P N c (bodyPost P E R) fr w):Calls P f I w R:=by
 subst d;refine calls_of_wp a b (h _ ⟨?_,rfl,?_⟩)
 ·have:=u5 e;simp;omega
 grind
theorem CW.seq(h:CW P N c (Exit.then (M.wp P Q) Q) fr w):CW P N (.seq c M) Q fr w:=λa b=>wp_seq (h a b)
theorem f4:type_of% @CW.seq:=CW.seq
theorem CW.region(h:OW P l N Q 0 fr w):CW P N (.region s l.toArray false) Q fr w:=
 λa b=>wp_region_lit (h a b)
theorem f7:type_of% @CW.region:=CW.region
theorem CW.skip(h:QW N Q .normal fr w):CW P N .skip Q fr w:=λa b=>wp_skip (h a b)
theorem u7:type_of% @CW.skip:=CW.skip
theorem CW.exit(h:QW N Q (.exit s) fr w):CW P N (.exit s) Q fr w:=λa b=>wp_exit (h a b)
theorem CW.ret(h:QW N Q .ret fr w):CW P N .ret Q fr w:=λa b=>wp_ret (h a b)
theorem p5:type_of% @CW.ret:=CW.ret
theorem CW.block(h:CW P N c (Exit.inBlock s Q) fr w):CW P N (.block s c) Q fr w:=λa b=>wp_block (h a b)
theorem CW.cond_t(c:look fr O=some (.bool g))(d:g=true)(h:CW P N M Q fr w):CW P N (.cond O M U) Q fr w:=
 λa b=>wp_cond_true (by rw [b.look c,d]) (h a b)
theorem p6:type_of% @CW.cond_t:=CW.cond_t
theorem CW.cond_f(c:look fr O=some (.bool g))(d:g=false)(h:CW P N U Q fr w):CW P N (.cond O M U) Q fr w:=
 λa b=>wp_cond_false (by rw [b.look c,d]) (h a b)
theorem p8:type_of% @CW.cond_f:=CW.cond_f
theorem QW.next(h:CW P N c Q fr w):QW N (Exit.then (c.wp P Q) Q) .normal fr w:=h
theorem f5:type_of% @QW.next:=QW.next
theorem QW.then_exit(h:QW N Q (.exit s) fr w):QW N (Exit.then K Q) (.exit s) fr w:=h
theorem z6:type_of% @QW.then_exit:=QW.then_exit
theorem QW.then_ret(h:QW N Q .ret fr w):QW N (Exit.then K Q) .ret fr w:=h
theorem yl:type_of% @QW.then_ret:=QW.then_ret
theorem QW.block_normal(h:QW N Q .normal fr w):QW N (Exit.inBlock s Q) .normal fr w:=h
theorem yu:type_of% @QW.block_normal:=QW.block_normal
theorem QW.block_ret(h:QW N Q .ret fr w):QW N (Exit.inBlock s Q) .ret fr w:=h
theorem QW.block_here(h:QW N Q .normal fr w):QW N (Exit.inBlock s Q) (.exit s) fr w:=λa b=>by
 simp only [Exit.inBlock,q9];exact h a b
theorem QW.block_on(b:Nat.beq i s=false)(h:QW N Q (.exit i) fr w):QW N (Exit.inBlock s Q) (.exit i) fr w:=λa c=>by
 simp only [Exit.inBlock];rw [d8 (r7 b)];exact h a c
theorem QW.meet(h:∀a,Rep N fr a->K a w):QW N (Exit.then K Q) .normal fr w:=h
theorem QW.ret1(c:E.results= #[.tmp i])(d:lK fr i=some v)(h:R (.returned v) w):QW N (bodyPost P E R) .ret fr w:=λa b=>
 ⟨b.defers,v,by rw [results_tmp c,yz,b.get i v d];rfl,h⟩
theorem v8:type_of% @QW.ret1:=QW.ret1
theorem QW.ret2(c:E.results= #[.tmp i,.tmp sz])(d:lK fr i=some V)(e:lK fr sz=some v)(h:R (.returned (.tuple #[V,v])) w):
  QW N (bodyPost P E R) .ret fr w:=λa b=>
 ⟨b.defers,_,by rw [results_tmp2 c,yz,yz,b.get i V d,b.get sz v e];rfl,h⟩
theorem QW.ret3(c:E.results= #[.tmp i,.tmp sz,.tmp q])(d:lK fr i=some V)(f:lK fr sz=some v)(g:lK fr q=some W)
  (h:R (.returned (.tuple #[V,v,W])) w):QW N (bodyPost P E R) .ret fr w:=λa b=>
 ⟨b.defers,_,by
  have e:(results E a.tmps).run P w=.ok (.tuple #[a.tmps.getD i undef,a.tmps.getD sz undef,a.tmps.getD q undef]) w:=by simp [results,c]
  rw [e,yz,yz,yz,b.get i V d,b.get sz v f,b.get q W g];rfl,h⟩
theorem QW.ret0(a:E.results= #[])(h:R (.returned (.tuple #[])) w):QW N (bodyPost P E R) .ret fr w:=λ_ b=>
 ⟨b.defers,_,results_none a _ _ _,h⟩
theorem QW.end0(a:E.results= #[])(h:R (.returned (.tuple #[])) w):QW N (bodyPost P E R) .normal fr w:=λ_ b=>
 ⟨b.defers,_,results_none a _ _ _,h⟩
theorem C6(J:Nat->Act->World->Prop)
  (round:∀n a w,J n a w->c.wp P (Exit.then (λf w'=>∃m,m<n/\J m f w') Q) a w) (h:J n a w):(Code.loop c).wp P Q a w:=by
 classical
 let ok:Act->World->Prop:=λa w=>∃n,J n a w
 have b:∀a w,ok a w->∃m,J m a w/\∀k,J k a w->m<=k:=λa w ⟨n,g⟩=>SE n g
 let d:Act->World->Nat:=λa w=>if h:ok a w then Classical.choose (b a w h) else 0
 have spec:∀a w,(h:ok a w)->J (d a w) a w/\∀n,J n a w->d a w<=n:=by
  intro a w h
  grind
 refine wp_loop ok d ⟨n,h⟩ (λa w i=> ?_);have j:=spec a w i;refine wp_mono (round _ a w j.1) (λe f w' l=> ?_);cases e with
 |normal=>
  grind
 |_=>exact l
theorem CW.loop(J:Nat->Act->World->Prop)(n:Nat)(h:∀a,Rep N fr a->J n a w)
  (round:∀n a w,J n a w->c.wp P (Exit.then (λb w'=>∃m,m<n/\J m b w') Q) a w):CW P N (.loop c) Q fr w:=
 λa d=>C6 J round (h a d)
theorem OW.nil(hl:vg l i=none)(h:QW N Q .normal fr w):OW P l N Q i fr w:=λa b=>by
 have:l.drop i=[]:=by
  clear h b
  induction l generalizing i with
  |nil=>simp
  |cons x r c=>
   cases i with
   |zero=>cases hl
   |succ i=>exact c hl
 rw [this];exact wpList_nil (h a b)
theorem f6:type_of% @OW.nil:=OW.nil
def ax{α:Type}(P:Program):Sem α->Option α
 |.pure a=>some a
 |.program k=>ax P (k P)
 |_=>none
theorem qV{α:Type}{s:Sem α}{a:α}(h:ax P s=some a)(w:World):s.run P w=.ok a w:=by
 induction s with
 |pure b=>simp only [ax,i6] at h;subst h;rfl
 |program k i=>exact i P h
 |_=>cases h
theorem gY{β:Type}{f g:α->β}(h:∀x∈X.toList,f x=g x):X.map f=X.map g:=by
 grind
theorem mo(h:∀x∈Y.operands.toList,u x=ρ' x):resolve u Y T=resolve ρ' Y T:=by
 have c:Y.args.map u=Y.args.map ρ':=gY (λx d=>h x (by simp [Call.operands];exact .inr (by simpa using d)))
 unfold resolve;rw [c];cases a:Y.callee with
 |builtin b=>rfl
 |invoke r m=>dsimp only;rw [h r (by simp [Call.operands,a])]
 |value f=>dsimp only;rw [h f (by simp [Call.operands,a])]
def aE:Op->Bool
 |.select .. =>false
 |_=>true
theorem ki(k:aE o.op=true)(h:∀x∈o.op.operands.toList,u x=ρ' x):execOp u o=execOp ρ' o:=by
 obtain ⟨dst,op,ty,pos,after,guard⟩:=o;cases op with
 |call c=>simp only [execOp];rw [mo (by simpa [Op.operands] using h)]
 |go c=>simp only [execOp];rw [mo (by simpa [Op.operands] using h)]
 |defer c=>simp only [execOp];rw [mo (by simpa [Op.operands] using h)]
 |build t ps=>
  have:(ps.map λ(i,x)=>(i,u x))=ps.map λ(i,x)=>(i,ρ' x):=gY (λx d=>by
   obtain ⟨i,x⟩:=x;simp only [o7,true_and];exact h x (by simp [Op.operands];exact ⟨i,by simpa using d⟩))
  simp only [execOp];rw [this]
 |buildSlice t n ps=>
  have:(ps.map λ(i,x)=>(i,u x))=ps.map λ(i,x)=>(i,ρ' x):=gY (λx d=>by
   obtain ⟨i,x⟩:=x;simp only [o7,true_and];exact h x (by simp [Op.operands];exact ⟨i,by simpa using d⟩))
  simp only [execOp];rw [this]
 |makeFunc f a b=>
  have e:a.map u=a.map ρ':=gY (λx d=>h x (by simp [Op.operands];exact .inl (by simpa using d)))
  have g:b.map u=b.map ρ':=gY (λx d=>h x (by simp [Op.operands];exact .inr (by simpa using d)))
  simp only [execOp];rw [e,g]
 |makeMap t r=>cases r with
  |none=>rfl
  |some x=>simp only [execOp,t6];rw [h x (by simp [Op.operands])]
 |slice t x l j m=>
  have d:u x=ρ' x:=h x (by simp [Op.operands]);have e:l.map u=l.map ρ':=by cases l with|none=>rfl|some y=>simp only [t6];rw [h y (by simp [Op.operands])]
  have g:j.map u=j.map ρ':=by cases j with|none=>rfl|some y=>simp only [t6];rw [h y (by simp [Op.operands])]
  have p:m.map u=m.map ρ':=by cases m with|none=>rfl|some y=>simp only [t6];rw [h y (by simp [Op.operands])]
  simp only [execOp];rw [d,e,g,p]
 |select q b=>cases k
 |_=>
  simp only [Op.operands,j5,znm,or_false,forall_eq_or_imp,forall_eq] at h;simp only [execOp]<;>first|rfl|simp only [h]
def rho(fr:List (Nat×Value))(x:Operand):Value:=match look fr x with
 |some v=>v
 |none=>undef
def fh(fr:List (Nat×Value)):List Operand->Bool
 |[]=>true
 |x::r=>match look fr x with
  |some _=>fh fr r
  |none=>false
def MB(P:Program)(fr:List (Nat×Value))(o:Oper):Option Value:=
 match aE o.op,fh fr o.op.operands.toList with
 |true,true=>match ax P (execOp (rho fr) o) with
  |some (.value v)=>some v
  |_=>none
 |_,_=>none
theorem Bs(h:fh fr Z=true):∀x∈Z,look fr x=some (rho fr x):=by
 induction Z with
 |nil=>intro x a;cases a
 |cons y r i=>
  grind [fh,rho]
theorem uV(h:MB P fr o=some v)(b:Rep N fr a)(w:World):
  (execOp a.eval o).run P w=.ok (.value v) w:=by
 unfold MB at h;split at h
 ·rename_i c d
  have e:=Bs d;have g:execOp a.eval o=execOp (rho fr) o:=ki c (λx f=>b.look (e x f))
  grind [qV]
 ·cases h
def gd(l:List Oper)(fr:List (Nat×Value))(o:Oper):Option Bool:=
 match o.guard with
 |none=>some true
 |some (j,b)=>match (vg l j).bind (·.dst) with
  |some d=>match lK fr d with
   |some (.bool c)=>some (c==b)
   |some (.tuple _)=>some false
   |_=>none
  |none=>none
theorem dQ(l:List Oper)(j:Nat):l.toArray[j]? =vg l j:=by
 simp only [List.getElem?_toArray]
 induction l generalizing j with
 |nil=>cases j<;>rfl
 |cons x r i=>cases j with
  |zero=>rfl
  |succ j=>simpa [vg] using i j
theorem va(h:gd l fr o=some g)(e:Rep N fr a):Region.wanted o (yielded l.toArray a.tmps)=g:=by
 unfold gd at h;unfold Region.wanted;split at h
 ·grind
 ·rename_i j c i
  rw [i];split at h
  ·rename_i d f
   split at h
   ·rename_i u b
    simp only [i6] at h;subst h;simp only [yielded,dQ,f,zbs,e.get d _ b]
    grind
   ·rename_i u b
    simp only [i6] at h;subst h;simp only [yielded,dQ,f,zbs,e.get d _ b];cases c<;>rfl
   ·cases h
  ·cases h
def lL(P:Program)(l:List Oper)(N:Nat):Nat->Nat->List (Nat×Value)->Option (List (Nat×Value))
 |0,_,fr=>some fr
 |n+1,i,fr=>match vg l i with
  |none=>none
  |some o=>match o.dst with
   |none=>none
   |some d=>match Nat.blt d N with
    |false=>none
    |true=>match gd l fr o with
     |some true=>match MB P fr o with
      |some v=>lL P l N n (i+1) ((d,v)::fr)
      |none=>none
     |some false=>lL P l N n (i+1) ((d,undef)::fr)
     |none=>none
def mem?(n:Nat):List Nat->Bool
 |[]=>false
 |m::r=>match Nat.beq m n with
  |true=>true
  |false=>mem? n r
def aY(done:List Nat):List (Nat×Value)->List (Nat×Value)
 |[]=>[]
 |p::r=>match mem? p.1 done with
  |true=>aY done r
  |false=>p::aY (p.1::done) r
def rB(fr:List (Nat×Value)):List (Nat×Value)->List (Option Value)
 |[]=>[]
 |p::r=>lK fr p.1::rB fr r
def kj:List (Nat×Value)->List (Option Value)
 |[]=>[]
 |p::r=>some p.2::kj r
theorem mem?_iff:mem? n S0=true↔n∈S0:=by
 induction S0 with
 |nil=>simp [mem?]
 |cons m r i=>
  unfold mem?;cases h:Nat.beq m n with
  |true=>simp [(w7 h).symm]
  |false=>simp only [i,j5];exact ⟨.inr,λe=>e.resolve_left (λx=>(r7 h) x.symm)⟩
theorem Hw:∀{done:List Nat} {i:Nat} {v:Value},i∉done->lK fr i=some v->(i,v)∈aY done fr:=by
 induction fr with
 |nil=>intro _ _ _ _ h;cases h
 |cons p r c=>
  intro done i v a h;obtain ⟨j,u⟩:=p;rw [bF] at h;unfold aY;by_cases e:j=i
  ·subst e;rw [d7 rfl] at h;cases h
   have:mem? j done=false:=by
    cases b:mem? j done with
    |true=>exact absurd (mem?_iff.1 b) a
    |false=>rfl
   grind
  grind
theorem C7:∀{l:List (Nat×Value)},rB fr l=kj l->∀p∈l,lK fr p.1=some p.2:=by
 intro l
 induction l with
 |nil=>intro _ p h;cases h
 |cons q r i=>
  grind [rB,kj]
def agrees(fr fr':List (Nat×Value)):Prop:=rB fr (aY [] fr')=kj (aY [] fr')
theorem Rep.agrees(h:Rep N fr a)(b:rB fr (aY [] fr')=kj (aY [] fr')):Rep N fr' a:=
 ⟨h.size,h.defers,λ_ _ c=>h.get _ _ (C7 b _ (Hw (by simp) c))⟩
theorem Gq:∀(n i:Nat)(fr:List (Nat×Value)){f:List (Nat×Value)},lL P l N n i fr=some f->OW P l N Q (i+n) f w->OW P l N Q i fr w:=by
 intro n
 induction n with
 |zero=>intro i fr f h k;simp only [lL,i6] at h;subst h;exact k
 |succ n g=>
  intro i fr f h k;unfold lL at h;split at h
  ·cases h
  ·rename_i o j
   split at h
   ·cases h
   ·rename_i d m
    split at h
    ·cases h
    ·rename_i p
     split at h
     ·rename_i c
      split at h
      ·rename_i v q
       have:=g (i+1) _ h (by grind);intro a b;rw [aX j];refine wpList_step (λK e=> ?_);rw [va c b,d7 rfl];unfold Oper.wp;rw [uV q b w,Oper.upon_value,m];exact e _ _ (this _ (b.put p))
      ·cases h
     ·rename_i c
      have:=g (i+1) _ h (by grind);intro a b;rw [aX j];refine wpList_step (λK e=> ?_);rw [va c b,m];exact e _ _ (this _ (b.put p))
     ·cases h
theorem OW.pure(n:Nat)(new:List (Nat×Value))
  (h:(lL P l N n i fr).map (λf=>rB f (aY [] (new++fr)))=some (kj (aY [] (new++fr))))
  (k:OW P l N Q (i+n) (new++fr) w):OW P l N Q i fr w:=by
 cases b:lL P l N n i fr with
 |none=>rw [b] at h;cases h
 |some f=>
  rw [b] at h;simp only [t6,i6] at h;exact Gq n i fr b (λa c=>k a (c.agrees h))
theorem d9:type_of% @OW.pure:=OW.pure
theorem OW.split(s:Nat)(h:lK fr s=some (.bool g))(b:g=true->OW P l N Q i ((s,.bool true)::fr) w)(c:g=false->OW P l N Q i ((s,.bool false)::fr) w):OW P l N Q i fr w:=by
 cases g with
 | true => exact fun a ha => b rfl a ⟨ha.size, ha.defers, fun j v hj => by
   rw [bF] at hj;by_cases e:s=j
   ·subst e;rw [d7 rfl] at hj;exact ha.get _ _ (h.trans hj)
   ·rw [d8 e] at hj;exact ha.get _ _ hj⟩
 | false => exact fun a ha => c rfl a ⟨ha.size, ha.defers, fun j v hj => by
   rw [bF] at hj;by_cases e:s=j
   ·subst e;rw [d7 rfl] at hj;exact ha.get _ _ (h.trans hj)
   ·rw [d8 e] at hj;exact ha.get _ _ hj⟩
theorem OW.op(hl:vg l i=some o)(c:gd l fr o=some true)(e:o.dst=some d)(f:Nat.blt d N=true)
  (g:∀a,Rep N fr a->(execOp a.eval o).run P w=.ok (.value v) w')
  (h:OW P l N Q (i+1) ((d,v)::fr) w'):OW P l N Q i fr w:=λa b=>by
 rw [aX hl];refine wpList_step (λK j=> ?_);rw [va c b,d7 rfl];unfold Oper.wp;rw [g a b,Oper.upon_value,e];exact j _ _ (h _ (b.put f))
theorem j6:type_of% @OW.op:=OW.op
theorem OW.opn(hl:vg l i=some o)(c:gd l fr o=some true)(d:o.dst=none)
  (e:∀a,Rep N fr a->(execOp a.eval o).run P w=.ok (.value v) w')
  (h:OW P l N Q (i+1) fr w'):OW P l N Q i fr w:=λa b=>by
 rw [aX hl];refine wpList_step (λK f=> ?_);rw [va c b,d7 rfl];unfold Oper.wp;rw [e a b,Oper.upon_value,d];exact f _ _ (h _ b)
theorem OW.ops(hl:vg l i=some o)(c:gd l fr o=some true)(d:o.dst=none)
  (e:∀a,Rep N fr a->(execOp a.eval o).run P w=.ok .skip w')
  (h:OW P l N Q (i+1) fr w'):OW P l N Q i fr w:=λa b=>by
 rw [aX hl];refine wpList_step (λK f=> ?_);rw [va c b,d7 rfl];unfold Oper.wp;rw [e a b,Oper.upon_skip,d];exact f _ _ (h _ b)
theorem OW.call(hl:vg l i=some o)(c:gd l fr o=some true)(g:o.dst=some d)(j:Nat.blt d N=true)
  (k:∀a,Rep N fr a->(execOp a.eval o).run P w=.ok (.enter f I) w)
  (m:Calls P f I w R)
  (h:∀e w',R e w'->∃v,e=.returned v/\OW P l N Q (i+1) ((d,v)::fr) w'):OW P l N Q i fr w:=λa b=>by
 rw [aX hl];refine wpList_step (λK n=> ?_);rw [va c b,d7 rfl];unfold Oper.wp;rw [k a b,Oper.upon_enter];refine m.mono (λe w' p=> ?_);obtain ⟨v,rfl,q⟩:=h e w' p;simp only [g];exact n _ _ (q _ (b.put j))
structure Chg (S:List Nat) (w w':World):Prop where
 os:w'.os=w.os
 tape:w'.tape=w.tape
 output:w'.output=w.output
 size:w.heap.size<=w'.heap.size
 block:∀k,k<w.heap.size->k∉S->w'.heap[k]? =w.heap[k]?
theorem Chg.refl(S:List Nat)(w:World):Chg S w w:=⟨rfl,rfl,rfl,k9 _,λ_ _ _=>rfl⟩
theorem x8:type_of% @Chg.refl:=Chg.refl
theorem Chg.trans(h:Chg S w' w)(k:Chg S w w0):Chg S w' w0:=
 ⟨k.os.trans h.os,k.tape.trans h.tape,k.output.trans h.output,t8 h.size k.size,λi a b=>(k.block i (Nat.lt_of_lt_of_le a h.size) b).trans (h.block i a b)⟩
theorem Chg.alloc(w:World)(o:Obj):Chg S w (w.alloc o):=⟨rfl,rfl,rfl,by simp,λk h _=>Below.heap_alloc _ _ _ h⟩
theorem Chg.mono(h:Chg S w' w)(a:∀x,x∈S->x∈S0):Chg S0 w' w:={h with block:=λk b c=>h.block k b (λd=>c (a k d))}
theorem Chg.grown(h:w.grownBy w' a0)(a:∀b,a0=some b->b∈S):Chg S w w':=
 {h with block:=λk c d=>h.block k c (λe=>d (a k e.symm))}
theorem Chg.below(h:Chg [] w' w):Below w'.heap.size w' w:=⟨h.os,h.tape,h.output,h.size,λk a=>h.block k a (by simp)⟩
structure Item where
 S:List Nat
 Φ:World->Prop
 loc:∀w w':World,(∀b∈S,w'.heap[b]? =w.heap[b]?)->Φ w->Φ w'
 lt:∀w,Φ w->∀b∈S,b<w.heap.size
def nilI:Item:=⟨[],λ_=>True,λ_ _ _ _=>trivial,λ_ _ _ h=>by cases h⟩
def fp:List Item->List Nat
 |[]=>[]
 |it::r=>it.S++fp r
variable {L:List Item}
theorem vG:N∈fp L↔∃(i:Nat)(it:Item),L[i]? =some it/\N∈it.S:=by
 induction L with
 |nil=>simp [fp]
 |cons it r a=>
  simp only [fp,f8,a];constructor
  ·rintro (h|⟨i,x,hi,hb⟩)
   ·exact ⟨0,it,rfl,h⟩
   ·exact ⟨i+1,x,hi,hb⟩
  grind
structure St (w0:World) (S0:List Nat) (w:World) (L:List Item):Prop where
 chg:Chg S0 w0 w
 all:∀(i:Nat)(it:Item),L[i]? =some it->it.Φ w
 nd:∀(i:Nat)(it:Item),L[i]? =some it->it.S.Nodup
 apart:∀(i j:Nat)(a b:Item),i≠j->L[i]? =some a->L[j]? =some b->∀x∈a.S,x∉b.S
 own:∀(i:Nat)(it:Item),L[i]? =some it->∀x∈it.S,x∈S0\/w0.heap.size<=x
def sel(L:List Item):List Nat->List Item
 |[]=>[]
 |i::r=>L.getD i nilI::sel L r
def zT:List Nat->Bool
 |[]=>true
 |i::r=>match mem? i r with
  |true=>false
  |false=>zT r
variable {it:Item}
theorem eS(h:(sel L S0)[N]? =some it):∃i,S0[N]? =some i/\L.getD i nilI=it:=by
 induction S0 generalizing N with
 |nil=>simp [sel] at h
 |cons j r a=>
  grind [sel]
theorem cI(h:zT S0=true):∀{i j a b:Nat},i≠j->S0[i]? =some a->S0[j]? =some b->a≠b:=by
 induction S0 with
 |nil=>intro i j a b _ c;simp at c
 |cons m r e=>
  have f:m∉r:=λd=>by simp [zT,mem?_iff.2 d] at h
  grind [zT]
theorem xS(h:L.getD i nilI=it):L[i]? =some it\/it=nilI:=by
 grind
theorem St.same(h:St w0 S0 w L)(a:Chg [] w w'):St w0 S0 w' L:=
 ⟨h.chg.trans (a.mono (by simp)),λi it c=>it.loc w w' (λb d=>a.block b (it.lt w (h.all i it c) b d) (by simp)) (h.all i it c),h.nd,h.apart,h.own⟩
variable {it':Item}
theorem St.upd(h:St w0 S0 w L)(i:Nat)(o:L[i]? =some it)(p:Chg it.S w w')(r:it'.Φ w')(s:∀b∈it'.S,b∈it.S\/w.heap.size<=b)(t:it'.S.Nodup):
  St w0 S0 w' (L.set i it'):=by
 have C:i<L.length:=(zes.1 o).1
 have c:∀(j:Nat)(x:Item),(L.set i it')[j]? =some x->(j=i/\x=it')\/(j≠i/\L[j]? =some x):=by
  grind
 refine ⟨⟨p.os.trans h.chg.os,p.tape.trans h.chg.tape,p.output.trans h.chg.output,t8 h.chg.size p.size,λk l v=> ?_⟩,λj x d=> ?_,λj x d=> ?_,λj k a b u d l x q=> ?_,λj x d y z=> ?_⟩
 ·rw [p.block k (Nat.lt_of_lt_of_le l h.chg.size) (λq=>by rcases h.own i it o k q with g|g;exact v g;omega)];exact h.chg.block k l v
 ·rcases c j x d with ⟨rfl,rfl⟩|⟨f,d⟩
  ·exact r
  ·exact x.loc w w' (λb A=>p.block b (x.lt w (h.all j x d) b A) (h.apart j i x it f d o b A)) (h.all j x d)
 ·rcases c j x d with ⟨rfl,rfl⟩|⟨f,d⟩
  ·exact t
  ·exact h.nd j x d
 ·rcases c j a d with ⟨rfl,rfl⟩|⟨f,n⟩
  ·rcases c k b l with ⟨rfl,rfl⟩|⟨f,l⟩
   ·grind
   ·intro m;rcases s x q with g|g
    ·exact h.apart j k it b (λe=>f e.symm) o l x g m
    ·have:=b.lt w (h.all k b l) x m;omega
  ·rcases c k b l with ⟨rfl,rfl⟩|⟨B,l⟩
   ·intro m;rcases s x m with g|g
    ·exact h.apart j k a it f n o x q g
    ·have:=a.lt w (h.all j a n) x q;omega
   ·exact h.apart j k a b u n l x q
 ·rcases c j x d with ⟨rfl,rfl⟩|⟨f,d⟩
  ·rcases s y z with g|g
   ·exact h.own j it o y g
   ·exact .inr (t8 h.chg.size g)
  ·exact h.own j x d y z
theorem St.join{R:List Item}{rest:List Nat}(h:St w0 S0 w L){idx:List Nat}(E:zT (idx++rest)=true)(k:St w (fp (sel L idx)) w' R):St w0 S0 w' (R++sel L rest):=by
 have c:∀(j:Nat)(x:Item),(sel L rest)[j]? =some x->(∃i,rest[j]? =some i/\L[i]? =some x)\/x=nilI:=by
  grind [eS,xS]
 have s:∀b,b∈fp (sel L idx)->∃(j i:Nat)(it:Item),idx[j]? =some i/\L[i]? =some it/\b∈it.S:=by
  intro b l;obtain ⟨j,it,d,l⟩:=vG.1 l;obtain ⟨i,m,e⟩:=eS d;rcases xS e with e|e
  ·grind
  ·subst e;cases l
 have A:∀(j i:Nat)(x:Item),rest[j]? =some i->L[i]? =some x->∀b∈x.S,b∉fp (sel L idx):=by
  intro j i x d e b l I;obtain ⟨t,z,it,f,u,n⟩:=s b I;have J:t<idx.length:=(zes.1 f).1;have v:z≠i:=cI E (i:=t) (j:=idx.length+j) (by omega) (by grind) (by grind);exact h.apart z i it x v u e b n l
 have g:∀(j:Nat)(x:Item),(R++sel L rest)[j]? =some x->(j<R.length/\R[j]? =some x)\/(R.length<=j/\(sel L rest)[j-R.length]? =some x):=by
  grind
 have F:∀(j:Nat)(x:Item),R[j]? =some x->∀b∈x.S,b∈fp (sel L idx)\/w.heap.size<=b:=k.own;refine ⟨⟨k.chg.os.trans h.chg.os,k.chg.tape.trans h.chg.tape,k.chg.output.trans h.chg.output,t8 h.chg.size k.chg.size,λb l G=> ?_⟩,λj x d=> ?_,λj x d=> ?_,λj t a b B d f x e=> ?_,λj x d y C=> ?_⟩
 ·rw [k.chg.block b (Nat.lt_of_lt_of_le l h.chg.size) (λe=>by
   obtain ⟨_,i,it,_,m,n⟩:=s b e;rcases h.own i it m b n with r|r
   ·exact G r
   ·omega)]
  exact h.chg.block b l G
 ·rcases g j x d with ⟨_,d⟩|⟨_,d⟩
  ·exact k.all j x d
  ·rcases c _ x d with ⟨i,m,e⟩|rfl
   ·exact x.loc w w' (λb l=>k.chg.block b (x.lt w (h.all i x e) b l) (A _ i x m e b l)) (h.all i x e)
   ·trivial
 ·rcases g j x d with ⟨_,d⟩|⟨_,d⟩
  ·exact k.nd j x d
  ·rcases c _ x d with ⟨i,m,e⟩|rfl
   ·exact h.nd i x e
   ·exact o5
 ·have D:∀(p q:Nat)(a b:Item),R[p]? =some a->(sel L rest)[q]? =some b->∀x∈a.S,x∉b.S:=by
   intro p q a b K M x e o;rcases c q b M with ⟨i,m,l⟩|rfl
   ·rcases F p a K x e with r|r
    ·grind
    ·have:=b.lt w (h.all i b l) x o;omega
   ·cases o
  rcases g j a d with ⟨_,d⟩|⟨P,d⟩
  ·rcases g t b f with ⟨_,f⟩|⟨_,f⟩
   ·exact k.apart j t a b B d f x e
   grind
  ·rcases g t b f with ⟨_,f⟩|⟨N,f⟩
   ·grind
   ·intro o;rcases c _ a d with ⟨i,m,O⟩|rfl
    ·rcases c _ b f with ⟨z,u,l⟩|rfl
     ·have v:i≠z:=cI E (i:=idx.length+(j-R.length)) (j:=idx.length+(t-R.length)) (by omega)
       (by rw [Tu (by omega)];simpa using m) (by rw [Tu (by omega)];simpa using u)
      exact h.apart i z a b v O l x e o
     ·cases o
    ·cases e
 ·rcases g j x d with ⟨_,d⟩|⟨_,d⟩
  ·rcases F j x d y C with r|r
   ·obtain ⟨_,i,it,_,m,n⟩:=s y r;exact h.own i it m y n
   ·exact .inr (t8 h.chg.size r)
  ·rcases c _ x d with ⟨i,m,e⟩|rfl
   ·exact h.own i x e y C
   ·cases C
theorem St.part(h:St w0 S0 w L)(idx:List Nat)(m:zT idx=true):St w (fp (sel L idx)) w (sel L idx):=by
 have e:∀(j:Nat)(x:Item),(sel L idx)[j]? =some x->(∃i,idx[j]? =some i/\L[i]? =some x)\/x=nilI:=by
  grind [eS,xS]
 refine ⟨x8 _ _,λj x c=> ?_,λj x c=> ?_,λj n a b f c g x d=> ?_,λj x c y o=>.inl (vG.2 ⟨j,x,c,o⟩)⟩
 ·rcases e j x c with ⟨i,_,d⟩|rfl
  ·exact h.all i x d
  ·trivial
 ·rcases e j x c with ⟨i,_,d⟩|rfl
  ·exact h.nd i x d
  ·exact o5
 ·rcases e j a c with ⟨i,p,q⟩|rfl
  ·rcases e n b g with ⟨r,k,l⟩|rfl
   ·exact h.apart i r a b (cI m f p k) q l x d
   ·intro l;cases l
  ·cases d
theorem St.keep(h:St w0 S0 w L)(idx:List Nat)(a:zT idx=true):St w0 S0 w (sel L idx):=
 St.join (R:=[]) (rest:=idx) (idx:=[]) h a ⟨x8 _ _,λ_ _ h=>by simp at h,λ_ _ h=>by simp at h,λ_ _ _ _ _ h=>by simp at h,λ_ _ h=>by simp at h⟩
theorem St.push(h:St w0 S0 w L)(s:Chg [] w w')(k:it.Φ w')(l:∀b∈it.S,w.heap.size<=b)(m:it.S.Nodup):St w0 S0 w' (L++[it]):=by
 have c:∀(j:Nat)(x:Item),(L++[it])[j]? =some x->(j<L.length/\L[j]? =some x)\/(j=L.length/\x=it):=by
  grind
 have q:=h.same s;refine ⟨q.chg,λj x d=> ?_,λj x d=> ?_,λj i a b n d f x o=> ?_,λj x d y r=> ?_⟩
 ·rcases c j x d with ⟨_,d⟩|⟨_,rfl⟩
  ·exact q.all j x d
  ·exact k
 ·rcases c j x d with ⟨_,d⟩|⟨_,rfl⟩
  ·exact h.nd j x d
  ·exact m
 ·rcases c j a d with ⟨_,g⟩|⟨t,rfl⟩
  ·rcases c i b f with ⟨_,e⟩|⟨_,rfl⟩
   ·exact h.apart j i a b n g e x o
   ·intro p;have:=l x p;have:=a.lt w (h.all j a g) x o;omega
  ·rcases c i b f with ⟨_,e⟩|⟨u,rfl⟩
   ·intro p;have:=l x o;have:=b.lt w (h.all i b e) x p;omega
   ·omega
 ·rcases c j x d with ⟨_,d⟩|⟨_,rfl⟩
  ·exact h.own j x d y r
  ·exact .inr (t8 h.chg.size (l y r))
def jL(b:Nat)(T:TypeId)(c:List Value):Item where
 S:=[b]
 Φ w:=w.heap[b]? =some (.cells c.toArray T (0,0))
 loc w w' h hb:=by rw [h b (by simp)];exact hb
 lt w h x hx:=by simp only [g8] at hx;subst hx;exact (t7.1 h).1
def jO{α:Type}(enc:α->List Value):List α->List Value
 |[]=>[]
 |x::r=>enc x++jO enc r
def cM:Value->Option Nat
 |.slice (some a) _ (_+1)=>some a.block
 |_=>none
theorem xJ(h:0<N):cM (.slice (some J) n N)=some J.block:=by
 cases N with
 |zero=>omega
 |succ N=>rfl
theorem eT:cM (.slice a3 n 0)=none:=by cases a3<;>rfl
def dw(w:World)(T:TypeId)(sz:Nat)(v:Value)(n:Nat)(xs:List Value):Prop:=
  xs.length=n*sz/\
  ((n=0/\∃a,v=.slice a 0 0)\/
   ∃g o cap c,v=.slice (some ⟨g,o,none⟩) n cap/\0<cap/\w.heap[g]? =some (.cells c T (0,0))/\n<=cap/\cap<=maxLen/\o+cap*sz<=c.size/\(c.toList.drop o).take (n*sz)=xs)
theorem dw.loc(h:∀b∈(cM v).toList,w'.heap[b]? =w.heap[b]?)(a:dw w T sz v n vs):dw w' T sz v n vs:=by
 refine ⟨a.1,?_⟩;rcases a.2 with d|⟨g,o,cap,c,rfl,e,f,r⟩
 ·exact .inl d
 ·exact .inr ⟨g,o,cap,c,rfl,e,by grind [xJ],r⟩
theorem dw.lt(h:dw w T sz v n vs):∀b∈(cM v).toList,b<w.heap.size:=by
 intro b d;rcases h.2 with ⟨_,a,rfl⟩|⟨g,o,cap,c,rfl,e,f,r⟩
 ·grind [eT]
 grind [xJ]
theorem dw.nil(w:World)(T:TypeId)(sz:Nat)(a:Option Addr):dw w T sz (.slice a 0 0) 0 []:=⟨by simp,.inl ⟨rfl,a,rfl⟩⟩
theorem dw.fresh{cap:Nat}(a:w.heap[N]? =some (.cells I T (0,0)))(h:n<=cap)(b:cap<=maxLen)(c:I.size=cap*sz):
  dw w T sz (.slice (some ⟨N,0,none⟩) n cap) n (I.toList.take (n*sz)):=by
 have d:n*sz<=cap*sz:=r6 _ h;refine ⟨by grind,?_⟩;rcases y8 cap with rfl|e
 ·have:n=0:=by omega
  subst this
  grind
 ·exact .inr ⟨N,0,cap,I,rfl,e,a,h,b,by omega,by simp⟩
theorem db:(cM v).toList.Nodup:=by grind
def qb(v:Value)(T:TypeId)(enc:α->List Value)(sz:Nat)(xs:List α):Item where
 S:=(cM v).toList
 Φ w:=dw w T sz v xs.length (jO enc xs)
 loc _ _ h hr:=hr.loc h
 lt _ hr:=hr.lt
theorem xT:(qb v T enc sz xs).S.Nodup:=db
theorem qO(h:∀x,(enc x).length=sz)(xs:List α):(jO enc xs).length=xs.length*sz:=by
 induction xs with
 |nil=>simp [jO]
 |cons x r i=>simp only [jO,l8,h,i,u4,w8];omega
theorem nZ(a:∀x,(enc x).length=sz){f:Nat}{x:α}{u:Value}(h:xs[N]? =some x)(b:(enc x)[f]? =some u):
  (jO enc xs)[N*sz+f]? =some u:=by
 induction xs generalizing N with
 |nil=>simp at h
 |cons y r i=>
  cases N with
  |zero=>
   grind [jO]
  |succ N=>
   grind [jO]
theorem uW(xs ys:List α):jO enc (xs++ys)=jO enc xs++jO enc ys:=by
 induction xs with
 |nil=>rfl
 |cons x r i=>simp only [Ts,jO,i,u6]
theorem gZ(g:∀x,(enc x).length=sz)(c:0<sz)(h:(jO enc xs)[q]? =some v):
  ∃t f x,xs[t]? =some x/\(enc x)[f]? =some v/\q=t*sz+f:=by
 induction xs generalizing q with
 |nil=>simp [jO] at h
 |cons y r i=>
  simp only [jO] at h;rcases Nat.lt_or_ge q (enc y).length with a|b
  ·rw [ye a] at h;exact ⟨0,q,y,rfl,h,by simp⟩
  ·rw [Tu b] at h;obtain ⟨t,f,x,d,e,j⟩:=i h;exact ⟨t+1,f,x,by simpa using d,e,by grind⟩
theorem Gr(h:v∈jO enc xs):∃x,v∈enc x:=by
 induction xs with
 |nil=>simp [jO] at h
 |cons y r i=>
  grind [jO]
def qG(c vs:List Value)(o:Nat):List Value:=c.take o++vs++c.drop (o+vs.length)
theorem Bt(a:∀x,(enc x).length=sz){t f:Nat}{x:α}(h:xs[t]? =some x)
  (c:f+vs.length<=sz) (d:qG (enc x) vs f=enc A):qG (jO enc xs) vs (t*sz+f)=jO enc (xs.set t A):=by
 induction xs generalizing t with
 |nil=>simp at h
 |cons y r i=>
  cases t with
  |zero=>
   grind [jO,qG]
  |succ t=>
   have:=i (t:=t) (by simpa using h);have b:=a y;simp only [jO,List.set_cons_succ];rw [<- this];unfold qG;rw [List.take_append,s9 (by grind),TL,yr (by grind),b]
   grind
def idx(xs:List α)(t:Int):Option α:=if 0<=t then xs[t.toNat]? else none
theorem zX{α:Type}{xs:List α}{x:α}(h:idx xs j=some x):0<=j/\j<xs.length/\xs[j.toNat]? =some x:=by
 grind [idx]
theorem rC(h:ax P (isAgg T)=some false)(a:w.cell? J=some v):
  (Instr.loadAt T (.pointer (some J))).run P w=.ok v w:=by
 simp [Instr.loadAt,Instr.sureAddr,loadVar,qV h,load,Sem.run,a]
theorem dR:(⟨N,i,none⟩:Addr).add sz=⟨N,i+sz,none⟩:=by
 unfold Addr.add
 grind
theorem rD(h:ax P (isAgg T)=some true)(a:ax P (sizeOf T)=some vs.length)
  (b:∀j u,vs[j]? =some u->w.cell? ⟨N,i+j,none⟩=some u):
  (Instr.loadAt T (.pointer (some ⟨N,i,none⟩))).run P w=.ok (.agg vs.toArray) w:=by
 have:=run_loadCells_list (P:=P) w ⟨N,i,none⟩ vs (λj v c=>by grind [dR]);simp [Instr.loadAt,Instr.sureAddr,loadVar,qV h,qV a,this]
def eU:List Value->Bool
 |[]=>true
 |v::r=>match v.oneCell' with
  |true=>eU r
  |false=>false
theorem eV(h:eU vs=true):∀v∈vs,v.oneCell'=true:=by
 induction vs with
 |nil=>intro v a;cases a
 |cons x r i=>
  grind [eU]
theorem sj{g:Nat}(c:ax P (sizeOf ty)=some v.cells.toList.length)(d:eU v.cells.toList=true)
  (e:w.heap[g]? =some (.cells I T (0,0))) (a:N+v.cells.toList.length<=I.size):
  (Instr.storeAt ty (.pointer (some ⟨g,N,none⟩)) v).run P w=.ok () (w.setRow g (qG I.toList v.cells.toList N).toArray):=by
 have f:=run_storeCells_at (P:=P) g N T v.cells.toList 0 I w e (by simpa using a) (eV d);have b:=qV c w;have h:v.cells.size=v.cells.toList.length:=by simp
 unfold Instr.storeAt Instr.sureAddr storeVar;simp only [Sem.run_bind,Sem.run_pure,Result.andThen_ok,b,h,ne_eq,not_true_eq_false,x5]
 grind [qG]
theorem St.blk{L:List Item}(h:St w0 S0 w L)(j:Nat)(a:L[j]? =some (jL N T vs))(b:vs[i]? =some v):w.cell? ⟨N,i,none⟩=some v:=by
 have:=h.all j _ a;rw [cell_of_row w N i vs.toArray T (0,0) this]
 simpa using b
theorem St.row{L:List Item}(h:St w0 S0 w L)(j:Nat)(b:L[j]? =some (qb v T enc sz xs))(d:∀A,(enc A).length=sz) (e:idx xs a4=some A):∃g o cap,v=.slice (some ⟨g,o,none⟩) xs.length cap/\∀f u,(enc A)[f]? =some u->w.cell? ⟨g,o+a4.toNat*sz+f,none⟩=some u:=by
 have i:=h.all j _ b;obtain ⟨n,p,k⟩:=zX e;rcases i.2 with ⟨q,_⟩|⟨g,o,cap,c,rfl,_,l,_,_,_,a⟩
 ·omega
 ·refine ⟨g,o,cap,rfl,λf u m=> ?_⟩;have:=nZ d k m;rw [<- a,List.getElem?_take] at this;split at this
  ·rw [cell_of_row w g _ c T (0,0) l,y9];rw [TG] at this
   simpa using this
  ·cases this
theorem St.rowv{L:List Item}(h:St w0 S0 w L)(j:Nat)(a:L[j]? =some (qb v T enc sz xs)) (b:idx xs a4=some A):∃g o cap,v=.slice (some ⟨g,o,none⟩) xs.length cap:=by
 have c:=h.all j _ a;obtain ⟨e,f,i⟩:=zX b;rcases c.2 with ⟨k,_⟩|⟨g,o,cap,d,rfl,_⟩
 ·omega
 grind
theorem St.rowc{L:List Item}(h:St w0 S0 w L)(j:Nat)(a:L[j]? =some (qb v T enc sz xs))(b:∀A,(enc A).length=sz) (c:idx xs a4=some A) (g:v=.slice (some ⟨N,i,none⟩) n d):∀f u,(enc A)[f]? =some u->w.cell? ⟨N,i+a4.toNat*sz+f,none⟩=some u:=by
 obtain ⟨k,o,l,e,m⟩:=h.row j a b c
 grind
theorem St.len{L:List Item}(h:St w0 S0 w L)(j:Nat)(d:L[j]? =some (qb v T enc sz xs)):
  xs.length<=9223372036854775807/\∃a c,v=.slice a xs.length c:=by
 have e:=h.all j _ d;rcases e.2 with ⟨l,a,rfl⟩|⟨g,o,cap,f,rfl,_,m,i,k,_,b⟩
 ·grind
 ·refine ⟨?_,_,_,rfl⟩;simp only [maxLen] at k;omega
theorem OW.idx{v:Value}(e sz:Nat)(hl:vg l i=some ⟨some d,.indexAddr T x y,ty,pos,t,p⟩)
  (f:gd l fr ⟨some d,.indexAddr T x y,ty,pos,t,p⟩=some true) (g:Nat.blt d N=true)
  {c:Nat} (k:look fr x=some v) (m:v=.slice (some ⟨s,r,none⟩) n c) (o:look fr y=some (.int kd j)) (q:0<=j) (u:j<n)
  (z:P.underlying T=some (.slice e)) (A:ax P (sizeOf e)=some sz)
  (h:OW P l N Q (i+1) ((d,.pointer (some ⟨s,r+j.toNat*sz,none⟩))::fr) w):OW P l N Q i fr w:=by
 refine j6 hl f rfl g (λa b=> ?_) h;have B:=b.look k;have C:=b.look o;subst m;simp [execOp,Instr.indexAt,B,C,asIntOf,run_underlying z,q,u,qV A,dR]
theorem OW.ld(hl:vg l i=some ⟨some d,.load T x,ty,pos,t,p⟩)
  (a:gd l fr ⟨some d,.load T x,ty,pos,t,p⟩=some true) (b:Nat.blt d N=true) (c:look fr x=some (.pointer (some J))) (e:ax P (isAgg T)=some false) (f:w.cell? J=some v)
  (h:OW P l N Q (i+1) ((d,v)::fr) w):OW P l N Q i fr w:=by
 refine j6 hl a rfl b (λJ g=> ?_) h;have j:=g.look c;simp [execOp,j,rC e f]
theorem OW.stB(b:St w0 S0 w L)(j:Nat)(m:L[j]? =some (jL sz T vs))
  (hl:vg l i=some ⟨none,.store a6 x y,ty,pos,t,p⟩) (r:gd l fr ⟨none,.store a6 x y,ty,pos,t,p⟩=some true)
  {k:Nat} (s:look fr x=some (.pointer (some ⟨sz,k,none⟩))) (u:look fr y=some v)
  (z:ax P (sizeOf a6)=some v.cells.toList.length) (A:eU v.cells.toList=true) (e:Nat.ble (k+v.cells.toList.length) vs.length=true) (c:List Value) (f:qG vs v.cells.toList k=c)
  (h:∀w',St w0 S0 w' (L.set j (jL sz T c))->OW P l N Q (i+1) fr w'):OW P l N Q i fr w:=by
 have n:=b.all j _ m;have d:=u5 e;refine OW.ops hl r rfl (w':=w.setRow sz (qG vs.toArray.toList v.cells.toList k).toArray) (λa o=> ?_) (h _ ?_)
 ·have B:=o.look s;have C:=o.look u;have:=sj (P:=P) (w:=w) (T:=T) (g:=sz) z A n (by simpa using d);simp [execOp,B,C,this]
 ·subst f;refine b.upd j m ⟨rfl,rfl,rfl,by simp [World.setRow],λq _ E=>setRow_other w sz q _ (by grind [jL])⟩ ?_ (λq D=>.inl D) (by simp [jL]);show (w.setRow sz _).heap[sz]? =_;rw [setRow_heap w sz vs.toArray _ T (0,0) n]
theorem dc(h:N<=i)(c:i+vs.length<=N+n)(a:N+n<=b.length):((qG b vs i).drop N).take n=qG ((b.drop N).take n) vs (i-N):=by
 unfold qG;rw [u6,TL,List.drop_take,yw,show N-min i b.length=0 by omega,List.drop_zero,List.take_append,List.take_append,Ty,Ty];simp only [yw,List.length_drop];rw [show min n (i-N)=i-N by omega,show min (i-N) n=i-N by omega,show n-min (i-N) (b.length-N)=n-(i-N) by omega];rw [s9 (l:=vs) (by omega),u6]
 congr 2
 rw [List.drop_take,y4]
 grind
theorem OW.stR(k:St w0 S0 w L)(j:Nat)
  (D:L[j]? =some (qb V T enc sz xs)) (S:V=.slice (some ⟨d,s,none⟩) n e) (E:∀x,(enc x).length=sz)
  (hl:vg l i=some ⟨none,.store a6 x y,ty,pos,t,p⟩) (U:gd l fr ⟨none,.store a6 x y,ty,pos,t,p⟩=some true) (W:Sx.idx xs a4=some A) (f:Nat) (X:look fr x=some (.pointer (some ⟨d,r,none⟩))) (Y:r=s+a4.toNat*sz+f) (Z:look fr y=some v)
  (hs:ax P (sizeOf a6)=some v.cells.toList.length) (h1:eU v.cells.toList=true) (hf:Nat.ble (f+v.cells.toList.length) sz=true) (F:α) (q:qG (enc A) v.cells.toList f=enc F)
  (h:∀w',St w0 S0 w' (L.set j (qb V T enc sz (xs.set a4.toNat F)))->OW P l N Q (i+1) fr w'):OW P l N Q i fr w:=by
 subst S;have hr:=k.all j _ D;have u:=u5 hf;obtain ⟨h0,G,z⟩:=zX W;rcases hr.2 with ⟨hn,_⟩|⟨g',o',I,c,J,hp,m,o,hm,hcs,B⟩
 ·omega
 ·simp only [Value.slice.injEq,i6,Addr.mk.injEq,and_true] at J;obtain ⟨⟨rfl,rfl⟩,rfl,rfl⟩:=J;have C:a4.toNat<xs.length:=by omega
  have hsz:a4.toNat*sz+sz<=xs.length*sz:=by rw [<- Tw];exact r6 _ C
  have K:xs.length*sz<=e*sz:=r6 _ o;have b:r+v.cells.toList.length<=c.size:=by rw [Y];omega
  refine OW.ops hl U rfl (w':=w.setRow d (qG c.toList v.cells.toList r).toArray) (λa M=> ?_) (h _ ?_)
  ·have e1:=M.look X;have e2:=M.look Z;have:=sj (P:=P) (w:=w) (T:=T) (g:=d) hs h1 m b;simp [execOp,e1,e2,this]
  ·have O:(qG c.toList v.cells.toList r).length=c.size:=by simp [qG] at b |-;omega
   refine k.upd j D ⟨rfl,rfl,rfl,by simp [World.setRow],λa4 _ hn=>setRow_other w d a4 _ (by grind [qb,xJ])⟩ ?_ (λa4 G=>.inl G) xT;show dw (w.setRow d _) T sz _ _ _;refine ⟨by rw [qO E],.inr ⟨d,s,e,_,by simp,hp,setRow_heap w d c _ T _ m,by simpa using o,hm,by grind,?_⟩⟩;have R:=Bt E (f:=f) (vs:=v.cells.toList) z u q
   grind [dc]
theorem pj(h:i∈(qb (.slice (some ⟨w.heap.size,0,none⟩) n N) T enc sz xs).S):w.heap.size<=i:=by
 cases N with
 |zero=>simp [qb,eT] at h
 |succ N=>simp [qb,cM] at h;omega
theorem OW.alloc(f:St w0 S0 w L)
  (hl:vg l i=some ⟨some d,.alloc e,ty,pos,t,p⟩) (k:gd l fr ⟨some d,.alloc e,ty,pos,t,p⟩=some true) (m:Nat.blt d N=true)
  (j:List Value) (c:(ax P (zeroValue e)).map (·.cells.toList)=some j)
  (h:∀b w',St w0 S0 w' (L++[jL b e j])->OW P l N Q (i+1) ((d,.pointer (some ⟨b,0,none⟩))::fr) w'):OW P l N Q i fr w:=by
 cases g:ax P (zeroValue e) with
 |none=>rw [g] at c;cases c
 |some z=>
  rw [g] at c;simp only [t6,i6] at c;refine j6 hl k rfl m (w':=w.alloc (.cells z.cells e)) (λa _=> ?_) (h w.heap.size _ ?_)
  ·simp [execOp,Instr.alloc,qV g,newVar,newRow,newObj,Sem.run]
  ·refine f.push (Chg.alloc _ _) ?_ (λb n=>by grind [jL]) (by simp [jL]);show (w.alloc _).heap[w.heap.size]? =_;rw [heap_alloc_new,<- c]
theorem OW.box{v:Value}(c:St w0 S0 w L)
  (hl:vg l i=some ⟨some d,.box e x,ty,pos,t,p⟩) (g:gd l fr ⟨some d,.box e x,ty,pos,t,p⟩=some true) (j:Nat.blt d N=true)
  (k:look fr x=some v) (f:List Value) (m:v.cells.toList=f)
  (h:∀b w',St w0 S0 w' (L++[jL b e f])->OW P l N Q (i+1) ((d,.pointer (some ⟨b,0,none⟩))::fr) w'):OW P l N Q i fr w:=by
 refine j6 hl g rfl j (w':=w.alloc (.cells v.cells e)) (λa n=> ?_) (h w.heap.size _ ?_)
 ·have o:=n.look k;simp [execOp,o,Instr.box,newVar,newRow,newObj,Sem.run]
 ·refine c.push (Chg.alloc _ _) ?_ (λb q=>by grind [jL]) (by simp [jL]);show (w.alloc _).heap[w.heap.size]? =_;rw [heap_alloc_new,<- m]
theorem OW.row{ps:List (Nat×Operand)}(c:St w0 S0 w L)
  (hl:vg l i=some ⟨some d,.buildSlice s n ps.toArray,ty,pos,t,p⟩) (o:gd l fr ⟨some d,.buildSlice s n ps.toArray,ty,pos,t,p⟩=some true) (q:Nat.blt d N=true) (xs:List α) (f:xs.length=n) (m:∀x,(enc x).length=sz) (r:Nat.ble n 9223372036854775807=true)
  (k:fh fr (ps.map (·.2))=true)
  (u:∀w,(Instr.buildSlice s n (ps.toArray.map λ(i,x)=>(i,rho fr x))).run P w=.ok (.slice (some ⟨w.heap.size,0,none⟩) n n) (w.alloc (.cells (jO enc xs).toArray e)))
  (h:∀g w',St w0 S0 w' (L++[qb (.slice (some ⟨g,0,none⟩) n n) e enc sz xs])->OW P l N Q (i+1) ((d,.slice (some ⟨g,0,none⟩) n n)::fr) w'):OW P l N Q i fr w:=by
 refine j6 hl o rfl q (w':=w.alloc (.cells (jO enc xs).toArray e)) (λa v=> ?_) (h w.heap.size _ ?_)
 ·have y:(ps.toArray.map λ(i,x)=>(i,a.eval x))=ps.toArray.map λ(i,x)=>(i,rho fr x):=gY (λx z=>by
   obtain ⟨j,x⟩:=x;simp only [o7,true_and];exact v.look (Bs k x (by simpa using ⟨j,by simpa using z⟩)))
  simp only [execOp,y,Sem.run_bind,u,Result.andThen_ok,Sem.run_pure]
 ·refine c.push (Chg.alloc _ _) ?_ (λb A=>pj A) xT;have:=dw.fresh (w:=w.alloc (.cells (jO enc xs).toArray e)) (T:=e) (sz:=sz) (n:=n) (cap:=n) (heap_alloc_new w _) (k9 _) (by have:=u5 r;simp only [maxLen];omega) (by simp [qO m,f]);have B:(jO enc xs).toArray.toList.take (n*sz)=jO enc xs:=s9 (by simp [qO m,f]);rw [B] at this
  simpa [qb,f] using this
def Rd(w:World)(S:List Nat)(v:Value)(enc:α->List Value)(sz:Nat)(xs:List α):Prop:=
 xs.length<=9223372036854775807/\∃a c,v=.slice a xs.length c/\xs.length<=c/\∀t x f u,xs[t]? =some x->(enc x)[f]? =some u->∃b o,a=some ⟨b,o,none⟩/\b∉S/\w.cell? ⟨b,o+t*sz+f,none⟩=some u
theorem mr(h:w.cell? J=some v):J.block<w.heap.size:=World.block_lt_of_cell? w J h
theorem Rd.on(h:Rd w0 S0 v enc sz xs)(e:St w0 S0 w L):Rd w S0 v enc sz xs:=by
 obtain ⟨j,a,c,k,g,l⟩:=h;refine ⟨j,a,c,k,g,λt x f u m n=> ?_⟩;obtain ⟨b,o,p,i,d⟩:=l t x f u m n;exact ⟨b,o,p,i,(World.cell?_of_block (e.chg.block b (mr d) i)).trans d⟩
theorem Rd.give(h:Rd w0 S0 v enc sz xs)(e:St w0 S0 w L)(idx:List Nat):Rd w (fp (sel L idx)) v enc sz xs:=by
 obtain ⟨p,a,c,q,i,r⟩:=h;refine ⟨p,a,c,q,i,λt x f u s y=> ?_⟩;obtain ⟨b,o,z,m,d⟩:=r t x f u s y;refine ⟨b,o,z,λA=> ?_,(World.cell?_of_block (e.chg.block b (mr d) m)).trans d⟩;obtain ⟨j,it,B,g⟩:=vG.1 A;obtain ⟨k,_,l⟩:=eS B;rcases xS l with l|rfl
 ·rcases e.own k it l b g with n|n
  ·exact m n
  ·have:=mr d;simp only at this;omega
 ·cases g
theorem Rd.form(h:Rd w S0 v enc sz xs)(d:∀A,∃u,(enc A)[0]? =some u)(g:idx xs j=some A):
  ∃b o c,v=.slice (some ⟨b,o,none⟩) xs.length c/\∀f u,(enc A)[f]? =some u->w.cell? ⟨b,o+j.toNat*sz+f,none⟩=some u:=by
 obtain ⟨_,a,c,i,_,k⟩:=h;obtain ⟨_,_,l⟩:=zX g;obtain ⟨m,e⟩:=d A;obtain ⟨b,o,n,_,_⟩:=k _ A 0 m l e;refine ⟨b,o,c,by rw [i,n],λf u p=> ?_⟩
 grind
theorem Rd.formv(h:Rd w S0 v enc sz xs)(a:∀A,∃u,(enc A)[0]? =some u)(d:idx xs j=some A):∃b o c,v=.slice (some ⟨b,o,none⟩) xs.length c:=by
 obtain ⟨b,o,c,e,_⟩:=h.form a d;exact ⟨b,o,c,e⟩
theorem Rd.cellv{L:List Item}(h:Rd w S0 v enc sz xs)(b:St w S0 w0 L)(c:idx xs j=some A)(g:v=.slice (some ⟨N,i,none⟩) n d):
  ∀f u,(enc A)[f]? =some u->w0.cell? ⟨N,i+j.toNat*sz+f,none⟩=some u:=by
 obtain ⟨_,a,k,e,_,l⟩:=h.on b;obtain ⟨_,_,m⟩:=zX c
 grind
theorem Rd.nil(w:World)(S:List Nat)(enc:α->List Value)(sz c:Nat):Rd w S (.slice none 0 c) enc sz ([]:List α):=⟨by simp,none,c,rfl,Nat.zero_le _,λt x f u h=>by simp at h⟩
theorem Rd.len(h:Rd w S0 v enc sz xs):xs.length<=9223372036854775807/\∃a c,v=.slice a xs.length c:=⟨h.1,let ⟨a,c,hv,_⟩:=h.2;⟨a,c,hv⟩⟩
theorem lM(i:∀x,(enc x).length=sz)(j:dw w T sz v xs.length (jO enc xs))(k:∀b∈(cM v).toList,b∉F):
  Rd w F v enc sz xs:=by
 rcases j.2 with ⟨l,a,rfl⟩|⟨g,o,cap,c,rfl,m,n,d,p,q,h⟩
 ·refine ⟨by omega,a,0,by rw [l],by omega,λt x f u e=> ?_⟩
  grind
 ·refine ⟨by simp only [maxLen] at p;omega,_,_,rfl,d,λt x f u e r=>⟨g,o,rfl,k g (by simp [xJ m]),?_⟩⟩;have:=nZ i e r;rw [<- h,List.getElem?_take] at this;split at this
  ·rw [cell_of_row w g _ c T (0,0) n,y9]
   grind
  ·cases this
theorem St.noin(c:St w0 S0 w L)(j:Nat)(g:L[j]? =some it')(idx:List Nat)(m:mem? j idx=false):∀b∈it'.S,b∉fp (sel L idx):=by
 intro b i l;obtain ⟨k,it,h,a⟩:=vG.1 l;obtain ⟨f,d,h⟩:=eS h;rcases xS h with h|rfl
 ·have e:j≠f:=by
   rintro rfl;have:=mem?_iff.2 (zmg d)
   grind
  exact c.apart j f it' it e g h b i a
 ·cases a
theorem St.rd(h:St w0 S0 w L)(j:Nat)(b:L[j]? =some (qb v T enc sz xs))(c:∀x,(enc x).length=sz)(idx:List Nat)(d:mem? j idx=false)(a:xs.length<=9223372036854775807):
 Rd w (fp (sel L idx)) v enc sz xs:=lM c (h.all j _ b) (h.noin j b idx d)
theorem iJ{n:Nat}{xs:List Value}(e:P.underlying T=some (.slice a6))(f:ax P (sizeOf a6)=some n)(h:dw w a6 sz v m xs)(a:Option Addr)(c:Nat):
  (Builtin.append_ #[T,T] ty #[v,.slice a 0 c]).run P w=.ok v w:=by
 rcases h.2 with ⟨_,b,rfl⟩|⟨g,o,cap,i,rfl,_,_,d,_⟩
 ·cases a<;>cases b<;>simp [Builtin.append_,run_underlying e,qV f,Builtin.lenOf,Builtin.firstCells,loadCells,loadCellsFrom,storeCells]
 ·cases a<;>simp [Builtin.append_,run_underlying e,qV f,Builtin.lenOf,Builtin.firstCells,d,loadCells,loadCellsFrom,storeCells]
theorem mA(w:World)(t ty e:TypeId)(i:TypeInfo)(p:P.underlying t=some (.slice e))(q:P.info? e=some i)
  (g o s b:Nat) (d:Array Value) (r:w.heap[g]? =some (.cells d e (0,0)))
  (a:Addr) (m c:Nat) (n:List Value) (hl:n.length=m*i.size) (h:∀j u,n[j]? =some u->w.cell? (a.add j)=some u) (v:∀u∈n,u.oneCell'=true)
  (f:s+m<=b) (k:o+s*i.size+n.length<=d.size):
  (Builtin.append_ #[t,t] ty #[.slice (some ⟨g,o,none⟩) s b,.slice (some a) m c]).run P w=
   .ok (.slice (some ⟨g,o,none⟩) (s+m) b) (w.setRow g (qG d.toList n (o+s*i.size)).toArray):=by
 have x:=run_firstCells_some (P:=P) w i.size m a m c n hl h;have l:=run_storeCells_at P g (o+s*i.size) e n 0 d w r (by simpa using k) v;simp only [Nat.add_zero] at l;simp [Builtin.append_,run_underlying p,sizeOf,typeInfo,q,Builtin.lenOf,f,x,dR,l,qG]
theorem Ki(w:World)(t ty e:TypeId)(i:TypeInfo)(z:Value)(size bytes:Nat)(E:P.underlying t=some (.slice e))(F:P.info? e=some i)(K:i.zero=some z)
  (y:i.size=size) (L:i.bytes=bytes) (M:z.cells.size=size) (v:Value) (n:Nat) (xs:List Value) (l:dw w e size v n xs)
  (a:Addr) (m c:Nat) (N:0<m) (d:List Value) (hl:d.length=m*size) (h:∀j u,d[j]? =some u->w.cell? (a.add j)=some u) (U:∀u∈d,u.oneCell'=true)
  (B:n+m<=maxLen) (r:(n+m)*bytes<=140737488355328):
  ∃G w',(Builtin.append_ #[t,t] ty #[v,.slice (some a) m c]).run P w=.ok G w'/\dw w' e size G (n+m) (xs++d)/\w.grownBy w' (cM v)/\(cM G=cM v\/cM G=some w.heap.size):=by
 subst y;subst L;have I:n+m<=9223372036854775807:=by simp only [maxLen] at B;omega
 have x:(xs++d).length=(n+m)*i.size:=by rw [l8,l.1,hl,w8]
 have p:∀(f:Nat),f<n+m->∀(row:Option Nat),
   dw (w.drew.alloc (.cells (xs.toArray++d.toArray++Builtin.zeroCells z.cells (grownCap w (n+m) f e-(n+m))) e)) e i.size
    (.slice (some ⟨w.heap.size,0,none⟩) (n+m) (grownCap w (n+m) f e)) (n+m) (xs++d)/\
   w.grownBy (w.drew.alloc (.cells (xs.toArray++d.toArray++Builtin.zeroCells z.cells (grownCap w (n+m) f e-(n+m))) e)) row/\cM (.slice (some ⟨w.heap.size,0,none⟩) (n+m) (grownCap w (n+m) f e))=some w.heap.size:=by
  intro f ho row;have O:=grownCap_ge w (n+m) f e;have A:grownCap w (n+m) f e<=maxLen:=grownCap_le_maxLen w (n+m) f e B;refine ⟨⟨x,.inr ⟨w.heap.size,0,_,_,rfl,by omega,heap_alloc_new w.drew _,O,A,?_,?_⟩⟩,⟨rfl,rfl,rfl,by simp,λk Q _=>heap_alloc_old w.drew _ Q⟩,xJ (by omega)⟩
  ·simp only [Array.size_append,List.size_toArray,size_zeroCells,M,l.1,hl,<- w8,ya]
   grind
  grind
 rcases l.2 with ⟨rfl,b,rfl⟩|⟨g,o,cap,s,rfl,V,R,W,A,X,S⟩
 ·have Y:xs=[]:=y6 (by simpa using l.1);subst Y;cases b with
  |none=>
   have J:=run_append_nil (P:=P) w t ty e i z E F K a m c d hl h N (by omega) (by grind);have C:=p 0 (by omega) (cM (.slice none 0 0))
   grind
  |some b=>
   have J:=run_append_grow (P:=P) w t ty e i z E F K b 0 0 [] (by simp) (λj v Z=>by simp at Z) a m c d hl h (by omega) (by omega) (growslice_fits (by omega) r);have C:=p 0 (by omega) (cM (.slice (some b) 0 0))
   grind
 ·by_cases q:n+m<=cap
  ·have hle:(n+m)*i.size<=cap*i.size:=r6 _ q;have T:(n+m)*i.size=n*i.size+m*i.size:=w8 ..;have D:o+n*i.size+d.length<=s.size:=by rw [hl];omega
   have J:=mA (P:=P) w t ty e i E F g o n cap s R a m c d hl h U q D;refine ⟨_,_,J,⟨x,.inr ⟨g,o,cap,_,rfl,V,setRow_heap w g s _ e _ R,q,A,?_,?_⟩⟩,⟨rfl,rfl,rfl,by simp [World.setRow],λk _ Q=>setRow_other w g k _ (λe=>Q (by grind [xJ]))⟩,.inl (by grind [xJ])⟩
   ·grind [qG]
   grind [qG,dc]
  ·have holds:∀j u,xs[j]? =some u->w.cell? ((⟨g,o,none⟩:Addr).add j)=some u:=by
    intro j u hu;rw [dR,cell_of_row w g _ s e (0,0) R]
    grind
   have J:=run_append_grow (P:=P) w t ty e i z E F K ⟨g,o,none⟩ n cap xs l.1 holds a m c d hl h (by omega) (by omega) (growslice_fits (by omega) r);have C:=p cap (by omega) (cM (.slice (some ⟨g,o,none⟩) n cap))
   grind
structure tq (P:Program) (e sz bytes:Nat):Prop where
 size:ax P (sizeOf e)=some sz
 Ws:∃i z,P.info? e=some i/\i.zero=some z/\i.size=sz/\i.bytes=bytes/\z.cells.size=sz
 pos:0<sz
 Wy:0<bytes
theorem OW.app(g:St w0 S0 w L)
  (j:Nat) (D:L[j]? =some (qb v e enc sz xs)) (E:∀x,(enc x).length=sz) (ho:∀x,eU (enc x)=true)
  (hl:vg l i=some ⟨some d,.call ⟨.builtin .append,[x,y].toArray,F.toArray⟩,ty,pos,t,p⟩) (G:F=[n,n]) (hg:gd l fr ⟨some d,.call ⟨.builtin .append,[x,y].toArray,F.toArray⟩,ty,pos,t,p⟩=some true)
  (hN:Nat.blt d N=true) (K:look fr x=some v) (hy:look fr y=some V) (ht:P.underlying n=some (.slice e)) (c:tq P e sz bytes) (M:Rd w S V enc sz ys) (I:(xs.length+ys.length)*bytes<=140737488355328)
  (h:∀m w',St w0 S0 w' (L.set j (qb m e enc sz (xs++ys)))->OW P l N Q (i+1) ((d,m)::fr) w'):OW P l N Q i fr w:=by
 subst G;have o:=g.all j _ D;obtain ⟨hn,a2,O,rfl,_,hc⟩:=M;obtain ⟨R,z,hi,hz,T,U,W⟩:=c.Ws;have hlim:=(g.len j D).1
 have r:∀{m:Value} {w':World},(Builtin.append_ #[n,n] ty #[v,.slice a2 ys.length O]).run P w=.ok m w'->∀a,Rep N fr a->
   (execOp a.eval ⟨some d,.call ⟨.builtin .append,[x,y].toArray,[n,n].toArray⟩,ty,pos,t,p⟩).run P w=.ok (.value m) w':=by
  intro m w' M a G;have e1:=G.look K;have e2:=G.look hy;simp [execOp,resolve,invoke,builtin,e1,e2,M]
 rcases y8 ys.length with J|J
 ·have X:ys=[]:=y6 J;subst X;refine j6 hl hg rfl hN (r (iJ ht c.size o a2 O)) (h v w ?_);have hlt:j<L.length:=(zes.1 D).1
  have:L.set j (qb v e enc sz (xs++[]))=L:=by
   rw [i4];apply o4
   grind
  rw [this];exact g
 ·obtain ⟨A,Y⟩:∃A,ys[0]? =some A:=⟨ys[0],zeg J⟩
  obtain ⟨Z,hu0⟩:∃Z,(enc A)[0]? =some Z:=⟨(enc A)[0]'(by rw [E];exact c.pos),zeg (by rw [E];exact c.pos)⟩
  obtain ⟨b,k,rfl,_,_⟩:=hc 0 A 0 Z Y hu0
  have s:∀q u,(jO enc ys)[q]? =some u->w.cell? ((⟨b,k,none⟩:Addr).add q)=some u:=by
   intro q u hu;rw [dR];obtain ⟨n,f,x,K,hf,hq⟩:=gZ E c.pos hu
   grind
  have B:∀u∈jO enc ys,u.oneCell'=true:=by
   intro u hu;obtain ⟨x,K⟩:=Gr hu
   grind [eV]
  obtain ⟨m,w',C,hown,hgr,hat⟩:=Ki (P:=P) w n ty e R z sz bytes ht hi hz T U W v xs.length (jO enc xs) o ⟨b,k,none⟩ ys.length O J (jO enc ys) (qO E _) s B
   (by have:=TR (xs.length+ys.length) c.Wy;simp only [maxLen];omega) I
  refine j6 hl hg rfl hN (r C) (h m w' ?_);refine g.upd j D (Chg.grown hgr (λb I=>by simp [qb,I])) ?_ (λb I=> ?_) xT
  ·show dw w' e sz m _ _
   grind [uW]
  grind [cM,qb]
def OS(P:Program)(l:List Oper)(N:Nat)(w:World)(R:Act->Prop)(c i:Nat)(fr:List (Nat×Value)):Prop:=
 ∀a,Rep N fr a->wpStill P l.toArray w R ((l.take c).drop i) a
theorem tQ(h:vg l i=some o):l[i]? =some o:=by
 rw [<- dQ] at h
 simpa using h
theorem tU{c:Nat}(hl:vg l i=some o)(h:Nat.blt i c=true):(l.take c).drop i=o::(l.take c).drop (i+1):=by
 have a:i<c:=by simpa [x6] using h
 have b:=tQ hl;have d:=(zes.1 b).1;have e:i<(l.take c).length:=by grind
 rw [TQ e]
 grind
theorem CW.still(c:P.follows .mixedOrders=true)(d:Region.lexB .any l.toArray=true)
  (h:∀b,Chg [] w b->OS P l N b (λe=>Q .normal e b) l.length 0 fr):CW P N (.region s l.toArray true) Q fr w:=λa f=>by
 refine wp_region_still_lit c d ?_;have:=h {w with drawn:=w.drawn+1} ⟨rfl,rfl,rfl,k9 _,λ_ _ _=>rfl⟩ a f
 grind
theorem CW.tail(c:Nat)(d:P.follows .mixedOrders=true)(e:Region.lexTailB .any l.toArray c=true)
  (h:∀b,Chg [] w b->OS P l N b (λf=>wpList P l.toArray Q (l.drop c) f b) c 0 fr):CW P N (.region s l.toArray true) Q fr w:=λa g=>by
 refine wp_region_still_tail c d e ?_;have:=h {w with drawn:=w.drawn+1} ⟨rfl,rfl,rfl,k9 _,λ_ _ _=>rfl⟩ a g
 grind
theorem OS.done(b:Nat.ble sz i=true)(h:∀a,Rep N fr a->a7 a):OS P l N w a7 sz i fr:=λa c=>by
 have d:=u5 b;have:(l.take sz).drop i=[]:=yr (by grind);rw [this];exact wpStill_nil (h a c)
theorem OS.on(h:OW P l N Q i fr w):OS P l N w (λa=>wpList P l.toArray Q (l.drop i) a w) i i fr:=OS.done (Nat.ble_self_eq_true _) h
theorem OS.fin{c:Nat}(a:Nat.ble c i=true)(h:QW N Q .normal fr w):OS P l N w (λb=>Q .normal b w) c i fr:=OS.done a h
theorem Gs:∀(n i:Nat)(fr:List (Nat×Value)){f:List (Nat×Value)},lL P l N n i fr=some f->i+n<=sz->OS P l N w a7 sz (i+n) f->OS P l N w a7 sz i fr:=by
 intro n
 induction n with
 |zero=>intro i fr f h _ k;simp only [lL,i6] at h;subst h;exact k
 |succ n m=>
  intro i fr f h r k;unfold lL at h;split at h
  ·cases h
  ·rename_i o s
   split at h
   ·cases h
   ·rename_i d p
    split at h
    ·cases h
    ·rename_i q
     have b:=tU (c:=sz) s (by simp [x6];omega);split at h
     ·rename_i g
      split at h
      ·rename_i v t
       have:=m (i+1) _ h (by omega) (by grind);intro a e;rw [b];refine wpStill_step (λK j=> ?_);rw [va g e,d7 rfl];unfold Oper.still;rw [uV t e w,Oper.stillUpon_value,p];exact j _ (this _ (e.put q))
      ·cases h
     ·rename_i g
      have:=m (i+1) _ h (by omega) (by grind);intro a e;rw [b];refine wpStill_step (λK j=> ?_);rw [va g e,p];exact j _ (this _ (e.put q))
     ·cases h
theorem OS.pure(n:Nat)(new:List (Nat×Value))(c:Nat.ble (i+n) sz=true)
  (h:(lL P l N n i fr).map (λf=>rB f (aY [] (new++fr)))=some (kj (aY [] (new++fr))))
  (k:OS P l N w a7 sz (i+n) (new++fr)):OS P l N w a7 sz i fr:=by
 cases b:lL P l N n i fr with
 |none=>rw [b] at h;cases h
 |some f=>
  rw [b] at h;simp only [t6,i6] at h;exact Gs n i fr b (u5 c) (λa d=>k a (d.agrees h))
theorem OS.split(s:Nat)(h:lK fr s=some (.bool g))(b:g=true->OS P l N w a7 sz i ((s,.bool true)::fr))(c:g=false->OS P l N w a7 sz i ((s,.bool false)::fr)):OS P l N w a7 sz i fr:=by
 cases g with
 | true => exact fun a ha => b rfl a ⟨ha.size, ha.defers, fun j v hj => by
   rw [bF] at hj;by_cases e:s=j
   ·subst e;rw [d7 rfl] at hj;exact ha.get _ _ (h.trans hj)
   ·rw [d8 e] at hj;exact ha.get _ _ hj⟩
 | false => exact fun a ha => c rfl a ⟨ha.size, ha.defers, fun j v hj => by
   rw [bF] at hj;by_cases e:s=j
   ·subst e;rw [d7 rfl] at hj;exact ha.get _ _ (h.trans hj)
   ·rw [d8 e] at hj;exact ha.get _ _ hj⟩
theorem OS.op(hl:vg l i=some o)(c:Nat.blt i sz=true)(e:gd l fr o=some true)(f:o.dst=some d)(g:Nat.blt d N=true)
  (j:∀a,Rep N fr a->(execOp a.eval o).run P w=.ok (.value v) w)
  (h:OS P l N w a7 sz (i+1) ((d,v)::fr)):OS P l N w a7 sz i fr:=λa b=>by
 rw [tU hl c];refine wpStill_step (λK k=> ?_);rw [va e b,d7 rfl];unfold Oper.still;rw [j a b,Oper.stillUpon_value,f];exact k _ (h _ (b.put g))
def Kj(P:Program)(fr:List (Nat×Value))(o:Oper):Option (FuncId×List Value):=
 match aE o.op,fh fr o.op.operands.toList with
 |true,true=>match ax P (execOp (rho fr) o) with
  |some (.enter f b)=>some (f,b.toList)
  |_=>none
 |_,_=>none
theorem Kk(h:Kj P fr o=some (f,b))(c:Rep N fr a)(w:World):(execOp a.eval o).run P w=.ok (.enter f b.toArray) w:=by
 unfold Kj at h;split at h
 ·rename_i d e
  have i:=Bs e;have j:execOp a.eval o=execOp (rho fr) o:=ki d (λx k=>c.look (i x k));rw [j];split at h
  ·rename_i g as l
   simp only [i6,o7] at h;obtain ⟨rfl,rfl⟩:=h
   simpa using qV l w
  ·cases h
 ·cases h
theorem OW.fn(hl:vg l i=some o)(a:gd l fr o=some true)(c:o.dst=some d)(g:Nat.blt d N=true)
  (j:Kj P fr o=some (f,b)) (k:Calls P f b.toArray w R)
  (h:∀e w',R e w'->∃v,e=.returned v/\OW P l N Q (i+1) ((d,v)::fr) w'):OW P l N Q i fr w:=
 OW.call hl a c g (λ_ m=>Kk j m w) k h
theorem zI{α:Type}{β:Type}{o:Option α}{f:α->Option β}{r:β}(h:o.bind f=some r):∃x,o=some x/\f x=some r:=by
 cases o with
 |none=>cases h
 |some x=>exact ⟨x,rfl,h⟩
theorem sk{α:Type}{A B r:α}(h:(if g then A else B)=r)(a:g=true):A=r:=by grind
theorem su{α:Type}{A B r:α}(h:(if g then A else B)=r)(a:g=false):B=r:=by grind
def loop{a R:Type}(body:(a->Option R)->a->Option R):Nat->a->Option R
 |0,_=>none
 |n+1,s=>body (loop body n) s
def jN{a u:Type}(body:Nat->(a->Option u)->a->Option u)(out:a->u):Nat->Nat->a->Option u
 |0,_,s=>some (out s)
 |n+1,i,s=>body i (jN body out n (i+1)) s
def vK{α u:Type}(o:Option α)(A:u)(B:α->u):u:=match o with
 |none=>A
 |some k=>B k
def room(m bytes:Nat):Option Unit:=if m*bytes<=140737488355328 then some () else none
theorem pm(h:room m bytes=some a8):m*bytes<=140737488355328:=by
 grind [room]
def mkLen(n:Int)(bytes:Nat):Option Nat:=if 0<=n/\n.toNat*bytes<=140737488355328 then some n.toNat else none
def w64(x:Int):Int:=IntKind.i64.wrap x
def vc(x:Int):Int:=IntKind.u64.wrap x
theorem qq{x:Int}(h: -9223372036854775808<=x)(a:x<=9223372036854775807):w64 x=x:=by
 unfold w64;rw [IntKind.wrap_i64];omega
theorem Gt{n:Nat}(h:i<n)(a:n<=9223372036854775807):w64 ((i:Int)+1)=((i+1:Nat):Int):=by
 grind [qq]
def zu(k:IntKind)(x:Int):List Value:=[.int k x]
def kJ(x:Bool):List Value:=[.bool x]
theorem tq.of{i:TypeInfo}(b:ax P (sizeOf e)=some sz)(c:P.info? e=some i)(h:i.zero.map (·.cells.size)=some sz)(d:i.size=sz)(f:i.bytes=bytes)(g:0<sz)(j:0<bytes):tq P e sz bytes:=by
 cases a:i.zero with
 |none=>rw [a] at h;cases h
 |some z=>exact ⟨b,⟨i,z,c,a,d,f,by grind⟩,g,j⟩
def sX:Nat->List Value->List (Nat×Value)
 |_,[]=>[]
 |i,v::r=>(i,v)::sX (i+1) r
theorem Hx:∀{i j:Nat} {v:Value},lK (sX i vs) j=some v->i<=j/\vs[j-i]? =some v:=by
 induction vs with
 |nil=>intro i j v h;cases h
 |cons x r a=>
  intro i j v h;simp only [sX] at h;rw [bF] at h;split at h
  ·grind
  grind
theorem CW.start(a:P.funcs[f]? =some E)(d:E.body=some c)(e:E.ntmps=N)
  (g:Nat.ble b.length N=true) (h:CW P N c (bodyPost P E R) (sX 0 b) w):Calls P f b.toArray w R:=
 CW.enter a d e (by simpa using g) (λj v i=>by have:=(Hx i).2;simpa using this) h
theorem ym:type_of% @CW.start:=CW.start
theorem CW.go(h:CW P N c Q fr w)(b:Rep N fr a):c.wp P Q a w:=h a b
theorem CW.cutK(J:Act->World->Prop)(b:CW P N c (Exit.then J Q) fr w)(d:∀a w,J a w->K a w):CW P N c (Exit.then K Q) fr w:=λa f=>
 wp_mono (b a f) (λe _ _ h=>by cases e<;>first|exact d _ _ h|exact h)
theorem OW.make(v:St w0 S0 w L)
  (hl:vg l i=some ⟨some d,.makeSlice s x y,ty,pos,t,p⟩) (I:gd l fr ⟨some d,.makeSlice s x y,ty,pos,t,p⟩=some true) (hN:Nat.blt d N=true) (hx:look fr x=some (.int kd j)) (hy:look fr y=some (.int kc j)) (ht:P.underlying s=some (.slice e)) (o:tq P e sz bytes) (z:α)
  (O:(ax P (zeroValue e)).map (·.cells.toList)=some (enc z)) (J:∀x,(enc x).length=sz) (A:mkLen j bytes=some m)
  (h:∀g w',St w0 S0 w' (L++[qb (.slice (some ⟨g,0,none⟩) m m) e enc sz (List.replicate m z)])->OW P l N Q (i+1) ((d,.slice (some ⟨g,0,none⟩) m m)::fr) w'):OW P l N Q i fr w:=by
 obtain ⟨R,f,hi,B,S,U,V⟩:=o.Ws;unfold mkLen at A;split at A
 ·rename_i r
  obtain ⟨h0,K⟩:=r;simp only [i6] at A;obtain ⟨k,rfl⟩:=zof h0;have W:m=k:=by simpa using A.symm
  subst W;simp only [l6] at K;have hle:m<=m*bytes:=TR _ o.Wy
  have X:(bytes:Int)*(m:Int)<=281474976710656:=by
   grind
  have c:=run_make (P:=P) w s e R f ht hi B kd kc m m (by omega) (x4 _) (by rw [U];exact X) (by omega)
  simp only [l6,S] at c;refine j6 hl I rfl hN (w':=w.alloc (.cells (madeCells f.cells (m*sz)) e)) (λa ha=> ?_) (h w.heap.size _ ?_)
  ·have e1:=ha.look hx;have e2:=ha.look hy;simp [execOp,e1,e2,c]
  ·refine v.push (Chg.alloc _ _) ?_ (λb K=>pj K) xT
   have Y:f.cells.toList=enc z:=by
    cases u:ax P (zeroValue e) with
    |none=>rw [u] at O;cases O
    |some z'=>
     have h1:=qV u w;have h2:(zeroValue e).run P w=.ok f w:=by simp [zeroValue,typeInfo,hi,B]
     grind
   have M:(madeCells f.cells (m*sz)).toList=jO enc (List.replicate m z):=by
    have hlen:f.cells.toList.length=sz:=by rw [Y,J]
    clear c h v hl I K O;apply o4;intro q;rcases Nat.lt_or_ge q (m*sz) with u|u
    ·have C:=o.pos;have Z:q=q / sz*sz+q%sz:=by rw [Nat.mul_comm];exact (Nat.div_add_mod q sz).symm
     have D:q%sz<sz:=Nat.mod_lt _ C;have E:q / sz<m:=Nat.div_lt_of_lt_mul (by grind);have I:(List.replicate m z)[q / sz]? =some z:=by simp [E]
     have hu:(enc z)[q%sz]? =some ((enc z)[q%sz]'(by rw [J];exact D)):=zeg _
     have F:=nZ J I hu;rw [<- Z] at F;rw [F];have G:f.cells.size=sz:=V;simp only [madeCells,Array.toList_map,Array.toList_range,o8,TJ u,t6,i6,G]
     grind
    ·rw [TA (by simp [madeCells];exact u),TA (by rw [qO J];simpa using u)]
   have:=dw.fresh (w:=w.alloc (.cells (madeCells f.cells (m*sz)) e)) (T:=e) (sz:=sz) (n:=m) (cap:=m) (heap_alloc_new w _) (k9 _) (by simp only [maxLen];omega) (size_madeCells _ _)
   grind [qO,qb]
 ·cases A
theorem Kl(h:loop a9 0 A=some b0):False:=by cases h
theorem SF(a:i+0=N)(h:decide ((i:Int)<(N:Int))=true):False:=by simp at h;omega
theorem SG(a:i+(n+1)=N)(h:decide ((i:Int)<(N:Int))=false):False:=by simp at h;omega
theorem Bu(h:i+(n+1)=N):i+1+n=N:=by omega
theorem E3(h:decide ((i:Int)<(N:Int))=true)(a:N<=9223372036854775807):w64 ((i:Int)+1)=((i+1:Nat):Int):=by
 simp at h
 grind [Gt]
theorem sy{α:Type}{u:Type}{o:Option α}{A:u}{B:α->u}{r:u}(h:vK o A B=r)(e:o=none):A=r:=by subst e;exact h
theorem sB{α:Type}{u:Type}{o:Option α}{A:u}{B:α->u}{r:u}{k:α}(h:vK o A B=r)(e:o=some k):B k=r:=by subst e;exact h
theorem QW.say(s:Nat){u:Value}(e:lK fr s=some u)(f:u=v)(h:QW N Q b2 ((s,v)::fr) w):QW N Q b2 fr w:=λa d=>h a ⟨d.size,d.defers,λj x b=>by
 rw [bF] at b;by_cases c:s=j
 ·subst c;rw [d7 rfl] at b;exact d.get _ _ (by rw [e,f];exact b)
 ·rw [d8 c] at b;exact d.get _ _ b⟩
theorem St.nilRow(h:St w0 S0 w L)(α:Type)(T:TypeId)(enc:α->List Value)(sz:Nat):St w0 S0 w (L++[qb (.slice none 0 0) T enc sz ([]:List α)]):=
 h.push (x8 _ _) (dw.nil w T sz none) (λb a=>by grind [qb,cM]) xT
def nz(b:Int):Option Unit:=if b=0 then none else some ()
theorem Ry(h:nz j=some a8):j≠0:=by
 grind [nz]
def RdN(w:World)(S:List Nat)(v:Value)(D:World->List Nat->α->List Value->Prop)(sz:Nat)(xs:List α):Prop:=
 xs.length<=9223372036854775807/\∃a c,v=.slice a xs.length c/\xs.length<=c/\∀t x,xs[t]? =some x->∃d,D w S x d/\∃b o,a=some ⟨b,o,none⟩/\b∉S/\∀f u,d[f]? =some u->w.cell? ⟨b,o+t*sz+f,none⟩=some u
theorem RdN.len(h:RdN w S v D sz xs):
 xs.length<=9223372036854775807/\∃a c,v=.slice a xs.length c:=⟨h.1,let ⟨a,c,hv,_⟩:=h.2;⟨a,c,hv⟩⟩
theorem RdN.formv(h:RdN w S v D sz xs)(i:idx xs j=some A):
  ∃b o c e,v=.slice (some ⟨b,o,none⟩) xs.length c/\D w S A e/\∀f u,e[f]? =some u->∀w' L,St w S w' L->w'.cell? ⟨b,o+j.toNat*sz+f,none⟩=some u:=by
 obtain ⟨_,a,c,k,_,l⟩:=h;obtain ⟨_,_,m⟩:=zX i;obtain ⟨e,n,b,o,p,q,d⟩:=l _ A m;refine ⟨b,o,c,e,by rw [k,p],n,λf u r w' L g=> ?_⟩;have:=d f u r;exact (World.cell?_of_block (g.chg.block b (mr this) q)).trans this
theorem CW.cutQ(J:Act->World->Prop)(b:CW P N c (Exit.then J Q) fr w)(d:∀a w,J a w->Q .normal a w):CW P N c Q fr w:=λa f=>
 wp_mono (b a f) (λe _ _ h=>by cases e<;>first|exact d _ _ h|exact h)
theorem QW.go(h:QW N Q b2 fr w)(b:Rep N fr a):Q b2 a w:=h a b
open Go.ChangeShapes Go.WideShapes Go.ChangeAt Go.RowKit
def Dec(P:Program)(t:TypeId)(D:World->List Nat->α->List Value->Prop)(G:α->Prop):Prop:=
 ∀(H:Type)(enc:TypeId×Value->H)(w:World)(r:Nat)(spare:Nat->Bool)(g:Bool)(z:Nat)(c:List Value)(x:DataW H×List MemPlace),
  DataW.trod enc P w r spare g z t c=some x->(∀n∈x.1.weights P t,n<=reachBytes)->∃a,D w [] a c/\G a
theorem Dec.int{t:TypeId}{k:IntKind}(b:P.underlying t=some (.int k)):Dec P t (λ_ _ (a:Int) c=>c=zu k a) (λa=>(Lit.int k a).wf=true):=by
 intro H enc w r spare g z c x h _;obtain ⟨n,rfl,_,d⟩:=DataW.trod_int b h;exact ⟨n,rfl,d⟩
theorem Dec.mono(h:Dec P T D G)(b:∀w a c,D w [] a c->D' w [] a c)(d:∀a,G a->G' a):Dec P T D' G':=by
 intro H enc w r spare g z c x e f;obtain ⟨a,i,j⟩:=h H enc w r spare g z c x e f;exact ⟨a,b _ _ _ i,d _ j⟩
theorem pG{H:Type}{P:Program}{e:TypeId}:∀{l:List (DataW H)} {d:DataW H},d∈l->∀n∈d.weights P e,n∈DataW.weightsAll P e l
 |[],_,h,_,_=>absurd h List.not_mem_nil
 |a::r,d,h,n,b=>by
  unfold DataW.weightsAll;rcases j5.1 h with rfl|h
  ·grind
  ·exact TO _ (pG h n b)
theorem oD{H:Type}{P:Program}:∀{k:List TypeId} {f:List (DataW H)} {i:Nat} {t:TypeId} {d:DataW H},k[i]? =some t->f[i]? =some d->∀n∈d.weights P t,n∈DataW.weightsEach P k f
 |[],_,_,_,_,h,_,_,_=>by simp at h
 |_::_,[],_,_,_,_,h,_,_=>by simp at h
 |a::r,b::q,0,t,d,c,e,n,g=>by
  simp at c e;subst c;subst e;unfold DataW.weightsEach
  grind
 |a::r,b::q,i+1,t,d,c,e,n,g=>by
  unfold DataW.weightsEach;exact TO _ (oD (i:=i) (by simpa using c) (by simpa using e) n g)
theorem cells?_at(h:w.cells? r J n=some vs):vs.length=n/\∀(f:Nat)(u:Value),vs[f]? =some u->w.cell? (J.add f)=some u:=by
 obtain ⟨_,hl,a⟩:=World.cells?_some h
 grind
theorem Og(h:J.spot=none)(m n:Nat):(J.add m).add n=⟨J.block,J.off+m+n,none⟩:=by
 obtain ⟨b,o,s⟩:=J;cases h;unfold Addr.add
 grind
theorem ui{α:Type}{p:Nat->α->Prop}:∀n:Nat,(∀i,i<n->∃a,p i a)->∃xs:List α,xs.length=n/\∀i x,xs[i]? =some x->p i x
 |0,_=>⟨[],rfl,λi x h=>by simp at h⟩
 |n+1,h=>by
  obtain ⟨xs,b,c⟩:=ui n (λi d=>h i (by omega));obtain ⟨a,e⟩:=h n (by omega);refine ⟨xs++[a],by simp [b],λi x f=> ?_⟩
  grind
theorem Dec.sliceN{t e:TypeId}(Q:Dec P e D G)(B:P.underlying t=some (.slice e))(R:P.cellsOf e=sz)(T:0<sz)(U:P.bytesOf e=bytes):
  Dec P t (λw S (xs:List α) c=>∃v,c=[v]/\RdN w S v D sz xs) (λxs=>xs.length*bytes<=reachBytes/\∀x∈xs,G x):=by
 intro H enc w r spare g z c x h C;rcases Go.Deep.open_slice B h with ⟨rfl,rfl⟩|⟨a,len,cap,m,n,V,Pl,rfl,_,hl,W,rfl,rfl,j⟩
 ·exact ⟨[],⟨_,rfl,by simp,none,0,rfl,by simp,λt x j=>by simp at j⟩,by simp,λx j=>absurd j List.not_mem_nil⟩
 rw [R] at j;have X:len<=(if spare a.block then cap else len):=by split<;>omega
 unfold DataW.weights at C;simp only [B] at C
 obtain ⟨xs,l,q⟩:=ui (p:=λi y=>G y/\∃c,D w [] y c/\w.cells? r (a.add (i*sz)) sz=some c) len (λi E=>by
  obtain ⟨c,I,Y⟩:=j i (by omega);obtain ⟨y,J,Z⟩:=Q H enc w r spare g n c _ Y (λk hk=>C k (List.mem_cons_of_mem _ (List.mem_append_left _ (pG (d:=V i) (x2.2 ⟨i,by simpa using E,rfl⟩) k hk))));exact ⟨y,Z,c,J,I⟩)
 have O:=C _ List.mem_cons_self;simp only [m6,List.length_range,U] at O;have K:len*bytes<=reachBytes:=t8 (r6 _ (by omega)) O;refine ⟨xs,⟨_,rfl,?_,some a,cap,by rw [l],by rw [l];exact hl,λi y F=> ?_⟩,by rw [l];exact K,λy F=> ?_⟩
 ·unfold maxLen at W;omega
 ·obtain ⟨_,c,J,L⟩:=q i y F;have E:i<len:=by have:=(List.getElem?_eq_some_iff.1 F).1;omega
  have A:a.spot=none:=by
   obtain ⟨M,I,_⟩:=j 0 (by omega);obtain ⟨hl0,N⟩:=cells?_at I;have:=N 0 M[0] (List.getElem?_eq_getElem (by omega));rw [Nat.zero_mul] at this
   simpa [Addr.add] using World.cell?_spot this
  refine ⟨c,J,a.block,a.off,?_,by simp,λf u B=> ?_⟩
  ·obtain ⟨b,o,s⟩:=a;cases A;rfl
  ·have:=(cells?_at L).2 f u B;rw [Og A] at this;exact this
 ·obtain ⟨i,E⟩:=List.mem_iff_getElem?.1 F;exact (q i y E).1
theorem Dec.slice{t e:TypeId}(k:Dec P e (λ_ _ a d=>d=enc a) G)(g:P.underlying t=some (.slice e))(l:P.cellsOf e=sz)(i:0<sz)(m:P.bytesOf e=bytes):
  Dec P t (λw S (xs:List α) d=>∃v,d=[v]/\Rd w S v enc sz xs) (λxs=>xs.length*bytes<=reachBytes/\∀x∈xs,G x):=by
 refine (Dec.sliceN k g l i m).mono ?_ (λ_ h=>h);rintro w xs d ⟨v,rfl,n,a,c,rfl,j,p⟩;refine ⟨_,rfl,n,a,c,rfl,j,λt x f u q g=> ?_⟩;obtain ⟨d,rfl,b,o,r,s,y⟩:=p t x q;exact ⟨b,o,r,s,y f u g⟩
theorem Dec.struct
  (e:P.underlying T=some (.struct B)) (h:DataW.trod b3 P w r b4 g z T vs=some b5) (b:∀n∈b5.1.weights P T,n<=reachBytes):
  vs.length=P.cellsOf T/\∀(α:Type)(D:World->List Nat->α->List Value->Prop)(G:α->Prop)(i:Nat)(f:Field),B[i]? =some f->Dec P f.type D G->∃a,D w [] a ((vs.drop f.offset).take (P.cellsOf f.type))/\G a:=by
 obtain ⟨xs,n,_,rfl,hl,j,m⟩:=DataW.trod_struct e h;refine ⟨hl,λα D G i f o p=> ?_⟩;have l:=m i f o;have c:i<xs.length:=by grind
 rw [List.getElem?_eq_getElem c] at l;unfold DataW.weights at b;simp only [e] at b;refine p β b3 w r b4 g n _ _ l (λk q=>b k (oD (i:=i) (t:=f.type) (d:=xs[i].1) ?_ ?_ k q))
 ·grind
 grind
def SP(P:Program)(t:TypeId):List (TypeId×Nat×Nat):=match P.underlying t with
 |some (.struct B)=>B.toList.map (λf=>(f.type,f.offset,P.cellsOf f.type))
 |_=>[]
theorem Dec.parts{L:List (TypeId×Nat×Nat)}
  (d:SP P ty=L) (e:L≠ []) (h:DataW.trod b3 P w r b4 g z ty vs=some b5) (f:∀n∈b5.1.weights P ty,n<=reachBytes):
  vs.length=P.cellsOf ty/\∀(α:Type)(D:World->List Nat->α->List Value->Prop)(G:α->Prop)(i T o c:Nat),L[i]? =some (T,o,c)->Dec P T D G->∃a,D w [] a ((vs.drop o).take c)/\G a:=by
 unfold SP at d;split at d
 ·rename_i B b
  obtain ⟨j,k⟩:=Dec.struct b h f
  grind
 grind
theorem St.zero(w:World):St w [] w []:=⟨x8 _ _,λi it h=>by simp at h,λi it h=>by simp at h,λi j a b _ h=>by simp at h,λi it h=>by simp at h⟩
theorem pH{H:Type}{enc:TypeId×Value->H}{P:Program}(hl:laidOutB P=true){W g:World}(i:Below W.heap.size W g):
  ∀{k:List TypeId} {vs:List Value} {e:List (DataW H)} {ps:List MemPlace},k.all (λt=>P.readableRec t&&decide (t<P.types.size))=true->
   DataW.TrodAll enc P W 0 (λ_=>true) true k vs e ps->(∀x∈ps,x.block<W.heap.size)->
   DataW.TrodAll enc P g 0 (λb=>decide (b<W.heap.size)) true k vs e ps
 |[],[],[],_,_,h,_=>h
 |[],[],_::_,_,_,h,_=>h.elim
 |[],_::_,_,_,_,h,_=>h.elim
 |_::_,[],_,_,_,h,_=>h.elim
 |_::_,_::_,[],_,_,h,_=>h.elim
 |t::k,v::vs,d::e,ps,c,h,a=>by
  obtain ⟨p,q,j,l,rfl⟩:=h;simp only [List.all_cons,TP,decide_eq_true_eq] at c;exact ⟨p,q,Below.trod hl c.1.1 c.1.2 j i (λx f=>a x (List.mem_append_left _ f)),pH hl i c.2 l (λx f=>a x (TO _ f)),rfl⟩
theorem trodAll_cons
  (h:DataW.TrodAll b3 P w r b4 g (T::k) vs b6 ps) (e:∀n∈DataW.weightsEach P (T::k) b6,n<=reachBytes):
  ∃v b c f,vs=v::b/\(∀(α:Type)(D:World->List Nat->α->List Value->Prop)(G:α->Prop),Dec P T D G->∃a,D w [] a v.cells.toList/\G a)/\
   DataW.TrodAll b3 P w r b4 g k b c f/\∀n∈DataW.weightsEach P k c,n<=reachBytes:=by
 cases vs with
 |nil=>exact h.elim
 |cons v vs=>
  cases b6 with
  |nil=>exact h.elim
  |cons d b6=>
   obtain ⟨p,q,⟨z,j⟩,l,rfl⟩:=h;unfold DataW.weightsEach at e;exact ⟨v,vs,b6,q,rfl,λα D G m=>m β b3 w r b4 g z _ _ j (λn i=>e n (List.mem_append_left _ i)),l,λn i=>e n (TO _ i)⟩
theorem trodAll_nil
  (h:DataW.TrodAll b7 P w r b4 g [] vs b8 ps):vs=[]:=by
 cases vs with
 |nil=>rfl
 |cons v vs=>cases b8<;>exact h.elim
theorem oT{H:Type}{enc:TypeId×Value->H}{P:Program}{w:World}{r:Nat}{spare:Nat->Bool}{g:Bool}:∀{k:List TypeId} {vs:List Value} {a:List (DataW H)} {ps:List MemPlace},
  DataW.TrodAll enc P w r spare g k vs a ps->a.length=k.length
 |[],[],[],_,_=>rfl
 |[],[],_::_,_,h=>h.elim
 |[],_::_,_,_,h=>h.elim
 |_::_,[],_,_,h=>h.elim
 |_::_,_::_,[],_,h=>h.elim
 |t::k,v::vs,d::a,ps,h=>by
  obtain ⟨p,q,_,b,_⟩:=h;simp [oT b]
theorem Lj(h:Value.okWide P w c0 r T v)(a:v.cells.toList=vs)
  (b:(match P.underlying T with|some (.struct _)=>true|some (.array _ _)=>true|_=>false)=true):v=.agg vs.toArray:=by
 unfold Value.okWide at h;split at h
 ·obtain ⟨c,rfl,_,_⟩:=h;simp only [Value.cells] at a;rw [<- a]
 ·obtain ⟨c,rfl,_,_⟩:=h;simp only [Value.cells] at a;rw [<- a]
 grind
theorem II{H:Type}{enc:TypeId×Value->H}(h:P.underlying T=some .bool):
 DataW.TrodAll enc P w r b4 g [T] [.bool true] [.lit (.bool true)] ([]++[]):=trodAll_mk1 (shut_bool h true)
theorem nf{H:Type}{P:Program}{u:List TypeId}{n:Nat}:∀{k:List TypeId} {a:List (DataW H)},a.length=k.length->n∈DataW.weightsEach P k a->n∈DataW.weightsEach P (k++u) a
 |[],[],_,h=>by simp [DataW.weightsEach] at h
 |[],_::_,h,_=>by simp at h
 |_::_,[],h,_=>by simp at h
 |t::k,d::a,hl,h=>by
  rw [Ts];unfold DataW.weightsEach at h |-;rcases f8.1 h with h|h
  ·grind
  ·exact TO _ (nf (by simpa using hl) h)
open Go.ChangeShapes Go.WideShapes Go.ChangeAt Go.RowKit
mutual
def vF{H:Type}:DataW H->Option (List Value)
 |.lit (.int k n)=>some [.int k n]
 |.lit (.bool b)=>some [.bool b]
 |.lit (.string a)=>some [.string ⟨a.toArray⟩]
 |.agg d=>uT d
 |_=>none
def uT{H:Type}:List (DataW H)->Option (List Value)
 |[]=>some []
 |d::r=>match vF d,uT r with
  |some a,some b=>some (a++b)
  |_,_=>none
end
def C5(P:Program)(n:Nat):Nat->List Field->Bool
 |o,[]=>o==n
 |o,f::r=>f.offset==o&&C5 P n (o+P.cellsOf f.type) r
def Kf(P:Program):Nat->TypeId->Bool
 |0,_=>false
 |n+1,t=>match P.underlying t with
  |some (.int _)|some .bool|some .string=>true
  |some (.struct B)=>C5 P (P.cellsOf t) 0 B.toList&&B.toList.all (λf=>Kf P n f.type)
  |some (.array m e)=>P.cellsOf t==m*P.cellsOf e&&Kf P n e
  |_=>false
theorem rA{H:Type}{a:List (DataW H)}{cs:List Value}:∀{ls:List (List Value)},ls.length=a.length->(∀(i:Nat)(d:DataW H)(l:List Value),a[i]? =some d->ls[i]? =some l->vF d=some l)->ls.flatten=cs->uT a=some cs:=by
 induction a generalizing cs with
 |nil=>intro ls hl _ h;cases ls with
  |nil=>simp at h;subst h;simp [uT]
  |cons _ _=>simp at hl
 |cons d r c=>
  intro ls hl b h;cases ls with
  |nil=>simp at hl
  |cons l q=>
   have g:=b 0 d l rfl rfl;have j:=c (ls:=q) (cs:=q.flatten) (by simpa using hl) (λi d l e f=>b (i+1) d l (by simpa using e) (by simpa using f)) rfl
   grind [uT]
theorem Bo{P:Program}{c:List Value}{n:Nat}(e:c.length=n):∀{B:List Field} {o:Nat},C5 P n o B=true->o<=n->(B.map λf=>(c.drop f.offset).take (P.cellsOf f.type)).flatten=c.drop o:=by
 intro B
 induction B with
 |nil=>
  grind [C5]
 |cons f r i=>
  intro o h j;simp only [C5,TP,x3] at h;obtain ⟨d,b⟩:=h;subst d
  have a:f.offset+P.cellsOf f.type<=n:=by
   clear i
   have:∀{B:List Field} {o:Nat},C5 P n o B=true->o<=n:=by
    intro B
    induction B with
    |nil=>intro o h;simp only [C5,x3] at h;omega
    |cons g q i=>intro o h;simp only [C5,TP,x3] at h;have:=i h.2;omega
   exact this b
  simp only [p9,yb];rw [i b a];rw [<- y4,x9]
theorem wH{c:Nat}:∀{n:Nat} {cs:List Value},cs.length=n*c->((List.range n).map λi=>(cs.drop (i*c)).take c).flatten=cs:=by
 intro n
 induction n with
 |zero=>intro cs h;simp at h;simp [h]
 |succ n a=>
  intro cs h;rw [List.range_succ_eq_map,p9,yb,List.map_map];have b:=a (cs:=cs.drop c) (by grind)
  have e:((List.range n).map ((λi=>(cs.drop (i*c)).take c)∘Nat.succ))=(List.range n).map λi=>((cs.drop c).drop (i*c)).take c:=by
   apply Tv
   intro i _;simp only [Function.comp,y4]
   grind
  rw [e,b];simp
theorem Hv{H:Type}{enc:TypeId×Value->H}{P:Program}{w:World}{r:Nat}{y:Nat->Bool}{g:Bool}:∀(n:Nat){z:Nat}{t:TypeId}{o:List Value}{d:DataW H}{p:List MemPlace},
  Kf P n t=true->DataW.trod enc P w r y g z t o=some (d,p)->vF d=some o:=by
 intro n
 induction n with
 |zero=>intro z t o d p h;cases h
 |succ n E=>
  intro z t o d p h u;unfold Kf at h;split at h
  ·rename_i k a
   obtain ⟨m,rfl,c,_⟩:=DataW.trod_int a u
   grind [vF]
  ·rename_i a
   obtain ⟨b,rfl,c⟩:=DataW.trod_bool a u
   grind [vF]
  ·rename_i a
   obtain ⟨s,rfl,c,_⟩:=DataW.trod_string a u;cases c;simp [vF]
  ·rename_i B a
   simp only [TP,yf] at h;obtain ⟨x,A⟩:=h;obtain ⟨xs,m,rfl,c,hl,j,C⟩:=DataW.trod_struct a u;cases c;rw [vF];refine rA (ls:=B.toList.map λf=>(o.drop f.offset).take (P.cellsOf f.type)) (by simp [j]) (λi d l D v=> ?_) (by rw [Bo hl x (Nat.zero_le _)];rfl)
   grind
  ·rename_i m e a
   simp only [TP,x3] at h;obtain ⟨x,A⟩:=h;obtain ⟨xs,q,rfl,c,hl,j,C⟩:=DataW.trod_array a u;cases c;rw [vF];refine rA (ls:=(List.range m).map λi=>(o.drop (i*P.cellsOf e)).take (P.cellsOf e)) (by simp [j]) (λi d l D v=> ?_) (wH (by omega))
   grind
  ·cases h
theorem PA{P:Program}{w:World}{a:String}{d:DataW Unit}:∀{laid:List (String×DataW Unit)} {ps:List MemPlace} {i:Nat},DataW.LaidVars P w laid ps->laid[i]? =some (a,d)->
  ∃g t c z p,P.globalNamed a=some g/\(P.globals[g]?).map (·.type)=some t/\w.var? P a=some c/\DataW.trod (λ_=>()) P w 0 (λ_=>true) false z t c.toList=some (d,p):=by
 intro laid
 induction laid with
 |nil=>intro ps i _ h;simp at h
 |cons x r b=>
  intro ps i h f;obtain ⟨n,e⟩:=x;obtain ⟨g,t,c,z,p,q,j,k,l,m,o,_⟩:=h
  grind
theorem Kg{α:Type}{P:Program}{W:World}{laid:List (String×DataW Unit)}{n:String}{d:DataW Unit}{g t sz:Nat}{enc:α->List Value}{xs:List α}(i k:Nat)(h:laidMet P laid W)(l:laid[i]? =some (n,d))(b:P.globalNamed n=some g)
  (a:(P.globals[g]?).map (·.type)=some t) (o:Kf P k t=true) (q:vF d=some (jO enc xs)) (B:∀x,(enc x).length=sz) (hl:Nat.ble xs.length 9223372036854775807=true) {m:Nat} (r:xs.length=m):
  Rd W [] (.slice (some ⟨g,0,none⟩) m m) enc sz xs:=by
 subst r;obtain ⟨ps,s,_,_⟩:=h;obtain ⟨C,D,E,z,p,v,w,y,A⟩:=PA s l;obtain rfl:=i8 (b.symm.trans v);obtain rfl:=i8 (a.symm.trans w);have c:=Hv k o A;rw [q] at c;have e:=i8 c;refine ⟨u5 hl,_,_,rfl,k9 _,λj x f u F G=>⟨g,0,rfl,by simp,?_⟩⟩;rw [ya,World.var?_cell b y,<- Array.getElem?_toList,<- e]
 grind [nZ]
theorem Bp{C:Checked}{os:Os}{f:FuncId}{fn:Func}{s:ChangeSpec}{F:Stop.Interp}{a:List PathCond}{laid:List (String×DataW Unit)}{tb:TypeId}(H:Type)(enc:TypeId×Value->H)
  (own:ownKnob C.prog.godebug=none) (g:os.Started) (o:C.prog.inits.idxOf? f=none) (E:C.prog.funcs[f]? =some fn)
  (k:∃(w:World)(tape:Tape)(i:Input),w.os=os/\(w.forCall tape i).Shaped C.prog/\i.vars=[]/\Input.okWide C.prog (w.forCall tape i) .any w.heap.size f i/\
   (OpenSpec.ofChange s).preRow enc C.prog fn a false laid (w.forCall tape i).memory i.args/\({}:Assume).holds C.prog (lone (Frame.enter C.prog f i.args .normal) [] (w.forCall tape i)))
  (l:laidOutB C.prog=true) (m:s.vars=[]) (G:fn.params.toList.all (λt=>C.prog.readableRec t&&decide (t<C.prog.types.size))=true)
  (I:fn.resultTypes= #[tb]) (J:C.prog.underlying tb=some .bool)
  (u:∀(d:List (DataW H)),d.length=fn.params.toList.length->(s.fn H (d++[])).results=[.lit (.bool true)]/\(s.fn H (d++[])).args=d/\(s.fn H (d++[])).vars=[])
  (c:∀(W:World)(r:Nat)(b:Array Value)(d:List (DataW H))(ps:List MemPlace),laidMetH C.prog laid W->
   (∀(j:Nat) t v,fn.params[j]? =some t->b[j]? =some v->Value.okWide C.prog W .any r t v)->
   DataW.TrodAll enc C.prog W 0 (λ_=>true) true fn.params.toList b.toList d ps->(∀n∈DataW.weightsEach C.prog fn.params.toList d,n<=reachBytes)->
   Calls C.prog f b W λe K=>e=.returned (.bool true)/\Chg [] W K):
  ReturnsInHanded {} C os f .any ((OpenSpec.ofChange s).preRow enc C.prog fn a false laid) (((OpenSpec.ofChange s).at F).post enc C.prog fn false true false false):=by
 refine returnsInHanded_of_row (s:=OpenSpec.ofChange s) own g o E k ?_;intro W r b d P B y N _ _ L Q _ _;have z:=N;obtain ⟨p,q,D,R,rfl,_,_⟩:=N;have A:DataW.TrodVars enc C.prog W (λ_=>true) s.vars P q:=R;rw [m] at A;obtain ⟨rfl,rfl⟩:=trodVars_none A
 have S:∀n∈DataW.weightsEach C.prog fn.params.toList d,n<=reachBytes:=by
  intro n T
  have:n∈DataW.weightsEach C.prog (fn.params.toList++(OpenSpec.ofChange s).bare.plain.varTypes C.prog) (d++[]):=by
   rw [i4];exact nf (oT D) T
  have U:=yf.1 L n this
  simpa using U
 refine (c W r b d p Q y D S).mono λe K ⟨V,X⟩=> ?_
 subst V;have O:=X.below;have M:∀x∈p,x.block<W.heap.size:=λx Y=>z.lt x (List.mem_append_left _ Y)
 obtain ⟨Z,r2,r3⟩:=u d (oT D);refine ⟨_,rfl,?_⟩;show s.post enc C.prog fn false true false false W b _ K;refine ⟨d,[],p++[],[]++[],p,[],z,?_,?_,?_,O.frame _,λh=>by cases h⟩
 ·rw [Z,I];exact II J
 ·rw [r2];exact pH l O G D M
 ·rw [r3,m];rfl
def Rx(g:Nat)(c:List Value)(h:Array Obj):Array Obj:=h.modify g λ
 |.cells _ t frozen=>.cells c.toArray t frozen
 |o=>o
def Kh:List (Nat×List Value)->Array Obj->Array Obj
 |[],h=>h
 |(g,c)::r,h=>Kh r (Rx g c h)
def uU(P:Program)(os:Os)(k:List (Nat×List Value)):World:=
 {World.holding P os ⟨#[],#[],[]⟩ with heap:=Kh k (World.holding P os ⟨#[],#[],[]⟩).heap}
end Go.Sx
