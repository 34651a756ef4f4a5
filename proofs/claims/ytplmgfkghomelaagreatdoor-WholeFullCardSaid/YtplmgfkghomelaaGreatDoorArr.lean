/- Lemmas. -/
import Derived.Test.YtplmgfkghomelaaGreatDoorPlan
import Derived.Sort.OwnSortedInts
import Derived.Lib.SlicesCompact
set_option linter.unusedVariables false
set_option linter.unusedSimpArgs false
namespace Go.Sx
section
section
section
section
open Go.RowKit
variable {α:Type} {n sz f:Nat} {vs:List Value} {q:Int} {T:TypeId} {x y:Operand} {ty:TypeId} {pos:String} {gdd:Option (Nat×Bool)} {v:Value} {e:TypeId} {k0:Nat} {z:Operand} {wb:World} {Sb:List Nat} {enc:α->List Value} {xs:List α}
def aset(a:Nat->α)(t:Nat)(v:α):Nat->α:=λi=>if i=t then v else a i
def eG{α:Type}(enc:α->List Value):Nat->(Nat->α)->List Value
 |0,_=>[]
 |n+1,a=>enc (a 0)++eG enc n (λi=>a (i+1))
def ain(n:Nat)(t:Int):Option Nat:=if 0<=t/\t<n then some t.toNat else none
theorem rO{t:Int}{i:Nat}(h:ain n t=some i):0<=t/\t<n/\i<n/\t.toNat=i:=by
 grind [ain]
theorem lH(enc:α->List Value):∀(n:Nat)(a:Nat->α),eG enc n a=jQ enc ((List.range n).map a):=by
 intro n
 induction n with
 |zero=>intro a;rfl
 |succ n ih=>
  intro a;rw [List.range_succ_eq_map,yo,List.map_map];show enc (a 0)++eG enc n (λi=>a (i+1))=enc (a 0)++jQ enc _;rw [ih];rfl
theorem wj(he:∀x,(enc x).length=sz)(n:Nat)(a:Nat->α):(eG enc n a).length=n*sz:=by
 rw [lH,qP he];simp
theorem OX(he:∀x,(enc x).length=sz){t:Nat}(ht:t<n)(A C:List Value)(a:Nat->α){u:Value}(hu:(enc (a t))[f]? =some u):(A++(eG enc n a++C))[A.length+(t*sz+f)]? =some u:=by
 have h1:(jQ enc ((List.range n).map a))[t*sz+f]? =some u:=mR he (x:=a t) (by simp [ht]) hu;rw [y4 (by omega),show A.length+(t*sz+f)-A.length=t*sz+f by omega,lH]
 grind
theorem JP{t:Nat}(a:Nat->α)(v:α):((List.range n).map a).set t v=(List.range n).map (aset a t v):=by
 apply m6
 grind [aset]
theorem mH{A B C:List Value}{k:Nat}(h:k+vs.length<=B.length):qG (A++(B++C)) vs (A.length+k)=A++(qG B vs k++C):=by
 unfold qG;rw [List.take_append,r7 (by omega),show A.length+k-A.length=k by omega,y6 (by omega)];rw [RG,x8 (l:=A) (by omega),show A.length+k+vs.length-A.length=k+vs.length by omega,List.drop_append_of_le_length (by omega)]
 grind
theorem MJ(he:∀x,(enc x).length=sz){t:Nat}(ht:t<n)(A C:List Value)(a:Nat->α){x':α}(hf:f+vs.length<=sz)(hs:qG (enc (a t)) vs f=enc x'):
  qG (A++(eG enc n a++C)) vs (A.length+(t*sz+f))=A++(eG enc n (aset a t x')++C):=by
 have hl:=wj he n a;have hm:t*sz+sz<=n*sz:=by rw [<- y5];exact o9 _ ht
 rw [mH (by omega),lH,lH,Al he (x:=a t) (by simp [ht]) hf hs,JP]
theorem Ey{w:World}{b o:Nat}{cs:List Value}(cf:∀f u,cs[f]? =some u->w.cell? ⟨b,o+f,none⟩=some u)(enc:α->List Value)(he:∀x,(enc x).length=sz)(n:Nat)(a:Nat->α)(k0:Nat)
  (hcs:cs=cs.take k0++(eG enc n a++cs.drop (k0+n*sz))) (hk:Nat.ble k0 cs.length=true) {t:Nat} (hi:ain n q=some t):
  ∀f u,(enc (a t))[f]? =some u->w.cell? ⟨b,o+k0+q.toNat*sz+f,none⟩=some u:=by
 intro f u hu;obtain ⟨h0,h1,h2,rfl⟩:=rO hi;have hl:(cs.take k0).length=k0:=by rw [yw];have:=q8 hk;omega
 have:=OX he h2 (cs.take k0) (cs.drop (k0+n*sz)) a hu;rw [<- hcs,hl] at this
 grind
section
variable {P:Program} {N:Nat} {Q:Exit->Act->World->Prop} {fr fr':List (Nat×Value)} {w w0:World} {l:List Oper} {i:Nat} {o:Oper} {S0:List Nat} {L:List Item}
theorem St.arrB(h:St w0 S0 w L)(j:Nat){b:Nat}{cs:List Value}(hj:L[j]? =some (jT b T cs))(enc:α->List Value)(he:∀x,(enc x).length=sz)(n:Nat)(a:Nat->α)(k0:Nat)
  (hcs:cs=cs.take k0++(eG enc n a++cs.drop (k0+n*sz))) (hk:Nat.ble k0 cs.length=true) {t:Nat} (hi:ain n q=some t):
  ∀f u,(enc (a t))[f]? =some u->w.cell? ⟨b,k0+q.toNat*sz+f,none⟩=some u:=by
 intro f u hu;have:=Ey (w:=w) (b:=b) (o:=0) (cs:=cs) (λf u hf=>by rw [x4];exact h.blk j hj hf) enc he n a k0 hcs hk hi f u hu
 rwa [x4] at this
theorem pi{cs cs':List Value}(enc:α->List Value)(he:∀x,(enc x).length=sz)(n:Nat)(a:Nat->α)(k0:Nat)
  (hcs:cs=cs.take k0++(eG enc n a++cs.drop (k0+n*sz))) (hk:Nat.ble k0 cs.length=true) {t:Nat} (hi:ain n q=some t) (hf:Nat.ble (f+vs.length) sz=true) {x':α} (hs:qG (enc (a t)) vs f=enc x')
  (hcs':cs'=cs.take k0++(eG enc n (aset a t x')++cs.drop (k0+n*sz))):qG cs vs (k0+q.toNat*sz+f)=cs'/\k0+q.toNat*sz+f+vs.length<=cs.length:=by
 obtain ⟨h0,h1,h2,rfl⟩:=rO hi;have hl:(cs.take k0).length=k0:=by rw [yw];have:=q8 hk;omega
 have hf':=q8 hf;have hm:q.toNat*sz+sz<=n*sz:=by rw [<- y5];exact o9 _ h2
 have hll:cs.length=k0+(n*sz+(cs.drop (k0+n*sz)).length):=by
  conv=>lhs;rw [hcs]
  rw [p5,p5,wj he,hl]
 constructor
 ·rw [hcs'];have:=MJ he h2 (cs.take k0) (cs.drop (k0+n*sz)) a hf' hs
  grind
 ·omega
theorem OW.stA{t:TypeId}{af:Array Edge}(hst:St w0 S0 w L)(j:Nat){b:Nat}{cs:List Value}(hj:L[j]? =some (jT b T cs))
  (hl:vk l i=some ⟨none,.store t x y,ty,pos,af,gdd⟩) (hg:gd l fr ⟨none,.store t x y,ty,pos,af,gdd⟩=some true)
  {k:Nat} (hx:look fr x=some (.pointer (some ⟨b,k,none⟩))) (hy:look fr y=some v)
  (hs:aj P (sizeOf t)=some v.cells.toList.length) (h1:eA v.cells.toList=true)
  (enc:α->List Value) (he:∀x,(enc x).length=sz) (n:Nat) (a:Nat->α) (k0:Nat) (hcs:cs=cs.take k0++(eG enc n a++cs.drop (k0+n*sz))) (hb:Nat.ble k0 cs.length=true) {u:Nat} (hi:ain n q=some u)
  (f:Nat) (hk:k=k0+q.toNat*sz+f) (hf:Nat.ble (f+v.cells.toList.length) sz=true) (x':α) (hx':qG (enc (a u)) v.cells.toList f=enc x')
  (cs':List Value) (hcs':cs'=cs.take k0++(eG enc n (aset a u x')++cs.drop (k0+n*sz)))
  (h:∀w',St w0 S0 w' (L.set j (jT b T cs'))->OW P l N Q (i+1) fr w'):OW P l N Q i fr w:=by
 obtain ⟨e1,e2⟩:=pi enc he n a k0 hcs hb hi hf hx' hcs';subst hk;exact OW.stB hst j hj hl hg hx hy hs h1 (u7 e2) cs' e1 h
theorem OW.stRA{β:Type}{t:TypeId}{af:Array Edge}(hst:St w0 S0 w L)(j:Nat){hd:Value}{g o cap m:Nat}{ence:β->List Value}{sze:Nat}{xs:List β}
  (hj:L[j]? =some (qi hd T ence sze xs)) (hv:hd=.slice (some ⟨g,o,none⟩) m cap) (hee:∀x,(ence x).length=sze)
  (hl:vk l i=some ⟨none,.store t x y,ty,pos,af,gdd⟩) (hg:gd l fr ⟨none,.store t x y,ty,pos,af,gdd⟩=some true)
  {p:Int} {z:β} (hz:Sx.idx xs p=some z) {k:Nat} (hx:look fr x=some (.pointer (some ⟨g,k,none⟩))) (hy:look fr y=some v)
  (hs:aj P (sizeOf t)=some v.cells.toList.length) (h1:eA v.cells.toList=true)
  (enc:α->List Value) (he:∀x,(enc x).length=sz) (n:Nat) (a:Nat->α) (k0:Nat) (hcs:ence z=(ence z).take k0++(eG enc n a++(ence z).drop (k0+n*sz))) (hb:Nat.ble k0 (ence z).length=true) {u:Nat} (hi:ain n q=some u)
  (f:Nat) (hk:k=o+p.toNat*sze+k0+q.toNat*sz+f) (hf:Nat.ble (f+v.cells.toList.length) sz=true) (x':α) (hx':qG (enc (a u)) v.cells.toList f=enc x')
  (z':β) (hcs':ence z'=(ence z).take k0++(eG enc n (aset a u x')++(ence z).drop (k0+n*sz)))
  (h:∀w',St w0 S0 w' (L.set j (qi hd T ence sze (xs.set p.toNat z')))->OW P l N Q (i+1) fr w'):OW P l N Q i fr w:=by
 obtain ⟨e1,e2⟩:=pi enc he n a k0 hcs hb hi hf hx' hcs';rw [hee] at e2;exact OW.stR hst j hj hv hee hl hg hz (k0+q.toNat*sz+f) hx (by omega) hy hs h1 (u7 e2) z' e1 h
def Hj(n:Nat)(a:Nat->α):List α:=(List.range n).map a
theorem og(n:Nat)(a:Nat->α):(Hj n a).length=n:=by simp [Hj]
theorem St.arrRd(h:St w0 S0 w L)(j:Nat){b:Nat}{cs:List Value}(hj:L[j]? =some (jT b T cs))(enc:α->List Value)(he:∀x,(enc x).length=sz)(n:Nat)(a:Nat->α)(k0:Nat)
  (hcs:cs=cs.take k0++(eG enc n a++cs.drop (k0+n*sz))) (hk:Nat.ble k0 cs.length=true) (hn:Nat.ble n 9223372036854775807=true) (ids:List Nat) (hm:mem? j ids=false):
  Rd w (fp (sel L ids)) (.slice (some ⟨b,k0,none⟩) n n) enc sz (Hj n a):=by
 refine ⟨by rw [og];exact q8 hn,some ⟨b,k0,none⟩,n,by rw [og],by grind [og],λt x f u hx hu=> ?_⟩
 refine ⟨b,k0,rfl,λhb=> ?_,?_⟩
 ·exact h.noin j hj ids hm b (by simp [jT]) hb
 ·unfold Hj at hx;rw [x5] at hx;obtain ⟨y,hy,rfl⟩:=yf.1 hx
  obtain ⟨hlt,rfl⟩:t<n/\y=t:=by
   grind
  have:=h.arrB j hj enc he n a k0 hcs hk (q:=(y:Int)) (t:=y) (by simp [ain,hlt]) f u hu
  simpa using this
theorem MK{o:Oper}{t:TypeId}{b:Nat}(sz:Nat)(ho:o.op=.slice t x none none none)(hx:look fr x=some (.pointer (some ⟨b,k0,none⟩)))
  (ht:P.underlying t=some (.array n e)) (hs:aj P (sizeOf e)=some sz):∀a w,Rep N fr a->(execOp a.eval o).run P w=.ok (.value (.slice (some ⟨b,k0,none⟩) n n)) w:=by
 intro a w ha;have e1:=ha.look hx;simp [execOp,ho,Instr.sliceAt,Instr.sliceBounds,Instr.sureAddr,run_underlying ht,e1,qV hs,Addr.add]
theorem ML{o:Oper}{t:TypeId}{b:Nat}(sz:Nat){p:Int}{kd ke:IntKind}{ys:List α}(ho:o.op=.slice t x (some y) (some z) none)(hx:look fr x=some (.pointer (some ⟨b,k0,none⟩)))
  (hy:look fr y=some (.int kd p)) (hz:look fr z=some (.int ke q)) (hn:xs.length=n) (hc:cut xs p q=some ys)
  (ht:P.underlying t=some (.array n e)) (hs:aj P (sizeOf e)=some sz):∀a w,Rep N fr a->(execOp a.eval o).run P w=.ok (.value (.slice (shd (some ⟨b,k0,none⟩) n p.toNat sz) ys.length (n-p.toNat))) w:=by
 intro a w ha;have e1:=ha.look hx;have e2:=ha.look hy;have e4:=ha.look hz;obtain ⟨h0,h1,h2,_⟩:=aY hc;have hl:=iP hc;rw [hn] at h2;have h3:0<=q/\q<=(n:Int):=⟨by omega,h2⟩
 have h5:0<=p/\p<=q:=⟨h0,h1⟩
 have h6:(q.toNat:Int)=q:=by omega
 have e3:q.toNat-p.toNat=ys.length:=by omega
 have e5:(some (if n=p.toNat then (⟨b,k0,none⟩:Addr) else Addr.add ⟨b,k0,none⟩ (p.toNat*sz)))=shd (some ⟨b,k0,none⟩) n p.toNat sz:=by
  grind [shd]
 simp [execOp,ho,Instr.sliceAt,Instr.sliceBounds,Instr.sliceBound,Instr.sureAddr,run_underlying ht,e1,e2,e4,asIntOf,h3,h5,h6,qV hs,e3,e5]
theorem MM{o:Oper}{t:TypeId}{b:Nat}(sz:Nat){ke:IntKind}{ys:List α}(ho:o.op=.slice t x none (some z) none)(hx:look fr x=some (.pointer (some ⟨b,k0,none⟩)))
  (hz:look fr z=some (.int ke q)) (hn:xs.length=n) (hc:cut xs 0 q=some ys)
  (ht:P.underlying t=some (.array n e)) (hs:aj P (sizeOf e)=some sz):∀a w,Rep N fr a->(execOp a.eval o).run P w=.ok (.value (.slice (some ⟨b,k0,none⟩) ys.length n)) w:=by
 intro a w ha;have e1:=ha.look hx;have e4:=ha.look hz;obtain ⟨h0,h1,h2,_⟩:=aY hc;have hl:=iP hc;rw [hn] at h2;have h3:0<=q/\q<=(n:Int):=⟨by omega,h2⟩
 have e3:q.toNat=ys.length:=by simpa using hl.symm
 simp [execOp,ho,Instr.sliceAt,Instr.sliceBounds,Instr.sliceBound,Instr.sureAddr,run_underlying ht,e1,e4,asIntOf,h3,qV hs,e3,Addr.add]
def FM(x y c:Int):Option (Int×Int):=if 0<=x/\0<=y/\0<=c/\c<=1 then some ((x+y+c)%18446744073709551616,(x+y+c) / 18446744073709551616) else none
theorem Hk{o:Oper}{ats:List Nat}{f:FuncId}{fn:Func}{p c u v:Int}(ho:o.op=.call ⟨.value (.func f),[x,y,z].toArray,ats.toArray⟩)(hx:look fr x=some (.int .u64 p))(hy:look fr y=some (.int .u64 q))(hz:look fr z=some (.int .u64 c))
  (hf:P.funcs[f]? =some fn) (h1:(fn.name== "runtime.NumGoroutine")=false) (h2:fn.body.isNone=true) (h3:Extern.findNext fn=none) (h4:Extern.find fn=some add64Entry) (h:FM p q c=some (u,v)):
  ∀a w,Rep N fr a->(execOp a.eval o).run P w=.ok (.value (.tuple [.int .u64 u,.int .u64 v].toArray)) w:=by
 intro a w ha;have e1:=ha.look hx;have e2:=ha.look hy;have e3:=ha.look hz;unfold FM at h;split at h
 ·rename_i hc
  cases h
  have:=run_add64 (P:=P) p q c hc.1 hc.2.1 hc.2.2.1 hc.2.2.2 w;have h5:=run_callFunc_extern (P:=P) hf h1 h2 h3 h4 #[.int .u64 p,.int .u64 q,.int .u64 c] w;rw [this] at h5;have e4:a.eval (.func f)=.func (.func f) #[] #[]:=rfl;simp [execOp,ho,resolve,Deferred.ofValue,invoke,e1,e2,e3,e4,h5,Result.andThen]
 ·cases h
def GW(it:Nat)(s:ByteArray)(p:Nat):Item where
 S:=[it]
 Φ w:=w.heap[it]? =some (.stringIter s p)
 loc w w' hb h:=by rw [hb it (by simp)];exact h
 lt w h b hb:=by
  rw [i6.1 hb];exact (w7.1 h).1
def AN(s:ByteArray)(p:Nat):Int:=((Utf8.decode s p).1:Int)
def nB(s:ByteArray)(p:Nat):Nat:=p+(Utf8.decode s p).2
theorem OW.srange{d:Nat}{t:TypeId}{af:Array Edge}{s:ByteArray}(hst:St w0 S0 w L)
  (hl:vk l i=some ⟨some d,.range t x,ty,pos,af,gdd⟩) (hg:gd l fr ⟨some d,.range t x,ty,pos,af,gdd⟩=some true) (hN:Nat.blt d N=true) (hx:look fr x=some (.string s)) (ht:P.underlying t=some .string)
  (h:∀it w',St w0 S0 w' (L++[GW it s 0])->OW P l N Q (i+1) ((d,.pointer (some ⟨it,0,none⟩))::fr) w'):OW P l N Q i fr w:=by
 refine j6 hl hg rfl hN (w':=w.iter s 0) (λa ha=> ?_) (h w.heap.size _ ?_)
 ·have:=run_range_string (P:=P) w t s ht;simp [execOp,ha.look hx,this]
 ·refine hst.push (Chg.alloc _ _) (World.iter_heap w s 0) (λb hb=> ?_) (by simp [GW]);rw [i6.1 hb];exact l6 _
theorem OW.snext{d:Nat}{af:Array Edge}{s:ByteArray}{it p:Nat}(hst:St w0 S0 w L)(j:Nat)(hj:L[j]? =some (GW it s p))
  (hl:vk l i=some ⟨some d,.next x true,ty,pos,af,gdd⟩) (hg:gd l fr ⟨some d,.next x true,ty,pos,af,gdd⟩=some true) (hN:Nat.blt d N=true) (hx:look fr x=some (.pointer (some ⟨it,0,none⟩)))
  (h1:decide (p<s.size)=true->∀w',St w0 S0 w' (L.set j (GW it s (nB s p)))->OW P l N Q (i+1) ((d,.tuple [.bool true,.int .i64 (p:Int),.int .i32 (AN s p)].toArray)::fr) w')
  (h0:decide (p<s.size)=false->OW P l N Q (i+1) ((d,.tuple [.bool false].toArray)::fr) w):OW P l N Q i fr w:=by
 have hi:w.heap[it]? =some (.stringIter s p):=hst.all j _ hj;by_cases hp:p<s.size
 ·refine j6 hl hg rfl hN (w':={w with heap:=w.heap.setIfInBounds it (.stringIter s (nB s p))}) (λa ha=> ?_) (h1 (by simp [hp]) _ ?_)
  ·simp [execOp,ha.look hx,Instr.next,getObj,setObj,Sem.run,hi,hp,Result.andThen,goInt,AN,nB]
  ·refine hst.upd j hj ⟨rfl,rfl,rfl,by simp,λq _ hn=> ?_⟩ ?_ (λq hq=>.inl hq) (by simp [GW])
   ·grind [GW]
   ·show (w.heap.setIfInBounds it _)[it]? =_
    grind
 ·refine j6 hl hg rfl hN (w':=w) (λa ha=> ?_) (h0 (by simp [hp]));simp [execOp,ha.look hx,Instr.next,getObj,Sem.run,hi,hp,Result.andThen]
end
structure Bor (wb:World) (Sb:List Nat) (w:World) (S:List Nat):Prop where
 size:wb.heap.size<=w.heap.size
 same:∀b,b<wb.heap.size->b∉Sb->w.heap[b]? =wb.heap[b]?
 sub:∀b∈S,b∈Sb\/wb.heap.size<=b
theorem Bor.refl(w:World)(S:List Nat):Bor w S w S:=⟨l6 _,λ_ _ _=>rfl,λ_ h=>.inl h⟩
theorem Bor.on{w w0:World}{S0:List Nat}{L:List Item}(h:Bor wb Sb w0 S0)(hst:St w0 S0 w L)(ids:List Nat):Bor wb Sb w (fp (sel L ids)):=by
 have hc:=hst.chg;refine ⟨s9 h.size hc.size,λb hb hn=> ?_,λb hb=> ?_⟩
 ·rw [hc.block b (Nat.lt_of_lt_of_le hb h.size) (λhS=> ?_),h.same b hb hn];rcases h.sub b hS with h1|h1
  ·exact hn h1
  ·omega
 ·obtain ⟨j,it,hj,hbs⟩:=vw.1 hb;obtain ⟨k,_,hk⟩:=et hj;rcases xK hk with hk|rfl
  ·rcases hst.own k it hk b hbs with h1|h1
   ·exact h.sub b h1
   ·exact .inr (s9 h.size h1)
  ·cases hbs
theorem Rd.bor{w:World}{S:List Nat}(h:Rd wb Sb v enc sz xs)(hb:Bor wb Sb w S):Rd w S v enc sz xs:=h.far hb.same hb.sub
def Hl(wb:World)(Sb:List Nat)(enc:α->List Value)(sz:Nat):Rp (List α) where
 sz:=1
 own _ cs S xs:=∃v,cs=[v]/\S=[]/\Rd wb Sb v enc sz xs
 rd _ _ xs cs:=∃v,cs=[v]/\Rd wb Sb v enc sz xs
 len:=by rintro w cs S x ⟨v,rfl,_⟩;rfl
 loc:=by rintro w w' cs S x _ h;exact h
 lt:=by rintro w cs S x ⟨v,rfl,rfl,_⟩;simp
 nd:=by rintro w cs S x ⟨v,rfl,rfl,_⟩;exact l8
 see:=by rintro w cs S x F ⟨v,rfl,rfl,h⟩ _;exact ⟨v,rfl,h⟩
 rlen:=by rintro w F x cs ⟨v,rfl,_⟩;rfl
 Tn:=by rintro w w' F F' x cs _ _ h;exact h
theorem RdN.bor{R:Rp α}{w:World}{S:List Nat}(hp:0<R.sz)(h:RdN wb Sb v R.rd R.sz xs)(hb:Bor wb Sb w S):RdN w S v R.rd R.sz xs:=h.far hp hb.same hb.sub
theorem RdN.formB{R:Rp α}{w0:World}{S0:List Nat}(h:RdN wb Sb v R.rd R.sz xs)(hb:Bor wb Sb w0 S0){t:Int}{x:α}(hx:idx xs t=some x):
  ∃b o c cs,v=.slice (some ⟨b,o,none⟩) xs.length c/\R.rd wb Sb x cs/\∀f u,cs[f]? =some u->∀w' L',St w0 S0 w' L'->w'.cell? ⟨b,o+t.toNat*R.sz+f,none⟩=some u:=by
 obtain ⟨_,a,c,hv,_,hc⟩:=h;obtain ⟨_,_,h2⟩:=zU hx;obtain ⟨cs,hD,b,o,ha,hbn,hcell⟩:=hc _ x h2;refine ⟨b,o,c,cs,by rw [hv,ha],hD,λf u hu w' L' hst=> ?_⟩;have:=hcell f u hu;exact (World.cell?_of_block ((hb.on hst []).same b (lj this) hbn)).trans this
end
open Go.RowKit Go.Sort Go.Proofs
open Go.RowKit
variable {α:Type} {T:TypeId} {sz:Nat} {v:Value} {S:List Nat} {enc:α->List Value} {x:α}
section
variable {w0 w:World} {S0:List Nat} {L:List Item}
theorem St.burst2{A A':Item}{B:List Item}(h:St w0 S0 w L)(j:Nat)(hj:L[j]? =some A)(hB:ak w A.S (A'::B)):St w0 S0 w (L.set j A'++B):=by
 have hlt:j<L.length:=(zes.1 hj).1;have h1:=h.burst j hj hB;have e:(L.set j nilI++A'::B)=(L.set j nilI++[A'])++B:=by simp
 rw [e] at h1
 have g:∀(m:Nat)(it:Item),(L.set j A'++B)[m]? =some it->∃m',((L.set j nilI++[A'])++B)[m']? =some it/\(m=j/\m'=L.length\/m≠j/\m<L.length/\m'=m\/L.length<=m/\m'=m+1):=by
  intro m it hm;rcases aX hm with ⟨l1,h2⟩|⟨l1,h2⟩
  ·rw [j7] at l1;rcases vA h2 with ⟨rfl,rfl⟩|⟨hne,h2⟩
   ·grind
   ·exact ⟨m,by grind,.inr (.inl ⟨hne,l1,rfl⟩)⟩
  grind
 refine h1.repart (λm it hm=> ?_) (λm n a b hmn hm hn=> ?_)
 ·obtain ⟨m',h2,_⟩:=g m it hm;exact ⟨h1.all m' it h2,h1.nd m' it h2,λx hx=>vw.2 ⟨m',it,h2,hx⟩⟩
 ·obtain ⟨m',h2,p2⟩:=g m a hm;obtain ⟨n',h3,p3⟩:=g n b hn;exact h1.apart m' n' a b (by omega) h2 h3
theorem fp3{L:List Item}{q:Nat}{it:Item}{ids:List Nat}{b:Nat}(i:Nat)(hi:ids[i]? =some q)(hq:L[q]? =some it)(hb:b∈it.S):b∈fp (sel L ids):=by
 refine vw.2 ⟨i,it,?_,hb⟩
 induction ids generalizing i with
 |nil=>simp at hi
 |cons a r ih=>
  grind [sel]
theorem St.openP0{he:∀x,(enc x).length=sz}(h:St w0 S0 w L)(j:Nat)(hj:L[j]? =some (itI (vC T (rL enc sz he)) [v] S x)):
  ∃b,v=.pointer (some ⟨b,0,none⟩)/\St w0 S0 w (L.set j (jT b T (enc x))):=by
 obtain ⟨b,cs',S',hv,rfl,hb,hh,rfl,rfl⟩:=h.all j _ hj;cases hv;exact ⟨b,rfl,h.turn j hj hh rfl⟩
theorem St.openQ0{he:∀x,(enc x).length=sz}{b:Nat}(h:St w0 S0 w L)(j:Nat)(hj:L[j]? =some (itI (vC T (rL enc sz he)) [.pointer (some ⟨b,0,none⟩)] S x)):
  St w0 S0 w (L.set j (jT b T (enc x))):=by
 obtain ⟨b2,hv,hst⟩:=h.openP0 j hj;cases hv;exact hst
theorem St.toRow1{ys:List α}{he:∀x,(enc x).length=sz}{hp:0<sz}(h:St w0 S0 w L)(j:Nat)(hj:L[j]? =some (itI (mU T enc sz he hp) [v] S ys)):St w0 S0 w (L.set j (qi v T enc sz ys)):=by
 obtain ⟨u,hu,hst⟩:=h.toRow j hj;cases hu;exact hst
theorem St.shutP0{he:∀x,(enc x).length=sz}{cs:List Value}{b:Nat}(h:St w0 S0 w L)(j:Nat)(hj:L[j]? =some (jT b T cs))(x:α)(hx:cs=enc x):
  St w0 S0 w (L.set j (itI (vC T (rL enc sz he)) [.pointer (some ⟨b,0,none⟩)] [b] x)):=by
 subst hx;exact h.turn j hj ⟨b,enc x,[],rfl,rfl,by simp,h.all j _ hj,rfl,rfl⟩ rfl
theorem sng{v:List Value}(h:v.length=1):∃u,v=[u]:=by
 cases v with
 |nil=>cases h
 |cons u r=>cases r with
  |nil=>exact ⟨u,rfl⟩
  |cons _ _=>simp at h
theorem Jg(h:St w0 S0 w L){ids:List Nat}(hd:zQ ids=true)(i j:Nat){p q:Nat}{A B:Item}(hij:i≠j)(hi:ids[i]? =some p)(hj:ids[j]? =some q)(hp:L[p]? =some A)(hq:L[q]? =some B):∀b∈A.S,b∉B.S:=
 h.apart p q A B (cj hd hij hi hj) hp hq
theorem Ao{a b:List Nat}(h:zQ (a++b)=true):zQ a=true:=by
 induction a with
 |nil=>rfl
 |cons x r ih=>
  simp only [y7,zQ] at h |-;split at h
  ·cases h
  ·rename_i hm
   have:mem? x r=false:=by
    cases hx:mem? x r with
    |false=>rfl
    |true=>rw [mem?_iff.2 (zal _ (mem?_iff.1 hx))] at hm;cases hm
   grind
end
section
variable {w0 w:World} {S0:List Nat} {L:List Item} {α:Type} {β1:Type} {β2:Type} {T:TypeId} {f:α->List Value->List Value} {sz:Nat} {hl:∀x vs,(f x vs).length=sz} {g:α->β1×β2} {A1:Rp β1} {A2:Rp β2}
theorem St.openP2{x:α}(h:St w0 S0 w L)(j:Nat)(hj:L[j]? =some (itI (vC T (qL f sz hl g (jp A1 A2))) [v] S x))(z1:A1.sz=1)(z2:A2.sz=1):
  ∃b v1 S1 v2 S2,v=.pointer (some ⟨b,0,none⟩)/\St w0 S0 w (L.set j (jT b T (f x [v1,v2]))++[itI A1 [v1] S1 (g x).1,itI A2 [v2] S2 (g x).2]):=by
 obtain ⟨b,cs',S',hv,rfl,hb,hh,vs,rfl,c1,d1,S1,R1,rfl,rfl,hd1,hown1,hown2⟩:=h.all j _ hj;cases hv;obtain ⟨v1,rfl⟩:=sng ((A1.len _ _ _ _ hown1).trans z1);obtain ⟨v2,rfl⟩:=sng ((A2.len _ _ _ _ hown2).trans z2);refine ⟨b,v1,S1,v2,R1,rfl,h.burst2 j hj ?_⟩;exact ak.cons hh (by simp [jT]) (λc hc=>by simp only [jT,i6] at hc;subst hc;exact zcs) (λc hc=>by simp only [jT,i6] at hc;subst hc;exact hb) (ak.cons hown1 (A1.nd _ _ _ _ hown1) (λb hb=>zal _ hb) hd1 (ak.cons hown2 (A2.nd _ _ _ _ hown2) (λb hb=>hb) (S2:=[]) (by simp) ak.nil (by simp)) (λb hb=>zar _ hb)) (λc hc=>zcm _ hc)
theorem St.openQ2{b:Nat}{x:α}(h:St w0 S0 w L)(j:Nat)(hj:L[j]? =some (itI (vC T (qL f sz hl g (jp A1 A2))) [.pointer (some ⟨b,0,none⟩)] S x))(z1:A1.sz=1)(z2:A2.sz=1):
  ∃v1 S1 v2 S2,St w0 S0 w (L.set j (jT b T (f x [v1,v2]))++[itI A1 [v1] S1 (g x).1,itI A2 [v2] S2 (g x).2]):=by
 obtain ⟨b2,v1,S1,v2,S2,hv,hst⟩:=h.openP2 j hj z1 z2
 grind
theorem St.shutP2{cs:List Value}{b:Nat}{v1:Value}{S1:List Nat}{y1:β1}{v2:Value}{S2:List Nat}{y2:β2}(h:St w0 S0 w L)(R:Rp α)(hR:R=qL f sz hl g (jp A1 A2))(j k1 k2:Nat)(rest:List Nat)(hd:zQ ([j,k1,k2]++rest)=true)(hj:L[j]? =some (jT b T cs))(h1:L[k1]? =some (itI A1 [v1] S1 y1))(h2:L[k2]? =some (itI A2 [v2] S2 y2))(x:α)(hx:cs=f x [v1,v2])(hg:g x=(y1,y2)):
  ∃S,St w0 S0 w (sel L rest++[itI (vC T R) [.pointer (some ⟨b,0,none⟩)] S x]):=by
 subst hR;subst hx;have hd1:=Ao hd;have o1:A1.own w [v1] S1 y1:=h.all k1 _ h1;have o2:A2.own w [v2] S2 y2:=h.all k2 _ h2
 have hown:(qL f sz hl g (jp A1 A2)).own w (f x [v1,v2]) (S1++S2) x:=by
  refine ⟨[v1,v2],rfl,?_⟩;rw [hg];refine ⟨[v1],[v2],S1,_,rfl,rfl,?_,o1,o2⟩
  ·intro b hb hb2;rcases hb2 with hb2
   ·exact Jg h hd1 1 2 (by decide) rfl rfl h1 h2 b hb hb2
 have hbn:b∉(S1++S2):=by
  intro hb;simp only [i5] at hb;rcases hb with hb|hb
  ·exact Jg h hd1 0 1 (by decide) rfl rfl hj h1 b (by simp [jT]) hb
  ·exact Jg h hd1 0 2 (by decide) rfl rfl hj h2 b (by simp [jT]) hb
 have hh:w.heap[b]? =some (.cells (f x [v1,v2]).toArray T (0,0)):=h.all j _ hj;have hp:(vC T (qL f sz hl g (jp A1 A2))).own w [.pointer (some ⟨b,0,none⟩)] (b::(S1++S2)) x:=⟨b,_,_,rfl,rfl,hbn,hh,hown⟩
 refine ⟨_,h.gather [j,k1,k2] rest hd (C:=itI (vC T (qL f sz hl g (jp A1 A2))) _ _ x) hp ((vC T (qL f sz hl g (jp A1 A2))).nd _ _ _ _ hp) (λc hc=> ?_)⟩;rcases j5.1 hc with rfl|hc
 ·exact fp3 0 rfl hj (by simp [jT])
 ·have hc:c∈S1++S2:=hc;simp only [i5] at hc;rcases hc with hc|hc
  ·exact fp3 1 rfl h1 hc
  ·exact fp3 2 rfl h2 hc
end
end
open Go.RowKit
def Qh{α β γ:Type}(A:Rp α)(B:Rp β)(C:Value->Rp γ)(n:Nat)(hn:∀v,(C v).sz=n):Rp (α×(β×γ)) where
 sz:=A.sz+(B.sz+n)
 own w cs S p:=∃v1,(jp A (jp B (C v1))).own w cs S p/\cs[0]? =some v1
 rd w F p cs:=∃v1,(jp A (jp B (C v1))).rd w F p cs/\cs[0]? =some v1
 len:=by
  rintro w cs S x ⟨v1,h,_⟩;have:=(jp A (jp B (C v1))).len _ _ _ _ h;rw [this];show A.sz+(B.sz+(C v1).sz)=_;rw [hn]
 loc:=by
  rintro w w' cs S x hb ⟨v1,h,e⟩;exact ⟨v1,(jp A (jp B (C v1))).loc w w' _ _ _ hb h,e⟩
 lt:=by
  rintro w cs S x ⟨v1,h,_⟩;exact (jp A (jp B (C v1))).lt _ _ _ _ h
 nd:=by
  rintro w cs S x ⟨v1,h,_⟩;exact (jp A (jp B (C v1))).nd _ _ _ _ h
 see:=by
  rintro w cs S x F ⟨v1,h,e⟩ hF;exact ⟨v1,(jp A (jp B (C v1))).see _ _ _ _ F h hF,e⟩
 rlen:=by
  rintro w F x cs ⟨v1,h,_⟩;have:=(jp A (jp B (C v1))).rlen _ _ _ _ h;rw [this];show A.sz+(B.sz+(C v1).sz)=_;rw [hn]
 Tn:=by
  rintro w w' F F' x cs k1 k2 ⟨v1,h,e⟩;exact ⟨v1,(jp A (jp B (C v1))).Tn w w' F F' _ _ k1 k2 h,e⟩
open Go.RowKit
def Kf{α:Type}(T:TypeId)(enc:α->List Value):Rp (Option α) where
 sz:=1
 own w cs S o:=match o with
  |none=>cs=[.pointer none]/\S=[]
  |some x=>∃b A C,cs=[.pointer (some ⟨b,A.length,none⟩)]/\S=[b]/\w.heap[b]? =some (.cells (A++(enc x++C)).toArray T (0,0))
 rd w F o cs:=match o with
  |none=>cs=[.pointer none]
  |some x=>∃b A C,cs=[.pointer (some ⟨b,A.length,none⟩)]/\b∉F/\w.heap[b]? =some (.cells (A++(enc x++C)).toArray T (0,0))
 len:=by
  rintro w cs S (_|x) h
  ·rw [h.1];rfl
  ·obtain ⟨b,A,C,rfl,_⟩:=h;rfl
 loc:=by
  rintro w w' cs S (_|x) hb h
  ·exact h
  ·obtain ⟨b,A,C,rfl,rfl,h⟩:=h;exact ⟨b,A,C,rfl,rfl,by rw [hb b (by simp)];exact h⟩
 lt:=by
  rintro w cs S (_|x) h
  ·rw [h.2];simp
  ·obtain ⟨b,A,C,rfl,rfl,h⟩:=h;intro c hc;simp only [i6] at hc;subst hc;exact (w7.1 h).1
 nd:=by
  rintro w cs S (_|x) h
  ·rw [h.2];exact l8
  ·obtain ⟨b,A,C,rfl,rfl,h⟩:=h;simp
 see:=by
  rintro w cs S (_|x) F h hF
  ·exact h.1
  ·obtain ⟨b,A,C,rfl,rfl,h⟩:=h;exact ⟨b,A,C,rfl,hF b (by simp),h⟩
 rlen:=by
  rintro w F (_|x) cs h
  ·rw [show cs=[.pointer none] from h];rfl
  ·obtain ⟨b,A,C,rfl,_⟩:=h;rfl
 Tn:=by
  rintro w w' F F' (_|x) cs h1 h2 h
  ·exact h
  ·obtain ⟨b,A,C,rfl,hb,h⟩:=h;have hlt:=(w7.1 h).1;refine ⟨b,A,C,rfl,λhf=> ?_,by rw [h1 b hlt hb];exact h⟩
   rcases h2 b hf with h3|h3
   ·exact hb h3
   ·omega
variable {α:Type} {T:TypeId} {sz:Nat} {β:Type} {enc:α->List Value} {hp:0<sz} {A:Rp α} {A':World->List Nat->Rp α}
def uq(T:TypeId)(enc:α->List Value)(sz:Nat)(he:∀x,(enc x).length=sz)(hp:0<sz):Rp (List α) where
 sz:=1
 own w cs S xs:=∃v,cs=[v]/\S.Nodup/\(∀b∈S,b<w.heap.size)/\∀w' F,(∀b∈S,w'.heap[b]? =w.heap[b]?)->(∀b∈S,b∉F)->Rd w' F v enc sz xs
 rd w F xs cs:=∃v,cs=[v]/\Rd w F v enc sz xs
 len:=by rintro w cs S x ⟨v,rfl,_⟩;rfl
 loc:=by
  rintro w w' cs S x h ⟨v,rfl,hn,hl,hr⟩;refine ⟨v,rfl,hn,λb hb=> ?_,λw2 F h2 hF=>hr w2 F (λb hb=>(h2 b hb).trans (h b hb)) hF⟩;have:=h b hb;rw [RL (hl b hb)] at this;exact (w7.1 this).1
 lt:=by rintro w cs S x ⟨v,rfl,_,hl,_⟩;exact hl
 nd:=by rintro w cs S x ⟨v,rfl,hn,_⟩;exact hn
 see:=by rintro w cs S x F ⟨v,rfl,_,_,hr⟩ hF;exact ⟨v,rfl,hr w F (λ_ _=>rfl) hF⟩
 rlen:=by rintro w F x cs ⟨v,rfl,_⟩;rfl
 Tn:=by rintro w w' F F' x cs h1 h2 ⟨v,rfl,h⟩;exact ⟨v,rfl,h.far h1 h2⟩
theorem EI{he:∀x,(enc x).length=sz}{w:World}{v:Value}{xs:List α}(h:dJ w T sz v xs.length (jQ enc xs)):(uq T enc sz he hp).own w [v] (cY v).toList xs:=
 ⟨v,rfl,cI,h.lt,λw' F h1 hF=>kG he (h.loc h1) hF⟩
def L8(α:Type):Rp (List α) where
 sz:=1
 own _ cs S xs:=S=[]/\∃a c,cs=[.slice a xs.length c]
 rd _ _ xs cs:=∃a c,cs=[.slice a xs.length c]
 len:=by rintro w cs S x ⟨_,a,c,rfl⟩;rfl
 loc:=by rintro w w' cs S x _ h;exact h
 lt:=by rintro w cs S x ⟨rfl,_⟩;simp
 nd:=by rintro w cs S x ⟨rfl,_⟩;exact l8
 see:=by rintro w cs S x F ⟨_,h⟩ _;exact h
 rlen:=by rintro w F x cs ⟨a,c,rfl⟩;rfl
 Tn:=by rintro w w' F F' x cs _ _ h;exact h
def M3{γ:Type}(G:Rp γ)(R:Value->Rp β)(n:Nat)(hn:∀v,(R v).sz=n):Rp (γ×β) where
 sz:=n
 own w cs S p:=∃u S1 S2,S=S1++S2/\(∀b∈S1,b∉S2)/\G.own w [u] S1 p.1/\(R u).own w cs S2 p.2
 rd w F p cs:=∃u,G.rd w F p.1 [u]/\(R u).rd w F p.2 cs
 len:=by rintro w cs S x ⟨u,S1,S2,rfl,_,_,h⟩;rw [(R u).len _ _ _ _ h,hn]
 loc:=by
  rintro w w' cs S x h ⟨u,S1,S2,rfl,hd,h1,h2⟩;exact ⟨u,S1,S2,rfl,hd,G.loc w w' _ _ _ (λb hb=>h b (zal _ hb)) h1,(R u).loc w w' _ _ _ (λb hb=>h b (zar _ hb)) h2⟩
 lt:=by
  rintro w cs S x ⟨u,S1,S2,rfl,hd,h1,h2⟩ b hb;rcases i5.1 hb with hb|hb
  ·exact G.lt _ _ _ _ h1 b hb
  ·exact (R u).lt _ _ _ _ h2 b hb
 nd:=by
  rintro w cs S x ⟨u,S1,S2,rfl,hd,h1,h2⟩;exact k7.2 ⟨G.nd _ _ _ _ h1,(R u).nd _ _ _ _ h2,λa ha b hb e=>by subst e;exact hd a ha hb⟩
 see:=by
  rintro w cs S x F ⟨u,S1,S2,rfl,hd,h1,h2⟩ hF;exact ⟨u,G.see _ _ _ _ F h1 (λb hb=>hF b (zal _ hb)),(R u).see _ _ _ _ F h2 (λb hb=>hF b (zar _ hb))⟩
 rlen:=by rintro w F x cs ⟨u,_,h⟩;rw [(R u).rlen _ _ _ _ h,hn]
 Tn:=by
  rintro w w' F F' x cs k1 k2 ⟨u,h1,h2⟩;exact ⟨u,G.Tn w w' F F' _ _ k1 k2 h1,(R u).Tn w w' F F' _ _ k1 k2 h2⟩
def coS(wb:World)(Sp:List Nat):List Nat:=(List.range wb.heap.size).filter λb=> !Sp.contains b
theorem Db{wb:World}{Sp:List Nat}{b:Nat}:b∈coS wb Sp↔b<wb.heap.size/\b∉Sp:=by simp [coS]
def rC(wb:World)(Sp:List Nat):Item where
 S:=Sp
 Φ w:=(∀b∈Sp,b<wb.heap.size/\w.heap[b]? =wb.heap[b]?)/\(wb.heap.size=0\/wb.heap.size-1∈Sp)
 loc w w' h hb:=⟨λb hm=>⟨(hb.1 b hm).1,(h b hm).trans (hb.1 b hm).2⟩,hb.2⟩
 lt w h b hm:=by
  obtain ⟨h1,h2⟩:=h.1 b hm;rw [RL h1] at h2;exact (w7.1 h2).1
theorem St.pool{w0 w wb:World}{S0 Sp:List Nat}{L:List Item}(h:St w0 S0 w L)(j:Nat)(hj:L[j]? =some (rC wb Sp))(ids:List Nat)(hm:mem? j ids=false):Bor wb (coS wb Sp) w (fp (sel L ids)):=by
 have hp:=h.all j _ hj;refine ⟨?_,λb hb hn=> ?_,λb hb=> ?_⟩
 ·grind [rC]
 ·have:b∈Sp:=Classical.byContradiction λhc=>hn (Db.2 ⟨hb,hc⟩)
  exact (hp.1 b this).2
 ·obtain ⟨i,it,hi,hbs⟩:=vw.1 hb;obtain ⟨k,hk0,hk⟩:=et hi;rcases xK hk with hk|rfl
  ·by_cases hlt:b<wb.heap.size
   ·refine .inl (Db.2 ⟨hlt,λhc=> ?_⟩)
    have hne:k≠j:=by
     rintro rfl;have hin:k∈ids:=zmg hk0;exact absurd hm (by rw [mem?_iff.2 hin];simp)
    exact h.apart k j _ _ hne hk hj b hbs hc
   grind
  ·cases hbs
def rdP(R:Rp α)(wb:World)(F:List Nat):Rp α where
 sz:=R.sz
 own _ cs S x:=S=[]/\R.rd wb F x cs
 rd _ _ x cs:=R.rd wb F x cs
 len:=by rintro w cs S x ⟨_,h⟩;exact R.rlen _ _ _ _ h
 loc:=by rintro w w' cs S x _ h;exact h
 lt:=by rintro w cs S x ⟨rfl,_⟩;simp
 nd:=by rintro w cs S x ⟨rfl,_⟩;exact l8
 see:=by rintro w cs S x F ⟨_,h⟩ _;exact h
 rlen:=by rintro w F x cs h;exact R.rlen _ _ _ _ h
 Tn:=by rintro w w' F F' x cs _ _ h;exact h
structure Cv {α:Type} (A:Rp α) (B:World->List Nat->Rp α):Prop where
 sz:∀wb F,(B wb F).sz=A.sz
 cv:∀w cs S x,A.own w cs S x->∃Sp So,S.Perm (Sp++So)/\∀wb F,(∀b∈Sp,wb.heap[b]? =w.heap[b]? /\b∉F)->(B wb F).own w cs So x
theorem Cv.refl{α:Type}(A:Rp α):Cv A (λ_ _=>A):=⟨λ_ _=>rfl,λw cs S x h=>⟨[],S,List.Perm.refl _,λ_ _ _=>h⟩⟩
theorem Cv.bor(A:Rp α):Cv A (λwb F=>rdP A wb F):=⟨λ_ _=>rfl,λw cs S x h=>⟨S,[],by simp,λwb F hb=>
 ⟨rfl,A.see _ _ _ _ F (A.loc w wb cs S x (λb hs=>(hb b hs).1) h) (λb hs=>(hb b hs).2)⟩⟩⟩
theorem Cv.row{he:∀x,(enc x).length=sz}:Cv (mU T enc sz he hp) (λwb F=>Hl wb F enc sz):=⟨λ_ _=>rfl,λw cs S x h=>
 ⟨S,[],by simp,λwb F hb=>by
  have h1:=(mU T enc sz he hp).loc w wb cs S x (λb hs=>(hb b hs).1) h;obtain ⟨v,rfl,hr⟩:=(mU T enc sz he hp).see _ _ _ _ F h1 (λb hs=>(hb b hs).2);exact ⟨v,rfl,rfl,hr⟩⟩⟩
theorem Cv.rowF{he:∀x,(enc x).length=sz}:Cv (uq T enc sz he hp) (λwb F=>Hl wb F enc sz):=⟨λ_ _=>rfl,λw cs S x h=>
 ⟨S,[],by simp,λwb F hb=>by
  have h1:=(uq T enc sz he hp).loc w wb cs S x (λb hs=>(hb b hs).1) h;obtain ⟨v,rfl,hr⟩:=(uq T enc sz he hp).see _ _ _ _ F h1 (λb hs=>(hb b hs).2);exact ⟨v,rfl,rfl,hr⟩⟩⟩
theorem Cv.pair{B:Rp β}{B':World->List Nat->Rp β}(h1:Cv A A')(h2:Cv B B'):Cv (jp A B) (λwb F=>jp (A' wb F) (B' wb F)):=
 ⟨λwb F=>by show (A' wb F).sz+(B' wb F).sz=A.sz+B.sz;rw [h1.sz,h2.sz],λw cs S x h=>by
  obtain ⟨c1,c2,S1,S2,rfl,rfl,hd,o1,o2⟩:=h;obtain ⟨P1,O1,p1,k1⟩:=h1.cv _ _ _ _ o1;obtain ⟨P2,O2,p2,k2⟩:=h2.cv _ _ _ _ o2;refine ⟨P1++P2,O1++O2,?_,λwb F hb=>⟨c1,c2,O1,O2,rfl,rfl,λb b1 b2=> ?_,k1 wb F (λb hm=>hb b (zal _ hm)),k2 wb F (λb hm=>hb b (zar _ hm))⟩⟩
  ·grind
  ·exact hd b (p1.mem_iff.2 (zar _ b1)) (p2.mem_iff.2 (zar _ b2))⟩
theorem x2:type_of% @Cv.pair:=Cv.pair
theorem Cv.gho{γ:Type}{G:Rp γ}{R:Value->Rp β}{R':World->List Nat->Value->Rp β}{n:Nat}{hn:∀v,(R v).sz=n}{hn':∀wb F v,(R' wb F v).sz=n}(h:∀v,Cv (R v) (λwb F=>R' wb F v)):
 Cv (M3 G R n hn) (λwb F=>M3 G (R' wb F) n (hn' wb F)):=⟨λwb F=>rfl,λw cs S x hx=>by
 obtain ⟨u,S1,S2,rfl,hd,o1,o2⟩:=hx;obtain ⟨P2,O2,p2,k2⟩:=(h u).cv _ _ _ _ o2;refine ⟨P2,S1++O2,?_,λwb F hb=>⟨u,S1,O2,rfl,λb b1 b2=>hd b b1 (p2.mem_iff.2 (zar _ b2)),o1,k2 wb F hb⟩⟩
 grind⟩
theorem Cv.struct{f:α->List Value->List Value}{hl:∀x vs,(f x vs).length=sz}{g:α->β}{A:Rp β}{A':World->List Nat->Rp β}(h:Cv A A'):Cv (qL f sz hl g A) (λwb F=>qL f sz hl g (A' wb F)):=
 ⟨λ_ _=>rfl,λw cs S x hx=>by
  obtain ⟨vs,rfl,o⟩:=hx;obtain ⟨P,O,p,k⟩:=h.cv _ _ _ _ o;exact ⟨P,O,p,λwb F hb=>⟨vs,rfl,k wb F hb⟩⟩⟩
theorem Cv.ptr(h:Cv A A'):Cv (vC T A) (λwb F=>vC T (A' wb F)):=
 ⟨λ_ _=>rfl,λw cs S x hx=>by
  obtain ⟨b,cs',S',rfl,rfl,hb,hh,o⟩:=hx;obtain ⟨P,O,p,k⟩:=h.cv _ _ _ _ o;exact ⟨P,b::O,(List.Perm.cons b p).trans List.perm_middle.symm,λwb F hb'=>⟨b,cs',O,rfl,rfl,λhc=>hb (p.mem_iff.2 (zar _ hc)),hh,k wb F hb'⟩⟩⟩
theorem Hz{α:Type}{A:Rp α}{A':World->List Nat->Rp α}(h:Cv A A')(w:World):∀(xs:List α)(css:List (List Value))(Ss:List (List Nat)),css.length=xs.length->Ss.length=xs.length->
  (∀(i:Nat) cs S x,css[i]? =some cs->Ss[i]? =some S->xs[i]? =some x->A.own w cs S x)->
  ∃Ps Os:List (List Nat),Os.length=xs.length/\Ss.flatten.Perm (Ps.flatten++Os.flatten)/\∀wb F,(∀b∈Ps.flatten,wb.heap[b]? =w.heap[b]? /\b∉F)->∀(i:Nat) cs S x,css[i]? =some cs->Os[i]? =some S->xs[i]? =some x->(A' wb F).own w cs S x
 | [], css, Ss, _, ls, _ => ⟨[], [], rfl, by
   cases Ss with
   |nil=>simp
   |cons=>simp at ls,λ_ _ _ i _ _ _ _ _ hx=>by simp at hx⟩
 |x::xs,c::css,S::Ss,lc,ls,ho=>by
  obtain ⟨P,O,p,k⟩:=h.cv w c S x (ho 0 c S x rfl rfl rfl);obtain ⟨Ps,Os,l,q,kk⟩:=Hz h w xs css Ss (by simpa using lc) (by simpa using ls) (λi cs S' y h1 h2 h3=>ho (i+1) cs S' y (by simpa using h1) (by simpa using h2) (by simpa using h3));refine ⟨P::Ps,O::Os,by simp [l],?_,λwb F hb i cs S' y h1 h2 h3=> ?_⟩
  ·simp only [yd];refine (p.append q).trans ?_;rw [w6,w6];refine List.Perm.append_left _ ?_;rw [<- w6,<- w6];exact List.Perm.append_right _ List.perm_append_comm
  ·cases i with
   |zero=>
    simp only [z8,g9] at h1 h2 h3;subst h1 h2 h3;exact k wb F (λb hm=>hb b (by simp only [yd,i5];exact .inl hm))
   |succ i=>exact kk wb F (λb hm=>hb b (by simp only [yd,i5];exact .inr hm)) i cs S' y (by simpa using h1) (by simpa using h2) (by simpa using h3)
 |_::_,[],_,lc,_,_=>by simp at lc
 |_::_,_::_,[],_,ls,_=>by simp at ls
theorem Cv.rowN{hp:0<A.sz}{hp':∀wb F,0<(A' wb F).sz}(h:Cv A A'):Cv (kH T A hp) (λwb F=>kH T (A' wb F) (hp' wb F)):=
 ⟨λ_ _=>rfl,λw cs S xs hx=>by
  obtain ⟨v,rfl,css,Ss,n⟩:=hx;obtain ⟨Ps,Os,l,q,k⟩:=Hz h w xs css Ss n.lc n.ls (λi cs S x h1 h2 h3=>n.own i cs S x (by simp) h1 h2 h3);have hn:=n.nd;rw [n.hS] at hn;obtain ⟨n1,n2,n3⟩:=k7.1 hn;have n4:=(q.nodup_iff.1 n2)
  refine ⟨Ps.flatten,(cY v).toList++Os.flatten,?_,λwb F hb=>⟨v,rfl,css,Os,?_⟩⟩
  ·rw [n.hS]
   grind
  ·refine ⟨by rw [h.sz];exact n.row,n.lc,l,rfl,?_,λ_ _ e=>(by cases e),λi cs S' x _ h2 h3 h4=>k wb F hb i cs S' x h2 h3 h4⟩
   grind⟩
theorem St.toPool{w0 w:World}{S0:List Nat}{L:List Item}{B:World->List Nat->Rp α}{cs:List Value}{S:List Nat}{x:α}(hc:Cv A B)(h:St w0 S0 w L)(j:Nat)(hj:L[j]? =some (itI A cs S x)):
  ∃wb Sp So,St w0 S0 w (L.set j (itI (B wb (coS wb Sp)) cs So x)++[rC wb Sp]):=by
 have ho:A.own w cs S x:=h.all j _ hj;obtain ⟨Sp,So,p,k⟩:=hc.cv _ _ _ _ ho;have hnd:(Sp++So).Nodup:=p.nodup_iff.1 (A.nd _ _ _ _ ho);obtain ⟨n1,n2,n3⟩:=k7.1 hnd;have hlt:∀b∈Sp,b<w.heap.size:=λb hb=>A.lt _ _ _ _ ho b (p.mem_iff.2 (zal _ hb))
 obtain ⟨N,hN,hN1,hN2⟩:∃N,N<=w.heap.size/\(∀b∈Sp,b<N)/\(N=0\/N-1∈Sp):=by
  clear p k hnd n1 n3
  induction Sp with
  |nil=>exact ⟨0,Nat.zero_le _,by simp,.inl rfl⟩
  |cons a r ih=>
   obtain ⟨N,h1,h2,h3⟩:=ih (λb hb=>hlt b (zcm _ hb));by_cases hle:N<=a
   ·have:=hlt a zcs;refine ⟨a+1,by omega,λb hb=> ?_,.inr (by simp)⟩
    grind
   grind
 have hsz:(w.heap.extract 0 N).size=N:=by simp;omega
 have hget:∀b,b<N->(w.heap.extract 0 N)[b]? =w.heap[b]? :=λb hb=>by
  grind
 refine ⟨{w with heap:=w.heap.extract 0 N},Sp,So,?_⟩;refine h.swap j hj (A':=itI (B {w with heap:=w.heap.extract 0 N} (coS {w with heap:=w.heap.extract 0 N} Sp)) cs So x) (B:=rC {w with heap:=w.heap.extract 0 N} Sp) ?_ n2 (λb hb=>p.mem_iff.2 (zar _ hb)) ?_ n1 (λb hb=>p.mem_iff.2 (zal _ hb)) ?_
 ·exact k _ _ (λb hb=>⟨hget b (hN1 b hb),λhc=>(Db.1 hc).2 hb⟩)
 ·refine ⟨λb hb=>⟨by grind,(hget b (hN1 b hb)).symm⟩,?_⟩
  grind
 ·intro b hb hb2
  first|exact n3 b hb2 b hb rfl|exact n3 b hb b hb2 rfl
end
open Go.RowKit
variable {α:Type} {A:Array MapEntry} {clock:Nat} {kd:IntKind} {j r c:Nat} {v:Value} {β:Type} {tk te ty:TypeId} {i:Nat} {S2:List Nat} {x y:Operand} {pos:String} {gdd:Option (Nat×Bool)} {R0:Rp β}
def jB{α:Type}:List (Int×α)->Int->Option α
 |[],_=>none
 |p::r,k=>if p.1==k then some p.2 else jB r k
def mput{α:Type}:List (Int×α)->Int->α->List (Int×α)
 |[],k,x=>[(k,x)]
 |p::r,k,x=>if p.1==k then (k,x)::r else p::mput r k x
def mdel{α:Type}:List (Int×α)->Int->List (Int×α)
 |[],_=>[]
 |p::r,k=>if p.1==k then r else p::mdel r k
def gp{α:Type}:List (Int×α)->Int->Option Nat
 |[],_=>none
 |p::r,k=>if p.1==k then some 0 else (gp r k).map (· +1)
def Lh(val:α->Value)(p:Int×α):Value×Value:=(.int .i64 p.1,val p.2)
structure nw {α:Type} (val:α->Value) (m:List (Int×α)) (A:List MapEntry) (clock:Nat):Prop where
 eq:A.map (λe=>(e.key,e.val))=m.map (Lh val)
 born:A.Pairwise (λa b=>a.born<b.born)
 lt:∀e∈A,e.born<clock
def CG(r:Nat)(val:α->Value)(m:List (Int×α)):Item where
 S:=[r]
 Φ w:=∃A clock,w.heap[r]? =some (.map A clock)/\nw val m A.toList clock
 loc w w' h hb:=by
  obtain ⟨A,c,h1,h2⟩:=hb;exact ⟨A,c,by rw [h r (by simp)];exact h1,h2⟩
 lt w h x hx:=by
  obtain ⟨A,c,h1,h2⟩:=h;simp only [i6] at hx;subst hx;exact (w7.1 h1).1
section
variable {α:Type} {val:α->Value}
theorem nw.cons{p:Int×α}{m:List (Int×α)}{A:List MapEntry}{clock:Nat}(h:nw val (p::m) A clock):∃e B,A=e::B/\e.key=.int .i64 p.1/\e.val=val p.2/\nw val m B clock:=by
 obtain ⟨h1,h2,h3⟩:=h;cases A with
 |nil=>simp at h1
 |cons e B=>
  simp only [yo,List.cons.injEq,Lh,o7] at h1;exact ⟨e,B,rfl,h1.1.1,h1.1.2,h1.2,(List.pairwise_cons.1 h2).2,λx hx=>h3 x (zcm _ hx)⟩
theorem nw.nil{A:List MapEntry}(h:nw val ([]:List (Int×α)) A clock):A=[]:=by
 have:=h.eq
 simpa using this
theorem Cc{k:Int}:∀{m:List (Int×α)} {A:List MapEntry} {clock i:Nat},nw val m A clock->Instr.findNow (.int kd) (.int .i64 k) A i=some ((gp m k).bind λj=>(jB m k).map λx=>(i+j,val x)):=by
 intro m
 induction m with
 |nil=>intro A clock i h;rw [h.nil];rfl
 |cons p m ih=>
  intro A clock i h;obtain ⟨e,B,rfl,h1,h2,h3⟩:=h.cons;unfold Instr.findNow;rw [h1];have hs:Instr.sameNow (.int kd) (.int .i64 k) (.int .i64 p.1)=some (k==p.1):=by simp [Instr.sameNow]
  rw [hs];by_cases e1:k=p.1
  ·grind [gp,jB]
  ·have e2:(k==p.1)=false:=by simpa using e1
   have e3:(p.1==k)=false:=by grind
   simp only [e2,gp,jB,e3,x3,zfe];rw [ih h3]
   congr 1
   cases gp m k with
   |none=>rfl
   |some j=>cases jB m k with
    |none=>rfl
    |some x=>simp;omega
theorem xn{m:List (Int×α)}{k:Int}:(gp m k=none↔jB m k=none):=by
 induction m with
 |nil=>simp [gp,jB]
 |cons p m ih=>
  unfold gp jB;split
  ·simp
  ·simp [ih]
theorem eC{m:List (Int×α)}{k:Int}{x:α}(h:jB m k=some x):∃j,gp m k=some j/\m[j]? =some (k,x):=by
 induction m with
 |nil=>cases h
 |cons p m ih=>
  unfold jB at h;unfold gp;split at h
  ·rename_i hp
   cases h
   refine ⟨0,by simp [hp],?_⟩
   grind
  grind
theorem hU{m:List (Int×α)}{k:Int}{x:α}(h:jB m k=none):mput m k x=m++[(k,x)]:=by
 induction m with
 |nil=>rfl
 |cons p m ih=>
  grind [jB,mput]
theorem mz{m:List (Int×α)}{k:Int}{x:α}(h:gp m k=some j):mput m k x=m.set j (k,x):=by
 induction m generalizing j with
 |nil=>cases h
 |cons p m ih=>
  unfold gp at h;unfold mput;split at h
  ·grind
  ·rename_i hp
   cases hq:gp m k with
   |none=>rw [hq] at h;cases h
   |some q=>
    grind
theorem tO{m:List (Int×α)}{k:Int}(h:gp m k=some j):mdel m k=m.eraseIdx j:=by
 induction m generalizing j with
 |nil=>cases h
 |cons p m ih=>
  unfold gp at h;unfold mdel;split at h
  ·grind
  ·rename_i hp
   cases hq:gp m k with
   |none=>rw [hq] at h;cases h
   |some q=>
    grind
theorem oY{m:List (Int×α)}{k:Int}(h:jB m k=none):mdel m k=m:=by
 induction m with
 |nil=>rfl
 |cons p m ih=>
  grind [jB,mdel]
theorem nw.len{m:List (Int×α)}{A:List MapEntry}(h:nw val m A clock):A.length=m.length:=by
 have:=congrArg List.length h.eq
 simpa using this
theorem nw.set{m:List (Int×α)}{A:List MapEntry}{clock j:Nat}{k:Int}{x:α}{e:MapEntry}(h:nw val m A clock)(he:A[j]? =some e):nw val (m.set j (k,x)) (A.set j {e with key:=.int .i64 k,val:=val x}) clock:=by
 refine ⟨?_,?_,λy hy=> ?_⟩
 ·rw [ye,ye,h.eq];rfl
 ·have hb:=h.born;rw [List.pairwise_iff_getElem] at hb |-
  grind
 ·rcases p9 hy with hy|rfl
  ·exact h.lt y hy
  ·exact h.lt e (zmg he)
theorem nw.push{m:List (Int×α)}{A:List MapEntry}{k:Int}{x:α}(h:nw val m A clock):nw val (m++[(k,x)]) (A++[{key:=.int .i64 k,val:=val x,born:=clock}]) (clock+1):=by
 refine ⟨by rw [u5,u5,h.eq];rfl,?_,λy hy=> ?_⟩
 ·refine List.pairwise_append.2 ⟨h.born,List.pairwise_singleton _ _,λa ha b hb=> ?_⟩;simp at hb;subst hb;exact h.lt a ha
 ·rcases i5.1 hy with hy|hy
  ·have:=h.lt y hy;omega
  grind
theorem mA{β γ:Type}{f:β->γ}:∀{l:List β} {j:Nat},(l.eraseIdx j).map f=(l.map f).eraseIdx j
 |[],_=>rfl
 |_::_,0=>rfl
 |x::r,j+1=>by simp only [List.eraseIdx_cons_succ,yo,mA]
theorem nw.erase{m:List (Int×α)}{A:List MapEntry}(h:nw val m A clock):nw val (m.eraseIdx j) (A.eraseIdx j) clock:=by
 refine ⟨by rw [mA,mA,h.eq],h.born.sublist (List.eraseIdx_sublist _ _),λy hy=>h.lt y (List.mem_of_mem_eraseIdx hy)⟩
end
section
variable {P:Program} {N:Nat} {fr:List (Nat×Value)} {w w0:World} {S0:List Nat} {L:List Item} {α:Type} {val:α->Value}
def GY(w:World)(b:Nat)(o:Obj):World:={w with heap:=w.heap.setIfInBounds b o}
theorem cL{P:Program}{w:World}(h:w.heap[r]? =some (.map A c)):(getObj r).run P w=.ok (.map A c) w:=by simp [getObj,Sem.run,h]
theorem aR{P:Program}{w:World}{b:Bool}{t:TypeId}(h:P.underlying t=some (.int kd)):(Instr.checkKey b 10000 t v).run P w=.ok () w:=by
 show (Instr.checkKey b (9999+1) t v).run P w=.ok () w;unfold Instr.checkKey;simp [run_underlying h]
theorem od{P:Program}{w:World}{t:TypeId}{k:Int}{m:List (Int×α)}(h:P.underlying t=some (.int kd))(he:nw val m A.toList clock):
  (Instr.findKey t (.int .i64 k) A.toList).run P w=.ok ((gp m k).bind λj=>(jB m k).map λx=>(j,val x)) w:=by
 unfold Instr.findKey;simp only [Sem.run_bind,run_underlying h,Result.andThen_ok,Cc (kd:=kd) (i:=0) he,x4,Sem.run_pure]
theorem Cd{n:Nat}{k:Int}:Instr.sameBits n (.int .i64 k) (.int .i64 k)=true:=by
 unfold Instr.sameBits;simp
theorem Ce{P:Program}{w:World}{k:Int}:(Instr.keyThatStays (.int .i64 k) (.int .i64 k)).run P w=.ok (.int .i64 k) w:=by
 unfold Instr.keyThatStays;rw [Cd];rfl
theorem mS{P:Program}{w:World}(h:w.heap[r]? =some (.map A c))(o':Obj):(setObj r o').run P w=.ok () (GY w r o'):=by
 simp [setObj,Sem.run,h,GY]
theorem Li{w:World}{o:Obj}:Chg [r] w (GY w r o):=
 ⟨rfl,rfl,rfl,by simp [GY],λk hk hn=>by
  grind [GY]⟩
theorem N8{w:World}{o o':Obj}(h:w.heap[r]? =some o):(GY w r o').heap[r]? =some o':=by
 grind [GY]
theorem St.setMap{m:List (Int×α)}{val':β->Value}{m':List (Int×β)}{A':Array MapEntry}{c':Nat}(hst:St w0 S0 w L)(j:Nat)(hj:L[j]? =some (CG r val m))(hA:w.heap[r]? =some (.map A c))(hE:nw val' m' A'.toList c'):
  St w0 S0 (GY w r (.map A' c')) (L.set j (CG r val' m')):=
 hst.upd j hj Li ⟨A',c',N8 hA,hE⟩ (λq hq=>.inl hq) (by simp [CG])
theorem Gs{m:List (Int×α)}{k:Int}{x:α}(hE:nw val m A.toList c)(hj:m[j]? =some (k,x)):∃e,A[j]? =some e/\e.key=.int .i64 k/\e.val=val x:=by
 have h1:(A.toList.map (λe=>(e.key,e.val)))[j]? =(m.map (Lh val))[j]? :=by rw [hE.eq]
 grind [Lh]
theorem D4{e:MapEntry}{f:MapEntry->MapEntry}(h:A[j]? =some e):(A.modify j f).toList=A.toList.set j (f e):=by
 apply m6
 grind
theorem wa{P:Program}{t:TypeId}{k:Int}{x:α}{m:List (Int×α)}(hst:St w0 S0 w L)(j:Nat)(hj:L[j]? =some (CG r val m))(ht:P.underlying t=some (.map tk te))(hk:P.underlying tk=some (.int kd)):
  ∃w',(Instr.mapUpdate t (.map (some r)) (.int .i64 k) (val x)).run P w=.ok () w'/\St w0 S0 w' (L.set j (CG r val (mput m k x))):=by
 obtain ⟨A,clock,hA,hE⟩:=hst.all j _ hj;have hf:=od (P:=P) (w:=w) (k:=k) hk hE;cases h:jB m k with
 |none=>
  rw [xn.2 h] at hf;refine ⟨GY w r (.map (A.push {key:=.int .i64 k,val:=val x,born:=clock}) (clock+1)),?_,?_⟩
  ·simp only [Instr.mapUpdate,Sem.run_bind,run_underlying ht,Result.andThen_ok,cL hA,aR hk,hf,Option.bind_none];rw [mS hA]
  ·rw [hU h];exact hst.setMap j hj hA (by rw [Array.toList_push];exact hE.push)
 |some y=>
  obtain ⟨q,h1,h2⟩:=eC h;rw [h1,h] at hf;obtain ⟨e,he,hek,hev⟩:=Gs hE h2;refine ⟨GY w r (.map (A.modify q λe=>{e with key:=.int .i64 k,val:=val x}) clock),?_,?_⟩
  ·simp only [Instr.mapUpdate,Sem.run_bind,run_underlying ht,Result.andThen_ok,cL hA,aR hk,hf,zbs,t5,he,Option.getD_some,hek,Ce];rw [mS hA]
  ·rw [mz h1];exact hst.setMap j hj hA (by rw [D4 he];exact hE.set (by grind))
theorem Gt{P:Program}{t:TypeId}{ats:Array TypeId}{k:Int}{m:List (Int×α)}(hst:St w0 S0 w L)(j:Nat)(hj:L[j]? =some (CG r val m))(h0:ats[0]? =some t)(ht:P.underlying t=some (.map tk te))(hk:P.underlying tk=some (.int kd)):
  ∃w',(Builtin.delete_ ats ty #[.map (some r),.int .i64 k]).run P w=.ok (.tuple #[]) w'/\St w0 S0 w' (L.set j (CG r val (mdel m k))):=by
 obtain ⟨A,clock,hA,hE⟩:=hst.all j _ hj;have hf:=od (P:=P) (w:=w) (k:=k) hk hE;cases h:jB m k with
 |none=>
  rw [xn.2 h] at hf;refine ⟨GY w r (.map A clock),?_,?_⟩
  ·simp [Builtin.delete_,h0,run_underlying ht,cL hA,aR hk,hf,mS hA]
  ·rw [oY h];exact hst.setMap j hj hA hE
 |some y=>
  obtain ⟨q,h1,h2⟩:=eC h;rw [h1,h] at hf;refine ⟨GY w r (.map (A.eraseIdxIfInBounds q) clock),?_,?_⟩
  ·simp [Builtin.delete_,h0,run_underlying ht,cL hA,aR hk,hf,mS hA]
  ·rw [tO h1];refine hst.setMap j hj hA ?_
   have hq:q<A.size:=by
    have:=(zes.1 h2).1;have:=hE.len;simp at this;omega
   have:(A.eraseIdxIfInBounds q).toList=A.toList.eraseIdx q:=by rw [Array.eraseIdxIfInBounds,dif_pos hq];simp
   rw [this];exact hE.erase
end
structure ny {α:Type} (w:World) (r:Nat) (R:Rp α) (S:List Nat) (m:List (Int×α)) (ho:Option (Int×Value)) (mv:List (Int×Value)) (Ss:List (List Nat)):Prop where
 map:∃A clock,w.heap[r]? =some (.map A clock)/\nw (λv:Value=>v) mv A.toList clock
 Tk:mv.map (·.1)=m.map (·.1)
 ls:Ss.length=m.length
 hS:S=r::Ss.flatten
 nd:S.Nodup
 out:∀(k:Int)(v:Value)(i:Nat),ho=some (k,v)->gp m k=some i->mv[i]? =some (k,v)/\Ss[i]? =some []
 own:∀(i:Nat)(q:Int×Value)(S':List Nat)(p:Int×α),(∀k u,ho=some (k,u)->gp m k≠some i)->mv[i]? =some q->Ss[i]? =some S'->m[i]? =some p->R.own w [q.2] S' p.2
theorem tP{a b:List (List β)}(h:a.Sublist b):a.flatten.Sublist b.flatten:=by
 induction h with
 |slnil=>exact List.Sublist.refl _
 |cons x _ ih=>exact ih.trans (List.sublist_append_right _ _)
 |cons_cons x _ ih=>exact List.Sublist.append (List.Sublist.refl _) ih
section
variable {α β:Type}
theorem cm{m:List (Int×α)}{n:List (Int×β)}(h:n.map (·.1)=m.map (·.1))(k:Int):gp n k=gp m k:=by
 induction m generalizing n with
 |nil=>simp at h;subst h;rfl
 |cons p m ih=>
  cases n with
  |nil=>cases h
  |cons q n=>
   grind [gp]
theorem tQ{m:List (Int×α)}{k:Int}(h:gp m k=some i):∃x,jB m k=some x/\m[i]? =some (k,x):=by
 cases hg:jB m k with
 |none=>rw [xn.2 hg] at h;cases h
 |some x=>
  grind [eC]
end
section
variable {α:Type} {w w':World} {r:Nat} {R:Rp α} {S:List Nat} {m:List (Int×α)} {ho:Option (Int×Value)} {mv:List (Int×Value)} {Ss:List (List Nat)}
theorem ny.len(h:ny w r R S m ho mv Ss):mv.length=m.length:=by
 have:=congrArg List.length h.Tk
 simpa using this
theorem ny.lt(h:ny w r R S m ho mv Ss):∀b∈S,b<w.heap.size:=by
 intro b hb;rw [h.hS] at hb;rcases j5.1 hb with rfl|hb
 ·obtain ⟨A,c,h1,_⟩:=h.map
  grind
 ·obtain ⟨S',hS',hb⟩:=k6.1 hb;obtain ⟨i,hi,rfl⟩:=t9.1 hS';have h1:i<mv.length:=by rw [h.len,<- h.ls];exact hi
  have h2:i<m.length:=by rw [<- h.ls];exact hi
  by_cases hq:∃k u,ho=some (k,u)/\gp m k=some i
  ·obtain ⟨k,u,hc,hp⟩:=hq;have:=(h.out k u i hc hp).2
   grind
  ·exact R.lt _ _ _ _ (h.own i _ _ _ (λk u hc hp=>hq ⟨k,u,hc,hp⟩) (zeg h1) (zeg hi) (zeg h2)) b hb
theorem ny.loc(h:ny w r R S m ho mv Ss)(hb:∀b∈S,w'.heap[b]? =w.heap[b]?):ny w' r R S m ho mv Ss:=by
 have hS:=h.hS;obtain ⟨A,c,h1,h2⟩:=h.map;refine ⟨⟨A,c,by grind,h2⟩,h.Tk,h.ls,h.hS,h.nd,h.out,λi q S' p g1 g2 g3 g4=>R.loc w w' _ S' _ (λb hbs=>hb b ?_) (h.own i q S' p g1 g2 g3 g4)⟩;rw [hS];exact zcm _ (k6.2 ⟨S',zmg g3,hbs⟩)
end
def mN(r:Nat)(R:Rp α)(S:List Nat)(m:List (Int×α))(ho:Option (Int×Value)):Item where
 S:=S
 Φ w:=∃mv Ss,ny w r R S m ho mv Ss
 loc w w' hb h:=by obtain ⟨mv,Ss,h⟩:=h;exact ⟨mv,Ss,h.loc hb⟩
 lt w h:=by obtain ⟨mv,Ss,h⟩:=h;exact h.lt
section
variable {α:Type} {w w':World} {r:Nat} {R:Rp α} {S:List Nat} {m:List (Int×α)} {ho:Option (Int×Value)} {mv:List (Int×Value)} {Ss:List (List Nat)}
theorem ny.take(h:ny w r R S m none mv Ss){k:Int}{x:α}(hx:jB m k=some x):
  ∃v S1 S2 Ss',jB mv k=some v/\R.own w [v] S2 x/\ny w r R S1 m (some (k,v)) mv Ss'/\(∀b∈S2,b∈S)/\(∀b∈S1,b∈S)/\∀b∈S1,b∉S2:=by
 obtain ⟨i,hp,hi⟩:=eC hx;have hl:=(zes.1 hi).1;obtain ⟨v,hv,hvi⟩:=tQ ((cm h.Tk k).trans hp);have a2:i<Ss.length:=by rw [h.ls];exact hl
 have hn:=h.nd;rw [h.hS] at hn;obtain ⟨n1,n2⟩:=r9.1 hn;have hown:=h.own i (k,v) Ss[i] (k,x) (λ_ _ e=>(by cases e)) hvi (zeg a2) hi
 have hsub:∀b∈(Ss.set i []).flatten,b∈Ss.flatten:=λb hb=>by
  rcases jU hb with hb|hb
  ·grind
  ·exact hb
 have n2':(Ss.set i []).flatten.Nodup:=aK n2 l8 (λ_ _ _ _ b hb=>absurd hb znm);refine ⟨v,r::(Ss.set i []).flatten,Ss[i],Ss.set i [],hv,hown,⟨h.map,h.Tk,by rw [j7];exact h.ls,rfl,?_,λk' v' i' e hp'=> ?_,λi' q S' p g1 g2 g3 g4=> ?_⟩,λb hb=> ?_,λb hb=> ?_,λb hb hb2=> ?_⟩
 ·grind
 ·grind
 ·rcases vA g3 with ⟨rfl,rfl⟩|⟨hne,g3⟩
  ·grind
  ·exact h.own i' q S' p (λ_ _ e=>(by cases e)) g2 g3 g4
 ·rw [h.hS];exact zcm _ (k6.2 ⟨Ss[i],ym a2,hb⟩)
 ·rw [h.hS]
  grind
 ·rcases j5.1 hb with rfl|hb
  ·exact n1 (k6.2 ⟨Ss[i],ym a2,hb2⟩)
  ·obtain ⟨S',hS',hb⟩:=k6.1 hb;obtain ⟨i',hi',rfl⟩:=t9.1 hS';rcases vA (zeg hi') with ⟨_,e⟩|⟨hne,hi2⟩
   ·grind
   ·exact oZ n2 hne hi2 (zeg a2) b hb hb2
theorem ny.give(h:ny w r R S m ho mv Ss){k:Int}{x:α}(hho:∀k' u,ho=some (k',u)->k'=k)(hp:gp m k=some i)(hx:R.own w' [v] S2 x)(hd:∀b∈S,b∉S2)
  (hw:∀b∈Ss.flatten,w'.heap[b]? =w.heap[b]?) (hm:∃A clock,w'.heap[r]? =some (.map A clock)/\nw (λv:Value=>v) (mv.set i (k,v)) A.toList clock):ny w' r R (r::(Ss.set i S2).flatten) (m.set i (k,x)) none (mv.set i (k,v)) (Ss.set i S2):=by
 have hn:=h.nd;rw [h.hS] at hn;obtain ⟨n1,n2⟩:=r9.1 hn;have hS:=h.hS;refine ⟨hm,by rw [ye,ye,h.Tk],by rw [j7,j7];exact h.ls,rfl,?_,λ_ _ _ e=>(by cases e),λi' q S' p _ g2 g3 g4=> ?_⟩
 ·refine r9.2 ⟨λhb=> ?_,aK n2 (R.nd _ _ _ _ hx) (λk T' _ hT b hb hb2=>hd b (by rw [hS];exact zcm _ (k6.2 ⟨T',zmg hT,hb2⟩)) hb)⟩
  rcases jU hb with hb|hb
  ·exact hd r (by rw [hS];exact zcs) hb
  ·exact n1 hb
 ·rcases vA g3 with ⟨rfl,rfl⟩|⟨hne,g3⟩
  ·rcases vA g2 with ⟨_,rfl⟩|⟨hne,_⟩
   ·rcases vA g4 with ⟨_,rfl⟩|⟨hne,_⟩
    ·exact hx
    ·exact absurd rfl hne
   ·exact absurd rfl hne
  ·rcases vA g2 with ⟨e,_⟩|⟨_,g2⟩
   ·exact absurd e hne
   ·rcases vA g4 with ⟨e,_⟩|⟨_,g4⟩
    ·exact absurd e hne
    ·refine R.loc w w' _ S' _ (λb hb=>hw b (k6.2 ⟨S',zmg g3,hb⟩)) (h.own i' q S' p (λk' u e hp'=> ?_) g2 g3 g4);rw [hho k' u e,hp] at hp';exact hne (j4 hp').symm
theorem ny.come(h:ny w r R S m ho mv Ss){k:Int}{x:α}(hho:∀k' u,ho=some (k',u)->k'=k)(hp:gp m k=none)(hx:R.own w' [v] S2 x)(hd:∀b∈S,b∉S2)
  (hw:∀b∈Ss.flatten,w'.heap[b]? =w.heap[b]?) (hm:∃A clock,w'.heap[r]? =some (.map A clock)/\nw (λv:Value=>v) (mv++[(k,v)]) A.toList clock):ny w' r R (r::(Ss++[S2]).flatten) (m++[(k,x)]) none (mv++[(k,v)]) (Ss++[S2]):=by
 have hn:=h.nd;rw [h.hS] at hn;obtain ⟨n1,n2⟩:=r9.1 hn;have hS:=h.hS;have hl:=h.len;have hls:=h.ls;refine ⟨hm,by rw [u5,u5,h.Tk];rfl,by simp [h.ls],rfl,?_,λ_ _ _ e=>(by cases e),λi' q S' p _ g2 g3 g4=> ?_⟩
 ·rw [yp];have e1:[S2].flatten=S2:=by simp
  rw [e1];refine r9.2 ⟨λhb=> ?_,k7.2 ⟨n2,R.nd _ _ _ _ hx,λa ha b hb e=>by grind⟩⟩
  grind
 ·rcases aX g2 with ⟨l1,g2⟩|⟨l1,g2⟩
  ·rcases aX g3 with ⟨l2,g3⟩|⟨l2,g3⟩
   ·rcases aX g4 with ⟨l3,g4⟩|⟨l3,g4⟩
    ·refine R.loc w w' _ S' _ (λb hb=>hw b (k6.2 ⟨S',zmg g3,hb⟩)) (h.own i' q S' p (λk' u e hp'=> ?_) g2 g3 g4)
     grind
    ·omega
   ·omega
  grind
theorem ny.strike(h:ny w r R S m none mv Ss){k:Int}(hp:gp m k=some i)(hw:∀b∈Ss.flatten,w'.heap[b]? =w.heap[b]?)(hm:∃A clock,w'.heap[r]? =some (.map A clock)/\nw (λv:Value=>v) (mv.eraseIdx i) A.toList clock):
  ny w' r R (r::(Ss.eraseIdx i).flatten) (m.eraseIdx i) none (mv.eraseIdx i) (Ss.eraseIdx i):=by
 have hn:=h.nd;rw [h.hS] at hn;obtain ⟨n1,n2⟩:=r9.1 hn;have hs:(Ss.eraseIdx i).flatten.Sublist Ss.flatten:=tP (List.eraseIdx_sublist _ _);have hl:=h.len;have hls:=h.ls;refine ⟨hm,by rw [mA,mA,h.Tk],?_,rfl,r9.2 ⟨λhb=>n1 (hs.subset hb),n2.sublist hs⟩,λ_ _ _ e=>(by cases e),λi' q S' p _ g2 g3 g4=> ?_⟩
 ·grind
 ·rw [List.getElem?_eraseIdx] at g2 g3 g4;split at g2
  ·rename_i hlt
   rw [d7 hlt] at g3 g4;exact R.loc w w' _ S' _ (λb hb=>hw b (k6.2 ⟨S',zmg g3,hb⟩)) (h.own i' q S' p (λ_ _ e=>(by cases e)) g2 g3 g4)
  ·rename_i hlt
   rw [d8 hlt] at g3 g4;exact R.loc w w' _ S' _ (λb hb=>hw b (k6.2 ⟨S',zmg g3,hb⟩)) (h.own (i'+1) q S' p (λ_ _ e=>(by cases e)) g2 g3 g4)
end
def ud{α:Type}(m:List (Int×α))(k:Int)(x:α):List (Int×α):=match gp m k with
 |none=>m
 |some i=>m.set i (k,x)
section
variable {P:Program} {N:Nat} {Q:Exit->Act->World->Prop} {fr fr':List (Nat×Value)} {w w0:World} {l:List Oper} {i:Nat} {o:Oper} {S0:List Nat} {L:List Item} {α:Type} {R:Rp α} {r:Nat} {S:List Nat} {m:List (Int×α)} {ho:Option (Int×Value)}
theorem ry{P:Program}{w:World}{t:TypeId}{k:Int}{mv:List (Int×Value)}(h:P.underlying t=some (.int kd))(he:nw (λv:Value=>v) mv A.toList clock):
 (Instr.findKey t (.int .i64 k) A.toList).run P w=.ok ((gp mv k).bind λj=>(jB mv k).map λx=>(j,x)) w:=od h he
theorem tU{m:List (Int×α)}{n:List (Int×β)}(h:n.map (·.1)=m.map (·.1))(k:Int):(jB n k).isSome=(jB m k).isSome:=by
 have:=cm h k;cases h1:jB n k with
 |none=>
  rw [xn.2 h1] at this;rw [xn.1 this.symm];rfl
 |some x=>
  obtain ⟨j,h2,_⟩:=eC h1;rw [h2] at this;obtain ⟨y,h3,_⟩:=tQ this.symm;rw [h3];rfl
theorem Cf{f:Option α->β}{k:Int}(hst:St w0 S0 w L)(j:Nat)(hj:L[j]? =some (mN r R S m none))(vz:Value)(hz:∀w,R0.own w [vz] [] (f none))(hR:∀w cs S x,R.own w cs S x->R0.own w cs S (f (some x)))(hR2:∀w cs S x,R0.own w cs S (f (some x))->R.own w cs S x):
  ∃v S1 S2 mv Ss,St w0 S0 w (L.set j (mN r R S1 m (some (k,v)))++[itI R0 [v] S2 (f (jB m k))])/\ny w r R S m none mv Ss/\(jB mv k).getD vz=v:=by
 obtain ⟨mv,Ss,hr⟩:=hst.all j _ hj;cases hg:jB m k with
 |none=>
  have hv:jB mv k=none:=by
   have:=tU hr.Tk k;rw [hg] at this;cases hv:jB mv k with
   |none=>rfl
   |some v=>rw [hv] at this;cases this
  refine ⟨vz,S,[],mv,Ss,?_,hr,by rw [hv];rfl⟩
  have hr':ny w r R S m (some (k,vz)) mv Ss:=⟨hr.map,hr.Tk,hr.ls,hr.hS,hr.nd,(λk' v' i e hp=>by
   simp only [g9,o7] at e;obtain ⟨rfl,rfl⟩:=e;rw [xn.2 hg] at hp;cases hp),λi q S' p _ g2 g3 g4=>hr.own i q S' p (λ_ _ e=>(by cases e)) g2 g3 g4⟩
  exact hst.swap j hj ⟨mv,Ss,hr'⟩ hr'.nd (λb hb=>hb) (hz w) l8 (λb hb=>absurd hb znm) (λb _ hb=>absurd hb znm)
 |some x=>
  obtain ⟨v,S1,S2,Ss',hv,hown,hr',h1,h2,h3⟩:=hr.take hg;exact ⟨v,S1,S2,mv,Ss,hst.swap j hj ⟨mv,Ss',hr'⟩ hr'.nd h2 (hR _ _ _ _ hown) (R.nd _ _ _ _ hown) h1 h3,hr,by rw [hv];rfl⟩
theorem OW.mlook(R0:Rp β)(f:Option α->β){d:Nat}{t:TypeId}{two:Bool}{af:Array Edge}(hst:St w0 S0 w L)(j:Nat)(hj:L[j]? =some (mN r R S m none))
  (hl:vk l i=some ⟨some d,.lookup t x y two,ty,pos,af,gdd⟩) (hg:gd l fr ⟨some d,.lookup t x y two,ty,pos,af,gdd⟩=some true) (hN:Nat.blt d N=true) (hx:look fr x=some (.map (some r))) {k:Int} (hy:look fr y=some (.int .i64 k))
  (ht:P.underlying t=some (.map tk te)) (hk:P.underlying tk=some (.int kd)) (vz:Value) (hzv:aj P (zeroValue te)=some vz) (hz:∀w,R0.own w [vz] [] (f none)) (hR:∀w cs S x,R.own w cs S x->R0.own w cs S (f (some x))) (hR2:∀w cs S x,R0.own w cs S (f (some x))->R.own w cs S x)
  (h:∀v S1 S2,St w0 S0 w (L.set j (mN r R S1 m (some (k,v)))++[itI R0 [v] S2 (f (jB m k))])->OW P l N Q (i+1) ((d,if two then .tuple #[v,.bool (jB m k).isSome] else v)::fr) w):OW P l N Q i fr w:=by
 obtain ⟨v,S1,S2,mv,Ss,hst2,hr,hv⟩:=Cf (k:=k) hst j hj vz hz hR hR2;obtain ⟨A,clock,hA,hE⟩:=hr.map;have hf:=ry (P:=P) (w:=w) (k:=k) hk hE;have hs:=tU hr.Tk k;refine j6 hl hg rfl hN (λa ha=> ?_) (h v S1 S2 hst2);have e1:=ha.look hx;have e2:=ha.look hy;cases hm:jB mv k with
 |none=>
  rw [xn.2 hm] at hf;rw [hm] at hs hv;subst hv;cases two<;>simp [execOp,Instr.lookup,run_underlying ht,e1,e2,cL hA,aR hk,hf,qV hzv,<- hs]
 |some u=>
  obtain ⟨i,hp,_⟩:=eC hm;rw [hp,hm] at hf;rw [hm] at hs hv;subst hv;cases two<;>simp [execOp,Instr.lookup,run_underlying ht,e1,e2,cL hA,aR hk,hf,<- hs]
theorem tV{m:List (Int×α)}{k:Int}{x:α}(h:jB m k=some x):ud m k x=m:=by
 obtain ⟨i,hp,hi⟩:=eC h;unfold ud;rw [hp];apply m6
 grind
theorem St.mback{f:Option α->β}(h:St w0 S0 w L)(q j:Nat)(hqj:Nat.beq q j=false){k:Int}{y:β}(hq:L[q]? =some (mN r R S m (some (k,v))))(hj:L[j]? =some (itI R0 [v] S2 y))(hR2:∀w cs S x,R0.own w cs S (f (some x))->R.own w cs S x)
  (z:α) (hy:(jB m k).isSome=true->y=f (some z)):∃S',St w0 S0 w ((L.set q (mN r R S' (ud m k z) none)).set j nilI):=by
 obtain ⟨mv,Ss,hr⟩:=h.all q _ hq;have hd:∀b∈S,b∉S2:=h.apart q j _ _ (p6 hqj) hq hj;have hown:R0.own w [v] S2 y:=h.all j _ hj;have hS:=hr.hS;cases hg:jB m k with
 |none=>
  have hp:=xn.2 hg;refine ⟨S,h.fuse q j hqj hq hj (C:=mN r R S (ud m k z) none) ?_ hr.nd (λb hb=>.inl hb)⟩;unfold ud;rw [hp];refine ⟨mv,Ss,hr.map,hr.Tk,hr.ls,hr.hS,hr.nd,λ_ _ _ e=>(by cases e),λi u S' p _ g2 g3 g4=>hr.own i u S' p (λk' u' e hp'=> ?_) g2 g3 g4⟩
  grind
 |some x=>
  obtain ⟨i,hp,hi⟩:=eC hg;obtain ⟨hvi,_⟩:=hr.out k v i rfl hp
  have hset:mv.set i (k,v)=mv:=by
   apply m6
   grind
  have hown':R.own w [v] S2 z:=hR2 _ _ _ _ (by grind);have:=hr.give (w':=w) (x:=z) (λk' u e=>by grind) hp hown' hd (λ_ _=>rfl) (by rw [hset];exact hr.map)
  refine ⟨_,h.fuse q j hqj hq hj (C:=mN r R (r::(Ss.set i S2).flatten) (ud m k z) none) ?_ this.nd (λb hb=> ?_)⟩
  ·unfold ud;rw [hp];exact ⟨_,_,this⟩
  ·rcases j5.1 hb with rfl|hb
   ·exact .inl (by show b∈S;rw [hS];exact zcs)
   ·rcases jU hb with hb|hb
    ·exact .inr hb
    ·exact .inl (by show b∈S;rw [hS];exact zcm _ hb)
theorem St.mback0{f:Option α->β}(h:St w0 S0 w L)(q j:Nat)(hqj:Nat.beq q j=false){k:Int}(hq:L[q]? =some (mN r R S m (some (k,v))))(hj:L[j]? =some (itI R0 [v] S2 (f (jB m k))))(hR2:∀w cs S x,R0.own w cs S (f (some x))->R.own w cs S x):
  ∃S',St w0 S0 w ((L.set q (mN r R S' m none)).set j nilI):=by
 cases hg:jB m k with
 |none=>
  obtain ⟨mv,Ss,hr⟩:=h.all q _ hq;have hp:=xn.2 hg;refine ⟨S,h.fuse q j hqj hq hj (C:=mN r R S m none) ?_ hr.nd (λb hb=>.inl hb)⟩;refine ⟨mv,Ss,hr.map,hr.Tk,hr.ls,hr.hS,hr.nd,λ_ _ _ e=>(by cases e),λi u S' p _ g2 g3 g4=>hr.own i u S' p (λk' u' e hp'=> ?_) g2 g3 g4⟩
  grind
 |some x=>
  obtain ⟨S',h2⟩:=h.mback (f:=f) q j hqj hq hj hR2 x (λ_=>by rw [hg])
  grind [tV]
theorem OW.mputN{t:TypeId}{z:Operand}{af:Array Edge}(hst:St w0 S0 w L)(q j:Nat)(hqj:Nat.beq q j=false){k:Int}{u:α}(hq:L[q]? =some (mN r R S m ho))(hho:∀k' u,ho=some (k',u)->k'=k)(hj:L[j]? =some (itI R [v] S2 u))
  (hl:vk l i=some ⟨none,.mapUpdate t x y z,ty,pos,af,gdd⟩) (hg:gd l fr ⟨none,.mapUpdate t x y z,ty,pos,af,gdd⟩=some true) (hx:look fr x=some (.map (some r))) (hy:look fr y=some (.int .i64 k)) (hz:look fr z=some v)
  (ht:P.underlying t=some (.map tk te)) (hk:P.underlying tk=some (.int kd)) (h:∀S' w',St w0 S0 w' ((L.set q (mN r R S' (Sx.mput m k u) none)).set j nilI)->OW P l N Q (i+1) fr w'):OW P l N Q i fr w:=by
 obtain ⟨mv,Ss,hr⟩:=hst.all q _ hq;have hd:∀b∈S,b∉S2:=hst.apart q j _ _ (p6 hqj) hq hj;have hown:R.own w [v] S2 u:=hst.all j _ hj;have hS:=hr.hS;have hn:=hr.nd;rw [hS] at hn;obtain ⟨n1,_⟩:=r9.1 hn
 have hI:St w [r] w [CG r (λv:Value=>v) mv]:=by
  refine ⟨w9 _ _,λn it hi=> ?_,λn it hi=> ?_,λn n' a b hne h1 h2=> ?_,λn it hi y hy=> ?_⟩
  ·cases n with
   |zero=>simp at hi;subst hi;exact hr.map
   |succ n=>simp at hi
  ·cases n with
   |zero=>simp at hi;subst hi;simp [CG]
   |succ n=>simp at hi
  ·cases n with
   |zero=>cases n' with
    |zero=>exact absurd rfl hne
    |succ n'=>simp at h2
   |succ n=>simp at h1
  ·cases n with
   |zero=>simp at hi;subst hi;exact .inl (by simpa [CG] using hy)
   |succ n=>simp at hi
 obtain ⟨w',hrun,hst'⟩:=wa (P:=P) (k:=k) (x:=v) hI 0 rfl ht hk;have hchg:Chg [r] w w':=hst'.chg;have hm':∃A clock,w'.heap[r]? =some (.map A clock)/\nw (λv:Value=>v) (Sx.mput mv k v) A.toList clock:=hst'.all 0 _ rfl;have hlt:=hr.lt;have hown':R.own w' [v] S2 u:=R.loc _ _ _ _ _ (λb hb=>hchg.block b (R.lt _ _ _ _ hown b hb) (by simp only [i6];rintro rfl;exact hd b (by rw [hS];exact zcs) hb)) hown
 have hw:∀b∈Ss.flatten,w'.heap[b]? =w.heap[b]? :=λb hb=>hchg.block b (hlt b (by rw [hS];exact zcm _ hb)) (by simp only [i6];rintro rfl;exact n1 hb)
 obtain ⟨Ss',mv',hfin,hsub⟩:∃Ss' mv',ny w' r R (r::List.flatten Ss') (Sx.mput m k u) none mv' Ss'/\∀b∈List.flatten Ss',b∈Ss.flatten\/b∈S2:=by
  cases hp:gp m k with
  |none=>
   have hp':gp mv k=none:=(cm hr.Tk k).trans hp;rw [hU (xn.1 hp')] at hm';rw [hU (xn.1 hp)];refine ⟨_,_,hr.come hho hp hown' hd hw hm',λb hb=> ?_⟩;rw [yp] at hb;rcases i5.1 hb with hb|hb
   ·exact .inl hb
   ·exact .inr (by simpa using hb)
  |some n=>
   have hp':gp mv k=some n:=(cm hr.Tk k).trans hp;rw [mz hp'] at hm';rw [mz hp];exact ⟨_,_,hr.give hho hp hown' hd hw hm',λb hb=>(jU hb).symm⟩
 refine OW.ops hl hg rfl (λa ha=> ?_) (h (r::List.flatten Ss') w' ?_)
 ·simp [execOp,ha.look hx,ha.look hy,ha.look hz,hrun]
 ·have hsub2:∀b∈r::List.flatten Ss',b∈S\/b∈S2:=λb hb=>by
   rcases j5.1 hb with rfl|hb
   ·exact .inl (by rw [hS];exact zcs)
   ·rcases hsub b hb with hb|hb
    ·exact .inl (by rw [hS];exact zcm _ hb)
    ·exact .inr hb
  let A:Item:=⟨r::List.flatten Ss',λw1=>∀b∈r::List.flatten Ss',b<w1.heap.size,λw1 w2 hb hh b hb2=>by
   have h1:=hh b hb2;have h2:=hb b hb2;rw [RL h1] at h2;exact (w7.1 h2).1,λw1 hh=>hh⟩
  have hA:St w0 S0 w ((L.set q A).set j nilI):=hst.fuse q j hqj hq hj (C:=A) (λb hb=>by
   rcases hsub2 b hb with hb|hb
   ·exact hlt b hb
   ·exact R.lt _ _ _ _ hown b hb) hfin.nd hsub2
  have hlq:q<L.length:=(zes.1 hq).1
  have hqA:((L.set q A).set j nilI)[q]? =some A:=by
   rw [z5 (λe=>p6 hqj e.symm),yh hlq]
  have:=hA.upd q hqA (it':=mN r R (r::List.flatten Ss') (Sx.mput m k u) none) (hchg.mono (λb hb=>by simp only [i6] at hb;subst hb;exact zcs)) ⟨_,_,hfin⟩ (λb hb=>.inl hb) hfin.nd
  rw [List.set_comm _ _ (λe=>p6 hqj e.symm),yr] at this;exact this
theorem OW.mdelN{t:TypeId}{ats:List Nat}{af:Array Edge}(hst:St w0 S0 w L)(j:Nat)(hj:L[j]? =some (mN r R S m none))
  (hl:vk l i=some ⟨none,.call ⟨.builtin .delete,[x,y].toArray,ats.toArray⟩,ty,pos,af,gdd⟩) (hg:gd l fr ⟨none,.call ⟨.builtin .delete,[x,y].toArray,ats.toArray⟩,ty,pos,af,gdd⟩=some true) (ha0:ats[0]? =some t)
  (hx:look fr x=some (.map (some r))) {k:Int} (hy:look fr y=some (.int .i64 k)) (ht:P.underlying t=some (.map tk te)) (hk:P.underlying tk=some (.int kd))
  (h:∀S' w',St w0 S0 w' (L.set j (mN r R S' (Sx.mdel m k) none))->OW P l N Q (i+1) fr w'):OW P l N Q i fr w:=by
 obtain ⟨mv,Ss,hr⟩:=hst.all j _ hj;have hS:=hr.hS;have hn:=hr.nd;rw [hS] at hn;obtain ⟨n1,n2⟩:=r9.1 hn
 have hI:St w [r] w [CG r (λv:Value=>v) mv]:=by
  refine ⟨w9 _ _,λn it hi=> ?_,λn it hi=> ?_,λn n' a b hne h1 h2=> ?_,λn it hi y hy=> ?_⟩
  ·cases n with
   |zero=>simp at hi;subst hi;exact hr.map
   |succ n=>simp at hi
  ·grind [CG]
  ·grind
  grind [CG]
 obtain ⟨w',hrun,hst'⟩:=Gt (P:=P) (ty:=ty) (ats:=ats.toArray) (k:=k) hI 0 rfl (by simpa using ha0) ht hk;have hchg:Chg [r] w w':=hst'.chg;have hm':∃A clock,w'.heap[r]? =some (.map A clock)/\nw (λv:Value=>v) (Sx.mdel mv k) A.toList clock:=hst'.all 0 _ rfl;have hlt:=hr.lt;have hw:∀b∈Ss.flatten,w'.heap[b]? =w.heap[b]? :=λb hb=>hchg.block b (hlt b (by grind)) (by grind)
 obtain ⟨Ss',mv',hfin,hsub⟩:∃Ss' mv',ny w' r R (r::List.flatten Ss') (Sx.mdel m k) none mv' Ss'/\∀b∈List.flatten Ss',b∈Ss.flatten:=by
  cases hp:gp m k with
  |none=>
   have hp':gp mv k=none:=(cm hr.Tk k).trans hp;rw [oY (xn.1 hp')] at hm';rw [oY (xn.1 hp)];refine ⟨Ss,mv,⟨hm',hr.Tk,hr.ls,rfl,by grind,λ_ _ _ e=>(by cases e),λi' q S' p _ g2 g3 g4=> ?_⟩,λb hb=>hb⟩;exact R.loc w w' _ S' _ (λb hb=>hw b (k6.2 ⟨S',zmg g3,hb⟩)) (hr.own i' q S' p (λ_ _ e=>(by cases e)) g2 g3 g4)
  |some n=>
   have hp':gp mv k=some n:=(cm hr.Tk k).trans hp;rw [tO hp'] at hm';rw [tO hp];exact ⟨_,_,hr.strike hp hw hm',λb hb=>(tP (List.eraseIdx_sublist _ _)).subset hb⟩
 refine OW.opn (v:=.tuple #[]) hl hg rfl (λa ha=> ?_) (h (r::List.flatten Ss') w' ?_)
 ·simp [execOp,resolve,invoke,builtin,ha.look hx,ha.look hy,hrun]
 ·exact hst.upd j hj (it':=mN r R (r::List.flatten Ss') (Sx.mdel m k) none) (hchg.mono (λb hb=>by grind [mN])) ⟨_,_,hfin⟩ (λb hb=>.inl (by
   grind [mN])) hfin.nd
theorem OW.mnewN{d:Nat}{t:TypeId}{af:Array Edge}(R:Rp α)(hst:St w0 S0 w L)(hl:vk l i=some ⟨some d,.makeMap t none,ty,pos,af,gdd⟩)(hg:gd l fr ⟨some d,.makeMap t none,ty,pos,af,gdd⟩=some true)(hN:Nat.blt d N=true)
  (h:∀r w',St w0 S0 w' (L++[mN r R [r] [] none])->OW P l N Q (i+1) ((d,.map (some r))::fr) w'):OW P l N Q i fr w:=by
 refine j6 hl hg rfl hN (w':=w.alloc (.map #[] 0)) (λa _=> ?_) (h w.heap.size _ ?_)
 ·simp [execOp,Instr.makeMap,newObj,Sem.run]
 ·exact hst.push (Chg.alloc _ _) ⟨[],[],⟨#[],0,heap_alloc_new _ _,⟨rfl,List.Pairwise.nil,by simp⟩⟩,rfl,rfl,rfl,by simp,λ_ _ _ e=>(by cases e),λi q S' p _ g=>by simp at g⟩ (λb hb=>by grind [mN]) (by simp [mN])
end
def Jc(R:Rp α):Rp (List (Int×α)) where
 sz:=1
 own w cs S m:=∃r,cs=[.map (some r)]/\∃mv Ss,ny w r R S m none mv Ss
 rd w F m cs:=True/\cs.length=1
 len:=by rintro w cs S m ⟨r,rfl,_⟩;rfl
 loc:=by rintro w w' cs S m hb ⟨r,rfl,mv,Ss,h⟩;exact ⟨r,rfl,mv,Ss,h.loc hb⟩
 lt:=by rintro w cs S m ⟨r,rfl,mv,Ss,h⟩;exact h.lt
 nd:=by rintro w cs S m ⟨r,rfl,mv,Ss,h⟩;exact h.nd
 see:=by rintro w cs S m F ⟨r,rfl,_⟩ _;exact ⟨trivial,rfl⟩
 rlen:=by rintro w F m cs ⟨_,h⟩;exact h
 Tn:=by rintro w w' F F' m cs _ _ h;exact h
end
open Go.RowKit
variable {T:TypeId} {A C:List Value} {v:Value} {x:Operand} {ty:TypeId} {pos:String} {gdd:Option (Nat×Bool)}
def db(b:Nat)(T:TypeId)(A cs C:List Value):Item:=jT b T (A++(cs++C))
section
variable {P:Program} {N:Nat} {Q:Exit->Act->World->Prop} {fr fr':List (Nat×Value)} {w w0:World} {l:List Oper} {i:Nat} {o:Oper} {S0:List Nat} {L:List Item}
theorem St.prt(h:St w0 S0 w L)(j:Nat){b:Nat}{cs:List Value}(hj:L[j]? =some (db b T A cs C))(k:Nat)(hv:cs[k]? =some v):w.cell? ⟨b,A.length+k,none⟩=some v:=by
 refine h.blk j hj ?_
 grind
theorem OW.stP{t:TypeId}{y:Operand}{af:Array Edge}(hst:St w0 S0 w L)(j:Nat){b:Nat}{cs:List Value}(hj:L[j]? =some (db b T A cs C))
  (hl:vk l i=some ⟨none,.store t x y,ty,pos,af,gdd⟩) (hg:gd l fr ⟨none,.store t x y,ty,pos,af,gdd⟩=some true)
  (k:Nat) (hx:look fr x=some (.pointer (some ⟨b,A.length+k,none⟩))) (hy:look fr y=some v)
  (hs:aj P (sizeOf t)=some v.cells.toList.length) (h1:eA v.cells.toList=true) (hle:Nat.ble (k+v.cells.toList.length) cs.length=true) (cs':List Value) (hcs:qG cs v.cells.toList k=cs')
  (h:∀w',St w0 S0 w' (L.set j (db b T A cs' C))->OW P l N Q (i+1) fr w'):OW P l N Q i fr w:=by
 have hle':=q8 hle;exact OW.stB hst j hj hl hg hx hy hs h1 (u7 (by grind)) (A++(cs'++C)) (by grind [mH]) h
theorem OW.stPA{α:Type}{t:TypeId}{y:Operand}{af:Array Edge}(hst:St w0 S0 w L)(j:Nat){b:Nat}{cs:List Value}(hj:L[j]? =some (db b T A cs C))
  (hl:vk l i=some ⟨none,.store t x y,ty,pos,af,gdd⟩) (hg:gd l fr ⟨none,.store t x y,ty,pos,af,gdd⟩=some true)
  {k:Nat} (hx:look fr x=some (.pointer (some ⟨b,k,none⟩))) (hy:look fr y=some v)
  (hs:aj P (sizeOf t)=some v.cells.toList.length) (h1:eA v.cells.toList=true)
  (enc:α->List Value) {sz:Nat} (he:∀x,(enc x).length=sz) (n:Nat) (a:Nat->α) (k0:Nat) (hcs:cs=cs.take k0++(eG enc n a++cs.drop (k0+n*sz))) (hb:Nat.ble k0 cs.length=true) {q:Int} {u:Nat} (hi:ain n q=some u)
  (f:Nat) (hk:k=A.length+k0+q.toNat*sz+f) (hf:Nat.ble (f+v.cells.toList.length) sz=true) (x':α) (hx':qG (enc (a u)) v.cells.toList f=enc x')
  (cs':List Value) (hcs':cs'=cs.take k0++(eG enc n (aset a u x')++cs.drop (k0+n*sz)))
  (h:∀w',St w0 S0 w' (L.set j (db b T A cs' C))->OW P l N Q (i+1) fr w'):OW P l N Q i fr w:=by
 obtain ⟨e1,e2⟩:=pi enc he n a k0 hcs hb hi hf hx' hcs';subst hk;refine OW.stB (k:=A.length+(k0+q.toNat*sz+f)) hst j hj hl hg (by grind) hy hs h1 (u7 (by grind)) (A++(cs'++C)) (by rw [mH e2,e1]) h
theorem OW.clear{t e:TypeId}{ats:List Nat}{x:Operand}{ty:TypeId}{pos:String}{af:Array Edge}{gdd:Option (Nat×Bool)}(hst:St w0 S0 w L)(j:Nat){b:Nat}{T:TypeId}{cs:List Value}(hj:L[j]? =some (jT b T cs))
  (hl:vk l i=some ⟨none,.call ⟨.builtin .clear,[x].toArray,ats.toArray⟩,ty,pos,af,gdd⟩) (hg:gd l fr ⟨none,.call ⟨.builtin .clear,[x].toArray,ats.toArray⟩,ty,pos,af,gdd⟩=some true)
  {k n c:Nat} {z:Value} (hx:look fr x=some (.slice (some ⟨b,k,none⟩) (n+1) c)) (ha0:ats[0]? =some t) (ht:P.underlying t=some (.slice e)) (hz:aj P (zeroValue e)=some z) (vs:List Value) (hvs:(Builtin.zeroCells z.cells (n+1)).toList=vs) (h1:eA vs=true)
  (hle:k+vs.length<=cs.length) (cs':List Value) (hcs:qG cs vs k=cs')
  (h:∀w',St w0 S0 w' (L.set j (jT b T cs'))->OW P l N Q (i+1) fr w'):OW P l N Q i fr w:=by
 have hb:=hst.all j _ hj;have hst2:=run_storeCells_at (P:=P) b k T vs 0 cs.toArray w hb (by simpa using hle) (eB h1);refine OW.opn (v:=.tuple #[]) hl hg rfl (w':=w.setRow b (qG cs.toArray.toList vs k).toArray) (λa ha=> ?_) (h _ ?_)
 ·have e1:=ha.look hx;have hz':=qV hz w;have h3:(storeCells ⟨b,k,none⟩ vs).run P w=.ok () (w.setRow b (qG cs.toArray.toList vs k).toArray):=by grind [qG]
  have ha1:(ats.toArray)[0]? =some t:=by simpa using ha0
  simp [execOp,resolve,invoke,builtin,e1,Builtin.clear_,ha1,run_underlying ht,hz',hvs,h3]
 ·subst hcs;refine hst.upd j hj ⟨rfl,rfl,rfl,by simp [World.setRow],λq _ hn=>setRow_other w b q _ (by grind [jT])⟩ ?_ (λq hq=>.inl hq) (by simp [jT]);show (w.setRow b _).heap[b]? =_;rw [setRow_heap w b cs.toArray _ T (0,0) hb]
theorem OW.clearP{t e:TypeId}{ats:List Nat}{af:Array Edge}(hst:St w0 S0 w L)(j:Nat){b:Nat}{cs:List Value}(hj:L[j]? =some (db b T A cs C))
  (hl:vk l i=some ⟨none,.call ⟨.builtin .clear,[x].toArray,ats.toArray⟩,ty,pos,af,gdd⟩) (hg:gd l fr ⟨none,.call ⟨.builtin .clear,[x].toArray,ats.toArray⟩,ty,pos,af,gdd⟩=some true)
  (k:Nat) {n c:Nat} {z:Value} (hx:look fr x=some (.slice (some ⟨b,A.length+k,none⟩) (n+1) c)) (ha0:ats[0]? =some t) (ht:P.underlying t=some (.slice e)) (hz:aj P (zeroValue e)=some z) (vs:List Value) (hvs:(Builtin.zeroCells z.cells (n+1)).toList=vs) (h1:eA vs=true)
  (hle:Nat.ble (k+vs.length) cs.length=true) (cs':List Value) (hcs:qG cs vs k=cs')
  (h:∀w',St w0 S0 w' (L.set j (db b T A cs' C))->OW P l N Q (i+1) fr w'):OW P l N Q i fr w:=by
 have hle':=q8 hle;exact OW.clear hst j hj hl hg hx ha0 ht hz vs hvs h1 (by grind) (A++(cs'++C)) (by grind [mH]) h
end
structure RdB (w:World) (S:List Nat) (b:Nat) (cs:List Value):Prop where
 out:b∉S
 UP:∀k u,cs[k]? =some u->w.cell? ⟨b,k,none⟩=some u
section
variable {w w0:World} {S0:List Nat} {L:List Item} {b:Nat} {cs:List Value}
theorem RdB.cell(h:RdB w0 S0 b cs)(hst:St w0 S0 w L)(k:Nat){u:Value}(hu:cs[k]? =some u):w.cell? ⟨b,k,none⟩=some u:=by
 have hc:=h.UP k u hu;exact (World.cell?_of_block (hst.chg.block b (lj hc) h.out)).trans hc
theorem RdB.give{u0:Value}{cr:List Value}(h:RdB w0 S0 b (u0::cr))(hst:St w0 S0 w L)(ids:List Nat):RdB w (fp (sel L ids)) b (u0::cr):=by
 refine ⟨λhb=> ?_,λk u hu=>h.cell hst k hu⟩;obtain ⟨j,it,hj,hbs⟩:=vw.1 hb;obtain ⟨k,_,hk⟩:=et hj;rcases xK hk with hk|rfl
 ·rcases hst.own k it hk b hbs with h1|h1
  ·exact h.out h1
  ·have:=lj (h.UP 0 u0 rfl);simp only at this;omega
 ·cases hbs
theorem St.rdB(hst:St w0 S0 w L)(j:Nat)(hj:L[j]? =some (jT b T cs))(ids:List Nat)(hm:mem? j ids=false):RdB w (fp (sel L ids)) b cs:=
 ⟨λhb=>hst.noin j hj ids hm b (by simp [jT]) hb,λk u hu=>hst.blk j hj hu⟩
end
end Go.Sx
