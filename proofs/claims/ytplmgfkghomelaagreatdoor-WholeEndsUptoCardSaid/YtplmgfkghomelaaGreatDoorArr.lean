/- Lemmas. -/
import Derived.Test.YtplmgfkghomelaaGreatDoorPlan
import Derived.Sort.OwnSortedInts
import Derived.Lib.SlicesCompact
set_option linter.all false
namespace Go.Sx
open Go.RowKit
variable {α β β1 β2:Type}{sz c b r i N n clock j f d p I J:Nat}{x y z:Operand}{w F wb w':World}{xs ys:List α}{s S S2 ats Sb ids Sp:List Nat}{L X:List Item}{m:List (Int×α)}{P:Program}{v hd k:Value}{T ty e tk te:TypeId}{t:List (Nat×Value)}{cs C u B:List Value}{R:Rp α}{pos:String}{gdd:Option (Nat×Bool)}{Q:Exit->Act->World->Prop}{l:List Oper}{val:α->Value}{enc:α->List Value}{A a6:Array MapEntry}{kd ke:IntKind}{q E O:Int}{mv:List (Int×Value)}{Ss:List (List Nat)}{ho:Option (Int×Value)}{o:Oper}{g:α->β1×β2}{A1:Rp β1}{A2:Rp β2}{A' Z:World->List Nat->Rp α}{R0:Rp β}{G:α}{D:Array Edge}{K:FuncId}{M:Func}{U:ByteArray}{V W:Item}{Y:α->List Value->List Value}{y1:β1}{y2:β2}{a0:Int×α}{a1:List MapEntry}{a3:MapEntry}{a4:Bool}{h a5 o':Obj}{val':β->Value}{m':List (Int×β)}{a7:MapEntry->MapEntry}{a a8:List (List β)}{a9:Option α->β}{b0:β}
def aset(a:Nat->α)(t:Nat)(v:α):Nat->α:=λi=>if i=t then v else a i
def eW{α:Type}(enc:α->List Value):Nat->(Nat->α)->List Value
 |0,_=>[]
 |n+1,a=>enc (a 0)++eW enc n (λi=>a (i+1))
def ain(n:Nat)(t:Int):Option Nat:=if 0<=t/\t<n then some t.toNat else none
theorem tg(h:ain n q=some i):0<=q/\q<n/\i<n/\q.toNat=i:=by
 grind [ain]
theorem ml(enc:α->List Value):∀(n:Nat)(a:Nat->α),eW enc n a=jP enc ((List.range n).map a):=by
 intro n
 induction n with
 |zero=>intro a;rfl
 |succ n b=>
  intro a;rw [List.range_succ_eq_map,t6,List.map_map];show enc (a 0)++eW enc n (λi=>a (i+1))=enc (a 0)++jP enc _;rw [b];rfl
theorem Ac(h:∀x,(enc x).length=sz)(n:Nat)(a:Nat->α):(eW enc n a).length=n*sz:=by
 rw [ml,qO h];simp
theorem PB(h:∀x,(enc x).length=sz)(b:c<n)(A C:List Value)(a:Nat->α)(d:(enc (a c))[f]? =some v):(A++(eW enc n a++C))[A.length+(c*sz+f)]? =some v:=by
 have e:(jP enc ((List.range n).map a))[c*sz+f]? =some v:=nJ h (x:=a c) (by simp [b]) d;rw [z7 (by omega),show A.length+(c*sz+f)-A.length=c*sz+f by omega,ml]
 grind
theorem Ko{α:Type}(a:Nat->α)(v:α):((List.range n).map a).set sz v=(List.range n).map (aset a sz v):=by
 apply o5
 grind [aset]
theorem nw(h:sz+u.length<=B.length):qF (cs++(B++C)) u (cs.length+sz)=cs++(qF B u sz++C):=by
 unfold qF;rw [List.take_append,t7 (by omega),show cs.length+sz-cs.length=sz by omega,Su (by omega)];rw [SE,yi (l:=cs) (by omega),show cs.length+sz+u.length-cs.length=sz+u.length by omega,List.drop_append_of_le_length (by omega)]
 grind
theorem Nm(h:∀x,(enc x).length=sz)(b:c<n)(A C:List Value)(a:Nat->α)(d:f+u.length<=sz)(e:qF (enc (a c)) u f=enc G):
  qF (A++(eW enc n a++C)) u (A.length+(c*sz+f))=A++(eW enc n (aset a c G)++C):=by
 have hl:=Ac h n a;have g:c*sz+sz<=n*sz:=by rw [<- Sr];exact p7 _ b
 rw [nw (by omega),ml,ml,Bf h (x:=a c) (by simp [b]) d e,Ko]
theorem E9{α:Type}{o:Nat}(k:∀f u,cs[f]? =some u->w.cell? ⟨b,o+f,none⟩=some u)(enc:α->List Value)(d:∀x,(enc x).length=sz)(n:Nat)(a:Nat->α)(p:Nat)
  (h:cs=cs.take p++(eW enc n a++cs.drop (p+n*sz))) (e:Nat.ble p cs.length=true) (g:ain n q=some c):
  ∀f u,(enc (a c))[f]? =some u->w.cell? ⟨b,o+p+q.toNat*sz+f,none⟩=some u:=by
 intro f u i;obtain ⟨l,m,j,rfl⟩:=tg g;have hl:(cs.take p).length=p:=by rw [y4];have:=t5 e;omega
 have:=PB d j (cs.take p) (cs.drop (p+n*sz)) a i;rw [<- h,hl] at this
 grind
theorem St.arrB{L:List Item}(h:St F s w L)(j:Nat)(d:L[j]? =some (jT b T cs))(enc:α->List Value)(e:∀x,(enc x).length=sz)(n:Nat)(a:Nat->α)(p:Nat)
  (c:cs=cs.take p++(eW enc n a++cs.drop (p+n*sz))) (g:Nat.ble p cs.length=true) {t:Nat} (i:ain n q=some t):
  ∀f u,(enc (a t))[f]? =some u->w.cell? ⟨b,p+q.toNat*sz+f,none⟩=some u:=by
 intro f u k;have:=E9 (w:=w) (b:=b) (o:=0) (cs:=cs) (λf u l=>by rw [yj];exact h.blk j d l) enc e n a p c g i f u k
 rwa [yj] at this
theorem rk{α:Type}(enc:α->List Value)(e:∀x,(enc x).length=sz)(n:Nat)(a:Nat->α)(p:Nat)
  (b:cs=cs.take p++(eW enc n a++cs.drop (p+n*sz))) (i:Nat.ble p cs.length=true) (j:ain n q=some c) (k:Nat.ble (f+u.length) sz=true) {G:α} (l:qF (enc (a c)) u f=enc G)
  (h:C=cs.take p++(eW enc n (aset a c G)++cs.drop (p+n*sz))):qF cs u (p+q.toNat*sz+f)=C/\p+q.toNat*sz+f+u.length<=cs.length:=by
 obtain ⟨o,r,g,rfl⟩:=tg j;have hl:(cs.take p).length=p:=by rw [y4];have:=t5 i;omega
 have d:=t5 k;have s:q.toNat*sz+sz<=n*sz:=by rw [<- Sr];exact p7 _ g
 have m:cs.length=p+(n*sz+(cs.drop (p+n*sz)).length):=by
  conv=>lhs;rw [b]
  rw [q7,q7,Ac e,hl]
 constructor
 ·rw [h];have:=Nm e g (cs.take p) (cs.drop (p+n*sz)) a d l
  grind
 ·omega
theorem OW.stA{α:Type}(k:St F s w L)(j:Nat)(u:L[j]? =some (jT b T cs))
  (hl:vr l i=some ⟨none,.store e x y,ty,pos,D,gdd⟩) (z:gd l t ⟨none,.store e x y,ty,pos,D,gdd⟩=some true) (A:look t x=some (.pointer (some ⟨b,c,none⟩))) (B:look t y=some v)
  (C:au P (sizeOf e)=some v.cells.toList.length) (E:eQ v.cells.toList=true)
  (enc:α->List Value) (I:∀x,(enc x).length=sz) (n:Nat) (a:Nat->α) (p:Nat) (m:cs=cs.take p++(eW enc n a++cs.drop (p+n*sz))) (J:Nat.ble p cs.length=true) (K:ain n q=some r)
  (f:Nat) (M:c=p+q.toNat*sz+f) (O:Nat.ble (f+v.cells.toList.length) sz=true) (G:α) (o:qF (enc (a r)) v.cells.toList f=enc G)
  (d:List Value) (g:d=cs.take p++(eW enc n (aset a r G)++cs.drop (p+n*sz)))
  (h:∀w',St F s w' (L.set j (jT b T d))->OW P l N Q (i+1) t w'):OW P l N Q i t w:=by
 obtain ⟨R,S⟩:=rk enc I n a p m J K O o g;subst M;exact OW.stB k j u hl z A B C E (x2 S) d R h
theorem OW.stRA{α:Type}{β:Type}(o:St F s w L)(j:Nat){g:β->List Value}{xs:List β}
  (K:L[j]? =some (qk hd T g d xs)) (M:hd=.slice (some ⟨c,b,none⟩) clock r) (k:∀x,(g x).length=d)
  (hl:vr l i=some ⟨none,.store e x y,ty,pos,D,gdd⟩) (O:gd l t ⟨none,.store e x y,ty,pos,D,gdd⟩=some true) {z:β} (R:Sx.idx xs E=some z) (S:look t x=some (.pointer (some ⟨c,I,none⟩))) (U:look t y=some v)
  (V:au P (sizeOf e)=some v.cells.toList.length) (W:eQ v.cells.toList=true)
  (enc:α->List Value) (X:∀x,(enc x).length=sz) (n:Nat) (a:Nat->α) (p:Nat) (u:g z=(g z).take p++(eW enc n a++(g z).drop (p+n*sz))) (Y:Nat.ble p (g z).length=true) (Z:ain n q=some J)
  (f:Nat) (hk:I=b+E.toNat*d+p+q.toNat*sz+f) (hf:Nat.ble (f+v.cells.toList.length) sz=true) (G:α) (A:qF (enc (a J)) v.cells.toList f=enc G)
  (B:β) (m:g B=(g z).take p++(eW enc n (aset a J G)++(g z).drop (p+n*sz)))
  (h:∀w',St F s w' (L.set j (qk hd T g d (xs.set E.toNat B)))->OW P l N Q (i+1) t w'):OW P l N Q i t w:=by
 obtain ⟨e1,C⟩:=rk enc X n a p u Y Z hf A m;rw [k] at C;exact OW.stR o j K M k hl O R (p+q.toNat*sz+f) S (by omega) U V W (x2 C) B e1 h
def H1(n:Nat)(a:Nat->α):List α:=(List.range n).map a
theorem oU(n:Nat)(a:Nat->α):(H1 n a).length=n:=by simp [H1]
theorem St.arrRd(h:St F s w L)(j:Nat)(g:L[j]? =some (jT b T cs))(enc:α->List Value)(i:∀x,(enc x).length=sz)(n:Nat)(a:Nat->α)(p:Nat)
  (c:cs=cs.take p++(eW enc n a++cs.drop (p+n*sz))) (k:Nat.ble p cs.length=true) (l:Nat.ble n 9223372036854775807=true) (ids:List Nat) (m:mem? j ids=false):
  Rd w (fp (sel L ids)) (.slice (some ⟨b,p,none⟩) n n) enc sz (H1 n a):=by
 refine ⟨by rw [oU];exact t5 l,some ⟨b,p,none⟩,n,by rw [oU],by grind [oU],λt x f u d o=> ?_⟩
 refine ⟨b,p,rfl,λr=> ?_,?_⟩
 ·exact h.noin j g ids m b (by simp [jT]) r
 ·unfold H1 at d;rw [u7] at d;obtain ⟨y,v,rfl⟩:=yn.1 d
  obtain ⟨e,rfl⟩:t<n/\y=t:=by
   grind
  have:=h.arrB j g enc i n a p c k (q:=(y:Int)) (t:=y) (by simp [ain,e]) f u o
  simpa using this
theorem Nn(sz:Nat)(ho:o.op=.slice T x none none none)(h:look t x=some (.pointer (some ⟨b,p,none⟩)))
  (c:P.underlying T=some (.array n e)) (d:au P (sizeOf e)=some sz):∀a w,Rep N t a->(execOp a.eval o).run P w=.ok (.value (.slice (some ⟨b,p,none⟩) n n)) w:=by
 intro a w f;have g:=f.look h;simp [execOp,ho,Instr.sliceAt,Instr.sliceBounds,Instr.sureAddr,run_underlying c,g,qV d,Addr.add]
theorem Np(sz:Nat)(ho:o.op=.slice T x (some y) (some z) none)(f:look t x=some (.pointer (some ⟨b,p,none⟩)))
  (g:look t y=some (.int kd E)) (i:look t z=some (.int ke q)) (j:xs.length=n) (c:cut xs E q=some ys)
  (k:P.underlying T=some (.array n e)) (l:au P (sizeOf e)=some sz):∀a w,Rep N t a->(execOp a.eval o).run P w=.ok (.value (.slice (shd (some ⟨b,p,none⟩) n E.toNat sz) ys.length (n-E.toNat))) w:=by
 intro a w h;have m:=h.look f;have r:=h.look g;have s:=h.look i;obtain ⟨u,v,d,_⟩:=bp c;have hl:=kx c;rw [j] at d;have A:0<=q/\q<=(n:Int):=⟨by omega,d⟩
 have B:0<=E/\E<=q:=⟨u,v⟩
 have C:(q.toNat:Int)=q:=by omega
 have D:q.toNat-E.toNat=ys.length:=by omega
 have F:(some (if n=E.toNat then (⟨b,p,none⟩:Addr) else Addr.add ⟨b,p,none⟩ (E.toNat*sz)))=shd (some ⟨b,p,none⟩) n E.toNat sz:=by
  grind [shd]
 simp [execOp,ho,Instr.sliceAt,Instr.sliceBounds,Instr.sliceBound,Instr.sureAddr,run_underlying k,m,r,s,asIntOf,A,B,C,qV l,D,F]
theorem Nq(sz:Nat)(ho:o.op=.slice T x none (some z) none)(f:look t x=some (.pointer (some ⟨b,p,none⟩)))
  (g:look t z=some (.int ke q)) (i:xs.length=n) (h:cut xs 0 q=some ys)
  (j:P.underlying T=some (.array n e)) (k:au P (sizeOf e)=some sz):∀a w,Rep N t a->(execOp a.eval o).run P w=.ok (.value (.slice (some ⟨b,p,none⟩) ys.length n)) w:=by
 intro a w c;have l:=c.look f;have m:=c.look g;obtain ⟨u,v,d,_⟩:=bp h;have hl:=kx h;rw [i] at d;have r:0<=q/\q<=(n:Int):=⟨by omega,d⟩
 have s:q.toNat=ys.length:=by simpa using hl.symm
 simp [execOp,ho,Instr.sliceAt,Instr.sliceBounds,Instr.sliceBound,Instr.sureAddr,run_underlying j,l,m,asIntOf,r,qV k,s,Addr.add]
def Gq(x y c:Int):Option (Int×Int):=if 0<=x/\0<=y/\0<=c/\c<=1 then some ((x+y+c)%18446744073709551616,(x+y+c) / 18446744073709551616) else none
theorem H2{u v:Int}(ho:o.op=.call ⟨.value (.func K),[x,y,z].toArray,ats.toArray⟩)(e:look t x=some (.int .u64 E))(f:look t y=some (.int .u64 q))(g:look t z=some (.int .u64 O))
  (i:P.funcs[K]? =some M) (j:(M.name== "runtime.NumGoroutine")=false) (k:M.body.isNone=true) (l:Extern.findNext M=none) (m:Extern.find M=some add64Entry) (h:Gq E q O=some (u,v)):
  ∀a w,Rep N t a->(execOp a.eval o).run P w=.ok (.value (.tuple [.int .u64 u,.int .u64 v].toArray)) w:=by
 intro a w c;have n:=c.look e;have p:=c.look f;have r:=c.look g;unfold Gq at h;split at h
 ·rename_i b
  cases h
  have:=run_add64 (P:=P) E q O b.1 b.2.1 b.2.2.1 b.2.2.2 w;have d:=run_callFunc_extern (P:=P) i j k l m #[.int .u64 E,.int .u64 q,.int .u64 O] w;rw [this] at d;have s:a.eval (.func K)=.func (.func K) #[] #[]:=rfl;simp [execOp,ho,resolve,Deferred.ofValue,invoke,n,p,r,s,d,Result.andThen]
 ·cases h
def HA(i:Nat)(s:ByteArray)(p:Nat):Item where
 S:=[i]
 Φ w:=w.heap[i]? =some (.stringIter s p)
 loc w w' hb h:=by rw [hb i (by simp)];exact h
 lt w h b hb:=by
  rw [i6.1 hb];exact (x3.1 h).1
def BL(s:ByteArray)(p:Nat):Int:=((Utf8.decode s p).1:Int)
def ot(s:ByteArray)(p:Nat):Nat:=p+(Utf8.decode s p).2
theorem OW.srange(c:St F s w L)
  (hl:vr l i=some ⟨some d,.range T x,ty,pos,D,gdd⟩) (f:gd l t ⟨some d,.range T x,ty,pos,D,gdd⟩=some true) (g:Nat.blt d N=true) (j:look t x=some (.string U)) (k:P.underlying T=some .string)
  (h:∀e w',St F s w' (L++[HA e U 0])->OW P l N Q (i+1) ((d,.pointer (some ⟨e,0,none⟩))::t) w'):OW P l N Q i t w:=by
 refine k6 hl f rfl g (w':=w.iter U 0) (λa m=> ?_) (h w.heap.size _ ?_)
 ·have:=run_range_string (P:=P) w T U k;simp [execOp,m.look j,this]
 ·refine c.push (Chg.alloc _ _) (World.iter_heap w U 0) (λb n=> ?_) (by simp [HA]);rw [i6.1 n];exact m6 _
theorem OW.snext(h:St F s w L)(j:Nat)(f:L[j]? =some (HA sz U c))
  (hl:vr l i=some ⟨some d,.next x true,ty,pos,D,gdd⟩) (g:gd l t ⟨some d,.next x true,ty,pos,D,gdd⟩=some true) (k:Nat.blt d N=true) (m:look t x=some (.pointer (some ⟨sz,0,none⟩)))
  (o:decide (c<U.size)=true->∀w',St F s w' (L.set j (HA sz U (ot U c)))->OW P l N Q (i+1) ((d,.tuple [.bool true,.int .i64 (c:Int),.int .i32 (BL U c)].toArray)::t) w')
  (p:decide (c<U.size)=false->OW P l N Q (i+1) ((d,.tuple [.bool false].toArray)::t) w):OW P l N Q i t w:=by
 have n:w.heap[sz]? =some (.stringIter U c):=h.all j _ f;by_cases b:c<U.size
 ·refine k6 hl g rfl k (w':={w with heap:=w.heap.setIfInBounds sz (.stringIter U (ot U c))}) (λa e=> ?_) (o (by simp [b]) _ ?_)
  ·simp [execOp,e.look m,Instr.next,getObj,setObj,Sem.run,n,b,Result.andThen,goInt,BL,ot]
  ·refine h.upd j f ⟨rfl,rfl,rfl,by simp,λq _ u=> ?_⟩ ?_ (λq r=>.inl r) (by simp [HA])
   ·grind [HA]
   ·show (w.heap.setIfInBounds sz _)[sz]? =_
    grind
 ·refine k6 hl g rfl k (w':=w) (λa e=> ?_) (p (by simp [b]));simp [execOp,e.look m,Instr.next,getObj,Sem.run,n,b,Result.andThen]
structure Bor (wb:World) (Sb:List Nat) (w:World) (S:List Nat):Prop where
 size:wb.heap.size<=w.heap.size
 same:∀b,b<wb.heap.size->b∉Sb->w.heap[b]? =wb.heap[b]?
 sub:∀b∈S,b∈Sb\/wb.heap.size<=b
theorem Bor.refl(w:World)(S:List Nat):Bor w S w S:=⟨m6 _,λ_ _ _=>rfl,λ_ h=>.inl h⟩
theorem Bor.on(h:Bor wb Sb F s)(c:St F s w L)(ids:List Nat):Bor wb Sb w (fp (sel L ids)):=by
 have g:=c.chg;refine ⟨p9 h.size g.size,λb e i=> ?_,λb e=> ?_⟩
 ·rw [g.block b (Nat.lt_of_lt_of_le e h.size) (λl=> ?_),h.same b e i];rcases h.sub b l with a|a
  ·exact i a
  ·omega
 ·obtain ⟨j,m,n,d⟩:=vF.1 e;obtain ⟨k,_,f⟩:=eO n;rcases xP f with f|rfl
  ·rcases c.own k m f b d with a|a
   ·exact h.sub b a
   ·exact .inr (p9 h.size a)
  ·cases d
theorem Rd.bor(h:Rd wb Sb v enc sz xs)(a:Bor wb Sb w S):Rd w S v enc sz xs:=h.far a.same a.sub
def H3(wb:World)(Sb:List Nat)(enc:α->List Value)(sz:Nat):Rp (List α) where
 sz:=1
 own _ cs S xs:=∃v,cs=[v]/\S=[]/\Rd wb Sb v enc sz xs
 rd _ _ xs cs:=∃v,cs=[v]/\Rd wb Sb v enc sz xs
 len:=by rintro w cs S x ⟨v,rfl,_⟩;rfl
 loc:=by rintro w w' cs S x _ h;exact h
 lt:=by rintro w cs S x ⟨v,rfl,rfl,_⟩;simp
 nd:=by rintro w cs S x ⟨v,rfl,rfl,_⟩;exact o4
 see:=by rintro w cs S x F ⟨v,rfl,rfl,h⟩ _;exact ⟨v,rfl,h⟩
 rlen:=by rintro w F x cs ⟨v,rfl,_⟩;rfl
 Ug:=by rintro w w' F a x cs _ _ h;exact h
theorem RdN.bor(b:0<R.sz)(h:RdN wb Sb v R.rd R.sz xs)(a:Bor wb Sb w S):RdN w S v R.rd R.sz xs:=h.far b a.same a.sub
theorem RdN.formB(h:RdN wb Sb v R.rd R.sz xs)(i:Bor wb Sb F s)(j:idx xs q=some G):
  ∃b o c cs,v=.slice (some ⟨b,o,none⟩) xs.length c/\R.rd wb Sb G cs/\∀f u,cs[f]? =some u->∀w' L,St F s w' L->w'.cell? ⟨b,o+q.toNat*R.sz+f,none⟩=some u:=by
 obtain ⟨_,a,c,k,_,l⟩:=h;obtain ⟨_,_,m⟩:=zV j;obtain ⟨cs,n,b,o,p,e,d⟩:=l _ G m;refine ⟨b,o,c,cs,by rw [k,p],n,λf u r w' L g=> ?_⟩;have:=d f u r;exact (World.cell?_of_block ((i.on g []).same b (lW this) e)).trans this
open Go.RowKit Go.Sort Go.Proofs
open Go.RowKit
theorem St.burst2(h:St F s w L)(j:Nat)(o:L[j]? =some V)(p:av w V.S (W::X)):St F s w (L.set j W++X):=by
 have q:j<L.length:=(zes.1 o).1;have d:=h.burst j o p;have e:(L.set j nilI++W::X)=(L.set j nilI++[W])++X:=by simp
 rw [e] at d
 have g:∀(m:Nat)(i:Item),(L.set j W++X)[m]? =some i->∃m',((L.set j nilI++[W])++X)[m']? =some i/\(m=j/\m'=L.length\/m≠j/\m<L.length/\m'=m\/L.length<=m/\m'=m+1):=by
  intro m i f;rcases bm f with ⟨l,c⟩|⟨l,c⟩
  ·rw [k7] at l;rcases vc c with ⟨rfl,rfl⟩|⟨k,c⟩
   ·grind
   ·exact ⟨m,by grind,.inr (.inl ⟨k,l,rfl⟩)⟩
  grind
 refine d.repart (λm i f=> ?_) (λm n a b r f t=> ?_)
 ·obtain ⟨m',c,_⟩:=g m i f;exact ⟨d.all m' i c,d.nd m' i c,λx u=>vF.2 ⟨m',i,c,u⟩⟩
 ·obtain ⟨m',c,z⟩:=g m a f;obtain ⟨v,y,A⟩:=g n b t;exact d.apart m' v a b (by omega) c y
theorem fp3(i:Nat)(h:ids[i]? =some sz)(d:L[sz]? =some V)(c:b∈V.S):b∈fp (sel L ids):=by
 refine vF.2 ⟨i,V,?_,c⟩
 induction ids generalizing i with
 |nil=>simp at h
 |cons a r e=>
  grind [sel]
theorem St.openP0{c:∀G,(enc G).length=sz}(h:St F s w L)(j:Nat)(a:L[j]? =some (itI (vI T (tc enc sz c)) [v] S G)):
  ∃b,v=.pointer (some ⟨b,0,none⟩)/\St F s w (L.set j (jT b T (enc G))):=by
 obtain ⟨b,d,g,e,rfl,i,f,rfl,rfl⟩:=h.all j _ a;cases e;exact ⟨b,rfl,h.turn j a f rfl⟩
theorem St.openQ0{c:∀G,(enc G).length=sz}(h:St F s w L)(j:Nat)(d:L[j]? =some (itI (vI T (tc enc sz c)) [.pointer (some ⟨b,0,none⟩)] S G)):
  St F s w (L.set j (jT b T (enc G))):=by
 obtain ⟨f,e,a⟩:=h.openP0 j d;cases e;exact a
theorem St.toRow1{b:∀G,(enc G).length=sz}{c:0<sz}(h:St F s w L)(j:Nat)(d:L[j]? =some (itI (nL T enc sz b c) [v] S ys)):St F s w (L.set j (qk v T enc sz ys)):=by
 obtain ⟨u,e,a⟩:=h.toRow j d;cases e;exact a
theorem St.shutP0{c:∀x,(enc x).length=sz}(h:St F s w L)(j:Nat)(a:L[j]? =some (jT b T cs))(x:α)(d:cs=enc x):
  St F s w (L.set j (itI (vI T (tc enc sz c)) [.pointer (some ⟨b,0,none⟩)] [b] x)):=by
 subst d;exact h.turn j a ⟨b,enc x,[],rfl,rfl,by simp,h.all j _ a,rfl,rfl⟩ rfl
theorem sng(h:cs.length=1):∃u,cs=[u]:=by
 cases cs with
 |nil=>cases h
 |cons u r=>cases r with
  |nil=>exact ⟨u,rfl⟩
  |cons _ _=>simp at h
theorem JU{L:List Item}(h:St F s w L)(hd:zR ids=true)(i j:Nat)(a:i≠j)(d:ids[i]? =some sz)(e:ids[j]? =some c)(f:L[sz]? =some V)(g:L[c]? =some W):∀b∈V.S,b∉W.S:=
 h.apart sz c V W (cI hd a d e) f g
theorem Bi(h:zR (s++S)=true):zR s=true:=by
 induction s with
 |nil=>rfl
 |cons x r i=>
  simp only [Sv,zR] at h |-;split at h
  ·cases h
  ·rename_i a
   have:mem? x r=false:=by
    cases b:mem? x r with
    |false=>rfl
    |true=>rw [mem?_iff.2 (zal _ (mem?_iff.1 b))] at a;cases a
   grind
theorem St.openP2{hl:∀G u,(Y G u).length=sz}(h:St F s w L)(j:Nat)(m:L[j]? =some (itI (vI T (qK Y sz hl g (jn A1 A2))) [v] S G))(z:A1.sz=1)(n:A2.sz=1):
  ∃b v1 i k S2,v=.pointer (some ⟨b,0,none⟩)/\St F s w (L.set j (jT b T (Y G [v1,k]))++[itI A1 [v1] i (g G).1,itI A2 [k] S2 (g G).2]):=by
 obtain ⟨b,o,r,p,rfl,e,q,u,rfl,t,x,i,R,rfl,rfl,l,a,d⟩:=h.all j _ m;cases p;obtain ⟨v1,rfl⟩:=sng ((A1.len _ _ _ _ a).trans z);obtain ⟨k,rfl⟩:=sng ((A2.len _ _ _ _ d).trans n);refine ⟨b,v1,i,k,R,rfl,h.burst2 j m ?_⟩;exact av.cons q (by simp [jT]) (λc f=>by simp only [jT,i6] at f;subst f;exact zcs) (λc f=>by simp only [jT,i6] at f;subst f;exact e) (av.cons a (A1.nd _ _ _ _ a) (λb e=>zal _ e) l (av.cons d (A2.nd _ _ _ _ d) (λb e=>e) (S2:=[]) (by simp) av.nil (by simp)) (λb e=>zar _ e)) (λc f=>zcm _ f)
theorem St.openQ2{hl:∀G u,(Y G u).length=sz}(h:St F s w L)(j:Nat)(c:L[j]? =some (itI (vI T (qK Y sz hl g (jn A1 A2))) [.pointer (some ⟨b,0,none⟩)] S G))(z:A1.sz=1)(d:A2.sz=1):
  ∃v1 a k S2,St F s w (L.set j (jT b T (Y G [v1,k]))++[itI A1 [v1] a (g G).1,itI A2 [k] S2 (g G).2]):=by
 obtain ⟨f,v1,a,k,S2,i,e⟩:=h.openP2 j c z d
 grind
theorem St.shutP2{hl:∀x u,(Y x u).length=sz}(h:St F s w L)(R:Rp α)(t:R=qK Y sz hl g (jn A1 A2))(j i l:Nat)(r:List Nat)(hd:zR ([j,i,l]++r)=true)(m:L[j]? =some (jT b T cs))(n:L[i]? =some (itI A1 [v] ats y1))(o:L[l]? =some (itI A2 [k] S2 y2))(x:α)(y:cs=Y x [v,k])(z:g x=(y1,y2)):
  ∃S,St F s w (sel L r++[itI (vI T R) [.pointer (some ⟨b,0,none⟩)] S x]):=by
 subst t;subst y;have d:=Bi hd;have A:A1.own w [v] ats y1:=h.all i _ n;have B:A2.own w [k] S2 y2:=h.all l _ o
 have f:(qK Y sz hl g (jn A1 A2)).own w (Y x [v,k]) (ats++S2) x:=by
  refine ⟨[v,k],rfl,?_⟩;rw [z];refine ⟨[v],[k],ats,_,rfl,rfl,?_,A,B⟩
  ·intro b a e;rcases e with e
   ·exact JU h d 1 2 (by decide) rfl rfl n o b a e
 have p:b∉(ats++S2):=by
  intro a;simp only [g8] at a;rcases a with a|a
  ·exact JU h d 0 1 (by decide) rfl rfl m n b (by simp [jT]) a
  ·exact JU h d 0 2 (by decide) rfl rfl m o b (by simp [jT]) a
 have D:w.heap[b]? =some (.cells (Y x [v,k]).toArray T (0,0)):=h.all j _ m;have q:(vI T (qK Y sz hl g (jn A1 A2))).own w [.pointer (some ⟨b,0,none⟩)] (b::(ats++S2)) x:=⟨b,_,_,rfl,rfl,p,D,f⟩
 refine ⟨_,h.gather [j,i,l] r hd (C:=itI (vI T (qK Y sz hl g (jn A1 A2))) _ _ x) q ((vI T (qK Y sz hl g (jn A1 A2))).nd _ _ _ _ q) (λc hc=> ?_)⟩;rcases j9.1 hc with rfl|hc
 ·exact fp3 0 rfl m (by simp [jT])
 ·have hc:c∈ats++S2:=hc;simp only [g8] at hc;rcases hc with hc|hc
  ·exact fp3 1 rfl n hc
  ·exact fp3 2 rfl o hc
open Go.RowKit
def QR{α β a:Type}(A:Rp α)(B:Rp β)(C:Value->Rp a)(n:Nat)(b:∀v,(C v).sz=n):Rp (α×(β×a)) where
 sz:=A.sz+(B.sz+n)
 own w cs S p:=∃v1,(jn A (jn B (C v1))).own w cs S p/\cs[0]? =some v1
 rd w F p cs:=∃v1,(jn A (jn B (C v1))).rd w F p cs/\cs[0]? =some v1
 len:=by
  rintro w cs S x ⟨v1,h,_⟩;have:=(jn A (jn B (C v1))).len _ _ _ _ h;rw [this];show A.sz+(B.sz+(C v1).sz)=_;rw [b]
 loc:=by
  rintro w w' cs S x c ⟨v1,h,e⟩;exact ⟨v1,(jn A (jn B (C v1))).loc w w' _ _ _ c h,e⟩
 lt:=by
  rintro w cs S x ⟨v1,h,_⟩;exact (jn A (jn B (C v1))).lt _ _ _ _ h
 nd:=by
  rintro w cs S x ⟨v1,h,_⟩;exact (jn A (jn B (C v1))).nd _ _ _ _ h
 see:=by
  rintro w cs S x F ⟨v1,h,e⟩ d;exact ⟨v1,(jn A (jn B (C v1))).see _ _ _ _ F h d,e⟩
 rlen:=by
  rintro w F x cs ⟨v1,h,_⟩;have:=(jn A (jn B (C v1))).rlen _ _ _ _ h;rw [this];show A.sz+(B.sz+(C v1).sz)=_;rw [b]
 Ug:=by
  rintro w w' F f x cs k g ⟨v1,h,e⟩;exact ⟨v1,(jn A (jn B (C v1))).Ug w w' F f _ _ k g h,e⟩
open Go.RowKit
def wo(T:TypeId)(enc:α->List Value)(sz:Nat)(j:∀x,(enc x).length=sz)(k:0<sz):Rp (List α) where
 sz:=1
 own w cs S xs:=∃v,cs=[v]/\S.Nodup/\(∀b∈S,b<w.heap.size)/\∀w' F,(∀b∈S,w'.heap[b]? =w.heap[b]?)->(∀b∈S,b∉F)->Rd w' F v enc sz xs
 rd w F xs cs:=∃v,cs=[v]/\Rd w F v enc sz xs
 len:=by rintro w cs S x ⟨v,rfl,_⟩;rfl
 loc:=by
  rintro w w' cs S x h ⟨v,rfl,c,hl,d⟩;refine ⟨v,rfl,c,λb a=> ?_,λg F e f=>d g F (λb a=>(e b a).trans (h b a)) f⟩;have:=h b a;rw [SG (hl b a)] at this;exact (x3.1 this).1
 lt:=by rintro w cs S x ⟨v,rfl,_,hl,_⟩;exact hl
 nd:=by rintro w cs S x ⟨v,rfl,c,_⟩;exact c
 see:=by rintro w cs S x F ⟨v,rfl,_,_,d⟩ f;exact ⟨v,rfl,d w F (λ_ _=>rfl) f⟩
 rlen:=by rintro w F x cs ⟨v,rfl,_⟩;rfl
 Ug:=by rintro w w' F l x cs i e ⟨v,rfl,h⟩;exact ⟨v,rfl,h.far i e⟩
theorem Fm{hp:0<sz}{he:∀x,(enc x).length=sz}(h:dW w T sz v xs.length (jP enc xs)):(wo T enc sz he hp).own w [v] (dq v).toList xs:=
 ⟨v,rfl,cZ,h.lt,λw' F a b=>lw he (h.loc a) b⟩
def MK(α:Type):Rp (List α) where
 sz:=1
 own _ cs S xs:=S=[]/\∃a c,cs=[.slice a xs.length c]
 rd _ _ xs cs:=∃a c,cs=[.slice a xs.length c]
 len:=by rintro w cs S x ⟨_,a,c,rfl⟩;rfl
 loc:=by rintro w w' cs S x _ h;exact h
 lt:=by rintro w cs S x ⟨rfl,_⟩;simp
 nd:=by rintro w cs S x ⟨rfl,_⟩;exact o4
 see:=by rintro w cs S x F ⟨_,h⟩ _;exact h
 rlen:=by rintro w F x cs ⟨a,c,rfl⟩;rfl
 Ug:=by rintro w w' F b x cs _ _ h;exact h
def KO{α:Type}(T:TypeId)(enc:α->List Value):Rp (Option α) where
 sz:=1
 own w cs S o:=match o with
  |none=>cs=[.pointer none]/\S=[]
  |some x=>∃b A C,cs=[.pointer (some ⟨b,A.length,none⟩)]/\S=[b]/\w.heap[b]? =some (.cells (A++(enc x++C)).toArray T (0,0))
 rd w F o cs:=match o with
  |none=>cs=[.pointer none]
  |some x=>∃b A C,cs=[.pointer (some ⟨b,A.length,none⟩)]/\b∉F/\w.heap[b]? =some (.cells (A++(enc x++C)).toArray T (0,0))
 len:=by
  rintro w cs S (_|x) h
  ·rw [h.1];rfl
  ·obtain ⟨b,A,C,rfl,_⟩:=h;rfl
 loc:=by
  rintro w w' cs S (_|x) a h
  ·exact h
  ·obtain ⟨b,A,C,rfl,rfl,h⟩:=h;exact ⟨b,A,C,rfl,rfl,by rw [a b (by simp)];exact h⟩
 lt:=by
  rintro w cs S (_|x) h
  ·rw [h.2];simp
  ·obtain ⟨b,A,C,rfl,rfl,h⟩:=h;intro c e;simp only [i6] at e;subst e;exact (x3.1 h).1
 nd:=by
  rintro w cs S (_|x) h
  ·rw [h.2];exact o4
  ·obtain ⟨b,A,C,rfl,rfl,h⟩:=h;simp
 see:=by
  rintro w cs S (_|x) F h hF
  ·exact h.1
  ·obtain ⟨b,A,C,rfl,rfl,h⟩:=h;exact ⟨b,A,C,rfl,hF b (by simp),h⟩
 rlen:=by
  rintro w F (_|x) cs h
  ·rw [show cs=[.pointer none] from h];rfl
  ·obtain ⟨b,A,C,rfl,_⟩:=h;rfl
 Ug:=by
  rintro w w' F i (_|x) cs h1 h2 h
  ·exact h
  ·obtain ⟨b,A,C,rfl,a,h⟩:=h;have d:=(x3.1 h).1;refine ⟨b,A,C,rfl,λg=> ?_,by rw [h1 b d a];exact h⟩
   rcases h2 b g with f|f
   ·exact a f
   ·omega
def NE{i:Type}(G:Rp i)(R:Value->Rp β)(n:Nat)(j:∀v,(R v).sz=n):Rp (i×β) where
 sz:=n
 own w cs S p:=∃u d S2,S=d++S2/\(∀b∈d,b∉S2)/\G.own w [u] d p.1/\(R u).own w cs S2 p.2
 rd w F p cs:=∃u,G.rd w F p.1 [u]/\(R u).rd w F p.2 cs
 len:=by rintro w cs S x ⟨u,d,S2,rfl,_,_,h⟩;rw [(R u).len _ _ _ _ h,j]
 loc:=by
  rintro w w' cs S x h ⟨u,d,S2,rfl,hd,f,g⟩;exact ⟨u,d,S2,rfl,hd,G.loc w w' _ _ _ (λb c=>h b (zal _ c)) f,(R u).loc w w' _ _ _ (λb c=>h b (zar _ c)) g⟩
 lt:=by
  rintro w cs S x ⟨u,d,S2,rfl,hd,f,g⟩ b c;rcases g8.1 c with c|c
  ·exact G.lt _ _ _ _ f b c
  ·exact (R u).lt _ _ _ _ g b c
 nd:=by
  rintro w cs S x ⟨u,d,S2,rfl,hd,f,g⟩;exact l6.2 ⟨G.nd _ _ _ _ f,(R u).nd _ _ _ _ g,λa q b c e=>by subst e;exact hd a q c⟩
 see:=by
  rintro w cs S x F ⟨u,d,S2,rfl,hd,f,g⟩ k;exact ⟨u,G.see _ _ _ _ F f (λb c=>k b (zal _ c)),(R u).see _ _ _ _ F g (λb c=>k b (zar _ c))⟩
 rlen:=by rintro w F x cs ⟨u,_,h⟩;rw [(R u).rlen _ _ _ _ h,j]
 Ug:=by
  rintro w w' F l x cs m o ⟨u,f,g⟩;exact ⟨u,G.Ug w w' F l _ _ m o f,(R u).Ug w w' F l _ _ m o g⟩
def coS(wb:World)(Sp:List Nat):List Nat:=(List.range wb.heap.size).filter λb=> !Sp.contains b
theorem DN:b∈coS wb Sp↔b<wb.heap.size/\b∉Sp:=by simp [coS]
def sJ(wb:World)(Sp:List Nat):Item where
 S:=Sp
 Φ w:=(∀b∈Sp,b<wb.heap.size/\w.heap[b]? =wb.heap[b]?)/\(wb.heap.size=0\/wb.heap.size-1∈Sp)
 loc w w' h hb:=⟨λb a=>⟨(hb.1 b a).1,(h b a).trans (hb.1 b a).2⟩,hb.2⟩
 lt w h b a:=by
  obtain ⟨d,c⟩:=h.1 b a;rw [SG d] at c;exact (x3.1 c).1
theorem St.pool(h:St F s w L)(j:Nat)(n:L[j]? =some (sJ wb Sp))(ids:List Nat)(o:mem? j ids=false):Bor wb (coS wb Sp) w (fp (sel L ids)):=by
 have p:=h.all j _ n;refine ⟨?_,λb c q=> ?_,λb c=> ?_⟩
 ·grind [sJ]
 ·have:b∈Sp:=Classical.byContradiction λd=>q (DN.2 ⟨c,d⟩)
  exact (p.1 b this).2
 ·obtain ⟨i,t,r,a⟩:=vF.1 c;obtain ⟨k,e,f⟩:=eO r;rcases xP f with f|rfl
  ·by_cases g:b<wb.heap.size
   ·refine .inl (DN.2 ⟨g,λd=> ?_⟩)
    have l:k≠j:=by
     rintro rfl;have m:k∈ids:=zmg e;exact absurd o (by rw [mem?_iff.2 m];simp)
    exact h.apart k j _ _ l f n b a d
   grind
  ·cases a
def rdP(R:Rp α)(wb:World)(F:List Nat):Rp α where
 sz:=R.sz
 own _ cs S x:=S=[]/\R.rd wb F x cs
 rd _ _ x cs:=R.rd wb F x cs
 len:=by rintro w cs S x ⟨_,h⟩;exact R.rlen _ _ _ _ h
 loc:=by rintro w w' cs S x _ h;exact h
 lt:=by rintro w cs S x ⟨rfl,_⟩;simp
 nd:=by rintro w cs S x ⟨rfl,_⟩;exact o4
 see:=by rintro w cs S x F ⟨_,h⟩ _;exact h
 rlen:=by rintro w F x cs h;exact R.rlen _ _ _ _ h
 Ug:=by rintro w w' F a x cs _ _ h;exact h
structure Cv {α:Type} (A:Rp α) (B:World->List Nat->Rp α):Prop where
 sz:∀wb F,(B wb F).sz=A.sz
 cv:∀w cs S x,A.own w cs S x->∃Sp So,S.Perm (Sp++So)/\∀wb F,(∀b∈Sp,wb.heap[b]? =w.heap[b]? /\b∉F)->(B wb F).own w cs So x
theorem Cv.refl(A:Rp α):Cv A (λ_ _=>A):=⟨λ_ _=>rfl,λw cs S x h=>⟨[],S,List.Perm.refl _,λ_ _ _=>h⟩⟩
theorem Cv.bor(A:Rp α):Cv A (λwb F=>rdP A wb F):=⟨λ_ _=>rfl,λw cs S x h=>⟨S,[],by simp,λwb F c=>
 ⟨rfl,A.see _ _ _ _ F (A.loc w wb cs S x (λb a=>(c b a).1) h) (λb a=>(c b a).2)⟩⟩⟩
theorem Cv.row{a:0<sz}{c:∀x,(enc x).length=sz}:Cv (nL T enc sz c a) (λwb F=>H3 wb F enc sz):=⟨λ_ _=>rfl,λw cs S x h=>
 ⟨S,[],by simp,λwb F e=>by
  have f:=(nL T enc sz c a).loc w wb cs S x (λb d=>(e b d).1) h;obtain ⟨v,rfl,g⟩:=(nL T enc sz c a).see _ _ _ _ F f (λb d=>(e b d).2);exact ⟨v,rfl,rfl,g⟩⟩⟩
theorem Cv.rowF{a:0<sz}{c:∀x,(enc x).length=sz}:Cv (wo T enc sz c a) (λwb F=>H3 wb F enc sz):=⟨λ_ _=>rfl,λw cs S x h=>
 ⟨S,[],by simp,λwb F e=>by
  have f:=(wo T enc sz c a).loc w wb cs S x (λb d=>(e b d).1) h;obtain ⟨v,rfl,g⟩:=(wo T enc sz c a).see _ _ _ _ F f (λb d=>(e b d).2);exact ⟨v,rfl,rfl,g⟩⟩⟩
theorem Cv.pair{β:Type}{B:Rp β}{a:World->List Nat->Rp β}(d:Cv R A')(e:Cv B a):Cv (jn R B) (λwb F=>jn (A' wb F) (a wb F)):=
 ⟨λwb F=>by show (A' wb F).sz+(a wb F).sz=R.sz+B.sz;rw [d.sz,e.sz],λw cs S x h=>by
  obtain ⟨i,j,t,S2,rfl,rfl,hd,o,k⟩:=h;obtain ⟨P,O,p,l⟩:=d.cv _ _ _ _ o;obtain ⟨m,f,n,q⟩:=e.cv _ _ _ _ k;refine ⟨P++m,O++f,?_,λwb F g=>⟨i,j,O,f,rfl,rfl,λb r s=> ?_,l wb F (λb c=>g b (zal _ c)),q wb F (λb c=>g b (zar _ c))⟩⟩
  ·grind
  ·exact hd b (p.mem_iff.2 (zar _ r)) (n.mem_iff.2 (zar _ s))⟩
theorem x7:type_of% @Cv.pair:=Cv.pair
theorem Cv.gho{β:Type}{e:Type}{G:Rp e}{R:Value->Rp β}{a:World->List Nat->Value->Rp β}{f:∀v,(R v).sz=n}{c:∀wb F v,(a wb F v).sz=n}(h:∀v,Cv (R v) (λwb F=>a wb F v)):
 Cv (NE G R n f) (λwb F=>NE G (a wb F) n (c wb F)):=⟨λwb F=>rfl,λw cs S x g=>by
 obtain ⟨u,d,S2,rfl,hd,o,i⟩:=g;obtain ⟨P,O,p,k⟩:=(h u).cv _ _ _ _ i;refine ⟨P,d++O,?_,λwb F j=>⟨u,d,O,rfl,λb l m=>hd b l (p.mem_iff.2 (zar _ m)),o,k wb F j⟩⟩
 grind⟩
theorem Cv.struct{β:Type}{hl:∀x u,(Y x u).length=sz}{g:α->β}{A:Rp β}{A':World->List Nat->Rp β}(h:Cv A A'):Cv (qK Y sz hl g A) (λwb F=>qK Y sz hl g (A' wb F)):=
 ⟨λ_ _=>rfl,λw cs S x a=>by
  obtain ⟨u,rfl,o⟩:=a;obtain ⟨P,O,p,k⟩:=h.cv _ _ _ _ o;exact ⟨P,O,p,λwb F b=>⟨u,rfl,k wb F b⟩⟩⟩
theorem Cv.ptr(h:Cv R A'):Cv (vI T R) (λwb F=>vI T (A' wb F)):=
 ⟨λ_ _=>rfl,λw cs S x d=>by
  obtain ⟨b,c,i,rfl,rfl,e,f,o⟩:=d;obtain ⟨P,O,p,k⟩:=h.cv _ _ _ _ o;exact ⟨P,b::O,(List.Perm.cons b p).trans List.perm_middle.symm,λwb F a=>⟨b,c,O,rfl,rfl,λg=>e (p.mem_iff.2 (zar _ g)),f,k wb F a⟩⟩⟩
theorem Ij{α:Type}{A:Rp α}{A':World->List Nat->Rp α}(h:Cv A A')(w:World):∀(xs:List α)(a:List (List Value))(Ss:List (List Nat)),a.length=xs.length->Ss.length=xs.length->
  (∀(i:Nat) cs S x,a[i]? =some cs->Ss[i]? =some S->xs[i]? =some x->A.own w cs S x)->
  ∃j Os:List (List Nat),Os.length=xs.length/\Ss.flatten.Perm (j.flatten++Os.flatten)/\∀wb F,(∀b∈j.flatten,wb.heap[b]? =w.heap[b]? /\b∉F)->∀(i:Nat) cs S x,a[i]? =some cs->Os[i]? =some S->xs[i]? =some x->(A' wb F).own w cs S x
 | [], a, Ss, _, d, _ => ⟨[], [], rfl, by
   cases Ss with
   |nil=>simp
   |cons=>simp at d,λ_ _ _ i _ _ _ _ _ s=>by simp at s⟩
 |x::xs,c::a,S::Ss,m,d,ho=>by
  obtain ⟨P,O,p,k⟩:=h.cv w c S x (ho 0 c S x rfl rfl rfl);obtain ⟨j,Os,l,q,t⟩:=Ij h w xs a Ss (by simpa using m) (by simpa using d) (λi cs n y e f g=>ho (i+1) cs n y (by simpa using e) (by simpa using f) (by simpa using g));refine ⟨P::j,O::Os,by simp [l],?_,λwb F r i cs n y e f g=> ?_⟩
  ·simp only [yl];refine (p.append q).trans ?_;rw [x4,x4];refine List.Perm.append_left _ ?_;rw [<- x4,<- x4];exact List.Perm.append_right _ List.perm_append_comm
  ·cases i with
   |zero=>
    simp only [SD,i8] at e f g;subst e f g;exact k wb F (λb o=>r b (by simp only [yl,g8];exact .inl o))
   |succ i=>exact t wb F (λb o=>r b (by simp only [yl,g8];exact .inr o)) i cs n y (by simpa using e) (by simpa using f) (by simpa using g)
 |_::_,[],_,m,_,_=>by simp at m
 |_::_,_::_,[],_,d,_=>by simp at d
theorem Cv.rowN{g:0<R.sz}{a:∀wb F,0<(A' wb F).sz}(h:Cv R A'):Cv (lx T R g) (λwb F=>lx T (A' wb F) (a wb F)):=
 ⟨λ_ _=>rfl,λw cs S xs j=>by
  obtain ⟨v,rfl,c,Ss,n⟩:=j;obtain ⟨P,Os,l,q,k⟩:=Ij h w xs c Ss n.lc n.ls (λi cs S x m b d=>n.own i cs S x (by simp) m b d);have f:=n.nd;rw [n.hS] at f;obtain ⟨t,o,u⟩:=l6.1 f;have y:=(q.nodup_iff.1 o)
  refine ⟨P.flatten,(dq v).toList++Os.flatten,?_,λwb F p=>⟨v,rfl,c,Os,?_⟩⟩
  ·rw [n.hS]
   grind
  ·refine ⟨by rw [h.sz];exact n.row,n.lc,l,rfl,?_,λ_ _ e=>(by cases e),λi cs r x _ b d s=>k wb F p i cs r x b d s⟩
   grind⟩
theorem St.toPool(m:Cv R Z)(h:St F s w L)(j:Nat)(o:L[j]? =some (itI R cs S G)):
  ∃wb Sp e,St F s w (L.set j (itI (Z wb (coS wb Sp)) cs e G)++[sJ wb Sp]):=by
 have ho:R.own w cs S G:=h.all j _ o;obtain ⟨Sp,e,p,k⟩:=m.cv _ _ _ _ ho;have f:(Sp++e).Nodup:=p.nodup_iff.1 (R.nd _ _ _ _ ho);obtain ⟨q,t,n⟩:=l6.1 f;have g:∀b∈Sp,b<w.heap.size:=λb c=>R.lt _ _ _ _ ho b (p.mem_iff.2 (zal _ c))
 obtain ⟨N,z,i,u⟩:∃N,N<=w.heap.size/\(∀b∈Sp,b<N)/\(N=0\/N-1∈Sp):=by
  clear p k f q n
  induction Sp with
  |nil=>exact ⟨0,Nat.zero_le _,by simp,.inl rfl⟩
  |cons a r v=>
   obtain ⟨N,A,C,D⟩:=v (λb c=>g b (zcm _ c));by_cases x:N<=a
   ·have:=g a zcs;refine ⟨a+1,by omega,λb c=> ?_,.inr (by simp)⟩
    grind
   grind
 have y:(w.heap.extract 0 N).size=N:=by simp;omega
 have d:∀b,b<N->(w.heap.extract 0 N)[b]? =w.heap[b]? :=λb c=>by
  grind
 refine ⟨{w with heap:=w.heap.extract 0 N},Sp,e,?_⟩;refine h.swap j o (A':=itI (Z {w with heap:=w.heap.extract 0 N} (coS {w with heap:=w.heap.extract 0 N} Sp)) cs e G) (B:=sJ {w with heap:=w.heap.extract 0 N} Sp) ?_ t (λb c=>p.mem_iff.2 (zar _ c)) ?_ q (λb c=>p.mem_iff.2 (zal _ c)) ?_
 ·exact k _ _ (λb c=>⟨d b (i b c),λm=>(DN.1 m).2 c⟩)
 ·refine ⟨λb c=>⟨by grind,(d b (i b c)).symm⟩,?_⟩
  grind
 ·intro b c l
  first|exact n b l b c rfl|exact n b c b l rfl
open Go.RowKit
def jz{α:Type}:List (Int×α)->Int->Option α
 |[],_=>none
 |p::r,k=>if p.1==k then some p.2 else jz r k
def mput{α:Type}:List (Int×α)->Int->α->List (Int×α)
 |[],k,x=>[(k,x)]
 |p::r,k,x=>if p.1==k then (k,x)::r else p::mput r k x
def mdel{α:Type}:List (Int×α)->Int->List (Int×α)
 |[],_=>[]
 |p::r,k=>if p.1==k then r else p::mdel r k
def gG{α:Type}:List (Int×α)->Int->Option Nat
 |[],_=>none
 |p::r,k=>if p.1==k then some 0 else (gG r k).map (· +1)
def L5(val:α->Value)(p:Int×α):Value×Value:=(.int .i64 p.1,val p.2)
structure ol {α:Type} (val:α->Value) (m:List (Int×α)) (A:List MapEntry) (clock:Nat):Prop where
 eq:A.map (λe=>(e.key,e.val))=m.map (L5 val)
 born:A.Pairwise (λa b=>a.born<b.born)
 lt:∀e∈A,e.born<clock
def Di(r:Nat)(val:α->Value)(m:List (Int×α)):Item where
 S:=[r]
 Φ w:=∃A clock,w.heap[r]? =some (.map A clock)/\ol val m A.toList clock
 loc w w' h hb:=by
  obtain ⟨A,c,a,b⟩:=hb;exact ⟨A,c,by rw [h r (by simp)];exact a,b⟩
 lt w h x hx:=by
  obtain ⟨A,c,a,b⟩:=h;simp only [i6] at hx;subst hx;exact (x3.1 a).1
theorem ol.cons(h:ol val (a0::m) a1 clock):∃e B,a1=e::B/\e.key=.int .i64 a0.1/\e.val=val a0.2/\ol val m B clock:=by
 obtain ⟨a,b,c⟩:=h;cases a1 with
 |nil=>simp at a
 |cons e B=>
  simp only [t6,List.cons.injEq,L5,p8] at a;exact ⟨e,B,rfl,a.1.1,a.1.2,a.2,(List.pairwise_cons.1 b).2,λx d=>c x (zcm _ d)⟩
theorem ol.nil(h:ol val ([]:List (Int×α)) a1 clock):a1=[]:=by
 have:=h.eq
 simpa using this
theorem CQ:∀{m:List (Int×α)} {A:List MapEntry} {clock i:Nat},ol val m A clock->Instr.findNow (.int kd) (.int .i64 q) A i=some ((gG m q).bind λj=>(jz m q).map λx=>(i+j,val x)):=by
 intro m
 induction m with
 |nil=>intro A clock i h;rw [h.nil];rfl
 |cons p m a=>
  intro A clock i h;obtain ⟨e,B,rfl,b,l,c⟩:=h.cons;unfold Instr.findNow;rw [b];have d:Instr.sameNow (.int kd) (.int .i64 q) (.int .i64 p.1)=some (q==p.1):=by simp [Instr.sameNow]
  rw [d];by_cases f:q=p.1
  ·grind [gG,jz]
  ·have g:(q==p.1)=false:=by simpa using f
   have k:(p.1==q)=false:=by grind
   simp only [g,gG,jz,k,ya,zfe];rw [a c]
   congr 1
   cases gG m q with
   |none=>rfl
   |some j=>cases jz m q with
    |none=>rfl
    |some x=>simp;omega
theorem xn:(gG m q=none↔jz m q=none):=by
 induction m with
 |nil=>simp [gG,jz]
 |cons p m i=>
  unfold gG jz;split
  ·simp
  ·simp [i]
theorem eS(h:jz m q=some G):∃j,gG m q=some j/\m[j]? =some (q,G):=by
 induction m with
 |nil=>cases h
 |cons p m i=>
  unfold jz at h;unfold gG;split at h
  ·rename_i a
   cases h
   refine ⟨0,by simp [a],?_⟩
   grind
  grind
theorem iz(h:jz m q=none):mput m q G=m++[(q,G)]:=by
 induction m with
 |nil=>rfl
 |cons p m i=>
  grind [jz,mput]
theorem nj(h:gG m E=some j):mput m E G=m.set j (E,G):=by
 induction m generalizing j with
 |nil=>cases h
 |cons p m i=>
  unfold gG at h;unfold mput;split at h
  ·grind
  ·rename_i b
   cases a:gG m E with
   |none=>rw [a] at h;cases h
   |some q=>
    grind
theorem uR(h:gG m E=some j):mdel m E=m.eraseIdx j:=by
 induction m generalizing j with
 |nil=>cases h
 |cons p m i=>
  unfold gG at h;unfold mdel;split at h
  ·grind
  ·rename_i b
   cases a:gG m E with
   |none=>rw [a] at h;cases h
   |some q=>
    grind
theorem pV(h:jz m q=none):mdel m q=m:=by
 induction m with
 |nil=>rfl
 |cons p m i=>
  grind [jz,mdel]
theorem ol.len(h:ol val m a1 clock):a1.length=m.length:=by
 have:=congrArg List.length h.eq
 simpa using this
theorem ol.set{clock:Nat}(h:ol val m a1 clock)(b:a1[j]? =some a3):ol val (m.set j (q,G)) (a1.set j {a3 with key:=.int .i64 q,val:=val G}) clock:=by
 refine ⟨?_,?_,λy a=> ?_⟩
 ·rw [yg,yg,h.eq];rfl
 ·have c:=h.born;rw [List.pairwise_iff_getElem] at c |-
  grind
 ·rcases r7 a with a|rfl
  ·exact h.lt y a
  ·exact h.lt a3 (zmg b)
theorem ol.push(h:ol val m a1 clock):ol val (m++[(q,G)]) (a1++[{key:=.int .i64 q,val:=val G,born:=clock}]) (clock+1):=by
 refine ⟨by rw [o7,o7,h.eq];rfl,?_,λy c=> ?_⟩
 ·refine List.pairwise_append.2 ⟨h.born,List.pairwise_singleton _ _,λa e b d=> ?_⟩;simp at d;subst d;exact h.lt a e
 ·rcases g8.1 c with c|c
  ·have:=h.lt y c;omega
  grind
theorem nk{β a:Type}{f:β->a}:∀{l:List β} {j:Nat},(l.eraseIdx j).map f=(l.map f).eraseIdx j
 |[],_=>rfl
 |_::_,0=>rfl
 |x::r,j+1=>by simp only [List.eraseIdx_cons_succ,t6,nk]
theorem ol.erase(h:ol val m a1 clock):ol val (m.eraseIdx j) (a1.eraseIdx j) clock:=by
 refine ⟨by rw [nk,nk,h.eq],h.born.sublist (List.eraseIdx_sublist _ _),λy a=>h.lt y (SO a)⟩
def HD(w:World)(b:Nat)(o:Obj):World:={w with heap:=w.heap.setIfInBounds b o}
theorem dc(h:w.heap[r]? =some (.map A c)):(getObj r).run P w=.ok (.map A c) w:=by simp [getObj,Sem.run,h]
theorem aW(h:P.underlying T=some (.int kd)):(Instr.checkKey a4 10000 T v).run P w=.ok () w:=by
 show (Instr.checkKey a4 (9999+1) T v).run P w=.ok () w;unfold Instr.checkKey;simp [run_underlying h]
theorem oS{k:Int}(h:P.underlying T=some (.int kd))(a:ol val m A.toList clock):
  (Instr.findKey T (.int .i64 k) A.toList).run P w=.ok ((gG m k).bind λj=>(jz m k).map λx=>(j,val x)) w:=by
 unfold Instr.findKey;simp only [Sem.run_bind,run_underlying h,Result.andThen_ok,CQ (kd:=kd) (i:=0) a,yj,Sem.run_pure]
theorem CR:Instr.sameBits n (.int .i64 q) (.int .i64 q)=true:=by
 unfold Instr.sameBits;simp
theorem CS:(Instr.keyThatStays (.int .i64 q) (.int .i64 q)).run P w=.ok (.int .i64 q) w:=by
 unfold Instr.keyThatStays;rw [CR];rfl
theorem nK(h:w.heap[r]? =some (.map A c))(o':Obj):(setObj r o').run P w=.ok () (HD w r o'):=by
 simp [setObj,Sem.run,h,HD]
theorem L6:Chg [r] w (HD w r h):=
 ⟨rfl,rfl,rfl,by simp [HD],λk a b=>by
  grind [HD]⟩
theorem ON(h:w.heap[r]? =some a5):(HD w r o').heap[r]? =some o':=by
 grind [HD]
theorem St.setMap(h:St F s w L)(j:Nat)(a:L[j]? =some (Di r val m))(b:w.heap[r]? =some (.map A c))(d:ol val' m' a6.toList sz):
  St F s (HD w r (.map a6 sz)) (L.set j (Di r val' m')):=
 h.upd j a L6 ⟨a6,sz,ON b,d⟩ (λq e=>.inl e) (by simp [Di])
theorem G8{c:Nat}(h:ol val m A.toList c)(a:m[j]? =some (q,G)):∃e,A[j]? =some e/\e.key=.int .i64 q/\e.val=val G:=by
 have b:(A.toList.map (λe=>(e.key,e.val)))[j]? =(m.map (L5 val))[j]? :=by rw [h.eq]
 grind [L5]
theorem EG(h:A[j]? =some a3):(A.modify j a7).toList=A.toList.set j (a7 a3):=by
 apply o5
 grind
theorem wV{k:Int}{x:α}(a:St F s w L)(j:Nat)(f:L[j]? =some (Di r val m))(l:P.underlying T=some (.map tk te))(g:P.underlying tk=some (.int kd)):
  ∃w',(Instr.mapUpdate T (.map (some r)) (.int .i64 k) (val x)).run P w=.ok () w'/\St F s w' (L.set j (Di r val (mput m k x))):=by
 obtain ⟨A,clock,b,c⟩:=a.all j _ f;have d:=oS (P:=P) (w:=w) (k:=k) g c;cases h:jz m k with
 |none=>
  rw [xn.2 h] at d;refine ⟨HD w r (.map (A.push {key:=.int .i64 k,val:=val x,born:=clock}) (clock+1)),?_,?_⟩
  ·simp only [Instr.mapUpdate,Sem.run_bind,run_underlying l,Result.andThen_ok,dc b,aW g,d,Option.bind_none];rw [nK b]
  ·rw [iz h];exact a.setMap j f b (by rw [Array.toList_push];exact c.push)
 |some y=>
  obtain ⟨q,n,p⟩:=eS h;rw [n,h] at d;obtain ⟨e,o,i,t⟩:=G8 c p;refine ⟨HD w r (.map (A.modify q λe=>{e with key:=.int .i64 k,val:=val x}) clock),?_,?_⟩
  ·simp only [Instr.mapUpdate,Sem.run_bind,run_underlying l,Result.andThen_ok,dc b,aW g,d,zbs,t8,o,Option.getD_some,i,CS];rw [nK b]
  ·rw [nj n];exact a.setMap j f b (by rw [EG o];exact c.set (by grind))
theorem G9{ats:Array TypeId}{k:Int}(a:St F s w L)(j:Nat)(e:L[j]? =some (Di r val m))(g:ats[0]? =some T)(i:P.underlying T=some (.map tk te))(f:P.underlying tk=some (.int kd)):
  ∃w',(Builtin.delete_ ats ty #[.map (some r),.int .i64 k]).run P w=.ok (.tuple #[]) w'/\St F s w' (L.set j (Di r val (mdel m k))):=by
 obtain ⟨A,clock,b,c⟩:=a.all j _ e;have d:=oS (P:=P) (w:=w) (k:=k) f c;cases h:jz m k with
 |none=>
  rw [xn.2 h] at d;refine ⟨HD w r (.map A clock),?_,?_⟩
  ·simp [Builtin.delete_,g,run_underlying i,dc b,aW f,d,nK b]
  ·rw [pV h];exact a.setMap j e b c
 |some y=>
  obtain ⟨q,l,n⟩:=eS h;rw [l,h] at d;refine ⟨HD w r (.map (A.eraseIdxIfInBounds q) clock),?_,?_⟩
  ·simp [Builtin.delete_,g,run_underlying i,dc b,aW f,d,nK b]
  ·rw [uR l];refine a.setMap j e b ?_
   have o:q<A.size:=by
    have:=(zes.1 n).1;have:=c.len;simp at this;omega
   have:(A.eraseIdxIfInBounds q).toList=A.toList.eraseIdx q:=by rw [Array.eraseIdxIfInBounds,dif_pos o];simp
   rw [this];exact c.erase
structure om {α:Type} (w:World) (r:Nat) (R:Rp α) (S:List Nat) (m:List (Int×α)) (ho:Option (Int×Value)) (mv:List (Int×Value)) (Ss:List (List Nat)):Prop where
 map:∃A clock,w.heap[r]? =some (.map A clock)/\ol (λv:Value=>v) mv A.toList clock
 Ub:mv.map (·.1)=m.map (·.1)
 ls:Ss.length=m.length
 hS:S=r::Ss.flatten
 nd:S.Nodup
 out:∀(k:Int)(v:Value)(i:Nat),ho=some (k,v)->gG m k=some i->mv[i]? =some (k,v)/\Ss[i]? =some []
 own:∀(i:Nat)(q:Int×Value)(S':List Nat)(p:Int×α),(∀k u,ho=some (k,u)->gG m k≠some i)->mv[i]? =some q->Ss[i]? =some S'->m[i]? =some p->R.own w [q.2] S' p.2
theorem uS(h:a.Sublist a8):a.flatten.Sublist a8.flatten:=by
 induction h with
 |slnil=>exact List.Sublist.refl _
 |cons x _ i=>exact i.trans (List.sublist_append_right _ _)
 |cons_cons x _ i=>exact List.Sublist.append (List.Sublist.refl _) i
theorem cJ(h:m'.map (·.1)=m.map (·.1))(k:Int):gG m' k=gG m k:=by
 induction m generalizing m' with
 |nil=>simp at h;subst h;rfl
 |cons p m i=>
  cases m' with
  |nil=>cases h
  |cons q m'=>
   grind [gG]
theorem uT(h:gG m q=some i):∃x,jz m q=some x/\m[i]? =some (q,x):=by
 cases a:jz m q with
 |none=>rw [xn.2 a] at h;cases h
 |some x=>
  grind [eS]
theorem om.len(h:om w r R S m ho mv Ss):mv.length=m.length:=by
 have:=congrArg List.length h.Ub
 simpa using this
theorem om.lt(h:om w r R S m ho mv Ss):∀b∈S,b<w.heap.size:=by
 intro b a;rw [h.hS] at a;rcases j9.1 a with rfl|a
 ·obtain ⟨A,c,j,_⟩:=h.map
  grind
 ·obtain ⟨o,d,a⟩:=k9.1 a;obtain ⟨i,e,rfl⟩:=w7.1 d;have j:i<mv.length:=by rw [h.len,<- h.ls];exact e
  have n:i<m.length:=by rw [<- h.ls];exact e
  by_cases l:∃k u,ho=some (k,u)/\gG m k=some i
  ·obtain ⟨k,u,f,g⟩:=l;have:=(h.out k u i f g).2
   grind
  ·exact R.lt _ _ _ _ (h.own i _ _ _ (λk u f g=>l ⟨k,u,f,g⟩) (zeg j) (zeg e) (zeg n)) b a
theorem om.loc(h:om w r R S m ho mv Ss)(e:∀b∈S,w'.heap[b]? =w.heap[b]?):om w' r R S m ho mv Ss:=by
 have f:=h.hS;obtain ⟨A,c,o,j⟩:=h.map;refine ⟨⟨A,c,by grind,j⟩,h.Ub,h.ls,h.hS,h.nd,h.out,λi q a p k l g n=>R.loc w w' _ a _ (λb d=>e b ?_) (h.own i q a p k l g n)⟩;rw [f];exact zcm _ (k9.2 ⟨a,zmg g,d⟩)
def mN(r:Nat)(R:Rp α)(S:List Nat)(m:List (Int×α))(ho:Option (Int×Value)):Item where
 S:=S
 Φ w:=∃mv Ss,om w r R S m ho mv Ss
 loc w w' hb h:=by obtain ⟨mv,Ss,h⟩:=h;exact ⟨mv,Ss,h.loc hb⟩
 lt w h:=by obtain ⟨mv,Ss,h⟩:=h;exact h.lt
theorem om.take{Ss:List (List Nat)}(h:om w r R S m none mv Ss)(C:jz m E=some G):
  ∃v j S2 k,jz mv E=some v/\R.own w [v] S2 G/\om w r R j m (some (E,v)) mv k/\(∀b∈S2,b∈S)/\(∀b∈j,b∈S)/\∀b∈j,b∉S2:=by
 obtain ⟨i,D,x⟩:=eS C;have hl:=(zes.1 x).1;obtain ⟨v,F,l⟩:=uT ((cJ h.Ub E).trans D);have g:i<Ss.length:=by rw [h.ls];exact hl
 have y:=h.nd;rw [h.hS] at y;obtain ⟨I,z⟩:=t9.1 y;have c:=h.own i (E,v) Ss[i] (E,G) (λ_ _ e=>(by cases e)) l (zeg g) x
 have A:∀b∈(Ss.set i []).flatten,b∈Ss.flatten:=λb a=>by
  rcases jU a with a|a
  ·grind
  ·exact a
 have J:(Ss.set i []).flatten.Nodup:=aP z o4 (λ_ _ _ _ b a=>absurd a znm);refine ⟨v,r::(Ss.set i []).flatten,Ss[i],Ss.set i [],F,c,⟨h.map,h.Ub,by rw [k7];exact h.ls,rfl,?_,λN O n e K=> ?_,λn q B p P L o M=> ?_⟩,λb a=> ?_,λb a=> ?_,λb a d=> ?_⟩
 ·grind
 ·grind
 ·rcases vc o with ⟨rfl,rfl⟩|⟨f,o⟩
  ·grind
  ·exact h.own n q B p (λ_ _ e=>(by cases e)) L o M
 ·rw [h.hS];exact zcm _ (k9.2 ⟨Ss[i],yo g,a⟩)
 ·rw [h.hS]
  grind
 ·rcases j9.1 a with rfl|a
  ·exact I (k9.2 ⟨Ss[i],yo g,d⟩)
  ·obtain ⟨B,s,a⟩:=k9.1 a;obtain ⟨n,t,rfl⟩:=w7.1 s;rcases vc (zeg t) with ⟨_,e⟩|⟨f,u⟩
   ·grind
   ·exact pW z f u (zeg g) b a d
theorem om.give(h:om w r R S m ho mv Ss){x:α}(l:∀k u,ho=some (k,u)->k=E)(z:gG m E=some i)(s:R.own w' [v] S2 x)(hd:∀b∈S,b∉S2)
  (B:∀b∈Ss.flatten,w'.heap[b]? =w.heap[b]?) (C:∃A clock,w'.heap[r]? =some (.map A clock)/\ol (λv:Value=>v) (mv.set i (E,v)) A.toList clock):om w' r R (r::(Ss.set i S2).flatten) (m.set i (E,x)) none (mv.set i (E,v)) (Ss.set i S2):=by
 have t:=h.nd;rw [h.hS] at t;obtain ⟨D,F⟩:=t9.1 t;have y:=h.hS;refine ⟨C,by rw [yg,yg,h.Ub],by rw [k7,k7];exact h.ls,rfl,?_,λ_ _ _ e=>(by cases e),λG q n p _ g f j=> ?_⟩
 ·refine t9.2 ⟨λc=> ?_,aP F (R.nd _ _ _ _ s) (λE T _ I b c o=>hd b (by rw [y];exact zcm _ (k9.2 ⟨T,zmg I,o⟩)) c)⟩
  rcases jU c with c|c
  ·exact hd r (by rw [y];exact zcs) c
  ·exact D c
 ·rcases vc f with ⟨rfl,rfl⟩|⟨a,f⟩
  ·rcases vc g with ⟨_,rfl⟩|⟨a,_⟩
   ·rcases vc j with ⟨_,rfl⟩|⟨a,_⟩
    ·exact s
    ·exact absurd rfl a
   ·exact absurd rfl a
  ·rcases vc g with ⟨e,_⟩|⟨_,g⟩
   ·exact absurd e a
   ·rcases vc j with ⟨e,_⟩|⟨_,j⟩
    ·exact absurd e a
    ·refine R.loc w w' _ n _ (λb c=>B b (k9.2 ⟨n,zmg f,c⟩)) (h.own G q n p (λk u e d=> ?_) g f j);rw [l k u e,z] at d;exact a (j6 d).symm
theorem om.come(h:om w r R S m ho mv Ss)(l:∀k u,ho=some (k,u)->k=E)(I:gG m E=none)(n:R.own w' [v] S2 G)(hd:∀b∈S,b∉S2)
  (o:∀b∈Ss.flatten,w'.heap[b]? =w.heap[b]?) (s:∃A clock,w'.heap[r]? =some (.map A clock)/\ol (λv:Value=>v) (mv++[(E,v)]) A.toList clock):om w' r R (r::(Ss++[S2]).flatten) (m++[(E,G)]) none (mv++[(E,v)]) (Ss++[S2]):=by
 have j:=h.nd;rw [h.hS] at j;obtain ⟨J,t⟩:=t9.1 j;have K:=h.hS;have hl:=h.len;have x:=h.ls;refine ⟨s,by rw [o7,o7,h.Ub];rfl,by simp [h.ls],rfl,?_,λ_ _ _ e=>(by cases e),λy q f p _ c g d=> ?_⟩
 ·rw [yx];have z:[S2].flatten=S2:=by simp
  rw [z];refine t9.2 ⟨λi=> ?_,l6.2 ⟨t,R.nd _ _ _ _ n,λa L b i e=>by grind⟩⟩
  grind
 ·rcases bm c with ⟨B,c⟩|⟨B,c⟩
  ·rcases bm g with ⟨C,g⟩|⟨C,g⟩
   ·rcases bm d with ⟨D,d⟩|⟨D,d⟩
    ·refine R.loc w w' _ f _ (λb i=>o b (k9.2 ⟨f,zmg g,i⟩)) (h.own y q f p (λk u e F=> ?_) c g d)
     grind
    ·omega
   ·omega
  grind
theorem om.strike(h:om w r R S m none mv Ss)(y:gG m E=some i)(k:∀b∈Ss.flatten,w'.heap[b]? =w.heap[b]?)(s:∃A clock,w'.heap[r]? =some (.map A clock)/\ol (λv:Value=>v) (mv.eraseIdx i) A.toList clock):
  om w' r R (r::(Ss.eraseIdx i).flatten) (m.eraseIdx i) none (mv.eraseIdx i) (Ss.eraseIdx i):=by
 have l:=h.nd;rw [h.hS] at l;obtain ⟨t,u⟩:=t9.1 l;have n:(Ss.eraseIdx i).flatten.Sublist Ss.flatten:=uS (List.eraseIdx_sublist _ _);have hl:=h.len;have x:=h.ls;refine ⟨s,by rw [nk,nk,h.Ub],?_,rfl,t9.2 ⟨λd=>t (n.subset d),u.sublist n⟩,λ_ _ _ e=>(by cases e),λo q c p _ j g f=> ?_⟩
 ·grind
 ·rw [List.getElem?_eraseIdx] at j g f;split at j
  ·rename_i a
   rw [d7 a] at g f;exact R.loc w w' _ c _ (λb d=>k b (k9.2 ⟨c,zmg g,d⟩)) (h.own o q c p (λ_ _ e=>(by cases e)) j g f)
  ·rename_i a
   rw [d8 a] at g f;exact R.loc w w' _ c _ (λb d=>k b (k9.2 ⟨c,zmg g,d⟩)) (h.own (o+1) q c p (λ_ _ e=>(by cases e)) j g f)
def wc{α:Type}(m:List (Int×α))(k:Int)(x:α):List (Int×α):=match gG m k with
 |none=>m
 |some i=>m.set i (k,x)
theorem sE{k:Int}(h:P.underlying T=some (.int kd))(a:ol (λv:Value=>v) mv A.toList clock):
 (Instr.findKey T (.int .i64 k) A.toList).run P w=.ok ((gG mv k).bind λj=>(jz mv k).map λx=>(j,x)) w:=oS h a
theorem uU(h:m'.map (·.1)=m.map (·.1))(k:Int):(jz m' k).isSome=(jz m k).isSome:=by
 have:=cJ h k;cases a:jz m' k with
 |none=>
  rw [xn.2 a] at this;rw [xn.1 this.symm];rfl
 |some x=>
  obtain ⟨j,b,_⟩:=eS a;rw [b] at this;obtain ⟨y,c,_⟩:=uT this.symm;rw [c];rfl
theorem CT{k:Int}(d:St F s w L)(j:Nat)(n:L[j]? =some (mN r R S m none))(l:Value)(z:∀w,R0.own w [l] [] (a9 none))(A:∀w cs S x,R.own w cs S x->R0.own w cs S (a9 (some x)))(B:∀w cs S x,R0.own w cs S (a9 (some x))->R.own w cs S x):
  ∃v o S2 mv Ss,St F s w (L.set j (mN r R o m (some (k,v)))++[itI R0 [v] S2 (a9 (jz m k))])/\om w r R S m none mv Ss/\(jz mv k).getD l=v:=by
 obtain ⟨mv,Ss,a⟩:=d.all j _ n;cases t:jz m k with
 |none=>
  have f:jz mv k=none:=by
   have:=uU a.Ub k;rw [t] at this;cases f:jz mv k with
   |none=>rfl
   |some v=>rw [f] at this;cases this
  refine ⟨l,S,[],mv,Ss,?_,a,by rw [f];rfl⟩
  have h:om w r R S m (some (k,l)) mv Ss:=⟨a.map,a.Ub,a.ls,a.hS,a.nd,(λM N i e y=>by
   simp only [i8,p8] at e;obtain ⟨rfl,rfl⟩:=e;rw [xn.2 t] at y;cases y),λi q C p _ D E G=>a.own i q C p (λ_ _ e=>(by cases e)) D E G⟩
  exact d.swap j n ⟨mv,Ss,h⟩ h.nd (λb g=>g) (z w) o4 (λb g=>absurd g znm) (λb _ g=>absurd g znm)
 |some x=>
  obtain ⟨v,o,S2,u,f,c,h,I,J,K⟩:=a.take t;exact ⟨v,o,S2,mv,Ss,d.swap j n ⟨mv,u,h⟩ h.nd J (A _ _ _ _ c) (R.nd _ _ _ _ c) I K,a,by rw [f];rfl⟩
theorem OW.mlook{β:Type}(R0:Rp β)(f:Option α->β)(o:St F s w L)(j:Nat)(U:L[j]? =some (mN r R S m none))
  (hl:vr l i=some ⟨some d,.lookup T x y a4,ty,pos,D,gdd⟩) (V:gd l t ⟨some d,.lookup T x y a4,ty,pos,D,gdd⟩=some true) (W:Nat.blt d N=true) (X:look t x=some (.map (some r))) (Y:look t y=some (.int .i64 q))
  (G:P.underlying T=some (.map tk te)) (p:P.underlying tk=some (.int kd)) (z:Value) (B:au P (zeroValue te)=some z) (Z:∀w,R0.own w [z] [] (f none)) (hR:∀w cs S x,R.own w cs S x->R0.own w cs S (f (some x))) (C:∀w cs S x,R0.own w cs S (f (some x))->R.own w cs S x)
  (h:∀v E S2,St F s w (L.set j (mN r R E m (some (q,v)))++[itI R0 [v] S2 (f (jz m q))])->OW P l N Q (i+1) ((d,if a4 then .tuple #[v,.bool (jz m q).isSome] else v)::t) w):OW P l N Q i t w:=by
 obtain ⟨v,E,S2,mv,Ss,b,I,e⟩:=CT (k:=q) o j U z Z hR C;obtain ⟨A,clock,J,hE⟩:=I.map;have g:=sE (P:=P) (w:=w) (k:=q) p hE;have n:=uU I.Ub q;refine k6 hl V rfl W (λa K=> ?_) (h v E S2 b);have M:=K.look X;have O:=K.look Y;cases c:jz mv q with
 |none=>
  rw [xn.2 c] at g;rw [c] at n e;subst e;cases a4<;>simp [execOp,Instr.lookup,run_underlying G,M,O,dc J,aW p,g,qV B,<- n]
 |some u=>
  obtain ⟨i,hp,_⟩:=eS c;rw [hp,c] at g;rw [c] at n e;subst e;cases a4<;>simp [execOp,Instr.lookup,run_underlying G,M,O,dc J,aW p,g,<- n]
theorem uV(h:jz m q=some G):wc m q G=m:=by
 obtain ⟨i,a,b⟩:=eS h;unfold wc;rw [a];apply o5
 grind
theorem St.mback{f:Option α->β}(h:St F s w L)(q j:Nat)(d:Nat.beq q j=false)(n:L[q]? =some (mN r R S m (some (E,v))))(o:L[j]? =some (itI R0 [v] S2 b0))(t:∀w cs S x,R0.own w cs S (f (some x))->R.own w cs S x)
  (z:α) (O:(jz m E).isSome=true->b0=f (some z)):∃y,St F s w ((L.set q (mN r R y (wc m E z) none)).set j nilI):=by
 obtain ⟨mv,Ss,a⟩:=h.all q _ n;have hd:∀b∈S,b∉S2:=h.apart q j _ _ (q9 d) n o;have A:R0.own w [v] S2 b0:=h.all j _ o;have B:=a.hS;cases D:jz m E with
 |none=>
  have k:=xn.2 D;refine ⟨S,h.fuse q j d n o (C:=mN r R S (wc m E z) none) ?_ a.nd (λb c=>.inl c)⟩;unfold wc;rw [k];refine ⟨mv,Ss,a.map,a.Ub,a.ls,a.hS,a.nd,λ_ _ _ e=>(by cases e),λi u y p _ G I J=>a.own i u y p (λK P e M=> ?_) G I J⟩
  grind
 |some x=>
  obtain ⟨i,k,Q⟩:=eS D;obtain ⟨N,_⟩:=a.out E v i rfl k
  have l:mv.set i (E,v)=mv:=by
   apply o5
   grind
  have g:R.own w [v] S2 z:=t _ _ _ _ (by grind);have:=a.give (w':=w) (x:=z) (λK u e=>by grind) k g hd (λ_ _=>rfl) (by rw [l];exact a.map)
  refine ⟨_,h.fuse q j d n o (C:=mN r R (r::(Ss.set i S2).flatten) (wc m E z) none) ?_ this.nd (λb c=> ?_)⟩
  ·unfold wc;rw [k];exact ⟨_,_,this⟩
  ·rcases j9.1 c with rfl|c
   ·exact .inl (by show b∈S;rw [B];exact zcs)
   ·rcases jU c with c|c
    ·exact .inr c
    ·exact .inl (by show b∈S;rw [B];exact zcm _ c)
theorem St.mback0{f:Option α->β}(h:St F s w L)(q j:Nat)(c:Nat.beq q j=false)(g:L[q]? =some (mN r R S m (some (E,v))))(l:L[j]? =some (itI R0 [v] S2 (f (jz m E))))(k:∀w cs S x,R0.own w cs S (f (some x))->R.own w cs S x):
  ∃d,St F s w ((L.set q (mN r R d m none)).set j nilI):=by
 cases n:jz m E with
 |none=>
  obtain ⟨mv,Ss,a⟩:=h.all q _ g;have B:=xn.2 n;refine ⟨S,h.fuse q j c g l (C:=mN r R S m none) ?_ a.nd (λb o=>.inl o)⟩;refine ⟨mv,Ss,a.map,a.Ub,a.ls,a.hS,a.nd,λ_ _ _ e=>(by cases e),λi u d p _ t y z=>a.own i u d p (λD G e A=> ?_) t y z⟩
  grind
 |some x=>
  obtain ⟨d,I⟩:=h.mback (f:=f) q j c g l k x (λ_=>by rw [n])
  grind [uV]
theorem OW.mputN(I:St F s w L)(q j:Nat)(J:Nat.beq q j=false){u:α}(hq:L[q]? =some (mN r R S m ho))(W:∀k' u,ho=some (k',u)->k'=E)(hj:L[j]? =some (itI R [v] S2 u))
  (hl:vr l i=some ⟨none,.mapUpdate T x y z,ty,pos,D,gdd⟩) (hg:gd l t ⟨none,.mapUpdate T x y z,ty,pos,D,gdd⟩=some true) (hx:look t x=some (.map (some r))) (hy:look t y=some (.int .i64 E)) (hz:look t z=some v)
  (ht:P.underlying T=some (.map tk te)) (hk:P.underlying tk=some (.int kd)) (h:∀S' w',St F s w' ((L.set q (mN r R S' (Sx.mput m E u) none)).set j nilI)->OW P l N Q (i+1) t w'):OW P l N Q i t w:=by
 obtain ⟨mv,Ss,M⟩:=I.all q _ hq;have hd:∀b∈S,b∉S2:=I.apart q j _ _ (q9 J) hq hj;have f:R.own w [v] S2 u:=I.all j _ hj;have X:=M.hS;have hn:=M.nd;rw [X] at hn;obtain ⟨n1,_⟩:=t9.1 hn
 have hI:St w [r] w [Di r (λv:Value=>v) mv]:=by
  refine ⟨x6 _ _,λn it g=> ?_,λn it g=> ?_,λn n' a b hne h1 h2=> ?_,λn it g y hy=> ?_⟩
  ·cases n with
   |zero=>simp at g;subst g;exact M.map
   |succ n=>simp at g
  ·cases n with
   |zero=>simp at g;subst g;simp [Di]
   |succ n=>simp at g
  ·cases n with
   |zero=>cases n' with
    |zero=>exact absurd rfl hne
    |succ n'=>simp at h2
   |succ n=>simp at h1
  ·cases n with
   |zero=>simp at g;subst g;exact .inl (by simpa [Di] using hy)
   |succ n=>simp at g
 obtain ⟨w',Y,O⟩:=wV (P:=P) (k:=E) (x:=v) hI 0 rfl ht hk;have o:Chg [r] w w':=O.chg;have K:∃A clock,w'.heap[r]? =some (.map A clock)/\ol (λv:Value=>v) (Sx.mput mv E v) A.toList clock:=O.all 0 _ rfl;have Z:=M.lt;have p:R.own w' [v] S2 u:=R.loc _ _ _ _ _ (λb c=>o.block b (R.lt _ _ _ _ f b c) (by simp only [i6];rintro rfl;exact hd b (by rw [X];exact zcs) c)) f
 have hw:∀b∈Ss.flatten,w'.heap[b]? =w.heap[b]? :=λb c=>o.block b (Z b (by rw [X];exact zcm _ c)) (by simp only [i6];rintro rfl;exact n1 c)
 obtain ⟨d,mv',B,hsub⟩:∃d mv',om w' r R (r::List.flatten d) (Sx.mput m E u) none mv' d/\∀b∈List.flatten d,b∈Ss.flatten\/b∈S2:=by
  cases V:gG m E with
  |none=>
   have U:gG mv E=none:=(cJ M.Ub E).trans V;rw [iz (xn.1 U)] at K;rw [iz (xn.1 V)];refine ⟨_,_,M.come W V p hd hw K,λb c=> ?_⟩;rw [yx] at c;rcases g8.1 c with c|c
   ·exact .inl c
   ·exact .inr (by simpa using c)
  |some n=>
   have U:gG mv E=some n:=(cJ M.Ub E).trans V;rw [nj U] at K;rw [nj V];exact ⟨_,_,M.give W V p hd hw K,λb c=>(jU c).symm⟩
 refine OW.ops hl hg rfl (λa ha=> ?_) (h (r::List.flatten d) w' ?_)
 ·simp [execOp,ha.look hx,ha.look hy,ha.look hz,Y]
 ·have G:∀b∈r::List.flatten d,b∈S\/b∈S2:=λb c=>by
   rcases j9.1 c with rfl|c
   ·exact .inl (by rw [X];exact zcs)
   ·rcases hsub b c with c|c
    ·exact .inl (by rw [X];exact zcm _ c)
    ·exact .inr c
  let A:Item:=⟨r::List.flatten d,λw1=>∀b∈r::List.flatten d,b<w1.heap.size,λw1 w2 c hh b hb2=>by
   have h1:=hh b hb2;have h2:=c b hb2;rw [SG h1] at h2;exact (x3.1 h2).1,λw1 hh=>hh⟩
  have hA:St F s w ((L.set q A).set j nilI):=I.fuse q j J hq hj (C:=A) (λb c=>by
   rcases G b c with c|c
   ·exact Z b c
   ·exact R.lt _ _ _ _ f b c) B.nd G
  have hlq:q<L.length:=(zes.1 hq).1
  have hqA:((L.set q A).set j nilI)[q]? =some A:=by
   rw [SB (λe=>q9 J e.symm),yr hlq]
  have:=hA.upd q hqA (it':=mN r R (r::List.flatten d) (Sx.mput m E u) none) (o.mono (λb c=>by simp only [i6] at c;subst c;exact zcs)) ⟨_,_,B⟩ (λb c=>.inl c) B.nd
  rw [List.set_comm _ _ (λe=>q9 J e.symm),y8] at this;exact this
theorem OW.mdelN(C:St F s w L)(j:Nat)(V:L[j]? =some (mN r R S m none))
  (hl:vr l i=some ⟨none,.call ⟨.builtin .delete,[x,y].toArray,ats.toArray⟩,ty,pos,D,gdd⟩) (hg:gd l t ⟨none,.call ⟨.builtin .delete,[x,y].toArray,ats.toArray⟩,ty,pos,D,gdd⟩=some true) (O:ats[0]? =some T)
  (hx:look t x=some (.map (some r))) (W:look t y=some (.int .i64 E)) (ht:P.underlying T=some (.map tk te)) (hk:P.underlying tk=some (.int kd))
  (h:∀G w',St F s w' (L.set j (mN r R G (Sx.mdel m E) none))->OW P l N Q (i+1) t w'):OW P l N Q i t w:=by
 obtain ⟨mv,Ss,d⟩:=C.all j _ V;have hS:=d.hS;have X:=d.nd;rw [hS] at X;obtain ⟨n1,n2⟩:=t9.1 X
 have hI:St w [r] w [Di r (λv:Value=>v) mv]:=by
  refine ⟨x6 _ _,λn Y I=> ?_,λn Y I=> ?_,λn n' a b hne h1 h2=> ?_,λn Y I y W=> ?_⟩
  ·cases n with
   |zero=>simp at I;subst I;exact d.map
   |succ n=>simp at I
  ·grind [Di]
  ·grind
  grind [Di]
 obtain ⟨w',J,g⟩:=G9 (P:=P) (ty:=ty) (ats:=ats.toArray) (k:=E) hI 0 rfl (by simpa using O) ht hk;have o:Chg [r] w w':=g.chg;have f:∃A clock,w'.heap[r]? =some (.map A clock)/\ol (λv:Value=>v) (Sx.mdel mv E) A.toList clock:=g.all 0 _ rfl;have U:=d.lt;have Z:∀b∈Ss.flatten,w'.heap[b]? =w.heap[b]? :=λb u=>o.block b (U b (by grind)) (by grind)
 obtain ⟨c,K,z,hsub⟩:∃c K,om w' r R (r::List.flatten c) (Sx.mdel m E) none K c/\∀b∈List.flatten c,b∈Ss.flatten:=by
  cases M:gG m E with
  |none=>
   have B:gG mv E=none:=(cJ d.Ub E).trans M;rw [pV (xn.1 B)] at f;rw [pV (xn.1 M)];refine ⟨Ss,mv,⟨f,d.Ub,d.ls,rfl,by grind,λ_ _ _ e=>(by cases e),λi' q G p _ g2 g3 g4=> ?_⟩,λb u=>u⟩;exact R.loc w w' _ G _ (λb u=>Z b (k9.2 ⟨G,zmg g3,u⟩)) (d.own i' q G p (λ_ _ e=>(by cases e)) g2 g3 g4)
  |some n=>
   have B:gG mv E=some n:=(cJ d.Ub E).trans M;rw [uR B] at f;rw [uR M];exact ⟨_,_,d.strike M Z f,λb u=>(uS (List.eraseIdx_sublist _ _)).subset u⟩
 refine OW.opn (v:=.tuple #[]) hl hg rfl (λa ha=> ?_) (h (r::List.flatten c) w' ?_)
 ·simp [execOp,resolve,invoke,builtin,ha.look hx,ha.look W,J]
 ·exact C.upd j V (it':=mN r R (r::List.flatten c) (Sx.mdel m E) none) (o.mono (λb u=>by grind [mN])) ⟨_,_,z⟩ (λb u=>.inl (by
   grind [mN])) z.nd
theorem OW.mnewN{α:Type}(R:Rp α)(c:St F s w L)(hl:vr l i=some ⟨some d,.makeMap T none,ty,pos,D,gdd⟩)(f:gd l t ⟨some d,.makeMap T none,ty,pos,D,gdd⟩=some true)(j:Nat.blt d N=true)
  (h:∀r w',St F s w' (L++[mN r R [r] [] none])->OW P l N Q (i+1) ((d,.map (some r))::t) w'):OW P l N Q i t w:=by
 refine k6 hl f rfl j (w':=w.alloc (.map #[] 0)) (λa _=> ?_) (h w.heap.size _ ?_)
 ·simp [execOp,Instr.makeMap,newObj,Sem.run]
 ·exact c.push (Chg.alloc _ _) ⟨[],[],⟨#[],0,heap_alloc_new _ _,⟨rfl,List.Pairwise.nil,by simp⟩⟩,rfl,rfl,rfl,by simp,λ_ _ _ e=>(by cases e),λi q S p _ g=>by simp at g⟩ (λb k=>by grind [mN]) (by simp [mN])
def JQ(R:Rp α):Rp (List (Int×α)) where
 sz:=1
 own w cs S m:=∃r,cs=[.map (some r)]/\∃mv Ss,om w r R S m none mv Ss
 rd w F m cs:=True/\cs.length=1
 len:=by rintro w cs S m ⟨r,rfl,_⟩;rfl
 loc:=by rintro w w' cs S m a ⟨r,rfl,mv,Ss,h⟩;exact ⟨r,rfl,mv,Ss,h.loc a⟩
 lt:=by rintro w cs S m ⟨r,rfl,mv,Ss,h⟩;exact h.lt
 nd:=by rintro w cs S m ⟨r,rfl,mv,Ss,h⟩;exact h.nd
 see:=by rintro w cs S m F ⟨r,rfl,_⟩ _;exact ⟨trivial,rfl⟩
 rlen:=by rintro w F m cs ⟨_,h⟩;exact h
 Ug:=by rintro w w' F b m cs _ _ h;exact h
open Go.RowKit
def dt(b:Nat)(T:TypeId)(A cs C:List Value):Item:=jT b T (A++(cs++C))
theorem St.prt{L:List Item}(h:St F s w L)(j:Nat)(a:L[j]? =some (dt b T u cs C))(k:Nat)(c:cs[k]? =some v):w.cell? ⟨b,u.length+k,none⟩=some v:=by
 refine h.blk j a ?_
 grind
theorem OW.stP(a:St F s w L)(j:Nat)(g:L[j]? =some (dt b T u cs C))
  (hl:vr l i=some ⟨none,.store e x y,ty,pos,D,gdd⟩) (m:gd l t ⟨none,.store e x y,ty,pos,D,gdd⟩=some true)
  (k:Nat) (n:look t x=some (.pointer (some ⟨b,u.length+k,none⟩))) (o:look t y=some v)
  (p:au P (sizeOf e)=some v.cells.toList.length) (q:eQ v.cells.toList=true) (d:Nat.ble (k+v.cells.toList.length) cs.length=true) (c:List Value) (r:qF cs v.cells.toList k=c)
  (h:∀w',St F s w' (L.set j (dt b T u c C))->OW P l N Q (i+1) t w'):OW P l N Q i t w:=by
 have f:=t5 d;exact OW.stB a j g hl m n o p q (x2 (by grind)) (u++(c++C)) (by grind [nw]) h
theorem OW.stPA{α:Type}(m:St F s w L)(j:Nat)(A:L[j]? =some (dt b T u cs C))
  (hl:vr l i=some ⟨none,.store e x y,ty,pos,D,gdd⟩) (B:gd l t ⟨none,.store e x y,ty,pos,D,gdd⟩=some true) (W:look t x=some (.pointer (some ⟨b,c,none⟩))) (E:look t y=some v)
  (I:au P (sizeOf e)=some v.cells.toList.length) (J:eQ v.cells.toList=true)
  (enc:α->List Value) (K:∀x,(enc x).length=sz) (n:Nat) (a:Nat->α) (p:Nat) (o:cs=cs.take p++(eW enc n a++cs.drop (p+n*sz))) (M:Nat.ble p cs.length=true) (O:ain n q=some r)
  (f:Nat) (R:c=u.length+p+q.toNat*sz+f) (S:Nat.ble (f+v.cells.toList.length) sz=true) (G:α) (z:qF (enc (a r)) v.cells.toList f=enc G)
  (d:List Value) (g:d=cs.take p++(eW enc n (aset a r G)++cs.drop (p+n*sz)))
  (h:∀w',St F s w' (L.set j (dt b T u d C))->OW P l N Q (i+1) t w'):OW P l N Q i t w:=by
 obtain ⟨U,V⟩:=rk enc K n a p o M O S z g;subst R;refine OW.stB (k:=u.length+(p+q.toNat*sz+f)) m j A hl B (by grind) E I J (x2 (by grind)) (u++(d++C)) (by rw [nw V,U]) h
theorem OW.clear(d:St F s w L)(j:Nat)(y:L[j]? =some (jT b T cs))
  (hl:vr l i=some ⟨none,.call ⟨.builtin .clear,[x].toArray,ats.toArray⟩,ty,pos,D,gdd⟩) (B:gd l t ⟨none,.call ⟨.builtin .clear,[x].toArray,ats.toArray⟩,ty,pos,D,gdd⟩=some true) (C:look t x=some (.slice (some ⟨b,sz,none⟩) (n+1) c)) (g:ats[0]? =some tk) (E:P.underlying tk=some (.slice e)) (G:au P (zeroValue e)=some hd) (u:List Value) (k:(Builtin.zeroCells hd.cells (n+1)).toList=u) (I:eQ u=true)
  (m:sz+u.length<=cs.length) (f:List Value) (o:qF cs u sz=f)
  (h:∀w',St F s w' (L.set j (jT b T f))->OW P l N Q (i+1) t w'):OW P l N Q i t w:=by
 have z:=d.all j _ y;have A:=run_storeCells_at (P:=P) b sz T u 0 cs.toArray w z (by simpa using m) (eR I);refine OW.opn (v:=.tuple #[]) hl B rfl (w':=w.setRow b (qF cs.toArray.toList u sz).toArray) (λa J=> ?_) (h _ ?_)
 ·have K:=J.look C;have p:=qV G w;have M:(storeCells ⟨b,sz,none⟩ u).run P w=.ok () (w.setRow b (qF cs.toArray.toList u sz).toArray):=by grind [qF]
  have r:(ats.toArray)[0]? =some tk:=by simpa using g
  simp [execOp,resolve,invoke,builtin,K,Builtin.clear_,r,run_underlying E,p,k,M]
 ·subst o;refine d.upd j y ⟨rfl,rfl,rfl,by simp [World.setRow],λq _ R=>setRow_other w b q _ (by grind [jT])⟩ ?_ (λq O=>.inl O) (by simp [jT]);show (w.setRow b _).heap[b]? =_;rw [setRow_heap w b cs.toArray _ T (0,0) z]
theorem OW.clearP(d:St F s w L)(j:Nat)(p:L[j]? =some (dt b T B cs C))
  (hl:vr l i=some ⟨none,.call ⟨.builtin .clear,[x].toArray,ats.toArray⟩,ty,pos,D,gdd⟩) (q:gd l t ⟨none,.call ⟨.builtin .clear,[x].toArray,ats.toArray⟩,ty,pos,D,gdd⟩=some true)
  (k:Nat) (r:look t x=some (.slice (some ⟨b,B.length+k,none⟩) (n+1) c)) (f:ats[0]? =some tk) (y:P.underlying tk=some (.slice e)) (z:au P (zeroValue e)=some v) (u:List Value) (g:(Builtin.zeroCells v.cells (n+1)).toList=u) (A:eQ u=true)
  (m:Nat.ble (k+u.length) cs.length=true) (a:List Value) (E:qF cs u k=a)
  (h:∀w',St F s w' (L.set j (dt b T B a C))->OW P l N Q (i+1) t w'):OW P l N Q i t w:=by
 have o:=t5 m;exact OW.clear d j p hl q r f y z u g A (by grind) (B++(a++C)) (by grind [nw]) h
structure RdB (w:World) (S:List Nat) (b:Nat) (cs:List Value):Prop where
 out:b∉S
 VD:∀k u,cs[k]? =some u->w.cell? ⟨b,k,none⟩=some u
theorem RdB.cell{L:List Item}{cs:List Value}(h:RdB F s b cs)(a:St F s w L)(k:Nat)(d:cs[k]? =some v):w.cell? ⟨b,k,none⟩=some v:=by
 have c:=h.VD k v d;exact (World.cell?_of_block (a.chg.block b (lW c) h.out)).trans c
theorem RdB.give(h:RdB F s b (v::cs))(a:St F s w L)(ids:List Nat):RdB w (fp (sel L ids)) b (v::cs):=by
 refine ⟨λf=> ?_,λk u g=>h.cell a k g⟩;obtain ⟨j,i,l,c⟩:=vF.1 f;obtain ⟨k,_,d⟩:=eO l;rcases xP d with d|rfl
 ·rcases a.own k i d b c with e|e
  ·exact h.out e
  ·have:=lW (h.VD 0 v rfl);simp only at this;omega
 ·cases c
theorem St.rdB(h:St F s w L)(j:Nat)(a:L[j]? =some (jT b T cs))(ids:List Nat)(c:mem? j ids=false):RdB w (fp (sel L ids)) b cs:=
 ⟨λd=>h.noin j a ids c b (by simp [jT]) d,λk u e=>h.blk j a e⟩
end Go.Sx
