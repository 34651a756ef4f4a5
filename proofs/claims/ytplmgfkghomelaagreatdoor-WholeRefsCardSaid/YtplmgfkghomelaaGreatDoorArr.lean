/- Lemmas. -/
import Derived.Test.YtplmgfkghomelaaGreatDoorPlan
import Derived.Sort.OwnSortedInts
import Derived.Lib.SlicesCompact
set_option linter.all false
namespace Go.Sx
open Go.RowKit
variable {α β β1 β2:Type}{sz c r b i N n clock j o g d p:Nat}{x y z:Operand}{S s S2 ats Sb ids S1 Sp:List Nat}{w F wb w':World}{xs ys:List α}{L a0:List Item}{m:List (Int×α)}{T ty e tk te:TypeId}{v k:Value}{P:Program}{R:Rp α}{cs C u B:List Value}{G:List (Nat×Value)}{enc:α->List Value}{pos:String}{gdd:Option (Nat×Bool)}{Q:Exit->Act->World->Prop}{l:List Oper}{val:α->Value}{A b0:Array MapEntry}{kd ke:IntKind}{q E M:Int}{mv:List (Int×Value)}{f:α->List Value->List Value}{Ss:List (List Nat)}{A1:Rp β1}{ho:Option (Int×Value)}{A2:Rp β2}{A' a4:World->List Nat->Rp α}{R0:Rp β}{t:α}{y1:β1}{D:Array Edge}{h I:Oper}{J:FuncId}{K:Func}{O:ByteArray}{U:Array Value}{ss ts X:List Int}{V:Array Obj}{W:Nat×Nat}{Y Z:Item}{a1:α->β1}{a3:α->β1×β2}{y2:β2}{a5:Int×α}{a6:List MapEntry}{a7:MapEntry}{a8:Bool}{a9 o':Obj}{val':β->Value}{m':List (Int×β)}{b2:MapEntry->MapEntry}{a b3:List (List β)}{b4:Option α->β}{b5:β}
def aset(a:Nat->α)(t:Nat)(v:α):Nat->α:=λi=>if i=t then v else a i
def fa{α:Type}(enc:α->List Value):Nat->(Nat->α)->List Value
 |0,_=>[]
 |n+1,a=>enc (a 0)++fa enc n (λi=>a (i+1))
def ain(n:Nat)(t:Int):Option Nat:=if 0<=t/\t<n then some t.toNat else none
theorem tx(h:ain n q=some i):0<=q/\q<n/\i<n/\q.toNat=i:=by
 grind [ain]
theorem mF(enc:α->List Value):∀(n:Nat)(a:Nat->α),fa enc n a=jO enc ((List.range n).map a):=by
 intro n
 induction n with
 |zero=>intro a;rfl
 |succ n b=>
  intro a;rw [List.range_succ_eq_map,p9,List.map_map];show enc (a 0)++fa enc n (λi=>a (i+1))=enc (a 0)++jO enc _;rw [b];rfl
theorem Am(h:∀x,(enc x).length=sz)(n:Nat)(a:Nat->α):(fa enc n a).length=n*sz:=by
 rw [mF,qO h];simp
theorem Qk(h:∀x,(enc x).length=sz)(b:r<n)(A C:List Value)(a:Nat->α)(d:(enc (a r))[c]? =some v):(A++(fa enc n a++C))[A.length+(r*sz+c)]? =some v:=by
 have e:(jO enc ((List.range n).map a))[r*sz+c]? =some v:=nZ h (x:=a r) (by simp [b]) d;rw [Tu (by omega),show A.length+(r*sz+c)-A.length=r*sz+c by omega,mF]
 grind
theorem KV{α:Type}(a:Nat->α)(v:α):((List.range n).map a).set sz v=(List.range n).map (aset a sz v):=by
 apply o4
 grind [aset]
theorem nP(h:sz+u.length<=B.length):qG (cs++(B++C)) u (cs.length+sz)=cs++(qG B u sz++C):=by
 unfold qG;rw [List.take_append,s9 (by omega),show cs.length+sz-cs.length=sz by omega,Tx (by omega)];rw [TL,yr (l:=cs) (by omega),show cs.length+sz+u.length-cs.length=sz+u.length by omega,List.drop_append_of_le_length (by omega)]
 grind
theorem NZ(h:∀x,(enc x).length=sz)(b:r<n)(A C:List Value)(a:Nat->α)(d:c+u.length<=sz)(e:qG (enc (a r)) u c=enc t):
  qG (A++(fa enc n a++C)) u (A.length+(r*sz+c))=A++(fa enc n (aset a r t)++C):=by
 have hl:=Am h n a;have f:r*sz+sz<=n*sz:=by rw [<- Tw];exact r6 _ b
 rw [nP (by omega),mF,mF,Bt h (x:=a r) (by simp [b]) d e,KV]
theorem FD{α:Type}(j:∀c u,cs[c]? =some u->w.cell? ⟨b,o+c,none⟩=some u)(enc:α->List Value)(d:∀x,(enc x).length=sz)(n:Nat)(a:Nat->α)(p:Nat)
  (h:cs=cs.take p++(fa enc n a++cs.drop (p+n*sz))) (e:Nat.ble p cs.length=true) (f:ain n q=some r):
  ∀c u,(enc (a r))[c]? =some u->w.cell? ⟨b,o+p+q.toNat*sz+c,none⟩=some u:=by
 intro c u g;obtain ⟨k,l,i,rfl⟩:=tx f;have hl:(cs.take p).length=p:=by rw [yw];have:=u5 e;omega
 have:=Qk d i (cs.take p) (cs.drop (p+n*sz)) a g;rw [<- h,hl] at this
 grind
theorem St.arrB{L:List Item}(h:St F s w L)(j:Nat)(e:L[j]? =some (jL b T cs))(enc:α->List Value)(f:∀x,(enc x).length=sz)(n:Nat)(a:Nat->α)(p:Nat)
  (d:cs=cs.take p++(fa enc n a++cs.drop (p+n*sz))) (g:Nat.ble p cs.length=true) {t:Nat} (i:ain n q=some t):
  ∀c u,(enc (a t))[c]? =some u->w.cell? ⟨b,p+q.toNat*sz+c,none⟩=some u:=by
 intro c u k;have:=FD (w:=w) (b:=b) (o:=0) (cs:=cs) (λc u l=>by rw [ya];exact h.blk j e l) enc f n a p d g i c u k
 rwa [ya] at this
theorem rM{α:Type}(enc:α->List Value)(e:∀x,(enc x).length=sz)(n:Nat)(a:Nat->α)(p:Nat)
  (b:cs=cs.take p++(fa enc n a++cs.drop (p+n*sz))) (g:Nat.ble p cs.length=true) (i:ain n q=some r) (j:Nat.ble (c+u.length) sz=true) {t:α} (k:qG (enc (a r)) u c=enc t)
  (h:C=cs.take p++(fa enc n (aset a r t)++cs.drop (p+n*sz))):qG cs u (p+q.toNat*sz+c)=C/\p+q.toNat*sz+c+u.length<=cs.length:=by
 obtain ⟨m,o,f,rfl⟩:=tx i;have hl:(cs.take p).length=p:=by rw [yw];have:=u5 g;omega
 have d:=u5 j;have s:q.toNat*sz+sz<=n*sz:=by rw [<- Tw];exact r6 _ f
 have l:cs.length=p+(n*sz+(cs.drop (p+n*sz)).length):=by
  conv=>lhs;rw [b]
  rw [l8,l8,Am e,hl]
 constructor
 ·rw [h];have:=NZ e f (cs.take p) (cs.drop (p+n*sz)) a d k
  grind
 ·omega
theorem OW.stA{α:Type}(k:St F s w L)(j:Nat)(u:L[j]? =some (jL b T cs))
  (hl:vg l i=some ⟨none,.store e x y,ty,pos,D,gdd⟩) (z:gd l G ⟨none,.store e x y,ty,pos,D,gdd⟩=some true) (A:look G x=some (.pointer (some ⟨b,c,none⟩))) (B:look G y=some v)
  (C:ax P (sizeOf e)=some v.cells.toList.length) (E:eU v.cells.toList=true)
  (enc:α->List Value) (I:∀x,(enc x).length=sz) (n:Nat) (a:Nat->α) (p:Nat) (m:cs=cs.take p++(fa enc n a++cs.drop (p+n*sz))) (J:Nat.ble p cs.length=true) (K:ain n q=some r)
  (f:Nat) (M:c=p+q.toNat*sz+f) (O:Nat.ble (f+v.cells.toList.length) sz=true) (t:α) (o:qG (enc (a r)) v.cells.toList f=enc t)
  (d:List Value) (g:d=cs.take p++(fa enc n (aset a r t)++cs.drop (p+n*sz)))
  (h:∀w',St F s w' (L.set j (jL b T d))->OW P l N Q (i+1) G w'):OW P l N Q i G w:=by
 obtain ⟨R,S⟩:=rM enc I n a p m J K O o g;subst M;exact OW.stB k j u hl z A B C E (x7 S) d R h
theorem OW.stRA{α:Type}{β:Type}(B:St F s w L)(j:Nat){m:β->List Value}{xs:List β}
  (M:L[j]? =some (qb k T m b xs)) (O:k=.slice (some ⟨g,o,none⟩) r c) (u:∀x,(m x).length=b)
  (hl:vg l i=some ⟨none,.store e x y,ty,pos,D,gdd⟩) (R:gd l G ⟨none,.store e x y,ty,pos,D,gdd⟩=some true) {z:β} (S:Sx.idx xs E=some z) (U:look G x=some (.pointer (some ⟨g,clock,none⟩))) (V:look G y=some v)
  (W:ax P (sizeOf e)=some v.cells.toList.length) (X:eU v.cells.toList=true)
  (enc:α->List Value) (Y:∀x,(enc x).length=sz) (n:Nat) (a:Nat->α) (p:Nat) (C:m z=(m z).take p++(fa enc n a++(m z).drop (p+n*sz))) (Z:Nat.ble p (m z).length=true) (hi:ain n q=some d)
  (f:Nat) (hk:clock=o+E.toNat*b+p+q.toNat*sz+f) (hf:Nat.ble (f+v.cells.toList.length) sz=true) (t:α) (I:qG (enc (a d)) v.cells.toList f=enc t)
  (J:β) (A:m J=(m z).take p++(fa enc n (aset a d t)++(m z).drop (p+n*sz)))
  (h:∀w',St F s w' (L.set j (qb k T m b (xs.set E.toNat J)))->OW P l N Q (i+1) G w'):OW P l N Q i G w:=by
 obtain ⟨e1,K⟩:=rM enc Y n a p C Z hi hf I A;rw [u] at K;exact OW.stR B j M O u hl R S (p+q.toNat*sz+f) U (by omega) V W X (x7 K) J e1 h
def Iv(n:Nat)(a:Nat->α):List α:=(List.range n).map a
theorem pu(n:Nat)(a:Nat->α):(Iv n a).length=n:=by simp [Iv]
theorem St.arrRd(h:St F s w L)(j:Nat)(g:L[j]? =some (jL b T cs))(enc:α->List Value)(i:∀x,(enc x).length=sz)(n:Nat)(a:Nat->α)(p:Nat)
  (c:cs=cs.take p++(fa enc n a++cs.drop (p+n*sz))) (k:Nat.ble p cs.length=true) (l:Nat.ble n 9223372036854775807=true) (ids:List Nat) (m:mem? j ids=false):
  Rd w (fp (sel L ids)) (.slice (some ⟨b,p,none⟩) n n) enc sz (Iv n a):=by
 refine ⟨by rw [pu];exact u5 l,some ⟨b,p,none⟩,n,by rw [pu],by grind [pu],λt x f u d o=> ?_⟩
 refine ⟨b,p,rfl,λr=> ?_,?_⟩
 ·exact h.noin j g ids m b (by simp [jL]) r
 ·unfold Iv at d;rw [o8] at d;obtain ⟨y,v,rfl⟩:=yp.1 d
  obtain ⟨e,rfl⟩:t<n/\y=t:=by
   grind
  have:=h.arrB j g enc i n a p c k (q:=(y:Int)) (t:=y) (by simp [ain,e]) f u o
  simpa using this
theorem N0(sz:Nat)(ho:h.op=.slice T x none none none)(c:look G x=some (.pointer (some ⟨b,p,none⟩)))
  (d:P.underlying T=some (.array n e)) (f:ax P (sizeOf e)=some sz):∀a w,Rep N G a->(execOp a.eval h).run P w=.ok (.value (.slice (some ⟨b,p,none⟩) n n)) w:=by
 intro a w g;have i:=g.look c;simp [execOp,ho,Instr.sliceAt,Instr.sliceBounds,Instr.sureAddr,run_underlying d,i,qV f,Addr.add]
theorem N1(sz:Nat)(ho:h.op=.slice T x (some y) (some z) none)(g:look G x=some (.pointer (some ⟨b,p,none⟩)))
  (i:look G y=some (.int kd E)) (j:look G z=some (.int ke q)) (k:xs.length=n) (d:cut xs E q=some ys)
  (l:P.underlying T=some (.array n e)) (m:ax P (sizeOf e)=some sz):∀a w,Rep N G a->(execOp a.eval h).run P w=.ok (.value (.slice (shd (some ⟨b,p,none⟩) n E.toNat sz) ys.length (n-E.toNat))) w:=by
 intro a w c;have o:=c.look g;have r:=c.look i;have s:=c.look j;obtain ⟨t,u,f,_⟩:=bA d;have hl:=kK d;rw [k] at f;have v:0<=q/\q<=(n:Int):=⟨by omega,f⟩
 have A:0<=E/\E<=q:=⟨t,u⟩
 have B:(q.toNat:Int)=q:=by omega
 have C:q.toNat-E.toNat=ys.length:=by omega
 have D:(some (if n=E.toNat then (⟨b,p,none⟩:Addr) else Addr.add ⟨b,p,none⟩ (E.toNat*sz)))=shd (some ⟨b,p,none⟩) n E.toNat sz:=by
  grind [shd]
 simp [execOp,ho,Instr.sliceAt,Instr.sliceBounds,Instr.sliceBound,Instr.sureAddr,run_underlying l,o,r,s,asIntOf,v,A,B,qV m,C,D]
theorem N2(sz:Nat)(ho:h.op=.slice T x none (some z) none)(g:look G x=some (.pointer (some ⟨b,p,none⟩)))
  (i:look G z=some (.int ke q)) (j:xs.length=n) (c:cut xs 0 q=some ys)
  (k:P.underlying T=some (.array n e)) (l:ax P (sizeOf e)=some sz):∀a w,Rep N G a->(execOp a.eval h).run P w=.ok (.value (.slice (some ⟨b,p,none⟩) ys.length n)) w:=by
 intro a w d;have m:=d.look g;have o:=d.look i;obtain ⟨t,u,f,_⟩:=bA c;have hl:=kK c;rw [j] at f;have r:0<=q/\q<=(n:Int):=⟨by omega,f⟩
 have s:q.toNat=ys.length:=by simpa using hl.symm
 simp [execOp,ho,Instr.sliceAt,Instr.sliceBounds,Instr.sliceBound,Instr.sureAddr,run_underlying k,m,o,asIntOf,r,qV l,s,Addr.add]
def GN(x y c:Int):Option (Int×Int):=if 0<=x/\0<=y/\0<=c/\c<=1 then some ((x+y+c)%18446744073709551616,(x+y+c) / 18446744073709551616) else none
theorem Iw{u v:Int}(ho:I.op=.call ⟨.value (.func J),[x,y,z].toArray,ats.toArray⟩)(e:look G x=some (.int .u64 E))(f:look G y=some (.int .u64 q))(g:look G z=some (.int .u64 M))
  (i:P.funcs[J]? =some K) (j:(K.name== "runtime.NumGoroutine")=false) (k:K.body.isNone=true) (l:Extern.findNext K=none) (m:Extern.find K=some add64Entry) (h:GN E q M=some (u,v)):
  ∀a w,Rep N G a->(execOp a.eval I).run P w=.ok (.value (.tuple [.int .u64 u,.int .u64 v].toArray)) w:=by
 intro a w c;have n:=c.look e;have o:=c.look f;have p:=c.look g;unfold GN at h;split at h
 ·rename_i b
  cases h
  have:=run_add64 (P:=P) E q M b.1 b.2.1 b.2.2.1 b.2.2.2 w;have d:=run_callFunc_extern (P:=P) i j k l m #[.int .u64 E,.int .u64 q,.int .u64 M] w;rw [this] at d;have r:a.eval (.func J)=.func (.func J) #[] #[]:=rfl;simp [execOp,ho,resolve,Deferred.ofValue,invoke,n,o,p,r,d,Result.andThen]
 ·cases h
def H4(i:Nat)(s:ByteArray)(p:Nat):Item where
 S:=[i]
 Φ w:=w.heap[i]? =some (.stringIter s p)
 loc w w' hb h:=by rw [hb i (by simp)];exact h
 lt w h b hb:=by
  rw [g8.1 hb];exact (t7.1 h).1
def BT(s:ByteArray)(p:Nat):Int:=((Utf8.decode s p).1:Int)
def oJ(s:ByteArray)(p:Nat):Nat:=p+(Utf8.decode s p).2
theorem OW.srange(c:St F s w L)
  (hl:vg l i=some ⟨some d,.range T x,ty,pos,D,gdd⟩) (f:gd l G ⟨some d,.range T x,ty,pos,D,gdd⟩=some true) (g:Nat.blt d N=true) (j:look G x=some (.string O)) (k:P.underlying T=some .string)
  (h:∀e w',St F s w' (L++[H4 e O 0])->OW P l N Q (i+1) ((d,.pointer (some ⟨e,0,none⟩))::G) w'):OW P l N Q i G w:=by
 refine j6 hl f rfl g (w':=w.iter O 0) (λa m=> ?_) (h w.heap.size _ ?_)
 ·have:=run_range_string (P:=P) w T O k;simp [execOp,m.look j,this]
 ·refine c.push (Chg.alloc _ _) (World.iter_heap w O 0) (λb n=> ?_) (by simp [H4]);rw [g8.1 n];exact k9 _
theorem OW.snext(h:St F s w L)(j:Nat)(f:L[j]? =some (H4 sz O c))
  (hl:vg l i=some ⟨some d,.next x true,ty,pos,D,gdd⟩) (g:gd l G ⟨some d,.next x true,ty,pos,D,gdd⟩=some true) (k:Nat.blt d N=true) (m:look G x=some (.pointer (some ⟨sz,0,none⟩)))
  (o:decide (c<O.size)=true->∀w',St F s w' (L.set j (H4 sz O (oJ O c)))->OW P l N Q (i+1) ((d,.tuple [.bool true,.int .i64 (c:Int),.int .i32 (BT O c)].toArray)::G) w')
  (p:decide (c<O.size)=false->OW P l N Q (i+1) ((d,.tuple [.bool false].toArray)::G) w):OW P l N Q i G w:=by
 have n:w.heap[sz]? =some (.stringIter O c):=h.all j _ f;by_cases b:c<O.size
 ·refine j6 hl g rfl k (w':={w with heap:=w.heap.setIfInBounds sz (.stringIter O (oJ O c))}) (λa e=> ?_) (o (by simp [b]) _ ?_)
  ·simp [execOp,e.look m,Instr.next,getObj,setObj,Sem.run,n,b,Result.andThen,goInt,BT,oJ]
  ·refine h.upd j f ⟨rfl,rfl,rfl,by simp,λq _ t=> ?_⟩ ?_ (λq r=>.inl r) (by simp [H4])
   ·grind [H4]
   ·show (w.heap.setIfInBounds sz _)[sz]? =_
    grind
 ·refine j6 hl g rfl k (w':=w) (λa e=> ?_) (p (by simp [b]));simp [execOp,e.look m,Instr.next,getObj,Sem.run,n,b,Result.andThen]
structure Bor (wb:World) (Sb:List Nat) (w:World) (S:List Nat):Prop where
 size:wb.heap.size<=w.heap.size
 same:∀b,b<wb.heap.size->b∉Sb->w.heap[b]? =wb.heap[b]?
 sub:∀b∈S,b∈Sb\/wb.heap.size<=b
theorem Bor.refl(w:World)(S:List Nat):Bor w S w S:=⟨k9 _,λ_ _ _=>rfl,λ_ h=>.inl h⟩
theorem Bor.on(h:Bor wb Sb F s)(c:St F s w L)(ids:List Nat):Bor wb Sb w (fp (sel L ids)):=by
 have g:=c.chg;refine ⟨t8 h.size g.size,λb e i=> ?_,λb e=> ?_⟩
 ·rw [g.block b (Nat.lt_of_lt_of_le e h.size) (λl=> ?_),h.same b e i];rcases h.sub b l with a|a
  ·exact i a
  ·omega
 ·obtain ⟨j,m,n,d⟩:=vG.1 e;obtain ⟨k,_,f⟩:=eS n;rcases xS f with f|rfl
  ·rcases c.own k m f b d with a|a
   ·exact h.sub b a
   ·exact .inr (t8 h.size a)
  ·cases d
theorem Rd.bor(h:Rd wb Sb v enc sz xs)(a:Bor wb Sb w S):Rd w S v enc sz xs:=h.far a.same a.sub
def Ix(wb:World)(Sb:List Nat)(enc:α->List Value)(sz:Nat):Rp (List α) where
 sz:=1
 own _ cs S xs:=∃v,cs=[v]/\S=[]/\Rd wb Sb v enc sz xs
 rd _ _ xs cs:=∃v,cs=[v]/\Rd wb Sb v enc sz xs
 len:=by rintro w cs S x ⟨v,rfl,_⟩;rfl
 loc:=by rintro w w' cs S x _ h;exact h
 lt:=by rintro w cs S x ⟨v,rfl,rfl,_⟩;simp
 nd:=by rintro w cs S x ⟨v,rfl,rfl,_⟩;exact o5
 see:=by rintro w cs S x F ⟨v,rfl,rfl,h⟩ _;exact ⟨v,rfl,h⟩
 rlen:=by rintro w F x cs ⟨v,rfl,_⟩;rfl
 Vk:=by rintro w w' F a x cs _ _ h;exact h
theorem RdN.bor(b:0<R.sz)(h:RdN wb Sb v R.rd R.sz xs)(a:Bor wb Sb w S):RdN w S v R.rd R.sz xs:=h.far b a.same a.sub
theorem RdN.formB(h:RdN wb Sb v R.rd R.sz xs)(g:Bor wb Sb F s)(i:idx xs q=some t):
  ∃b o c cs,v=.slice (some ⟨b,o,none⟩) xs.length c/\R.rd wb Sb t cs/\∀r u,cs[r]? =some u->∀w' L,St F s w' L->w'.cell? ⟨b,o+q.toNat*R.sz+r,none⟩=some u:=by
 obtain ⟨_,a,c,j,_,k⟩:=h;obtain ⟨_,_,l⟩:=zX i;obtain ⟨cs,m,b,o,n,e,d⟩:=k _ t l;refine ⟨b,o,c,cs,by rw [j,n],m,λr u p w' L f=> ?_⟩;have:=d r u p;exact (World.cell?_of_block ((g.on f []).same b (mr this) e)).trans this
open Go.RowKit Go.Sort Go.Proofs
theorem B5(xs:List Int):jO (zu kd) xs=xs.map (Value.int kd):=by
 induction xs with
 |nil=>rfl
 |cons x r i=>simp only [jO,zu,p9,i];rfl
theorem N8{α β:Type}{enc:α->List Value}{e:β->List Value}{xs:List α}{ys:List β}(h:St w (fp [qb v T enc sz xs]) w [qb v T enc sz xs])(d:w.grownBy w' (cM v))
  (f:dw w' T c k ys.length (jO e ys)) (g:∀b,cM k=some b->cM v=some b):St w (fp [qb v T enc sz xs]) w' [qb k T e c ys]:=
 h.upd (it:=qb v T enc sz xs) (it':=qb k T e c ys) 0 rfl (Chg.grown d (λb a=>by simp [qb,a])) f (λb a=>.inl (by simpa [qb] using g b (by simpa [qb] using a))) xT
theorem Qr(a:w.heap[g]? =some (.cells U e (0,0)))(c:(U.toList.drop o).take ss.length=ss.map (Value.int .i64)):Holds (Value.int .i64) w g o ss.toArray:=by
 intro j d;have h:j<ss.length:=by simpa using d
 refine ⟨?_,by simp [World.frozen?,a]⟩;have b:((U.toList.drop o).take ss.length)[j]? =(ss.map (Value.int .i64))[j]? :=by rw [c]
 rw [List.getElem?_take_of_lt h,TG] at b;simp only [World.cell?,a];simp only [Option.isSome_none,zfe,x5];rw [<- Array.getElem?_toList,b];simp [h]
theorem Si(d:Array Int)(h:w.heap[g]? =some (.cells U e W)):
  (grow (putRow (Value.int .i64) (Sort.ahead w n) g o d) V).heap[g]? =some (.cells (putCells (Value.int .i64) o d U) e W):=by
 have a:g<w.heap.size:=(t7.1 h).1;rw [heap_grow_old _ _ (by simpa using a)];simp [putRow,mapBlock,Sort.ahead,Array.getElem?_modify,h,onCells]
theorem Qs(d:Array Int):w.grownBy (grow (putRow (Value.int .i64) (Sort.ahead w n) g o d) V) (some g):=by
 refine ⟨rfl,rfl,rfl,by simp,λk a h=> ?_⟩;rw [heap_grow_old _ _ (by simpa using a)];have:g≠k:=λe=>h (by rw [e])
 simp [putRow,mapBlock,Sort.ahead,Array.getElem?_modify,this]
theorem N9(c:Array Value)(o:Nat)(ts:List Int)(h:o+ts.length<=c.size):((putCells (Value.int .i64) o ts.toArray c).toList.drop o).take ts.length=ts.map (Value.int .i64):=by
 apply o4
 intro j;by_cases a:j<ts.length
 ·rw [List.getElem?_take_of_lt a,TG,Array.getElem?_toList];simp [putCells,a,show o+j<c.size by omega]
 ·rw [List.getElem?_take_eq_none (by omega),TA (by simp;omega)]
theorem Sj{q:Nat}{os:Array Obj}(a:0<sz)(b:w.heap[g]? =some (.cells U e (0,0)))(i:ts.length<=sz)(c:sz<=maxLen)(d:o+sz*1<=U.size)(f:q<=ts.length):
  dw (grow (putRow (Value.int .i64) (Sort.ahead w n) g o ts.toArray) os) e 1 (.slice (some ⟨g,o,none⟩) q sz) q ((ts.take q).map (Value.int .i64)):=by
 refine ⟨by simp;omega,.inr ⟨g,o,sz,_,rfl,a,Si _ b,by omega,c,by simpa [putCells] using d,?_⟩⟩;have:=N9 U o ts (by omega);have h:=congrArg (List.take q) this;rw [Ty,Nat.min_eq_left f] at h;rw [Nat.mul_one,h,List.map_take]
def xu(p:List Int):Option (List Int):=if p.length<=140737488355328 then some (p.mergeSort λx y=>decide (x<=y)) else none
theorem D1
  (m:∀(c off cap:Nat)(zs:List Int)(w:World),Holds (Value.int .i64) w c off zs.toArray->c<w.heap.size->zs.length<4611686018427387904->
   Calls P J #[.slice (some ⟨c,off,none⟩) zs.length cap] w λe w'=>e=.returned (.tuple #[])/\∃n os,w'=grow (putRow (Value.int .i64) (Sort.ahead w n) c off (zs.mergeSort λx y=>decide (x<=y)).toArray) os)
  (r:∀(p:Option Addr)(cap:Nat)(w:World),Calls P J #[.slice p 0 cap] w λe w'=>e=.returned (.tuple #[])/\w'=w)
  (i:xu ss=some X) (d:St w (fp [qb v T (zu .i64) 1 ss]) w [qb v T (zu .i64) 1 ss]):
  Calls P J [v].toArray w (λe w'=>e=.returned (.tuple #[])/\St w (fp [qb v T (zu .i64) 1 ss]) w' [qb v T (zu .i64) 1 X]):=by
 unfold xu at i;split at i
 ·rename_i A
  cases i
  have f:dw w T 1 v ss.length (jO (zu .i64) ss):=d.all 0 _ rfl;rcases f.2 with ⟨s,a,rfl⟩|⟨g,o,cap,t,rfl,l,j,u,z,k,b⟩
  ·have e:ss=[]:=y6 s;subst e;refine (r a 0 w).mono ?_;rintro e w' ⟨rfl,rfl⟩;exact ⟨rfl,by simpa using d⟩
  ·rw [Nat.mul_one,B5] at b;refine (m g o cap ss w (Qr j b) (t7.1 j).1 (by omega)).mono ?_;rintro e w' ⟨rfl,n,os,rfl⟩;refine ⟨rfl,N8 d (by rw [xJ l];exact Qs _) ?_ (λ_ h=>h)⟩
   have hl:(ss.mergeSort λx y=>decide (x<=y)).length=ss.length:=List.length_mergeSort _;have:=Sj (n:=n) (q:=ss.length) (os:=os) (ts:=ss.mergeSort λx y=>decide (x<=y)) l j (by omega) z k (by omega);rw [s9 (by omega)] at this;rw [B5,hl];exact this
 ·cases i
open Go.RowKit
theorem St.burst2(h:St F s w L)(j:Nat)(o:L[j]? =some Y)(p:vL w Y.S (Z::a0)):St F s w (L.set j Z++a0):=by
 have q:j<L.length:=(zes.1 o).1;have d:=h.burst j o p;have e:(L.set j nilI++Z::a0)=(L.set j nilI++[Z])++a0:=by simp
 rw [e] at d
 have g:∀(m:Nat)(i:Item),(L.set j Z++a0)[m]? =some i->∃m',((L.set j nilI++[Z])++a0)[m']? =some i/\(m=j/\m'=L.length\/m≠j/\m<L.length/\m'=m\/L.length<=m/\m'=m+1):=by
  intro m i f;rcases bz f with ⟨l,c⟩|⟨l,c⟩
  ·rw [j8] at l;rcases ve c with ⟨rfl,rfl⟩|⟨k,c⟩
   ·grind
   ·exact ⟨m,by grind,.inr (.inl ⟨k,l,rfl⟩)⟩
  grind
 refine d.repart (λm i f=> ?_) (λm n a b r f t=> ?_)
 ·obtain ⟨m',c,_⟩:=g m i f;exact ⟨d.all m' i c,d.nd m' i c,λx u=>vG.2 ⟨m',i,c,u⟩⟩
 ·obtain ⟨m',c,z⟩:=g m a f;obtain ⟨v,y,A⟩:=g n b t;exact d.apart m' v a b (by omega) c y
theorem fp3(i:Nat)(h:ids[i]? =some sz)(d:L[sz]? =some Y)(c:b∈Y.S):b∈fp (sel L ids):=by
 refine vG.2 ⟨i,Y,?_,c⟩
 induction ids generalizing i with
 |nil=>simp at h
 |cons a r e=>
  grind [sel]
theorem St.openP0{c:∀t,(enc t).length=sz}(h:St F s w L)(j:Nat)(a:L[j]? =some (itI (vu T (tu enc sz c)) [v] S t)):
  ∃b,v=.pointer (some ⟨b,0,none⟩)/\St F s w (L.set j (jL b T (enc t))):=by
 obtain ⟨b,d,g,e,rfl,i,f,rfl,rfl⟩:=h.all j _ a;cases e;exact ⟨b,rfl,h.turn j a f rfl⟩
theorem St.openQ0{c:∀t,(enc t).length=sz}(h:St F s w L)(j:Nat)(d:L[j]? =some (itI (vu T (tu enc sz c)) [.pointer (some ⟨b,0,none⟩)] S t)):
  St F s w (L.set j (jL b T (enc t))):=by
 obtain ⟨b2,e,a⟩:=h.openP0 j d;cases e;exact a
theorem St.toRow1{b:∀t,(enc t).length=sz}{c:0<sz}(h:St F s w L)(j:Nat)(d:L[j]? =some (itI (nF T enc sz b c) [v] S ys)):St F s w (L.set j (qb v T enc sz ys)):=by
 obtain ⟨u,e,a⟩:=h.toRow j d;cases e;exact a
theorem St.shutP0{c:∀x,(enc x).length=sz}(h:St F s w L)(j:Nat)(a:L[j]? =some (jL b T cs))(x:α)(d:cs=enc x):
  St F s w (L.set j (itI (vu T (tu enc sz c)) [.pointer (some ⟨b,0,none⟩)] [b] x)):=by
 subst d;exact h.turn j a ⟨b,enc x,[],rfl,rfl,by simp,h.all j _ a,rfl,rfl⟩ rfl
theorem sng(h:cs.length=1):∃u,cs=[u]:=by
 cases cs with
 |nil=>cases h
 |cons u r=>cases r with
  |nil=>exact ⟨u,rfl⟩
  |cons _ _=>simp at h
theorem Gv{L:List Item}(h:St F s w L)(d:zT ids=true)(i j:Nat)(a:i≠j)(e:ids[i]? =some sz)(f:ids[j]? =some c)(g:L[sz]? =some Y)(k:L[c]? =some Z):∀b∈Y.S,b∉Z.S:=
 h.apart sz c Y Z (cI d a e f) g k
theorem rG(h:zT (S++s)=true):zT S=true:=by
 induction S with
 |nil=>rfl
 |cons x r i=>
  simp only [Ts,zT] at h |-;split at h
  ·cases h
  ·rename_i a
   have:mem? x r=false:=by
    cases b:mem? x r with
    |false=>rfl
    |true=>rw [mem?_iff.2 (zal _ (mem?_iff.1 b))] at a;cases a
   grind
theorem St.openP1{hl:∀t u,(f t u).length=sz}(h:St F s w L)(j:Nat)(g:L[j]? =some (itI (vu T (qv f sz hl a1 A1)) [v] S t))(z:A1.sz=1):
  ∃b k S1,v=.pointer (some ⟨b,0,none⟩)/\St F s w (L.set j (jL b T (f t [k]))++[itI A1 [k] S1 (a1 t)]):=by
 obtain ⟨b,i,l,m,rfl,e,n,u,rfl,a⟩:=h.all j _ g;cases m;obtain ⟨k,rfl⟩:=sng ((A1.len _ _ _ _ a).trans z);refine ⟨b,k,l,rfl,h.burst2 j g ?_⟩;exact vL.cons n (by simp [jL]) (λc d=>by simp only [jL,g8] at d;subst d;exact zcs) (λc d=>by simp only [jL,g8] at d;subst d;exact e) (vL.cons a (A1.nd _ _ _ _ a) (λb e=>e) (S2:=[]) (by simp) vL.nil (by simp)) (λc d=>zcm _ d)
theorem St.openQ1{hl:∀t u,(f t u).length=sz}(h:St F s w L)(j:Nat)(c:L[j]? =some (itI (vu T (qv f sz hl a1 A1)) [.pointer (some ⟨b,0,none⟩)] S t))(z:A1.sz=1):
  ∃k S1,St F s w (L.set j (jL b T (f t [k]))++[itI A1 [k] S1 (a1 t)]):=by
 obtain ⟨b2,k,S1,d,a⟩:=h.openP1 j c z;cases d;exact ⟨k,S1,a⟩
theorem St.shutP1{hl:∀x u,(f x u).length=sz}(h:St F s w L)(R:Rp α)(p:R=qv f sz hl a1 A1)(j d:Nat)(r:List Nat)(n:zT ([j,d]++r)=true)(e:L[j]? =some (jL b T cs))(g:L[d]? =some (itI A1 [k] S1 y1))(x:α)(q:cs=f x [k])(t:a1 x=y1):
  ∃S,St F s w (sel L r++[itI (vu T R) [.pointer (some ⟨b,0,none⟩)] S x]):=by
 subst p;subst q;have i:=rG n;have v:A1.own w [k] S1 y1:=h.all d _ g
 have a:(qv f sz hl a1 A1).own w (f x [k]) (S1) x:=by
  refine ⟨[k],rfl,?_⟩;rw [t];exact v
 have l:b∉(S1):=by
  intro m;rcases m with m
  ·exact Gv h i 0 1 (by decide) rfl rfl e g b (by simp [jL]) m
 have y:w.heap[b]? =some (.cells (f x [k]).toArray T (0,0)):=h.all j _ e;have o:(vu T (qv f sz hl a1 A1)).own w [.pointer (some ⟨b,0,none⟩)] (b::(S1)) x:=⟨b,_,_,rfl,rfl,l,y,a⟩
 refine ⟨_,h.gather [j,d] r n (C:=itI (vu T (qv f sz hl a1 A1)) _ _ x) o ((vu T (qv f sz hl a1 A1)).nd _ _ _ _ o) (λc hc=> ?_)⟩;rcases j5.1 hc with rfl|hc
 ·exact fp3 0 rfl e (by simp [jL])
 ·exact fp3 1 rfl g hc
theorem St.openP2{hl:∀t u,(f t u).length=sz}(h:St F s w L)(j:Nat)(m:L[j]? =some (itI (vu T (qv f sz hl a3 (jo A1 A2))) [v] S t))(z:A1.sz=1)(n:A2.sz=1):
  ∃b k S1 i S2,v=.pointer (some ⟨b,0,none⟩)/\St F s w (L.set j (jL b T (f t [k,i]))++[itI A1 [k] S1 (a3 t).1,itI A2 [i] S2 (a3 t).2]):=by
 obtain ⟨b,o,r,p,rfl,e,q,u,rfl,x,y,S1,R,rfl,rfl,l,a,d⟩:=h.all j _ m;cases p;obtain ⟨k,rfl⟩:=sng ((A1.len _ _ _ _ a).trans z);obtain ⟨i,rfl⟩:=sng ((A2.len _ _ _ _ d).trans n);refine ⟨b,k,S1,i,R,rfl,h.burst2 j m ?_⟩;exact vL.cons q (by simp [jL]) (λc g=>by simp only [jL,g8] at g;subst g;exact zcs) (λc g=>by simp only [jL,g8] at g;subst g;exact e) (vL.cons a (A1.nd _ _ _ _ a) (λb e=>zal _ e) l (vL.cons d (A2.nd _ _ _ _ d) (λb e=>e) (S2:=[]) (by simp) vL.nil (by simp)) (λb e=>zar _ e)) (λc g=>zcm _ g)
theorem St.openQ2{hl:∀t u,(f t u).length=sz}(h:St F s w L)(j:Nat)(a:L[j]? =some (itI (vu T (qv f sz hl a3 (jo A1 A2))) [.pointer (some ⟨b,0,none⟩)] S t))(z:A1.sz=1)(c:A2.sz=1):
  ∃k S1 v S2,St F s w (L.set j (jL b T (f t [k,v]))++[itI A1 [k] S1 (a3 t).1,itI A2 [v] S2 (a3 t).2]):=by
 obtain ⟨b2,k,S1,v,S2,e,d⟩:=h.openP2 j a z c
 grind
theorem St.shutP2{hl:∀x u,(f x u).length=sz}(h:St F s w L)(R:Rp α)(y:R=qv f sz hl a3 (jo A1 A2))(j i l:Nat)(r:List Nat)(q:zT ([j,i,l]++r)=true)(m:L[j]? =some (jL b T cs))(n:L[i]? =some (itI A1 [k] S1 y1))(o:L[l]? =some (itI A2 [v] S2 y2))(x:α)(z:cs=f x [k,v])(A:a3 x=(y1,y2)):
  ∃S,St F s w (sel L r++[itI (vu T R) [.pointer (some ⟨b,0,none⟩)] S x]):=by
 subst y;subst z;have d:=rG q;have B:A1.own w [k] S1 y1:=h.all i _ n;have D:A2.own w [v] S2 y2:=h.all l _ o
 have g:(qv f sz hl a3 (jo A1 A2)).own w (f x [k,v]) (S1++S2) x:=by
  refine ⟨[k,v],rfl,?_⟩;rw [A];refine ⟨[k],[v],S1,_,rfl,rfl,?_,B,D⟩
  ·intro b a e;rcases e with e
   ·exact Gv h d 1 2 (by decide) rfl rfl n o b a e
 have p:b∉(S1++S2):=by
  intro a;simp only [f8] at a;rcases a with a|a
  ·exact Gv h d 0 1 (by decide) rfl rfl m n b (by simp [jL]) a
  ·exact Gv h d 0 2 (by decide) rfl rfl m o b (by simp [jL]) a
 have E:w.heap[b]? =some (.cells (f x [k,v]).toArray T (0,0)):=h.all j _ m;have t:(vu T (qv f sz hl a3 (jo A1 A2))).own w [.pointer (some ⟨b,0,none⟩)] (b::(S1++S2)) x:=⟨b,_,_,rfl,rfl,p,E,g⟩
 refine ⟨_,h.gather [j,i,l] r q (C:=itI (vu T (qv f sz hl a3 (jo A1 A2))) _ _ x) t ((vu T (qv f sz hl a3 (jo A1 A2))).nd _ _ _ _ t) (λc hc=> ?_)⟩;rcases j5.1 hc with rfl|hc
 ·exact fp3 0 rfl m (by simp [jL])
 ·have hc:c∈S1++S2:=hc;simp only [f8] at hc;rcases hc with hc|hc
  ·exact fp3 1 rfl n hc
  ·exact fp3 2 rfl o hc
open Go.RowKit
def RK{α β a:Type}(A:Rp α)(B:Rp β)(C:Value->Rp a)(n:Nat)(b:∀v,(C v).sz=n):Rp (α×(β×a)) where
 sz:=A.sz+(B.sz+n)
 own w cs S p:=∃k,(jo A (jo B (C k))).own w cs S p/\cs[0]? =some k
 rd w F p cs:=∃k,(jo A (jo B (C k))).rd w F p cs/\cs[0]? =some k
 len:=by
  rintro w cs S x ⟨k,h,_⟩;have:=(jo A (jo B (C k))).len _ _ _ _ h;rw [this];show A.sz+(B.sz+(C k).sz)=_;rw [b]
 loc:=by
  rintro w w' cs S x c ⟨k,h,e⟩;exact ⟨k,(jo A (jo B (C k))).loc w w' _ _ _ c h,e⟩
 lt:=by
  rintro w cs S x ⟨k,h,_⟩;exact (jo A (jo B (C k))).lt _ _ _ _ h
 nd:=by
  rintro w cs S x ⟨k,h,_⟩;exact (jo A (jo B (C k))).nd _ _ _ _ h
 see:=by
  rintro w cs S x F ⟨k,h,e⟩ d;exact ⟨k,(jo A (jo B (C k))).see _ _ _ _ F h d,e⟩
 rlen:=by
  rintro w F x cs ⟨k,h,_⟩;have:=(jo A (jo B (C k))).rlen _ _ _ _ h;rw [this];show A.sz+(B.sz+(C k).sz)=_;rw [b]
 Vk:=by
  rintro w w' F f x cs g i ⟨k,h,e⟩;exact ⟨k,(jo A (jo B (C k))).Vk w w' F f _ _ g i h,e⟩
open Go.RowKit
def wC(T:TypeId)(enc:α->List Value)(sz:Nat)(j:∀x,(enc x).length=sz)(k:0<sz):Rp (List α) where
 sz:=1
 own w cs S xs:=∃v,cs=[v]/\S.Nodup/\(∀b∈S,b<w.heap.size)/\∀w' F,(∀b∈S,w'.heap[b]? =w.heap[b]?)->(∀b∈S,b∉F)->Rd w' F v enc sz xs
 rd w F xs cs:=∃v,cs=[v]/\Rd w F v enc sz xs
 len:=by rintro w cs S x ⟨v,rfl,_⟩;rfl
 loc:=by
  rintro w w' cs S x h ⟨v,rfl,c,hl,d⟩;refine ⟨v,rfl,c,λb a=> ?_,λg F e f=>d g F (λb a=>(e b a).trans (h b a)) f⟩;have:=h b a;rw [TN (hl b a)] at this;exact (t7.1 this).1
 lt:=by rintro w cs S x ⟨v,rfl,_,hl,_⟩;exact hl
 nd:=by rintro w cs S x ⟨v,rfl,c,_⟩;exact c
 see:=by rintro w cs S x F ⟨v,rfl,_,_,d⟩ f;exact ⟨v,rfl,d w F (λ_ _=>rfl) f⟩
 rlen:=by rintro w F x cs ⟨v,rfl,_⟩;rfl
 Vk:=by rintro w w' F l x cs i e ⟨v,rfl,h⟩;exact ⟨v,rfl,h.far i e⟩
theorem FN{hp:0<sz}{he:∀x,(enc x).length=sz}(h:dw w T sz v xs.length (jO enc xs)):(wC T enc sz he hp).own w [v] (cM v).toList xs:=
 ⟨v,rfl,db,h.lt,λw' F a b=>lM he (h.loc a) b⟩
def Nk(α:Type):Rp (List α) where
 sz:=1
 own _ cs S xs:=S=[]/\∃a c,cs=[.slice a xs.length c]
 rd _ _ xs cs:=∃a c,cs=[.slice a xs.length c]
 len:=by rintro w cs S x ⟨_,a,c,rfl⟩;rfl
 loc:=by rintro w w' cs S x _ h;exact h
 lt:=by rintro w cs S x ⟨rfl,_⟩;simp
 nd:=by rintro w cs S x ⟨rfl,_⟩;exact o5
 see:=by rintro w cs S x F ⟨_,h⟩ _;exact h
 rlen:=by rintro w F x cs ⟨a,c,rfl⟩;rfl
 Vk:=by rintro w w' F b x cs _ _ h;exact h
def Lm{α:Type}(T:TypeId)(enc:α->List Value):Rp (Option α) where
 sz:=1
 own w cs S o:=match o with
  |none=>cs=[.pointer none]/\S=[]
  |some x=>∃b A C,cs=[.pointer (some ⟨b,A.length,none⟩)]/\S=[b]/\w.heap[b]? =some (.cells (A++(enc x++C)).toArray T (0,0))
 rd w F o cs:=match o with
  |none=>cs=[.pointer none]
  |some x=>∃b A C,cs=[.pointer (some ⟨b,A.length,none⟩)]/\b∉F/\w.heap[b]? =some (.cells (A++(enc x++C)).toArray T (0,0))
 len:=by
  rintro w cs S (_|x) h
  ·rw [h.1];rfl
  ·obtain ⟨b,A,C,rfl,_⟩:=h;rfl
 loc:=by
  rintro w w' cs S (_|x) a h
  ·exact h
  ·obtain ⟨b,A,C,rfl,rfl,h⟩:=h;exact ⟨b,A,C,rfl,rfl,by rw [a b (by simp)];exact h⟩
 lt:=by
  rintro w cs S (_|x) h
  ·rw [h.2];simp
  ·obtain ⟨b,A,C,rfl,rfl,h⟩:=h;intro c e;simp only [g8] at e;subst e;exact (t7.1 h).1
 nd:=by
  rintro w cs S (_|x) h
  ·rw [h.2];exact o5
  ·obtain ⟨b,A,C,rfl,rfl,h⟩:=h;simp
 see:=by
  rintro w cs S (_|x) F h hF
  ·exact h.1
  ·obtain ⟨b,A,C,rfl,rfl,h⟩:=h;exact ⟨b,A,C,rfl,hF b (by simp),h⟩
 rlen:=by
  rintro w F (_|x) cs h
  ·rw [show cs=[.pointer none] from h];rfl
  ·obtain ⟨b,A,C,rfl,_⟩:=h;rfl
 Vk:=by
  rintro w w' F i (_|x) cs h1 h2 h
  ·exact h
  ·obtain ⟨b,A,C,rfl,a,h⟩:=h;have d:=(t7.1 h).1;refine ⟨b,A,C,rfl,λg=> ?_,by rw [h1 b d a];exact h⟩
   rcases h2 b g with f|f
   ·exact a f
   ·omega
def Oi{i:Type}(G:Rp i)(R:Value->Rp β)(n:Nat)(j:∀v,(R v).sz=n):Rp (i×β) where
 sz:=n
 own w cs S p:=∃u S1 S2,S=S1++S2/\(∀b∈S1,b∉S2)/\G.own w [u] S1 p.1/\(R u).own w cs S2 p.2
 rd w F p cs:=∃u,G.rd w F p.1 [u]/\(R u).rd w F p.2 cs
 len:=by rintro w cs S x ⟨u,S1,S2,rfl,_,_,h⟩;rw [(R u).len _ _ _ _ h,j]
 loc:=by
  rintro w w' cs S x h ⟨u,S1,S2,rfl,g,d,f⟩;exact ⟨u,S1,S2,rfl,g,G.loc w w' _ _ _ (λb c=>h b (zal _ c)) d,(R u).loc w w' _ _ _ (λb c=>h b (zar _ c)) f⟩
 lt:=by
  rintro w cs S x ⟨u,S1,S2,rfl,g,d,f⟩ b c;rcases f8.1 c with c|c
  ·exact G.lt _ _ _ _ d b c
  ·exact (R u).lt _ _ _ _ f b c
 nd:=by
  rintro w cs S x ⟨u,S1,S2,rfl,g,d,f⟩;exact k6.2 ⟨G.nd _ _ _ _ d,(R u).nd _ _ _ _ f,λa q b c e=>by subst e;exact g a q c⟩
 see:=by
  rintro w cs S x F ⟨u,S1,S2,rfl,g,d,f⟩ k;exact ⟨u,G.see _ _ _ _ F d (λb c=>k b (zal _ c)),(R u).see _ _ _ _ F f (λb c=>k b (zar _ c))⟩
 rlen:=by rintro w F x cs ⟨u,_,h⟩;rw [(R u).rlen _ _ _ _ h,j]
 Vk:=by
  rintro w w' F l x cs m o ⟨u,d,f⟩;exact ⟨u,G.Vk w w' F l _ _ m o d,(R u).Vk w w' F l _ _ m o f⟩
def coS(wb:World)(Sp:List Nat):List Nat:=(List.range wb.heap.size).filter λb=> !Sp.contains b
theorem D8:b∈coS wb Sp↔b<wb.heap.size/\b∉Sp:=by simp [coS]
def td(wb:World)(Sp:List Nat):Item where
 S:=Sp
 Φ w:=(∀b∈Sp,b<wb.heap.size/\w.heap[b]? =wb.heap[b]?)/\(wb.heap.size=0\/wb.heap.size-1∈Sp)
 loc w w' h hb:=⟨λb a=>⟨(hb.1 b a).1,(h b a).trans (hb.1 b a).2⟩,hb.2⟩
 lt w h b a:=by
  obtain ⟨d,c⟩:=h.1 b a;rw [TN d] at c;exact (t7.1 c).1
theorem St.pool(h:St F s w L)(j:Nat)(n:L[j]? =some (td wb Sp))(ids:List Nat)(o:mem? j ids=false):Bor wb (coS wb Sp) w (fp (sel L ids)):=by
 have p:=h.all j _ n;refine ⟨?_,λb c q=> ?_,λb c=> ?_⟩
 ·grind [td]
 ·have:b∈Sp:=Classical.byContradiction λd=>q (D8.2 ⟨c,d⟩)
  exact (p.1 b this).2
 ·obtain ⟨i,t,r,a⟩:=vG.1 c;obtain ⟨k,e,f⟩:=eS r;rcases xS f with f|rfl
  ·by_cases g:b<wb.heap.size
   ·refine .inl (D8.2 ⟨g,λd=> ?_⟩)
    have l:k≠j:=by
     rintro rfl;have m:k∈ids:=zmg e;exact absurd o (by rw [mem?_iff.2 m];simp)
    exact h.apart k j _ _ l f n b a d
   grind
  ·cases a
def rdP(R:Rp α)(wb:World)(F:List Nat):Rp α where
 sz:=R.sz
 own _ cs S x:=S=[]/\R.rd wb F x cs
 rd _ _ x cs:=R.rd wb F x cs
 len:=by rintro w cs S x ⟨_,h⟩;exact R.rlen _ _ _ _ h
 loc:=by rintro w w' cs S x _ h;exact h
 lt:=by rintro w cs S x ⟨rfl,_⟩;simp
 nd:=by rintro w cs S x ⟨rfl,_⟩;exact o5
 see:=by rintro w cs S x F ⟨_,h⟩ _;exact h
 rlen:=by rintro w F x cs h;exact R.rlen _ _ _ _ h
 Vk:=by rintro w w' F a x cs _ _ h;exact h
structure Cv {α:Type} (A:Rp α) (B:World->List Nat->Rp α):Prop where
 sz:∀wb F,(B wb F).sz=A.sz
 cv:∀w cs S x,A.own w cs S x->∃Sp So,S.Perm (Sp++So)/\∀wb F,(∀b∈Sp,wb.heap[b]? =w.heap[b]? /\b∉F)->(B wb F).own w cs So x
theorem Cv.refl(A:Rp α):Cv A (λ_ _=>A):=⟨λ_ _=>rfl,λw cs S x h=>⟨[],S,List.Perm.refl _,λ_ _ _=>h⟩⟩
theorem Cv.bor(A:Rp α):Cv A (λwb F=>rdP A wb F):=⟨λ_ _=>rfl,λw cs S x h=>⟨S,[],by simp,λwb F c=>
 ⟨rfl,A.see _ _ _ _ F (A.loc w wb cs S x (λb a=>(c b a).1) h) (λb a=>(c b a).2)⟩⟩⟩
theorem Cv.row{a:0<sz}{c:∀x,(enc x).length=sz}:Cv (nF T enc sz c a) (λwb F=>Ix wb F enc sz):=⟨λ_ _=>rfl,λw cs S x h=>
 ⟨S,[],by simp,λwb F e=>by
  have f:=(nF T enc sz c a).loc w wb cs S x (λb d=>(e b d).1) h;obtain ⟨v,rfl,g⟩:=(nF T enc sz c a).see _ _ _ _ F f (λb d=>(e b d).2);exact ⟨v,rfl,rfl,g⟩⟩⟩
theorem Cv.rowF{a:0<sz}{c:∀x,(enc x).length=sz}:Cv (wC T enc sz c a) (λwb F=>Ix wb F enc sz):=⟨λ_ _=>rfl,λw cs S x h=>
 ⟨S,[],by simp,λwb F e=>by
  have f:=(wC T enc sz c a).loc w wb cs S x (λb d=>(e b d).1) h;obtain ⟨v,rfl,g⟩:=(wC T enc sz c a).see _ _ _ _ F f (λb d=>(e b d).2);exact ⟨v,rfl,rfl,g⟩⟩⟩
theorem Cv.pair{β:Type}{B:Rp β}{a:World->List Nat->Rp β}(d:Cv R A')(e:Cv B a):Cv (jo R B) (λwb F=>jo (A' wb F) (a wb F)):=
 ⟨λwb F=>by show (A' wb F).sz+(a wb F).sz=R.sz+B.sz;rw [d.sz,e.sz],λw cs S x h=>by
  obtain ⟨i,j,S1,S2,rfl,rfl,k,o,l⟩:=h;obtain ⟨P,O,p,m⟩:=d.cv _ _ _ _ o;obtain ⟨n,f,q,r⟩:=e.cv _ _ _ _ l;refine ⟨P++n,O++f,?_,λwb F g=>⟨i,j,O,f,rfl,rfl,λb s b2=> ?_,m wb F (λb c=>g b (zal _ c)),r wb F (λb c=>g b (zar _ c))⟩⟩
  ·grind
  ·exact k b (p.mem_iff.2 (zar _ s)) (q.mem_iff.2 (zar _ b2))⟩
theorem yd:type_of% @Cv.pair:=Cv.pair
theorem Cv.gho{β:Type}{d:Type}{G:Rp d}{R:Value->Rp β}{a:World->List Nat->Value->Rp β}{e:∀v,(R v).sz=n}{c:∀wb F v,(a wb F v).sz=n}(h:∀v,Cv (R v) (λwb F=>a wb F v)):
 Cv (Oi G R n e) (λwb F=>Oi G (a wb F) n (c wb F)):=⟨λwb F=>rfl,λw cs S x f=>by
 obtain ⟨u,S1,S2,rfl,g,o,i⟩:=f;obtain ⟨P,O,p,k⟩:=(h u).cv _ _ _ _ i;refine ⟨P,S1++O,?_,λwb F j=>⟨u,S1,O,rfl,λb l b2=>g b l (p.mem_iff.2 (zar _ b2)),o,k wb F j⟩⟩
 grind⟩
theorem Cv.struct{β:Type}{hl:∀x u,(f x u).length=sz}{g:α->β}{A:Rp β}{A':World->List Nat->Rp β}(h:Cv A A'):Cv (qv f sz hl g A) (λwb F=>qv f sz hl g (A' wb F)):=
 ⟨λ_ _=>rfl,λw cs S x a=>by
  obtain ⟨u,rfl,o⟩:=a;obtain ⟨P,O,p,k⟩:=h.cv _ _ _ _ o;exact ⟨P,O,p,λwb F b=>⟨u,rfl,k wb F b⟩⟩⟩
theorem Cv.ptr(h:Cv R A'):Cv (vu T R) (λwb F=>vu T (A' wb F)):=
 ⟨λ_ _=>rfl,λw cs S x d=>by
  obtain ⟨b,c,i,rfl,rfl,e,f,o⟩:=d;obtain ⟨P,O,p,k⟩:=h.cv _ _ _ _ o;exact ⟨P,b::O,(List.Perm.cons b p).trans List.perm_middle.symm,λwb F a=>⟨b,c,O,rfl,rfl,λg=>e (p.mem_iff.2 (zar _ g)),f,k wb F a⟩⟩⟩
theorem IL{α:Type}{A:Rp α}{A':World->List Nat->Rp α}(h:Cv A A')(w:World):∀(xs:List α)(a:List (List Value))(Ss:List (List Nat)),a.length=xs.length->Ss.length=xs.length->
  (∀(i:Nat) cs S x,a[i]? =some cs->Ss[i]? =some S->xs[i]? =some x->A.own w cs S x)->
  ∃j Os:List (List Nat),Os.length=xs.length/\Ss.flatten.Perm (j.flatten++Os.flatten)/\∀wb F,(∀b∈j.flatten,wb.heap[b]? =w.heap[b]? /\b∉F)->∀(i:Nat) cs S x,a[i]? =some cs->Os[i]? =some S->xs[i]? =some x->(A' wb F).own w cs S x
 | [], a, Ss, _, d, _ => ⟨[], [], rfl, by
   cases Ss with
   |nil=>simp
   |cons=>simp at d,λ_ _ _ i _ _ _ _ _ s=>by simp at s⟩
 |x::xs,c::a,S::Ss,m,d,ho=>by
  obtain ⟨P,O,p,k⟩:=h.cv w c S x (ho 0 c S x rfl rfl rfl);obtain ⟨j,Os,l,q,t⟩:=IL h w xs a Ss (by simpa using m) (by simpa using d) (λi cs n y e f g=>ho (i+1) cs n y (by simpa using e) (by simpa using f) (by simpa using g));refine ⟨P::j,O::Os,by simp [l],?_,λwb F r i cs n y e f g=> ?_⟩
  ·simp only [yb];refine (p.append q).trans ?_;rw [u6,u6];refine List.Perm.append_left _ ?_;rw [<- u6,<- u6];exact List.Perm.append_right _ List.perm_append_comm
  ·cases i with
   |zero=>
    simp only [TH,i6] at e f g;subst e f g;exact k wb F (λb o=>r b (by simp only [yb,f8];exact .inl o))
   |succ i=>exact t wb F (λb o=>r b (by simp only [yb,f8];exact .inr o)) i cs n y (by simpa using e) (by simpa using f) (by simpa using g)
 |_::_,[],_,m,_,_=>by simp at m
 |_::_,_::_,[],_,d,_=>by simp at d
theorem Cv.rowN{g:0<R.sz}{a:∀wb F,0<(A' wb F).sz}(h:Cv R A'):Cv (lO T R g) (λwb F=>lO T (A' wb F) (a wb F)):=
 ⟨λ_ _=>rfl,λw cs S xs j=>by
  obtain ⟨v,rfl,c,Ss,n⟩:=j;obtain ⟨P,Os,l,q,k⟩:=IL h w xs c Ss n.lc n.ls (λi cs S x m b d=>n.own i cs S x (by simp) m b d);have f:=n.nd;rw [n.hS] at f;obtain ⟨t,o,u⟩:=k6.1 f;have y:=(q.nodup_iff.1 o)
  refine ⟨P.flatten,(cM v).toList++Os.flatten,?_,λwb F p=>⟨v,rfl,c,Os,?_⟩⟩
  ·rw [n.hS]
   grind
  ·refine ⟨by rw [h.sz];exact n.row,n.lc,l,rfl,?_,λ_ _ e=>(by cases e),λi cs r x _ b d s=>k wb F p i cs r x b d s⟩
   grind⟩
theorem St.toPool(m:Cv R a4)(h:St F s w L)(j:Nat)(o:L[j]? =some (itI R cs S t)):
  ∃wb Sp e,St F s w (L.set j (itI (a4 wb (coS wb Sp)) cs e t)++[td wb Sp]):=by
 have ho:R.own w cs S t:=h.all j _ o;obtain ⟨Sp,e,p,k⟩:=m.cv _ _ _ _ ho;have f:(Sp++e).Nodup:=p.nodup_iff.1 (R.nd _ _ _ _ ho);obtain ⟨q,u,n⟩:=k6.1 f;have g:∀b∈Sp,b<w.heap.size:=λb c=>R.lt _ _ _ _ ho b (p.mem_iff.2 (zal _ c))
 obtain ⟨N,A,i,v⟩:∃N,N<=w.heap.size/\(∀b∈Sp,b<N)/\(N=0\/N-1∈Sp):=by
  clear p k f q n
  induction Sp with
  |nil=>exact ⟨0,Nat.zero_le _,by simp,.inl rfl⟩
  |cons a r x=>
   obtain ⟨N,C,D,E⟩:=x (λb c=>g b (zcm _ c));by_cases y:N<=a
   ·have:=g a zcs;refine ⟨a+1,by omega,λb c=> ?_,.inr (by simp)⟩
    grind
   grind
 have z:(w.heap.extract 0 N).size=N:=by simp;omega
 have d:∀b,b<N->(w.heap.extract 0 N)[b]? =w.heap[b]? :=λb c=>by
  grind
 refine ⟨{w with heap:=w.heap.extract 0 N},Sp,e,?_⟩;refine h.swap j o (A':=itI (a4 {w with heap:=w.heap.extract 0 N} (coS {w with heap:=w.heap.extract 0 N} Sp)) cs e t) (B:=td {w with heap:=w.heap.extract 0 N} Sp) ?_ u (λb c=>p.mem_iff.2 (zar _ c)) ?_ q (λb c=>p.mem_iff.2 (zal _ c)) ?_
 ·exact k _ _ (λb c=>⟨d b (i b c),λm=>(D8.1 m).2 c⟩)
 ·refine ⟨λb c=>⟨by grind,(d b (i b c)).symm⟩,?_⟩
  grind
 ·intro b c l
  first|exact n b l b c rfl|exact n b c b l rfl
open Go.RowKit
def ja{α:Type}:List (Int×α)->Int->Option α
 |[],_=>none
 |p::r,k=>if p.1==k then some p.2 else ja r k
def mput{α:Type}:List (Int×α)->Int->α->List (Int×α)
 |[],k,x=>[(k,x)]
 |p::r,k,x=>if p.1==k then (k,x)::r else p::mput r k x
def mdel{α:Type}:List (Int×α)->Int->List (Int×α)
 |[],_=>[]
 |p::r,k=>if p.1==k then r else p::mdel r k
def gO{α:Type}:List (Int×α)->Int->Option Nat
 |[],_=>none
 |p::r,k=>if p.1==k then some 0 else (gO r k).map (· +1)
def C8(val:α->Value)(p:Int×α):Value×Value:=(.int .i64 p.1,val p.2)
structure oa {α:Type} (val:α->Value) (m:List (Int×α)) (A:List MapEntry) (clock:Nat):Prop where
 eq:A.map (λe=>(e.key,e.val))=m.map (C8 val)
 born:A.Pairwise (λa b=>a.born<b.born)
 lt:∀e∈A,e.born<clock
def DE(r:Nat)(val:α->Value)(m:List (Int×α)):Item where
 S:=[r]
 Φ w:=∃A clock,w.heap[r]? =some (.map A clock)/\oa val m A.toList clock
 loc w w' h hb:=by
  obtain ⟨A,c,a,b⟩:=hb;exact ⟨A,c,by rw [h r (by simp)];exact a,b⟩
 lt w h x hx:=by
  obtain ⟨A,c,a,b⟩:=h;simp only [g8] at hx;subst hx;exact (t7.1 a).1
theorem oa.cons(h:oa val (a5::m) a6 clock):∃e B,a6=e::B/\e.key=.int .i64 a5.1/\e.val=val a5.2/\oa val m B clock:=by
 obtain ⟨a,b,c⟩:=h;cases a6 with
 |nil=>simp at a
 |cons e B=>
  simp only [p9,List.cons.injEq,C8,o7] at a;exact ⟨e,B,rfl,a.1.1,a.1.2,a.2,(List.pairwise_cons.1 b).2,λx d=>c x (zcm _ d)⟩
theorem oa.nil(h:oa val ([]:List (Int×α)) a6 clock):a6=[]:=by
 have:=h.eq
 simpa using this
theorem C9:∀{m:List (Int×α)} {A:List MapEntry} {clock i:Nat},oa val m A clock->Instr.findNow (.int kd) (.int .i64 q) A i=some ((gO m q).bind λj=>(ja m q).map λx=>(i+j,val x)):=by
 intro m
 induction m with
 |nil=>intro A clock i h;rw [h.nil];rfl
 |cons p m a=>
  intro A clock i h;obtain ⟨e,B,rfl,b,l,c⟩:=h.cons;unfold Instr.findNow;rw [b];have d:Instr.sameNow (.int kd) (.int .i64 q) (.int .i64 p.1)=some (q==p.1):=by simp [Instr.sameNow]
  rw [d];by_cases f:q=p.1
  ·grind [gO,ja]
  ·have g:(q==p.1)=false:=by simpa using f
   have k:(p.1==q)=false:=by grind
   simp only [g,gO,ja,k,x5,zfe];rw [a c]
   congr 1
   cases gO m q with
   |none=>rfl
   |some j=>cases ja m q with
    |none=>rfl
    |some x=>simp;omega
theorem xt:(gO m q=none↔ja m q=none):=by
 induction m with
 |nil=>simp [gO,ja]
 |cons p m i=>
  unfold gO ja;split
  ·simp
  ·simp [i]
theorem eW(h:ja m q=some t):∃j,gO m q=some j/\m[j]? =some (q,t):=by
 induction m with
 |nil=>cases h
 |cons p m i=>
  unfold ja at h;unfold gO;split at h
  ·rename_i a
   cases h
   refine ⟨0,by simp [a],?_⟩
   grind
  grind
theorem iK(h:ja m q=none):mput m q t=m++[(q,t)]:=by
 induction m with
 |nil=>rfl
 |cons p m i=>
  grind [ja,mput]
theorem nD(h:gO m E=some j):mput m E t=m.set j (E,t):=by
 induction m generalizing j with
 |nil=>cases h
 |cons p m i=>
  unfold gO at h;unfold mput;split at h
  ·grind
  ·rename_i b
   cases a:gO m E with
   |none=>rw [a] at h;cases h
   |some q=>
    grind
theorem uX(h:gO m E=some j):mdel m E=m.eraseIdx j:=by
 induction m generalizing j with
 |nil=>cases h
 |cons p m i=>
  unfold gO at h;unfold mdel;split at h
  ·grind
  ·rename_i b
   cases a:gO m E with
   |none=>rw [a] at h;cases h
   |some q=>
    grind
theorem rE(h:ja m q=none):mdel m q=m:=by
 induction m with
 |nil=>rfl
 |cons p m i=>
  grind [ja,mdel]
theorem oa.len(h:oa val m a6 clock):a6.length=m.length:=by
 have:=congrArg List.length h.eq
 simpa using this
theorem oa.set{clock:Nat}(h:oa val m a6 clock)(b:a6[j]? =some a7):oa val (m.set j (q,t)) (a6.set j {a7 with key:=.int .i64 q,val:=val t}) clock:=by
 refine ⟨?_,?_,λy a=> ?_⟩
 ·rw [yo,yo,h.eq];rfl
 ·have c:=h.born;rw [List.pairwise_iff_getElem] at c |-
  grind
 ·rcases r9 a with a|rfl
  ·exact h.lt y a
  ·exact h.lt a7 (zmg b)
theorem oa.push(h:oa val m a6 clock):oa val (m++[(q,t)]) (a6++[{key:=.int .i64 q,val:=val t,born:=clock}]) (clock+1):=by
 refine ⟨by rw [k8,k8,h.eq];rfl,?_,λy c=> ?_⟩
 ·refine List.pairwise_append.2 ⟨h.born,List.pairwise_singleton _ _,λa e b d=> ?_⟩;simp at d;subst d;exact h.lt a e
 ·rcases f8.1 c with c|c
  ·have:=h.lt y c;omega
  grind
theorem nE{β a:Type}{f:β->a}:∀{l:List β} {j:Nat},(l.eraseIdx j).map f=(l.map f).eraseIdx j
 |[],_=>rfl
 |_::_,0=>rfl
 |x::r,j+1=>by simp only [List.eraseIdx_cons_succ,p9,nE]
theorem oa.erase(h:oa val m a6 clock):oa val (m.eraseIdx j) (a6.eraseIdx j) clock:=by
 refine ⟨by rw [nE,nE,h.eq],h.born.sublist (List.eraseIdx_sublist _ _),λy a=>h.lt y (TV a)⟩
def H8(w:World)(b:Nat)(o:Obj):World:={w with heap:=w.heap.setIfInBounds b o}
theorem dd(h:w.heap[r]? =some (.map A c)):(getObj r).run P w=.ok (.map A c) w:=by simp [getObj,Sem.run,h]
theorem aZ(h:P.underlying T=some (.int kd)):(Instr.checkKey a8 10000 T v).run P w=.ok () w:=by
 show (Instr.checkKey a8 (9999+1) T v).run P w=.ok () w;unfold Instr.checkKey;simp [run_underlying h]
theorem pp{k:Int}(h:P.underlying T=some (.int kd))(a:oa val m A.toList clock):
  (Instr.findKey T (.int .i64 k) A.toList).run P w=.ok ((gO m k).bind λj=>(ja m k).map λx=>(j,val x)) w:=by
 unfold Instr.findKey;simp only [Sem.run_bind,run_underlying h,Result.andThen_ok,C9 (kd:=kd) (i:=0) a,ya,Sem.run_pure]
theorem Da:Instr.sameBits n (.int .i64 q) (.int .i64 q)=true:=by
 unfold Instr.sameBits;simp
theorem Db:(Instr.keyThatStays (.int .i64 q) (.int .i64 q)).run P w=.ok (.int .i64 q) w:=by
 unfold Instr.keyThatStays;rw [Da];rfl
theorem ob(h:w.heap[r]? =some (.map A c))(o':Obj):(setObj r o').run P w=.ok () (H8 w r o'):=by
 simp [setObj,Sem.run,h,H8]
theorem MC:Chg [r] w (H8 w r a9):=
 ⟨rfl,rfl,rfl,by simp [H8],λk h a=>by
  grind [H8]⟩
theorem PB(h:w.heap[r]? =some a9):(H8 w r o').heap[r]? =some o':=by
 grind [H8]
theorem St.setMap(h:St F s w L)(j:Nat)(a:L[j]? =some (DE r val m))(b:w.heap[r]? =some (.map A c))(d:oa val' m' b0.toList sz):
  St F s (H8 w r (.map b0 sz)) (L.set j (DE r val' m')):=
 h.upd j a MC ⟨b0,sz,PB b,d⟩ (λq e=>.inl e) (by simp [DE])
theorem Hy{c:Nat}(h:oa val m A.toList c)(a:m[j]? =some (q,t)):∃e,A[j]? =some e/\e.key=.int .i64 q/\e.val=val t:=by
 have b:(A.toList.map (λe=>(e.key,e.val)))[j]? =(m.map (C8 val))[j]? :=by rw [h.eq]
 grind [C8]
theorem E4(h:A[j]? =some a7):(A.modify j b2).toList=A.toList.set j (b2 a7):=by
 apply o4
 grind
theorem Af{k:Int}{x:α}(a:St F s w L)(j:Nat)(f:L[j]? =some (DE r val m))(l:P.underlying T=some (.map tk te))(g:P.underlying tk=some (.int kd)):
  ∃w',(Instr.mapUpdate T (.map (some r)) (.int .i64 k) (val x)).run P w=.ok () w'/\St F s w' (L.set j (DE r val (mput m k x))):=by
 obtain ⟨A,clock,b,c⟩:=a.all j _ f;have d:=pp (P:=P) (w:=w) (k:=k) g c;cases h:ja m k with
 |none=>
  rw [xt.2 h] at d;refine ⟨H8 w r (.map (A.push {key:=.int .i64 k,val:=val x,born:=clock}) (clock+1)),?_,?_⟩
  ·simp only [Instr.mapUpdate,Sem.run_bind,run_underlying l,Result.andThen_ok,dd b,aZ g,d,Option.bind_none];rw [ob b]
  ·rw [iK h];exact a.setMap j f b (by rw [Array.toList_push];exact c.push)
 |some y=>
  obtain ⟨q,n,p⟩:=eW h;rw [n,h] at d;obtain ⟨e,o,i,t⟩:=Hy c p;refine ⟨H8 w r (.map (A.modify q λe=>{e with key:=.int .i64 k,val:=val x}) clock),?_,?_⟩
  ·simp only [Instr.mapUpdate,Sem.run_bind,run_underlying l,Result.andThen_ok,dd b,aZ g,d,zbs,t6,o,Option.getD_some,i,Db];rw [ob b]
  ·rw [nD n];exact a.setMap j f b (by rw [E4 o];exact c.set (by grind))
theorem Hz{ats:Array TypeId}{k:Int}(a:St F s w L)(j:Nat)(e:L[j]? =some (DE r val m))(g:ats[0]? =some T)(i:P.underlying T=some (.map tk te))(f:P.underlying tk=some (.int kd)):
  ∃w',(Builtin.delete_ ats ty #[.map (some r),.int .i64 k]).run P w=.ok (.tuple #[]) w'/\St F s w' (L.set j (DE r val (mdel m k))):=by
 obtain ⟨A,clock,b,c⟩:=a.all j _ e;have d:=pp (P:=P) (w:=w) (k:=k) f c;cases h:ja m k with
 |none=>
  rw [xt.2 h] at d;refine ⟨H8 w r (.map A clock),?_,?_⟩
  ·simp [Builtin.delete_,g,run_underlying i,dd b,aZ f,d,ob b]
  ·rw [rE h];exact a.setMap j e b c
 |some y=>
  obtain ⟨q,l,n⟩:=eW h;rw [l,h] at d;refine ⟨H8 w r (.map (A.eraseIdxIfInBounds q) clock),?_,?_⟩
  ·simp [Builtin.delete_,g,run_underlying i,dd b,aZ f,d,ob b]
  ·rw [uX l];refine a.setMap j e b ?_
   have o:q<A.size:=by
    have:=(zes.1 n).1;have:=c.len;simp at this;omega
   have:(A.eraseIdxIfInBounds q).toList=A.toList.eraseIdx q:=by rw [Array.eraseIdxIfInBounds,dif_pos o];simp
   rw [this];exact c.erase
structure om {α:Type} (w:World) (r:Nat) (R:Rp α) (S:List Nat) (m:List (Int×α)) (ho:Option (Int×Value)) (mv:List (Int×Value)) (Ss:List (List Nat)):Prop where
 map:∃A clock,w.heap[r]? =some (.map A clock)/\oa (λv:Value=>v) mv A.toList clock
 Vc:mv.map (·.1)=m.map (·.1)
 ls:Ss.length=m.length
 hS:S=r::Ss.flatten
 nd:S.Nodup
 out:∀(k:Int)(v:Value)(i:Nat),ho=some (k,v)->gO m k=some i->mv[i]? =some (k,v)/\Ss[i]? =some []
 own:∀(i:Nat)(q:Int×Value)(S':List Nat)(p:Int×α),(∀k u,ho=some (k,u)->gO m k≠some i)->mv[i]? =some q->Ss[i]? =some S'->m[i]? =some p->R.own w [q.2] S' p.2
theorem uY(h:a.Sublist b3):a.flatten.Sublist b3.flatten:=by
 induction h with
 |slnil=>exact List.Sublist.refl _
 |cons x _ i=>exact i.trans (List.sublist_append_right _ _)
 |cons_cons x _ i=>exact List.Sublist.append (List.Sublist.refl _) i
theorem cJ(h:m'.map (·.1)=m.map (·.1))(k:Int):gO m' k=gO m k:=by
 induction m generalizing m' with
 |nil=>simp at h;subst h;rfl
 |cons p m i=>
  cases m' with
  |nil=>cases h
  |cons q m'=>
   grind [gO]
theorem uZ(h:gO m q=some i):∃x,ja m q=some x/\m[i]? =some (q,x):=by
 cases a:ja m q with
 |none=>rw [xt.2 a] at h;cases h
 |some x=>
  grind [eW]
theorem om.len(h:om w r R S m ho mv Ss):mv.length=m.length:=by
 have:=congrArg List.length h.Vc
 simpa using this
theorem om.lt(h:om w r R S m ho mv Ss):∀b∈S,b<w.heap.size:=by
 intro b a;rw [h.hS] at a;rcases j5.1 a with rfl|a
 ·obtain ⟨A,c,j,_⟩:=h.map
  grind
 ·obtain ⟨o,d,a⟩:=j9.1 a;obtain ⟨i,e,rfl⟩:=w6.1 d;have j:i<mv.length:=by rw [h.len,<- h.ls];exact e
  have n:i<m.length:=by rw [<- h.ls];exact e
  by_cases l:∃k u,ho=some (k,u)/\gO m k=some i
  ·obtain ⟨k,u,f,g⟩:=l;have:=(h.out k u i f g).2
   grind
  ·exact R.lt _ _ _ _ (h.own i _ _ _ (λk u f g=>l ⟨k,u,f,g⟩) (zeg j) (zeg e) (zeg n)) b a
theorem om.loc(h:om w r R S m ho mv Ss)(e:∀b∈S,w'.heap[b]? =w.heap[b]?):om w' r R S m ho mv Ss:=by
 have f:=h.hS;obtain ⟨A,c,o,j⟩:=h.map;refine ⟨⟨A,c,by grind,j⟩,h.Vc,h.ls,h.hS,h.nd,h.out,λi q a p k l g n=>R.loc w w' _ a _ (λb d=>e b ?_) (h.own i q a p k l g n)⟩;rw [f];exact zcm _ (j9.2 ⟨a,zmg g,d⟩)
def mN(r:Nat)(R:Rp α)(S:List Nat)(m:List (Int×α))(ho:Option (Int×Value)):Item where
 S:=S
 Φ w:=∃mv Ss,om w r R S m ho mv Ss
 loc w w' hb h:=by obtain ⟨mv,Ss,h⟩:=h;exact ⟨mv,Ss,h.loc hb⟩
 lt w h:=by obtain ⟨mv,Ss,h⟩:=h;exact h.lt
theorem om.take{Ss:List (List Nat)}(h:om w r R S m none mv Ss)(C:ja m E=some t):
  ∃v S1 S2 j,ja mv E=some v/\R.own w [v] S2 t/\om w r R S1 m (some (E,v)) mv j/\(∀b∈S2,b∈S)/\(∀b∈S1,b∈S)/\∀b∈S1,b∉S2:=by
 obtain ⟨i,D,x⟩:=eW C;have hl:=(zes.1 x).1;obtain ⟨v,F,k⟩:=uZ ((cJ h.Vc E).trans D);have g:i<Ss.length:=by rw [h.ls];exact hl
 have y:=h.nd;rw [h.hS] at y;obtain ⟨G,z⟩:=q7.1 y;have c:=h.own i (E,v) Ss[i] (E,t) (λ_ _ e=>(by cases e)) k (zeg g) x
 have A:∀b∈(Ss.set i []).flatten,b∈Ss.flatten:=λb a=>by
  rcases jX a with a|a
  ·grind
  ·exact a
 have I:(Ss.set i []).flatten.Nodup:=aS z o5 (λ_ _ _ _ b a=>absurd a znm);refine ⟨v,r::(Ss.set i []).flatten,Ss[i],Ss.set i [],F,c,⟨h.map,h.Vc,by rw [j8];exact h.ls,rfl,?_,λM N l e J=> ?_,λl q B p O K n L=> ?_⟩,λb a=> ?_,λb a=> ?_,λb a d=> ?_⟩
 ·grind
 ·grind
 ·rcases ve n with ⟨rfl,rfl⟩|⟨f,n⟩
  ·grind
  ·exact h.own l q B p (λ_ _ e=>(by cases e)) K n L
 ·rw [h.hS];exact zcm _ (j9.2 ⟨Ss[i],yi g,a⟩)
 ·rw [h.hS]
  grind
 ·rcases j5.1 a with rfl|a
  ·exact G (j9.2 ⟨Ss[i],yi g,d⟩)
  ·obtain ⟨B,o,a⟩:=j9.1 a;obtain ⟨l,s,rfl⟩:=w6.1 o;rcases ve (zeg s) with ⟨_,e⟩|⟨f,u⟩
   ·grind
   ·exact rF z f u (zeg g) b a d
theorem om.give(h:om w r R S m ho mv Ss){x:α}(l:∀k u,ho=some (k,u)->k=E)(B:gO m E=some i)(s:R.own w' [v] S2 x)(t:∀b∈S,b∉S2)
  (C:∀b∈Ss.flatten,w'.heap[b]? =w.heap[b]?) (D:∃A clock,w'.heap[r]? =some (.map A clock)/\oa (λv:Value=>v) (mv.set i (E,v)) A.toList clock):om w' r R (r::(Ss.set i S2).flatten) (m.set i (E,x)) none (mv.set i (E,v)) (Ss.set i S2):=by
 have y:=h.nd;rw [h.hS] at y;obtain ⟨F,G⟩:=q7.1 y;have z:=h.hS;refine ⟨D,by rw [yo,yo,h.Vc],by rw [j8,j8];exact h.ls,rfl,?_,λ_ _ _ e=>(by cases e),λI q n p _ g f j=> ?_⟩
 ·refine q7.2 ⟨λc=> ?_,aS G (R.nd _ _ _ _ s) (λE T _ J b c o=>t b (by rw [z];exact zcm _ (j9.2 ⟨T,zmg J,o⟩)) c)⟩
  rcases jX c with c|c
  ·exact t r (by rw [z];exact zcs) c
  ·exact F c
 ·rcases ve f with ⟨rfl,rfl⟩|⟨a,f⟩
  ·rcases ve g with ⟨_,rfl⟩|⟨a,_⟩
   ·rcases ve j with ⟨_,rfl⟩|⟨a,_⟩
    ·exact s
    ·exact absurd rfl a
   ·exact absurd rfl a
  ·rcases ve g with ⟨e,_⟩|⟨_,g⟩
   ·exact absurd e a
   ·rcases ve j with ⟨e,_⟩|⟨_,j⟩
    ·exact absurd e a
    ·refine R.loc w w' _ n _ (λb c=>C b (j9.2 ⟨n,zmg f,c⟩)) (h.own I q n p (λk u e d=> ?_) g f j);rw [l k u e,B] at d;exact a (i8 d).symm
theorem om.come(h:om w r R S m ho mv Ss)(l:∀k u,ho=some (k,u)->k=E)(I:gO m E=none)(n:R.own w' [v] S2 t)(J:∀b∈S,b∉S2)
  (o:∀b∈Ss.flatten,w'.heap[b]? =w.heap[b]?) (s:∃A clock,w'.heap[r]? =some (.map A clock)/\oa (λv:Value=>v) (mv++[(E,v)]) A.toList clock):om w' r R (r::(Ss++[S2]).flatten) (m++[(E,t)]) none (mv++[(E,v)]) (Ss++[S2]):=by
 have j:=h.nd;rw [h.hS] at j;obtain ⟨K,x⟩:=q7.1 j;have L:=h.hS;have hl:=h.len;have y:=h.ls;refine ⟨s,by rw [k8,k8,h.Vc];rfl,by simp [h.ls],rfl,?_,λ_ _ _ e=>(by cases e),λz q f p _ c g d=> ?_⟩
 ·rw [yx];have B:[S2].flatten=S2:=by simp
  rw [B];refine q7.2 ⟨λi=> ?_,k6.2 ⟨x,R.nd _ _ _ _ n,λa M b i e=>by grind⟩⟩
  grind
 ·rcases bz c with ⟨C,c⟩|⟨C,c⟩
  ·rcases bz g with ⟨D,g⟩|⟨D,g⟩
   ·rcases bz d with ⟨F,d⟩|⟨F,d⟩
    ·refine R.loc w w' _ f _ (λb i=>o b (j9.2 ⟨f,zmg g,i⟩)) (h.own z q f p (λk u e G=> ?_) c g d)
     grind
    ·omega
   ·omega
  grind
theorem om.strike(h:om w r R S m none mv Ss)(y:gO m E=some i)(k:∀b∈Ss.flatten,w'.heap[b]? =w.heap[b]?)(s:∃A clock,w'.heap[r]? =some (.map A clock)/\oa (λv:Value=>v) (mv.eraseIdx i) A.toList clock):
  om w' r R (r::(Ss.eraseIdx i).flatten) (m.eraseIdx i) none (mv.eraseIdx i) (Ss.eraseIdx i):=by
 have l:=h.nd;rw [h.hS] at l;obtain ⟨t,u⟩:=q7.1 l;have n:(Ss.eraseIdx i).flatten.Sublist Ss.flatten:=uY (List.eraseIdx_sublist _ _);have hl:=h.len;have x:=h.ls;refine ⟨s,by rw [nE,nE,h.Vc],?_,rfl,q7.2 ⟨λd=>t (n.subset d),u.sublist n⟩,λ_ _ _ e=>(by cases e),λo q c p _ j g f=> ?_⟩
 ·grind
 ·rw [List.getElem?_eraseIdx] at j g f;split at j
  ·rename_i a
   rw [d7 a] at g f;exact R.loc w w' _ c _ (λb d=>k b (j9.2 ⟨c,zmg g,d⟩)) (h.own o q c p (λ_ _ e=>(by cases e)) j g f)
  ·rename_i a
   rw [d8 a] at g f;exact R.loc w w' _ c _ (λb d=>k b (j9.2 ⟨c,zmg g,d⟩)) (h.own (o+1) q c p (λ_ _ e=>(by cases e)) j g f)
def wn{α:Type}(m:List (Int×α))(k:Int)(x:α):List (Int×α):=match gO m k with
 |none=>m
 |some i=>m.set i (k,x)
theorem sY{k:Int}(h:P.underlying T=some (.int kd))(a:oa (λv:Value=>v) mv A.toList clock):
 (Instr.findKey T (.int .i64 k) A.toList).run P w=.ok ((gO mv k).bind λj=>(ja mv k).map λx=>(j,x)) w:=pp h a
theorem wa(h:m'.map (·.1)=m.map (·.1))(k:Int):(ja m' k).isSome=(ja m k).isSome:=by
 have:=cJ h k;cases a:ja m' k with
 |none=>
  rw [xt.2 a] at this;rw [xt.1 this.symm];rfl
 |some x=>
  obtain ⟨j,b,_⟩:=eW a;rw [b] at this;obtain ⟨y,c,_⟩:=uZ this.symm;rw [c];rfl
theorem Dc{k:Int}(d:St F s w L)(j:Nat)(n:L[j]? =some (mN r R S m none))(l:Value)(y:∀w,R0.own w [l] [] (b4 none))(z:∀w cs S x,R.own w cs S x->R0.own w cs S (b4 (some x)))(A:∀w cs S x,R0.own w cs S (b4 (some x))->R.own w cs S x):
  ∃v S1 S2 mv Ss,St F s w (L.set j (mN r R S1 m (some (k,v)))++[itI R0 [v] S2 (b4 (ja m k))])/\om w r R S m none mv Ss/\(ja mv k).getD l=v:=by
 obtain ⟨mv,Ss,a⟩:=d.all j _ n;cases o:ja m k with
 |none=>
  have f:ja mv k=none:=by
   have:=wa a.Vc k;rw [o] at this;cases f:ja mv k with
   |none=>rfl
   |some v=>rw [f] at this;cases this
  refine ⟨l,S,[],mv,Ss,?_,a,by rw [f];rfl⟩
  have h:om w r R S m (some (k,l)) mv Ss:=⟨a.map,a.Vc,a.ls,a.hS,a.nd,(λK M i e u=>by
   simp only [i6,o7] at e;obtain ⟨rfl,rfl⟩:=e;rw [xt.2 o] at u;cases u),λi q B p _ C D E=>a.own i q B p (λ_ _ e=>(by cases e)) C D E⟩
  exact d.swap j n ⟨mv,Ss,h⟩ h.nd (λb g=>g) (y w) o5 (λb g=>absurd g znm) (λb _ g=>absurd g znm)
 |some x=>
  obtain ⟨v,S1,S2,t,f,c,h,G,I,J⟩:=a.take o;exact ⟨v,S1,S2,mv,Ss,d.swap j n ⟨mv,t,h⟩ h.nd I (z _ _ _ _ c) (R.nd _ _ _ _ c) G J,a,by rw [f];rfl⟩
theorem OW.mlook{β:Type}(R0:Rp β)(f:Option α->β)(o:St F s w L)(j:Nat)(O:L[j]? =some (mN r R S m none))
  (hl:vg l i=some ⟨some d,.lookup T x y a8,ty,pos,D,gdd⟩) (U:gd l G ⟨some d,.lookup T x y a8,ty,pos,D,gdd⟩=some true) (V:Nat.blt d N=true) (W:look G x=some (.map (some r))) (X:look G y=some (.int .i64 q))
  (C:P.underlying T=some (.map tk te)) (p:P.underlying tk=some (.int kd)) (t:Value) (z:ax P (zeroValue te)=some t) (Y:∀w,R0.own w [t] [] (f none)) (Z:∀w cs S x,R.own w cs S x->R0.own w cs S (f (some x))) (B:∀w cs S x,R0.own w cs S (f (some x))->R.own w cs S x)
  (h:∀v S1 S2,St F s w (L.set j (mN r R S1 m (some (q,v)))++[itI R0 [v] S2 (f (ja m q))])->OW P l N Q (i+1) ((d,if a8 then .tuple #[v,.bool (ja m q).isSome] else v)::G) w):OW P l N Q i G w:=by
 obtain ⟨v,S1,S2,mv,Ss,b,E,e⟩:=Dc (k:=q) o j O t Y Z B;obtain ⟨A,clock,I,hE⟩:=E.map;have g:=sY (P:=P) (w:=w) (k:=q) p hE;have n:=wa E.Vc q;refine j6 hl U rfl V (λa J=> ?_) (h v S1 S2 b);have K:=J.look W;have M:=J.look X;cases c:ja mv q with
 |none=>
  rw [xt.2 c] at g;rw [c] at n e;subst e;cases a8<;>simp [execOp,Instr.lookup,run_underlying C,K,M,dd I,aZ p,g,qV z,<- n]
 |some u=>
  obtain ⟨i,hp,_⟩:=eW c;rw [hp,c] at g;rw [c] at n e;subst e;cases a8<;>simp [execOp,Instr.lookup,run_underlying C,K,M,dd I,aZ p,g,<- n]
theorem wc(h:ja m q=some t):wn m q t=m:=by
 obtain ⟨i,a,b⟩:=eW h;unfold wn;rw [a];apply o4
 grind
theorem St.mback{f:Option α->β}(h:St F s w L)(q j:Nat)(d:Nat.beq q j=false)(n:L[q]? =some (mN r R S m (some (E,v))))(o:L[j]? =some (itI R0 [v] S2 b5))(t:∀w cs S x,R0.own w cs S (f (some x))->R.own w cs S x)
  (z:α) (P:(ja m E).isSome=true->b5=f (some z)):∃y,St F s w ((L.set q (mN r R y (wn m E z) none)).set j nilI):=by
 obtain ⟨mv,Ss,a⟩:=h.all q _ n;have G:∀b∈S,b∉S2:=h.apart q j _ _ (r7 d) n o;have A:R0.own w [v] S2 b5:=h.all j _ o;have B:=a.hS;cases D:ja m E with
 |none=>
  have k:=xt.2 D;refine ⟨S,h.fuse q j d n o (C:=mN r R S (wn m E z) none) ?_ a.nd (λb c=>.inl c)⟩;unfold wn;rw [k];refine ⟨mv,Ss,a.map,a.Vc,a.ls,a.hS,a.nd,λ_ _ _ e=>(by cases e),λi u y p _ I J K=>a.own i u y p (λM Q e N=> ?_) I J K⟩
  grind
 |some x=>
  obtain ⟨i,k,T⟩:=eW D;obtain ⟨O,_⟩:=a.out E v i rfl k
  have l:mv.set i (E,v)=mv:=by
   apply o4
   grind
  have g:R.own w [v] S2 z:=t _ _ _ _ (by grind);have:=a.give (w':=w) (x:=z) (λM u e=>by grind) k g G (λ_ _=>rfl) (by rw [l];exact a.map)
  refine ⟨_,h.fuse q j d n o (C:=mN r R (r::(Ss.set i S2).flatten) (wn m E z) none) ?_ this.nd (λb c=> ?_)⟩
  ·unfold wn;rw [k];exact ⟨_,_,this⟩
  ·rcases j5.1 c with rfl|c
   ·exact .inl (by show b∈S;rw [B];exact zcs)
   ·rcases jX c with c|c
    ·exact .inr c
    ·exact .inl (by show b∈S;rw [B];exact zcm _ c)
theorem St.mback0{f:Option α->β}(h:St F s w L)(q j:Nat)(c:Nat.beq q j=false)(g:L[q]? =some (mN r R S m (some (E,v))))(l:L[j]? =some (itI R0 [v] S2 (f (ja m E))))(k:∀w cs S x,R0.own w cs S (f (some x))->R.own w cs S x):
  ∃d,St F s w ((L.set q (mN r R d m none)).set j nilI):=by
 cases n:ja m E with
 |none=>
  obtain ⟨mv,Ss,a⟩:=h.all q _ g;have B:=xt.2 n;refine ⟨S,h.fuse q j c g l (C:=mN r R S m none) ?_ a.nd (λb o=>.inl o)⟩;refine ⟨mv,Ss,a.map,a.Vc,a.ls,a.hS,a.nd,λ_ _ _ e=>(by cases e),λi u d p _ t y z=>a.own i u d p (λD G e A=> ?_) t y z⟩
  grind
 |some x=>
  obtain ⟨d,I⟩:=h.mback (f:=f) q j c g l k x (λ_=>by rw [n])
  grind [wc]
theorem OW.mputN(I:St F s w L)(q j:Nat)(J:Nat.beq q j=false){u:α}(hq:L[q]? =some (mN r R S m ho))(W:∀k' u,ho=some (k',u)->k'=E)(hj:L[j]? =some (itI R [v] S2 u))
  (hl:vg l i=some ⟨none,.mapUpdate T x y z,ty,pos,D,gdd⟩) (hg:gd l G ⟨none,.mapUpdate T x y z,ty,pos,D,gdd⟩=some true) (hx:look G x=some (.map (some r))) (hy:look G y=some (.int .i64 E)) (hz:look G z=some v)
  (ht:P.underlying T=some (.map tk te)) (hk:P.underlying tk=some (.int kd)) (h:∀S' w',St F s w' ((L.set q (mN r R S' (Sx.mput m E u) none)).set j nilI)->OW P l N Q (i+1) G w'):OW P l N Q i G w:=by
 obtain ⟨mv,Ss,M⟩:=I.all q _ hq;have hd:∀b∈S,b∉S2:=I.apart q j _ _ (r7 J) hq hj;have f:R.own w [v] S2 u:=I.all j _ hj;have X:=M.hS;have hn:=M.nd;rw [X] at hn;obtain ⟨n1,_⟩:=q7.1 hn
 have hI:St w [r] w [DE r (λv:Value=>v) mv]:=by
  refine ⟨x8 _ _,λn it g=> ?_,λn it g=> ?_,λn n' a b hne h1 h2=> ?_,λn it g y hy=> ?_⟩
  ·cases n with
   |zero=>simp at g;subst g;exact M.map
   |succ n=>simp at g
  ·cases n with
   |zero=>simp at g;subst g;simp [DE]
   |succ n=>simp at g
  ·cases n with
   |zero=>cases n' with
    |zero=>exact absurd rfl hne
    |succ n'=>simp at h2
   |succ n=>simp at h1
  ·cases n with
   |zero=>simp at g;subst g;exact .inl (by simpa [DE] using hy)
   |succ n=>simp at g
 obtain ⟨w',Y,O⟩:=Af (P:=P) (k:=E) (x:=v) hI 0 rfl ht hk;have o:Chg [r] w w':=O.chg;have K:∃A clock,w'.heap[r]? =some (.map A clock)/\oa (λv:Value=>v) (Sx.mput mv E v) A.toList clock:=O.all 0 _ rfl;have Z:=M.lt;have p:R.own w' [v] S2 u:=R.loc _ _ _ _ _ (λb c=>o.block b (R.lt _ _ _ _ f b c) (by simp only [g8];rintro rfl;exact hd b (by rw [X];exact zcs) c)) f
 have hw:∀b∈Ss.flatten,w'.heap[b]? =w.heap[b]? :=λb c=>o.block b (Z b (by rw [X];exact zcm _ c)) (by simp only [g8];rintro rfl;exact n1 c)
 obtain ⟨d,mv',t,hsub⟩:∃d mv',om w' r R (r::List.flatten d) (Sx.mput m E u) none mv' d/\∀b∈List.flatten d,b∈Ss.flatten\/b∈S2:=by
  cases V:gO m E with
  |none=>
   have U:gO mv E=none:=(cJ M.Vc E).trans V;rw [iK (xt.1 U)] at K;rw [iK (xt.1 V)];refine ⟨_,_,M.come W V p hd hw K,λb c=> ?_⟩;rw [yx] at c;rcases f8.1 c with c|c
   ·exact .inl c
   ·exact .inr (by simpa using c)
  |some n=>
   have U:gO mv E=some n:=(cJ M.Vc E).trans V;rw [nD U] at K;rw [nD V];exact ⟨_,_,M.give W V p hd hw K,λb c=>(jX c).symm⟩
 refine OW.ops hl hg rfl (λa ha=> ?_) (h (r::List.flatten d) w' ?_)
 ·simp [execOp,ha.look hx,ha.look hy,ha.look hz,Y]
 ·have B:∀b∈r::List.flatten d,b∈S\/b∈S2:=λb c=>by
   rcases j5.1 c with rfl|c
   ·exact .inl (by rw [X];exact zcs)
   ·rcases hsub b c with c|c
    ·exact .inl (by rw [X];exact zcm _ c)
    ·exact .inr c
  let A:Item:=⟨r::List.flatten d,λw1=>∀b∈r::List.flatten d,b<w1.heap.size,λw1 w2 c hh b hb2=>by
   have h1:=hh b hb2;have h2:=c b hb2;rw [TN h1] at h2;exact (t7.1 h2).1,λw1 hh=>hh⟩
  have hA:St F s w ((L.set q A).set j nilI):=I.fuse q j J hq hj (C:=A) (λb c=>by
   rcases B b c with c|c
   ·exact Z b c
   ·exact R.lt _ _ _ _ f b c) t.nd B
  have hlq:q<L.length:=(zes.1 hq).1
  have hqA:((L.set q A).set j nilI)[q]? =some A:=by
   rw [TE (λe=>r7 J e.symm),yy hlq]
  have:=hA.upd q hqA (it':=mN r R (r::List.flatten d) (Sx.mput m E u) none) (o.mono (λb c=>by simp only [g8] at c;subst c;exact zcs)) ⟨_,_,t⟩ (λb c=>.inl c) t.nd
  rw [List.set_comm _ _ (λe=>r7 J e.symm),Tt] at this;exact this
theorem OW.mdelN(B:St F s w L)(j:Nat)(V:L[j]? =some (mN r R S m none))
  (hl:vg l i=some ⟨none,.call ⟨.builtin .delete,[x,y].toArray,ats.toArray⟩,ty,pos,D,gdd⟩) (hg:gd l G ⟨none,.call ⟨.builtin .delete,[x,y].toArray,ats.toArray⟩,ty,pos,D,gdd⟩=some true) (O:ats[0]? =some T)
  (hx:look G x=some (.map (some r))) (W:look G y=some (.int .i64 E)) (ht:P.underlying T=some (.map tk te)) (hk:P.underlying tk=some (.int kd))
  (h:∀C w',St F s w' (L.set j (mN r R C (Sx.mdel m E) none))->OW P l N Q (i+1) G w'):OW P l N Q i G w:=by
 obtain ⟨mv,Ss,d⟩:=B.all j _ V;have hS:=d.hS;have X:=d.nd;rw [hS] at X;obtain ⟨n1,n2⟩:=q7.1 X
 have hI:St w [r] w [DE r (λv:Value=>v) mv]:=by
  refine ⟨x8 _ _,λn Y I=> ?_,λn Y I=> ?_,λn n' a b hne h1 h2=> ?_,λn Y I y W=> ?_⟩
  ·cases n with
   |zero=>simp at I;subst I;exact d.map
   |succ n=>simp at I
  ·grind [DE]
  ·grind
  grind [DE]
 obtain ⟨w',J,g⟩:=Hz (P:=P) (ty:=ty) (ats:=ats.toArray) (k:=E) hI 0 rfl (by simpa using O) ht hk;have o:Chg [r] w w':=g.chg;have f:∃A clock,w'.heap[r]? =some (.map A clock)/\oa (λv:Value=>v) (Sx.mdel mv E) A.toList clock:=g.all 0 _ rfl;have U:=d.lt;have Z:∀b∈Ss.flatten,w'.heap[b]? =w.heap[b]? :=λb t=>o.block b (U b (by grind)) (by grind)
 obtain ⟨c,K,u,hsub⟩:∃c K,om w' r R (r::List.flatten c) (Sx.mdel m E) none K c/\∀b∈List.flatten c,b∈Ss.flatten:=by
  cases M:gO m E with
  |none=>
   have z:gO mv E=none:=(cJ d.Vc E).trans M;rw [rE (xt.1 z)] at f;rw [rE (xt.1 M)];refine ⟨Ss,mv,⟨f,d.Vc,d.ls,rfl,by grind,λ_ _ _ e=>(by cases e),λi' q C p _ g2 g3 g4=> ?_⟩,λb t=>t⟩;exact R.loc w w' _ C _ (λb t=>Z b (j9.2 ⟨C,zmg g3,t⟩)) (d.own i' q C p (λ_ _ e=>(by cases e)) g2 g3 g4)
  |some n=>
   have z:gO mv E=some n:=(cJ d.Vc E).trans M;rw [uX z] at f;rw [uX M];exact ⟨_,_,d.strike M Z f,λb t=>(uY (List.eraseIdx_sublist _ _)).subset t⟩
 refine OW.opn (v:=.tuple #[]) hl hg rfl (λa ha=> ?_) (h (r::List.flatten c) w' ?_)
 ·simp [execOp,resolve,invoke,builtin,ha.look hx,ha.look W,J]
 ·exact B.upd j V (it':=mN r R (r::List.flatten c) (Sx.mdel m E) none) (o.mono (λb t=>by grind [mN])) ⟨_,_,u⟩ (λb t=>.inl (by
   grind [mN])) u.nd
theorem OW.mnewN{α:Type}(R:Rp α)(c:St F s w L)(hl:vg l i=some ⟨some d,.makeMap T none,ty,pos,D,gdd⟩)(f:gd l G ⟨some d,.makeMap T none,ty,pos,D,gdd⟩=some true)(j:Nat.blt d N=true)
  (h:∀r w',St F s w' (L++[mN r R [r] [] none])->OW P l N Q (i+1) ((d,.map (some r))::G) w'):OW P l N Q i G w:=by
 refine j6 hl f rfl j (w':=w.alloc (.map #[] 0)) (λa _=> ?_) (h w.heap.size _ ?_)
 ·simp [execOp,Instr.makeMap,newObj,Sem.run]
 ·exact c.push (Chg.alloc _ _) ⟨[],[],⟨#[],0,heap_alloc_new _ _,⟨rfl,List.Pairwise.nil,by simp⟩⟩,rfl,rfl,rfl,by simp,λ_ _ _ e=>(by cases e),λi q S p _ g=>by simp at g⟩ (λb k=>by grind [mN]) (by simp [mN])
def Dd(R:Rp α):Rp (List (Int×α)) where
 sz:=1
 own w cs S m:=∃r,cs=[.map (some r)]/\∃mv Ss,om w r R S m none mv Ss
 rd w F m cs:=True/\cs.length=1
 len:=by rintro w cs S m ⟨r,rfl,_⟩;rfl
 loc:=by rintro w w' cs S m a ⟨r,rfl,mv,Ss,h⟩;exact ⟨r,rfl,mv,Ss,h.loc a⟩
 lt:=by rintro w cs S m ⟨r,rfl,mv,Ss,h⟩;exact h.lt
 nd:=by rintro w cs S m ⟨r,rfl,mv,Ss,h⟩;exact h.nd
 see:=by rintro w cs S m F ⟨r,rfl,_⟩ _;exact ⟨trivial,rfl⟩
 rlen:=by rintro w F m cs ⟨_,h⟩;exact h
 Vk:=by rintro w w' F b m cs _ _ h;exact h
theorem St.toMN(h:St F s w L)(j:Nat)(a:L[j]? =some (itI (Dd R) cs S m)):∃r,cs=[.map (some r)]/\St F s w (L.set j (mN r R S m none)):=by
 obtain ⟨r,rfl,b⟩:=h.all j _ a;exact ⟨r,rfl,h.turn j a b rfl⟩
theorem St.ofMN(h:St F s w L)(j:Nat)(a:L[j]? =some (mN r R S m none)):St F s w (L.set j (itI (Dd R) [.map (some r)] S m)):=h.turn j a ⟨r,rfl,h.all j _ a⟩ rfl
theorem St.toMN1(h:St F s w L)(j:Nat)(a:L[j]? =some (itI (Dd R) [v] S m)):∃r,v=.map (some r)/\St F s w (L.set j (mN r R S m none)):=by
 obtain ⟨r,c,b⟩:=h.toMN j a
 grind
open Go.RowKit
def dv(b:Nat)(T:TypeId)(A cs C:List Value):Item:=jL b T (A++(cs++C))
theorem St.prt{L:List Item}(h:St F s w L)(j:Nat)(a:L[j]? =some (dv b T u cs C))(k:Nat)(c:cs[k]? =some v):w.cell? ⟨b,u.length+k,none⟩=some v:=by
 refine h.blk j a ?_
 grind
theorem OW.stP(a:St F s w L)(j:Nat)(g:L[j]? =some (dv b T u cs C))
  (hl:vg l i=some ⟨none,.store e x y,ty,pos,D,gdd⟩) (m:gd l G ⟨none,.store e x y,ty,pos,D,gdd⟩=some true)
  (k:Nat) (n:look G x=some (.pointer (some ⟨b,u.length+k,none⟩))) (o:look G y=some v)
  (p:ax P (sizeOf e)=some v.cells.toList.length) (q:eU v.cells.toList=true) (d:Nat.ble (k+v.cells.toList.length) cs.length=true) (c:List Value) (r:qG cs v.cells.toList k=c)
  (h:∀w',St F s w' (L.set j (dv b T u c C))->OW P l N Q (i+1) G w'):OW P l N Q i G w:=by
 have f:=u5 d;exact OW.stB a j g hl m n o p q (x7 (by grind)) (u++(c++C)) (by grind [nP]) h
theorem OW.stPA{α:Type}(m:St F s w L)(j:Nat)(A:L[j]? =some (dv b T u cs C))
  (hl:vg l i=some ⟨none,.store e x y,ty,pos,D,gdd⟩) (B:gd l G ⟨none,.store e x y,ty,pos,D,gdd⟩=some true) (W:look G x=some (.pointer (some ⟨b,c,none⟩))) (E:look G y=some v)
  (I:ax P (sizeOf e)=some v.cells.toList.length) (J:eU v.cells.toList=true)
  (enc:α->List Value) (K:∀x,(enc x).length=sz) (n:Nat) (a:Nat->α) (p:Nat) (o:cs=cs.take p++(fa enc n a++cs.drop (p+n*sz))) (M:Nat.ble p cs.length=true) (O:ain n q=some r)
  (f:Nat) (R:c=u.length+p+q.toNat*sz+f) (S:Nat.ble (f+v.cells.toList.length) sz=true) (t:α) (z:qG (enc (a r)) v.cells.toList f=enc t)
  (d:List Value) (g:d=cs.take p++(fa enc n (aset a r t)++cs.drop (p+n*sz)))
  (h:∀w',St F s w' (L.set j (dv b T u d C))->OW P l N Q (i+1) G w'):OW P l N Q i G w:=by
 obtain ⟨U,V⟩:=rM enc K n a p o M O S z g;subst R;refine OW.stB (k:=u.length+(p+q.toNat*sz+f)) m j A hl B (by grind) E I J (x7 (by grind)) (u++(d++C)) (by rw [nP V,U]) h
theorem OW.clear(d:St F s w L)(j:Nat)(y:L[j]? =some (jL b T cs))
  (hl:vg l i=some ⟨none,.call ⟨.builtin .clear,[x].toArray,ats.toArray⟩,ty,pos,D,gdd⟩) (B:gd l G ⟨none,.call ⟨.builtin .clear,[x].toArray,ats.toArray⟩,ty,pos,D,gdd⟩=some true) (C:look G x=some (.slice (some ⟨b,sz,none⟩) (n+1) c)) (g:ats[0]? =some tk) (E:P.underlying tk=some (.slice e)) (I:ax P (zeroValue e)=some k) (u:List Value) (m:(Builtin.zeroCells k.cells (n+1)).toList=u) (J:eU u=true)
  (o:sz+u.length<=cs.length) (f:List Value) (p:qG cs u sz=f)
  (h:∀w',St F s w' (L.set j (jL b T f))->OW P l N Q (i+1) G w'):OW P l N Q i G w:=by
 have z:=d.all j _ y;have A:=run_storeCells_at (P:=P) b sz T u 0 cs.toArray w z (by simpa using o) (eV J);refine OW.opn (v:=.tuple #[]) hl B rfl (w':=w.setRow b (qG cs.toArray.toList u sz).toArray) (λa K=> ?_) (h _ ?_)
 ·have M:=K.look C;have r:=qV I w;have O:(storeCells ⟨b,sz,none⟩ u).run P w=.ok () (w.setRow b (qG cs.toArray.toList u sz).toArray):=by grind [qG]
  have t:(ats.toArray)[0]? =some tk:=by simpa using g
  simp [execOp,resolve,invoke,builtin,M,Builtin.clear_,t,run_underlying E,r,m,O]
 ·subst p;refine d.upd j y ⟨rfl,rfl,rfl,by simp [World.setRow],λq _ S=>setRow_other w b q _ (by grind [jL])⟩ ?_ (λq R=>.inl R) (by simp [jL]);show (w.setRow b _).heap[b]? =_;rw [setRow_heap w b cs.toArray _ T (0,0) z]
theorem OW.clearP(d:St F s w L)(j:Nat)(p:L[j]? =some (dv b T B cs C))
  (hl:vg l i=some ⟨none,.call ⟨.builtin .clear,[x].toArray,ats.toArray⟩,ty,pos,D,gdd⟩) (q:gd l G ⟨none,.call ⟨.builtin .clear,[x].toArray,ats.toArray⟩,ty,pos,D,gdd⟩=some true)
  (k:Nat) (r:look G x=some (.slice (some ⟨b,B.length+k,none⟩) (n+1) c)) (f:ats[0]? =some tk) (t:P.underlying tk=some (.slice e)) (y:ax P (zeroValue e)=some v) (u:List Value) (g:(Builtin.zeroCells v.cells (n+1)).toList=u) (z:eU u=true)
  (m:Nat.ble (k+u.length) cs.length=true) (a:List Value) (A:qG cs u k=a)
  (h:∀w',St F s w' (L.set j (dv b T B a C))->OW P l N Q (i+1) G w'):OW P l N Q i G w:=by
 have o:=u5 m;exact OW.clear d j p hl q r f t y u g z (by grind) (B++(a++C)) (by grind [nP]) h
structure RdB (w:World) (S:List Nat) (b:Nat) (cs:List Value):Prop where
 out:b∉S
 WN:∀k u,cs[k]? =some u->w.cell? ⟨b,k,none⟩=some u
theorem RdB.cell{L:List Item}{cs:List Value}(h:RdB F s b cs)(a:St F s w L)(k:Nat)(d:cs[k]? =some v):w.cell? ⟨b,k,none⟩=some v:=by
 have c:=h.WN k v d;exact (World.cell?_of_block (a.chg.block b (mr c) h.out)).trans c
theorem RdB.give(h:RdB F s b (v::cs))(a:St F s w L)(ids:List Nat):RdB w (fp (sel L ids)) b (v::cs):=by
 refine ⟨λf=> ?_,λk u g=>h.cell a k g⟩;obtain ⟨j,i,l,c⟩:=vG.1 f;obtain ⟨k,_,d⟩:=eS l;rcases xS d with d|rfl
 ·rcases a.own k i d b c with e|e
  ·exact h.out e
  ·have:=mr (h.WN 0 v rfl);simp only at this;omega
 ·cases c
theorem St.rdB(h:St F s w L)(j:Nat)(a:L[j]? =some (jL b T cs))(ids:List Nat)(c:mem? j ids=false):RdB w (fp (sel L ids)) b cs:=
 ⟨λd=>h.noin j a ids c b (by simp [jL]) d,λk u e=>h.blk j a e⟩
end Go.Sx
