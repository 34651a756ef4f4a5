/- Lemmas. -/
import Derived.Test.YtplmgfkghomelaaGreatDoorEng4
import Derived.Lib.Overlaps
import Derived.Lib.AppendZerosOnto
set_option linter.unusedVariables false
set_option linter.unusedSimpArgs false
namespace Go.Sx
section
section
section
open Go.RowKit
variable {q:Int} {d:Nat} {e:TypeId} {x y:Operand} {ty:TypeId} {pos:String} {gdd:Option (Nat×Bool)} {ats:List Nat} {T:TypeId} {a:Option Addr} {n c:Nat} {S:List Nat} {α:Type} {xs ys:List α} {enc:α->List Value}
section
variable {P:Program} {N:Nat} {Q:Exit->Act->World->Prop} {fr fr':List (Nat×Value)} {w w0:World} {l:List Oper} {i:Nat} {o:Oper} {S0:List Nat} {L:List Item} {α:Type} {enc:α->List Value} {sz:Nat}
def over{α:Type}(xs:List α)(lo:Nat)(ys:List α):List α:=xs.take lo++ys.take (xs.length-lo)++xs.drop (lo+ys.length)
theorem kY{α:Type}(xs:List α)(lo:Nat)(ys:List α)(h:lo<=xs.length):(over xs lo ys).length=xs.length:=by
 simp [over];omega
theorem HH{xs:List α}{u:Value}(h:u∈jQ enc xs):∃x,x∈xs/\u∈enc x:=by
 induction xs with
 |nil=>cases h
 |cons x r ih=>
  rcases i5.1 h with h|h
  ·grind
  grind
theorem Kj{α:Type}{xs:List α}{q:Nat}(h:q<=xs.length):cut xs 0 (q:Int)=some (xs.take q):=by
 grind [cut]
theorem OW.copyR{t t2 e:Nat}{af:Array Edge}(hst:St w0 S0 w L)(j:Nat){xs zs:List α}(hj:L[j]? =some (qi (.slice a n c) T enc sz xs))(he:∀x,(enc x).length=sz)(hp:0<sz)
  (hl:vk l i=some ⟨some d,.call ⟨.builtin .copy,[x,y].toArray,ats.toArray⟩,ty,pos,af,gdd⟩) (ha:ats=[t,t2]) (hg:gd l fr ⟨some d,.call ⟨.builtin .copy,[x,y].toArray,ats.toArray⟩,ty,pos,af,gdd⟩=some true) (hN:Nat.blt d N=true) (hc:cut xs q (xs.length:Int)=some zs) (hx:look fr x=some (.slice (shd a c q.toNat sz) zs.length (c-q.toNat))) {v2:Value} (hy:look fr y=some v2) (ht:P.underlying t=some (.slice e)) (hs:aj P (sizeOf e)=some sz)
  {ys:List α} (hr:Rd w S v2 enc sz ys) (ho:∀y∈ys.take zs.length,eA (enc y)=true)
  (h:∀w',St w0 S0 w' (L.set j (qi (.slice a n c) T enc sz (over xs q.toNat ys)))->OW P l N Q (i+1) ((d,.int .i64 ((Nat.min ys.length zs.length:Nat):Int))::fr) w'):OW P l N Q i fr w:=by
 subst ha;obtain ⟨h0,hq1,hq2,e0⟩:=aY hc;have hl0:=iP hc;have hzl:zs.length=xs.length-q.toNat:=by omega
 obtain ⟨hn63,a2,c2,rfl,hlc,hcell0⟩:=hr;have hrow:dJ w T sz (.slice a n c) xs.length (jQ enc xs):=hst.all j _ hj;obtain ⟨k,hk⟩:∃k,k=Nat.min ys.length zs.length:=⟨_,rfl⟩
 have hk1:k<=ys.length:=by grind
 have hk2:k<=zs.length:=by grind
 have hover:over xs q.toNat ys=xs.take q.toNat++ys.take k++xs.drop (q.toNat+k):=by
  unfold over;rw [<- hzl];by_cases hle:ys.length<=zs.length
  ·grind
  ·have:k=zs.length:=by rw [hk];exact Nat.min_eq_right (by omega)
   rw [this,x8 (l:=xs) (i:=q.toNat+ys.length) (by omega),x8 (l:=xs) (i:=q.toNat+zs.length) (by omega)]
 have news_len:(jQ enc (ys.take k)).length=k*sz:=by rw [qP he,yw];congr 1;omega
 have exec:∀{cells:Array Value} {w':World},(Builtin.firstCells sz k (.slice a2 ys.length c2)).run P w=.ok cells w->(∀b0,shd a c q.toNat sz=some b0->(storeCells b0 cells.toList).run P w=.ok () w')->(shd a c q.toNat sz=none->w'=w)->∀b,Rep N fr b->
   (execOp b.eval ⟨some d,.call ⟨.builtin .copy,[x,y].toArray,[t,t2].toArray⟩,ty,pos,af,gdd⟩).run P w=.ok (.value (.int .i64 (k:Nat))) w':=by
  intro cells w' hr1 hr2 hr3 b hb;have e1:=hb.look hx;have e2:=hb.look hy;have hs':=qV hs w;cases hsh:shd a c q.toNat sz with
  |none=>
   rw [hsh] at e1;have hw:w'=w:=hr3 hsh;subst hw;simp [execOp,resolve,invoke,builtin,e1,e2,Builtin.copy_,run_underlying ht,Builtin.lenOf,hs',<- hk,hr1,goInt]
  |some b'=>
   rw [hsh] at e1;have h9:=hr2 _ hsh;simp [execOp,resolve,invoke,builtin,e1,e2,Builtin.copy_,run_underlying ht,Builtin.lenOf,hs',<- hk,hr1,h9,goInt]
 rcases yn k with hk0|hkp
 ·
  have hf:(Builtin.firstCells sz k (.slice a2 ys.length c2)).run P w=.ok #[] w:=by
   rw [hk0];cases a2<;>simp [Builtin.firstCells,loadCells,loadCellsFrom]
  have hs2:∀b0,shd a c q.toNat sz=some b0->(storeCells b0 (#[]:Array Value).toList).run P w=.ok () w:=λb0 _=>by simp [storeCells]
  have hsame:over xs q.toNat ys=xs:=by
   rw [hover,hk0];simp
  refine j6 hl hg rfl hN (exec hf hs2 (λ_=>rfl)) ?_;have h:=h w;rw [<- hk] at h;refine h ?_;rw [hsame];obtain ⟨h5,h6⟩:=zes.1 hj;rw [show L.set j (qi (.slice a n c) T enc sz xs)=L from by rw [<- h6,List.set_getElem_self]];exact hst
 ·rcases hrow.2 with ⟨hz0,_⟩|⟨g,o,cap,cur,hv,hp2,hgc,hnc,hm,hcs,htake⟩
  ·omega
  ·simp only [Value.slice.injEq] at hv;obtain ⟨rfl,rfl,rfl⟩:=hv;have hcq:¬ c=q.toNat:=by omega
   have eshd:shd (some ⟨g,o,none⟩) c q.toNat sz=some ⟨g,o+q.toNat*sz,none⟩:=by simp [shd,hcq,Addr.add]
   obtain ⟨y0,hy0⟩:∃y0,ys[0]? =some y0:=⟨ys[0],zeg (by omega)⟩
   obtain ⟨u0,hu0⟩:∃u0,(enc y0)[0]? =some u0:=⟨(enc y0)[0]'(by rw [he];exact hp),zeg (by rw [he];exact hp)⟩
   obtain ⟨b,kk,rfl,_,_⟩:=hcell0 0 y0 0 u0 hy0 hu0
   have hcell:∀q u,(jQ enc (ys.take k))[q]? =some u->w.cell? ((⟨b,kk,none⟩:Addr).add q)=some u:=by
    intro q u hu;rw [dy];obtain ⟨t,f,x,hx,hf,hq⟩:=gD he hp hu
    grind
   have hf:(Builtin.firstCells sz k (.slice (some ⟨b,kk,none⟩) ys.length c2)).run P w=.ok (jQ enc (ys.take k)).toArray w:=
    run_firstCells_some (P:=P) w sz k ⟨b,kk,none⟩ ys.length c2 _ news_len hcell
   have hone:∀u∈jQ enc (ys.take k),u.oneCell'=true:=by
    intro u hu;obtain ⟨x,hxm,hx⟩:=HH hu
    grind [eB]
   have hsum:q.toNat*sz+k*sz<=xs.length*sz:=by rw [<- u4];exact o9 _ (by omega)
   have hcap:xs.length*sz<=c*sz:=o9 _ hnc;have hfit:o+q.toNat*sz+(jQ enc (ys.take k)).length<=cur.size:=by omega
   have hst2:=run_storeCells_at (P:=P) g (o+q.toNat*sz) T (jQ enc (ys.take k)) 0 cur w hgc (by simpa using hfit) hone;refine j6 hl hg rfl hN (exec hf (w':=w.setRow g (qG cur.toList (jQ enc (ys.take k)) (o+q.toNat*sz)).toArray) (λb0 hb0=> ?_) (λhb0=> ?_)) ?_
   ·grind [qG]
   ·grind
   ·have h:=h (w.setRow g (qG cur.toList (jQ enc (ys.take k)) (o+q.toNat*sz)).toArray);rw [<- hk] at h;refine h ?_;have hlen:(qG cur.toList (jQ enc (ys.take k)) (o+q.toNat*sz)).length=cur.size:=by grind [qG]
    refine hst.upd j hj ⟨rfl,rfl,rfl,by simp [World.setRow],λk' _ hn=>setRow_other w g k' _ (by grind [qi,xL])⟩ ?_ (λk' hk'=>.inl hk') vj;have hl2:(over xs q.toNat ys).length=xs.length:=kY _ _ _ (by omega);show dJ (w.setRow g _) T sz _ _ _;rw [hl2];refine ⟨by grind [qP],.inr ⟨g,o,c,_,rfl,hp2,setRow_heap w g cur _ T _ hgc,hnc,hm,by grind,?_⟩⟩;simp only;rw [cJ (by omega) (by omega) (by grind),htake,show o+q.toNat*sz-o=q.toNat*sz by omega];rw [hover,ii,ii];unfold qG;rw [mI he,news_len,<- u4,sD he]
theorem OW.appW{t e:Nat}{af:Array Edge}{bytes:Nat}(hst:St w0 S0 w L)(j:Nat){p:Nat}{xs:List α}(hj:L[j]? =some (qi (.slice a n c) e enc sz xs))(he:∀x,(enc x).length=sz)(ho:∀x,eA (enc x)=true)
  (hl:vk l i=some ⟨some d,.call ⟨.builtin .append,[x,y].toArray,ats.toArray⟩,ty,pos,af,gdd⟩) (ha:ats=[t,t]) (hg:gd l fr ⟨some d,.call ⟨.builtin .append,[x,y].toArray,ats.toArray⟩,ty,pos,af,gdd⟩=some true) (hN:Nat.blt d N=true)
  (hx:look fr x=some (.slice a p c)) {v2:Value} (hy:look fr y=some v2) (ht:P.underlying t=some (.slice e)) (hel:tN P e sz bytes)
  {ys:List α} (hr:Rd w S v2 enc sz ys) (hp:p+ys.length<=xs.length)
  (h:∀w',St w0 S0 w' (L.set j (qi (.slice a n c) e enc sz (over xs p ys)))->OW P l N Q (i+1) ((d,.slice a (p+ys.length) c)::fr) w'):OW P l N Q i fr w:=by
 subst ha;obtain ⟨inf,zv,hi,hzi,hsz,hby,hzs⟩:=hel.Ut;have hrow:dJ w e sz (.slice a n c) xs.length (jQ enc xs):=hst.all j _ hj;obtain ⟨hn63,a2,c2,rfl,hlc,hc⟩:=hr
 have exec:∀{v':Value} {w':World},(Builtin.append_ #[t,t] ty #[.slice a p c,.slice a2 ys.length c2]).run P w=.ok v' w'->∀b,Rep N fr b->
   (execOp b.eval ⟨some d,.call ⟨.builtin .append,[x,y].toArray,[t,t].toArray⟩,ty,pos,af,gdd⟩).run P w=.ok (.value v') w':=by
  intro v' w' hr b hb;have e1:=hb.look hx;have e2:=hb.look hy;simp [execOp,resolve,invoke,builtin,e1,e2,hr]
 rcases yn ys.length with h0|h0
 ·have hys:ys=[]:=yx h0;subst hys;have hpre:dJ w e sz (.slice a (xs.take p).length c) (xs.take p).length (jQ enc (xs.take p)):=dJ.pre he hrow (Kj (q:=p) (by grind));have hl:(xs.take p).length=p:=by grind
  have hrun:=hP (ty:=ty) ht hel.size hpre a2 c2;rw [hl] at hrun;refine j6 ‹_› hg rfl hN (exec hrun) (h w ?_);have hsame:over xs p ([]:List α)=xs:=by simp [over]
  rw [hsame];obtain ⟨h5,h6⟩:=zes.1 hj;rw [show L.set j (qi (.slice a n c) e enc sz xs)=L from by rw [<- h6,List.set_getElem_self]];exact hst
 ·rcases hrow.2 with ⟨hz0,_⟩|⟨g,o,cap,cur,hv,hp2,hgc,hnc,hm,hcs,htake⟩
  ·omega
  ·simp only [Value.slice.injEq] at hv;obtain ⟨rfl,rfl,rfl⟩:=hv;obtain ⟨y0,hy0⟩:∃y0,ys[0]? =some y0:=⟨ys[0],zeg h0⟩
   obtain ⟨u0,hu0⟩:∃u0,(enc y0)[0]? =some u0:=⟨(enc y0)[0]'(by rw [he];exact hel.pos),zeg (by rw [he];exact hel.pos)⟩
   obtain ⟨b,kk,rfl,_,_⟩:=hc 0 y0 0 u0 hy0 hu0
   have hcell:∀q u,(jQ enc ys)[q]? =some u->w.cell? ((⟨b,kk,none⟩:Addr).add q)=some u:=by
    intro q u hu;rw [dy];obtain ⟨t,f,x,hx,hf,hq⟩:=gD he hel.pos hu
    grind
   have hone:∀u∈jQ enc ys,u.oneCell'=true:=by
    intro u hu;obtain ⟨x,hx⟩:=Fq hu
    grind [eB]
   have fl:(jQ enc ys).length=ys.length*inf.size:=by grind [qP]
   have hsum:p*sz+ys.length*sz<=xs.length*sz:=by rw [<- u4];exact o9 _ hp
   have hcap:xs.length*sz<=c*sz:=o9 _ hnc;have fl2:(jQ enc ys).length=ys.length*sz:=qP he ys;have hfit:o+p*sz+(jQ enc ys).length<=cur.size:=by omega
   have hrun:=lA (P:=P) w t ty e inf ht hi g o p c cur hgc ⟨b,kk,none⟩ ys.length c2 (jQ enc ys) fl hcell hone (by omega) (by grind);rw [hsz] at hrun;refine j6 ‹_› hg rfl hN (exec hrun) (h _ ?_);have hlen:(qG cur.toList (jQ enc ys) (o+p*sz)).length=cur.size:=by grind [qG]
   refine hst.upd j hj ⟨rfl,rfl,rfl,by simp [World.setRow],λk' _ hn=>setRow_other w g k' _ (by grind [qi,xL])⟩ ?_ (λk' hk'=>.inl hk') vj;have hl2:(over xs p ys).length=xs.length:=kY _ _ _ (by omega);show dJ (w.setRow g _) e sz _ _ _;rw [hl2];refine ⟨by grind [qP],.inr ⟨g,o,c,_,rfl,hp2,setRow_heap w g cur _ e _ hgc,hnc,hm,by grind,?_⟩⟩;simp only;rw [cJ (by omega) (by omega) (by grind),htake,show o+p*sz-o=p*sz by omega];unfold over;rw [ii,ii,r7 (l:=ys) (by omega)];unfold qG;rw [mI he,fl2,<- u4,sD he]
theorem EN{t:TypeId}(a:Option Addr)(n c:Nat){r m:Int}(h0:0<=q)(h1:q<=r)(h2:r<=m)(h3:m<=(c:Int))(ht:P.underlying t=some (.slice e))(hs:aj P (sizeOf e)=some sz):
  ∃v,∀(o:Oper)(fr:List (Nat×Value)){x y z u:Operand}{kd ke kf:IntKind},o.op=.slice t x (some y) (some z) (some u)->look fr x=some (.slice a n c)->look fr y=some (.int kd q)->look fr z=some (.int ke r)->look fr u=some (.int kf m)->∀b w,Rep N fr b->(execOp b.eval o).run P w=.ok (.value v) w:=by
 refine ⟨.slice (if m.toNat=q.toNat then a else a.map (·.add (q.toNat*sz))) (r.toNat-q.toNat) (m.toNat-q.toNat),λo fr x y z u kd ke kf ho hx hy hz hu b w hb=> ?_⟩;have e1:=hb.look hx;have e2:=hb.look hy;have e4:=hb.look hz;have e5:=hb.look hu;obtain ⟨q,rfl⟩:=zof h0;obtain ⟨r,rfl⟩:=zof (by omega:0<=r);obtain ⟨m,rfl⟩:=zof (by omega:0<=m);have g1:q<=r:=by omega
 have g2:r<=m:=by omega
 have g3:m<=c:=by omega
 simp [execOp,ho,Instr.sliceAt,Instr.slice,Instr.sliceBounds,Instr.sliceBound,run_underlying ht,e1,e2,e4,e5,asIntOf,g1,g2,g3,qV hs]
theorem oB(he:∀x,(enc x).length=sz)(xs:List α):jQ (fit sz) (xs.map enc)=jQ enc xs:=by
 induction xs with
 |nil=>rfl
 |cons x r ih=>simp only [yo,jQ,ih,rz (he x)]
theorem Rd.raw{v:Value}{xs:List α}(he:∀x,(enc x).length=sz)(h:Rd w S v enc sz xs):Rd w S v (fit sz) sz (xs.map enc):=by
 obtain ⟨h1,a,c,hv,hlc,hc⟩:=h;refine ⟨by simpa using h1,a,c,by simpa using hv,by simpa using hlc,λt x f u hx hu=> ?_⟩
 grind [rz]
def rk(sz:Nat):Nat->List Value->List (List Value)
 |0,_=>[]
 |n+1,cs=>cs.take sz::rk sz n (cs.drop sz)
theorem py(sz n:Nat)(cs:List Value):(rk sz n cs).length=n:=by
 induction n generalizing cs with
 |zero=>rfl
 |succ n ih=>simp [rk,ih]
theorem Dc(sz:Nat):∀(n:Nat)(cs:List Value),cs.length=n*sz->jQ (fit sz) (rk sz n cs)=cs:=by
 intro n
 induction n with
 |zero=>intro cs h;have:cs=[]:=yx (by simpa using h);rw [this];rfl
 |succ n ih=>
  intro cs h;simp only [rk,jQ];rw [y5] at h;rw [rz (by grind),ih _ (by grind),yg]
theorem St.spare{k:Nat}{xs:List α}(hst:St w0 S0 w L)(j:Nat)(hj:L[j]? =some (qi (.slice a n c) T enc sz xs))(he:∀x,(enc x).length=sz)(hk:xs.length<=k)(hkc:k<=c):
  ∃junk:List (List Value),junk.length=k-xs.length/\St w0 S0 w (L.set j (qi (.slice a k c) T (fit sz) sz (xs.map enc++junk))):=by
 have h:dJ w T sz (.slice a n c) xs.length (jQ enc xs):=hst.all j _ hj
 have e:(cY (.slice a k c)).toList=(cY (.slice a n c)).toList:=by
  cases a with
  |none=>rfl
  |some a=>cases c<;>rfl
 have fin:∀junk:List (List Value),junk.length=k-xs.length->dJ w T sz (.slice a k c) (xs.map enc++junk).length (jQ (fit sz) (xs.map enc++junk))->St w0 S0 w (L.set j (qi (.slice a k c) T (fit sz) sz (xs.map enc++junk))):=λjunk hl ho=>
  hst.upd j hj (w9 _ _) ho (λb hb=>.inl (by
   show b∈(cY (.slice a n c)).toList;rw [<- e];exact hb)) vj
 rcases h.2 with ⟨h0,a',hv⟩|⟨g,o,cap,cur,hv,hp,hg,hnc,hm,hcs,ht⟩
 ·simp only [Value.slice.injEq] at hv;obtain ⟨rfl,rfl,rfl⟩:=hv;have hxs:xs=[]:=yx h0;subst hxs;have:k=0:=by omega
  subst this;exact ⟨[],rfl,fin [] rfl (dJ.nil _ _ _ _)⟩
 ·simp only [Value.slice.injEq] at hv;obtain ⟨rfl,rfl,rfl⟩:=hv;have hks:k*sz<=c*sz:=o9 _ hkc;have hxk:xs.length*sz<=k*sz:=o9 _ hk;have hsub:(k-xs.length)*sz=k*sz-xs.length*sz:=Nat.sub_mul ..
  have hwl:((cur.toList.drop o).take (k*sz)).length=k*sz:=by
   grind
  refine ⟨rk sz (k-xs.length) (((cur.toList.drop o).take (k*sz)).drop (xs.length*sz)),py _ _ _,fin _ (py _ _ _) ?_⟩
  have hfl:jQ (fit sz) (xs.map enc++rk sz (k-xs.length) (((cur.toList.drop o).take (k*sz)).drop (xs.length*sz)))=(cur.toList.drop o).take (k*sz):=by
   rw [ii,oB he,Dc _ _ _ (by grind),<- ht]
   conv=>rhs;rw [<- yg (xs.length*sz) ((cur.toList.drop o).take (k*sz))]
   grind
  have hll:(xs.map enc++rk sz (k-xs.length) (((cur.toList.drop o).take (k*sz)).drop (xs.length*sz))).length=k:=by
   grind [py]
  refine ⟨by grind,.inr ⟨g,o,c,cur,by rw [hll],hp,hg,by rw [hll];exact hkc,hm,hcs,?_⟩⟩
  rw [hll,hfl]
theorem St.typed{v:Value}{xs:List α}{css:List (List Value)}(hst:St w0 S0 w L)(j:Nat)(hj:L[j]? =some (qi v T (fit sz) sz css))(he:∀x,(enc x).length=sz)(hc:css=xs.map enc):St w0 S0 w (L.set j (qi v T enc sz xs)):=by
 have h:dJ w T sz v css.length (jQ (fit sz) css):=hst.all j _ hj;subst hc;rw [oB he,p8] at h;exact hst.upd j hj (w9 _ _) h (λb hb=>.inl hb) vj
theorem EO{cs:List Value}(h:eA cs=true)(hl:cs.length=sz):eA (fit sz cs)=true:=by rw [rz hl];exact h
theorem Kk{o:Oper}{t:TypeId}{k:Nat}{kd:IntKind}(ho:o.op=.slice t x none (some y) none)(hx:look fr x=some (.slice a n c))(hy:look fr y=some (.int kd q))(hq:q=(k:Int))
  (hk:k<=c) (ht:P.underlying t=some (.slice e)) (hs:aj P (sizeOf e)=some sz):∀b w,Rep N fr b->(execOp b.eval o).run P w=.ok (.value (.slice a k c)) w:=by
 intro b w hb;have e1:=hb.look hx;have e2:=hb.look hy;subst hq;have h3:(0:Int)<=(k:Int)/\(k:Int)<=(c:Int):=⟨by omega,by omega⟩
 have e4:(if c=0 then a else a.map (λx=>x.add 0))=a:=by
  split
  ·rfl
  ·cases a with
   |none=>rfl
   |some z=>simp [Addr.add]
 simp [execOp,ho,Instr.sliceAt,Instr.slice,Instr.sliceBounds,Instr.sliceBound,run_underlying ht,e1,e2,asIntOf,h3.1,hk,qV hs,e4]
theorem wx{ys:List α}(he:∀x,(enc x).length=sz)(hp:0<sz)(hr:Rd w S (.slice a ys.length c) enc sz ys):(Builtin.firstCells sz ys.length (.slice a ys.length c)).run P w=.ok (jQ enc ys).toArray w:=by
 obtain ⟨_,a2,c2,hv,_,hc⟩:=hr;simp only [Value.slice.injEq] at hv;obtain ⟨rfl,_,rfl⟩:=hv;rcases yn ys.length with h0|h0
 ·have:ys=[]:=yx h0;subst this;cases a<;>simp [Builtin.firstCells,loadCells,loadCellsFrom,jQ]
 ·obtain ⟨y0,hy0⟩:∃y0,ys[0]? =some y0:=⟨ys[0],zeg h0⟩
  obtain ⟨u0,hu0⟩:∃u0,(enc y0)[0]? =some u0:=⟨(enc y0)[0]'(by rw [he];exact hp),zeg (by rw [he];exact hp)⟩
  obtain ⟨b,k,rfl,_,_⟩:=hc 0 y0 0 u0 hy0 hu0;refine run_firstCells_some (P:=P) w sz ys.length ⟨b,k,none⟩ ys.length c _ (qP he _) (λq u hu=> ?_);rw [dy];obtain ⟨t,f,x,hx,hf,hq⟩:=gD he hp hu
  grind
theorem OW.appZ{t tn e:Nat}{af:Array Edge}{bytes:Nat}(hst:St w0 S0 w L)(he:∀x,(enc x).length=sz)
  (hl:vk l i=some ⟨some d,.call ⟨.builtin .append,[x,y].toArray,ats.toArray⟩,ty,pos,af,gdd⟩) (ha:ats=[t,tn]) (hg:gd l fr ⟨some d,.call ⟨.builtin .append,[x,y].toArray,ats.toArray⟩,ty,pos,af,gdd⟩=some true) (hN:Nat.blt d N=true) {ys:List α} (hx:look fr x=some (.slice a ys.length c)) {kd:IntKind} (hy:look fr y=some (.int kd q)) {k:Nat} (hq:q=(k:Int)) (ht:P.underlying t=some (.slice e)) (htn:P.underlying tn=some (.int .i64)) (hel:tN P e sz bytes) (hr:Rd w S (.slice a ys.length c) enc sz ys) (z:α) (hz:(aj P (zeroValue e)).map (·.cells.toList)=some (enc z)) (hk:0<k) (hc:c<ys.length+k) (hb:(ys.length+k)*bytes<=140737488355328)
  (h:∀g cc w',St w0 S0 w' (L++[qi (.slice (some ⟨g,0,none⟩) (ys.length+k) cc) e enc sz (ys++List.replicate k z)])->ys.length+k<=cc->OW P l N Q (i+1) ((d,.slice (some ⟨g,0,none⟩) (ys.length+k) cc)::fr) w'):OW P l N Q i fr w:=by
 subst ha;subst hq;obtain ⟨inf,zv,hi,hzi,hsz,hby,hzs⟩:=hel.Ut;have hkb:k*bytes<=(ys.length+k)*bytes:=o9 _ (by omega);have hnb:ys.length+k<=(ys.length+k)*bytes:=RR _ hel.UB
 have hold:(Builtin.firstCells inf.size ys.length (.slice a ys.length c)).run P w.drew=.ok (jQ enc ys).toArray w.drew:=by
  rw [hsz];have hr':Rd w.drew S (.slice a ys.length c) enc sz ys:=hr;exact wx he hel.pos hr'
 have hrun:=Lib.run_append_grow_zeros (P:=P) w t tn ty e inf zv kd .i64 ht htn hi hzi a ys.length c (jQ enc ys) hold k hk (by rw [hsz];exact hel.pos) hc (by omega) (by rw [hby];omega) (by rw [hby];exact growslice_fits (by omega) hb)
 have hzc:zv.cells.toList=enc z:=by
  cases hq:aj P (zeroValue e) with
  |none=>rw [hq] at hz;cases hz
  |some z'=>
   have h1:=qV hq w;rw [hq] at hz;simp only [zeroValue,typeInfo,hi,hzi] at h1;have:z'=zv:=by simpa [Sem.run,typeInfo,hi,hzi] using h1.symm
   grind
 have hge:=grownCap_ge w (ys.length+k) c e;have hcm:grownCap w (ys.length+k) c e<=maxLen:=grownCap_le_maxLen w (ys.length+k) c e (by simp only [maxLen];omega);obtain ⟨W,hW⟩:∃W,W=(w.drew.alloc (.cells ((jQ enc ys).toArray++Builtin.zeroCells zv.cells k++Builtin.zeroCells zv.cells (grownCap w (ys.length+k) c e-(ys.length+k))) e)):=⟨_,rfl⟩
 rw [<- hW] at hrun;refine j6 hl hg rfl hN (w':=W) (λb hbr=> ?_) (h w.heap.size _ W ?_ hge)
 ·have e1:=hbr.look hx;have e2:=hbr.look hy;simp [execOp,resolve,invoke,builtin,e1,e2,hrun]
 ·subst hW;have hz1:=ng (enc:=enc) hzc k;refine hst.push ⟨rfl,rfl,rfl,by simp,λk hk _=>heap_alloc_old w.drew _ hk⟩ ?_ (λb hb=>ob hb) vj;show dJ _ e sz _ _ _;have hl1:(ys++List.replicate k z).length=ys.length+k:=by simp
  have hf1:jQ enc (ys++List.replicate k z)=jQ enc ys++(Builtin.zeroCells zv.cells k).toList:=by rw [ii,hz1]
  rw [hl1];refine ⟨by grind [qP],.inr ⟨w.heap.size,0,_,_,rfl,by omega,heap_alloc_new w.drew _,hge,hcm,?_,?_⟩⟩
  ·have e1:(jQ enc ys).length=ys.length*sz:=qP he _;simp only [Array.size_append,List.size_toArray,size_zeroCells,hzs,e1,<- u4,x4]
   grind
  grind [jQ,qP]
theorem A8{f:FuncId}{fn:Func}{tS tR:TypeId}{T2:TypeId}{a1 a2:Option Addr}{n1 c1 n2 c2 l2 cc:Nat}{enc2:α->List Value}{sz2 q:Nat}{β:Type}{enc3:β->List Value}{sz3:Nat}{xs:List α}{ys:List β}(hst:St w0 S0 w L)(j1 j2:Nat)(hne:j1≠j2)
  (h1:L[j1]? =some (qi (.slice a1 n1 c1) T enc2 sz2 xs)) (h2:L[j2]? =some (qi (.slice a2 n2 c2) T2 enc3 sz3 ys))
  (hf:P.funcs[f]? =some fn) (hname:(fn.name== "runtime.NumGoroutine")=false) (hb:fn.body.isNone=true) (hn:Extern.findNext fn=none) (hx:Extern.find fn=some (Extern.SlicesOverlaps.overlaps #[tS,tS] #[tR])) (ht:P.underlying tS=some (.slice e)) (hs:aj P (sizeOf e)=some sz) (hp3:0<sz3) (hn1:0<xs.length) (hn2:0<ys.length):
  (callFunc f #[.slice a1 n1 c1,.slice (shd a2 c2 q sz3) l2 cc]).run P w=.ok (.value (.bool false)) w:=by
 rw [run_callFunc_extern hf hname hb hn hx];have o1:dJ w T sz2 (.slice a1 n1 c1) xs.length (jQ enc2 xs):=hst.all j1 _ h1;have o2:dJ w T2 sz3 (.slice a2 n2 c2) ys.length (jQ enc3 ys):=hst.all j2 _ h2;have hz:∀w,(Go.sizeOf e).run P w=.ok sz w:=λw=>qV hs w
 rcases o1.2 with ⟨hz1,_⟩|⟨g,o,cap,cur,hv1,hp1,hg1,hnc1,hm1,hcs1,_⟩
 ·omega
 ·simp only [Value.slice.injEq] at hv1;obtain ⟨rfl,rfl,rfl⟩:=hv1;rcases o2.2 with ⟨hz2,_⟩|⟨g2,o2',cap2,cur2,hv2,hp2',hg2,hnc2,hm2,hcs2,_⟩
  ·omega
  ·simp only [Value.slice.injEq] at hv2;obtain ⟨rfl,rfl,rfl⟩:=hv2;have hgg:g≠g2:=λe=>hst.apart j1 j2 _ _ hne h1 h2 g (by simp [qi,xL hp1]) (by grind [qi,xL])
   obtain ⟨o3,ho3⟩:∃o3,shd (some ⟨g2,o2',none⟩) c2 q sz3=some ⟨g2,o3,none⟩:=by
    unfold shd;split
    ·exact ⟨_,rfl⟩
    ·exact ⟨o2'+q*sz3,by simp [Addr.add]⟩
   rw [ho3];have hsa:w.shape? g=some (T,cur.size):=by unfold World.shape?;rw [hg1]
   have hsb:w.shape? g2=some (T2,cur2.size):=by unfold World.shape?;rw [hg2]
   have hk2:cur2.size≠0:=by
    have:0<c2*sz3:=Nat.mul_pos hp2' hp3;omega
   rw [Lib.run_overlaps_apart w tS tR e ht sz hz ⟨g,o,none⟩ ⟨g2,o3,none⟩ xs.length c1 l2 cc hgg T T2 cur.size cur2.size hsa hsb hk2 ?_ ?_]
   ·rfl
   ·simp [World.frozen?,hg1]
   ·simp [World.frozen?,hg1]
theorem M8{o:Oper}{f:FuncId}{fn:Func}{tS tR:TypeId}{T2:TypeId}{a1 a2:Option Addr}{n1 c1 n2 c2 l2 cc:Nat}{enc2:α->List Value}{sz2 q:Nat}{β:Type}{enc3:β->List Value}{sz3:Nat}{xs:List α}{ys:List β}(hst:St w0 S0 w L)(j1 j2:Nat)(hne:Nat.beq j1 j2=false)
  (h1:L[j1]? =some (qi (.slice a1 n1 c1) T enc2 sz2 xs)) (h2:L[j2]? =some (qi (.slice a2 n2 c2) T2 enc3 sz3 ys)) (ho:o.op=.call ⟨.value (.func f),[x,y].toArray,ats.toArray⟩) (hx:look fr x=some (.slice a1 n1 c1)) (hy:look fr y=some (.slice (shd a2 c2 q sz3) l2 cc))
  (hf:P.funcs[f]? =some fn) (hname:(fn.name== "runtime.NumGoroutine")=false) (hb:fn.body.isNone=true) (hn:Extern.findNext fn=none) (hxx:Extern.find fn=some (Extern.SlicesOverlaps.overlaps #[tS,tS] #[tR])) (ht:P.underlying tS=some (.slice e)) (hs:aj P (sizeOf e)=some sz) (hp3:0<sz3) (hn1:0<xs.length) (hn2:0<ys.length):
  ∀a,Rep N fr a->(execOp a.eval o).run P w=.ok (.value (.bool false)) w:=by
 intro a ha;have e1:=ha.look hx;have e2:=ha.look hy;have h5:=A8 (P:=P) (tS:=tS) (tR:=tR) (e:=e) (l2:=l2) (cc:=cc) (q:=q) hst j1 j2 (p6 hne) h1 h2 hf hname hb hn hxx ht hs hp3 hn1 hn2;have e4:a.eval (.func f)=.func (.func f) #[] #[]:=rfl;simp [execOp,ho,resolve,Deferred.ofValue,invoke,e1,e2,e4,h5,Result.andThen]
end
def OE(by_:Nat)(xs:List α)(i:Int)(ys:List α):Option (List α×List α):=
 if 0<=i/\i<=xs.length/\(xs.length+ys.length)*by_<=140737488355328 then some (xs.take i.toNat++ys++xs.drop i.toNat,ys) else none
theorem A9{b:Nat}{i:Int}{r:List α×List α}(h:OE b xs i ys=some r):∃k:Nat,i=(k:Int)/\k<=xs.length/\(xs.length+ys.length)*b<=140737488355328/\r=(xs.take k++ys++xs.drop k,ys):=by
 unfold OE at h;split at h
 ·grind
 ·cases h
theorem vX{k:Nat}(hq:q=(k:Int))(h:k<=xs.length):cut xs q (xs.length:Int)=some (xs.drop k):=by
 subst hq;unfold cut;rw [d7 ⟨by omega,by omega,by omega⟩];simp
theorem nO{k:Nat}(hq:q=(k:Int))(h:k<=xs.length):cut xs 0 q=some (xs.take k):=by
 grind [cut]
theorem Rj{k:Nat}(h:k<=xs.length)(z:α):over (over (xs.take k++List.replicate (xs.length+ys.length-k) z) k ys) (k+ys.length) (xs.drop k)=xs.take k++ys++xs.drop k:=by
 have h1:over (xs.take k++List.replicate (xs.length+ys.length-k) z) k ys=xs.take k++ys++List.replicate (xs.length-k) z:=by
  unfold over;rw [y6 (by simp;omega),z7,Nat.min_self,r7 (l:=ys) (by simp;omega),RG,x8 (by simp;omega),List.drop_replicate]
  grind
 rw [h1];unfold over;have hl:(xs.take k++ys).length=k+ys.length:=by simp;omega
 rw [y6 (by omega),r7 (by omega),r7 (l:=xs.drop k) (by simp;omega),x8 (l:=xs.take k++ys++List.replicate (xs.length-k) z) (i:=k+ys.length+(xs.drop k).length) (by simp;omega),i9]
theorem M9{sz:Nat}{k m:Nat}{junk:List (List Value)}(h:k<=xs.length)(hj:junk.length=m)(he:∀x,(enc x).length=sz)(ho:∀x,eA (enc x)=true):
  ∀y∈((xs.map enc++junk).drop k).take ((xs.map enc++junk).drop (k+m)).length,eA (fit sz y)=true:=by
 intro y hy;have hl:((xs.map enc++junk).drop (k+m)).length=xs.length-k:=by simp;omega
 rw [hl,<- List.drop_take] at hy
 grind [EO]
theorem Kl{sz:Nat}(he:∀x,(enc x).length=sz)(ho:∀x,eA (enc x)=true):∀y∈(ys.map enc).take n,eA (fit sz y)=true:=by
 grind [EO]
theorem Rk{k:Nat}{junk:List (List Value)}(h:k<=xs.length)(hj:junk.length=ys.length):
  over (over (xs.map enc++junk) (k+ys.length) ((xs.map enc++junk).drop k)) k (ys.map enc)=(xs.take k++ys++xs.drop k).map enc:=by
 obtain ⟨X,hX⟩:∃X,X=xs.map enc++junk:=⟨_,rfl⟩
 have hXl:X.length=xs.length+ys.length:=by rw [hX];simp [hj]
 have hXt:X.take xs.length=xs.map enc:=by grind
 rw [<- hX]
 have h1:over X (k+ys.length) (X.drop k)=X.take (k+ys.length)++(xs.drop k).map enc:=by
  unfold over;rw [x8 (l:=X) (i:=k+ys.length+(X.drop k).length) (by simp;omega),i9]
  congr 1
  rw [hXl,show xs.length+ys.length-(k+ys.length)=xs.length-k by omega,List.map_drop,<- hXt,List.drop_take]
 rw [h1];unfold over;have hl:(X.take (k+ys.length)).length=k+ys.length:=by simp;omega
 rw [y6 (by omega),z7,Nat.min_eq_left (by omega),r7 (l:=ys.map enc) (by simp;omega),RG,x8 (l:=X.take (k+ys.length)) (by simp;omega),hl];simp only [p8,Nat.sub_self,List.drop_zero,List.nil_append,u5]
 congr 2
 have:=congrArg (List.take k) hXt;rw [z7,Nat.min_eq_left h] at this;rw [this,List.map_take]
def L9(xs:List α)(i j:Int):Option (List α):=
 if 0<=i/\i<=j/\j<=xs.length then some (xs.take i.toNat++xs.drop j.toNat) else none
theorem oC{r:List α}{i j:Int}(h:L9 xs i j=some r):∃p q:Nat,i=(p:Int)/\j=(q:Int)/\p<=q/\q<=xs.length/\r=xs.take p++xs.drop q:=by
 unfold L9 at h;split at h
 ·rename_i hc
  obtain ⟨p,rfl⟩:=zof hc.1;obtain ⟨q,rfl⟩:=zof (Int.le_trans hc.1 hc.2.1);cases h;exact ⟨p,q,rfl,rfl,by omega,by omega,rfl⟩
 ·cases h
theorem Q8{p q:Nat}(h1:p<=q)(h2:q<=xs.length)(z:α)(n:Nat):((over xs p (xs.drop q)).take (p+(xs.drop q).length)++List.replicate n z).take (p+(xs.drop q).length)=xs.take p++xs.drop q:=by
 have hl:(over xs p (xs.drop q)).length=xs.length:=kY _ _ _ (by omega);have hd:(xs.drop q).length=xs.length-q:=by simp
 rw [y6 (by grind),z7,Nat.min_self];unfold over;rw [r7 (l:=xs.drop q) (by omega),y6 (by simp;omega),r7 (by simp;omega)]
end
open Go.RowKit
variable {T:TypeId} {name:String} {args:List Value} {x:Operand} {r:Nat} {tk te:TypeId} {y:Operand} {vz:Value} {kd:IntKind}
def GX{α:Type}(T:TypeId)(R:Rp α):Rp α where
 sz:=1
 own w cs S x:=∃u,cs=[.iface T u]/\R.own w [u] S x
 rd w F x cs:=∃u,cs=[.iface T u]/\R.rd w F x [u]
 len:=by rintro w cs S x ⟨u,rfl,_⟩;rfl
 loc:=by rintro w w' cs S x hb ⟨u,rfl,h⟩;exact ⟨u,rfl,R.loc w w' _ _ _ hb h⟩
 lt:=by rintro w cs S x ⟨u,rfl,h⟩;exact R.lt _ _ _ _ h
 nd:=by rintro w cs S x ⟨u,rfl,h⟩;exact R.nd _ _ _ _ h
 see:=by rintro w cs S x F ⟨u,rfl,h⟩ hF;exact ⟨u,rfl,R.see _ _ _ _ F h hF⟩
 rlen:=by rintro w F x cs ⟨u,rfl,h⟩;rfl
 Tn:=by rintro w w' F F' x cs h1 h2 ⟨u,rfl,h⟩;exact ⟨u,rfl,R.Tn w w' F F' _ _ h1 h2 h⟩
def M4{α β:Type}(A:Rp α)(B:Rp β)(hA:A.sz=1)(hB:B.sz=1):Rp (α⊕β) where
 sz:=1
 own w cs S x:=match x with
  |.inl y=>A.own w cs S y
  |.inr y=>B.own w cs S y
 rd w F x cs:=match x with
  |.inl y=>A.rd w F y cs
  |.inr y=>B.rd w F y cs
 len:=by
  rintro w cs S (x|x) h
  ·exact (A.len w cs S x h).trans hA
  ·exact (B.len w cs S x h).trans hB
 loc:=by
  rintro w w' cs S (x|x) hb h
  ·exact A.loc w w' cs S x hb h
  ·exact B.loc w w' cs S x hb h
 lt:=by
  rintro w cs S (x|x) h
  ·exact A.lt w cs S x h
  ·exact B.lt w cs S x h
 nd:=by
  rintro w cs S (x|x) h
  ·exact A.nd w cs S x h
  ·exact B.nd w cs S x h
 see:=by
  rintro w cs S (x|x) F h hF
  ·exact A.see w cs S x F h hF
  ·exact B.see w cs S x F h hF
 rlen:=by
  rintro w F (x|x) cs h
  ·exact (A.rlen w F x cs h).trans hA
  ·exact (B.rlen w F x cs h).trans hB
 Tn:=by
  rintro w w' F F' (x|x) cs h1 h2 h
  ·exact A.Tn w w' F F' x cs h1 h2 h
  ·exact B.Tn w w' F F' x cs h1 h2 h
def rD{α:Type}(R:Rp α)(css:List (List Value))(Ss:List (List Nat))(xs:List α):Item where
 S:=Ss.flatten
 Φ w:=css.length=xs.length/\Ss.length=xs.length/\∀(i:Nat)(cs:List Value)(S:List Nat)(x:α),css[i]? =some cs->Ss[i]? =some S->xs[i]? =some x->R.own w cs S x
 loc w w' h hr:=by
  obtain ⟨h1,h2,h5⟩:=hr;exact ⟨h1,h2,λi cs S x hc hS hx=>R.loc w w' cs S x (λb hb=>h b (k6.2 ⟨S,zmg hS,hb⟩)) (h5 i cs S x hc hS hx)⟩
 lt w hr b hb:=by
  obtain ⟨h1,h2,h5⟩:=hr;obtain ⟨S,hS,hbS⟩:=k6.1 hb;obtain ⟨i,hi,rfl⟩:=t9.1 hS;exact R.lt _ _ _ _ (h5 i css[i] Ss[i] xs[i] (zeg (by omega)) (zeg hi) (zeg (by omega))) b hbS
def MLk(r:Nat)(k:Int)(v vz:Value)(b:Bool)(w:World):Prop:=∃A clock mv,w.heap[r]? =some (.map A clock)/\nw (λv:Value=>v) mv A.toList clock/\(jB mv k).getD vz=v/\(jB mv k).isSome=b
section
variable {P:Program} {N:Nat} {Q:Exit->Act->World->Prop} {fr fr':List (Nat×Value)} {w w0:World} {l:List Oper} {i:Nat} {o:Oper} {S0:List Nat} {L:List Item} {α β:Type} {A:Rp α} {B:Rp β} {hA:A.sz=1} {hB:B.sz=1} {v u:Value} {S:List Nat}
theorem St.sumL{x:α}(h:St w0 S0 w L)(j:Nat)(hj:L[j]? =some (itI (M4 A B hA hB) [v] S (.inl x))):St w0 S0 w (L.set j (itI A [v] S x)):=h.turn j hj (h.all j _ hj) rfl
theorem St.sumR{x:β}(h:St w0 S0 w L)(j:Nat)(hj:L[j]? =some (itI (M4 A B hA hB) [v] S (.inr x))):St w0 S0 w (L.set j (itI B [v] S x)):=h.turn j hj (h.all j _ hj) rfl
theorem St.ofL{x:α}(B:Rp β)(hA:A.sz=1)(hB:B.sz=1)(h:St w0 S0 w L)(j:Nat)(hj:L[j]? =some (itI A [v] S x)):St w0 S0 w (L.set j (itI (M4 A B hA hB) [v] S (.inl x))):=h.turn j hj (h.all j _ hj) rfl
theorem St.ofR{x:β}(A:Rp α)(hA:A.sz=1)(hB:B.sz=1)(h:St w0 S0 w L)(j:Nat)(hj:L[j]? =some (itI B [v] S x)):St w0 S0 w (L.set j (itI (M4 A B hA hB) [v] S (.inr x))):=h.turn j hj (h.all j _ hj) rfl
theorem St.untag{x:α}(h:St w0 S0 w L)(j:Nat)(hj:L[j]? =some (itI (GX T A) [v] S x)):∃u,v=.iface T u/\St w0 S0 w (L.set j (itI A [u] S x)):=by
 obtain ⟨u,hu,hr⟩:=h.all j _ hj;cases hu;exact ⟨u,rfl,h.turn j hj hr rfl⟩
theorem St.tag(T:TypeId){x:α}(h:St w0 S0 w L)(j:Nat)(hj:L[j]? =some (itI A [u] S x)):St w0 S0 w (L.set j (itI (GX T A) [.iface T u] S x)):=h.turn j hj ⟨u,rfl,h.all j _ hj⟩ rfl
def Inv(P:Program)(v:Value)(name:String)(args:List Value)(f:FuncId)(args':List Value):Prop:=∀w,(invoke (.fn (.method name) #[]) (v::args).toArray).run P w=.ok (.enter f args'.toArray) w
def HA:Next->Option (FuncId×List Value)
 |.enter f args=>some (f,args.toList)
 |_=>none
theorem HC{v:Value}{f:FuncId}{args':List Value}(h:(aj P (invoke (.fn (.method name) #[]) (v::args).toArray)).bind HA=some (f,args')):Inv P v name args f args':=by
 intro w;cases hp:aj P (invoke (.fn (.method name) #[]) (v::args).toArray) with
 |none=>rw [hp] at h;cases h
 |some n=>
  rw [hp] at h;cases n with
  |enter g as=>
   simp only [zbs,HA,g9,o7] at h;obtain ⟨rfl,rfl⟩:=h
   simpa using qV hp w
  |_=>cases h
def ur{α:Type}(P:Program):List Value->Sem α->Option (α×List Addr)
 |_,.pure a=>some (a,[])
 |vs,.program k=>ur P vs (k P)
 |v::vs,.load _ a k=>match ur P vs (k v) with
  |some (x,as)=>some (x,a::as)
  |none=>none
 |_,_=>none
theorem HD{α:Type}{P:Program}{s:Sem α}{w:World}:∀{vs:List Value} {x:α} {as:List Addr},ur P vs s=some (x,as)->(∀(i:Nat) a v,as[i]? =some a->vs[i]? =some v->w.cell? a=some v)->s.run P w=.ok x w:=by
 induction s with
 |pure b=>intro vs x as h _;simp only [ur,g9,o7] at h;obtain ⟨rfl,_⟩:=h;rfl
 |program k ih=>intro vs x as h hc;simp only [ur] at h;exact ih P h hc
 |load m a k ih=>
  intro vs x as h hc;cases vs with
  |nil=>simp [ur] at h
  |cons v vs=>
   simp only [ur] at h;split at h
   ·rename_i x' as' hq
    simp only [g9,o7] at h;obtain ⟨rfl,rfl⟩:=h;have h0:=hc 0 a v rfl rfl;have:=ih v hq (λi b u hb hu=>hc (i+1) b u (by simpa using hb) (by simpa using hu))
    simpa [Sem.run,h0] using this
   ·cases h
 |_=>intro vs x as h _;cases vs<;>simp [ur] at h
def Qj(P:Program)(v:Value)(name:String)(args:List Value)(f:FuncId)(args':List Value)(w:World):Prop:=(invoke (.fn (.method name) #[]) (v::args).toArray).run P w=.ok (.enter f args'.toArray) w
def EJ:Next×List Addr->Option (FuncId×List Value×List Addr)
 |(.enter f args,as)=>some (f,args.toList,as)
 |_=>none
theorem M5{P:Program}{v u:Value}{f:FuncId}{args':List Value}{a:Addr}{w:World}(h:(ur P [u] (invoke (.fn (.method name) #[]) (v::args).toArray)).bind EJ=some (f,args',[a]))(hc:w.cell? a=some u):Qj P v name args f args' w:=by
 cases hp:ur P [u] (invoke (.fn (.method name) #[]) (v::args).toArray) with
 |none=>rw [hp] at h;cases h
 |some n=>
  rw [hp] at h;obtain ⟨n,as⟩:=n;cases n with
  |enter g as'=>
   simp only [zbs,EJ,g9,o7] at h;obtain ⟨rfl,rfl,rfl⟩:=h
   have:=HD hp (λi b y hb hy=>by
    cases i with
    |zero=>simp only [z8,g9] at hb hy;subst hb hy;exact hc
    |succ i=>simp at hb)
   simpa [Qj] using this
  |_=>cases h
def M6(P:Program)(v:Value)(name:String)(args:List Value)(w:World)(R:Ending->World->Prop):Prop:=∃f args',Qj P v name args f args' w/\Calls P f args'.toArray w R
def looks(fr:List (Nat×Value)):List Operand->Option (List Value)
 |[]=>some []
 |x::r=>match look fr x,looks fr r with
  |some v,some vs=>some (v::vs)
  |_,_=>none
theorem FP{xs:List Operand}{vs:List Value}(h:looks fr xs=some vs){a:Act}(ha:Rep N fr a):xs.map a.eval=vs:=by
 induction xs generalizing vs with
 |nil=>simp only [looks,g9] at h;rw [<- h];rfl
 |cons x r ih=>
  unfold looks at h;split at h
  ·rename_i v vs' h1 h2
   cases h
   rw [yo,ih h2,ha.look h1]
  ·cases h
theorem OW.inv{d:Nat}{ys:List Operand}{ats:List Nat}{ty:TypeId}{pos:String}{af:Array Edge}{gdd:Option (Nat×Bool)}{R:Ending->World->Prop}
  (hl:vk l i=some ⟨some d,.call ⟨.invoke x name,ys.toArray,ats.toArray⟩,ty,pos,af,gdd⟩) (hg:gd l fr ⟨some d,.call ⟨.invoke x name,ys.toArray,ats.toArray⟩,ty,pos,af,gdd⟩=some true) (hN:Nat.blt d N=true)
  (hx:look fr x=some v) (hy:looks fr ys=some args) (hc:M6 P v name args w R)
  (h:∀e w',R e w'->∃v,e=.returned v/\OW P l N Q (i+1) ((d,v)::fr) w'):OW P l N Q i fr w:=by
 obtain ⟨f,args',hi,hc⟩:=hc;refine OW.call hl hg rfl hN (λa ha=> ?_) hc h;have e1:=ha.look hx;have e2:=FP hy ha;have e3:=hi;unfold Qj at e3;have e4:(ys.toArray.map a.eval)=args.toArray:=by rw [<- e2];simp
 have e5:(Array.map a.eval ys.toArray)=args.toArray:=e4;have e6:((#[v]:Array Value)++args.toArray)=(v::args).toArray:=by simp
 have e7:(execOp a.eval ⟨some d,.call ⟨.invoke x name,ys.toArray,ats.toArray⟩,ty,pos,af,gdd⟩).run P w=((invoke (.fn (.method name) #[]) (#[v]++args.toArray)).run P w):=by
  simp only [execOp,resolve,e1,e5];rfl
 rw [e7,e6,e3]
theorem EK(ho:o.op=.makeInterface T x)(hx:look fr x=some v)(hp:aj P (Instr.makeInterface T v)=some (.iface T v)):∀a w,Rep N fr a->(execOp a.eval o).run P w=.ok (.value (.iface T v)) w:=by
 intro a w ha;have e1:=ha.look hx;have e2:=qV hp w;simp [execOp,ho,e1,e2]
theorem EL{w:World}{cs:List Value}{S:List Nat}{x:α}(h:(GX T A).own w cs S x):eA cs=true:=by
 obtain ⟨u,rfl,_⟩:=h;rfl
theorem Kg{w:World}{cs:List Value}{S:List Nat}{x:α⊕β}(h1:∀w cs S x,A.own w cs S x->eA cs=true)(h2:∀w cs S x,B.own w cs S x->eA cs=true)(h:(M4 A B hA hB).own w cs S x):eA cs=true:=by
 cases x with
 |inl x=>exact h1 _ _ _ _ h
 |inr x=>exact h2 _ _ _ _ h
theorem HE{w:World}{cs:List Value}{S:List Nat}{x:α}(h:(GX T A).own w cs S x):∃T u,cs=[.iface T u]:=by
 obtain ⟨u,rfl,_⟩:=h;exact ⟨_,_,rfl⟩
theorem M7{w:World}{cs:List Value}{S:List Nat}{x:α⊕β}(h1:∀w cs S x,A.own w cs S x->∃T u,cs=[.iface T u])(h2:∀w cs S x,B.own w cs S x->∃T u,cs=[.iface T u])(h:(M4 A B hA hB).own w cs S x):∃T u,cs=[.iface T u]:=by
 cases x with
 |inl x=>exact h1 _ _ _ _ h
 |inr x=>exact h2 _ _ _ _ h
theorem St.ifcell{x:α}(h:St w0 S0 w L)(j:Nat)(hj:L[j]? =some (itI A [v] S x))(hA:∀w cs S x,A.own w cs S x->∃T u,cs=[.iface T u]):∃T u,v=.iface T u:=by
 obtain ⟨T,u,e⟩:=hA _ _ _ _ (h.all j _ hj)
 grind
theorem St.bchOne{R:Rp α}(h:St w0 S0 w L)(j:Nat){cs:List Value}{x:α}(hj:L[j]? =some (itI R cs S x)):St w0 S0 w (L.set j (rD R [cs] [S] [x])):=by
 have hown:R.own w cs S x:=h.all j _ hj;refine h.turn j hj ⟨rfl,rfl,λi c T z hc hT hz=> ?_⟩ (by simp [rD,itI])
 grind
theorem St.bchApp{R:Rp α}{css css2:List (List Value)}{Ss Ss2:List (List Nat)}{xs ys:List α}(h:St w0 S0 w L)(k j:Nat)(hkj:Nat.beq k j=false)(hk:L[k]? =some (rD R css Ss xs))(hj:L[j]? =some (rD R css2 Ss2 ys)):
  St w0 S0 w ((L.set k (rD R (css++css2) (Ss++Ss2) (xs++ys))).set j nilI):=by
 obtain ⟨a1,a2,a5⟩:=h.all k _ hk;obtain ⟨b1,b2,b5⟩:=h.all j _ hj;have hap:∀b∈Ss.flatten,b∉Ss2.flatten:=λb hb hb2=>h.apart k j _ _ (p6 hkj) hk hj b hb hb2
 have get:∀{β:Type} (l m:List β) (i:Nat) (u:β),(l++m)[i]? =some u->(i<l.length/\l[i]? =some u)\/(l.length<=i/\m[i-l.length]? =some u):=by
  grind
 refine h.fuse k j hkj hk hj ⟨by simp;omega,by simp;omega,λi c T z hc hT hz=> ?_⟩ ?_ (λb hb=> ?_)
 ·grind
 ·show (Ss++Ss2).flatten.Nodup;rw [yp];exact k7.2 ⟨h.nd k _ hk,h.nd j _ hj,λa ha b hb e=>by grind⟩
 ·have hb':b∈(Ss++Ss2).flatten:=hb;rw [yp] at hb';exact i5.1 hb'
theorem St.nOf{R:Rp α}{v:Value}{sz:Nat}{css:List (List Value)}{Ss:List (List Nat)}{xs:List α}(h:St w0 S0 w L)(k j:Nat)(hkj:Nat.beq k j=false)(hs:sz=R.sz)(hk:L[k]? =some (qi v T (fit sz) sz css))(hj:L[j]? =some (rD R css Ss xs)):∃S',St w0 S0 w ((L.set k (nI T R v S' xs none)).set j nilI):=by
 subst hs;obtain ⟨b1,b2,b5⟩:=h.all j _ hj;have hrow:=h.all k _ hk;have hd:∀b∈(cY v).toList,b∉Ss.flatten:=h.apart k j _ _ (p6 hkj) hk hj;have hn:Ss.flatten.Nodup:=h.nd j _ hj;have hnd:((cY v).toList++Ss.flatten).Nodup:=k7.2 ⟨cI,hn,λa ha b hb e=>by grind⟩;refine ⟨_,h.fuse k j hkj hk hj (C:=nI T R v ((cY v).toList++Ss.flatten) xs none) ⟨css,Ss,⟨?_,b1,b2,rfl,hnd,(λ_ _ e=>by cases e),λi c S' z _ hc hS hz=>b5 i c S' z hc hS hz⟩⟩ hnd (λb hb=>i5.1 hb)⟩;rw [<- b1];exact hrow
theorem St.mlookS{R:Rp α}{m:List (Int×α)}{k:Int}(R0:Rp β)(f:Option α->β)(hst:St w0 S0 w L)(j:Nat)(hj:L[j]? =some (mN r R S m none))(vz:Value)(hz:∀w,R0.own w [vz] [] (f none))(hR:∀w cs S x,R.own w cs S x->R0.own w cs S (f (some x)))(hR2:∀w cs S x,R0.own w cs S (f (some x))->R.own w cs S x):
  ∃v S1 S2,(jB m k=none->v=vz)/\MLk r k v vz (jB m k).isSome w/\St w0 S0 w (L.set j (mN r R S1 m (some (k,v)))++[itI R0 [v] S2 (f (jB m k))]):=by
 obtain ⟨v,S1,S2,mv,Ss,hst2,hr,hv⟩:=Cf (k:=k) hst j hj vz hz hR hR2;obtain ⟨A,clock,hA,hE⟩:=hr.map;have hs:=tU hr.Tk k;refine ⟨v,S1,S2,λhn=> ?_,⟨A,clock,mv,hA,hE,hv,?_⟩,hst2⟩
 ·rw [hn] at hs;cases hm:jB mv k with
  |none=>rw [hm] at hv;exact hv.symm
  |some u=>rw [hm] at hs;cases hs
 ·exact hs
theorem HG{t:TypeId}{two:Bool}{k:Int}{b:Bool}(h:MLk r k v vz b w)(ho:o.op=.lookup t x y two)(hx:look fr x=some (.map (some r)))(hy:look fr y=some (.int .i64 k))
  (ht:P.underlying t=some (.map tk te)) (hk:P.underlying tk=some (.int kd)) (hzv:aj P (zeroValue te)=some vz):∀a,Rep N fr a->(execOp a.eval o).run P w=.ok (.value (if two then .tuple #[v,.bool b] else v)) w:=by
 intro a ha;have e1:=ha.look hx;have e2:=ha.look hy;obtain ⟨A,clock,mv,hA,hE,hv,hb⟩:=h;have hf:=ry (P:=P) (w:=w) (k:=k) hk hE;cases hm:jB mv k with
 |none=>
  rw [xn.2 hm] at hf;rw [hm] at hb hv;subst hv;subst hb;cases two<;>simp [execOp,ho,Instr.lookup,run_underlying ht,e1,e2,cL hA,aR hk,hf,qV hzv]
 |some u=>
  obtain ⟨i,hp,_⟩:=eC hm;rw [hp,hm] at hf;rw [hm] at hb hv;subst hv;subst hb;cases two<;>simp [execOp,ho,Instr.lookup,run_underlying ht,e1,e2,cL hA,aR hk,hf]
theorem Kh{t:TypeId}{k:Int}{b:Bool}(h:MLk r k v vz b w)(ho:o.op=.lookup t x y false)(hx:look fr x=some (.map (some r)))(hy:look fr y=some (.int .i64 k))
 (ht:P.underlying t=some (.map tk te)) (hk:P.underlying tk=some (.int kd)) (hzv:aj P (zeroValue te)=some vz):∀a,Rep N fr a->(execOp a.eval o).run P w=.ok (.value v) w:=HG (two:=false) h ho hx hy ht hk hzv
theorem Ki{t:TypeId}{k:Int}{b:Bool}(h:MLk r k v vz b w)(ho:o.op=.lookup t x y true)(hx:look fr x=some (.map (some r)))(hy:look fr y=some (.int .i64 k))
 (ht:P.underlying t=some (.map tk te)) (hk:P.underlying tk=some (.int kd)) (hzv:aj P (zeroValue te)=some vz):∀a,Rep N fr a->(execOp a.eval o).run P w=.ok (.value (.tuple #[v,.bool b])) w:=HG (two:=true) h ho hx hy ht hk hzv
end
end
open Go.RowKit
def apart(a b:Int):Option Unit:=if a.toNat=b.toNat then none else some ()
open Go.RowKit
open Go.RowKit
variable {js:List Nat} {α:Type} {sz:Nat} {v':Value} {T:TypeId} {ι:Type} {ks:List Nat} {vs:List Value} {xs:List α} {R:Rp α}
section
variable {ρ:Type} {h:LH} {hs hs' hs1 hs2:List H} {f:Option ρ} {r:ρ} {Fs Fs':List Fa} {L L':List Item} {fr:Fr} {P:Program} {B:Func} {N:Nat} {w0:World} {Z:List Nat} {c x y:Code} {Q:Exit->Act->World->Prop} {l:List Oper} {i:Nat} {e:Exit} {v:Value}
theorem Giv.dn{α:Type}{e:Nat}{v':Value}{R:Rp α}{xs:List α}{js:List Nat}{src:List Src}{Fin:List Fa}(he:nth Fs e=some (.rn v' R xs))(hp:KR (Nat.blt 0 R.sz) true)(n:Giv src Fs L js Fin):Giv (.dn e::src) Fs L js (.rn v' R xs::Fin):=
 ⟨λw0 Z w a s=>⟨RdN.give (by have:=hp.h;simpa [u6] using this) (zz a he) s js,n.g w0 Z w a s⟩⟩
theorem Giv.oN{α:Type}{j:Nat}{T:TypeId}{v':Value}{R:Rp α}{S:List Nat}{xs xs':List α}{js:List Nat}{src:List Src}{Fin:List Fa}(he:nth L j=some (nI T R v' S xs' none))(hn:KR (mem? j js) false)(hxx:KR xs' xs)(n:Giv src Fs L js Fin):
  Giv (.oN j::src) Fs L js (.rn v' R xs::Fin):=
 ⟨λw0 Z w a s=>by
  have hj:L[j]? =some (nI T R v' S xs none):=by rw [<- zP,<- hxx.h];exact he
  exact ⟨s.seeN j hj js hn.h,n.g w0 Z w a s⟩⟩
theorem GO.co{σ κ ι0 ι1:Type}{S:Prop}{js rest:List Nat}{src:List Src}{kf:FuncId}{args:List Value}{o:Option σ}{sel:σ->Option κ}{A:σ->Option ρ}{Bk:σ->κ->Option ρ}{post0:σ->ι0->Value×List Item}{post1:σ->κ->ι1->Value×List Item}{Fin:List Fa}{Lin Lq Bq:List Item}{L0:σ->ι0->List Item}{L1:σ->κ->ι1->List Item}[C:HasC o S]
  (hS:S->OZ P kf args Fin Lin o sel post0 post1) (hL:fP L js []=some Lq) (hM:Sim Lq Lin) (hg:Giv src Fs L js Fin) (hp:KR (pcC P l N fr i) (some (kf,args))) (hB:fP L rest []=some Bq) (hJ0:∀x q,lw (post0 x q).2 Bq=some (L0 x q)) (hJ1:∀x k q,lw (post1 x k q).2 Bq=some (L1 x k q))
  (hd:KR (zQ (js++rest)) true) (n0:∀x q,GO hs1 (A x) r Fs (L0 x q) ((dst l i,(post0 x q).1)::fr) P B N w0 Z l (i+1) Q) (n1:∀x k q,GO hs2 (Bk x k) r Fs (L1 x k q) ((dst l i,(post1 x k q).1)::fr) P B N w0 Z l (i+1) Q):
  GO (.co js src rest hs2 hs1::hs) (o.bind λx=>vB (sel x) (A x) (Bk x)) r Fs L fr P B N w0 Z l i Q:=⟨λw a s q=>by
 obtain ⟨x,hx,hk⟩:=zI q;have hp:=hp.h;unfold pcC at hp;cases ho:okO l N fr i with
 |none=>rw [ho] at hp;cases hp
 |some op=>
  rw [ho] at hp;obtain ⟨d,hl,hg',hdd,hN⟩:=jD ho;have e1:=xk hL;have e2:=xk hB;rw [hM.e] at e1;rw [i9] at e1 e2;subst e1 e2;refine OW.fn hl hg' hdd hN hp ((hS C.c).h.c w x (hg.g w0 Z w a s) (s.part js (by have:=hd.h;exact dt this)) hx) ?_
  intro e w' hR;unfold RO at hR;cases hs:sel x with
  |none=>
   rw [hs] at hR;obtain ⟨i',rfl,s'⟩:=hR;refine ⟨_,rfl,?_⟩;have h3:=(n0 x i').o w' a (by rw [bJ (hJ0 x i')];exact s.join hd.h s') (pL hk hs)
   rw [vl hl hdd] at h3;exact h3
  |some k=>
   rw [hs] at hR;obtain ⟨i',rfl,s'⟩:=hR;refine ⟨_,rfl,?_⟩;have h3:=(n1 x k i').o w' a (by rw [bJ (hJ1 x k i')];exact s.join hd.h s') (pM hk hs)
   rw [vl hl hdd] at h3;exact h3⟩
structure Q3 {σ ι:Type} (S:Prop) (P:Program) (k:FuncId) (args:List Value) (Fin:World->List Nat->List Fa) (L:List Item) (f:Option σ) (post:σ->ι->Value×List Item):Prop where
 h:S->∀wb Sb,Ctr P k args (Fin wb Sb) L f post
structure CD (src:List Src) (Fs:List Fa) (L:List Item) (js:List Nat) (Fin:World->List Nat->List Fa):Prop where
 g:∀w0 Z w,bC w0 Z Fs->St w0 Z w L->bC w (fp (sel L js)) (Fin w (fp (sel L js)))
theorem CD.nil:CD [] Fs L js (λ_ _=>[]):=⟨λ_ _ _ _ _=>trivial⟩
theorem CD.b{e:Nat}{js:List Nat}{src:List Src}{Fin:World->List Nat->List Fa}(n:CD src Fs L js Fin):CD (.b e::src) Fs L js (λwb Sb=>.bo wb Sb::Fin wb Sb):=
 ⟨λw0 Z w a s=>⟨Bor.refl _ _,n.g w0 Z w a s⟩⟩
theorem CD.p{sr:Src}{enc:α->List Value}{src:List Src}{Fin:World->List Nat->List Fa}(h1:Giv [sr] Fs L js [.rd v' enc sz xs])(n:CD src Fs L js Fin):
  CD (sr::src) Fs L js (λwb Sb=>.rb wb Sb v' enc sz xs::.rd v' enc sz xs::Fin wb Sb):=
 ⟨λw0 Z w a s=>⟨(h1.g w0 Z w a s).1,(h1.g w0 Z w a s).1,n.g w0 Z w a s⟩⟩
theorem CD.t{e:Nat}{enc:α->List Value}{src:List Src}{Fin:World->List Nat->List Fa}(h1:Giv [.f e] Fs L js [.rd v' enc sz xs])(n:CD src Fs L js Fin):
  CD (.c e::src) Fs L js (λwb Sb=>.rd v' enc sz xs::Fin wb Sb):=
 ⟨λw0 Z w a s=>⟨(h1.g w0 Z w a s).1,n.g w0 Z w a s⟩⟩
theorem GO.cn{σ ι:Type}{S:Prop}{js rest:List Nat}{src:List Src}{kf:FuncId}{args:List Value}{o:Option σ}{k:σ->Option ρ}{post:σ->ι->Value×List Item}{Fin:World->List Nat->List Fa}{Lin Lq Bq:List Item}{L1:σ->ι->List Item}[C:HasC o S]
  (hS:Q3 S P kf args Fin Lin o post) (hL:fP L js []=some Lq) (hM:Sim Lq Lin) (hg:CD src Fs L js Fin) (hp:KR (pcC P l N fr i) (some (kf,args))) (hB:fP L rest []=some Bq) (hJ:∀x q,lw (post x q).2 Bq=some (L1 x q))
  (hd:KR (zQ (js++rest)) true) (n:∀x q,GO hs (k x) r Fs (L1 x q) ((dst l i,(post x q).1)::fr) P B N w0 Z l (i+1) Q):GO (.cn js src rest::hs) (o.bind k) r Fs L fr P B N w0 Z l i Q:=⟨λw a s q=>by
 obtain ⟨x,hx,hk⟩:=zI q;have hp:=hp.h;unfold pcC at hp;cases ho:okO l N fr i with
 |none=>rw [ho] at hp;cases hp
 |some op=>
  rw [ho] at hp;obtain ⟨d,hl,hg',hdd,hN⟩:=jD ho;have e1:=xk hL;have e2:=xk hB;rw [hM.e] at e1;rw [i9] at e1 e2;subst e1 e2;refine OW.fn hl hg' hdd hN hp ((hS.h C.c w (fp (sel L js))).c w x (hg.g w0 Z w a s) (s.part js (by have:=hd.h;exact dt this)) hx) ?_
  rintro e w' ⟨i',rfl,s'⟩;refine ⟨_,rfl,?_⟩;have h3:=(n x i').o w' a (by rw [bJ (hJ x i')];exact s.join hd.h s') hk
  rw [vl hl hdd] at h3;exact h3⟩
def IQ(P:Program)(l:List Oper)(N:Nat)(Q:Exit->Act->World->Prop)(i:Nat)(fr:Fr)(B:Func):Ending->World->Prop:=λe w=>∃v,e=.returned v/\OW P l N Q (i+1) ((dst l i,v)::fr) w
def pcA(P:Program)(l:List Oper)(N:Nat)(fr:Fr)(i:Nat):List Value:=match pcC P l N fr i with
 |some p=>p.2
 |none=>[]
theorem GO.il{k:FuncId}{fn:Func}{M:Nat}{hf:P.funcs[k]? =some fn}(hb:fn.body=some c)(hM:fn.ntmps=M)(hp:KR ((pcC P l N fr i).map (·.1)) (some k))(hz:KR (Nat.ble (pcA P l N fr i).length M) true)
  (n:GC hs f r Fs L (rx 0 (pcA P l N fr i)) P fn M w0 Z c (bodyPost P fn (IQ P l N Q i fr B))):GO (.il hf::hs) f r Fs L fr P B N w0 Z l i Q:=⟨λw a s q=>by
 have hp:=hp.h;have hz:=hz.h;have hn:=n.o w a s q;unfold pcA at hz hn;cases hc:pcC P l N fr i with
 |none=>rw [hc] at hp;cases hp
 |some p=>
  rw [hc] at hp hz hn;simp only [t5,g9] at hp;subst hp;have hc0:=hc;unfold pcC at hc;cases ho:okO l N fr i with
  |none=>rw [ho] at hc;cases hc
  |some op=>
   rw [ho] at hc;obtain ⟨d,hl,hg',hdd,hN⟩:=jD ho;unfold IQ at hn;rw [vl hl hdd] at hn;exact OW.inl hl hg' hdd hN hc hf hb hM hz hn⟩
def Q4(fn:Func)(fr:Fr):Value:=(OD fn fr).getD undef
theorem GQ.ri{M:Nat}{fn:Func}{fr':Fr}{B0:Func}(hr:KR (OD fn fr').isSome true)(n:GO hs f r Fs L ((dst l i,Q4 fn fr')::fr) P B N w0 Z l (i+1) Q):
  GQ (.ri::hs) f r Fs L fr' P B0 M w0 Z .ret (bodyPost P fn (IQ P l N Q i fr B)):=⟨λw a s q=>by
 have hn:=n.o w a s q;have hr:=hr.h;unfold Q4 at hn;have hl:∀{l},fn.results.toList=l->fn.results=l.toArray:=λh=>by rw [<- h]
 cases hc:OD fn fr' with
 |none=>rw [hc] at hr;cases hr
 |some u=>
  rw [hc] at hn;simp only [Option.getD_some] at hn;unfold OD at hc;split at hc
  ·rename_i a' e'
   exact s7 (hl e') hc ⟨_,rfl,hn⟩
  ·rename_i a' b' e'
   split at hc
   ·rename_i x y h1 h2
    cases hc
    exact QW.ret2 (hl e') h1 h2 ⟨_,rfl,hn⟩
   ·cases hc
  ·rename_i a' b' c' e'
   split at hc
   ·rename_i x y z h1 h2 h4
    cases hc
    exact QW.ret3 (hl e') h1 h2 h4 ⟨_,rfl,hn⟩
   ·cases hc
  ·cases hc⟩
end
section
variable {h:LH} {Fs Fs':List Fa} {L L':List Item} {w0:World} {Z:List Nat} {v:Value}
theorem Cel.ce{e ff g o:Nat}{cs:List Value}{u:Value}(he:nth Fs e=some (.ce g o cs))(hu:nth cs ff=some u):Cel Fs L w0 Z (.ce e ff) ⟨g,o+ff,none⟩ u:=
 ⟨λw a s=>(zz a he:Fa.ok w0 Z (.ce g o cs)) w L s ff u (by grind [zP])⟩
theorem pW.ce{e ff n g o:Nat}{cs us:List Value}(he:nth Fs e=some (.ce g o cs))(hu:Hn cs ff n=some us):pW Fs L w0 Z (.cE e ff n) g (o+ff) us:=⟨λw a s j u hj=>by
 rw [yq];exact (zz a he:Fa.ok w0 Z (.ce g o cs)) w L s (ff+j) u ((fZ hu).2 j u hj)⟩
theorem Cel.nh{α:Type}{j q ff n g o:Nat}{T:TypeId}{R:Rp α}{v':Value}{S:List Nat}{xs xs':List α}{cs:List Value}{t:Int}{x:α}{u:Value}(hj:nth L j=some (nI T R v' S xs' (some (n,cs))))(hq:nth Fs q=some (.el v' g o t xs x))(hn:KR n t.toNat)(hu:nth cs ff=some u):
  Cel Fs L w0 Z (.nh j q ff) ⟨g,o+t.toNat*R.sz+ff,none⟩ u:=⟨λw a s=>by
 obtain ⟨_,c,h2⟩:=zz a hq;have hj:=hj;rw [hn.h] at hj;exact s.nhole j (by rw [<- zP];exact hj) h2 ff u (by grind [zP])⟩
theorem pW.nH{α:Type}{j q ff m n g o:Nat}{T:TypeId}{R:Rp α}{v':Value}{S:List Nat}{xs xs':List α}{cs us:List Value}{t:Int}{x:α}(hj:nth L j=some (nI T R v' S xs' (some (n,cs))))(hq:nth Fs q=some (.el v' g o t xs x))(hn:KR n t.toNat)(hu:Hn cs ff m=some us):
  pW Fs L w0 Z (.nH j q ff m) g (o+t.toNat*R.sz+ff) us:=⟨λw a s k u hk=>by
 obtain ⟨_,c,h2⟩:=zz a hq;have hj:=hj;rw [hn.h] at hj;rw [yq];exact s.nhole j (by rw [<- zP];exact hj) h2 (ff+k) u ((fZ hu).2 k u hk)⟩
end
structure lM {β ι:Type} (ks:List Nat) (A:Rp β) (vs:ι->β->List Value) (fcs:ι->β->List Fa):Prop where
 o:∀w Z cs y,A.rd w Z y cs->∃i,cs=vs i y/\bC w Z (fcs i y)
section
variable {β γ:Type}
theorem lM.row{enc:β->List Value}{he:∀x,(enc x).length=sz}{hp:0<sz}:
  lM [1] (mU T enc sz he hp) (λ(i:Option Addr×Nat)y=>[.slice i.1 y.length i.2]) (λi y=>[.rd (.slice i.1 y.length i.2) enc sz y]):=⟨by
 rintro w Z cs y ⟨v,rfl,h⟩;obtain ⟨_,a,c,rfl⟩:=Rd.len h;exact ⟨(a,c),rfl,h,trivial⟩⟩
theorem lM.pair{κ:Type}{k k2:Nat}{A:Rp β}{B:Rp γ}{vs:ι->β->List Value}{fcs:ι->β->List Fa}{vs2:κ->γ->List Value}{fcs2:κ->γ->List Fa}
  (h1:lM [k] A vs fcs) (h2:lM (k2::ks) B vs2 fcs2):lM (k::k2::ks) (jp A B) (λ(i:ι×κ)y=>vs i.1 y.1++vs2 i.2 y.2) (λi y=>fcs i.1 y.1++fcs2 i.2 y.2):=⟨by
 rintro w Z cs y ⟨c1,c2,rfl,o1,o2⟩;obtain ⟨i,rfl,f1⟩:=h1.o w Z _ _ o1;obtain ⟨j,rfl,f2⟩:=h2.o w Z _ _ o2;exact ⟨(i,j),rfl,LY w Z f1 f2⟩⟩
theorem lM.st{ff:γ->List Value->List Value}{hl:∀x vs,(ff x vs).length=sz}{g:γ->β}{A:Rp β}{vs:ι->β->List Value}{fcs:ι->β->List Fa}(h:lM ks A vs fcs):
  lM (3::ks) (qL ff sz hl g A) (λ(i:ι)x=>ff x (vs i (g x))) (λi x=>fcs i (g x)):=⟨by
 rintro w Z cs x ⟨us,rfl,h2⟩;obtain ⟨i,rfl,f1⟩:=h.o w Z _ _ h2;exact ⟨i,rfl,f1⟩⟩
end
section
variable {ρ:Type} {h:LH} {hs hs' hs1 hs2:List H} {f:Option ρ} {r:ρ} {Fs Fs':List Fa} {L L':List Item} {fr:Fr} {P:Program} {B:Func} {N:Nat} {w0:World} {Z:List Nat} {c x y:Code} {Q:Exit->Act->World->Prop} {l:List Oper} {i:Nat} {e:Exit} {v:Value}
theorem QE{e:Nat}{vs:ι->α->List Value}{fcs:ι->α->List Fa}{t:Int}{x:α}{Fs1:α->Nat->Nat->ι->List Fa}(he:nth Fs e=some (.rn v' R xs))(hO:lM ks R vs fcs)
  (hF:∀x g o q,lw Fs (.el v' g o t xs x::.ce g (o+t.toNat*R.sz) (vs q x)::fcs q x)=some (Fs1 x g o q)) (a:bC w0 Z Fs) (hx:idx xs t=some x):∃g o q,bC w0 Z (Fs1 x g o q):=by
 have hr:RdN w0 Z v' R.rd R.sz xs:=zz a he;obtain ⟨g,o,c,cs,hv,hd,hc⟩:=hr.formv hx;obtain ⟨q,rfl,f1⟩:=hO.o w0 Z _ _ hd;exact ⟨g,o,q,lI (hF x g o q) a ⟨⟨hx,c,hv⟩,λw' L' s' k u hu=>hc k u hu w' L' s',f1⟩⟩
theorem GP.bd{α ι:Type}{done eff:List Nat}{pd:List (Nat×Pn)}{e:Nat}{v':Value}{R:Rp α}{ks:List Nat}{vs:ι->α->List Value}{fcs:ι->α->List Fa}{xs:List α}{t:Int}{k:α->Option ρ}{Fs1:α->Nat->Nat->ι->List Fa}(he:nth Fs e=some (.rn v' R xs))(hO:lM ks R vs fcs)
  (hF:∀x g o q,lw Fs (.el v' g o t xs x::.ce g (o+t.toNat*R.sz) (vs q x)::fcs q x)=some (Fs1 x g o q)) (n:∀x g o q,GP hs (k x) r (Fs1 x g o q) L fr P B N w0 Z l done eff pd Q):GP (.bd e ks::hs) ((idx xs t).bind k) r Fs L fr P B N w0 Z l done eff pd Q:=⟨λw a s q=>by
 obtain ⟨x,hx,hk⟩:=zI q;obtain ⟨g,o,j,a'⟩:=QE he hO hF a hx;exact (n x g o j).o w a' s hk⟩
theorem MQ{w:World}{j:Nat}{S:List Nat}{ho:Option (Nat×List Value)}{xs':List α}{t:Int}{x:α}(he:nth L j=some (nI T R v' S xs' ho))(hxx:KR xs' xs)(s:St w0 Z w L)(hx:idx xs t=some x):∃g o,(Fa.el v' g o t xs x).ok w0 Z:=by
 have he:=he;rw [hxx.h] at he;obtain ⟨g,o,c,h1⟩:=s.nrowv j (by rw [<- zP];exact he) hx
 exact ⟨g,o,hx,c,h1⟩
theorem GO.bn{α:Type}{j:Nat}{T:TypeId}{R:Rp α}{S:List Nat}{ho:Option (Nat×List Value)}{v':Value}{xs xs':List α}{t:Int}{k:α->Option ρ}{Fs1:α->Nat->Nat->List Fa}(he:nth L j=some (nI T R v' S xs' ho))(hxx:KR xs' xs)
  (hF:∀x g o,vc Fs (.el v' g o t xs x)=some (Fs1 x g o)) (n:∀x g o,GO hs (k x) r (Fs1 x g o) L fr P B N w0 Z l i Q):GO (.bn j::hs) ((idx xs t).bind k) r Fs L fr P B N w0 Z l i Q:=⟨λw a s q=>by
 obtain ⟨x,hx,hk⟩:=zI q;obtain ⟨g,o,h1⟩:=MQ he hxx s hx;exact (n x g o).o w (jw a h1 (hF x g o)) s hk⟩
theorem GS.bn{α:Type}{cc:Nat}{m:Bool}{j:Nat}{T:TypeId}{R:Rp α}{S:List Nat}{ho:Option (Nat×List Value)}{v':Value}{xs xs':List α}{t:Int}{k:α->Option ρ}{Fs1:α->Nat->Nat->List Fa}(he:nth L j=some (nI T R v' S xs' ho))(hxx:KR xs' xs)
  (hF:∀x g o,vc Fs (.el v' g o t xs x)=some (Fs1 x g o)) (n:∀x g o,GS hs (k x) r (Fs1 x g o) L fr P B N w0 Z l i cc m Q):GS (.bn j::hs) ((idx xs t).bind k) r Fs L fr P B N w0 Z l i cc m Q:=⟨λw a s q=>by
 obtain ⟨x,hx,hk⟩:=zI q;obtain ⟨g,o,h1⟩:=MQ he hxx s hx;exact (n x g o).o w (jw a h1 (hF x g o)) s hk⟩
theorem GP.bn{α:Type}{done eff:List Nat}{pd:List (Nat×Pn)}{j:Nat}{T:TypeId}{R:Rp α}{S:List Nat}{ho:Option (Nat×List Value)}{v':Value}{xs xs':List α}{t:Int}{k:α->Option ρ}{Fs1:α->Nat->Nat->List Fa}(he:nth L j=some (nI T R v' S xs' ho))(hxx:KR xs' xs)
  (hF:∀x g o,vc Fs (.el v' g o t xs x)=some (Fs1 x g o)) (n:∀x g o,GP hs (k x) r (Fs1 x g o) L fr P B N w0 Z l done eff pd Q):GP (.bn j::hs) ((idx xs t).bind k) r Fs L fr P B N w0 Z l done eff pd Q:=⟨λw a s q=>by
 obtain ⟨x,hx,hk⟩:=zI q;obtain ⟨g,o,h1⟩:=MQ he hxx s hx;exact (n x g o).o w (jw a h1 (hF x g o)) s hk⟩
end
theorem St.spread{w0 w:World}{Z:List Nat}{L B:List Item}{A:Item}(h:St w0 Z w (L++[A]))(hB:ak w A.S B):St w0 Z w (L++B):=by
 have hA:(L++[A])[L.length]? =some A:=by simp
 refine h.repart (λi it hi=> ?_) (λi j a b hij hi hj=> ?_)
 ·rcases aX hi with ⟨h1,h2⟩|⟨h1,h2⟩
  ·have h3:(L++[A])[i]? =some it:=by rw [x9 h1];exact h2
   exact ⟨h.all i it h3,h.nd i it h3,λx hx=>vw.2 ⟨i,it,h3,hx⟩⟩
  ·obtain ⟨p,q,t⟩:=hB.1 _ _ h2;exact ⟨p,q,λx hx=>vw.2 ⟨L.length,A,hA,t x hx⟩⟩
 ·have key:∀(i:Nat)(a:Item),i<L.length->L[i]? =some a->∀x∈a.S,x∉A.S:=λi a h1 h2 x hx=>by
   have h3:(L++[A])[i]? =some a:=by grind
   exact h.apart i L.length a A (by omega) h3 hA x hx
  intro x hx hy;rcases aX hi with ⟨h1,h2⟩|⟨h1,h2⟩<;>rcases aX hj with ⟨h3,h4⟩|⟨h3,h4⟩
  ·exact h.apart i j a b hij (by grind) (by grind) x hx hy
  ·exact key i a h1 h2 x hx ((hB.1 _ _ h4).2.2 x hy)
  ·exact key j b h3 h4 x hy ((hB.1 _ _ h2).2.2 x hx)
  ·exact hB.2 _ _ a b (by omega) h2 h4 x hx hy
section
variable {β γ:Type} {q:Nat} {Fs:List Fa} {L:List Item}
theorem jn.st{ff:γ->List Value->List Value}{hl:∀x vs,(ff x vs).length=sz}{g:γ->β}{A:Rp β}{vs:ι->β->List Value}{its:ι->β->List Item}{fcs:ι->β->List Fa}(h:jn ks q Fs A vs its fcs):
  jn (7::ks) q Fs (qL ff sz hl g A) (λ(i:ι)x=>ff x (vs i (g x))) (λi x=>its i (g x)) (λi x=>fcs i (g x)):=⟨by
 rintro w0 Z w cs S x a ⟨us,rfl,h2⟩;obtain ⟨i,rfl,p1,f1⟩:=h.o w0 Z w _ _ _ a h2
 grind⟩
theorem qK.st{ks:List Pa}{us:List Value}{ff:γ->List Value->List Value}{hl:∀x vs,(ff x vs).length=sz}{g:γ->β}{A:Rp β}{x:γ}{y:β}(h:qK ks Fs L A js us y)(hx:KR vs (ff x us))(hy:KR (g x) y):qK (.s::ks) Fs L (qL ff sz hl g A) js vs x:=⟨λw0 Z w hd a s=>by
 obtain ⟨S,o1,n1,f1⟩:=h.o w0 Z w hd a s;exact ⟨S,⟨us,hx.h,by rw [hy.h];exact o1⟩,n1,f1⟩⟩
end
section
variable {ρ:Type} {h:LH} {hs hs' hs1 hs2:List H} {f:Option ρ} {r:ρ} {Fs Fs':List Fa} {L L':List Item} {fr:Fr} {P:Program} {B:Func} {N:Nat} {w0:World} {Z:List Nat} {c x y:Code} {Q:Exit->Act->World->Prop} {l:List Oper} {i:Nat} {e:Exit} {v:Value}
theorem MR{a b:Nat}(h:a≠b):Nat.beq a b=false:=by
 cases hb:Nat.beq a b with
 |false=>rfl
 |true=>exact absurd (t6 hb) h
theorem pp{L:List α}{j:Nat}{x y:α}{B:List α}(h:L[j]? =some y):(L++B).set j x=L.set j x++B:=by
 grind
theorem Adm.no{α ι:Type}{j q e g o:Nat}{ks:List Nat}{T:TypeId}{R:Rp α}{v':Value}{S:List Nat}{xs xs':List α}{t:Int}{x:α}{vs:ι->α->List Value}{its:ι->α->List Item}{fcs:ι->α->List Fa}{Lq L1:ι×List Nat->List Item}{Fs1:ι×List Nat->List Fa}
  (hq:nth Fs q=some (.el v' g o t xs x)) (hj:nth L j=some (nI T R v' S xs' none)) (hxx:KR xs' xs) (hO:jn ks e Fs R vs its fcs) (hN:∀p,dc L j (nI T R v' p.2 xs' (some (t.toNat,vs p.1 x)))=some (Lq p)) (hA:∀p,lw (Lq p) (its p.1 x)=some (L1 p)) (hF:∀p,lw Fs (fcs p.1 x)=some (Fs1 p)):
  Adm (.no j q e ks) Fs L L1 Fs1:=⟨λw0 Z w a s=>by
 obtain ⟨hx,c,hv⟩:=zz a hq;have hxx:=hxx.h;subst hxx;have hj':L[j]? =some (nI T R v' S xs' none):=by grind [zP]
 obtain ⟨cs,S1,S2,hl,hce,s2⟩:=s.nout j hj' hx hv;have ho:R.own w cs S2 x:=s2.all L.length (itI R cs S2 x) (by simp);obtain ⟨k,rfl,hp,hf⟩:=hO.o w0 Z w _ _ _ a ho;refine ⟨(k,S1),?_,lI (hF (k,S1)) a hf⟩;rw [bJ (hA (k,S1)),qJ (hN (k,S1))];exact s2.spread hp⟩
theorem gt{ks:List Pa}{rest:List Nat}{y:α}{Lr:List Item}(hS:qK ks Fs L R js vs y)(hr:fP L rest []=some Lr)(hd:zQ (js++rest)=true){w:World}(a:bC w0 Z Fs)(s:St w0 Z w L):∃S,St w0 Z w (Lr++[itI R vs S y]):=by
 obtain ⟨S,o1,n1,f1⟩:=hS.o w0 Z w (dt hd) a s;have:=xk hr;rw [i9] at this;subst this;exact ⟨S,s.gather js rest hd (C:=itI R vs S y) o1 n1 f1⟩
theorem iW{w:World}{A:Item}(h:St w0 Z w (L++[A])):St w0 Z w L:=by
 have:=h.spread (B:=[]) ak.nil
 simpa using this
theorem Adm.nb{α:Type}{k q g o n:Nat}{rest js:List Nat}{ks:List Pa}{T:TypeId}{R:Rp α}{v' v'':Value}{S:List Nat}{xs xs':List α}{t:Int}{x y:α}{cs vs:List Value}{Lr:List Item}{L1:List Nat->List Item}
  (hq:nth Fs q=some (.el v'' g o t xs x)) (hr:fP L rest []=some Lr) (hk:nth Lr k=some (nI T R v' S xs' (some (n,cs)))) (hS:qK ks Fs L R js vs y) (hxx:KR xs' xs) (hn:KR n t.toNat) (hc:KR cs vs) (hd:KR (zQ (js++rest)) true)
  (hL:∀S',dc Lr k (nI T R v' S' (xs'.set n y) none)=some (L1 S')):Adm (.nb k q rest ks) Fs L L1 (λ_=>Fs):=⟨λw0 Z w a s=>by
 obtain ⟨hx,_⟩:=zz a hq;obtain ⟨S2,s2⟩:=gt hS hr hd.h a s;have hk':Lr[k]? =some (nI T R v' S xs' (some (n,cs))):=by grind [zP]
 have hlt:k<Lr.length:=(zes.1 hk').1;obtain ⟨S',s3⟩:=s2.nback k Lr.length (S2:=S2) (MR (Nat.ne_of_lt hlt)) (t:=t) (cs:=vs) (x:=x) (y:=y) (by rw [x9 hlt,hk',hn.h,hc.h]) (by simp) (by rw [hxx.h];exact hx)
 refine ⟨S',?_,a⟩;rw [qJ (hL S'),hn.h];rw [pp hk',RH _ _ (by simp)] at s3;simp at s3;exact iW s3⟩
theorem Adm.nb0{α:Type}{k q g o n:Nat}{rest js:List Nat}{ks:List Pa}{T:TypeId}{R:Rp α}{v' v'':Value}{S:List Nat}{xs xs':List α}{t:Int}{x y:α}{cs vs:List Value}{Lr:List Item}{L1:List Nat->List Item}
  (hq:nth Fs q=some (.el v'' g o t xs x)) (hr:fP L rest []=some Lr) (hk:nth Lr k=some (nI T R v' S xs' (some (n,cs)))) (hS:qK ks Fs L R js vs y) (hxx:KR xs' xs) (hn:KR n t.toNat) (hc:KR cs vs) (hy:KR y x) (hd:KR (zQ (js++rest)) true)
  (hL:∀S',dc Lr k (nI T R v' S' xs' none)=some (L1 S')):Adm (.nb0 k q rest ks) Fs L L1 (λ_=>Fs):=⟨λw0 Z w a s=>by
 obtain ⟨hx,_⟩:=zz a hq;obtain ⟨S2,s2⟩:=gt hS hr hd.h a s;have hk':Lr[k]? =some (nI T R v' S xs' (some (n,cs))):=by grind [zP]
 have hlt:k<Lr.length:=(zes.1 hk').1;obtain ⟨S',s3⟩:=s2.nback0 k Lr.length (S2:=S2) (MR (Nat.ne_of_lt hlt)) (t:=t) (cs:=vs) (x:=y) (by rw [x9 hlt,hk',hn.h,hc.h]) (by simp) (by rw [hxx.h,hy.h];exact hx)
 refine ⟨S',?_,a⟩;rw [qJ (hL S')];rw [pp hk',RH _ _ (by simp)] at s3;simp at s3;exact iW s3⟩
theorem GO.snG{hh:H}{k q m g o:Nat}{rest:List Nat}{ks:List Pa}{S:List Nat}{xs':List α}{ho:Option (Nat×List Value)}{t:Int}{x y:α}{Lr:List Item}{L1:List Nat->List Item}
  (hho:∀i c,ho=some (i,c)->i=t.toNat) (hq:nth Fs q=some (.el v' g o t xs x)) (hr:fP L rest []=some Lr) (hk:nth Lr k=some (nI T R v' S xs' ho)) (hS:qK ks Fs L R js vs y) (hxx:KR xs' xs) (hm:KR vs.length m) (h1:KR (eA vs) true)
  (hw:KR (fQ (stV l fr i)) (some vs)) (hc:KR (stC P l fr i m) (some ⟨g,o+t.toNat*R.sz,none⟩)) (hd:KR (zQ (js++rest)) true) (hL:∀S',dc Lr k (nI T R v' S' (xs'.set t.toNat y) none)=some (L1 S'))
  (n:∀S',GO hs f r Fs (L1 S') fr P B N w0 Z l (i+1) Q):GO (hh::hs) f r Fs L fr P B N w0 Z l i Q:=⟨λw a s e=>by
 obtain ⟨hx,cp,hv⟩:=zz a hq;have hxx:=hxx.h;subst hxx;obtain ⟨S2,s2⟩:=gt hS hr hd.h a s;have hk':Lr[k]? =some (nI T R v' S xs' ho):=by grind [zP]
 have hlt:k<Lr.length:=(zes.1 hk').1;obtain ⟨t',x',y',ty,pos,af,g',u,hl,hg,hxl,hyl,hcv,hsz⟩:=kL hc.h hw.h hm.h;refine OW.stN (S2:=S2) (u:=y) (cs:=vs) s2 k Lr.length (MR (Nat.ne_of_lt hlt)) (by rw [x9 hlt,hk']) hho (by simp) hv hl hg hx hxl rfl hyl hcv hsz (by rw [hcv];exact h1.h) λS' w' s3=> ?_
 rw [pp hk',RH _ _ (by simp)] at s3;simp at s3;exact (n S').o w' a (by grind [qJ,iW]) e⟩
theorem GO.sn{α:Type}{k q m g o:Nat}{rest js:List Nat}{ks:List Pa}{T:TypeId}{R:Rp α}{v':Value}{S:List Nat}{xs xs':List α}{t:Int}{x y:α}{vs:List Value}{Lr:List Item}{L1:List Nat->List Item}
 (hq:nth Fs q=some (.el v' g o t xs x)) (hr:fP L rest []=some Lr) (hk:nth Lr k=some (nI T R v' S xs' none)) (hS:qK ks Fs L R js vs y) (hxx:KR xs' xs) (hm:vs.length=m) (h1:KR (eA vs) true)
 (hw:KR (fQ (stV l fr i)) (some vs)) (hc:KR (stC P l fr i m) (some ⟨g,o+t.toNat*R.sz,none⟩)) (hd:KR (zQ (js++rest)) true) (hL:∀S',dc Lr k (nI T R v' S' (xs'.set t.toNat y) none)=some (L1 S'))
 (n:∀S',GO hs f r Fs (L1 S') fr P B N w0 Z l (i+1) Q):GO (.sn k q rest ks::hs) f r Fs L fr P B N w0 Z l i Q:=GO.snG (λ_ _ e=>by cases e) hq hr hk hS hxx ⟨hm⟩ h1 hw hc hd hL n
end
end
open Go.RowKit
variable {α:Type} {m j sz:Nat} {a:Option Addr} {T:TypeId} {q n:Nat} {R:Rp α} {ys xs:List α}
section
variable {ρ:Type} {h:LH} {hs hs' hs1 hs2:List H} {f:Option ρ} {r:ρ} {Fs Fs':List Fa} {L L':List Item} {fr:Fr} {P:Program} {B:Func} {N:Nat} {w0:World} {Z:List Nat} {c x y:Code} {Q:Exit->Act->World->Prop} {l:List Oper} {i:Nat} {e:Exit} {v:Value}
def oh(j:Nat):Nat->Nat->List Nat
 |0,_=>[]
 |m+1,q=>match Nat.beq q j with
  |true=>oh j m (q+1)
  |false=>q::oh j m (q+1)
theorem GO.an{α:Type}{k j bytes:Nat}{T:TypeId}{R:Rp α}{one:∀w cs S x,R.own w cs S x->eA cs=true}{v1 v2:Value}{S S2:List Nat}{xs ys xs' ys':List α}{q:Nat}{u:Unit}{Lq:Option Addr->Nat->List Nat->List Item}{L1:Option Addr->Nat->List Nat->List Item}
  (hq:nth Fs q=some (.oe (room (xs.length+ys.length) bytes) u)) (hk:nth L k=some (nI T R v1 S xs' none)) (hj:nth L j=some (nI T R v2 S2 ys' none)) (hxx:KR xs' xs) (hyy:KR ys' ys) (hkj:KR (Nat.beq k j) false)
  (hc:KR (apC P l N fr i) (some (v1,v2,T))) (hel:KR (elB P T R.sz) (some bytes)) (hL:∀a c S',dc L k (nI T R (.slice a (xs++ys).length c) S' (xs++ys) none)=some (Lq a c S')) (hL2:∀a c S',fP (Lq a c S') (oh j L.length 0) []=some (L1 a c S')) (hd:KR (zQ (oh j L.length 0)) true)
  (n:∀a c S',GO hs f r Fs (L1 a c S') ((dst l i,.slice a (xs++ys).length c)::fr) P B N w0 Z l (i+1) Q):GO (.an q k j one::hs) f r Fs L fr P B N w0 Z l i Q:=⟨λw a s hk'=>by
 have hu:room (xs.length+ys.length) bytes=some u:=zz a hq;have hxx:=hxx.h;have hyy:=hyy.h;subst hxx hyy;have hc:=hc.h;unfold apC at hc;split at hc
 ·rename_i d' x' y' t t' _ _ _ _ hok
  split at hc
  ·rename_i u' v' e' hb hx hy ht
   cases hc
   have hb:=t6 hb;subst hb;obtain ⟨d,hl,hg,hd',hN⟩:=jD hok;simp only at hd';subst hd';refine OW.appN s k j hkj.h (by rw [<- zP];exact hk) (by rw [<- zP];exact hj) hl rfl hg hN hx hy ht (rS hel.h) (pK hu) one λv' S' w' s'=> ?_
   have hlt:k<L.length:=(zes.1 (by rw [<- zP];exact hk)).1
   have hkj':=p6 hkj.h
   have hget:((L.set k (nI T R v' S' (xs'++ys') none)).set j nilI)[k]? =some (nI T R v' S' (xs'++ys') none):=by
    grind
   obtain ⟨_,pa,pc,rfl⟩:=s'.nlen k hget;have s2:=s'.keep (oh j L.length 0) hd.h
   have e3:sel ((L.set k (nI T R (.slice pa (xs'++ys').length pc) S' (xs'++ys') none)).set j nilI) (oh j L.length 0)=L1 pa pc S':=by
    have h2:=xk (hL2 pa pc S');rw [i9,qJ (hL pa pc S')] at h2;rw [h2]
    have:∀(ids:List Nat),j∉ids->sel ((L.set k (nI T R (.slice pa (xs'++ys').length pc) S' (xs'++ys') none)).set j nilI) ids=sel (L.set k (nI T R (.slice pa (xs'++ys').length pc) S' (xs'++ys') none)) ids:=by
     intro ids
     induction ids with
     |nil=>intro _;rfl
     |cons z ids ih=>
      grind [sel]
    refine this _ ?_
    have:∀m q,j∉oh j m q:=by
     intro m
     induction m with
     |zero=>intro q;simp [oh]
     |succ m ih=>
      intro q;unfold oh;split
      ·exact ih _
      ·rename_i hne
       simp only [j5,not_or];exact ⟨λe=>by rw [e] at hne;simp at hne,ih _⟩
    exact this _ _
   rw [e3] at s2;have h1:=(n pa pc S').o w' a s2 hk';rw [vl hl rfl] at h1;exact h1
  ·cases hc
 ·cases hc⟩
structure EC {α:Type} (kss:List (List Pa)) (Fs:List Fa) (L:List Item) (R:Rp α) (js:List Nat) (css:List (List Value)) (ys:List α):Prop where
 o:∀w0 Z w,zQ js=true->bC w0 Z Fs->St w0 Z w L->∃Ss:List (List Nat),(rD R css Ss ys).Φ w/\Ss.flatten.Nodup/\∀b∈Ss.flatten,b∈fp (sel L js)
theorem EC.nil:EC [] Fs L R [] [] ([]:List α):=⟨λw0 Z w hd a s=>⟨[],⟨rfl,rfl,λi cs S x h=>by simp at h⟩,l8,by simp⟩⟩
theorem EC.cons{ks:List Pa}{kss:List (List Pa)}{j1 j2:List Nat}{cs:List Value}{css:List (List Value)}{y:α}(h1:qK ks Fs L R j1 cs y)(h2:EC kss Fs L R j2 css ys):EC (ks::kss) Fs L R (j1++j2) (cs::css) (y::ys):=⟨λw0 Z w hd a s=>by
 obtain ⟨S1,o1,n1,f1⟩:=h1.o w0 Z w (dt hd) a s;obtain ⟨Ss,⟨e1,e2,e3⟩,n2,f2⟩:=h2.o w0 Z w (lK hd) a s;refine ⟨S1::Ss,⟨by simp [e1],by simp [e2],λk c S x hc hS hx=> ?_⟩,?_,λb hb=> ?_⟩
 ·grind
 ·grind [rR]
 grind [wn,Hq]⟩
theorem GO.ly{α:Type}{T:TypeId}{R:Rp α}{rest js:List Nat}{kss:List (List Pa)}{css:List (List Value)}{ys:List α}{Lr:List Item}{L1:Nat->List Nat->List Item}(hS:EC kss Fs L R js css ys)(hr:fP L rest []=some Lr)(hc:KR (rwC l N fr i) (some ys.length))(hm:KR css.length ys.length)(hb:KR (Nat.ble ys.length 9223372036854775807) true)
  (hs:KR (sb fr ((rwP l i).map (·.2))) true) (hv:∀w,KR ((Instr.buildSlice (rwT l i) ys.length ((rwP l i).toArray.map λ(i,x)=>(i,rho fr x))).run P w) (.ok (.slice (some ⟨w.heap.size,0,none⟩) ys.length ys.length) (w.alloc (.cells (jQ (fit R.sz) css).toArray T))))
  (hd:KR (zQ (js++rest)) true) (hL:∀g S',vc Lr (nI T R (.slice (some ⟨g,0,none⟩) ys.length ys.length) S' ys none)=some (L1 g S')) (n:∀g S',GO hs' f r Fs (L1 g S') ((dst l i,.slice (some ⟨g,0,none⟩) ys.length ys.length)::fr) P B N w0 Z l (i+1) Q):GO (.ly T R rest kss::hs') f r Fs L fr P B N w0 Z l i Q:=⟨λw a s e=>by
 obtain ⟨Ss,o1,n1,f1⟩:=hS.o w0 Z w (dt hd.h) a s;have e0:=xk hr;rw [i9] at e0;subst e0;have s2:=s.gather js rest hd.h (C:=rD R css Ss ys) o1 n1 f1;have hc:=hc.h;unfold rwC at hc;split at hc
 ·rename_i d' t' n' ps _ _ _ _ ho
  obtain ⟨d,hl,hg,hd',hN⟩:=jD ho;simp only at hd';subst hd';have hnn:n'=ys.length:=by simpa using hc
  subst hnn;have e1:rwP l i=ps:=by simp [rwP,hl]
  have e2:rwT l i=t':=by simp [rwT,hl]
  rw [e1] at hs hv;rw [e2] at hv;refine OW.row (α:=List Value) (enc:=fit R.sz) (sz:=R.sz) (ps:=ps) s2 hl hg hN css hm.h (λx=>cZ _ _) hb.h hs.h (λw=>(hv w).h) λg w' s'=> ?_
  have hlen:(sel L rest++[rD R css Ss ys]).length=(sel L rest).length+1:=by simp
  obtain ⟨S',s3⟩:=s'.nOf (k:=(sel L rest).length+1) (j:=(sel L rest).length) (sz:=R.sz) (T:=T) (R:=R) (v:=.slice (some ⟨g,0,none⟩) ys.length ys.length) (css:=css) (Ss:=Ss) (xs:=ys) (MR (by omega)) rfl (by grind) (by grind)
  have e4:((sel L rest++[rD R css Ss ys]++[qi (.slice (some ⟨g,0,none⟩) ys.length ys.length) T (fit R.sz) R.sz css]).set ((sel L rest).length+1) (nI T R (.slice (some ⟨g,0,none⟩) ys.length ys.length) S' ys none)).set (sel L rest).length nilI=sel L rest++[nilI,nI T R (.slice (some ⟨g,0,none⟩) ys.length ys.length) S' ys none]:=by
   grind
  rw [e4] at s3
  have s4:St w0 Z w' (sel L rest++[nI T R (.slice (some ⟨g,0,none⟩) ys.length ys.length) S' ys none]):=by
   refine s3.repart (λk it hi=> ?_) (λp q A B hpq hp hq=> ?_)
   ·rcases aX hi with ⟨h1,h2⟩|⟨h1,h2⟩
    ·have h3:(sel L rest++[nilI,nI T R (.slice (some ⟨g,0,none⟩) ys.length ys.length) S' ys none])[k]? =some it:=by rw [x9 h1];exact h2
     exact ⟨s3.all k it h3,s3.nd k it h3,λx hx=>vw.2 ⟨k,it,h3,hx⟩⟩
    ·have h3:(sel L rest++[nilI,nI T R (.slice (some ⟨g,0,none⟩) ys.length ys.length) S' ys none])[(sel L rest).length+1]? =some it:=by
      grind
     exact ⟨s3.all _ it h3,s3.nd _ it h3,λx hx=>vw.2 ⟨_,it,h3,hx⟩⟩
   ·have key:∀(p:Nat)(A:Item),(sel L rest++[nI T R (.slice (some ⟨g,0,none⟩) ys.length ys.length) S' ys none])[p]? =some A->(sel L rest++[nilI,nI T R (.slice (some ⟨g,0,none⟩) ys.length ys.length) S' ys none])[if p<(sel L rest).length then p else p+1]? =some A:=by
     grind
    refine s3.apart _ _ A B ?_ (key p A hp) (key q B hq)
    grind
  have h1:=(n g S').o w' a (by grind [vI]) e;rw [vl hl rfl] at h1;exact h1
 ·cases hc⟩
theorem GO.mN{α:Type}{bytes:Nat}{R:Rp α}{cs:List Value}{x:α}{hx:∀w,R.own w cs [] x}{nn:Int}{q m:Nat}{L1:Nat->List Nat->List Item}(hq:nth Fs q=some (.oe (mkLen nn bytes) m))(hc:KR (mkC P l N fr i) (some (nn,nn)))(ht:KR (Qi P l i) true)(hel:KR (elB P (mkT P l i) R.sz) (some bytes))(h0:KR ((aj P (zeroValue (mkT P l i))).map (·.cells.toList)) (some (fit R.sz cs)))
  (hL:∀g S',vc L (nI (mkT P l i) R (.slice (some ⟨g,0,none⟩) m m) S' (List.replicate m x) none)=some (L1 g S'))
  (n:∀g S',GO hs f r Fs (L1 g S') ((dst l i,.slice (some ⟨g,0,none⟩) m m)::fr) P B N w0 Z l (i+1) Q):GO (.mN q R cs x hx::hs) f r Fs L fr P B N w0 Z l i Q:=⟨λw a s hk=>by
 have hm:mkLen nn bytes=some m:=zz a hq;have hc:=hc.h;unfold mkC at hc;split at hc
 ·rename_i d' t x' y' _ _ _ _ hok
  split at hc
  ·rename_i k1 a1 k2 b1 hx' hy'
   simp only [g9,o7] at hc;obtain ⟨rfl,rfl⟩:=hc;obtain ⟨d,hl,hg,hd,hN⟩:=jD hok;simp only at hd;subst hd;have ht:=ht.h;unfold Qi at ht;rw [hl] at ht;simp only at ht;split at ht
   ·rename_i e' hu
    have e2:mkT P l i=e':=by simp [mkT,hl,hu]
    rw [e2] at hel h0 hL;refine OW.make (α:=List Value) (enc:=fit R.sz) (sz:=R.sz) s hl hg hN hx' hy' hu (rS hel.h) cs h0.h (λx=>cZ _ _) hm λg w' s'=> ?_
    have s2:=s'.nNew (n:=m) (cs:=cs) (v:=.slice (some ⟨g,0,none⟩) m m) (T:=e') L.length R rfl (by simp) x hx;rw [RH _ _ (by simp)] at s2;simp at s2;have h1:=(n g _).o w' a (by rw [vI (hL g _)];exact s2) hk
    rw [vl hl rfl] at h1;exact h1
   ·cases ht
  ·cases hc
 ·cases hc⟩
def srC(P:Program)(l:List Oper)(N:Nat)(fr:Fr)(i:Nat):Option ByteArray:=match okO l N fr i with
 |some ⟨_,.range t x,_,_,_,_⟩=>match P.underlying t,look fr x with
  |some .string,some (.string s)=>some s
  |_,_=>none
 |_=>none
theorem GO.sg{L1:Nat->List Item}(hc:KR (srC P l N fr i).isSome true)(hL:∀it,vc L (GW it ((srC P l N fr i).getD ByteArray.empty) 0)=some (L1 it))(n:∀it,GO hs f r Fs (L1 it) ((dst l i,.pointer (some ⟨it,0,none⟩))::fr) P B N w0 Z l (i+1) Q):GO (.sg::hs) f r Fs L fr P B N w0 Z l i Q:=⟨λw a st q=>by
 have hc:=hc.h;cases hb:srC P l N fr i with
 |none=>rw [hb] at hc;cases hc
 |some s'=>
  rw [hb] at hL;unfold srC at hb;split at hb
  ·rename_i ho
   split at hb
   ·rename_i h1 h2
    cases hb
    obtain ⟨d,hl,hg,hd,hN⟩:=jD ho;simp only at hd;subst hd;refine OW.srange st hl hg hN h2 h1 λit w' s2=> ?_
    have h3:=(n it).o w' a (by grind [vI]) q;rw [vl hl rfl] at h3;exact h3
   ·cases hb
  ·cases hb⟩
def snC(l:List Oper)(N:Nat)(fr:Fr)(i:Nat):Option Nat:=match okO l N fr i with
 |some ⟨_,.next x true,_,_,_,_⟩=>match look fr x with
  |some (.pointer (some ⟨it,0,none⟩))=>some it
  |_=>none
 |_=>none
theorem GO.sx{j it p:Nat}{s:ByteArray}{A A':Option ρ}{L1:List Item}(hj:nth L j=some (GW it s p))(hc:KR (snC l N fr i) (some it))(hL:dc L j (GW it s (nB s p))=some L1)
  (n1:GO hs1 A r Fs L1 ((dst l i,.tuple [.bool true,.int .i64 (p:Int),.int .i32 (AN s p)].toArray)::fr) P B N w0 Z l (i+1) Q) (n2:GO hs2 A' r Fs L ((dst l i,.tuple [.bool false].toArray)::fr) P B N w0 Z l (i+1) Q):
  GO (.sx j hs1 hs2::hs) (@ite _ (decide (p<s.size)=true) (instDecidableEqBool (decide (p<s.size)) true) A A') r Fs L fr P B N w0 Z l i Q:=⟨λw a st q=>by
 have hc:=hc.h;unfold snC at hc;split at hc
 ·rename_i ho
  split at hc
  ·rename_i hx
   cases hc
   obtain ⟨d,hl,hg,hd,hN⟩:=jD ho;simp only at hd;subst hd;refine OW.snext st j (by rw [<- zP];exact hj) hl hg hN hx (λhp w' s2=> ?_) (λhp=> ?_)
   ·have h3:=n1.o w' a (by grind [qJ]) (rJ q hp);rw [vl hl rfl] at h3;exact h3
   ·have h3:=n2.o w a st (rK q hp);rw [vl hl rfl] at h3;exact h3
  ·cases hc
 ·cases hc⟩
theorem Sim.sit{A B:List Item}{it:Nat}{s s':ByteArray}{p p':Nat}(h1:KR s s')(h2:KR p p')(n:Sim A B):Sim (GW it s p::A) (GW it s' p'::B):=⟨by rw [h1.h,h2.h,n.e]⟩
def clC(P:Program)(l:List Oper)(fr:Fr)(i:Nat):Option (Nat×Nat×Nat×List Value):=match vk l i with
 |some ⟨none,.call ⟨.builtin .clear,⟨[x]⟩,⟨t::ts⟩⟩,ty,pos,af,g⟩=>match gd l fr ⟨none,.call ⟨.builtin .clear,⟨[x]⟩,⟨t::ts⟩⟩,ty,pos,af,g⟩,look fr x,P.underlying t with
  |some true,some (.slice (some ⟨b,k,none⟩) (n+1) _),some (.slice e)=>match aj P (zeroValue e) with
   |some z=>some (b,k,n+1,(Builtin.zeroCells z.cells (n+1)).toList)
   |none=>none
  |_,_,_=>none
 |_=>none
theorem Kb{b k:Nat}{vs:List Value}(h:clC P l fr i=some (b,k,m,vs)):∃x t ts ty pos af g c e z n,vk l i=some ⟨none,.call ⟨.builtin .clear,⟨[x]⟩,⟨t::ts⟩⟩,ty,pos,af,g⟩/\gd l fr ⟨none,.call ⟨.builtin .clear,⟨[x]⟩,⟨t::ts⟩⟩,ty,pos,af,g⟩=some true/\look fr x=some (.slice (some ⟨b,k,none⟩) (n+1) c)/\P.underlying t=some (.slice e)/\aj P (zeroValue e)=some z/\m=n+1/\(Builtin.zeroCells z.cells (n+1)).toList=vs:=by
 unfold clC at h
 grind
def zs(P:Program)(l:List Oper)(fr:Fr)(i:Nat):Nat->Option (List Value)
 |0=>some []
 |n+1=>match zs P l fr i n with
  |some q=>some ((match clC P l fr i with
   |some (_,_,_,v::_)=>v
   |_=>undef)::q)
  |none=>none
theorem GO.cp{j b k m:Nat}{T:TypeId}{A C cs vs cs':List Value}{L1:List Item}(hj:nth L j=some (db b T A cs C))(hv:zs P l fr i m=some vs)(hs':eM cs vs k=some cs')(hc:KR (clC P l fr i) (some (b,A.length+k,m,vs)))(h1:KR (eA vs) true)(h0:KR (FN vs) true)
  (hL:dc L j (db b T A cs' C)=some L1) (n:GO hs f r Fs L1 fr P B N w0 Z l (i+1) Q):GO (.cp j k m::hs) f r Fs L fr P B N w0 Z l i Q:=⟨λw a s q=>by
 obtain ⟨x,t,ts,ty,pos,af,g,c,e,z,n',hl,hg,hx,ht,hz,rfl,hvs⟩:=Kb hc.h;obtain ⟨e3,e4⟩:=bp hs' (by intro e5;have:=h0.h;rw [e5] at this;cases this);refine OW.clearP (ats:=t::ts) s j (by rw [<- zP];exact hj) hl hg k hx rfl ht hz vs hvs h1.h (u7 e4) cs' e3 λw' s'=> ?_
 exact n.o w' a (by grind [qJ]) q⟩
theorem GO.bxe{T:TypeId}{cs:List Value}{L1:Nat->List Item}(hT:KR (opT l i) T)(hc:KR (fQ (bxC l N fr i)) (some cs))(hL:∀b,vc L (jT b T cs)=some (L1 b))
  (n:∀b,GO hs f r Fs (L1 b) ((dst l i,.pointer (some ⟨b,0,none⟩))::fr) P B N w0 Z l (i+1) Q):GO (.bxe T cs::hs) f r Fs L fr P B N w0 Z l i Q:=⟨λw a s q=>by
 obtain ⟨u,hu,hcs⟩:=lJ hc.h;unfold bxC at hu;split at hu
 ·rename_i o' e' x' _ _ _ _ ho
  obtain ⟨d,hl,hg,hd,hN⟩:=jD ho;simp only at hd;subst hd;refine OW.box s hl hg hN hu cs hcs λb w' s'=> ?_
  have h1:=(n b).o w' a (by
   rw [vI (hL b)];have:opT l i=e':=by simp [opT,hl]
   rw [<- hT.h,this];exact s') q
  rw [vl hl rfl] at h1;exact h1
 ·cases hu⟩
theorem GO.ste{j k b m:Nat}{T:TypeId}{cs us cs':List Value}{L1:List Item}(hj:nth L j=some (jT b T cs))(hs':eM cs us k=some cs')(hm:us.length=m)(hw:KR (fQ (stV l fr i)) (some us))(hc:KR (stC P l fr i m) (some ⟨b,k,none⟩))
  (h1:KR (eA us) true) (h0:KR (FN us) true) (hL:dc L j (jT b T cs')=some L1) (n:GO hs f r Fs L1 fr P B N w0 Z l (i+1) Q):GO (.ste j k us::hs) f r Fs L fr P B N w0 Z l i Q:=⟨λw a s q=>by
 obtain ⟨t,x',y',ty,pos,af,g,u,hl,hg,hx,hy,hcv,hsz⟩:=kL hc.h hw.h hm;obtain ⟨e3,e4⟩:=bp hs' (by intro e5;have:=h0.h;rw [e5] at this;cases this);refine OW.stB s j (by rw [<- zP];exact hj) hl hg hx hy hsz (by rw [hcv];exact h1.h) (by rw [hcv];exact u7 e4) cs' (by rw [hcv];exact e3) λw' s'=> ?_
 exact n.o w' a (by grind [qJ]) q⟩
def reh(v:Value):List Nat->Fr->Fr
 |[],fr=>fr
 |q::r,fr=>(q,v)::reh v r fr
def AV(fr:Fr):List Nat->List (Option Value)
 |[]=>[]
 |q::r=>kE fr q::AV fr r
def AW(v:Value):List Nat->List (Option Value)
 |[]=>[]
 |_::r=>some v::AW v r
theorem uG{v:Value}{a:Act}(h:Rep N fr a):∀{qs:List Nat},AV fr qs=AW v qs->Rep N (reh v qs fr) a
 |[],_=>h
 |q::r,e=>by
  simp only [AV,AW,List.cons.injEq] at e;have ih:=uG h e.2;refine {ih with get:=λi u hi=> ?_};simp only [reh] at hi;rw [bm] at hi;split at hi
  ·rename_i hq
   subst hq;cases hi;exact h.get _ _ e.1
  ·exact ih.get i u hi
theorem _root_.Go.Sx.St.rlen{w:World}{c:Nat}{enc:α->List Value}(s:St w0 Z w L)(hj:nth L j=some (qi (.slice a m c) T enc sz xs)):m=xs.length:=by
 obtain ⟨_,a',c',e⟩:=s.len j (by rw [<- zP];exact hj)
 cases e;rfl
theorem _root_.Go.Sx.St.nlen'{w:World}{c:Nat}{S:List Nat}{ho:Option (Nat×List Value)}(s:St w0 Z w L)(hj:nth L j=some (nI T R (.slice a m c) S xs ho)):m=xs.length:=by
 obtain ⟨_,a',c',e⟩:=s.nlen j (by rw [<- zP];exact hj)
 cases e;rfl
theorem du{L L1:List α}{x:α}(h:L[j]? =some x)(hL:dc L j x=some L1):L1=L:=by
 rw [qJ hL];apply m6
 grind
theorem Adm.nc{α:Type}{jb k j b m c sz:Nat}{a:Option Addr}{T T':TypeId}{enc:α->List Value}{xs:List α}{cs cs':List Value}{L1:List Item}(hj:nth L j=some (qi (.slice a m c) T' enc sz xs))(hb:nth L jb=some (jT b T cs))(hk:KR (nth cs k) (some (.slice a m c)))
  (hs:dc cs k (.slice a xs.length c)=some cs') (hL:dc L jb (jT b T cs')=some L1):Adm (.nc jb k j) Fs L (λ_:Unit=>L1) (λ_=>Fs):=⟨λw0 Z w al s=>⟨(),by
 have hm:=s.rlen hj;have hk:=hk.h;rw [hm,zP] at hk;have e1:=du hk hs;subst e1;rw [du (by rw [<- zP];exact hb) hL]
 exact s,al⟩⟩
theorem Adm.nd{α:Type}{jb k j b m c:Nat}{a:Option Addr}{T T':TypeId}{R:Rp α}{S:List Nat}{ho:Option (Nat×List Value)}{xs:List α}{cs cs':List Value}{L1:List Item}(hj:nth L j=some (nI T' R (.slice a m c) S xs ho))(hb:nth L jb=some (jT b T cs))(hk:KR (nth cs k) (some (.slice a m c)))
  (hs:dc cs k (.slice a xs.length c)=some cs') (hL:dc L jb (jT b T cs')=some L1):Adm (.nd jb k j) Fs L (λ_:Unit=>L1) (λ_=>Fs):=⟨λw0 Z w al s=>⟨(),by
 have hm:=s.nlen' hj;have hk:=hk.h;rw [hm,zP] at hk;have e1:=du hk hs;subst e1;rw [du (by rw [<- zP];exact hb) hL]
 exact s,al⟩⟩
theorem GQ.nl{α:Type}{j m c sz:Nat}{qs:List Nat}{a:Option Addr}{T:TypeId}{enc:α->List Value}{xs:List α}{L1:List Item}(hj:nth L j=some (qi (.slice a m c) T enc sz xs))(hq:KR (AV fr qs) (AW (.slice a m c) qs))
  (hL:dc L j (qi (.slice a xs.length c) T enc sz xs)=some L1) (n:GQ hs f r Fs L1 (reh (.slice a xs.length c) qs fr) P B N w0 Z e Q):GQ (.nl j qs::hs) f r Fs L fr P B N w0 Z e Q:=⟨λw al s g b hb=>by
 have hm:=s.rlen hj;have hq:=hq.h;rw [hm] at hq hj
 have e1:L1=L:=by
  rw [qJ hL];have hj':L[j]? =some (qi (.slice a xs.length c) T enc sz xs):=by grind [zP]
  apply m6
  grind
 subst e1;exact n.o w al s g b (uG hb hq)⟩
theorem GC.nl{α:Type}{j m c0 sz:Nat}{qs:List Nat}{a:Option Addr}{T:TypeId}{enc:α->List Value}{xs:List α}{L1:List Item}(hj:nth L j=some (qi (.slice a m c0) T enc sz xs))(hq:KR (AV fr qs) (AW (.slice a m c0) qs))
  (hL:dc L j (qi (.slice a xs.length c0) T enc sz xs)=some L1) (n:GC hs f r Fs L1 (reh (.slice a xs.length c0) qs fr) P B N w0 Z c Q):GC (.nl j qs::hs) f r Fs L fr P B N w0 Z c Q:=⟨λw al s g b hb=>by
 have hm:=s.rlen hj;have hq:=hq.h;rw [hm] at hq hj
 have e1:L1=L:=by
  rw [qJ hL];have hj':L[j]? =some (qi (.slice a xs.length c0) T enc sz xs):=by grind [zP]
  apply m6
  grind
 subst e1;exact n.o w al s g b (uG hb hq)⟩
theorem GQ.nm{α:Type}{j m c:Nat}{qs:List Nat}{a:Option Addr}{T:TypeId}{R:Rp α}{S:List Nat}{ho:Option (Nat×List Value)}{xs:List α}{L1:List Item}(hj:nth L j=some (nI T R (.slice a m c) S xs ho))(hq:KR (AV fr qs) (AW (.slice a m c) qs))
  (hL:dc L j (nI T R (.slice a xs.length c) S xs ho)=some L1) (n:GQ hs f r Fs L1 (reh (.slice a xs.length c) qs fr) P B N w0 Z e Q):GQ (.nm j qs::hs) f r Fs L fr P B N w0 Z e Q:=⟨λw al s g b hb=>by
 have hm:=s.nlen' hj;have hq:=hq.h;rw [hm] at hq hj
 have e1:L1=L:=by
  rw [qJ hL];have hj':L[j]? =some (nI T R (.slice a xs.length c) S xs ho):=by rw [<- zP];exact hj
  apply m6
  intro k;by_cases hk:j=k
  ·subst hk;rw [yh (zes.1 hj').1,hj']
  ·rw [z5 hk]
 subst e1;exact n.o w al s g b (uG hb hq)⟩
theorem GC.nm{α:Type}{j m c0:Nat}{qs:List Nat}{a:Option Addr}{T:TypeId}{R:Rp α}{S:List Nat}{ho:Option (Nat×List Value)}{xs:List α}{L1:List Item}(hj:nth L j=some (nI T R (.slice a m c0) S xs ho))(hq:KR (AV fr qs) (AW (.slice a m c0) qs))
  (hL:dc L j (nI T R (.slice a xs.length c0) S xs ho)=some L1) (n:GC hs f r Fs L1 (reh (.slice a xs.length c0) qs fr) P B N w0 Z c Q):GC (.nm j qs::hs) f r Fs L fr P B N w0 Z c Q:=⟨λw al s g b hb=>by
 have hm:=s.nlen' hj;have hq:=hq.h;rw [hm] at hq hj
 have e1:L1=L:=by
  rw [qJ hL];have hj':L[j]? =some (nI T R (.slice a xs.length c0) S xs ho):=by rw [<- zP];exact hj
  apply m6
  intro k;by_cases hk:j=k
  ·subst hk;rw [yh (zes.1 hj').1,hj']
  ·rw [z5 hk]
 subst e1;exact n.o w al s g b (uG hb hq)⟩
theorem Adm.shx{α β:Type}{j b:Nat}{ks:List Pa}{rest js:List Nat}{R:Rp α}{Lr:List Item}{T:TypeId}{cs vs:List Value}{ff:α->List Value->List Value}{sz:Nat}{hl:∀x vs,(ff x vs).length=sz}{g:α->β}{A:Rp β}{x:α}{y:β}{L1:List Nat->List Item}
 (hj:nth L j=some (jT b T cs)) (hR:R=qL ff sz hl g A) (hS:qK ks Fs L A js vs y) (hy:g x=y) (hr:fP L rest []=some Lr) (hL:∀S,vc Lr (itI (vC T R) [.pointer (some ⟨b,0,none⟩)] S x)=some (L1 S))
 (hd:KR (zQ ((j::js)++rest)) true) (hx:KR cs (ff x vs)):Adm (.shx j ks rest R x) Fs L L1 (λ_=>Fs):=⟨(Adm.sh hj hR hS hr hL hd hx ⟨hy⟩).o⟩
theorem Adm.shw{α β:Type}{j b q k b2:Nat}{T2:TypeId}{cs2:List Value}{v:Value}{ks:List Pa}{rest js:List Nat}{R:Value->Rp α}{Lr:List Item}{T:TypeId}{cs vs:List Value}{ff:α->List Value->List Value}{sz:Nat}{hl:∀x vs,(ff x vs).length=sz}{g:α->β}{A:Rp β}{x:α}{y:β}{L1:List Nat->List Item}
 (h0:nth L q=some (jT b2 T2 cs2)) (h1:nth cs2 k=some v) (hj:nth L j=some (jT b T cs)) (hR:R v=qL ff sz hl g A) (hS:qK ks Fs L A js vs y) (hy:g x=y) (hr:fP L rest []=some Lr) (hL:∀S,vc Lr (itI (vC T (R v)) [.pointer (some ⟨b,0,none⟩)] S x)=some (L1 S))
 (hd:KR (zQ ((j::js)++rest)) true) (hx:KR cs (ff x vs)):Adm (.shw j ks rest R q k x) Fs L L1 (λ_=>Fs):=⟨(Adm.shx hj hR hS hy hr hL hd hx).o⟩
theorem Adm.s0x{α:Type}{j b sz:Nat}{T:TypeId}{enc:α->List Value}{he:∀x,(enc x).length=sz}{cs:List Value}{x:α}{Lq:List Item}(hj:nth L j=some (jT b T cs))(hL:dc L j (itI (vC T (rL enc sz he)) [.pointer (some ⟨b,0,none⟩)] [b] x)=some Lq)(hx:KR cs (enc x)):
 Adm (.s0x j enc sz x) Fs L (λ_:Unit=>Lq) (λ_=>Fs):=⟨(Adm.s0 hj hL hx).o⟩
theorem LkV.pv{c:Nat}{hi:Int}(hcap:∀w0 Z w,bC w0 Z Fs->St w0 Z w L->xs.length<=c)(hq:nth Fs q=some (.oe (cut xs 0 hi) ys))(hc:cpC P l N fr i=some (.slice a n c,none,some hi,sz))(w:World)(al:bC w0 Z Fs)(s:St w0 Z w L):
  ∃o d,vk l i=some o/\gd l fr o=some true/\o.dst=some d/\Nat.blt d N=true/\∀a',Rep N fr a'->(execOp a'.eval o).run P w=.ok (.value (.slice a ys.length c)) w:=by
 unfold cpC at hc;split at hc
 ·rename_i ho
  split at hc
  ·rename_i h1 h2
   split at hc
   ·rename_i hz
    split at hc
    ·split at hc
     ·rename_i h3
      cases hc
      obtain ⟨d,hl,hg,hd,hN⟩:=jD ho;exact ⟨_,d,hl,hg,hd,hN,λb hb=>pO sz rfl h2 h3 (zz al hq) (hcap w0 Z w al s) h1 hz b w hb⟩
     ·cases hc
    ·grind
    ·grind
    ·cases hc
   ·cases hc
  ·cases hc
 ·cases hc
theorem GO.pw{α:Type}{j q n c:Nat}{a:Option Addr}{T:TypeId}{enc:α->List Value}{xs xs' ys:List α}{hi:Int}{sz:Nat}(hj:nth L j=some (qi (.slice a n c) T enc sz xs'))(hq:nth Fs q=some (.oe (cut xs 0 hi) ys))(hxx:KR xs' xs)(hc:KR (cpC P l N fr i) (some (.slice a n c,none,some hi,sz)))
  (m:GO hs f r Fs L ((dst l i,.slice a ys.length c)::fr) P B N w0 Z l (i+1) Q):GO (.pw j q::hs) f r Fs L fr P B N w0 Z l i Q:=⟨λw al s e=>by
 obtain ⟨o,d,hl,hg,hd,hN,hr⟩:=LkV.pv (Fs:=Fs) (L:=L) (w0:=w0) (Z:=Z) (λw0 Z w a s=>by rw [<- hxx.h];exact s.cap j (by rw [<- zP];exact hj)) hq hc.h w al s
 have h1:=m.o w al s e;rw [vl hl hd] at h1;exact j6 hl hg hd hN hr h1⟩
theorem QF{w:World}{c:Nat}{enc:α->List Value}{xs':List α}{hi t:Int}{x:α}{Fs1:α->Nat->Nat->List Fa}(hj:nth L j=some (qi (.slice a n c) T enc sz xs'))(hxx:KR xs' xs)(hq:nth Fs q=some (.oe (cut xs 0 hi) ys))
  (hF:∀x g o,lw Fs [.el (.slice a ys.length c) g o t ys x,.el (.slice a n c) g o t xs x]=some (Fs1 x g o)) (al:bC w0 Z Fs) (s:St w0 Z w L) (hx:idx ys t=some x):∃g o,bC w0 Z (Fs1 x g o):=by
 have hj:=hj;rw [hxx.h] at hj;have h2:cut xs 0 hi=some ys:=zz al hq;have h3:=Oc h2 hx;obtain ⟨g,o,cap,hv⟩:=s.rowv j (by rw [<- zP];exact hj) h3
 refine ⟨g,o,lI (hF x g o) al ⟨⟨hx,cap,?_⟩,⟨h3,cap,hv⟩,trivial⟩⟩;cases hv;rfl
theorem GO.vb{α:Type}{j q n c sz:Nat}{a:Option Addr}{T:TypeId}{enc:α->List Value}{xs xs' ys:List α}{hi t:Int}{k:α->Option ρ}{Fs1:α->Nat->Nat->List Fa}(hj:nth L j=some (qi (.slice a n c) T enc sz xs'))(hq:nth Fs q=some (.oe (cut xs 0 hi) ys))(hxx:KR xs' xs)
  (hF:∀x g o,lw Fs [.el (.slice a ys.length c) g o t ys x,.el (.slice a n c) g o t xs x]=some (Fs1 x g o)) (m:∀x g o,GO hs (k x) r (Fs1 x g o) L fr P B N w0 Z l i Q):GO (.vb j q::hs) ((idx ys t).bind k) r Fs L fr P B N w0 Z l i Q:=⟨λw al s e=>by
 obtain ⟨x,hx,hk⟩:=zI e;obtain ⟨g,o,h1⟩:=QF hj hxx hq hF al s hx;exact (m x g o).o w h1 s hk⟩
end
structure DG (κ:Type) where
 a:Nat
 s:List Nat
 k:κ
 u:Value
 t:List Nat
section
variable {α β γ ρ:Type} {Fs:List Fa} {L:List Item}
theorem jn.dep{κ:Type}{k2:Nat}{U:TypeId}{R1:Rp α}{B:Rp β}{C:Value->Rp γ}{hn:∀v,(C v).sz=n}{vs2:κ->β->List Value}{its2:κ->β->List Item}{fcs2:κ->β->List Fa}
  (hz:KR n 1) (h2:jn [k2] q Fs B vs2 its2 fcs2):
  jn [8,k2] q Fs (Qh (vC U R1) B C n hn) (λ(i:DG κ)y=>.pointer (some ⟨i.a,0,none⟩)::(vs2 i.k y.2.1++[i.u]))
   (λi y=>itI (vC U R1) [.pointer (some ⟨i.a,0,none⟩)] i.s y.1::(its2 i.k y.2.1++[itI (C (.pointer (some ⟨i.a,0,none⟩))) [i.u] i.t y.2.2])) (λi y=>fcs2 i.k y.2.1):=⟨by
 rintro w0 Z w cs S y a ⟨v1,⟨c1,d1,S1,R1',rfl,rfl,hd1,o1,⟨c2,d2,S2,R2,rfl,rfl,hd2,o2,o3⟩⟩,hv1⟩;have n1:=(vC U R1).nd w c1 S1 y.1 o1;have o1':=o1;obtain ⟨b,cs',S',rfl,rfl,h3⟩:=o1';obtain rfl:v1=.pointer (some ⟨b,0,none⟩):=by grind
 have n3:=(C (.pointer (some ⟨b,0,none⟩))).nd w d2 R2 y.2.2 o3;have l3:=(C (.pointer (some ⟨b,0,none⟩))).len w d2 R2 y.2.2 o3;rw [hn,hz.h] at l3
 match d2,l3 with
 |[u],_=>
 obtain ⟨i,rfl,p2,f2⟩:=h2.o w0 Z w _ _ _ a o2;exact ⟨⟨b,b::S',i,u,R2⟩,rfl,(ak.single o1 n1 rfl).app (p2.app (ak.single o3 n3 rfl) hd2) hd1,f2⟩⟩
theorem qK.dep{k k2 k3:Pa}{A:Rp α}{B:Rp β}{C:Value->Rp γ}{hn:∀v,(C v).sz=n}{j1 j2 j3:List Nat}{v1:Value}{v2 v3:List Value}{y1:α}{y2:β}{y3:γ}(h1:qK [k] Fs L A j1 [v1] y1)(h2:qK [k2] Fs L B j2 v2 y2)(h3:qK [k3] Fs L (C v1) j3 v3 y3):
  qK [.s,k,k2,k3] Fs L (Qh A B C n hn) (j1++(j2++j3)) ([v1]++(v2++v3)) (y1,(y2,y3)):=⟨λw0 Z w hd a s=>by
 obtain ⟨S,o,nd,f⟩:=(qK.pair h1 (qK.pair h2 h3)).o w0 Z w hd a s;exact ⟨S,⟨v1,o,rfl⟩,nd,f⟩⟩
theorem qK.on{U:TypeId}{R:Rp α}:qK [.on] Fs L (AD U R) [] [.pointer none] none:=⟨λw0 Z w hd a s=>⟨[],⟨rfl,rfl⟩,l8,by simp⟩⟩
theorem qK.os{j:Nat}{U:TypeId}{R:Rp α}{v:Value}{S:List Nat}{y:α}(hj:nth L j=some (itI (vC U R) [v] S y)):qK [.os j] Fs L (AD U R) [j] [v] (some y):=
 qK.item hj λw ho=>ho
end
section
variable {α ρ κ:Type} {hs:List H} {f:Option ρ} {r:ρ} {Fs:List Fa} {L:List Item} {fr:Fr} {P:Program} {B:Func} {N:Nat} {w0:World} {Z:List Nat} {Q:Exit->Act->World->Prop} {l:List Oper} {i:Nat} {Fs1:DG κ->List Fa} {L1:DG κ->List Item}
theorem GC.dg{c:Code}(n:∀a s k u t,GC hs f r (Fs1 ⟨a,s,k,u,t⟩) (L1 ⟨a,s,k,u,t⟩) fr P B N w0 Z c Q)(q:DG κ):GC hs f r (Fs1 q) (L1 q) fr P B N w0 Z c Q:=n q.a q.s q.k q.u q.t
end
section
variable {α ρ:Type} {hs:List H} {r:ρ} {Fs:List Fa} {L:List Item} {fr:Fr} {P:Program} {B:Func} {N:Nat} {w0:World} {Z:List Nat} {Q:Exit->Act->World->Prop} {l:List Oper} {i j:Nat} {U:TypeId} {R:Rp α} {u:Value} {S:List Nat} {o:Option α} {k:α->Option ρ} {L1:α->List Item}
theorem ED{w:World}{y:α}(hj:nth L j=some (itI (AD U R) [u] S o))(hL:dc L j (itI (vC U R) [u] S y)=some (L1 y))(s:St w0 Z w L)(hy:o=some y):St w0 Z w (L1 y)/\∃b,u=.pointer (some ⟨b,0,none⟩):=by
 have hj':L[j]? =some (itI (AD U R) [u] S o):=by grind [zP]
 have s2:=s.optSome j hj' hy;have hb:=s2.fptr (U:=U) (R:=R) (u:=u) (x:=y) j (by rw [yh (zes.1 hj').1])
 grind [qJ]
theorem GO.fo(hj:nth L j=some (itI (AD U R) [u] S o))(hL:∀y,dc L j (itI (vC U R) [u] S y)=some (L1 y))(n:∀y b,u=.pointer (some ⟨b,0,none⟩)->GO hs (k y) r Fs (L1 y) fr P B N w0 Z l i Q):GO (.fo j::hs) (o.bind k) r Fs L fr P B N w0 Z l i Q:=⟨λw a s q=>by
 obtain ⟨y,hy,hk⟩:=zI q;obtain ⟨s2,b,hb⟩:=ED hj (hL y) s hy;exact (n y b hb).o w a s2 hk⟩
end
end Go.Sx
