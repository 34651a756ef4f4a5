/- Lemmas. -/
import Derived.Test.YtplmgfkghomelaaGreatDoorEng4
import Derived.Lib.Overlaps
import Derived.Lib.AppendZerosOnto
set_option linter.all false
namespace Go.Sx
open Go.RowKit
variable {α ρ β γ κ ι:Type}{x y:Operand}{L L1 Lr Lq Lin Bq:List Item}{w0 w:World}{Fs a8:List Fa}{xs ys F g:List α}{T U ty T2 tk te tR T':TypeId}{P:Program}{N sz j i q k n c m e o d ff n2 c2 l2 sz2 sz3 M jb c0:Nat}{S Z S0 js ats qs j1 j2:List Nat}{R A:Rp α}{Q:Exit->Act->World->Prop}{fr fr':Fr}{l:List Oper}{B b5 B0:Func}{hs hs1 hs2:List H}{enc:α->List Value}{a a1 J:Option Addr}{v v' u v2 vz v'' v1:Value}{f A':Option ρ}{vs args us cs' args':List Value}{ho:Option (Nat×List Value)}{ks:List Pa}{src:List Src}{css s:List (List Value)}{kd:IntKind}{Fs1:α->Nat->Nat->List Fa}{pos name:String}{gdd:Option (Nat×Bool)}{hi G O:Int}{Ss Ss2:List (List Nat)}{kf:FuncId}{kss:List (List Pa)}{C:Value->Rp γ}{r:ρ}{z h I:List (Nat×Value)}{D:Array Edge}{E:Oper}{K:List α×List α}{V:Rp β}{W c3:α}{X:β}{Y:Sem α}{a0:List Operand}{a3:Act}{a4:Ending->World->Prop}{a5:α⊕β}{a6:List (Int×α)}{two a7:Bool}{a9 c4:Code}{b0:World->List Nat->List Fa}{b3:Src}{b4:Prop}{pd:List (Nat×Pn)}{b6:Item}{b7:ι->β->List Value}{its:ι->β->List Item}{fcs:ι->β->List Fa}{b8:List Nat->List Item}{hh:H}{c5:Unit}{c6 c7:Option Addr->Nat->List Nat->List Item}{c8:Nat->List Nat->List Item}{c9:Nat->List Item}{d0 s':ByteArray}{d2:Exit}{vs2:κ->β->List Value}{its2:κ->β->List Item}{fcs2:κ->β->List Fa}{d3 k2 k3:Pa}{y3:γ}{e1:Option α}{e2:α->List Item}{e3:α->Option ρ}
def over{α:Type}(xs:List α)(l:Nat)(ys:List α):List α:=xs.take l++ys.take (xs.length-l)++xs.drop (l+ys.length)
theorem lB{α:Type}(xs:List α)(l:Nat)(ys:List α)(h:l<=xs.length):(over xs l ys).length=xs.length:=by
 simp [over];omega
theorem H6(h:u∈jP enc xs):∃x,x∈xs/\u∈enc x:=by
 induction xs with
 |nil=>cases h
 |cons x r i=>
  rcases g8.1 h with h|h
  ·grind
  grind
theorem Kx{α:Type}{xs:List α}(h:q<=xs.length):cut xs 0 (q:Int)=some (xs.take q):=by
 grind [cut]
theorem OW.copyR(A:St w0 S0 w L)(j:Nat)(Z:L[j]? =some (qk (.slice a n c) T enc sz xs))(G:∀x,(enc x).length=sz)(hp:0<sz)
  (hl:vm l i=some ⟨some d,.call ⟨.builtin .copy,[x,y].toArray,ats.toArray⟩,ty,pos,D,gdd⟩) (ha:ats=[m,ff]) (hg:gd l z ⟨some d,.call ⟨.builtin .copy,[x,y].toArray,ats.toArray⟩,ty,pos,D,gdd⟩=some true) (hN:Nat.blt d N=true) (hc:cut xs hi (xs.length:Int)=some F) (hx:look z x=some (.slice (shd a c hi.toNat sz) F.length (c-hi.toNat))) (hy:look z y=some v2) (ht:P.underlying m=some (.slice e)) (hs:am P (sizeOf e)=some sz) (hr:Rd w S v2 enc sz ys) (ho:∀y∈ys.take F.length,eK (enc y)=true)
  (h:∀w',St w0 S0 w' (L.set j (qk (.slice a n c) T enc sz (over xs hi.toNat ys)))->OW P l N Q (i+1) ((d,.int .i64 ((Nat.min ys.length F.length:Nat):Int))::z) w'):OW P l N Q i z w:=by
 subst ha;obtain ⟨h0,hq1,hq2,e0⟩:=bA hc;have hl0:=iY hc;have hzl:F.length=xs.length-hi.toNat:=by omega
 obtain ⟨hn63,a2,c2,rfl,hlc,s⟩:=hr;have I:dH w T sz (.slice a n c) xs.length (jP enc xs):=A.all j _ Z;obtain ⟨k,J⟩:∃k,k=Nat.min ys.length F.length:=⟨_,rfl⟩
 have hk1:k<=ys.length:=by grind
 have hk2:k<=F.length:=by grind
 have r:over xs hi.toNat ys=xs.take hi.toNat++ys.take k++xs.drop (hi.toNat+k):=by
  unfold over;rw [<- hzl];by_cases hle:ys.length<=F.length
  ·grind
  ·have:k=F.length:=by rw [J];exact Nat.min_eq_right (by omega)
   rw [this,ye (l:=xs) (i:=hi.toNat+ys.length) (by omega),ye (l:=xs) (i:=hi.toNat+F.length) (by omega)]
 have p:(jP enc (ys.take k)).length=k*sz:=by rw [qN G,yx];congr 1;omega
 have v:∀{cells:Array Value} {w':World},(Builtin.firstCells sz k (.slice a2 ys.length c2)).run P w=.ok cells w->(∀b0,shd a c hi.toNat sz=some b0->(storeCells b0 cells.toList).run P w=.ok () w')->(shd a c hi.toNat sz=none->w'=w)->∀b,Rep N z b->
   (execOp b.eval ⟨some d,.call ⟨.builtin .copy,[x,y].toArray,[m,ff].toArray⟩,ty,pos,D,gdd⟩).run P w=.ok (.value (.int .i64 (k:Nat))) w':=by
  intro cells w' K hr2 hr3 b hb;have e1:=hb.look hx;have e2:=hb.look hy;have M:=qV hs w;cases t:shd a c hi.toNat sz with
  |none=>
   rw [t] at e1;have hw:w'=w:=hr3 t;subst hw;simp [execOp,resolve,invoke,builtin,e1,e2,Builtin.copy_,run_underlying ht,Builtin.lenOf,M,<- J,K,goInt]
  |some b'=>
   rw [t] at e1;have h9:=hr2 _ t;simp [execOp,resolve,invoke,builtin,e1,e2,Builtin.copy_,run_underlying ht,Builtin.lenOf,M,<- J,K,h9,goInt]
 rcases yq k with O|hkp
 ·
  have Y:(Builtin.firstCells sz k (.slice a2 ys.length c2)).run P w=.ok #[] w:=by
   rw [O];cases a2<;>simp [Builtin.firstCells,loadCells,loadCellsFrom]
  have hs2:∀b0,shd a c hi.toNat sz=some b0->(storeCells b0 (#[]:Array Value).toList).run P w=.ok () w:=λb0 _=>by simp [storeCells]
  have B:over xs hi.toNat ys=xs:=by
   rw [r,O];simp
  refine j7 hl hg rfl hN (v Y hs2 (λ_=>rfl)) ?_;have h:=h w;rw [<- J] at h;refine h ?_;rw [B];obtain ⟨h5,h6⟩:=zes.1 Z;rw [show L.set j (qk (.slice a n c) T enc sz xs)=L from by rw [<- h6,List.set_getElem_self]];exact A
 ·rcases I.2 with ⟨hz0,_⟩|⟨g,o,cap,q,hv,hp2,R,U,hm,hcs,C⟩
  ·omega
  ·simp only [Value.slice.injEq] at hv;obtain ⟨rfl,rfl,rfl⟩:=hv;have hcq:¬ c=hi.toNat:=by omega
   have eshd:shd (some ⟨g,o,none⟩) c hi.toNat sz=some ⟨g,o+hi.toNat*sz,none⟩:=by simp [shd,hcq,Addr.add]
   obtain ⟨V,hy0⟩:∃V,ys[0]? =some V:=⟨ys[0],zeg (by omega)⟩
   obtain ⟨u0,hu0⟩:∃u0,(enc V)[0]? =some u0:=⟨(enc V)[0]'(by rw [G];exact hp),zeg (by rw [G];exact hp)⟩
   obtain ⟨b,kk,rfl,_,_⟩:=s 0 V 0 u0 hy0 hu0
   have E:∀hi u,(jP enc (ys.take k))[hi]? =some u->w.cell? ((⟨b,kk,none⟩:Addr).add hi)=some u:=by
    intro hi u hu;rw [dI];obtain ⟨m,f,x,hx,Y,hq⟩:=gN G hp hu
    grind
   have Y:(Builtin.firstCells sz k (.slice (some ⟨b,kk,none⟩) ys.length c2)).run P w=.ok (jP enc (ys.take k)).toArray w:=
    run_firstCells_some (P:=P) w sz k ⟨b,kk,none⟩ ys.length c2 _ p E
   have W:∀u∈jP enc (ys.take k),u.oneCell'=true:=by
    intro u hu;obtain ⟨x,hxm,hx⟩:=H6 hu
    grind [eL]
   have hsum:hi.toNat*sz+k*sz<=xs.length*sz:=by rw [<- t8];exact p5 _ (by omega)
   have hcap:xs.length*sz<=c*sz:=p5 _ U;have X:o+hi.toNat*sz+(jP enc (ys.take k)).length<=q.size:=by omega
   have hst2:=run_storeCells_at (P:=P) g (o+hi.toNat*sz) T (jP enc (ys.take k)) 0 q w R (by simpa using X) W;refine j7 hl hg rfl hN (v Y (w':=w.setRow g (qF q.toList (jP enc (ys.take k)) (o+hi.toNat*sz)).toArray) (λb0 hb0=> ?_) (λhb0=> ?_)) ?_
   ·grind [qF]
   ·grind
   ·have h:=h (w.setRow g (qF q.toList (jP enc (ys.take k)) (o+hi.toNat*sz)).toArray);rw [<- J] at h;refine h ?_;have hlen:(qF q.toList (jP enc (ys.take k)) (o+hi.toNat*sz)).length=q.size:=by grind [qF]
    refine A.upd j Z ⟨rfl,rfl,rfl,by simp [World.setRow],λk' _ hn=>setRow_other w g k' _ (by grind [qk,xL])⟩ ?_ (λk' hk'=>.inl hk') vl;have hl2:(over xs hi.toNat ys).length=xs.length:=lB _ _ _ (by omega);show dH (w.setRow g _) T sz _ _ _;rw [hl2];refine ⟨by grind [qN],.inr ⟨g,o,c,_,rfl,hp2,setRow_heap w g q _ T _ R,U,hm,by grind,?_⟩⟩;simp only;rw [cU (by omega) (by omega) (by grind),C,show o+hi.toNat*sz-o=hi.toNat*sz by omega];rw [r,iA,iA];unfold qF;rw [mZ G,p,<- t8,sY G]
theorem OW.appW{bytes:Nat}(A:St w0 S0 w L)(j:Nat)(T:L[j]? =some (qk (.slice a n c) e enc sz xs))(B:∀x,(enc x).length=sz)(ho:∀x,eK (enc x)=true)
  (hl:vm l i=some ⟨some d,.call ⟨.builtin .append,[x,y].toArray,ats.toArray⟩,ty,pos,D,gdd⟩) (ha:ats=[k,k]) (hg:gd l z ⟨some d,.call ⟨.builtin .append,[x,y].toArray,ats.toArray⟩,ty,pos,D,gdd⟩=some true) (hN:Nat.blt d N=true)
  (U:look z x=some (.slice a m c)) (hy:look z y=some v2) (ht:P.underlying k=some (.slice e)) (r:ut P e sz bytes) (V:Rd w S v2 enc sz ys) (hp:m+ys.length<=xs.length)
  (h:∀G,St w0 S0 G (L.set j (qk (.slice a n c) e enc sz (over xs m ys)))->OW P l N Q (i+1) ((d,.slice a (m+ys.length) c)::z) G):OW P l N Q i z w:=by
 subst ha;obtain ⟨I,zv,hi,hzi,W,hby,hzs⟩:=r.UG;have t:dH w e sz (.slice a n c) xs.length (jP enc xs):=A.all j _ T;obtain ⟨hn63,a2,c2,rfl,hlc,hc⟩:=V
 have v:∀{v':Value} {G:World},(Builtin.append_ #[k,k] ty #[.slice a m c,.slice a2 ys.length c2]).run P w=.ok v' G->∀b,Rep N z b->
   (execOp b.eval ⟨some d,.call ⟨.builtin .append,[x,y].toArray,[k,k].toArray⟩,ty,pos,D,gdd⟩).run P w=.ok (.value v') G:=by
  intro v' G V b hb;have e1:=hb.look U;have e2:=hb.look hy;simp [execOp,resolve,invoke,builtin,e1,e2,V]
 rcases yq ys.length with X|X
 ·have Y:ys=[]:=yy X;subst Y;have J:dH w e sz (.slice a (xs.take m).length c) (xs.take m).length (jP enc (xs.take m)):=dH.pre B t (Kx (q:=m) (by grind));have hl:(xs.take m).length=m:=by grind
  have p:=ir (ty:=ty) ht r.size J a2 c2;rw [hl] at p;refine j7 ‹_› hg rfl hN (v p) (h w ?_);have C:over xs m ([]:List α)=xs:=by simp [over]
  rw [C];obtain ⟨h5,h6⟩:=zes.1 T;rw [show L.set j (qk (.slice a n c) e enc sz xs)=L from by rw [<- h6,List.set_getElem_self]];exact A
 ·rcases t.2 with ⟨hz0,_⟩|⟨g,o,cap,s,hv,Z,K,M,hm,hcs,E⟩
  ·omega
  ·simp only [Value.slice.injEq] at hv;obtain ⟨rfl,rfl,rfl⟩:=hv;obtain ⟨O,hy0⟩:∃O,ys[0]? =some O:=⟨ys[0],zeg X⟩
   obtain ⟨u0,hu0⟩:∃u0,(enc O)[0]? =some u0:=⟨(enc O)[0]'(by rw [B];exact r.pos),zeg (by rw [B];exact r.pos)⟩
   obtain ⟨b,kk,rfl,_,_⟩:=hc 0 O 0 u0 hy0 hu0
   have F:∀q u,(jP enc ys)[q]? =some u->w.cell? ((⟨b,kk,none⟩:Addr).add q)=some u:=by
    intro q u hu;rw [dI];obtain ⟨k,f,x,U,hf,hq⟩:=gN B r.pos hu
    grind
   have R:∀u∈jP enc ys,u.oneCell'=true:=by
    intro u hu;obtain ⟨x,U⟩:=FN hu
    grind [eL]
   have fl:(jP enc ys).length=ys.length*I.size:=by grind [qN]
   have hsum:m*sz+ys.length*sz<=xs.length*sz:=by rw [<- t8];exact p5 _ hp
   have hcap:xs.length*sz<=c*sz:=p5 _ M;have fl2:(jP enc ys).length=ys.length*sz:=qN B ys;have hfit:o+m*sz+(jP enc ys).length<=s.size:=by omega
   have p:=lS (P:=P) w k ty e I ht hi g o m c s K ⟨b,kk,none⟩ ys.length c2 (jP enc ys) fl F R (by omega) (by grind);rw [W] at p;refine j7 ‹_› hg rfl hN (v p) (h _ ?_);have hlen:(qF s.toList (jP enc ys) (o+m*sz)).length=s.size:=by grind [qF]
   refine A.upd j T ⟨rfl,rfl,rfl,by simp [World.setRow],λk' _ hn=>setRow_other w g k' _ (by grind [qk,xL])⟩ ?_ (λk' hk'=>.inl hk') vl;have hl2:(over xs m ys).length=xs.length:=lB _ _ _ (by omega);show dH (w.setRow g _) e sz _ _ _;rw [hl2];refine ⟨by grind [qN],.inr ⟨g,o,c,_,rfl,Z,setRow_heap w g s _ e _ K,M,hm,by grind,?_⟩⟩;simp only;rw [cU (by omega) (by omega) (by grind),E,show o+m*sz-o=m*sz by omega];unfold over;rw [iA,iA,r9 (l:=ys) (by omega)];unfold qF;rw [mZ B,fl2,<- t8,sY B]
theorem Fb{q:Int}{e:TypeId}{t:TypeId}(a:Option Addr)(n c:Nat){r m:Int}(f:0<=q)(D:q<=r)(F:r<=m)(G:m<=(c:Int))(g:P.underlying t=some (.slice e))(hs:am P (sizeOf e)=some sz):
  ∃v,∀(E:Oper)(h:List (Nat×Value)){x y z u:Operand}{kd k kf:IntKind},E.op=.slice t x (some y) (some z) (some u)->look h x=some (.slice a n c)->look h y=some (.int kd q)->look h z=some (.int k r)->look h u=some (.int kf m)->∀b w,Rep N h b->(execOp b.eval E).run P w=.ok (.value v) w:=by
 refine ⟨.slice (if m.toNat=q.toNat then a else a.map (·.add (q.toNat*sz))) (r.toNat-q.toNat) (m.toNat-q.toNat),λE h x y z u kd k kf ho i j l o b w d=> ?_⟩;have e1:=d.look i;have e2:=d.look j;have p:=d.look l;have s:=d.look o;obtain ⟨q,rfl⟩:=zof f;obtain ⟨r,rfl⟩:=zof (by omega:0<=r);obtain ⟨m,rfl⟩:=zof (by omega:0<=m);have A:q<=r:=by omega
 have B:r<=m:=by omega
 have C:m<=c:=by omega
 simp [execOp,ho,Instr.sliceAt,Instr.slice,Instr.sliceBounds,Instr.sliceBound,run_underlying g,e1,e2,p,s,asIntOf,A,B,C,qV hs]
theorem oT(h:∀x,(enc x).length=sz)(xs:List α):jP (fit sz) (xs.map enc)=jP enc xs:=by
 induction xs with
 |nil=>rfl
 |cons x r i=>simp only [yl,jP,i,rV (h x)]
theorem Rd.raw(g:∀x,(enc x).length=sz)(h:Rd w S v enc sz xs):Rd w S v (fit sz) sz (xs.map enc):=by
 obtain ⟨d,a,c,e,b,i⟩:=h;refine ⟨by simpa using d,a,c,by simpa using e,by simpa using b,λt x f u j k=> ?_⟩
 grind [rV]
def rP(sz:Nat):Nat->List Value->List (List Value)
 |0,_=>[]
 |n+1,c=>c.take sz::rP sz n (c.drop sz)
theorem pV(sz n:Nat)(c:List Value):(rP sz n c).length=n:=by
 induction n generalizing c with
 |zero=>rfl
 |succ n i=>simp [rP,i]
theorem Dz(sz:Nat):∀(n:Nat)(c:List Value),c.length=n*sz->jP (fit sz) (rP sz n c)=c:=by
 intro n
 induction n with
 |zero=>intro c h;have:c=[]:=yy (by simpa using h);rw [this];rfl
 |succ n i=>
  intro c h;simp only [rP,jP];rw [y6] at h;rw [rV (by grind),i _ (by grind),yg]
theorem St.spare(i:St w0 S0 w L)(j:Nat)(t:L[j]? =some (qk (.slice a n c) T enc sz xs))(v:∀x,(enc x).length=sz)(y:xs.length<=k)(l:k<=c):
  ∃s:List (List Value),s.length=k-xs.length/\St w0 S0 w (L.set j (qk (.slice a k c) T (fit sz) sz (xs.map enc++s))):=by
 have h:dH w T sz (.slice a n c) xs.length (jP enc xs):=i.all j _ t
 have e:(dj (.slice a k c)).toList=(dj (.slice a n c)).toList:=by
  cases a with
  |none=>rfl
  |some a=>cases c<;>rfl
 have fin:∀s:List (List Value),s.length=k-xs.length->dH w T sz (.slice a k c) (xs.map enc++s).length (jP (fit sz) (xs.map enc++s))->St w0 S0 w (L.set j (qk (.slice a k c) T (fit sz) sz (xs.map enc++s))):=λs hl ho=>
  i.upd j t (w9 _ _) ho (λb z=>.inl (by
   show b∈(dj (.slice a n c)).toList;rw [<- e];exact z)) vl
 rcases h.2 with ⟨A,K,m⟩|⟨g,o,cap,d,m,B,C,D,E,p,F⟩
 ·simp only [Value.slice.injEq] at m;obtain ⟨rfl,rfl,rfl⟩:=m;have q:xs=[]:=yy A;subst q;have:k=0:=by omega
  subst this;exact ⟨[],rfl,fin [] rfl (dH.nil _ _ _ _)⟩
 ·simp only [Value.slice.injEq] at m;obtain ⟨rfl,rfl,rfl⟩:=m;have G:k*sz<=c*sz:=p5 _ l;have I:xs.length*sz<=k*sz:=p5 _ y;have u:(k-xs.length)*sz=k*sz-xs.length*sz:=Nat.sub_mul ..
  have J:((d.toList.drop o).take (k*sz)).length=k*sz:=by
   grind
  refine ⟨rP sz (k-xs.length) (((d.toList.drop o).take (k*sz)).drop (xs.length*sz)),pV _ _ _,fin _ (pV _ _ _) ?_⟩
  have r:jP (fit sz) (xs.map enc++rP sz (k-xs.length) (((d.toList.drop o).take (k*sz)).drop (xs.length*sz)))=(d.toList.drop o).take (k*sz):=by
   rw [iA,oT v,Dz _ _ _ (by grind),<- F]
   conv=>rhs;rw [<- yg (xs.length*sz) ((d.toList.drop o).take (k*sz))]
   grind
  have f:(xs.map enc++rP sz (k-xs.length) (((d.toList.drop o).take (k*sz)).drop (xs.length*sz))).length=k:=by
   grind [pV]
  refine ⟨by grind,.inr ⟨g,o,c,d,by rw [f],B,C,by rw [f];exact l,E,p,?_⟩⟩
  rw [f,r]
theorem St.typed(a:St w0 S0 w L)(j:Nat)(c:L[j]? =some (qk v T (fit sz) sz css))(d:∀x,(enc x).length=sz)(e:css=xs.map enc):St w0 S0 w (L.set j (qk v T enc sz xs)):=by
 have h:dH w T sz v css.length (jP (fit sz) css):=a.all j _ c;subst e;rw [oT d,o8] at h;exact a.upd j c (w9 _ _) h (λb f=>.inl f) vl
theorem Fc(h:eK vs=true)(hl:vs.length=sz):eK (fit sz vs)=true:=by rw [rV hl];exact h
theorem Ky{e:TypeId}(ho:E.op=.slice T x none (some y) none)(f:look h x=some (.slice a n c))(g:look h y=some (.int kd hi))(i:hi=(k:Int))
  (j:k<=c) (l:P.underlying T=some (.slice e)) (hs:am P (sizeOf e)=some sz):∀b w,Rep N h b->(execOp b.eval E).run P w=.ok (.value (.slice a k c)) w:=by
 intro b w d;have e1:=d.look f;have e2:=d.look g;subst i;have m:(0:Int)<=(k:Int)/\(k:Int)<=(c:Int):=⟨by omega,by omega⟩
 have o:(if c=0 then a else a.map (λx=>x.add 0))=a:=by
  split
  ·rfl
  ·cases a with
   |none=>rfl
   |some z=>simp [Addr.add]
 simp [execOp,ho,Instr.sliceAt,Instr.slice,Instr.sliceBounds,Instr.sliceBound,run_underlying l,e1,e2,asIntOf,m.1,j,qV hs,o]
theorem Ad(h:∀x,(enc x).length=sz)(d:0<sz)(m:Rd w S (.slice a ys.length c) enc sz ys):(Builtin.firstCells sz ys.length (.slice a ys.length c)).run P w=.ok (jP enc ys).toArray w:=by
 obtain ⟨_,p,c2,l,_,n⟩:=m;simp only [Value.slice.injEq] at l;obtain ⟨rfl,_,rfl⟩:=l;rcases yq ys.length with e|e
 ·have:ys=[]:=yy e;subst this;cases a<;>simp [Builtin.firstCells,loadCells,loadCellsFrom,jP]
 ·obtain ⟨y,g⟩:∃y,ys[0]? =some y:=⟨ys[0],zeg e⟩
  obtain ⟨i,j⟩:∃i,(enc y)[0]? =some i:=⟨(enc y)[0]'(by rw [h];exact d),zeg (by rw [h];exact d)⟩
  obtain ⟨b,k,rfl,_,_⟩:=n 0 y 0 i g j;refine run_firstCells_some (P:=P) w sz ys.length ⟨b,k,none⟩ ys.length c _ (qN h _) (λq u o=> ?_);rw [dI];obtain ⟨t,f,x,r,s,v⟩:=gN h d o
  grind
theorem OW.appZ(C:St w0 S0 w L)(Z:∀x,(enc x).length=sz)
  (hl:vm l i=some ⟨some d,.call ⟨.builtin .append,[x,y].toArray,ats.toArray⟩,ty,pos,D,gdd⟩) (ha:ats=[j,n]) (hg:gd l I ⟨some d,.call ⟨.builtin .append,[x,y].toArray,ats.toArray⟩,ty,pos,D,gdd⟩=some true) (hN:Nat.blt d N=true) (hx:look I x=some (.slice a ys.length c)) (hy:look I y=some (.int kd G)) (r:G=(k:Int)) (ht:P.underlying j=some (.slice e)) (E:P.underlying n=some (.int .i64)) (f:ut P e sz m) (hr:Rd w S (.slice a ys.length c) enc sz ys) (z:α) (F:(am P (zeroValue e)).map (·.cells.toList)=some (enc z)) (J:0<k) (hc:c<ys.length+k) (K:(ys.length+k)*m<=140737488355328)
  (h:∀g M O,St w0 S0 O (L++[qk (.slice (some ⟨g,0,none⟩) (ys.length+k) M) e enc sz (ys++List.replicate k z)])->ys.length+k<=M->OW P l N Q (i+1) ((d,.slice (some ⟨g,0,none⟩) (ys.length+k) M)::I) O):OW P l N Q i I w:=by
 subst ha;subst r;obtain ⟨s,q,hi,p,t,u,R⟩:=f.UG;have hkb:k*m<=(ys.length+k)*m:=p5 _ (by omega);have hnb:ys.length+k<=(ys.length+k)*m:=Se _ f.UP
 have v:(Builtin.firstCells s.size ys.length (.slice a ys.length c)).run P w.drew=.ok (jP enc ys).toArray w.drew:=by
  rw [t];have T:Rd w.drew S (.slice a ys.length c) enc sz ys:=hr;exact Ad Z f.pos T
 have o:=Lib.run_append_grow_zeros (P:=P) w j n ty e s q kd .i64 ht E hi p a ys.length c (jP enc ys) v k J (by rw [t];exact f.pos) hc (by omega) (by rw [u];omega) (by rw [u];exact growslice_fits (by omega) K)
 have U:q.cells.toList=enc z:=by
  cases r:am P (zeroValue e) with
  |none=>rw [r] at F;cases F
  |some z'=>
   have h1:=qV r w;rw [r] at F;simp only [zeroValue,typeInfo,hi,p] at h1;have:z'=q:=by simpa [Sem.run,typeInfo,hi,p] using h1.symm
   grind
 have A:=grownCap_ge w (ys.length+k) c e;have V:grownCap w (ys.length+k) c e<=maxLen:=grownCap_le_maxLen w (ys.length+k) c e (by simp only [maxLen];omega);obtain ⟨W,hW⟩:∃W,W=(w.drew.alloc (.cells ((jP enc ys).toArray++Builtin.zeroCells q.cells k++Builtin.zeroCells q.cells (grownCap w (ys.length+k) c e-(ys.length+k))) e)):=⟨_,rfl⟩
 rw [<- hW] at o;refine j7 hl hg rfl hN (w':=W) (λb B=> ?_) (h w.heap.size _ W ?_ A)
 ·have e1:=B.look hx;have e2:=B.look hy;simp [execOp,resolve,invoke,builtin,e1,e2,o]
 ·subst hW;have X:=nC (enc:=enc) U k;refine C.push ⟨rfl,rfl,rfl,by simp,λk J _=>heap_alloc_old w.drew _ J⟩ ?_ (λb K=>oD K) vl;show dH _ e sz _ _ _;have Y:(ys++List.replicate k z).length=ys.length+k:=by simp
  have hf1:jP enc (ys++List.replicate k z)=jP enc ys++(Builtin.zeroCells q.cells k).toList:=by rw [iA,X]
  rw [Y];refine ⟨by grind [qN],.inr ⟨w.heap.size,0,_,_,rfl,by omega,heap_alloc_new w.drew _,A,V,?_,?_⟩⟩
  ·have e1:(jP enc ys).length=ys.length*sz:=qN Z _;simp only [Array.size_append,List.size_toArray,size_zeroCells,R,e1,<- t8,x7]
   grind
  grind [jP,qN]
theorem BK{e:TypeId}{α:Type}{sz:Nat}{tS:TypeId}{cc:Nat}{b:α->List Value}{β:Type}{d:β->List Value}{xs:List α}{ys:List β}(h:St w0 S0 w L)(j1 j2:Nat)(s:j1≠j2)
  (E:L[j1]? =some (qk (.slice a1 N j) T b sz2 xs)) (F:L[j2]? =some (qk (.slice a n2 c2) T2 d sz3 ys))
  (O:P.funcs[kf]? =some B) (f:(B.name== "runtime.NumGoroutine")=false) (Q:B.body.isNone=true) (R:Extern.findNext B=none) (S:Extern.find B=some (Extern.SlicesOverlaps.overlaps #[tS,tS] #[tR])) (U:P.underlying tS=some (.slice e)) (hs:am P (sizeOf e)=some sz) (t:0<sz3) (V:0<xs.length) (W:0<ys.length):
  (callFunc kf #[.slice a1 N j,.slice (shd a c2 q sz3) l2 cc]).run P w=.ok (.value (.bool false)) w:=by
 rw [run_callFunc_extern O f Q R S];have X:dH w T sz2 (.slice a1 N j) xs.length (jP b xs):=h.all j1 _ E;have Y:dH w T2 sz3 (.slice a n2 c2) ys.length (jP d ys):=h.all j2 _ F;have Z:∀w,(Go.sizeOf e).run P w=.ok sz w:=λw=>qV hs w
 rcases X.2 with ⟨hz1,_⟩|⟨g,o,cap,k,l,u,i,G,hm1,I,_⟩
 ·omega
 ·simp only [Value.slice.injEq] at l;obtain ⟨rfl,rfl,rfl⟩:=l;rcases Y.2 with ⟨hz2,_⟩|⟨m,n,J,c,p,r,v,K,hm2,M,_⟩
  ·omega
  ·simp only [Value.slice.injEq] at p;obtain ⟨rfl,rfl,rfl⟩:=p;have x:g≠m:=λe=>h.apart j1 j2 _ _ s E F g (by simp [qk,xL u]) (by grind [qk,xL])
   obtain ⟨y,z⟩:∃y,shd (some ⟨m,n,none⟩) c2 q sz3=some ⟨m,y,none⟩:=by
    unfold shd;split
    ·exact ⟨_,rfl⟩
    ·exact ⟨n+q*sz3,by simp [Addr.add]⟩
   rw [z];have A:w.shape? g=some (T,k.size):=by unfold World.shape?;rw [i]
   have C:w.shape? m=some (T2,c.size):=by unfold World.shape?;rw [v]
   have D:c.size≠0:=by
    have:0<c2*sz3:=Nat.mul_pos r t;omega
   rw [Lib.run_overlaps_apart w tS tR e U sz Z ⟨g,o,none⟩ ⟨m,y,none⟩ xs.length j l2 cc x T T2 k.size c.size A C D ?_ ?_]
   ·rfl
   ·simp [World.frozen?,i]
   ·simp [World.frozen?,i]
theorem Nt{e:TypeId}{α:Type}{sz:Nat}{tS:TypeId}{b:α->List Value}{β:Type}{c:β->List Value}{xs:List α}{ys:List β}(d:St w0 S0 w L)(j1 j2:Nat)(f:Nat.beq j1 j2=false)
  (p:L[j1]? =some (qk (.slice a1 j i) T b sz2 xs)) (r:L[j2]? =some (qk (.slice J n2 c2) T2 c sz3 ys)) (ho:E.op=.call ⟨.value (.func kf),[x,y].toArray,ats.toArray⟩) (s:look z x=some (.slice a1 j i)) (t:look z y=some (.slice (shd J c2 q sz3) l2 k))
  (u:P.funcs[kf]? =some B) (h:(B.name== "runtime.NumGoroutine")=false) (v:B.body.isNone=true) (A:Extern.findNext B=none) (g:Extern.find B=some (Extern.SlicesOverlaps.overlaps #[tS,tS] #[tR])) (C:P.underlying tS=some (.slice e)) (hs:am P (sizeOf e)=some sz) (l:0<sz3) (m:0<xs.length) (n:0<ys.length):
  ∀a,Rep N z a->(execOp a.eval E).run P w=.ok (.value (.bool false)) w:=by
 intro a o;have e1:=o.look s;have e2:=o.look t;have D:=BK (P:=P) (tS:=tS) (tR:=tR) (e:=e) (l2:=l2) (cc:=k) (q:=q) d j1 j2 (p7 f) p r u h v A g C hs l m n;have F:a.eval (.func kf)=.func (.func kf) #[] #[]:=rfl;simp [execOp,ho,resolve,Deferred.ofValue,invoke,e1,e2,F,D,Result.andThen]
def O3(b:Nat)(xs:List α)(i:Int)(ys:List α):Option (List α×List α):=
 if 0<=i/\i<=xs.length/\(xs.length+ys.length)*b<=140737488355328 then some (xs.take i.toNat++ys++xs.drop i.toNat,ys) else none
theorem BL(h:O3 N xs hi ys=some K):∃k:Nat,hi=(k:Int)/\k<=xs.length/\(xs.length+ys.length)*N<=140737488355328/\K=(xs.take k++ys++xs.drop k,ys):=by
 unfold O3 at h;split at h
 ·grind
 ·cases h
theorem ab(a:hi=(k:Int))(h:k<=xs.length):cut xs hi (xs.length:Int)=some (xs.drop k):=by
 subst a;unfold cut;rw [d8 ⟨by omega,by omega,by omega⟩];simp
theorem oh(a:hi=(k:Int))(h:k<=xs.length):cut xs 0 hi=some (xs.take k):=by
 grind [cut]
theorem RD(h:k<=xs.length)(z:α):over (over (xs.take k++List.replicate (xs.length+ys.length-k) z) k ys) (k+ys.length) (xs.drop k)=xs.take k++ys++xs.drop k:=by
 have a:over (xs.take k++List.replicate (xs.length+ys.length-k) z) k ys=xs.take k++ys++List.replicate (xs.length-k) z:=by
  unfold over;rw [y7 (by simp;omega),z8,Nat.min_self,r9 (l:=ys) (by simp;omega),R7,ye (by simp;omega),List.drop_replicate]
  grind
 rw [a];unfold over;have hl:(xs.take k++ys).length=k+ys.length:=by simp;omega
 rw [y7 (by omega),r9 (by omega),r9 (l:=xs.drop k) (by simp;omega),ye (l:=xs.take k++ys++List.replicate (xs.length-k) z) (i:=k+ys.length+(xs.drop k).length) (by simp;omega),i9]
theorem Nu(h:k<=xs.length)(b:s.length=m)(c:∀x,(enc x).length=sz)(ho:∀x,eK (enc x)=true):
  ∀y∈((xs.map enc++s).drop k).take ((xs.map enc++s).drop (k+m)).length,eK (fit sz y)=true:=by
 intro y a;have hl:((xs.map enc++s).drop (k+m)).length=xs.length-k:=by simp;omega
 rw [hl,<- List.drop_take] at a
 grind [Fc]
theorem Kz(h:∀x,(enc x).length=sz)(ho:∀x,eK (enc x)=true):∀y∈(ys.map enc).take n,eK (fit sz y)=true:=by
 grind [Fc]
theorem RE(h:k<=xs.length)(d:s.length=ys.length):
  over (over (xs.map enc++s) (k+ys.length) ((xs.map enc++s).drop k)) k (ys.map enc)=(xs.take k++ys++xs.drop k).map enc:=by
 obtain ⟨X,c⟩:∃X,X=xs.map enc++s:=⟨_,rfl⟩
 have b:X.length=xs.length+ys.length:=by rw [c];simp [d]
 have a:X.take xs.length=xs.map enc:=by grind
 rw [<- c]
 have e:over X (k+ys.length) (X.drop k)=X.take (k+ys.length)++(xs.drop k).map enc:=by
  unfold over;rw [ye (l:=X) (i:=k+ys.length+(X.drop k).length) (by simp;omega),i9]
  congr 1
  rw [b,show xs.length+ys.length-(k+ys.length)=xs.length-k by omega,List.map_drop,<- a,List.drop_take]
 rw [e];unfold over;have hl:(X.take (k+ys.length)).length=k+ys.length:=by simp;omega
 rw [y7 (by omega),z8,Nat.min_eq_left (by omega),r9 (l:=ys.map enc) (by simp;omega),R7,ye (l:=X.take (k+ys.length)) (by simp;omega),hl];simp only [o8,Nat.sub_self,List.drop_zero,List.nil_append,t9]
 congr 2
 have:=congrArg (List.take k) a;rw [z8,Nat.min_eq_left h] at this;rw [this,List.map_take]
def Mr(xs:List α)(i j:Int):Option (List α):=
 if 0<=i/\i<=j/\j<=xs.length then some (xs.take i.toNat++xs.drop j.toNat) else none
theorem oU(h:Mr xs G O=some ys):∃p hi:Nat,G=(p:Int)/\O=(hi:Int)/\p<=hi/\hi<=xs.length/\ys=xs.take p++xs.drop hi:=by
 unfold Mr at h;split at h
 ·rename_i a
  obtain ⟨p,rfl⟩:=zof a.1;obtain ⟨hi,rfl⟩:=zof (Int.le_trans a.1 a.2.1);cases h;exact ⟨p,hi,rfl,rfl,by omega,by omega,rfl⟩
 ·cases h
theorem Ru{p:Nat}(h:p<=q)(a:q<=xs.length)(z:α)(n:Nat):((over xs p (xs.drop q)).take (p+(xs.drop q).length)++List.replicate n z).take (p+(xs.drop q).length)=xs.take p++xs.drop q:=by
 have hl:(over xs p (xs.drop q)).length=xs.length:=lB _ _ _ (by omega);have b:(xs.drop q).length=xs.length-q:=by simp
 rw [y7 (by grind),z8,Nat.min_self];unfold over;rw [r9 (l:=xs.drop q) (by omega),y7 (by simp;omega),r9 (by simp;omega)]
open Go.RowKit
def Hj{α:Type}(T:TypeId)(R:Rp α):Rp α where
 sz:=1
 own w c S x:=∃u,c=[.iface T u]/\R.own w [u] S x
 rd w F x c:=∃u,c=[.iface T u]/\R.rd w F x [u]
 len:=by rintro w c S x ⟨u,rfl,_⟩;rfl
 loc:=by rintro w a c S x b ⟨u,rfl,h⟩;exact ⟨u,rfl,R.loc w a _ _ _ b h⟩
 lt:=by rintro w c S x ⟨u,rfl,h⟩;exact R.lt _ _ _ _ h
 nd:=by rintro w c S x ⟨u,rfl,h⟩;exact R.nd _ _ _ _ h
 see:=by rintro w c S x F ⟨u,rfl,h⟩ d;exact ⟨u,rfl,R.see _ _ _ _ F h d⟩
 rlen:=by rintro w F x c ⟨u,rfl,h⟩;rfl
 TF:=by rintro w a F e x c f g ⟨u,rfl,h⟩;exact ⟨u,rfl,R.TF w a F e _ _ f g h⟩
def Np{α β:Type}(A:Rp α)(B:Rp β)(b:A.sz=1)(d:B.sz=1):Rp (α⊕β) where
 sz:=1
 own w c S x:=match x with
  |.inl y=>A.own w c S y
  |.inr y=>B.own w c S y
 rd w F x c:=match x with
  |.inl y=>A.rd w F y c
  |.inr y=>B.rd w F y c
 len:=by
  rintro w c S (x|x) h
  ·exact (A.len w c S x h).trans b
  ·exact (B.len w c S x h).trans d
 loc:=by
  rintro w a c S (x|x) hb h
  ·exact A.loc w a c S x hb h
  ·exact B.loc w a c S x hb h
 lt:=by
  rintro w c S (x|x) h
  ·exact A.lt w c S x h
  ·exact B.lt w c S x h
 nd:=by
  rintro w c S (x|x) h
  ·exact A.nd w c S x h
  ·exact B.nd w c S x h
 see:=by
  rintro w c S (x|x) F h hF
  ·exact A.see w c S x F h hF
  ·exact B.see w c S x F h hF
 rlen:=by
  rintro w F (x|x) c h
  ·exact (A.rlen w F x c h).trans b
  ·exact (B.rlen w F x c h).trans d
 TF:=by
  rintro w a F e (x|x) c h1 h2 h
  ·exact A.TF w a F e x c h1 h2 h
  ·exact B.TF w a F e x c h1 h2 h
def rY{α:Type}(R:Rp α)(css:List (List Value))(Ss:List (List Nat))(xs:List α):Item where
 S:=Ss.flatten
 Φ w:=css.length=xs.length/\Ss.length=xs.length/\∀(i:Nat)(c:List Value)(S:List Nat)(x:α),css[i]? =some c->Ss[i]? =some S->xs[i]? =some x->R.own w c S x
 loc w w' h hr:=by
  obtain ⟨g,j,d⟩:=hr;exact ⟨g,j,λi c S x k a l=>R.loc w w' c S x (λb e=>h b (j9.2 ⟨S,zmg a,e⟩)) (d i c S x k a l)⟩
 lt w hr b e:=by
  obtain ⟨g,j,d⟩:=hr;obtain ⟨S,a,f⟩:=j9.1 e;obtain ⟨i,hi,rfl⟩:=u5.1 a;exact R.lt _ _ _ _ (d i css[i] Ss[i] xs[i] (zeg (by omega)) (zeg hi) (zeg (by omega))) b f
def MLk(r:Nat)(k:Int)(v vz:Value)(b:Bool)(w:World):Prop:=∃A clock m,w.heap[r]? =some (.map A clock)/\nR (λv:Value=>v) m A.toList clock/\(jA m k).getD vz=v/\(jA m k).isSome=b
theorem St.sumL{b:A.sz=1}{c:V.sz=1}(h:St w0 S0 w L)(j:Nat)(a:L[j]? =some (itI (Np A V b c) [v] S (.inl W))):St w0 S0 w (L.set j (itI A [v] S W)):=h.turn j a (h.all j _ a) rfl
theorem St.sumR{b:A.sz=1}{c:V.sz=1}(h:St w0 S0 w L)(j:Nat)(a:L[j]? =some (itI (Np A V b c) [v] S (.inr X))):St w0 S0 w (L.set j (itI V [v] S X)):=h.turn j a (h.all j _ a) rfl
theorem St.ofL{β:Type}(B:Rp β)(b:A.sz=1)(c:B.sz=1)(h:St w0 S0 w L)(j:Nat)(a:L[j]? =some (itI A [v] S W)):St w0 S0 w (L.set j (itI (Np A B b c) [v] S (.inl W))):=h.turn j a (h.all j _ a) rfl
theorem St.ofR{α:Type}(A:Rp α)(b:A.sz=1)(c:V.sz=1)(h:St w0 S0 w L)(j:Nat)(a:L[j]? =some (itI V [v] S X)):St w0 S0 w (L.set j (itI (Np A V b c) [v] S (.inr X))):=h.turn j a (h.all j _ a) rfl
theorem St.untag(h:St w0 S0 w L)(j:Nat)(a:L[j]? =some (itI (Hj T A) [v] S W)):∃u,v=.iface T u/\St w0 S0 w (L.set j (itI A [u] S W)):=by
 obtain ⟨u,b,c⟩:=h.all j _ a;cases b;exact ⟨u,rfl,h.turn j a c rfl⟩
theorem St.tag(T:TypeId)(h:St w0 S0 w L)(j:Nat)(a:L[j]? =some (itI A [u] S W)):St w0 S0 w (L.set j (itI (Hj T A) [.iface T u] S W)):=h.turn j a ⟨u,rfl,h.all j _ a⟩ rfl
def Inv(P:Program)(v:Value)(name:String)(args:List Value)(f:FuncId)(args':List Value):Prop:=∀w,(invoke (.fn (.method name) #[]) (v::args).toArray).run P w=.ok (.enter f args'.toArray) w
def H1:Next->Option (FuncId×List Value)
 |.enter f args=>some (f,args.toList)
 |_=>none
theorem H2(h:(am P (invoke (.fn (.method name) #[]) (v::args).toArray)).bind H1=some (kf,args')):Inv P v name args kf args':=by
 intro w;cases a:am P (invoke (.fn (.method name) #[]) (v::args).toArray) with
 |none=>rw [a] at h;cases h
 |some n=>
  rw [a] at h;cases n with
  |enter g as=>
   simp only [zbs,H1,i5,o4] at h;obtain ⟨rfl,rfl⟩:=h
   simpa using qV a w
  |_=>cases h
def uT{α:Type}(P:Program):List Value->Sem α->Option (α×List Addr)
 |_,.pure a=>some (a,[])
 |vs,.program k=>uT P vs (k P)
 |v::vs,.load _ a k=>match uT P vs (k v) with
  |some (x,as)=>some (x,a::as)
  |none=>none
 |_,_=>none
theorem H3:∀{vs:List Value} {x:α} {as:List Addr},uT P vs Y=some (x,as)->(∀(i:Nat) a v,as[i]? =some a->vs[i]? =some v->w.cell? a=some v)->Y.run P w=.ok x w:=by
 induction Y with
 |pure b=>intro vs x as h _;simp only [uT,i5,o4] at h;obtain ⟨rfl,_⟩:=h;rfl
 |program k d=>intro vs x as h c;simp only [uT] at h;exact d P h c
 |load m a k d=>
  intro vs x as h c;cases vs with
  |nil=>simp [uT] at h
  |cons v vs=>
   simp only [uT] at h;split at h
   ·rename_i n e f
    simp only [i5,o4] at h;obtain ⟨rfl,rfl⟩:=h;have g:=c 0 a v rfl rfl;have:=d v f (λi b u j l=>c (i+1) b u (by simpa using j) (by simpa using l))
    simpa [Sem.run,g] using this
   ·cases h
 |_=>intro vs x as h _;cases vs<;>simp [uT] at h
def QE(P:Program)(v:Value)(name:String)(args:List Value)(f:FuncId)(args':List Value)(w:World):Prop:=(invoke (.fn (.method name) #[]) (v::args).toArray).run P w=.ok (.enter f args'.toArray) w
def E7:Next×List Addr->Option (FuncId×List Value×List Addr)
 |(.enter f args,as)=>some (f,args.toList,as)
 |_=>none
theorem Nq{a:Addr}(h:(uT P [u] (invoke (.fn (.method name) #[]) (v::args).toArray)).bind E7=some (kf,args',[a]))(f:w.cell? a=some u):QE P v name args kf args' w:=by
 cases c:uT P [u] (invoke (.fn (.method name) #[]) (v::args).toArray) with
 |none=>rw [c] at h;cases h
 |some n=>
  rw [c] at h;obtain ⟨n,as⟩:=n;cases n with
  |enter g j=>
   simp only [zbs,E7,i5,o4] at h;obtain ⟨rfl,rfl,rfl⟩:=h
   have:=H3 c (λi b y d e=>by
    cases i with
    |zero=>simp only [z9,i5] at d e;subst d e;exact f
    |succ i=>simp at d)
   simpa [QE] using this
  |_=>cases h
def Nr(P:Program)(v:Value)(name:String)(args:List Value)(w:World)(R:Ending->World->Prop):Prop:=∃f args',QE P v name args f args' w/\Calls P f args'.toArray w R
def looks(fr:List (Nat×Value)):List Operand->Option (List Value)
 |[]=>some []
 |x::r=>match look fr x,looks fr r with
  |some v,some vs=>some (v::vs)
  |_,_=>none
theorem Ga(h:looks z a0=some vs)(a:Rep N z a3):a0.map a3.eval=vs:=by
 induction a0 generalizing vs with
 |nil=>simp only [looks,i5] at h;rw [<- h];rfl
 |cons x r i=>
  unfold looks at h;split at h
  ·rename_i v b c d
   cases h
   rw [yl,i d,a.look c]
  ·cases h
theorem OW.inv{ys:List Operand}
  (hl:vm l i=some ⟨some d,.call ⟨.invoke x name,ys.toArray,ats.toArray⟩,ty,pos,D,gdd⟩) (j:gd l z ⟨some d,.call ⟨.invoke x name,ys.toArray,ats.toArray⟩,ty,pos,D,gdd⟩=some true) (k:Nat.blt d N=true)
  (m:look z x=some v) (n:looks z ys=some args) (b:Nr P v name args w a4)
  (h:∀e c,a4 e c->∃v,e=.returned v/\OW P l N Q (i+1) ((d,v)::z) c):OW P l N Q i z w:=by
 obtain ⟨f,args',hi,b⟩:=b;refine OW.call hl j rfl k (λa g=> ?_) b h;have e1:=g.look m;have e2:=Ga n g;have e3:=hi;unfold QE at e3;have o:(ys.toArray.map a.eval)=args.toArray:=by rw [<- e2];simp
 have p:(Array.map a.eval ys.toArray)=args.toArray:=o;have q:((#[v]:Array Value)++args.toArray)=(v::args).toArray:=by simp
 have r:(execOp a.eval ⟨some d,.call ⟨.invoke x name,ys.toArray,ats.toArray⟩,ty,pos,D,gdd⟩).run P w=((invoke (.fn (.method name) #[]) (#[v]++args.toArray)).run P w):=by
  simp only [execOp,resolve,e1,p];rfl
 rw [r,q,e3]
theorem E8(ho:E.op=.makeInterface T x)(h:look z x=some v)(b:am P (Instr.makeInterface T v)=some (.iface T v)):∀a w,Rep N z a->(execOp a.eval E).run P w=.ok (.value (.iface T v)) w:=by
 intro a w c;have e1:=c.look h;have e2:=qV b w;simp [execOp,ho,e1,e2]
theorem E9(h:(Hj T A).own w vs S W):eK vs=true:=by
 obtain ⟨u,rfl,_⟩:=h;rfl
theorem Ku{a:A.sz=1}{b:V.sz=1}(c:∀w vs S a5,A.own w vs S a5->eK vs=true)(d:∀w vs S a5,V.own w vs S a5->eK vs=true)(h:(Np A V a b).own w vs S a5):eK vs=true:=by
 cases a5 with
 |inl a5=>exact c _ _ _ _ h
 |inr a5=>exact d _ _ _ _ h
theorem H4(h:(Hj T A).own w vs S W):∃T u,vs=[.iface T u]:=by
 obtain ⟨u,rfl,_⟩:=h;exact ⟨_,_,rfl⟩
theorem Ns{a:A.sz=1}{b:V.sz=1}(c:∀w vs S a5,A.own w vs S a5->∃T u,vs=[.iface T u])(d:∀w vs S a5,V.own w vs S a5->∃T u,vs=[.iface T u])(h:(Np A V a b).own w vs S a5):∃T u,vs=[.iface T u]:=by
 cases a5 with
 |inl a5=>exact c _ _ _ _ h
 |inr a5=>exact d _ _ _ _ h
theorem St.ifcell{L:List Item}(h:St w0 S0 w L)(j:Nat)(a:L[j]? =some (itI A [v] S W))(b:∀w c S W,A.own w c S W->∃T u,c=[.iface T u]):∃T u,v=.iface T u:=by
 obtain ⟨T,u,e⟩:=b _ _ _ _ (h.all j _ a)
 grind
theorem St.bchOne{α:Type}{R:Rp α}(h:St w0 S0 w L)(j:Nat){x:α}(a:L[j]? =some (itI R vs S x)):St w0 S0 w (L.set j (rY R [vs] [S] [x])):=by
 have b:R.own w vs S x:=h.all j _ a;refine h.turn j a ⟨rfl,rfl,λi c T z d e f=> ?_⟩ (by simp [rY,itI])
 grind
theorem St.bchApp{α:Type}{R:Rp α}{xs ys:List α}(h:St w0 S0 w L)(k j:Nat)(d:Nat.beq k j=false)(g:L[k]? =some (rY R css Ss xs))(n:L[j]? =some (rY R s Ss2 ys)):
  St w0 S0 w ((L.set k (rY R (css++s) (Ss++Ss2) (xs++ys))).set j nilI):=by
 obtain ⟨a1,r,a5⟩:=h.all k _ g;obtain ⟨t,v,b5⟩:=h.all j _ n;have q:∀b∈Ss.flatten,b∉Ss2.flatten:=λb o p=>h.apart k j _ _ (p7 d) g n b o p
 have get:∀{β:Type} (l m:List β) (i:Nat) (u:β),(l++m)[i]? =some u->(i<l.length/\l[i]? =some u)\/(l.length<=i/\m[i-l.length]? =some u):=by
  grind
 refine h.fuse k j d g n ⟨by simp;omega,by simp;omega,λi c T z x y A=> ?_⟩ ?_ (λb o=> ?_)
 ·grind
 ·show (Ss++Ss2).flatten.Nodup;rw [yr];exact k7.2 ⟨h.nd k _ g,h.nd j _ n,λa B b o e=>by grind⟩
 ·have f:b∈(Ss++Ss2).flatten:=o;rw [yr] at f;exact g8.1 f
theorem St.nOf{α:Type}{R:Rp α}{xs:List α}(h:St w0 S0 w L)(k j:Nat)(d:Nat.beq k j=false)(hs:sz=R.sz)(m:L[k]? =some (qk v T (fit sz) sz css))(l:L[j]? =some (rY R css Ss xs)):∃S,St w0 S0 w ((L.set k (nI T R v S xs none)).set j nilI):=by
 subst hs;obtain ⟨n,p,b5⟩:=h.all j _ l;have f:=h.all k _ m;have u:∀b∈(dj v).toList,b∉Ss.flatten:=h.apart k j _ _ (p7 d) m l;have q:Ss.flatten.Nodup:=h.nd j _ l;have g:((dj v).toList++Ss.flatten).Nodup:=k7.2 ⟨cT,q,λa x b o e=>by grind⟩;refine ⟨_,h.fuse k j d m l (C:=nI T R v ((dj v).toList++Ss.flatten) xs none) ⟨css,Ss,⟨?_,n,p,rfl,g,(λ_ _ e=>by cases e),λi c S z _ r s t=>b5 i c S z r s t⟩⟩ g (λb o=>g8.1 o)⟩;rw [<- n];exact f
theorem St.mlookS{β:Type}{k:Int}(a:Rp β)(f:Option α->β)(b:St w0 S0 w L)(j:Nat)(o:L[j]? =some (mN N R S a6 none))(vz:Value)(p:∀w,a.own w [vz] [] (f none))(q:∀w c S x,R.own w c S x->a.own w c S (f (some x)))(d:∀w c S x,a.own w c S (f (some x))->R.own w c S x):
  ∃v e g,(jA a6 k=none->v=vz)/\MLk N k v vz (jA a6 k).isSome w/\St w0 S0 w (L.set j (mN N R e a6 (some (k,v)))++[itI a [v] g (f (jA a6 k))]):=by
 obtain ⟨v,e,g,m,Ss,h,l,i⟩:=CC (k:=k) b j o vz p q d;obtain ⟨A,clock,r,s⟩:=l.map;have hs:=uz l.TD k;refine ⟨v,e,g,λt=> ?_,⟨A,clock,m,r,s,i,?_⟩,h⟩
 ·rw [t] at hs;cases n:jA m k with
  |none=>rw [n] at i;exact i.symm
  |some u=>rw [n] at hs;cases hs
 ·exact hs
theorem H5(h:MLk sz hi v vz a7 w)(ho:E.op=.lookup T x y two)(n:look z x=some (.map (some sz)))(o:look z y=some (.int .i64 hi))
  (j:P.underlying T=some (.map tk te)) (f:P.underlying tk=some (.int kd)) (g:am P (zeroValue te)=some vz):∀a,Rep N z a->(execOp a.eval E).run P w=.ok (.value (if two then .tuple #[v,.bool a7] else v)) w:=by
 intro a l;have e1:=l.look n;have e2:=l.look o;obtain ⟨A,clock,p,m,q,c,d⟩:=h;have e:=rU (P:=P) (w:=w) (k:=hi) f q;cases b:jA p hi with
 |none=>
  rw [xm.2 b] at e;rw [b] at d c;subst c;subst d;cases two<;>simp [execOp,ho,Instr.lookup,run_underlying j,e1,e2,cV m,ba f,e,qV g]
 |some u=>
  obtain ⟨i,r,_⟩:=eM b;rw [r,b] at e;rw [b] at d c;subst c;subst d;cases two<;>simp [execOp,ho,Instr.lookup,run_underlying j,e1,e2,cV m,ba f,e]
theorem Kv(h:MLk sz hi v vz a7 w)(ho:E.op=.lookup T x y false)(c:look z x=some (.map (some sz)))(d:look z y=some (.int .i64 hi))
 (e:P.underlying T=some (.map tk te)) (f:P.underlying tk=some (.int kd)) (b:am P (zeroValue te)=some vz):∀a,Rep N z a->(execOp a.eval E).run P w=.ok (.value v) w:=H5 (two:=false) h ho c d e f b
theorem Kw(h:MLk sz hi v vz a7 w)(ho:E.op=.lookup T x y true)(c:look z x=some (.map (some sz)))(d:look z y=some (.int .i64 hi))
 (e:P.underlying T=some (.map tk te)) (f:P.underlying tk=some (.int kd)) (b:am P (zeroValue te)=some vz):∀a,Rep N z a->(execOp a.eval E).run P w=.ok (.value (.tuple #[v,.bool a7])) w:=H5 (two:=true) h ho c d e f b
open Go.RowKit
def apart(a b:Int):Option Unit:=if a.toNat=b.toNat then none else some ()
open Go.RowKit
open Go.RowKit
theorem Giv.dn{α:Type}{R:Rp α}{xs:List α}(b:nth Fs e=some (.rn v' R xs))(c:KR (Nat.blt 0 R.sz) true)(n:Giv src Fs L js a8):Giv (.dn e::src) Fs L js (.rn v' R xs::a8):=
 ⟨λw0 Z w a s=>⟨RdN.give (by have:=c.h;simpa [v8] using this) (zA a b) s js,n.g w0 Z w a s⟩⟩
theorem Giv.oN{α:Type}{R:Rp α}{xs F:List α}(c:nth L j=some (nI T R v' S F none))(d:KR (mem? j js) false)(b:KR F xs)(n:Giv src Fs L js a8):
  Giv (.oN j::src) Fs L js (.rn v' R xs::a8):=
 ⟨λw0 Z w a s=>by
  have e:L[j]? =some (nI T R v' S xs none):=by rw [<- zP,<- b.h];exact c
  exact ⟨s.seeN j e js d.h,n.g w0 Z w a s⟩⟩
theorem GO.co{f:Type}{S:Prop}{o:Option f}{sel:f->Option κ}{A:f->Option ρ}{D:f->κ->Option ρ}{p:f->α->Value×List Item}{b:f->κ->β->Value×List Item}{E:f->α->List Item}{L1:f->κ->β->List Item}[C:HasC o S]
  (I:S->Po P kf args a8 Lin o sel p b) (J:gh L js []=some Lq) (K:Sim Lq Lin) (M:Giv src Fs L js a8) (j:KR (pcC P l N fr i) (some (kf,args))) (O:gh L S0 []=some Bq) (v:∀a9 q,lX (p a9 q).2 Bq=some (E a9 q)) (x:∀a9 k q,lX (b a9 k q).2 Bq=some (L1 a9 k q))
  (y:KR (zQ (js++S0)) true) (R:∀a9 q,GO hs1 (A a9) r Fs (E a9 q) ((dst l i,(p a9 q).1)::fr) P B N w0 Z l (i+1) Q) (T:∀a9 k q,GO hs2 (D a9 k) r Fs (L1 a9 k q) ((dst l i,(b a9 k q).1)::fr) P B N w0 Z l (i+1) Q):
  GO (.co js src S0 hs2 hs1::hs) (o.bind λa9=>vT (sel a9) (A a9) (D a9)) r Fs L fr P B N w0 Z l i Q:=⟨λw a s q=>by
 obtain ⟨a9,U,F⟩:=zL q;have j:=j.h;unfold pcC at j;cases ho:okO l N fr i with
 |none=>rw [ho] at j;cases j
 |some op=>
  rw [ho] at j;obtain ⟨d,hl,z,m,V⟩:=jC ho;have e1:=xj J;have e2:=xj O;rw [K.e] at e1;rw [i9] at e1 e2;subst e1 e2;refine OW.fn hl z m V j ((I C.c).h.c w a9 (M.g w0 Z w a s) (s.part js (by have:=y.h;exact dC this)) U) ?_
  intro e G n;unfold RO at n;cases hs:sel a9 with
  |none=>
   rw [hs] at n;obtain ⟨t,rfl,s'⟩:=n;refine ⟨_,rfl,?_⟩;have u:=(R a9 t).o G a (by rw [bT (v a9 t)];exact s.join y.h s') (ry F hs)
   rw [vn hl m] at u;exact u
  |some k=>
   rw [hs] at n;obtain ⟨t,rfl,s'⟩:=n;refine ⟨_,rfl,?_⟩;have u:=(T a9 k t).o G a (by rw [bT (x a9 k t)];exact s.join y.h s') (rz F hs)
   rw [vn hl m] at u;exact u⟩
structure Rn {σ ι:Type} (S:Prop) (P:Program) (k:FuncId) (args:List Value) (Fin:World->List Nat->List Fa) (L:List Item) (f:Option σ) (post:σ->ι->Value×List Item):Prop where
 h:S->∀wb Sb,Ctr P k args (Fin wb Sb) L f post
structure CZ (src:List Src) (Fs:List Fa) (L:List Item) (js:List Nat) (Fin:World->List Nat->List Fa):Prop where
 g:∀w0 Z w,bS w0 Z Fs->St w0 Z w L->bS w (fp (sel L js)) (Fin w (fp (sel L js)))
theorem CZ.nil:CZ [] Fs L js (λ_ _=>[]):=⟨λ_ _ _ _ _=>trivial⟩
theorem CZ.b(n:CZ src Fs L js b0):CZ (.b e::src) Fs L js (λc S=>.bo c S::b0 c S):=
 ⟨λw0 Z w a s=>⟨Bor.refl _ _,n.g w0 Z w a s⟩⟩
theorem CZ.p(h:Giv [b3] Fs L js [.rd v' enc sz xs])(n:CZ src Fs L js b0):
  CZ (b3::src) Fs L js (λb S=>.rb b S v' enc sz xs::.rd v' enc sz xs::b0 b S):=
 ⟨λw0 Z w a s=>⟨(h.g w0 Z w a s).1,(h.g w0 Z w a s).1,n.g w0 Z w a s⟩⟩
theorem CZ.t(h:Giv [.f e] Fs L js [.rd v' enc sz xs])(n:CZ src Fs L js b0):
  CZ (.c e::src) Fs L js (λb S=>.rd v' enc sz xs::b0 b S):=
 ⟨λw0 Z w a s=>⟨(h.g w0 Z w a s).1,n.g w0 Z w a s⟩⟩
theorem GO.cn{j:Type}{o:Option j}{k:j->Option ρ}{post:j->ι->Value×List Item}{L1:j->ι->List Item}[C:HasC o b4]
  (v:Rn b4 P kf args b0 Lin o post) (x:gh L js []=some Lq) (y:Sim Lq Lin) (z:CZ src Fs L js b0) (b:KR (pcC P l N fr i) (some (kf,args))) (A:gh L S0 []=some Bq) (D:∀a9 q,lX (post a9 q).2 Bq=some (L1 a9 q))
  (p:KR (zQ (js++S0)) true) (n:∀a9 q,GO hs (k a9) r Fs (L1 a9 q) ((dst l i,(post a9 q).1)::fr) P B N w0 Z l (i+1) Q):GO (.cn js src S0::hs) (o.bind k) r Fs L fr P B N w0 Z l i Q:=⟨λw a s q=>by
 obtain ⟨a9,E,F⟩:=zL q;have b:=b.h;unfold pcC at b;cases ho:okO l N fr i with
 |none=>rw [ho] at b;cases b
 |some op=>
  rw [ho] at b;obtain ⟨d,hl,m,f,G⟩:=jC ho;have e1:=xj x;have e2:=xj A;rw [y.e] at e1;rw [i9] at e1 e2;subst e1 e2;refine OW.fn hl m f G b ((v.h C.c w (fp (sel L js))).c w a9 (z.g w0 Z w a s) (s.part js (by have:=p.h;exact dC this)) E) ?_
  rintro e I ⟨t,rfl,s'⟩;refine ⟨_,rfl,?_⟩;have u:=(n a9 t).o I a (by rw [bT (D a9 t)];exact s.join p.h s') F
  rw [vn hl f] at u;exact u⟩
def IQ(P:Program)(l:List Oper)(N:Nat)(Q:Exit->Act->World->Prop)(i:Nat)(fr:Fr)(B:Func):Ending->World->Prop:=λe w=>∃v,e=.returned v/\OW P l N Q (i+1) ((dst l i,v)::fr) w
def pcA(P:Program)(l:List Oper)(N:Nat)(fr:Fr)(i:Nat):List Value:=match pcC P l N fr i with
 |some p=>p.2
 |none=>[]
theorem GO.il{m:P.funcs[kf]? =some b5}(t:b5.body=some a9)(u:b5.ntmps=M)(c:KR ((pcC P l N fr i).map (·.1)) (some kf))(e:KR (Nat.ble (pcA P l N fr i).length M) true)
  (n:GC hs f r Fs L (rT 0 (pcA P l N fr i)) P b5 M w0 Z a9 (bodyPost P b5 (IQ P l N Q i fr B))):GO (.il m::hs) f r Fs L fr P B N w0 Z l i Q:=⟨λw a s q=>by
 have c:=c.h;have e:=e.h;have g:=n.o w a s q;unfold pcA at e g;cases b:pcC P l N fr i with
 |none=>rw [b] at c;cases c
 |some p=>
  rw [b] at c e g;simp only [t5,i5] at c;subst c;have v:=b;unfold pcC at b;cases ho:okO l N fr i with
  |none=>rw [ho] at b;cases b
  |some op=>
   rw [ho] at b;obtain ⟨d,hl,k,j,x⟩:=jC ho;unfold IQ at g;rw [vn hl j] at g;exact OW.inl hl k j x b m t u e g⟩
def Ro(fn:Func)(fr:Fr):Value:=(O0 fn fr).getD undef
theorem GQ.ri(d:KR (O0 b5 fr').isSome true)(n:GO hs f r Fs L ((dst l i,Ro b5 fr')::fr) P B N w0 Z l (i+1) Q):
  GQ (.ri::hs) f r Fs L fr' P B0 M w0 Z .ret (bodyPost P b5 (IQ P l N Q i fr B)):=⟨λw a s q=>by
 have c:=n.o w a s q;have d:=d.h;unfold Ro at c;have hl:∀{l},b5.results.toList=l->b5.results=l.toArray:=λh=>by rw [<- h]
 cases b:O0 b5 fr' with
 |none=>rw [b] at d;cases d
 |some u=>
  rw [b] at c;simp only [Option.getD_some] at c;unfold O0 at b;split at b
  ·rename_i k e
   exact s9 (hl e) b ⟨_,rfl,c⟩
  ·rename_i k m e
   split at b
   ·rename_i x y g j
    cases b
    exact QW.ret2 (hl e) g j ⟨_,rfl,c⟩
   ·cases b
  ·rename_i k m t e
   split at b
   ·rename_i x y z g j p
    cases b
    exact QW.ret3 (hl e) g j p ⟨_,rfl,c⟩
   ·cases b
  ·cases b⟩
theorem Cel.ce(h:nth Fs e=some (.ce N o vs))(b:nth vs ff=some u):Cel Fs L w0 Z (.ce e ff) ⟨N,o+ff,none⟩ u:=
 ⟨λw a s=>(zA a h:Fa.ok w0 Z (.ce N o vs)) w L s ff u (by grind [zP])⟩
theorem rK.ce(h:nth Fs e=some (.ce N o vs))(b:HM vs ff n=some us):rK Fs L w0 Z (.cE e ff n) N (o+ff) us:=⟨λw a s j u c=>by
 rw [yt];exact (zA a h:Fa.ok w0 Z (.ce N o vs)) w L s (ff+j) u ((gv b).2 j u c)⟩
theorem Cel.nh{α:Type}{R:Rp α}{xs F:List α}{x:α}(b:nth L j=some (nI T R v' S F (some (n,vs))))(d:nth Fs q=some (.el v' N o hi xs x))(e:KR n hi.toNat)(g:nth vs ff=some u):
  Cel Fs L w0 Z (.nh j q ff) ⟨N,o+hi.toNat*R.sz+ff,none⟩ u:=⟨λw a s=>by
 obtain ⟨_,c,f⟩:=zA a d;have b:=b;rw [e.h] at b;exact s.nhole j (by rw [<- zP];exact b) f ff u (by grind [zP])⟩
theorem rK.nH{α:Type}{R:Rp α}{xs F:List α}{x:α}(b:nth L j=some (nI T R v' S F (some (n,vs))))(d:nth Fs q=some (.el v' N o hi xs x))(e:KR n hi.toNat)(f:HM vs ff m=some us):
  rK Fs L w0 Z (.nH j q ff m) N (o+hi.toNat*R.sz+ff) us:=⟨λw a s k u g=>by
 obtain ⟨_,c,i⟩:=zA a d;have b:=b;rw [e.h] at b;rw [yt];exact s.nhole j (by rw [<- zP];exact b) i (ff+k) u ((gv f).2 k u g)⟩
structure Pt {β ι:Type} (ks:List Nat) (A:Rp β) (vs:ι->β->List Value) (fcs:ι->β->List Fa):Prop where
 o:∀w Z cs y,A.rd w Z y cs->∃i,cs=vs i y/\bS w Z (fcs i y)
theorem Pt.row{enc:β->List Value}{b:∀x,(enc x).length=sz}{d:0<sz}:
  Pt [1] (nt T enc sz b d) (λ(i:Option Addr×Nat)y=>[.slice i.1 y.length i.2]) (λi y=>[.rd (.slice i.1 y.length i.2) enc sz y]):=⟨by
 rintro w Z e y ⟨v,rfl,h⟩;obtain ⟨_,a,c,rfl⟩:=Rd.len h;exact ⟨(a,c),rfl,h,trivial⟩⟩
theorem Nc(a:nth L j=some (nI T R v' S F ho))(b:KR F xs)(s:St w0 Z w L)(d:idx xs hi=some W):∃g o,(Fa.el v' g o hi xs W).ok w0 Z:=by
 have a:=a;rw [b.h] at a;obtain ⟨g,o,c,e⟩:=s.nrowv j (by rw [<- zP];exact a) d
 exact ⟨g,o,d,c,e⟩
theorem GO.bn{α:Type}{R:Rp α}{xs F:List α}{k:α->Option ρ}{Fs1:α->Nat->Nat->List Fa}(b:nth L j=some (nI T R v' S F ho))(h:KR F xs)
  (c:∀a9 g o,vd Fs (.el v' g o hi xs a9)=some (Fs1 a9 g o)) (n:∀a9 g o,GO hs (k a9) r (Fs1 a9 g o) L fr P B N w0 Z l i Q):GO (.bn j::hs) ((idx xs hi).bind k) r Fs L fr P B N w0 Z l i Q:=⟨λw a s q=>by
 obtain ⟨a9,d,e⟩:=zL q;obtain ⟨g,o,f⟩:=Nc b h s d;exact (n a9 g o).o w (jv a f (c a9 g o)) s e⟩
theorem GS.bn{α:Type}{R:Rp α}{xs F:List α}{k:α->Option ρ}{Fs1:α->Nat->Nat->List Fa}(b:nth L j=some (nI T R v' S F ho))(h:KR F xs)
  (c:∀a9 g o,vd Fs (.el v' g o hi xs a9)=some (Fs1 a9 g o)) (n:∀a9 g o,GS hs (k a9) r (Fs1 a9 g o) L fr P B N w0 Z l i sz two Q):GS (.bn j::hs) ((idx xs hi).bind k) r Fs L fr P B N w0 Z l i sz two Q:=⟨λw a s q=>by
 obtain ⟨a9,d,e⟩:=zL q;obtain ⟨g,o,f⟩:=Nc b h s d;exact (n a9 g o).o w (jv a f (c a9 g o)) s e⟩
theorem GP.bn{α:Type}{R:Rp α}{xs F:List α}{k:α->Option ρ}{Fs1:α->Nat->Nat->List Fa}(b:nth L j=some (nI T R v' S F ho))(h:KR F xs)
  (c:∀a9 g o,vd Fs (.el v' g o hi xs a9)=some (Fs1 a9 g o)) (n:∀a9 g o,GP hs (k a9) r (Fs1 a9 g o) L fr P B N w0 Z l S0 js pd Q):GP (.bn j::hs) ((idx xs hi).bind k) r Fs L fr P B N w0 Z l S0 js pd Q:=⟨λw a s q=>by
 obtain ⟨a9,d,e⟩:=zL q;obtain ⟨g,o,f⟩:=Nc b h s d;exact (n a9 g o).o w (jv a f (c a9 g o)) s e⟩
theorem St.spread{B:List Item}(h:St w0 Z w (L++[b6]))(g:ao w b6.S B):St w0 Z w (L++B):=by
 have o:(L++[b6])[L.length]? =some b6:=by simp
 refine h.repart (λi k hi=> ?_) (λi j a b n hi r=> ?_)
 ·rcases bz hi with ⟨f,d⟩|⟨f,d⟩
  ·have e:(L++[b6])[i]? =some k:=by rw [x8 f];exact d
   exact ⟨h.all i k e,h.nd i k e,λx c=>vy.2 ⟨i,k,e,c⟩⟩
  ·obtain ⟨p,q,t⟩:=g.1 _ _ d;exact ⟨p,q,λx c=>vy.2 ⟨L.length,b6,o,t x c⟩⟩
 ·have key:∀(i:Nat)(a:Item),i<L.length->L[i]? =some a->∀x∈a.S,x∉b6.S:=λi a f d x c=>by
   have e:(L++[b6])[i]? =some a:=by grind
   exact h.apart i L.length a b6 (by omega) e o x c
  intro x c l;rcases bz hi with ⟨f,d⟩|⟨f,d⟩<;>rcases bz r with ⟨e,m⟩|⟨e,m⟩
  ·exact h.apart i j a b n (by grind) (by grind) x c l
  ·exact key i a f d x c ((g.1 _ _ m).2.2 x l)
  ·exact key j b e m x l ((g.1 _ _ d).2.2 x c)
  ·exact g.2 _ _ a b (by omega) d m x c l
theorem jl.st{γ:Type}{ff:γ->List Value->List Value}{hl:∀x b7,(ff x b7).length=sz}{g:γ->β}(h:jl S0 q Fs V b7 its fcs):
  jl (7::S0) q Fs (qO ff sz hl g V) (λ(i:ι)x=>ff x (b7 i (g x))) (λi x=>its i (g x)) (λi x=>fcs i (g x)):=⟨by
 rintro w0 Z w c S x a ⟨us,rfl,b⟩;obtain ⟨i,rfl,p,f⟩:=h.o w0 Z w _ _ _ a b
 grind⟩
theorem qJ.st{β γ:Type}{ff:γ->List Value->List Value}{hl:∀x vs,(ff x vs).length=sz}{g:γ->β}{A:Rp β}{x:γ}{y:β}(h:qJ ks Fs L A js us y)(b:KR vs (ff x us))(c:KR (g x) y):qJ (.s::ks) Fs L (qO ff sz hl g A) js vs x:=⟨λw0 Z w d a s=>by
 obtain ⟨S,e,n,f⟩:=h.o w0 Z w d a s;exact ⟨S,⟨us,b.h,by rw [c.h];exact e⟩,n,f⟩⟩
theorem Nd(h:N≠sz):Nat.beq N sz=false:=by
 cases a:Nat.beq N sz with
 |false=>rfl
 |true=>exact absurd (t6 a) h
theorem pR{α:Type}{L:List α}{x y:α}{B:List α}(h:L[j]? =some y):(L++B).set j x=L.set j x++B:=by
 grind
theorem Adm.no{ι:Type}{vs:ι->α->List Value}{its:ι->α->List Item}{fcs:ι->α->List Fa}{Lq L1:ι×List Nat->List Item}{Fs1:ι×List Nat->List Fa}
  (m:nth Fs q=some (.el v' N o hi xs W)) (B:nth L j=some (nI T R v' S F none)) (b:KR F xs) (n:jl S0 e Fs R vs its fcs) (r:∀p,dp L j (nI T R v' p.2 F (some (hi.toNat,vs p.1 W)))=some (Lq p)) (t:∀p,lX (Lq p) (its p.1 W)=some (L1 p)) (u:∀p,lX Fs (fcs p.1 W)=some (Fs1 p)):
  Adm (.no j q e S0) Fs L L1 Fs1:=⟨λw0 Z w a s=>by
 obtain ⟨v,c,x⟩:=zA a m;have b:=b.h;subst b;have f:L[j]? =some (nI T R v' S F none):=by grind [zP]
 obtain ⟨g,d,i,hl,y,l⟩:=s.nout j f v x;have ho:R.own w g i W:=l.all L.length (itI R g i W) (by simp);obtain ⟨k,rfl,z,A⟩:=n.o w0 Z w _ _ _ a ho;refine ⟨(k,d),?_,nD (u (k,d)) a A⟩;rw [bT (t (k,d)),qI (r (k,d))];exact l.spread z⟩
theorem gD(b:qJ ks Fs L R js vs W)(c:gh L S0 []=some Lr)(h:zQ (js++S0)=true)(a:bS w0 Z Fs)(s:St w0 Z w L):∃S,St w0 Z w (Lr++[itI R vs S W]):=by
 obtain ⟨S,d,n,f⟩:=b.o w0 Z w (dC h) a s;have:=xj c;rw [i9] at this;subst this;exact ⟨S,s.gather js S0 h (C:=itI R vs S W) d n f⟩
theorem kj(h:St w0 Z w (L++[b6])):St w0 Z w L:=by
 have:=h.spread (B:=[]) ao.nil
 simpa using this
theorem Adm.nb{α:Type}{R:Rp α}{xs F:List α}{x y:α}
  (j:nth Fs q=some (.el v'' N o hi xs x)) (l:gh L S0 []=some Lr) (A:nth Lr k=some (nI T R v' S F (some (n,args)))) (m:qJ ks Fs L R js vs y) (e:KR F xs) (g:KR n hi.toNat) (p:KR args vs) (r:KR (zQ (js++S0)) true)
  (u:∀c,dp Lr k (nI T R v' c (F.set n y) none)=some (b8 c)):Adm (.nb k q S0 ks) Fs L b8 (λ_=>Fs):=⟨λw0 Z w a s=>by
 obtain ⟨v,_⟩:=zA a j;obtain ⟨i,z⟩:=gD m l r.h a s;have b:Lr[k]? =some (nI T R v' S F (some (n,args))):=by grind [zP]
 have d:k<Lr.length:=(zes.1 b).1;obtain ⟨c,f⟩:=z.nback k Lr.length (S2:=i) (Nd (Nat.ne_of_lt d)) (t:=hi) (cs:=vs) (x:=x) (y:=y) (by rw [x8 d,b,g.h,p.h]) (by simp) (by rw [e.h];exact v)
 refine ⟨c,?_,a⟩;rw [qI (u c),g.h];rw [pR b,R8 _ _ (by simp)] at f;simp at f;exact kj f⟩
theorem Adm.nb0{α:Type}{R:Rp α}{xs F:List α}{x y:α}
  (i:nth Fs q=some (.el v'' N o hi xs x)) (j:gh L S0 []=some Lr) (B:nth Lr k=some (nI T R v' S F (some (n,args)))) (l:qJ ks Fs L R js vs y) (e:KR F xs) (m:KR n hi.toNat) (p:KR args vs) (r:KR y x) (u:KR (zQ (js++S0)) true)
  (v:∀c,dp Lr k (nI T R v' c F none)=some (b8 c)):Adm (.nb0 k q S0 ks) Fs L b8 (λ_=>Fs):=⟨λw0 Z w a s=>by
 obtain ⟨z,_⟩:=zA a i;obtain ⟨g,A⟩:=gD l j u.h a s;have b:Lr[k]? =some (nI T R v' S F (some (n,args))):=by grind [zP]
 have d:k<Lr.length:=(zes.1 b).1;obtain ⟨c,f⟩:=A.nback0 k Lr.length (S2:=g) (Nd (Nat.ne_of_lt d)) (t:=hi) (cs:=vs) (x:=y) (by rw [x8 d,b,m.h,p.h]) (by simp) (by rw [e.h,r.h];exact z)
 refine ⟨c,?_,a⟩;rw [qI (v c)];rw [pR b,R8 _ _ (by simp)] at f;simp at f;exact kj f⟩
theorem GO.snG
  (t:∀i a9,ho=some (i,a9)->i=hi.toNat) (C:nth Fs q=some (.el v' j o hi xs W)) (D:gh L S0 []=some Lr) (hk:nth Lr k=some (nI T R v' S F ho)) (E:qJ ks Fs L R js vs c3) (b:KR F xs) (G:KR vs.length m) (I:KR (eK vs) true)
  (J:KR (gj (stV l fr i)) (some vs)) (K:KR (stC P l fr i m) (some ⟨j,o+hi.toNat*R.sz,none⟩)) (M:KR (zQ (js++S0)) true) (hL:∀d,dp Lr k (nI T R v' d (F.set hi.toNat c3) none)=some (b8 d))
  (n:∀d,GO hs f r Fs (b8 d) fr P B N w0 Z l (i+1) Q):GO (hh::hs) f r Fs L fr P B N w0 Z l i Q:=⟨λw a s e=>by
 obtain ⟨O,cp,U⟩:=zA a C;have b:=b.h;subst b;obtain ⟨z,V⟩:=gD E D M.h a s;have c:Lr[k]? =some (nI T R v' S F ho):=by grind [zP]
 have g:k<Lr.length:=(zes.1 c).1;obtain ⟨t',x',y',ty,pos,af,g',u,hl,X,v,x,p,y⟩:=kX K.h J.h G.h;refine OW.stN (S2:=z) (u:=c3) (cs:=vs) V k Lr.length (Nd (Nat.ne_of_lt g)) (by rw [x8 g,c]) t (by simp) U hl X O v rfl x p y (by rw [p];exact I.h) λd Y A=> ?_
 rw [pR c,R8 _ _ (by simp)] at A;simp at A;exact (n d).o Y a (by grind [qI,kj]) e⟩
theorem GO.sn{α:Type}{R:Rp α}{xs F:List α}{x y:α}
 (b:nth Fs q=some (.el v' j o hi xs x)) (c:gh L S0 []=some Lr) (d:nth Lr k=some (nI T R v' S F none)) (g:qJ ks Fs L R js vs y) (h:KR F xs) (p:vs.length=m) (s:KR (eK vs) true)
 (t:KR (gj (stV l fr i)) (some vs)) (u:KR (stC P l fr i m) (some ⟨j,o+hi.toNat*R.sz,none⟩)) (v:KR (zQ (js++S0)) true) (w:∀a,dp Lr k (nI T R v' a (F.set hi.toNat y) none)=some (b8 a))
 (n:∀a,GO hs f r Fs (b8 a) fr P B N w0 Z l (i+1) Q):GO (.sn k q S0 ks::hs) f r Fs L fr P B N w0 Z l i Q:=GO.snG (λ_ _ e=>by cases e) b c d g h ⟨p⟩ s t u v w n
open Go.RowKit
def oH(j:Nat):Nat->Nat->List Nat
 |0,_=>[]
 |m+1,q=>match Nat.beq q j with
  |true=>oH j m (q+1)
  |false=>q::oH j m (q+1)
theorem GO.an{one:∀w U S c4,R.own w U S c4->eK U=true}
  (hq:nth Fs q=some (.oe (room (xs.length+ys.length) ff) c5)) (V:nth L k=some (nI T R v1 S F none)) (hj:nth L j=some (nI T R v2 S0 g none)) (u:KR F xs) (v:KR g ys) (A:KR (Nat.beq k j) false)
  (p:KR (apC P l N fr i) (some (v1,v2,T))) (G:KR (elB P T R.sz) (some ff)) (hL:∀a a9 b,dp L k (nI T R (.slice a (xs++ys).length a9) b (xs++ys) none)=some (c6 a a9 b)) (I:∀a a9 b,gh (c6 a a9 b) (oH j L.length 0) []=some (c7 a a9 b)) (hd:KR (zQ (oH j L.length 0)) true)
  (n:∀a a9 b,GO hs f r Fs (c7 a a9 b) ((dst l i,.slice a (xs++ys).length a9)::fr) P B N w0 Z l (i+1) Q):GO (.an q k j one::hs) f r Fs L fr P B N w0 Z l i Q:=⟨λw a s J=>by
 have hu:room (xs.length+ys.length) ff=some c5:=zA a hq;have u:=u.h;have v:=v.h;subst u v;have p:=p.h;unfold apC at p;split at p
 ·rename_i d' x' y' t t' _ _ _ _ K
  split at p
  ·rename_i u' v' e' M hx hy ht
   cases p
   have M:=t6 M;subst M;obtain ⟨d,hl,hg,C,hN⟩:=jC K;simp only at C;subst C;refine OW.appN s k j A.h (by rw [<- zP];exact V) (by rw [<- zP];exact hj) hl rfl hg hN hx hy ht (sF G.h) (rx hu) one λv' b w' s'=> ?_
   have hlt:k<L.length:=(zes.1 (by rw [<- zP];exact V)).1
   have W:=p7 A.h
   have D:((L.set k (nI T R v' b (F++g) none)).set j nilI)[k]? =some (nI T R v' b (F++g) none):=by
    grind
   obtain ⟨_,x,y,rfl⟩:=s'.nlen k D;have X:=s'.keep (oH j L.length 0) hd.h
   have e3:sel ((L.set k (nI T R (.slice x (F++g).length y) b (F++g) none)).set j nilI) (oH j L.length 0)=c7 x y b:=by
    have Y:=xj (I x y b);rw [i9,qI (hL x y b)] at Y;rw [Y]
    have:∀(c:List Nat),j∉c->sel ((L.set k (nI T R (.slice x (F++g).length y) b (F++g) none)).set j nilI) c=sel (L.set k (nI T R (.slice x (F++g).length y) b (F++g) none)) c:=by
     intro c
     induction c with
     |nil=>intro _;rfl
     |cons z c O=>
      grind [sel]
    refine this _ ?_
    have:∀m q,j∉oH j m q:=by
     intro m
     induction m with
     |zero=>intro q;simp [oH]
     |succ m O=>
      intro q;unfold oH;split
      ·exact O _
      ·rename_i E
       simp only [j5,not_or];exact ⟨λe=>by rw [e] at E;simp at E,O _⟩
    exact this _ _
   rw [e3] at X;have h1:=(n x y b).o w' a X J;rw [vn hl rfl] at h1;exact h1
  ·cases p
 ·cases p⟩
structure EZ {α:Type} (kss:List (List Pa)) (Fs:List Fa) (L:List Item) (R:Rp α) (js:List Nat) (css:List (List Value)) (ys:List α):Prop where
 o:∀w0 Z w,zQ js=true->bS w0 Z Fs->St w0 Z w L->∃Ss:List (List Nat),(rY R css Ss ys).Φ w/\Ss.flatten.Nodup/\∀b∈Ss.flatten,b∈fp (sel L js)
theorem EZ.nil:EZ [] Fs L R [] [] ([]:List α):=⟨λw0 Z w b a s=>⟨[],⟨rfl,rfl,λi c S x h=>by simp at h⟩,m6,by simp⟩⟩
theorem EZ.cons(d:qJ ks Fs L R j1 vs W)(e:EZ kss Fs L R j2 css ys):EZ (ks::kss) Fs L R (j1++j2) (vs::css) (W::ys):=⟨λw0 Z w h a s=>by
 obtain ⟨f,g,n,i⟩:=d.o w0 Z w (dC h) a s;obtain ⟨Ss,⟨e1,e2,e3⟩,n2,j⟩:=e.o w0 Z w (lZ h) a s;refine ⟨f::Ss,⟨by simp [e1],by simp [e2],λk c S x l m p=> ?_⟩,?_,λb q=> ?_⟩
 ·grind
 ·grind [sE]
 grind [wW,HP]⟩
theorem GO.ly{α:Type}{R:Rp α}{ys:List α}(M:EZ kss Fs L R js css ys)(O:gh L S []=some Lr)(u:KR (rwC l N fr i) (some ys.length))(U:KR css.length ys.length)(V:KR (Nat.ble ys.length 9223372036854775807) true)
  (hs:KR (sM fr ((rwP l i).map (·.2))) true) (z:∀w,KR ((Instr.buildSlice (rwT l i) ys.length ((rwP l i).toArray.map λ(i,a9)=>(i,rho fr a9))).run P w) (.ok (.slice (some ⟨w.heap.size,0,none⟩) ys.length ys.length) (w.alloc (.cells (jP (fit R.sz) css).toArray T))))
  (G:KR (zQ (js++S)) true) (hL:∀g b,vd Lr (nI T R (.slice (some ⟨g,0,none⟩) ys.length ys.length) b ys none)=some (c8 g b)) (n:∀g b,GO hs1 f r Fs (c8 g b) ((dst l i,.slice (some ⟨g,0,none⟩) ys.length ys.length)::fr) P B N w0 Z l (i+1) Q):GO (.ly T R S kss::hs1) f r Fs L fr P B N w0 Z l i Q:=⟨λw a s e=>by
 obtain ⟨Ss,W,X,Y⟩:=M.o w0 Z w (dC G.h) a s;have e0:=xj O;rw [i9] at e0;subst e0;have s2:=s.gather js S G.h (C:=rY R css Ss ys) W X Y;have u:=u.h;unfold rwC at u;split at u
 ·rename_i d' t' n' D _ _ _ _ ho
  obtain ⟨d,hl,hg,x,hN⟩:=jC ho;simp only at x;subst x;have E:n'=ys.length:=by simpa using u
  subst E;have e1:rwP l i=D:=by simp [rwP,hl]
  have e2:rwT l i=t':=by simp [rwT,hl]
  rw [e1] at hs z;rw [e2] at z;refine OW.row (α:=List Value) (enc:=fit R.sz) (sz:=R.sz) (ps:=D) s2 hl hg hN css U.h (λa9=>dl _ _) V.h hs.h (λw=>(z w).h) λg I s'=> ?_
  have J:(sel L S++[rY R css Ss ys]).length=(sel L S).length+1:=by simp
  obtain ⟨b,m⟩:=s'.nOf (k:=(sel L S).length+1) (j:=(sel L S).length) (sz:=R.sz) (T:=T) (R:=R) (v:=.slice (some ⟨g,0,none⟩) ys.length ys.length) (css:=css) (Ss:=Ss) (xs:=ys) (Nd (by omega)) rfl (by grind) (by grind)
  have e4:((sel L S++[rY R css Ss ys]++[qk (.slice (some ⟨g,0,none⟩) ys.length ys.length) T (fit R.sz) R.sz css]).set ((sel L S).length+1) (nI T R (.slice (some ⟨g,0,none⟩) ys.length ys.length) b ys none)).set (sel L S).length nilI=sel L S++[nilI,nI T R (.slice (some ⟨g,0,none⟩) ys.length ys.length) b ys none]:=by
   grind
  rw [e4] at m
  have s4:St w0 Z I (sel L S++[nI T R (.slice (some ⟨g,0,none⟩) ys.length ys.length) b ys none]):=by
   refine m.repart (λk c hi=> ?_) (λp q A B hpq hp hq=> ?_)
   ·rcases bz hi with ⟨y,K⟩|⟨y,K⟩
    ·have t:(sel L S++[nilI,nI T R (.slice (some ⟨g,0,none⟩) ys.length ys.length) b ys none])[k]? =some c:=by rw [x8 y];exact K
     exact ⟨m.all k c t,m.nd k c t,λa9 F=>vy.2 ⟨k,c,t,F⟩⟩
    ·have t:(sel L S++[nilI,nI T R (.slice (some ⟨g,0,none⟩) ys.length ys.length) b ys none])[(sel L S).length+1]? =some c:=by
      grind
     exact ⟨m.all _ c t,m.nd _ c t,λa9 F=>vy.2 ⟨_,c,t,F⟩⟩
   ·have key:∀(p:Nat)(A:Item),(sel L S++[nI T R (.slice (some ⟨g,0,none⟩) ys.length ys.length) b ys none])[p]? =some A->(sel L S++[nilI,nI T R (.slice (some ⟨g,0,none⟩) ys.length ys.length) b ys none])[if p<(sel L S).length then p else p+1]? =some A:=by
     grind
    refine m.apart _ _ A B ?_ (key p A hp) (key q B hq)
    grind
  have y:=(n g b).o I a (by grind [vK]) e;rw [vn hl rfl] at y;exact y
 ·cases u⟩
theorem GO.mN{α:Type}{R:Rp α}{x:α}{z:∀w,R.own w vs [] x}(I:nth Fs q=some (.oe (mkLen hi j) m))(b:KR (mkC P l N fr i) (some (hi,hi)))(c:KR (QD P l i) true)(e:KR (elB P (mkT P l i) R.sz) (some j))(A:KR ((am P (zeroValue (mkT P l i))).map (·.cells.toList)) (some (fit R.sz vs)))
  (C:∀g S,vd L (nI (mkT P l i) R (.slice (some ⟨g,0,none⟩) m m) S (List.replicate m x) none)=some (c8 g S))
  (n:∀g S,GO hs f r Fs (c8 g S) ((dst l i,.slice (some ⟨g,0,none⟩) m m)::fr) P B N w0 Z l (i+1) Q):GO (.mN q R vs x z::hs) f r Fs L fr P B N w0 Z l i Q:=⟨λw a s J=>by
 have K:mkLen hi j=some m:=zA a I;have b:=b.h;unfold mkC at b;split at b
 ·rename_i V t W X _ _ _ _ k
  split at b
  ·rename_i Y a1 k2 b1 p u
   simp only [i5,o4] at b;obtain ⟨rfl,rfl⟩:=b;obtain ⟨d,hl,M,D,O⟩:=jC k;simp only at D;subst D;have c:=c.h;unfold QD at c;rw [hl] at c;simp only at c;split at c
   ·rename_i E F
    have e2:mkT P l i=E:=by simp [mkT,hl,F]
    rw [e2] at e A C;refine OW.make (α:=List Value) (enc:=fit R.sz) (sz:=R.sz) s hl M O p u F (sF e.h) vs A.h (λx=>dl _ _) K λg U s'=> ?_
    have y:=s'.nNew (n:=m) (cs:=vs) (v:=.slice (some ⟨g,0,none⟩) m m) (T:=E) L.length R rfl (by simp) x z;rw [R8 _ _ (by simp)] at y;simp at y;have G:=(n g _).o U a (by rw [vK (C g _)];exact y) J
    rw [vn hl rfl] at G;exact G
   ·cases c
  ·cases b
 ·cases b⟩
def srC(P:Program)(l:List Oper)(N:Nat)(fr:Fr)(i:Nat):Option ByteArray:=match okO l N fr i with
 |some ⟨_,.range t x,_,_,_,_⟩=>match P.underlying t,look fr x with
  |some .string,some (.string s)=>some s
  |_,_=>none
 |_=>none
theorem GO.sg(e:KR (srC P l N fr i).isSome true)(k:∀c,vd L (Hh c ((srC P l N fr i).getD ByteArray.empty) 0)=some (c9 c))(n:∀c,GO hs f r Fs (c9 c) ((dst l i,.pointer (some ⟨c,0,none⟩))::fr) P B N w0 Z l (i+1) Q):GO (.sg::hs) f r Fs L fr P B N w0 Z l i Q:=⟨λw a s q=>by
 have e:=e.h;cases b:srC P l N fr i with
 |none=>rw [b] at e;cases e
 |some s'=>
  rw [b] at k;unfold srC at b;split at b
  ·rename_i ho
   split at b
   ·rename_i m p
    cases b
    obtain ⟨d,hl,t,g,u⟩:=jC ho;simp only at g;subst g;refine OW.srange s hl t u p m λc v x=> ?_
    have j:=(n c).o v a (by grind [vK]) q;rw [vn hl rfl] at j;exact j
   ·cases b
  ·cases b⟩
def snC(l:List Oper)(N:Nat)(fr:Fr)(i:Nat):Option Nat:=match okO l N fr i with
 |some ⟨_,.next x true,_,_,_,_⟩=>match look fr x with
  |some (.pointer (some ⟨a,0,none⟩))=>some a
  |_=>none
 |_=>none
theorem GO.sx(m:nth L j=some (Hh sz d0 k))(b:KR (snC l N fr i) (some sz))(x:dp L j (Hh sz d0 (nU d0 k))=some L1)
  (n:GO hs1 f r Fs L1 ((dst l i,.tuple [.bool true,.int .i64 (k:Int),.int .i32 (Bu d0 k)].toArray)::fr) P B N w0 Z l (i+1) Q) (n2:GO hs2 A' r Fs L ((dst l i,.tuple [.bool false].toArray)::fr) P B N w0 Z l (i+1) Q):
  GO (.sx j hs1 hs2::hs) (@ite _ (decide (k<d0.size)=true) (instDecidableEqBool (decide (k<d0.size)) true) f A') r Fs L fr P B N w0 Z l i Q:=⟨λw a s q=>by
 have b:=b.h;unfold snC at b;split at b
 ·rename_i ho
  split at b
  ·rename_i p
   cases b
   obtain ⟨d,hl,t,g,u⟩:=jC ho;simp only at g;subst g;refine OW.snext s j (by rw [<- zP];exact m) hl t u p (λe v y=> ?_) (λe=> ?_)
   ·have c:=n.o v a (by grind [qI]) (se q e);rw [vn hl rfl] at c;exact c
   ·have c:=n2.o w a s (sj q e);rw [vn hl rfl] at c;exact c
  ·cases b
 ·cases b⟩
theorem Sim.sit(a:KR d0 s')(b:KR sz j)(n:Sim L L1):Sim (Hh N d0 sz::L) (Hh N s' j::L1):=⟨by rw [a.h,b.h,n.e]⟩
def clC(P:Program)(l:List Oper)(fr:Fr)(i:Nat):Option (Nat×Nat×Nat×List Value):=match vm l i with
 |some ⟨none,.call ⟨.builtin .clear,⟨[x]⟩,⟨t::a⟩⟩,ty,pos,c,g⟩=>match gd l fr ⟨none,.call ⟨.builtin .clear,⟨[x]⟩,⟨t::a⟩⟩,ty,pos,c,g⟩,look fr x,P.underlying t with
  |some true,some (.slice (some ⟨b,k,none⟩) (n+1) _),some (.slice e)=>match am P (zeroValue e) with
   |some z=>some (b,k,n+1,(Builtin.zeroCells z.cells (n+1)).toList)
   |none=>none
  |_,_,_=>none
 |_=>none
theorem Kp(h:clC P l fr i=some (N,k,m,vs)):∃c4 t a ty pos b g a9 d2 z n,vm l i=some ⟨none,.call ⟨.builtin .clear,⟨[c4]⟩,⟨t::a⟩⟩,ty,pos,b,g⟩/\gd l fr ⟨none,.call ⟨.builtin .clear,⟨[c4]⟩,⟨t::a⟩⟩,ty,pos,b,g⟩=some true/\look fr c4=some (.slice (some ⟨N,k,none⟩) (n+1) a9)/\P.underlying t=some (.slice d2)/\am P (zeroValue d2)=some z/\m=n+1/\(Builtin.zeroCells z.cells (n+1)).toList=vs:=by
 unfold clC at h
 grind
def zs(P:Program)(l:List Oper)(fr:Fr)(i:Nat):Nat->Option (List Value)
 |0=>some []
 |n+1=>match zs P l fr i n with
  |some q=>some ((match clC P l fr i with
   |some (_,_,_,v::_)=>v
   |_=>undef)::q)
  |none=>none
theorem GO.cp(p:nth L j=some (dm sz T args args' us))(K:zs P l fr i m=some vs)(b:eZ args' vs k=some cs')(u:KR (clC P l fr i) (some (sz,args.length+k,m,vs)))(v:KR (eK vs) true)(y:KR (F8 vs) true)
  (M:dp L j (dm sz T args cs' us)=some L1) (n:GO hs f r Fs L1 fr P B N w0 Z l (i+1) Q):GO (.cp j k m::hs) f r Fs L fr P B N w0 Z l i Q:=⟨λw a s q=>by
 obtain ⟨x,t,A,ty,pos,O,g,c,e,z,R,hl,C,D,E,F,rfl,d⟩:=Kp u.h;obtain ⟨e3,G⟩:=bH b (by intro I;have:=y.h;rw [I] at this;cases this);refine OW.clearP (ats:=t::A) s j (by rw [<- zP];exact p) hl C k D rfl E F vs d v.h (v9 G) cs' e3 λJ s'=> ?_
 exact n.o J a (by grind [qI]) q⟩
theorem GO.bxe(k:KR (opT l i) T)(m:KR (gj (bxC l N fr i)) (some vs))(p:∀b,vd L (jS b T vs)=some (c9 b))
  (n:∀b,GO hs f r Fs (c9 b) ((dst l i,.pointer (some ⟨b,0,none⟩))::fr) P B N w0 Z l (i+1) Q):GO (.bxe T vs::hs) f r Fs L fr P B N w0 Z l i Q:=⟨λw a s q=>by
 obtain ⟨u,c,e⟩:=lY m.h;unfold bxC at c;split at c
 ·rename_i z t A _ _ _ _ ho
  obtain ⟨d,hl,v,g,x⟩:=jC ho;simp only at g;subst g;refine OW.box s hl v x c vs e λb y s'=> ?_
  have j:=(n b).o y a (by
   rw [vK (p b)];have:opT l i=t:=by simp [opT,hl]
   rw [<- k.h,this];exact s') q
  rw [vn hl rfl] at j;exact j
 ·cases c⟩
theorem GO.ste(e:nth L j=some (jS sz T vs))(c:eZ vs us k=some cs')(p:us.length=m)(v:KR (gj (stV l fr i)) (some us))(x:KR (stC P l fr i m) (some ⟨sz,k,none⟩))
  (y:KR (eK us) true) (z:KR (F8 us) true) (I:dp L j (jS sz T cs')=some L1) (n:GO hs f r Fs L1 fr P B N w0 Z l (i+1) Q):GO (.ste j k us::hs) f r Fs L fr P B N w0 Z l i Q:=⟨λw a s q=>by
 obtain ⟨t,J,K,ty,pos,M,g,u,hl,A,C,D,b,d⟩:=kX x.h v.h p;obtain ⟨e3,E⟩:=bH c (by intro F;have:=z.h;rw [F] at this;cases this);refine OW.stB s j (by rw [<- zP];exact e) hl A C D d (by rw [b];exact y.h) (by rw [b];exact v9 E) cs' (by rw [b];exact e3) λG s'=> ?_
 exact n.o G a (by grind [qI]) q⟩
def reh(v:Value):List Nat->Fr->Fr
 |[],fr=>fr
 |q::r,fr=>(q,v)::reh v r fr
def BC(fr:Fr):List Nat->List (Option Value)
 |[]=>[]
 |q::r=>kN fr q::BC fr r
def BD(v:Value):List Nat->List (Option Value)
 |[]=>[]
 |_::r=>some v::BD v r
theorem wn{fr:Fr}{N:Nat}{v:Value}{a:Act}(h:Rep N fr a):∀{qs:List Nat},BC fr qs=BD v qs->Rep N (reh v qs fr) a
 |[],_=>h
 |q::r,e=>by
  simp only [BC,BD,List.cons.injEq] at e;have b:=wn h e.2;refine {b with get:=λi u hi=> ?_};simp only [reh] at hi;rw [bF] at hi;split at hi
  ·rename_i c
   subst c;cases hi;exact h.get _ _ e.1
  ·exact b.get i u hi
theorem _root_.Go.Sx.St.rlen(s:St w0 Z w L)(h:nth L j=some (qk (.slice a m c) T enc sz xs)):m=xs.length:=by
 obtain ⟨_,b,d,e⟩:=s.len j (by rw [<- zP];exact h)
 cases e;rfl
theorem _root_.Go.Sx.St.nlen'(s:St w0 Z w L)(h:nth L j=some (nI T R (.slice a m c) S xs ho)):m=xs.length:=by
 obtain ⟨_,b,d,e⟩:=s.nlen j (by rw [<- zP];exact h)
 cases e;rfl
theorem dD{α:Type}{L L1:List α}{x:α}(h:L[j]? =some x)(a:dp L j x=some L1):L1=L:=by
 rw [qI a];apply l8
 grind
theorem Adm.nc{α:Type}{enc:α->List Value}{xs:List α}(d:nth L j=some (qk (.slice a m c) T' enc sz xs))(e:nth L jb=some (jS N T vs))(b:KR (nth vs k) (some (.slice a m c)))
  (hs:dp vs k (.slice a xs.length c)=some cs') (f:dp L jb (jS N T cs')=some L1):Adm (.nc jb k j) Fs L (λ_:Unit=>L1) (λ_=>Fs):=⟨λw0 Z w g s=>⟨(),by
 have i:=s.rlen d;have b:=b.h;rw [i,zP] at b;have e1:=dD b hs;subst e1;rw [dD (by rw [<- zP];exact e) f]
 exact s,g⟩⟩
theorem Adm.nd{α:Type}{R:Rp α}{xs:List α}(d:nth L j=some (nI T' R (.slice a m c) S xs ho))(e:nth L jb=some (jS N T vs))(b:KR (nth vs k) (some (.slice a m c)))
  (hs:dp vs k (.slice a xs.length c)=some cs') (f:dp L jb (jS N T cs')=some L1):Adm (.nd jb k j) Fs L (λ_:Unit=>L1) (λ_=>Fs):=⟨λw0 Z w g s=>⟨(),by
 have i:=s.nlen' d;have b:=b.h;rw [i,zP] at b;have e1:=dD b hs;subst e1;rw [dD (by rw [<- zP];exact e) f]
 exact s,g⟩⟩
theorem GQ.nl{α:Type}{enc:α->List Value}{xs:List α}(e:nth L j=some (qk (.slice a m c) T enc sz xs))(d:KR (BC fr qs) (BD (.slice a m c) qs))
  (i:dp L j (qk (.slice a xs.length c) T enc sz xs)=some L1) (n:GQ hs f r Fs L1 (reh (.slice a xs.length c) qs fr) P B N w0 Z d2 Q):GQ (.nl j qs::hs) f r Fs L fr P B N w0 Z d2 Q:=⟨λw k s g b l=>by
 have p:=s.rlen e;have d:=d.h;rw [p] at d e
 have e1:L1=L:=by
  rw [qI i];have q:L[j]? =some (qk (.slice a xs.length c) T enc sz xs):=by grind [zP]
  apply l8
  grind
 subst e1;exact n.o w k s g b (wn l d)⟩
theorem GC.nl{α:Type}{enc:α->List Value}{xs:List α}(d:nth L j=some (qk (.slice a m c0) T enc sz xs))(c:KR (BC fr qs) (BD (.slice a m c0) qs))
  (e:dp L j (qk (.slice a xs.length c0) T enc sz xs)=some L1) (n:GC hs f r Fs L1 (reh (.slice a xs.length c0) qs fr) P B N w0 Z a9 Q):GC (.nl j qs::hs) f r Fs L fr P B N w0 Z a9 Q:=⟨λw i s g b k=>by
 have l:=s.rlen d;have c:=c.h;rw [l] at c d
 have e1:L1=L:=by
  rw [qI e];have p:L[j]? =some (qk (.slice a xs.length c0) T enc sz xs):=by grind [zP]
  apply l8
  grind
 subst e1;exact n.o w i s g b (wn k c)⟩
theorem GQ.nm{α:Type}{R:Rp α}{xs:List α}(i:nth L j=some (nI T R (.slice a m c) S xs ho))(e:KR (BC fr qs) (BD (.slice a m c) qs))
  (p:dp L j (nI T R (.slice a xs.length c) S xs ho)=some L1) (n:GQ hs f r Fs L1 (reh (.slice a xs.length c) qs fr) P B N w0 Z d2 Q):GQ (.nm j qs::hs) f r Fs L fr P B N w0 Z d2 Q:=⟨λw q s g b t=>by
 have u:=s.nlen' i;have e:=e.h;rw [u] at e i
 have e1:L1=L:=by
  rw [qI p];have d:L[j]? =some (nI T R (.slice a xs.length c) S xs ho):=by rw [<- zP];exact i
  apply l8
  intro k;by_cases l:j=k
  ·subst l;rw [yh (zes.1 d).1,d]
  ·rw [z7 l]
 subst e1;exact n.o w q s g b (wn t e)⟩
theorem GC.nm{α:Type}{R:Rp α}{xs:List α}(e:nth L j=some (nI T R (.slice a m c0) S xs ho))(d:KR (BC fr qs) (BD (.slice a m c0) qs))
  (l:dp L j (nI T R (.slice a xs.length c0) S xs ho)=some L1) (n:GC hs f r Fs L1 (reh (.slice a xs.length c0) qs fr) P B N w0 Z a9 Q):GC (.nm j qs::hs) f r Fs L fr P B N w0 Z a9 Q:=⟨λw p s g b q=>by
 have t:=s.nlen' e;have d:=d.h;rw [t] at d e
 have e1:L1=L:=by
  rw [qI l];have c:L[j]? =some (nI T R (.slice a xs.length c0) S xs ho):=by rw [<- zP];exact e
  apply l8
  intro k;by_cases i:j=k
  ·subst i;rw [yh (zes.1 c).1,c]
  ·rw [z7 i]
 subst e1;exact n.o w p s g b (wn q d)⟩
theorem Adm.shx{α β:Type}{R:Rp α}{ff:α->List Value->List Value}{hl:∀x vs,(ff x vs).length=sz}{g:α->β}{A:Rp β}{x:α}{y:β}
 (h:nth L j=some (jS N T args)) (a:R=qO ff sz hl g A) (b:qJ ks Fs L A js vs y) (c:g x=y) (d:gh L Z []=some Lr) (e:∀S,vd Lr (itI (vE T R) [.pointer (some ⟨N,0,none⟩)] S x)=some (b8 S))
 (f:KR (zQ ((j::js)++Z)) true) (i:KR args (ff x vs)):Adm (.shx j ks Z R x) Fs L b8 (λ_=>Fs):=⟨(Adm.sh h a b d e f i ⟨c⟩).o⟩
theorem Adm.shw{α β:Type}{R:Value->Rp α}{ff:α->List Value->List Value}{hl:∀x vs,(ff x vs).length=sz}{g:α->β}{A:Rp β}{x:α}{y:β}
 (m:nth L q=some (jS i T2 args)) (n:nth args k=some v) (h:nth L j=some (jS N T us)) (a:R v=qO ff sz hl g A) (b:qJ ks Fs L A js vs y) (c:g x=y) (d:gh L Z []=some Lr) (e:∀S,vd Lr (itI (vE T (R v)) [.pointer (some ⟨N,0,none⟩)] S x)=some (b8 S))
 (f:KR (zQ ((j::js)++Z)) true) (l:KR us (ff x vs)):Adm (.shw j ks Z R q k x) Fs L b8 (λ_=>Fs):=⟨(Adm.shx h a b c d e f l).o⟩
theorem Adm.s0x{α:Type}{enc:α->List Value}{h:∀x,(enc x).length=sz}{x:α}(a:nth L j=some (jS N T vs))(b:dp L j (itI (vE T (sk enc sz h)) [.pointer (some ⟨N,0,none⟩)] [N] x)=some Lq)(c:KR vs (enc x)):
 Adm (.s0x j enc sz x) Fs L (λ_:Unit=>Lq) (λ_=>Fs):=⟨(Adm.s0 a b c).o⟩
theorem LkV.pv(e:∀w0 Z w,bS w0 Z Fs->St w0 Z w L->xs.length<=c)(j:nth Fs q=some (.oe (cut xs 0 hi) ys))(h:cpC P l N fr i=some (.slice a n c,none,some hi,sz))(w:World)(f:bS w0 Z Fs)(s:St w0 Z w L):
  ∃o d,vm l i=some o/\gd l fr o=some true/\o.dst=some d/\Nat.blt d N=true/\∀g,Rep N fr g->(execOp g.eval o).run P w=.ok (.value (.slice a ys.length c)) w:=by
 unfold cpC at h;split at h
 ·rename_i ho
  split at h
  ·rename_i k m
   split at h
   ·rename_i p
    split at h
    ·split at h
     ·rename_i r
      cases h
      obtain ⟨d,hl,t,u,v⟩:=jC ho;exact ⟨_,d,hl,t,u,v,λb x=>rB sz rfl m r (zA f j) (e w0 Z w f s) k p b w x⟩
     ·cases h
    ·grind
    ·grind
    ·cases h
   ·cases h
  ·cases h
 ·cases h
theorem GO.pw{α:Type}{enc:α->List Value}{xs F ys:List α}(t:nth L j=some (qk (.slice a n c) T enc sz F))(u:nth Fs q=some (.oe (cut xs 0 hi) ys))(b:KR F xs)(v:KR (cpC P l N fr i) (some (.slice a n c,none,some hi,sz)))
  (m:GO hs f r Fs L ((dst l i,.slice a ys.length c)::fr) P B N w0 Z l (i+1) Q):GO (.pw j q::hs) f r Fs L fr P B N w0 Z l i Q:=⟨λw g s e=>by
 obtain ⟨o,d,hl,x,k,y,z⟩:=LkV.pv (Fs:=Fs) (L:=L) (w0:=w0) (Z:=Z) (λw0 Z w a s=>by rw [<- b.h];exact s.cap j (by rw [<- zP];exact t)) u v.h w g s
 have p:=m.o w g s e;rw [vn hl k] at p;exact j7 hl x k y z p⟩
theorem QZ(b:nth L j=some (qk (.slice a n c) T enc sz F))(d:KR F xs)(l:nth Fs q=some (.oe (cut xs 0 hi) ys))
  (m:∀W g o,lX Fs [.el (.slice a ys.length c) g o G ys W,.el (.slice a n c) g o G xs W]=some (Fs1 W g o)) (e:bS w0 Z Fs) (s:St w0 Z w L) (f:idx ys G=some W):∃g o,bS w0 Z (Fs1 W g o):=by
 have b:=b;rw [d.h] at b;have p:cut xs 0 hi=some ys:=zA e l;have i:=Oz p f;obtain ⟨g,o,cap,k⟩:=s.rowv j (by rw [<- zP];exact b) i
 refine ⟨g,o,nD (m W g o) e ⟨⟨f,cap,?_⟩,⟨i,cap,k⟩,trivial⟩⟩;cases k;rfl
theorem GO.vb{α:Type}{enc:α->List Value}{xs F ys:List α}{k:α->Option ρ}{Fs1:α->Nat->Nat->List Fa}(b:nth L j=some (qk (.slice a n c) T enc sz F))(d:nth Fs q=some (.oe (cut xs 0 hi) ys))(h:KR F xs)
  (f:∀a9 g o,lX Fs [.el (.slice a ys.length c) g o G ys a9,.el (.slice a n c) g o G xs a9]=some (Fs1 a9 g o)) (m:∀a9 g o,GO hs (k a9) r (Fs1 a9 g o) L fr P B N w0 Z l i Q):GO (.vb j q::hs) ((idx ys G).bind k) r Fs L fr P B N w0 Z l i Q:=⟨λw p s e=>by
 obtain ⟨a9,t,u⟩:=zL e;obtain ⟨g,o,v⟩:=QZ b h d f p s t;exact (m a9 g o).o w v s u⟩
structure DG (κ:Type) where
 a:Nat
 s:List Nat
 k:κ
 u:Value
 t:List Nat
theorem jl.dep{α:Type}{R:Rp α}{l:∀v,(C v).sz=n}
  (p:KR n 1) (r:jl [N] q Fs V vs2 its2 fcs2):
  jl [8,N] q Fs (QC (vE U R) V C n l) (λ(i:DG κ)y=>.pointer (some ⟨i.a,0,none⟩)::(vs2 i.k y.2.1++[i.u]))
   (λi y=>itI (vE U R) [.pointer (some ⟨i.a,0,none⟩)] i.s y.1::(its2 i.k y.2.1++[itI (C (.pointer (some ⟨i.a,0,none⟩))) [i.u] i.t y.2.2])) (λi y=>fcs2 i.k y.2.1):=⟨by
 rintro w0 Z w J S y a ⟨v1,⟨x,K,z,A,rfl,rfl,c,d,⟨c2,d2,L,e,rfl,rfl,f,B,g⟩⟩,hv1⟩;have D:=(vE U R).nd w x z y.1 d;have j:=d;obtain ⟨b,cs',E,rfl,rfl,M⟩:=j;obtain rfl:v1=.pointer (some ⟨b,0,none⟩):=by grind
 have F:=(C (.pointer (some ⟨b,0,none⟩))).nd w d2 e y.2.2 g;have m:=(C (.pointer (some ⟨b,0,none⟩))).len w d2 e y.2.2 g;rw [l,p.h] at m
 match d2,m with
 |[u],_=>
 obtain ⟨i,rfl,G,I⟩:=r.o w0 Z w _ _ _ a B;exact ⟨⟨b,b::E,i,u,e⟩,rfl,(ao.single d D rfl).app (G.app (ao.single g F rfl) f) c,I⟩⟩
theorem qJ.dep{α β:Type}{A:Rp α}{B:Rp β}{h:∀v,(C v).sz=n}{y:α}{b:β}(c:qJ [d3] Fs L A j1 [v1] y)(d:qJ [k2] Fs L B j2 vs b)(e:qJ [k3] Fs L (C v1) S0 args y3):
  qJ [.s,d3,k2,k3] Fs L (QC A B C n h) (j1++(j2++S0)) ([v1]++(vs++args)) (y,(b,y3)):=⟨λw0 Z w g a s=>by
 obtain ⟨S,o,i,f⟩:=(qJ.pair c (qJ.pair d e)).o w0 Z w g a s;exact ⟨S,⟨v1,o,rfl⟩,i,f⟩⟩
theorem qJ.on:qJ [.on] Fs L (Bi U R) [] [.pointer none] none:=⟨λw0 Z w h a s=>⟨[],⟨rfl,rfl⟩,m6,by simp⟩⟩
theorem qJ.os{α:Type}{R:Rp α}{y:α}(h:nth L j=some (itI (vE U R) [v] S y)):qJ [.os j] Fs L (Bi U R) [j] [v] (some y):=
 qJ.item h λw ho=>ho
variable {d4:DG κ->List Fa}{e0:DG κ->List Item}
theorem GC.dg(n:∀a s k u t,GC hs f r (d4 ⟨a,s,k,u,t⟩) (e0 ⟨a,s,k,u,t⟩) fr P B N w0 Z a9 Q)(q:DG κ):GC hs f r (d4 q) (e0 q) fr P B N w0 Z a9 Q:=n q.a q.s q.k q.u q.t
theorem E0(d:nth L j=some (itI (Bi U R) [u] S e1))(e:dp L j (itI (vE U R) [u] S W)=some (e2 W))(s:St w0 Z w L)(a:e1=some W):St w0 Z w (e2 W)/\∃b,u=.pointer (some ⟨b,0,none⟩):=by
 have h:L[j]? =some (itI (Bi U R) [u] S e1):=by grind [zP]
 have c:=s.optSome j h a;have f:=c.fptr (U:=U) (R:=R) (u:=u) (x:=W) j (by rw [yh (zes.1 h).1])
 grind [qI]
theorem GO.fo(h:nth L j=some (itI (Bi U R) [u] S e1))(c:∀y,dp L j (itI (vE U R) [u] S y)=some (e2 y))(n:∀y b,u=.pointer (some ⟨b,0,none⟩)->GO hs (e3 y) r Fs (e2 y) fr P B N w0 Z l i Q):GO (.fo j::hs) (e1.bind e3) r Fs L fr P B N w0 Z l i Q:=⟨λw a s q=>by
 obtain ⟨y,d,e⟩:=zL q;obtain ⟨f,b,g⟩:=E0 h (c y) s d;exact (n y b g).o w a f e⟩
end Go.Sx
