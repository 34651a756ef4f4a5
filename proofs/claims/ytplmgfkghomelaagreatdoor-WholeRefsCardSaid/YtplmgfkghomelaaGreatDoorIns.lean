/- Lemmas. -/
import Derived.Test.YtplmgfkghomelaaGreatDoorEng4
import Derived.Lib.Overlaps
import Derived.Lib.AppendZerosOnto
set_option linter.all false
namespace Go.Sx
open Go.RowKit
variable {α ρ β ι γ κ:Type}{x y:Operand}{L L1 Lr Lq Lin Bq:List Item}{w0 w:World}{Fs a8:List Fa}{xs ys F g:List α}{T U ty T2 tk te tR T':TypeId}{P:Program}{N sz j i q k n c m e o d ff n2 c2 l2 sz2 sz3 M k2 jb c0:Nat}{Z S S0 js ats qs j1 j2:List Nat}{R A:Rp α}{Q:Exit->Act->World->Prop}{fr fr':Fr}{l:List Oper}{B b5 B0:Func}{hs hs1 hs2:List H}{enc:α->List Value}{a a1 J:Option Addr}{v v' u v2 vz v'' v1:Value}{f A':Option ρ}{vs args us cs' args':List Value}{ks:List Pa}{ho:Option (Nat×List Value)}{src:List Src}{css s:List (List Value)}{kd:IntKind}{Fs1:α->Nat->Nat->List Fa}{pos name:String}{gdd:Option (Nat×Bool)}{hi G O:Int}{fcs:ι->β->List Fa}{Ss Ss2:List (List Nat)}{kf:FuncId}{kss:List (List Pa)}{C:Value->Rp γ}{r:ρ}{z h I:List (Nat×Value)}{D:Array Edge}{E:Oper}{K:List α×List α}{V:Rp β}{W d2:α}{X:β}{Y:Sem α}{a0:List Operand}{a3:Act}{a4:Ending->World->Prop}{a5:α⊕β}{a6:List (Int×α)}{two a7:Bool}{a9 d3:Code}{b0:World->List Nat->List Fa}{b3:Src}{b4:Prop}{b6:Rp γ}{b7:ι->β->List Value}{vs2:κ->γ->List Value}{fcs2:κ->γ->List Fa}{b8:γ->List Value->List Value}{c3:γ->β}{c4:ι->α->List Value}{c5:ι->α->List Fa}{c6:α->Nat->Nat->ι->List Fa}{c7:α->Option ρ}{pd:List (Nat×Pn)}{c8:Item}{its:ι->β->List Item}{c9:γ}{d0:List Nat->List Item}{hh:H}{d4:Unit}{e0 e1:Option Addr->Nat->List Nat->List Item}{e3:Nat->List Nat->List Item}{e2:Nat->List Item}{e4 s':ByteArray}{e5:Exit}{e6:κ->β->List Value}{its2:κ->β->List Item}{e7:κ->β->List Fa}{e8 e9 k3:Pa}{g2:Option α}{g3:α->List Item}
def over{α:Type}(xs:List α)(l:Nat)(ys:List α):List α:=xs.take l++ys.take (xs.length-l)++xs.drop (l+ys.length)
theorem me{α:Type}(xs:List α)(l:Nat)(ys:List α)(h:l<=xs.length):(over xs l ys).length=xs.length:=by
 simp [over];omega
theorem IW(h:u∈jO enc xs):∃x,x∈xs/\u∈enc x:=by
 induction xs with
 |nil=>cases h
 |cons x r i=>
  rcases f8.1 h with h|h
  ·grind
  grind
theorem Lv{α:Type}{xs:List α}(h:q<=xs.length):cut xs 0 (q:Int)=some (xs.take q):=by
 grind [cut]
theorem OW.copyR(A:St w0 S0 w L)(j:Nat)(Z:L[j]? =some (qb (.slice a n c) T enc sz xs))(G:∀x,(enc x).length=sz)(hp:0<sz)
  (hl:vg l i=some ⟨some d,.call ⟨.builtin .copy,[x,y].toArray,ats.toArray⟩,ty,pos,D,gdd⟩) (ha:ats=[m,ff]) (hg:gd l z ⟨some d,.call ⟨.builtin .copy,[x,y].toArray,ats.toArray⟩,ty,pos,D,gdd⟩=some true) (hN:Nat.blt d N=true) (hc:cut xs hi (xs.length:Int)=some F) (hx:look z x=some (.slice (shd a c hi.toNat sz) F.length (c-hi.toNat))) (hy:look z y=some v2) (ht:P.underlying m=some (.slice e)) (hs:ax P (sizeOf e)=some sz) (hr:Rd w S v2 enc sz ys) (ho:∀y∈ys.take F.length,eU (enc y)=true)
  (h:∀w',St w0 S0 w' (L.set j (qb (.slice a n c) T enc sz (over xs hi.toNat ys)))->OW P l N Q (i+1) ((d,.int .i64 ((Nat.min ys.length F.length:Nat):Int))::z) w'):OW P l N Q i z w:=by
 subst ha;obtain ⟨h0,hq1,hq2,e0⟩:=bA hc;have hl0:=kK hc;have hzl:F.length=xs.length-hi.toNat:=by omega
 obtain ⟨hn63,a2,c2,rfl,hlc,s⟩:=hr;have I:dw w T sz (.slice a n c) xs.length (jO enc xs):=A.all j _ Z;obtain ⟨k,J⟩:∃k,k=Nat.min ys.length F.length:=⟨_,rfl⟩
 have hk1:k<=ys.length:=by grind
 have hk2:k<=F.length:=by grind
 have r:over xs hi.toNat ys=xs.take hi.toNat++ys.take k++xs.drop (hi.toNat+k):=by
  unfold over;rw [<- hzl];by_cases hle:ys.length<=F.length
  ·grind
  ·have:k=F.length:=by rw [J];exact Nat.min_eq_right (by omega)
   rw [this,yr (l:=xs) (i:=hi.toNat+ys.length) (by omega),yr (l:=xs) (i:=hi.toNat+F.length) (by omega)]
 have p:(jO enc (ys.take k)).length=k*sz:=by rw [qO G,yw];congr 1;omega
 have v:∀{cells:Array Value} {w':World},(Builtin.firstCells sz k (.slice a2 ys.length c2)).run P w=.ok cells w->(∀b0,shd a c hi.toNat sz=some b0->(storeCells b0 cells.toList).run P w=.ok () w')->(shd a c hi.toNat sz=none->w'=w)->∀b,Rep N z b->
   (execOp b.eval ⟨some d,.call ⟨.builtin .copy,[x,y].toArray,[m,ff].toArray⟩,ty,pos,D,gdd⟩).run P w=.ok (.value (.int .i64 (k:Nat))) w':=by
  intro cells w' K hr2 hr3 b hb;have e1:=hb.look hx;have e2:=hb.look hy;have M:=qV hs w;cases t:shd a c hi.toNat sz with
  |none=>
   rw [t] at e1;have hw:w'=w:=hr3 t;subst hw;simp [execOp,resolve,invoke,builtin,e1,e2,Builtin.copy_,run_underlying ht,Builtin.lenOf,M,<- J,K,goInt]
  |some b'=>
   rw [t] at e1;have h9:=hr2 _ t;simp [execOp,resolve,invoke,builtin,e1,e2,Builtin.copy_,run_underlying ht,Builtin.lenOf,M,<- J,K,h9,goInt]
 rcases y8 k with O|hkp
 ·
  have Y:(Builtin.firstCells sz k (.slice a2 ys.length c2)).run P w=.ok #[] w:=by
   rw [O];cases a2<;>simp [Builtin.firstCells,loadCells,loadCellsFrom]
  have hs2:∀b0,shd a c hi.toNat sz=some b0->(storeCells b0 (#[]:Array Value).toList).run P w=.ok () w:=λb0 _=>by simp [storeCells]
  have B:over xs hi.toNat ys=xs:=by
   rw [r,O];simp
  refine j6 hl hg rfl hN (v Y hs2 (λ_=>rfl)) ?_;have h:=h w;rw [<- J] at h;refine h ?_;rw [B];obtain ⟨h5,h6⟩:=zes.1 Z;rw [show L.set j (qb (.slice a n c) T enc sz xs)=L from by rw [<- h6,List.set_getElem_self]];exact A
 ·rcases I.2 with ⟨hz0,_⟩|⟨g,o,cap,q,hv,hp2,R,U,hm,hcs,C⟩
  ·omega
  ·simp only [Value.slice.injEq] at hv;obtain ⟨rfl,rfl,rfl⟩:=hv;have hcq:¬ c=hi.toNat:=by omega
   have eshd:shd (some ⟨g,o,none⟩) c hi.toNat sz=some ⟨g,o+hi.toNat*sz,none⟩:=by simp [shd,hcq,Addr.add]
   obtain ⟨V,hy0⟩:∃V,ys[0]? =some V:=⟨ys[0],zeg (by omega)⟩
   obtain ⟨u0,hu0⟩:∃u0,(enc V)[0]? =some u0:=⟨(enc V)[0]'(by rw [G];exact hp),zeg (by rw [G];exact hp)⟩
   obtain ⟨b,kk,rfl,_,_⟩:=s 0 V 0 u0 hy0 hu0
   have E:∀hi u,(jO enc (ys.take k))[hi]? =some u->w.cell? ((⟨b,kk,none⟩:Addr).add hi)=some u:=by
    intro hi u hu;rw [dR];obtain ⟨m,f,x,hx,Y,hq⟩:=gZ G hp hu
    grind
   have Y:(Builtin.firstCells sz k (.slice (some ⟨b,kk,none⟩) ys.length c2)).run P w=.ok (jO enc (ys.take k)).toArray w:=
    run_firstCells_some (P:=P) w sz k ⟨b,kk,none⟩ ys.length c2 _ p E
   have W:∀u∈jO enc (ys.take k),u.oneCell'=true:=by
    intro u hu;obtain ⟨x,hxm,hx⟩:=IW hu
    grind [eV]
   have hsum:hi.toNat*sz+k*sz<=xs.length*sz:=by rw [<- w8];exact r6 _ (by omega)
   have hcap:xs.length*sz<=c*sz:=r6 _ U;have X:o+hi.toNat*sz+(jO enc (ys.take k)).length<=q.size:=by omega
   have hst2:=run_storeCells_at (P:=P) g (o+hi.toNat*sz) T (jO enc (ys.take k)) 0 q w R (by simpa using X) W;refine j6 hl hg rfl hN (v Y (w':=w.setRow g (qG q.toList (jO enc (ys.take k)) (o+hi.toNat*sz)).toArray) (λb0 hb0=> ?_) (λhb0=> ?_)) ?_
   ·grind [qG]
   ·grind
   ·have h:=h (w.setRow g (qG q.toList (jO enc (ys.take k)) (o+hi.toNat*sz)).toArray);rw [<- J] at h;refine h ?_;have hlen:(qG q.toList (jO enc (ys.take k)) (o+hi.toNat*sz)).length=q.size:=by grind [qG]
    refine A.upd j Z ⟨rfl,rfl,rfl,by simp [World.setRow],λk' _ hn=>setRow_other w g k' _ (by grind [qb,xJ])⟩ ?_ (λk' hk'=>.inl hk') xT;have hl2:(over xs hi.toNat ys).length=xs.length:=me _ _ _ (by omega);show dw (w.setRow g _) T sz _ _ _;rw [hl2];refine ⟨by grind [qO],.inr ⟨g,o,c,_,rfl,hp2,setRow_heap w g q _ T _ R,U,hm,by grind,?_⟩⟩;simp only;rw [dc (by omega) (by omega) (by grind),C,show o+hi.toNat*sz-o=hi.toNat*sz by omega];rw [r,iT,iT];unfold qG;rw [nQ G,p,<- w8,tX G]
theorem OW.appW{bytes:Nat}(A:St w0 S0 w L)(j:Nat)(T:L[j]? =some (qb (.slice a n c) e enc sz xs))(B:∀x,(enc x).length=sz)(ho:∀x,eU (enc x)=true)
  (hl:vg l i=some ⟨some d,.call ⟨.builtin .append,[x,y].toArray,ats.toArray⟩,ty,pos,D,gdd⟩) (ha:ats=[k,k]) (hg:gd l z ⟨some d,.call ⟨.builtin .append,[x,y].toArray,ats.toArray⟩,ty,pos,D,gdd⟩=some true) (hN:Nat.blt d N=true)
  (U:look z x=some (.slice a m c)) (hy:look z y=some v2) (ht:P.underlying k=some (.slice e)) (r:tq P e sz bytes) (V:Rd w S v2 enc sz ys) (hp:m+ys.length<=xs.length)
  (h:∀G,St w0 S0 G (L.set j (qb (.slice a n c) e enc sz (over xs m ys)))->OW P l N Q (i+1) ((d,.slice a (m+ys.length) c)::z) G):OW P l N Q i z w:=by
 subst ha;obtain ⟨I,zv,hi,hzi,W,hby,hzs⟩:=r.Ws;have t:dw w e sz (.slice a n c) xs.length (jO enc xs):=A.all j _ T;obtain ⟨hn63,a2,c2,rfl,hlc,hc⟩:=V
 have v:∀{v':Value} {G:World},(Builtin.append_ #[k,k] ty #[.slice a m c,.slice a2 ys.length c2]).run P w=.ok v' G->∀b,Rep N z b->
   (execOp b.eval ⟨some d,.call ⟨.builtin .append,[x,y].toArray,[k,k].toArray⟩,ty,pos,D,gdd⟩).run P w=.ok (.value v') G:=by
  intro v' G V b hb;have e1:=hb.look U;have e2:=hb.look hy;simp [execOp,resolve,invoke,builtin,e1,e2,V]
 rcases y8 ys.length with X|X
 ·have Y:ys=[]:=y6 X;subst Y;have J:dw w e sz (.slice a (xs.take m).length c) (xs.take m).length (jO enc (xs.take m)):=dw.pre B t (Lv (q:=m) (by grind));have hl:(xs.take m).length=m:=by grind
  have p:=iJ (ty:=ty) ht r.size J a2 c2;rw [hl] at p;refine j6 ‹_› hg rfl hN (v p) (h w ?_);have C:over xs m ([]:List α)=xs:=by simp [over]
  rw [C];obtain ⟨h5,h6⟩:=zes.1 T;rw [show L.set j (qb (.slice a n c) e enc sz xs)=L from by rw [<- h6,List.set_getElem_self]];exact A
 ·rcases t.2 with ⟨hz0,_⟩|⟨g,o,cap,s,hv,Z,K,M,hm,hcs,E⟩
  ·omega
  ·simp only [Value.slice.injEq] at hv;obtain ⟨rfl,rfl,rfl⟩:=hv;obtain ⟨O,hy0⟩:∃O,ys[0]? =some O:=⟨ys[0],zeg X⟩
   obtain ⟨u0,hu0⟩:∃u0,(enc O)[0]? =some u0:=⟨(enc O)[0]'(by rw [B];exact r.pos),zeg (by rw [B];exact r.pos)⟩
   obtain ⟨b,kk,rfl,_,_⟩:=hc 0 O 0 u0 hy0 hu0
   have F:∀q u,(jO enc ys)[q]? =some u->w.cell? ((⟨b,kk,none⟩:Addr).add q)=some u:=by
    intro q u hu;rw [dR];obtain ⟨k,f,x,U,hf,hq⟩:=gZ B r.pos hu
    grind
   have R:∀u∈jO enc ys,u.oneCell'=true:=by
    intro u hu;obtain ⟨x,U⟩:=Gr hu
    grind [eV]
   have fl:(jO enc ys).length=ys.length*I.size:=by grind [qO]
   have hsum:m*sz+ys.length*sz<=xs.length*sz:=by rw [<- w8];exact r6 _ hp
   have hcap:xs.length*sz<=c*sz:=r6 _ M;have fl2:(jO enc ys).length=ys.length*sz:=qO B ys;have hfit:o+m*sz+(jO enc ys).length<=s.size:=by omega
   have p:=mA (P:=P) w k ty e I ht hi g o m c s K ⟨b,kk,none⟩ ys.length c2 (jO enc ys) fl F R (by omega) (by grind);rw [W] at p;refine j6 ‹_› hg rfl hN (v p) (h _ ?_);have hlen:(qG s.toList (jO enc ys) (o+m*sz)).length=s.size:=by grind [qG]
   refine A.upd j T ⟨rfl,rfl,rfl,by simp [World.setRow],λk' _ hn=>setRow_other w g k' _ (by grind [qb,xJ])⟩ ?_ (λk' hk'=>.inl hk') xT;have hl2:(over xs m ys).length=xs.length:=me _ _ _ (by omega);show dw (w.setRow g _) e sz _ _ _;rw [hl2];refine ⟨by grind [qO],.inr ⟨g,o,c,_,rfl,Z,setRow_heap w g s _ e _ K,M,hm,by grind,?_⟩⟩;simp only;rw [dc (by omega) (by omega) (by grind),E,show o+m*sz-o=m*sz by omega];unfold over;rw [iT,iT,s9 (l:=ys) (by omega)];unfold qG;rw [nQ B,fl2,<- w8,tX B]
theorem FR{q:Int}{e:TypeId}{t:TypeId}(a:Option Addr)(n c:Nat){r m:Int}(f:0<=q)(p:q<=r)(s:r<=m)(A:m<=(c:Int))(g:P.underlying t=some (.slice e))(hs:ax P (sizeOf e)=some sz):
  ∃v,∀(E:Oper)(h:List (Nat×Value)){x y z u:Operand}{kd k kf:IntKind},E.op=.slice t x (some y) (some z) (some u)->look h x=some (.slice a n c)->look h y=some (.int kd q)->look h z=some (.int k r)->look h u=some (.int kf m)->∀b w,Rep N h b->(execOp b.eval E).run P w=.ok (.value v) w:=by
 refine ⟨.slice (if m.toNat=q.toNat then a else a.map (·.add (q.toNat*sz))) (r.toNat-q.toNat) (m.toNat-q.toNat),λE h x y z u kd k kf ho i j l o b w d=> ?_⟩;have e1:=d.look i;have e2:=d.look j;have e4:=d.look l;have e5:=d.look o;obtain ⟨q,rfl⟩:=zof f;obtain ⟨r,rfl⟩:=zof (by omega:0<=r);obtain ⟨m,rfl⟩:=zof (by omega:0<=m);have g1:q<=r:=by omega
 have g2:r<=m:=by omega
 have g3:m<=c:=by omega
 simp [execOp,ho,Instr.sliceAt,Instr.slice,Instr.sliceBounds,Instr.sliceBound,run_underlying g,e1,e2,e4,e5,asIntOf,g1,g2,g3,qV hs]
theorem pI(h:∀x,(enc x).length=sz)(xs:List α):jO (fit sz) (xs.map enc)=jO enc xs:=by
 induction xs with
 |nil=>rfl
 |cons x r i=>simp only [p9,jO,i,sZ (h x)]
theorem Rd.raw(g:∀x,(enc x).length=sz)(h:Rd w S v enc sz xs):Rd w S v (fit sz) sz (xs.map enc):=by
 obtain ⟨d,a,c,e,b,i⟩:=h;refine ⟨by simpa using d,a,c,by simpa using e,by simpa using b,λt x f u j k=> ?_⟩
 grind [sZ]
def sS(sz:Nat):Nat->List Value->List (List Value)
 |0,_=>[]
 |n+1,c=>c.take sz::sS sz n (c.drop sz)
theorem rS(sz n:Nat)(c:List Value):(sS sz n c).length=n:=by
 induction n generalizing c with
 |zero=>rfl
 |succ n i=>simp [sS,i]
theorem D9(sz:Nat):∀(n:Nat)(c:List Value),c.length=n*sz->jO (fit sz) (sS sz n c)=c:=by
 intro n
 induction n with
 |zero=>intro c h;have:c=[]:=y6 (by simpa using h);rw [this];rfl
 |succ n i=>
  intro c h;simp only [sS,jO];rw [Tw] at h;rw [sZ (by grind),i _ (by grind),x9]
theorem St.spare(i:St w0 S0 w L)(j:Nat)(t:L[j]? =some (qb (.slice a n c) T enc sz xs))(v:∀x,(enc x).length=sz)(y:xs.length<=k)(l:k<=c):
  ∃s:List (List Value),s.length=k-xs.length/\St w0 S0 w (L.set j (qb (.slice a k c) T (fit sz) sz (xs.map enc++s))):=by
 have h:dw w T sz (.slice a n c) xs.length (jO enc xs):=i.all j _ t
 have e:(cM (.slice a k c)).toList=(cM (.slice a n c)).toList:=by
  cases a with
  |none=>rfl
  |some a=>cases c<;>rfl
 have fin:∀s:List (List Value),s.length=k-xs.length->dw w T sz (.slice a k c) (xs.map enc++s).length (jO (fit sz) (xs.map enc++s))->St w0 S0 w (L.set j (qb (.slice a k c) T (fit sz) sz (xs.map enc++s))):=λs hl ho=>
  i.upd j t (x8 _ _) ho (λb z=>.inl (by
   show b∈(cM (.slice a n c)).toList;rw [<- e];exact z)) xT
 rcases h.2 with ⟨A,K,m⟩|⟨g,o,cap,d,m,B,C,D,E,p,F⟩
 ·simp only [Value.slice.injEq] at m;obtain ⟨rfl,rfl,rfl⟩:=m;have q:xs=[]:=y6 A;subst q;have:k=0:=by omega
  subst this;exact ⟨[],rfl,fin [] rfl (dw.nil _ _ _ _)⟩
 ·simp only [Value.slice.injEq] at m;obtain ⟨rfl,rfl,rfl⟩:=m;have G:k*sz<=c*sz:=r6 _ l;have I:xs.length*sz<=k*sz:=r6 _ y;have u:(k-xs.length)*sz=k*sz-xs.length*sz:=Nat.sub_mul ..
  have J:((d.toList.drop o).take (k*sz)).length=k*sz:=by
   grind
  refine ⟨sS sz (k-xs.length) (((d.toList.drop o).take (k*sz)).drop (xs.length*sz)),rS _ _ _,fin _ (rS _ _ _) ?_⟩
  have r:jO (fit sz) (xs.map enc++sS sz (k-xs.length) (((d.toList.drop o).take (k*sz)).drop (xs.length*sz)))=(d.toList.drop o).take (k*sz):=by
   rw [iT,pI v,D9 _ _ _ (by grind),<- F]
   conv=>rhs;rw [<- x9 (xs.length*sz) ((d.toList.drop o).take (k*sz))]
   grind
  have f:(xs.map enc++sS sz (k-xs.length) (((d.toList.drop o).take (k*sz)).drop (xs.length*sz))).length=k:=by
   grind [rS]
  refine ⟨by grind,.inr ⟨g,o,c,d,by rw [f],B,C,by rw [f];exact l,E,p,?_⟩⟩
  rw [f,r]
theorem St.typed(a:St w0 S0 w L)(j:Nat)(c:L[j]? =some (qb v T (fit sz) sz css))(d:∀x,(enc x).length=sz)(e:css=xs.map enc):St w0 S0 w (L.set j (qb v T enc sz xs)):=by
 have h:dw w T sz v css.length (jO (fit sz) css):=a.all j _ c;subst e;rw [pI d,m6] at h;exact a.upd j c (x8 _ _) h (λb f=>.inl f) xT
theorem FS(h:eU vs=true)(hl:vs.length=sz):eU (fit sz vs)=true:=by rw [sZ hl];exact h
theorem Lw{e:TypeId}(ho:E.op=.slice T x none (some y) none)(f:look h x=some (.slice a n c))(g:look h y=some (.int kd hi))(i:hi=(k:Int))
  (j:k<=c) (l:P.underlying T=some (.slice e)) (hs:ax P (sizeOf e)=some sz):∀b w,Rep N h b->(execOp b.eval E).run P w=.ok (.value (.slice a k c)) w:=by
 intro b w d;have e1:=d.look f;have e2:=d.look g;subst i;have m:(0:Int)<=(k:Int)/\(k:Int)<=(c:Int):=⟨by omega,by omega⟩
 have e4:(if c=0 then a else a.map (λx=>x.add 0))=a:=by
  split
  ·rfl
  ·cases a with
   |none=>rfl
   |some z=>simp [Addr.add]
 simp [execOp,ho,Instr.sliceAt,Instr.slice,Instr.sliceBounds,Instr.sliceBound,run_underlying l,e1,e2,asIntOf,m.1,j,qV hs,e4]
theorem Ax(h:∀x,(enc x).length=sz)(d:0<sz)(m:Rd w S (.slice a ys.length c) enc sz ys):(Builtin.firstCells sz ys.length (.slice a ys.length c)).run P w=.ok (jO enc ys).toArray w:=by
 obtain ⟨_,p,c2,l,_,n⟩:=m;simp only [Value.slice.injEq] at l;obtain ⟨rfl,_,rfl⟩:=l;rcases y8 ys.length with e|e
 ·have:ys=[]:=y6 e;subst this;cases a<;>simp [Builtin.firstCells,loadCells,loadCellsFrom,jO]
 ·obtain ⟨y,g⟩:∃y,ys[0]? =some y:=⟨ys[0],zeg e⟩
  obtain ⟨i,j⟩:∃i,(enc y)[0]? =some i:=⟨(enc y)[0]'(by rw [h];exact d),zeg (by rw [h];exact d)⟩
  obtain ⟨b,k,rfl,_,_⟩:=n 0 y 0 i g j;refine run_firstCells_some (P:=P) w sz ys.length ⟨b,k,none⟩ ys.length c _ (qO h _) (λq u o=> ?_);rw [dR];obtain ⟨t,f,x,r,s,v⟩:=gZ h d o
  grind
theorem OW.appZ(C:St w0 S0 w L)(Z:∀x,(enc x).length=sz)
  (hl:vg l i=some ⟨some d,.call ⟨.builtin .append,[x,y].toArray,ats.toArray⟩,ty,pos,D,gdd⟩) (ha:ats=[j,n]) (hg:gd l I ⟨some d,.call ⟨.builtin .append,[x,y].toArray,ats.toArray⟩,ty,pos,D,gdd⟩=some true) (hN:Nat.blt d N=true) (hx:look I x=some (.slice a ys.length c)) (hy:look I y=some (.int kd G)) (r:G=(k:Int)) (ht:P.underlying j=some (.slice e)) (E:P.underlying n=some (.int .i64)) (f:tq P e sz m) (hr:Rd w S (.slice a ys.length c) enc sz ys) (z:α) (F:(ax P (zeroValue e)).map (·.cells.toList)=some (enc z)) (J:0<k) (hc:c<ys.length+k) (K:(ys.length+k)*m<=140737488355328)
  (h:∀g M O,St w0 S0 O (L++[qb (.slice (some ⟨g,0,none⟩) (ys.length+k) M) e enc sz (ys++List.replicate k z)])->ys.length+k<=M->OW P l N Q (i+1) ((d,.slice (some ⟨g,0,none⟩) (ys.length+k) M)::I) O):OW P l N Q i I w:=by
 subst ha;subst r;obtain ⟨s,q,hi,p,t,u,R⟩:=f.Ws;have hkb:k*m<=(ys.length+k)*m:=r6 _ (by omega);have hnb:ys.length+k<=(ys.length+k)*m:=TR _ f.Wy
 have v:(Builtin.firstCells s.size ys.length (.slice a ys.length c)).run P w.drew=.ok (jO enc ys).toArray w.drew:=by
  rw [t];have T:Rd w.drew S (.slice a ys.length c) enc sz ys:=hr;exact Ax Z f.pos T
 have o:=Lib.run_append_grow_zeros (P:=P) w j n ty e s q kd .i64 ht E hi p a ys.length c (jO enc ys) v k J (by rw [t];exact f.pos) hc (by omega) (by rw [u];omega) (by rw [u];exact growslice_fits (by omega) K)
 have U:q.cells.toList=enc z:=by
  cases r:ax P (zeroValue e) with
  |none=>rw [r] at F;cases F
  |some z'=>
   have h1:=qV r w;rw [r] at F;simp only [zeroValue,typeInfo,hi,p] at h1;have:z'=q:=by simpa [Sem.run,typeInfo,hi,p] using h1.symm
   grind
 have A:=grownCap_ge w (ys.length+k) c e;have V:grownCap w (ys.length+k) c e<=maxLen:=grownCap_le_maxLen w (ys.length+k) c e (by simp only [maxLen];omega);obtain ⟨W,hW⟩:∃W,W=(w.drew.alloc (.cells ((jO enc ys).toArray++Builtin.zeroCells q.cells k++Builtin.zeroCells q.cells (grownCap w (ys.length+k) c e-(ys.length+k))) e)):=⟨_,rfl⟩
 rw [<- hW] at o;refine j6 hl hg rfl hN (w':=W) (λb B=> ?_) (h w.heap.size _ W ?_ A)
 ·have e1:=B.look hx;have e2:=B.look hy;simp [execOp,resolve,invoke,builtin,e1,e2,o]
 ·subst hW;have X:=ox (enc:=enc) U k;refine C.push ⟨rfl,rfl,rfl,by simp,λk J _=>heap_alloc_old w.drew _ J⟩ ?_ (λb K=>pj K) xT;show dw _ e sz _ _ _;have Y:(ys++List.replicate k z).length=ys.length+k:=by simp
  have hf1:jO enc (ys++List.replicate k z)=jO enc ys++(Builtin.zeroCells q.cells k).toList:=by rw [iT,X]
  rw [Y];refine ⟨by grind [qO],.inr ⟨w.heap.size,0,_,_,rfl,by omega,heap_alloc_new w.drew _,A,V,?_,?_⟩⟩
  ·have e1:(jO enc ys).length=ys.length*sz:=qO Z _;simp only [Array.size_append,List.size_toArray,size_zeroCells,R,e1,<- w8,ya]
   grind
  grind [jO,qO]
theorem Cb{e:TypeId}{α:Type}{sz:Nat}{tS:TypeId}{cc:Nat}{b:α->List Value}{β:Type}{d:β->List Value}{xs:List α}{ys:List β}(h:St w0 S0 w L)(j1 j2:Nat)(r:j1≠j2)
  (D:L[j1]? =some (qb (.slice a1 N j) T b sz2 xs)) (E:L[j2]? =some (qb (.slice a n2 c2) T2 d sz3 ys))
  (M:P.funcs[kf]? =some B) (f:(B.name== "runtime.NumGoroutine")=false) (O:B.body.isNone=true) (Q:Extern.findNext B=none) (R:Extern.find B=some (Extern.SlicesOverlaps.overlaps #[tS,tS] #[tR])) (S:P.underlying tS=some (.slice e)) (hs:ax P (sizeOf e)=some sz) (s:0<sz3) (U:0<xs.length) (V:0<ys.length):
  (callFunc kf #[.slice a1 N j,.slice (shd a c2 q sz3) l2 cc]).run P w=.ok (.value (.bool false)) w:=by
 rw [run_callFunc_extern M f O Q R];have W:dw w T sz2 (.slice a1 N j) xs.length (jO b xs):=h.all j1 _ D;have X:dw w T2 sz3 (.slice a n2 c2) ys.length (jO d ys):=h.all j2 _ E;have Y:∀w,(Go.sizeOf e).run P w=.ok sz w:=λw=>qV hs w
 rcases W.2 with ⟨Z,_⟩|⟨g,o,cap,k,l,t,i,F,hm1,G,_⟩
 ·omega
 ·simp only [Value.slice.injEq] at l;obtain ⟨rfl,rfl,rfl⟩:=l;rcases X.2 with ⟨hz2,_⟩|⟨g2,m,I,c,n,p,u,J,hm2,K,_⟩
  ·omega
  ·simp only [Value.slice.injEq] at n;obtain ⟨rfl,rfl,rfl⟩:=n;have v:g≠g2:=λe=>h.apart j1 j2 _ _ r D E g (by simp [qb,xJ t]) (by grind [qb,xJ])
   obtain ⟨x,y⟩:∃x,shd (some ⟨g2,m,none⟩) c2 q sz3=some ⟨g2,x,none⟩:=by
    unfold shd;split
    ·exact ⟨_,rfl⟩
    ·exact ⟨m+q*sz3,by simp [Addr.add]⟩
   rw [y];have z:w.shape? g=some (T,k.size):=by unfold World.shape?;rw [i]
   have A:w.shape? g2=some (T2,c.size):=by unfold World.shape?;rw [u]
   have C:c.size≠0:=by
    have:0<c2*sz3:=Nat.mul_pos p s;omega
   rw [Lib.run_overlaps_apart w tS tR e S sz Y ⟨g,o,none⟩ ⟨g2,x,none⟩ xs.length j l2 cc v T T2 k.size c.size z A C ?_ ?_]
   ·rfl
   ·simp [World.frozen?,i]
   ·simp [World.frozen?,i]
theorem On{e:TypeId}{α:Type}{sz:Nat}{tS:TypeId}{b:α->List Value}{β:Type}{c:β->List Value}{xs:List α}{ys:List β}(d:St w0 S0 w L)(j1 j2:Nat)(f:Nat.beq j1 j2=false)
  (p:L[j1]? =some (qb (.slice a1 j i) T b sz2 xs)) (r:L[j2]? =some (qb (.slice J n2 c2) T2 c sz3 ys)) (ho:E.op=.call ⟨.value (.func kf),[x,y].toArray,ats.toArray⟩) (s:look z x=some (.slice a1 j i)) (t:look z y=some (.slice (shd J c2 q sz3) l2 k))
  (u:P.funcs[kf]? =some B) (h:(B.name== "runtime.NumGoroutine")=false) (v:B.body.isNone=true) (A:Extern.findNext B=none) (g:Extern.find B=some (Extern.SlicesOverlaps.overlaps #[tS,tS] #[tR])) (C:P.underlying tS=some (.slice e)) (hs:ax P (sizeOf e)=some sz) (l:0<sz3) (m:0<xs.length) (n:0<ys.length):
  ∀a,Rep N z a->(execOp a.eval E).run P w=.ok (.value (.bool false)) w:=by
 intro a o;have e1:=o.look s;have e2:=o.look t;have D:=Cb (P:=P) (tS:=tS) (tR:=tR) (e:=e) (l2:=l2) (cc:=k) (q:=q) d j1 j2 (r7 f) p r u h v A g C hs l m n;have e4:a.eval (.func kf)=.func (.func kf) #[] #[]:=rfl;simp [execOp,ho,resolve,Deferred.ofValue,invoke,e1,e2,e4,D,Result.andThen]
def P6(b:Nat)(xs:List α)(i:Int)(ys:List α):Option (List α×List α):=
 if 0<=i/\i<=xs.length/\(xs.length+ys.length)*b<=140737488355328 then some (xs.take i.toNat++ys++xs.drop i.toNat,ys) else none
theorem Cc(h:P6 N xs hi ys=some K):∃k:Nat,hi=(k:Int)/\k<=xs.length/\(xs.length+ys.length)*N<=140737488355328/\K=(xs.take k++ys++xs.drop k,ys):=by
 unfold P6 at h;split at h
 ·grind
 ·cases h
theorem am(a:hi=(k:Int))(h:k<=xs.length):cut xs hi (xs.length:Int)=some (xs.drop k):=by
 subst a;unfold cut;rw [d7 ⟨by omega,by omega,by omega⟩];simp
theorem oU(a:hi=(k:Int))(h:k<=xs.length):cut xs 0 hi=some (xs.take k):=by
 grind [cut]
theorem S4(h:k<=xs.length)(z:α):over (over (xs.take k++List.replicate (xs.length+ys.length-k) z) k ys) (k+ys.length) (xs.drop k)=xs.take k++ys++xs.drop k:=by
 have a:over (xs.take k++List.replicate (xs.length+ys.length-k) z) k ys=xs.take k++ys++List.replicate (xs.length-k) z:=by
  unfold over;rw [Tx (by simp;omega),Ty,Nat.min_self,s9 (l:=ys) (by simp;omega),TL,yr (by simp;omega),List.drop_replicate]
  grind
 rw [a];unfold over;have hl:(xs.take k++ys).length=k+ys.length:=by simp;omega
 rw [Tx (by omega),s9 (by omega),s9 (l:=xs.drop k) (by simp;omega),yr (l:=xs.take k++ys++List.replicate (xs.length-k) z) (i:=k+ys.length+(xs.drop k).length) (by simp;omega),i4]
theorem Oo(h:k<=xs.length)(b:s.length=m)(c:∀x,(enc x).length=sz)(ho:∀x,eU (enc x)=true):
  ∀y∈((xs.map enc++s).drop k).take ((xs.map enc++s).drop (k+m)).length,eU (fit sz y)=true:=by
 intro y a;have hl:((xs.map enc++s).drop (k+m)).length=xs.length-k:=by simp;omega
 rw [hl,<- List.drop_take] at a
 grind [FS]
theorem Lx(h:∀x,(enc x).length=sz)(ho:∀x,eU (enc x)=true):∀y∈(ys.map enc).take n,eU (fit sz y)=true:=by
 grind [FS]
theorem S5(h:k<=xs.length)(d:s.length=ys.length):
  over (over (xs.map enc++s) (k+ys.length) ((xs.map enc++s).drop k)) k (ys.map enc)=(xs.take k++ys++xs.drop k).map enc:=by
 obtain ⟨X,c⟩:∃X,X=xs.map enc++s:=⟨_,rfl⟩
 have b:X.length=xs.length+ys.length:=by rw [c];simp [d]
 have a:X.take xs.length=xs.map enc:=by grind
 rw [<- c]
 have e:over X (k+ys.length) (X.drop k)=X.take (k+ys.length)++(xs.drop k).map enc:=by
  unfold over;rw [yr (l:=X) (i:=k+ys.length+(X.drop k).length) (by simp;omega),i4]
  congr 1
  rw [b,show xs.length+ys.length-(k+ys.length)=xs.length-k by omega,List.map_drop,<- a,List.drop_take]
 rw [e];unfold over;have hl:(X.take (k+ys.length)).length=k+ys.length:=by simp;omega
 rw [Tx (by omega),Ty,Nat.min_eq_left (by omega),s9 (l:=ys.map enc) (by simp;omega),TL,yr (l:=X.take (k+ys.length)) (by simp;omega),hl];simp only [m6,Nat.sub_self,List.drop_zero,Tr,k8]
 congr 2
 have:=congrArg (List.take k) a;rw [Ty,Nat.min_eq_left h] at this;rw [this,List.map_take]
def Nl(xs:List α)(i j:Int):Option (List α):=
 if 0<=i/\i<=j/\j<=xs.length then some (xs.take i.toNat++xs.drop j.toNat) else none
theorem pJ(h:Nl xs G O=some ys):∃p hi:Nat,G=(p:Int)/\O=(hi:Int)/\p<=hi/\hi<=xs.length/\ys=xs.take p++xs.drop hi:=by
 unfold Nl at h;split at h
 ·rename_i a
  obtain ⟨p,rfl⟩:=zof a.1;obtain ⟨hi,rfl⟩:=zof (Int.le_trans a.1 a.2.1);cases h;exact ⟨p,hi,rfl,rfl,by omega,by omega,rfl⟩
 ·cases h
theorem SQ{p:Nat}(h:p<=q)(a:q<=xs.length)(z:α)(n:Nat):((over xs p (xs.drop q)).take (p+(xs.drop q).length)++List.replicate n z).take (p+(xs.drop q).length)=xs.take p++xs.drop q:=by
 have hl:(over xs p (xs.drop q)).length=xs.length:=me _ _ _ (by omega);have b:(xs.drop q).length=xs.length-q:=by simp
 rw [Tx (by grind),Ty,Nat.min_self];unfold over;rw [s9 (l:=xs.drop q) (by omega),Tx (by simp;omega),s9 (by simp;omega)]
open Go.RowKit
def H5{α:Type}(T:TypeId)(R:Rp α):Rp α where
 sz:=1
 own w c S x:=∃u,c=[.iface T u]/\R.own w [u] S x
 rd w F x c:=∃u,c=[.iface T u]/\R.rd w F x [u]
 len:=by rintro w c S x ⟨u,rfl,_⟩;rfl
 loc:=by rintro w a c S x b ⟨u,rfl,h⟩;exact ⟨u,rfl,R.loc w a _ _ _ b h⟩
 lt:=by rintro w c S x ⟨u,rfl,h⟩;exact R.lt _ _ _ _ h
 nd:=by rintro w c S x ⟨u,rfl,h⟩;exact R.nd _ _ _ _ h
 see:=by rintro w c S x F ⟨u,rfl,h⟩ d;exact ⟨u,rfl,R.see _ _ _ _ F h d⟩
 rlen:=by rintro w F x c ⟨u,rfl,h⟩;rfl
 Vk:=by rintro w a F e x c f g ⟨u,rfl,h⟩;exact ⟨u,rfl,R.Vk w a F e _ _ f g h⟩
def Oj{α β:Type}(A:Rp α)(B:Rp β)(b:A.sz=1)(d:B.sz=1):Rp (α⊕β) where
 sz:=1
 own w c S x:=match x with
  |.inl y=>A.own w c S y
  |.inr y=>B.own w c S y
 rd w F x c:=match x with
  |.inl y=>A.rd w F y c
  |.inr y=>B.rd w F y c
 len:=by
  rintro w c S (x|x) h
  ·exact (A.len w c S x h).trans b
  ·exact (B.len w c S x h).trans d
 loc:=by
  rintro w a c S (x|x) hb h
  ·exact A.loc w a c S x hb h
  ·exact B.loc w a c S x hb h
 lt:=by
  rintro w c S (x|x) h
  ·exact A.lt w c S x h
  ·exact B.lt w c S x h
 nd:=by
  rintro w c S (x|x) h
  ·exact A.nd w c S x h
  ·exact B.nd w c S x h
 see:=by
  rintro w c S (x|x) F h hF
  ·exact A.see w c S x F h hF
  ·exact B.see w c S x F h hF
 rlen:=by
  rintro w F (x|x) c h
  ·exact (A.rlen w F x c h).trans b
  ·exact (B.rlen w F x c h).trans d
 Vk:=by
  rintro w a F e (x|x) c h1 h2 h
  ·exact A.Vk w a F e x c h1 h2 h
  ·exact B.Vk w a F e x c h1 h2 h
def tf{α:Type}(R:Rp α)(css:List (List Value))(Ss:List (List Nat))(xs:List α):Item where
 S:=Ss.flatten
 Φ w:=css.length=xs.length/\Ss.length=xs.length/\∀(i:Nat)(c:List Value)(S:List Nat)(x:α),css[i]? =some c->Ss[i]? =some S->xs[i]? =some x->R.own w c S x
 loc w w' h hr:=by
  obtain ⟨g,j,d⟩:=hr;exact ⟨g,j,λi c S x k a l=>R.loc w w' c S x (λb e=>h b (j9.2 ⟨S,zmg a,e⟩)) (d i c S x k a l)⟩
 lt w hr b e:=by
  obtain ⟨g,j,d⟩:=hr;obtain ⟨S,a,f⟩:=j9.1 e;obtain ⟨i,hi,rfl⟩:=w6.1 a;exact R.lt _ _ _ _ (d i css[i] Ss[i] xs[i] (zeg (by omega)) (zeg hi) (zeg (by omega))) b f
def MLk(r:Nat)(k:Int)(v vz:Value)(b:Bool)(w:World):Prop:=∃A clock m,w.heap[r]? =some (.map A clock)/\oa (λv:Value=>v) m A.toList clock/\(ja m k).getD vz=v/\(ja m k).isSome=b
theorem St.sumL{b:A.sz=1}{c:V.sz=1}(h:St w0 S0 w L)(j:Nat)(a:L[j]? =some (itI (Oj A V b c) [v] S (.inl W))):St w0 S0 w (L.set j (itI A [v] S W)):=h.turn j a (h.all j _ a) rfl
theorem St.sumR{b:A.sz=1}{c:V.sz=1}(h:St w0 S0 w L)(j:Nat)(a:L[j]? =some (itI (Oj A V b c) [v] S (.inr X))):St w0 S0 w (L.set j (itI V [v] S X)):=h.turn j a (h.all j _ a) rfl
theorem St.ofL{β:Type}(B:Rp β)(b:A.sz=1)(c:B.sz=1)(h:St w0 S0 w L)(j:Nat)(a:L[j]? =some (itI A [v] S W)):St w0 S0 w (L.set j (itI (Oj A B b c) [v] S (.inl W))):=h.turn j a (h.all j _ a) rfl
theorem St.ofR{α:Type}(A:Rp α)(b:A.sz=1)(c:V.sz=1)(h:St w0 S0 w L)(j:Nat)(a:L[j]? =some (itI V [v] S X)):St w0 S0 w (L.set j (itI (Oj A V b c) [v] S (.inr X))):=h.turn j a (h.all j _ a) rfl
theorem St.untag(h:St w0 S0 w L)(j:Nat)(a:L[j]? =some (itI (H5 T A) [v] S W)):∃u,v=.iface T u/\St w0 S0 w (L.set j (itI A [u] S W)):=by
 obtain ⟨u,b,c⟩:=h.all j _ a;cases b;exact ⟨u,rfl,h.turn j a c rfl⟩
theorem St.tag(T:TypeId)(h:St w0 S0 w L)(j:Nat)(a:L[j]? =some (itI A [u] S W)):St w0 S0 w (L.set j (itI (H5 T A) [.iface T u] S W)):=h.turn j a ⟨u,rfl,h.all j _ a⟩ rfl
def Inv(P:Program)(v:Value)(name:String)(args:List Value)(f:FuncId)(args':List Value):Prop:=∀w,(invoke (.fn (.method name) #[]) (v::args).toArray).run P w=.ok (.enter f args'.toArray) w
def IM:Next->Option (FuncId×List Value)
 |.enter f args=>some (f,args.toList)
 |_=>none
theorem IP(h:(ax P (invoke (.fn (.method name) #[]) (v::args).toArray)).bind IM=some (kf,args')):Inv P v name args kf args':=by
 intro w;cases a:ax P (invoke (.fn (.method name) #[]) (v::args).toArray) with
 |none=>rw [a] at h;cases h
 |some n=>
  rw [a] at h;cases n with
  |enter g as=>
   simp only [zbs,IM,i6,o7] at h;obtain ⟨rfl,rfl⟩:=h
   simpa using qV a w
  |_=>cases h
def wD{α:Type}(P:Program):List Value->Sem α->Option (α×List Addr)
 |_,.pure a=>some (a,[])
 |vs,.program k=>wD P vs (k P)
 |v::vs,.load _ a k=>match wD P vs (k v) with
  |some (x,as)=>some (x,a::as)
  |none=>none
 |_,_=>none
theorem IR:∀{vs:List Value} {x:α} {as:List Addr},wD P vs Y=some (x,as)->(∀(i:Nat) a v,as[i]? =some a->vs[i]? =some v->w.cell? a=some v)->Y.run P w=.ok x w:=by
 induction Y with
 |pure b=>intro vs x as h _;simp only [wD,i6,o7] at h;obtain ⟨rfl,_⟩:=h;rfl
 |program k d=>intro vs x as h c;simp only [wD] at h;exact d P h c
 |load m a k d=>
  intro vs x as h c;cases vs with
  |nil=>simp [wD] at h
  |cons v vs=>
   simp only [wD] at h;split at h
   ·rename_i n e f
    simp only [i6,o7] at h;obtain ⟨rfl,rfl⟩:=h;have g:=c 0 a v rfl rfl;have:=d v f (λi b u j l=>c (i+1) b u (by simpa using j) (by simpa using l))
    simpa [Sem.run,g] using this
   ·cases h
 |_=>intro vs x as h _;cases vs<;>simp [wD] at h
def RM(P:Program)(v:Value)(name:String)(args:List Value)(f:FuncId)(args':List Value)(w:World):Prop:=(invoke (.fn (.method name) #[]) (v::args).toArray).run P w=.ok (.enter f args'.toArray) w
def FO:Next×List Addr->Option (FuncId×List Value×List Addr)
 |(.enter f args,as)=>some (f,args.toList,as)
 |_=>none
theorem Ok{a:Addr}(h:(wD P [u] (invoke (.fn (.method name) #[]) (v::args).toArray)).bind FO=some (kf,args',[a]))(f:w.cell? a=some u):RM P v name args kf args' w:=by
 cases c:wD P [u] (invoke (.fn (.method name) #[]) (v::args).toArray) with
 |none=>rw [c] at h;cases h
 |some n=>
  rw [c] at h;obtain ⟨n,as⟩:=n;cases n with
  |enter g j=>
   simp only [zbs,FO,i6,o7] at h;obtain ⟨rfl,rfl,rfl⟩:=h
   have:=IR c (λi b y d e=>by
    cases i with
    |zero=>simp only [TH,i6] at d e;subst d e;exact f
    |succ i=>simp at d)
   simpa [RM] using this
  |_=>cases h
def Ol(P:Program)(v:Value)(name:String)(args:List Value)(w:World)(R:Ending->World->Prop):Prop:=∃f args',RM P v name args f args' w/\Calls P f args'.toArray w R
def looks(fr:List (Nat×Value)):List Operand->Option (List Value)
 |[]=>some []
 |x::r=>match look fr x,looks fr r with
  |some v,some vs=>some (v::vs)
  |_,_=>none
theorem GU(h:looks z a0=some vs)(a:Rep N z a3):a0.map a3.eval=vs:=by
 induction a0 generalizing vs with
 |nil=>simp only [looks,i6] at h;rw [<- h];rfl
 |cons x r i=>
  unfold looks at h;split at h
  ·rename_i v b c d
   cases h
   rw [p9,i d,a.look c]
  ·cases h
theorem OW.inv{ys:List Operand}
  (hl:vg l i=some ⟨some d,.call ⟨.invoke x name,ys.toArray,ats.toArray⟩,ty,pos,D,gdd⟩) (j:gd l z ⟨some d,.call ⟨.invoke x name,ys.toArray,ats.toArray⟩,ty,pos,D,gdd⟩=some true) (k:Nat.blt d N=true)
  (m:look z x=some v) (n:looks z ys=some args) (b:Ol P v name args w a4)
  (h:∀e c,a4 e c->∃v,e=.returned v/\OW P l N Q (i+1) ((d,v)::z) c):OW P l N Q i z w:=by
 obtain ⟨f,args',hi,b⟩:=b;refine OW.call hl j rfl k (λa g=> ?_) b h;have e1:=g.look m;have e2:=GU n g;have e3:=hi;unfold RM at e3;have e4:(ys.toArray.map a.eval)=args.toArray:=by rw [<- e2];simp
 have e5:(Array.map a.eval ys.toArray)=args.toArray:=e4;have e6:((#[v]:Array Value)++args.toArray)=(v::args).toArray:=by simp
 have e7:(execOp a.eval ⟨some d,.call ⟨.invoke x name,ys.toArray,ats.toArray⟩,ty,pos,D,gdd⟩).run P w=((invoke (.fn (.method name) #[]) (#[v]++args.toArray)).run P w):=by
  simp only [execOp,resolve,e1,e5];rfl
 rw [e7,e6,e3]
theorem FP(ho:E.op=.makeInterface T x)(h:look z x=some v)(b:ax P (Instr.makeInterface T v)=some (.iface T v)):∀a w,Rep N z a->(execOp a.eval E).run P w=.ok (.value (.iface T v)) w:=by
 intro a w c;have e1:=c.look h;have e2:=qV b w;simp [execOp,ho,e1,e2]
theorem FQ(h:(H5 T A).own w vs S W):eU vs=true:=by
 obtain ⟨u,rfl,_⟩:=h;rfl
theorem Lp{a:A.sz=1}{b:V.sz=1}(c:∀w vs S a5,A.own w vs S a5->eU vs=true)(d:∀w vs S a5,V.own w vs S a5->eU vs=true)(h:(Oj A V a b).own w vs S a5):eU vs=true:=by
 cases a5 with
 |inl a5=>exact c _ _ _ _ h
 |inr a5=>exact d _ _ _ _ h
theorem IU(h:(H5 T A).own w vs S W):∃T u,vs=[.iface T u]:=by
 obtain ⟨u,rfl,_⟩:=h;exact ⟨_,_,rfl⟩
theorem Om{a:A.sz=1}{b:V.sz=1}(c:∀w vs S a5,A.own w vs S a5->∃T u,vs=[.iface T u])(d:∀w vs S a5,V.own w vs S a5->∃T u,vs=[.iface T u])(h:(Oj A V a b).own w vs S a5):∃T u,vs=[.iface T u]:=by
 cases a5 with
 |inl a5=>exact c _ _ _ _ h
 |inr a5=>exact d _ _ _ _ h
theorem St.ifcell{L:List Item}(h:St w0 S0 w L)(j:Nat)(a:L[j]? =some (itI A [v] S W))(b:∀w c S W,A.own w c S W->∃T u,c=[.iface T u]):∃T u,v=.iface T u:=by
 obtain ⟨T,u,e⟩:=b _ _ _ _ (h.all j _ a)
 grind
theorem St.bchOne{α:Type}{R:Rp α}(h:St w0 S0 w L)(j:Nat){x:α}(a:L[j]? =some (itI R vs S x)):St w0 S0 w (L.set j (tf R [vs] [S] [x])):=by
 have b:R.own w vs S x:=h.all j _ a;refine h.turn j a ⟨rfl,rfl,λi c T z d e f=> ?_⟩ (by simp [tf,itI])
 grind
theorem St.bchApp{α:Type}{R:Rp α}{xs ys:List α}(h:St w0 S0 w L)(k j:Nat)(d:Nat.beq k j=false)(g:L[k]? =some (tf R css Ss xs))(n:L[j]? =some (tf R s Ss2 ys)):
  St w0 S0 w ((L.set k (tf R (css++s) (Ss++Ss2) (xs++ys))).set j nilI):=by
 obtain ⟨a1,r,a5⟩:=h.all k _ g;obtain ⟨t,v,b5⟩:=h.all j _ n;have q:∀b∈Ss.flatten,b∉Ss2.flatten:=λb o p=>h.apart k j _ _ (r7 d) g n b o p
 have get:∀{β:Type} (l m:List β) (i:Nat) (u:β),(l++m)[i]? =some u->(i<l.length/\l[i]? =some u)\/(l.length<=i/\m[i-l.length]? =some u):=by
  grind
 refine h.fuse k j d g n ⟨by simp;omega,by simp;omega,λi c T z x y A=> ?_⟩ ?_ (λb o=> ?_)
 ·grind
 ·show (Ss++Ss2).flatten.Nodup;rw [yx];exact k6.2 ⟨h.nd k _ g,h.nd j _ n,λa B b o e=>by grind⟩
 ·have f:b∈(Ss++Ss2).flatten:=o;rw [yx] at f;exact f8.1 f
theorem St.nOf{α:Type}{R:Rp α}{xs:List α}(h:St w0 S0 w L)(k j:Nat)(d:Nat.beq k j=false)(hs:sz=R.sz)(m:L[k]? =some (qb v T (fit sz) sz css))(l:L[j]? =some (tf R css Ss xs)):∃S,St w0 S0 w ((L.set k (nI T R v S xs none)).set j nilI):=by
 subst hs;obtain ⟨n,p,b5⟩:=h.all j _ l;have f:=h.all k _ m;have u:∀b∈(cM v).toList,b∉Ss.flatten:=h.apart k j _ _ (r7 d) m l;have q:Ss.flatten.Nodup:=h.nd j _ l;have g:((cM v).toList++Ss.flatten).Nodup:=k6.2 ⟨db,q,λa x b o e=>by grind⟩;refine ⟨_,h.fuse k j d m l (C:=nI T R v ((cM v).toList++Ss.flatten) xs none) ⟨css,Ss,⟨?_,n,p,rfl,g,(λ_ _ e=>by cases e),λi c S z _ r s t=>b5 i c S z r s t⟩⟩ g (λb o=>f8.1 o)⟩;rw [<- n];exact f
theorem St.mlookS{β:Type}{k:Int}(a:Rp β)(f:Option α->β)(b:St w0 S0 w L)(j:Nat)(o:L[j]? =some (mN N R S a6 none))(vz:Value)(p:∀w,a.own w [vz] [] (f none))(q:∀w c S x,R.own w c S x->a.own w c S (f (some x)))(d:∀w c S x,a.own w c S (f (some x))->R.own w c S x):
  ∃v e g,(ja a6 k=none->v=vz)/\MLk N k v vz (ja a6 k).isSome w/\St w0 S0 w (L.set j (mN N R e a6 (some (k,v)))++[itI a [v] g (f (ja a6 k))]):=by
 obtain ⟨v,e,g,m,Ss,h,l,i⟩:=Dc (k:=k) b j o vz p q d;obtain ⟨A,clock,r,s⟩:=l.map;have hs:=wa l.Vc k;refine ⟨v,e,g,λt=> ?_,⟨A,clock,m,r,s,i,?_⟩,h⟩
 ·rw [t] at hs;cases n:ja m k with
  |none=>rw [n] at i;exact i.symm
  |some u=>rw [n] at hs;cases hs
 ·exact hs
theorem IV(h:MLk sz hi v vz a7 w)(ho:E.op=.lookup T x y two)(n:look z x=some (.map (some sz)))(o:look z y=some (.int .i64 hi))
  (j:P.underlying T=some (.map tk te)) (f:P.underlying tk=some (.int kd)) (g:ax P (zeroValue te)=some vz):∀a,Rep N z a->(execOp a.eval E).run P w=.ok (.value (if two then .tuple #[v,.bool a7] else v)) w:=by
 intro a l;have e1:=l.look n;have e2:=l.look o;obtain ⟨A,clock,p,m,q,c,d⟩:=h;have e:=sY (P:=P) (w:=w) (k:=hi) f q;cases b:ja p hi with
 |none=>
  rw [xt.2 b] at e;rw [b] at d c;subst c;subst d;cases two<;>simp [execOp,ho,Instr.lookup,run_underlying j,e1,e2,dd m,aZ f,e,qV g]
 |some u=>
  obtain ⟨i,r,_⟩:=eW b;rw [r,b] at e;rw [b] at d c;subst c;subst d;cases two<;>simp [execOp,ho,Instr.lookup,run_underlying j,e1,e2,dd m,aZ f,e]
theorem Lt(h:MLk sz hi v vz a7 w)(ho:E.op=.lookup T x y false)(c:look z x=some (.map (some sz)))(d:look z y=some (.int .i64 hi))
 (e:P.underlying T=some (.map tk te)) (f:P.underlying tk=some (.int kd)) (b:ax P (zeroValue te)=some vz):∀a,Rep N z a->(execOp a.eval E).run P w=.ok (.value v) w:=IV (two:=false) h ho c d e f b
theorem Lu(h:MLk sz hi v vz a7 w)(ho:E.op=.lookup T x y true)(c:look z x=some (.map (some sz)))(d:look z y=some (.int .i64 hi))
 (e:P.underlying T=some (.map tk te)) (f:P.underlying tk=some (.int kd)) (b:ax P (zeroValue te)=some vz):∀a,Rep N z a->(execOp a.eval E).run P w=.ok (.value (.tuple #[v,.bool a7])) w:=IV (two:=true) h ho c d e f b
open Go.RowKit
def apart(a b:Int):Option Unit:=if a.toNat=b.toNat then none else some ()
open Go.RowKit
open Go.RowKit
theorem Giv.dn{α:Type}{R:Rp α}{xs:List α}(b:nth Fs e=some (.rn v' R xs))(c:KR (Nat.blt 0 R.sz) true)(n:Giv src Fs L js a8):Giv (.dn e::src) Fs L js (.rn v' R xs::a8):=
 ⟨λw0 Z w a s=>⟨RdN.give (by have:=c.h;simpa [x6] using this) (zD a b) s js,n.g w0 Z w a s⟩⟩
theorem Giv.oN{α:Type}{R:Rp α}{xs F:List α}(c:nth L j=some (nI T R v' S F none))(d:KR (mem? j js) false)(b:KR F xs)(n:Giv src Fs L js a8):
  Giv (.oN j::src) Fs L js (.rn v' R xs::a8):=
 ⟨λw0 Z w a s=>by
  have e:L[j]? =some (nI T R v' S xs none):=by rw [<- zQ,<- b.h];exact c
  exact ⟨s.seeN j e js d.h,n.g w0 Z w a s⟩⟩
theorem GO.co{f:Type}{S:Prop}{o:Option f}{sel:f->Option κ}{A:f->Option ρ}{D:f->κ->Option ρ}{p:f->α->Value×List Item}{b:f->κ->β->Value×List Item}{E:f->α->List Item}{L1:f->κ->β->List Item}[C:HasC o S]
  (I:S->Qm P kf args a8 Lin o sel p b) (J:gz L js []=some Lq) (K:Sim Lq Lin) (M:Giv src Fs L js a8) (j:KR (pcC P l N fr i) (some (kf,args))) (O:gz L S0 []=some Bq) (v:∀a9 q,mB (p a9 q).2 Bq=some (E a9 q)) (x:∀a9 k q,mB (b a9 k q).2 Bq=some (L1 a9 k q))
  (y:KR (zT (js++S0)) true) (R:∀a9 q,GO hs1 (A a9) r Fs (E a9 q) ((dst l i,(p a9 q).1)::fr) P B N w0 Z l (i+1) Q) (T:∀a9 k q,GO hs2 (D a9 k) r Fs (L1 a9 k q) ((dst l i,(b a9 k q).1)::fr) P B N w0 Z l (i+1) Q):
  GO (.co js src S0 hs2 hs1::hs) (o.bind λa9=>vK (sel a9) (A a9) (D a9)) r Fs L fr P B N w0 Z l i Q:=⟨λw a s q=>by
 obtain ⟨a9,U,F⟩:=zI q;have j:=j.h;unfold pcC at j;cases ho:okO l N fr i with
 |none=>rw [ho] at j;cases j
 |some op=>
  rw [ho] at j;obtain ⟨d,hl,z,m,V⟩:=jC ho;have e1:=xp J;have e2:=xp O;rw [K.e] at e1;rw [i4] at e1 e2;subst e1 e2;refine OW.fn hl z m V j ((I C.c).h.c w a9 (M.g w0 Z w a s) (s.part js (by have:=y.h;exact dL this)) U) ?_
  intro e G n;unfold RO at n;cases hs:sel a9 with
  |none=>
   rw [hs] at n;obtain ⟨t,rfl,s'⟩:=n;refine ⟨_,rfl,?_⟩;have u:=(R a9 t).o G a (by rw [bY (v a9 t)];exact s.join y.h s') (sy F hs)
   rw [vv hl m] at u;exact u
  |some k=>
   rw [hs] at n;obtain ⟨t,rfl,s'⟩:=n;refine ⟨_,rfl,?_⟩;have u:=(T a9 k t).o G a (by rw [bY (x a9 k t)];exact s.join y.h s') (sB F hs)
   rw [vv hl m] at u;exact u⟩
structure SL {σ ι:Type} (S:Prop) (P:Program) (k:FuncId) (args:List Value) (Fin:World->List Nat->List Fa) (L:List Item) (f:Option σ) (post:σ->ι->Value×List Item):Prop where
 h:S->∀wb Sb,Ctr P k args (Fin wb Sb) L f post
structure DA (src:List Src) (Fs:List Fa) (L:List Item) (js:List Nat) (Fin:World->List Nat->List Fa):Prop where
 g:∀w0 Z w,bO w0 Z Fs->St w0 Z w L->bO w (fp (sel L js)) (Fin w (fp (sel L js)))
theorem DA.nil:DA [] Fs L js (λ_ _=>[]):=⟨λ_ _ _ _ _=>trivial⟩
theorem DA.b(n:DA src Fs L js b0):DA (.b e::src) Fs L js (λc S=>.bo c S::b0 c S):=
 ⟨λw0 Z w a s=>⟨Bor.refl _ _,n.g w0 Z w a s⟩⟩
theorem DA.p(h:Giv [b3] Fs L js [.rd v' enc sz xs])(n:DA src Fs L js b0):
  DA (b3::src) Fs L js (λb S=>.rb b S v' enc sz xs::.rd v' enc sz xs::b0 b S):=
 ⟨λw0 Z w a s=>⟨(h.g w0 Z w a s).1,(h.g w0 Z w a s).1,n.g w0 Z w a s⟩⟩
theorem DA.t(h:Giv [.f e] Fs L js [.rd v' enc sz xs])(n:DA src Fs L js b0):
  DA (.c e::src) Fs L js (λb S=>.rd v' enc sz xs::b0 b S):=
 ⟨λw0 Z w a s=>⟨(h.g w0 Z w a s).1,n.g w0 Z w a s⟩⟩
theorem GO.cn{j:Type}{o:Option j}{k:j->Option ρ}{post:j->ι->Value×List Item}{L1:j->ι->List Item}[C:HasC o b4]
  (v:SL b4 P kf args b0 Lin o post) (x:gz L js []=some Lq) (y:Sim Lq Lin) (z:DA src Fs L js b0) (b:KR (pcC P l N fr i) (some (kf,args))) (A:gz L S0 []=some Bq) (D:∀a9 q,mB (post a9 q).2 Bq=some (L1 a9 q))
  (p:KR (zT (js++S0)) true) (n:∀a9 q,GO hs (k a9) r Fs (L1 a9 q) ((dst l i,(post a9 q).1)::fr) P B N w0 Z l (i+1) Q):GO (.cn js src S0::hs) (o.bind k) r Fs L fr P B N w0 Z l i Q:=⟨λw a s q=>by
 obtain ⟨a9,E,F⟩:=zI q;have b:=b.h;unfold pcC at b;cases ho:okO l N fr i with
 |none=>rw [ho] at b;cases b
 |some op=>
  rw [ho] at b;obtain ⟨d,hl,m,f,G⟩:=jC ho;have e1:=xp x;have e2:=xp A;rw [y.e] at e1;rw [i4] at e1 e2;subst e1 e2;refine OW.fn hl m f G b ((v.h C.c w (fp (sel L js))).c w a9 (z.g w0 Z w a s) (s.part js (by have:=p.h;exact dL this)) E) ?_
  rintro e I ⟨t,rfl,s'⟩;refine ⟨_,rfl,?_⟩;have u:=(n a9 t).o I a (by rw [bY (D a9 t)];exact s.join p.h s') F
  rw [vv hl f] at u;exact u⟩
def IQ(P:Program)(l:List Oper)(N:Nat)(Q:Exit->Act->World->Prop)(i:Nat)(fr:Fr)(B:Func):Ending->World->Prop:=λe w=>∃v,e=.returned v/\OW P l N Q (i+1) ((dst l i,v)::fr) w
def pcA(P:Program)(l:List Oper)(N:Nat)(fr:Fr)(i:Nat):List Value:=match pcC P l N fr i with
 |some p=>p.2
 |none=>[]
theorem GO.il{m:P.funcs[kf]? =some b5}(t:b5.body=some a9)(u:b5.ntmps=M)(c:KR ((pcC P l N fr i).map (·.1)) (some kf))(e:KR (Nat.ble (pcA P l N fr i).length M) true)
  (n:GC hs f r Fs L (sX 0 (pcA P l N fr i)) P b5 M w0 Z a9 (bodyPost P b5 (IQ P l N Q i fr B))):GO (.il m::hs) f r Fs L fr P B N w0 Z l i Q:=⟨λw a s q=>by
 have c:=c.h;have e:=e.h;have g:=n.o w a s q;unfold pcA at e g;cases b:pcC P l N fr i with
 |none=>rw [b] at c;cases c
 |some p=>
  rw [b] at c e g;simp only [t6,i6] at c;subst c;have v:=b;unfold pcC at b;cases ho:okO l N fr i with
  |none=>rw [ho] at b;cases b
  |some op=>
   rw [ho] at b;obtain ⟨d,hl,k,j,x⟩:=jC ho;unfold IQ at g;rw [vv hl j] at g;exact OW.inl hl k j x b m t u e g⟩
def SM(fn:Func)(fr:Fr):Value:=(P5 fn fr).getD undef
theorem GQ.ri(d:KR (P5 b5 fr').isSome true)(n:GO hs f r Fs L ((dst l i,SM b5 fr')::fr) P B N w0 Z l (i+1) Q):
  GQ (.ri::hs) f r Fs L fr' P B0 M w0 Z .ret (bodyPost P b5 (IQ P l N Q i fr B)):=⟨λw a s q=>by
 have c:=n.o w a s q;have d:=d.h;unfold SM at c;have hl:∀{l},b5.results.toList=l->b5.results=l.toArray:=λh=>by rw [<- h]
 cases b:P5 b5 fr' with
 |none=>rw [b] at d;cases d
 |some u=>
  rw [b] at c;simp only [Option.getD_some] at c;unfold P5 at b;split at b
  ·rename_i k e
   exact v8 (hl e) b ⟨_,rfl,c⟩
  ·rename_i k m e
   split at b
   ·rename_i x y g j
    cases b
    exact QW.ret2 (hl e) g j ⟨_,rfl,c⟩
   ·cases b
  ·rename_i k m t e
   split at b
   ·rename_i x y z g j p
    cases b
    exact QW.ret3 (hl e) g j p ⟨_,rfl,c⟩
   ·cases b
  ·cases b⟩
theorem Cel.ce(h:nth Fs e=some (.ce N o vs))(b:nth vs ff=some u):Cel Fs L w0 Z (.ce e ff) ⟨N,o+ff,none⟩ u:=
 ⟨λw a s=>(zD a h:Fa.ok w0 Z (.ce N o vs)) w L s ff u (by grind [zQ])⟩
theorem sM.ce(h:nth Fs e=some (.ce N o vs))(b:Iz vs ff n=some us):sM Fs L w0 Z (.cE e ff n) N (o+ff) us:=⟨λw a s j u c=>by
 rw [y9];exact (zD a h:Fa.ok w0 Z (.ce N o vs)) w L s (ff+j) u ((gI b).2 j u c)⟩
theorem Cel.nh{α:Type}{R:Rp α}{xs F:List α}{x:α}(b:nth L j=some (nI T R v' S F (some (n,vs))))(d:nth Fs q=some (.el v' N o hi xs x))(e:KR n hi.toNat)(g:nth vs ff=some u):
  Cel Fs L w0 Z (.nh j q ff) ⟨N,o+hi.toNat*R.sz+ff,none⟩ u:=⟨λw a s=>by
 obtain ⟨_,c,f⟩:=zD a d;have b:=b;rw [e.h] at b;exact s.nhole j (by rw [<- zQ];exact b) f ff u (by grind [zQ])⟩
theorem sM.nH{α:Type}{R:Rp α}{xs F:List α}{x:α}(b:nth L j=some (nI T R v' S F (some (n,vs))))(d:nth Fs q=some (.el v' N o hi xs x))(e:KR n hi.toNat)(f:Iz vs ff m=some us):
  sM Fs L w0 Z (.nH j q ff m) N (o+hi.toNat*R.sz+ff) us:=⟨λw a s k u g=>by
 obtain ⟨_,c,i⟩:=zD a d;have b:=b;rw [e.h] at b;rw [y9];exact s.nhole j (by rw [<- zQ];exact b) i (ff+k) u ((gI f).2 k u g)⟩
structure mK {β ι:Type} (ks:List Nat) (A:Rp β) (vs:ι->β->List Value) (fcs:ι->β->List Fa):Prop where
 o:∀w Z cs y,A.rd w Z y cs->∃i,cs=vs i y/\bO w Z (fcs i y)
theorem mK.row{enc:β->List Value}{b:∀x,(enc x).length=sz}{d:0<sz}:
  mK [1] (nF T enc sz b d) (λ(i:Option Addr×Nat)y=>[.slice i.1 y.length i.2]) (λi y=>[.rd (.slice i.1 y.length i.2) enc sz y]):=⟨by
 rintro w Z e y ⟨v,rfl,h⟩;obtain ⟨_,a,c,rfl⟩:=Rd.len h;exact ⟨(a,c),rfl,h,trivial⟩⟩
theorem mK.pair
  (h:mK [k] V b7 fcs) (a:mK (k2::S) b6 vs2 fcs2):mK (k::k2::S) (jo V b6) (λ(i:ι×κ)y=>b7 i.1 y.1++vs2 i.2 y.2) (λi y=>fcs i.1 y.1++fcs2 i.2 y.2):=⟨by
 rintro w Z e y ⟨g,c2,rfl,b,c⟩;obtain ⟨i,rfl,f⟩:=h.o w Z _ _ b;obtain ⟨j,rfl,d⟩:=a.o w Z _ _ c;exact ⟨(i,j),rfl,Nb w Z f d⟩⟩
theorem mK.st{hl:∀x b7,(b8 x b7).length=sz}(h:mK S V b7 fcs):
  mK (3::S) (qv b8 sz hl c3 V) (λ(i:ι)x=>b8 x (b7 i (c3 x))) (λi x=>fcs i (c3 x)):=⟨by
 rintro w Z c x ⟨us,rfl,a⟩;obtain ⟨i,rfl,f⟩:=h.o w Z _ _ a;exact ⟨i,rfl,f⟩⟩
theorem Sd(b:nth Fs e=some (.rn v' R xs))(d:mK S R c4 c5)
  (f:∀W g o q,mB Fs (.el v' g o hi xs W::.ce g (o+hi.toNat*R.sz) (c4 q W)::c5 q W)=some (c6 W g o q)) (a:bO w0 Z Fs) (h:idx xs hi=some W):∃g o q,bO w0 Z (c6 W g o q):=by
 have i:RdN w0 Z v' R.rd R.sz xs:=zD a b;obtain ⟨g,o,c,r,j,l,m⟩:=i.formv h;obtain ⟨q,rfl,n⟩:=d.o w0 Z _ _ l;exact ⟨g,o,q,mG (f W g o q) a ⟨⟨h,c,j⟩,λw L s' k u p=>m k u p w L s',n⟩⟩
theorem GO.bd(h:nth Fs e=some (.rn v' R xs))(b:mK S R c4 c5)
  (c:∀a9 g o q,mB Fs (.el v' g o hi xs a9::.ce g (o+hi.toNat*R.sz) (c4 q a9)::c5 q a9)=some (c6 a9 g o q)) (n:∀a9 g o q,GO hs (c7 a9) r (c6 a9 g o q) L fr P B N w0 Z l i Q):GO (.bd e S::hs) ((idx xs hi).bind c7) r Fs L fr P B N w0 Z l i Q:=⟨λw a s q=>by
 obtain ⟨a9,d,f⟩:=zI q;obtain ⟨g,o,j,k⟩:=Sd h b c a d;exact (n a9 g o j).o w k s f⟩
theorem N6(a:nth L j=some (nI T R v' S F ho))(b:KR F xs)(s:St w0 Z w L)(d:idx xs hi=some W):∃g o,(Fa.el v' g o hi xs W).ok w0 Z:=by
 have a:=a;rw [b.h] at a;obtain ⟨g,o,c,e⟩:=s.nrowv j (by rw [<- zQ];exact a) d
 exact ⟨g,o,d,c,e⟩
theorem GO.bn{α:Type}{R:Rp α}{xs F:List α}{k:α->Option ρ}{Fs1:α->Nat->Nat->List Fa}(b:nth L j=some (nI T R v' S F ho))(h:KR F xs)
  (c:∀a9 g o,vl Fs (.el v' g o hi xs a9)=some (Fs1 a9 g o)) (n:∀a9 g o,GO hs (k a9) r (Fs1 a9 g o) L fr P B N w0 Z l i Q):GO (.bn j::hs) ((idx xs hi).bind k) r Fs L fr P B N w0 Z l i Q:=⟨λw a s q=>by
 obtain ⟨a9,d,e⟩:=zI q;obtain ⟨g,o,f⟩:=N6 b h s d;exact (n a9 g o).o w (jw a f (c a9 g o)) s e⟩
theorem GS.bn{α:Type}{R:Rp α}{xs F:List α}{k:α->Option ρ}{Fs1:α->Nat->Nat->List Fa}(b:nth L j=some (nI T R v' S F ho))(h:KR F xs)
  (c:∀a9 g o,vl Fs (.el v' g o hi xs a9)=some (Fs1 a9 g o)) (n:∀a9 g o,GS hs (k a9) r (Fs1 a9 g o) L fr P B N w0 Z l i sz two Q):GS (.bn j::hs) ((idx xs hi).bind k) r Fs L fr P B N w0 Z l i sz two Q:=⟨λw a s q=>by
 obtain ⟨a9,d,e⟩:=zI q;obtain ⟨g,o,f⟩:=N6 b h s d;exact (n a9 g o).o w (jw a f (c a9 g o)) s e⟩
theorem GP.bn{α:Type}{R:Rp α}{xs F:List α}{k:α->Option ρ}{Fs1:α->Nat->Nat->List Fa}(b:nth L j=some (nI T R v' S F ho))(h:KR F xs)
  (c:∀a9 g o,vl Fs (.el v' g o hi xs a9)=some (Fs1 a9 g o)) (n:∀a9 g o,GP hs (k a9) r (Fs1 a9 g o) L fr P B N w0 Z l S0 js pd Q):GP (.bn j::hs) ((idx xs hi).bind k) r Fs L fr P B N w0 Z l S0 js pd Q:=⟨λw a s q=>by
 obtain ⟨a9,d,e⟩:=zI q;obtain ⟨g,o,f⟩:=N6 b h s d;exact (n a9 g o).o w (jw a f (c a9 g o)) s e⟩
theorem St.spread{B:List Item}(h:St w0 Z w (L++[c8]))(g:vL w c8.S B):St w0 Z w (L++B):=by
 have o:(L++[c8])[L.length]? =some c8:=by simp
 refine h.repart (λi k hi=> ?_) (λi j a b n hi r=> ?_)
 ·rcases bz hi with ⟨f,d⟩|⟨f,d⟩
  ·have e:(L++[c8])[i]? =some k:=by rw [ye f];exact d
   exact ⟨h.all i k e,h.nd i k e,λx c=>vG.2 ⟨i,k,e,c⟩⟩
  ·obtain ⟨p,q,t⟩:=g.1 _ _ d;exact ⟨p,q,λx c=>vG.2 ⟨L.length,c8,o,t x c⟩⟩
 ·have key:∀(i:Nat)(a:Item),i<L.length->L[i]? =some a->∀x∈a.S,x∉c8.S:=λi a f d x c=>by
   have e:(L++[c8])[i]? =some a:=by grind
   exact h.apart i L.length a c8 (by omega) e o x c
  intro x c l;rcases bz hi with ⟨f,d⟩|⟨f,d⟩<;>rcases bz r with ⟨e,m⟩|⟨e,m⟩
  ·exact h.apart i j a b n (by grind) (by grind) x c l
  ·exact key i a f d x c ((g.1 _ _ m).2.2 x l)
  ·exact key j b e m x l ((g.1 _ _ d).2.2 x c)
  ·exact g.2 _ _ a b (by omega) d m x c l
theorem jl.st{hl:∀x b7,(b8 x b7).length=sz}(h:jl S0 q Fs V b7 its fcs):
  jl (7::S0) q Fs (qv b8 sz hl c3 V) (λ(i:ι)x=>b8 x (b7 i (c3 x))) (λi x=>its i (c3 x)) (λi x=>fcs i (c3 x)):=⟨by
 rintro w0 Z w c S x a ⟨us,rfl,b⟩;obtain ⟨i,rfl,p,f⟩:=h.o w0 Z w _ _ _ a b
 grind⟩
theorem qK.st{hl:∀c9 vs,(b8 c9 vs).length=sz}(h:qK ks Fs L V js us X)(b:KR vs (b8 c9 us))(c:KR (c3 c9) X):qK (.s::ks) Fs L (qv b8 sz hl c3 V) js vs c9:=⟨λw0 Z w d a s=>by
 obtain ⟨S,e,n,f⟩:=h.o w0 Z w d a s;exact ⟨S,⟨us,b.h,by rw [c.h];exact e⟩,n,f⟩⟩
theorem N7(h:N≠sz):Nat.beq N sz=false:=by
 cases a:Nat.beq N sz with
 |false=>rfl
 |true=>exact absurd (w7 a) h
theorem rP{α:Type}{L:List α}{x y:α}{B:List α}(h:L[j]? =some y):(L++B).set j x=L.set j x++B:=by
 grind
theorem Adm.no{ι:Type}{vs:ι->α->List Value}{its:ι->α->List Item}{fcs:ι->α->List Fa}{Lq L1:ι×List Nat->List Item}{Fs1:ι×List Nat->List Fa}
  (m:nth Fs q=some (.el v' N o hi xs W)) (B:nth L j=some (nI T R v' S F none)) (b:KR F xs) (n:jl S0 e Fs R vs its fcs) (r:∀p,dx L j (nI T R v' p.2 F (some (hi.toNat,vs p.1 W)))=some (Lq p)) (t:∀p,mB (Lq p) (its p.1 W)=some (L1 p)) (u:∀p,mB Fs (fcs p.1 W)=some (Fs1 p)):
  Adm (.no j q e S0) Fs L L1 Fs1:=⟨λw0 Z w a s=>by
 obtain ⟨v,c,x⟩:=zD a m;have b:=b.h;subst b;have f:L[j]? =some (nI T R v' S F none):=by grind [zQ]
 obtain ⟨g,d,i,hl,y,l⟩:=s.nout j f v x;have ho:R.own w g i W:=l.all L.length (itI R g i W) (by simp);obtain ⟨k,rfl,z,A⟩:=n.o w0 Z w _ _ _ a ho;refine ⟨(k,d),?_,mG (u (k,d)) a A⟩;rw [bY (t (k,d)),qJ (r (k,d))];exact l.spread z⟩
theorem gR(b:qK ks Fs L R js vs W)(c:gz L S0 []=some Lr)(h:zT (js++S0)=true)(a:bO w0 Z Fs)(s:St w0 Z w L):∃S,St w0 Z w (Lr++[itI R vs S W]):=by
 obtain ⟨S,d,n,f⟩:=b.o w0 Z w (dL h) a s;have:=xp c;rw [i4] at this;subst this;exact ⟨S,s.gather js S0 h (C:=itI R vs S W) d n f⟩
theorem kU(h:St w0 Z w (L++[c8])):St w0 Z w L:=by
 have:=h.spread (B:=[]) vL.nil
 simpa using this
theorem Adm.nb{α:Type}{R:Rp α}{xs F:List α}{x y:α}
  (j:nth Fs q=some (.el v'' N o hi xs x)) (l:gz L S0 []=some Lr) (A:nth Lr k=some (nI T R v' S F (some (n,args)))) (m:qK ks Fs L R js vs y) (e:KR F xs) (g:KR n hi.toNat) (p:KR args vs) (r:KR (zT (js++S0)) true)
  (u:∀c,dx Lr k (nI T R v' c (F.set n y) none)=some (d0 c)):Adm (.nb k q S0 ks) Fs L d0 (λ_=>Fs):=⟨λw0 Z w a s=>by
 obtain ⟨v,_⟩:=zD a j;obtain ⟨i,z⟩:=gR m l r.h a s;have b:Lr[k]? =some (nI T R v' S F (some (n,args))):=by grind [zQ]
 have d:k<Lr.length:=(zes.1 b).1;obtain ⟨c,f⟩:=z.nback k Lr.length (S2:=i) (N7 (Nat.ne_of_lt d)) (t:=hi) (cs:=vs) (x:=x) (y:=y) (by rw [ye d,b,g.h,p.h]) (by simp) (by rw [e.h];exact v)
 refine ⟨c,?_,a⟩;rw [qJ (u c),g.h];rw [rP b,TM _ _ (by simp)] at f;simp at f;exact kU f⟩
theorem Adm.nb0{α:Type}{R:Rp α}{xs F:List α}{x y:α}
  (i:nth Fs q=some (.el v'' N o hi xs x)) (j:gz L S0 []=some Lr) (B:nth Lr k=some (nI T R v' S F (some (n,args)))) (l:qK ks Fs L R js vs y) (e:KR F xs) (m:KR n hi.toNat) (p:KR args vs) (r:KR y x) (u:KR (zT (js++S0)) true)
  (v:∀c,dx Lr k (nI T R v' c F none)=some (d0 c)):Adm (.nb0 k q S0 ks) Fs L d0 (λ_=>Fs):=⟨λw0 Z w a s=>by
 obtain ⟨z,_⟩:=zD a i;obtain ⟨g,A⟩:=gR l j u.h a s;have b:Lr[k]? =some (nI T R v' S F (some (n,args))):=by grind [zQ]
 have d:k<Lr.length:=(zes.1 b).1;obtain ⟨c,f⟩:=A.nback0 k Lr.length (S2:=g) (N7 (Nat.ne_of_lt d)) (t:=hi) (cs:=vs) (x:=y) (by rw [ye d,b,m.h,p.h]) (by simp) (by rw [e.h,r.h];exact z)
 refine ⟨c,?_,a⟩;rw [qJ (v c)];rw [rP b,TM _ _ (by simp)] at f;simp at f;exact kU f⟩
theorem GO.snG
  (t:∀i a9,ho=some (i,a9)->i=hi.toNat) (C:nth Fs q=some (.el v' j o hi xs W)) (D:gz L S0 []=some Lr) (hk:nth Lr k=some (nI T R v' S F ho)) (E:qK ks Fs L R js vs d2) (b:KR F xs) (G:KR vs.length m) (I:KR (eU vs) true)
  (J:KR (gA (stV l fr i)) (some vs)) (K:KR (stC P l fr i m) (some ⟨j,o+hi.toNat*R.sz,none⟩)) (M:KR (zT (js++S0)) true) (hL:∀d,dx Lr k (nI T R v' d (F.set hi.toNat d2) none)=some (d0 d))
  (n:∀d,GO hs f r Fs (d0 d) fr P B N w0 Z l (i+1) Q):GO (hh::hs) f r Fs L fr P B N w0 Z l i Q:=⟨λw a s e=>by
 obtain ⟨O,cp,U⟩:=zD a C;have b:=b.h;subst b;obtain ⟨z,V⟩:=gR E D M.h a s;have c:Lr[k]? =some (nI T R v' S F ho):=by grind [zQ]
 have g:k<Lr.length:=(zes.1 c).1;obtain ⟨t',x',y',ty,pos,af,g',u,hl,X,v,x,p,y⟩:=lS K.h J.h G.h;refine OW.stN (S2:=z) (u:=d2) (cs:=vs) V k Lr.length (N7 (Nat.ne_of_lt g)) (by rw [ye g,c]) t (by simp) U hl X O v rfl x p y (by rw [p];exact I.h) λd Y A=> ?_
 rw [rP c,TM _ _ (by simp)] at A;simp at A;exact (n d).o Y a (by grind [qJ,kU]) e⟩
theorem GO.sn{α:Type}{R:Rp α}{xs F:List α}{x y:α}
 (b:nth Fs q=some (.el v' j o hi xs x)) (c:gz L S0 []=some Lr) (d:nth Lr k=some (nI T R v' S F none)) (g:qK ks Fs L R js vs y) (h:KR F xs) (p:vs.length=m) (s:KR (eU vs) true)
 (t:KR (gA (stV l fr i)) (some vs)) (u:KR (stC P l fr i m) (some ⟨j,o+hi.toNat*R.sz,none⟩)) (v:KR (zT (js++S0)) true) (w:∀a,dx Lr k (nI T R v' a (F.set hi.toNat y) none)=some (d0 a))
 (n:∀a,GO hs f r Fs (d0 a) fr P B N w0 Z l (i+1) Q):GO (.sn k q S0 ks::hs) f r Fs L fr P B N w0 Z l i Q:=GO.snG (λ_ _ e=>by cases e) b c d g h ⟨p⟩ s t u v w n
open Go.RowKit
def px(j:Nat):Nat->Nat->List Nat
 |0,_=>[]
 |m+1,q=>match Nat.beq q j with
  |true=>px j m (q+1)
  |false=>q::px j m (q+1)
theorem GO.an{one:∀w U S d3,R.own w U S d3->eU U=true}
  (hq:nth Fs q=some (.oe (room (xs.length+ys.length) ff) d4)) (V:nth L k=some (nI T R v1 S F none)) (hj:nth L j=some (nI T R v2 S0 g none)) (u:KR F xs) (v:KR g ys) (A:KR (Nat.beq k j) false)
  (p:KR (apC P l N fr i) (some (v1,v2,T))) (G:KR (elB P T R.sz) (some ff)) (hL:∀a a9 b,dx L k (nI T R (.slice a (xs++ys).length a9) b (xs++ys) none)=some (e0 a a9 b)) (I:∀a a9 b,gz (e0 a a9 b) (px j L.length 0) []=some (e1 a a9 b)) (hd:KR (zT (px j L.length 0)) true)
  (n:∀a a9 b,GO hs f r Fs (e1 a a9 b) ((dst l i,.slice a (xs++ys).length a9)::fr) P B N w0 Z l (i+1) Q):GO (.an q k j one::hs) f r Fs L fr P B N w0 Z l i Q:=⟨λw a s J=>by
 have hu:room (xs.length+ys.length) ff=some d4:=zD a hq;have u:=u.h;have v:=v.h;subst u v;have p:=p.h;unfold apC at p;split at p
 ·rename_i d' x' y' t t' _ _ _ _ K
  split at p
  ·rename_i u' v' e' M hx hy ht
   cases p
   have M:=w7 M;subst M;obtain ⟨d,hl,hg,C,hN⟩:=jC K;simp only at C;subst C;refine OW.appN s k j A.h (by rw [<- zQ];exact V) (by rw [<- zQ];exact hj) hl rfl hg hN hx hy ht (tD G.h) (pm hu) one λv' b w' s'=> ?_
   have hlt:k<L.length:=(zes.1 (by rw [<- zQ];exact V)).1
   have W:=r7 A.h
   have D:((L.set k (nI T R v' b (F++g) none)).set j nilI)[k]? =some (nI T R v' b (F++g) none):=by
    grind
   obtain ⟨_,x,y,rfl⟩:=s'.nlen k D;have X:=s'.keep (px j L.length 0) hd.h
   have e3:sel ((L.set k (nI T R (.slice x (F++g).length y) b (F++g) none)).set j nilI) (px j L.length 0)=e1 x y b:=by
    have Y:=xp (I x y b);rw [i4,qJ (hL x y b)] at Y;rw [Y]
    have:∀(c:List Nat),j∉c->sel ((L.set k (nI T R (.slice x (F++g).length y) b (F++g) none)).set j nilI) c=sel (L.set k (nI T R (.slice x (F++g).length y) b (F++g) none)) c:=by
     intro c
     induction c with
     |nil=>intro _;rfl
     |cons z c O=>
      grind [sel]
    refine this _ ?_
    have:∀m q,j∉px j m q:=by
     intro m
     induction m with
     |zero=>intro q;simp [px]
     |succ m O=>
      intro q;unfold px;split
      ·exact O _
      ·rename_i E
       simp only [j5,not_or];exact ⟨λe=>by rw [e] at E;simp at E,O _⟩
    exact this _ _
   rw [e3] at X;have h1:=(n x y b).o w' a X J;rw [vv hl rfl] at h1;exact h1
  ·cases p
 ·cases p⟩
structure FH {α:Type} (kss:List (List Pa)) (Fs:List Fa) (L:List Item) (R:Rp α) (js:List Nat) (css:List (List Value)) (ys:List α):Prop where
 o:∀w0 Z w,zT js=true->bO w0 Z Fs->St w0 Z w L->∃Ss:List (List Nat),(tf R css Ss ys).Φ w/\Ss.flatten.Nodup/\∀b∈Ss.flatten,b∈fp (sel L js)
theorem FH.nil:FH [] Fs L R [] [] ([]:List α):=⟨λw0 Z w b a s=>⟨[],⟨rfl,rfl,λi c S x h=>by simp at h⟩,o5,by simp⟩⟩
theorem FH.cons(d:qK ks Fs L R j1 vs W)(e:FH kss Fs L R j2 css ys):FH (ks::kss) Fs L R (j1++j2) (vs::css) (W::ys):=⟨λw0 Z w h a s=>by
 obtain ⟨f,g,n,i⟩:=d.o w0 Z w (dL h) a s;obtain ⟨Ss,⟨e1,e2,e3⟩,n2,j⟩:=e.o w0 Z w (mI h) a s;refine ⟨f::Ss,⟨by simp [e1],by simp [e2],λk c S x l m p=> ?_⟩,?_,λb q=> ?_⟩
 ·grind
 ·grind [tB]
 grind [Ap,IC]⟩
theorem GO.ly{α:Type}{R:Rp α}{ys:List α}(M:FH kss Fs L R js css ys)(O:gz L S []=some Lr)(u:KR (rwC l N fr i) (some ys.length))(U:KR css.length ys.length)(V:KR (Nat.ble ys.length 9223372036854775807) true)
  (hs:KR (fh fr ((rwP l i).map (·.2))) true) (z:∀w,KR ((Instr.buildSlice (rwT l i) ys.length ((rwP l i).toArray.map λ(i,a9)=>(i,rho fr a9))).run P w) (.ok (.slice (some ⟨w.heap.size,0,none⟩) ys.length ys.length) (w.alloc (.cells (jO (fit R.sz) css).toArray T))))
  (G:KR (zT (js++S)) true) (hL:∀g b,vl Lr (nI T R (.slice (some ⟨g,0,none⟩) ys.length ys.length) b ys none)=some (e3 g b)) (n:∀g b,GO hs1 f r Fs (e3 g b) ((dst l i,.slice (some ⟨g,0,none⟩) ys.length ys.length)::fr) P B N w0 Z l (i+1) Q):GO (.ly T R S kss::hs1) f r Fs L fr P B N w0 Z l i Q:=⟨λw a s e=>by
 obtain ⟨Ss,W,X,Y⟩:=M.o w0 Z w (dL G.h) a s;have e0:=xp O;rw [i4] at e0;subst e0;have s2:=s.gather js S G.h (C:=tf R css Ss ys) W X Y;have u:=u.h;unfold rwC at u;split at u
 ·rename_i d' t' n' D _ _ _ _ ho
  obtain ⟨d,hl,hg,x,hN⟩:=jC ho;simp only at x;subst x;have E:n'=ys.length:=by simpa using u
  subst E;have e1:rwP l i=D:=by simp [rwP,hl]
  have e2:rwT l i=t':=by simp [rwT,hl]
  rw [e1] at hs z;rw [e2] at z;refine OW.row (α:=List Value) (enc:=fit R.sz) (sz:=R.sz) (ps:=D) s2 hl hg hN css U.h (λa9=>du _ _) V.h hs.h (λw=>(z w).h) λg I s'=> ?_
  have J:(sel L S++[tf R css Ss ys]).length=(sel L S).length+1:=by simp
  obtain ⟨b,m⟩:=s'.nOf (k:=(sel L S).length+1) (j:=(sel L S).length) (sz:=R.sz) (T:=T) (R:=R) (v:=.slice (some ⟨g,0,none⟩) ys.length ys.length) (css:=css) (Ss:=Ss) (xs:=ys) (N7 (by omega)) rfl (by grind) (by grind)
  have e4:((sel L S++[tf R css Ss ys]++[qb (.slice (some ⟨g,0,none⟩) ys.length ys.length) T (fit R.sz) R.sz css]).set ((sel L S).length+1) (nI T R (.slice (some ⟨g,0,none⟩) ys.length ys.length) b ys none)).set (sel L S).length nilI=sel L S++[nilI,nI T R (.slice (some ⟨g,0,none⟩) ys.length ys.length) b ys none]:=by
   grind
  rw [e4] at m
  have s4:St w0 Z I (sel L S++[nI T R (.slice (some ⟨g,0,none⟩) ys.length ys.length) b ys none]):=by
   refine m.repart (λk c hi=> ?_) (λp q A B hpq hp hq=> ?_)
   ·rcases bz hi with ⟨y,K⟩|⟨y,K⟩
    ·have t:(sel L S++[nilI,nI T R (.slice (some ⟨g,0,none⟩) ys.length ys.length) b ys none])[k]? =some c:=by rw [ye y];exact K
     exact ⟨m.all k c t,m.nd k c t,λa9 F=>vG.2 ⟨k,c,t,F⟩⟩
    ·have t:(sel L S++[nilI,nI T R (.slice (some ⟨g,0,none⟩) ys.length ys.length) b ys none])[(sel L S).length+1]? =some c:=by
      grind
     exact ⟨m.all _ c t,m.nd _ c t,λa9 F=>vG.2 ⟨_,c,t,F⟩⟩
   ·have key:∀(p:Nat)(A:Item),(sel L S++[nI T R (.slice (some ⟨g,0,none⟩) ys.length ys.length) b ys none])[p]? =some A->(sel L S++[nilI,nI T R (.slice (some ⟨g,0,none⟩) ys.length ys.length) b ys none])[if p<(sel L S).length then p else p+1]? =some A:=by
     grind
    refine m.apart _ _ A B ?_ (key p A hp) (key q B hq)
    grind
  have y:=(n g b).o I a (by grind [vS]) e;rw [vv hl rfl] at y;exact y
 ·cases u⟩
theorem GO.mN{α:Type}{R:Rp α}{x:α}{z:∀w,R.own w vs [] x}(I:nth Fs q=some (.oe (mkLen hi j) m))(b:KR (mkC P l N fr i) (some (hi,hi)))(c:KR (RL P l i) true)(e:KR (elB P (mkT P l i) R.sz) (some j))(A:KR ((ax P (zeroValue (mkT P l i))).map (·.cells.toList)) (some (fit R.sz vs)))
  (C:∀g S,vl L (nI (mkT P l i) R (.slice (some ⟨g,0,none⟩) m m) S (List.replicate m x) none)=some (e3 g S))
  (n:∀g S,GO hs f r Fs (e3 g S) ((dst l i,.slice (some ⟨g,0,none⟩) m m)::fr) P B N w0 Z l (i+1) Q):GO (.mN q R vs x z::hs) f r Fs L fr P B N w0 Z l i Q:=⟨λw a s J=>by
 have K:mkLen hi j=some m:=zD a I;have b:=b.h;unfold mkC at b;split at b
 ·rename_i V t W X _ _ _ _ k
  split at b
  ·rename_i Y a1 k2 b1 p u
   simp only [i6,o7] at b;obtain ⟨rfl,rfl⟩:=b;obtain ⟨d,hl,M,D,O⟩:=jC k;simp only at D;subst D;have c:=c.h;unfold RL at c;rw [hl] at c;simp only at c;split at c
   ·rename_i E F
    have e2:mkT P l i=E:=by simp [mkT,hl,F]
    rw [e2] at e A C;refine OW.make (α:=List Value) (enc:=fit R.sz) (sz:=R.sz) s hl M O p u F (tD e.h) vs A.h (λx=>du _ _) K λg U s'=> ?_
    have y:=s'.nNew (n:=m) (cs:=vs) (v:=.slice (some ⟨g,0,none⟩) m m) (T:=E) L.length R rfl (by simp) x z;rw [TM _ _ (by simp)] at y;simp at y;have G:=(n g _).o U a (by rw [vS (C g _)];exact y) J
    rw [vv hl rfl] at G;exact G
   ·cases c
  ·cases b
 ·cases b⟩
def srC(P:Program)(l:List Oper)(N:Nat)(fr:Fr)(i:Nat):Option ByteArray:=match okO l N fr i with
 |some ⟨_,.range t x,_,_,_,_⟩=>match P.underlying t,look fr x with
  |some .string,some (.string s)=>some s
  |_,_=>none
 |_=>none
theorem GO.sg(e:KR (srC P l N fr i).isSome true)(k:∀c,vl L (H4 c ((srC P l N fr i).getD ByteArray.empty) 0)=some (e2 c))(n:∀c,GO hs f r Fs (e2 c) ((dst l i,.pointer (some ⟨c,0,none⟩))::fr) P B N w0 Z l (i+1) Q):GO (.sg::hs) f r Fs L fr P B N w0 Z l i Q:=⟨λw a s q=>by
 have e:=e.h;cases b:srC P l N fr i with
 |none=>rw [b] at e;cases e
 |some s'=>
  rw [b] at k;unfold srC at b;split at b
  ·rename_i ho
   split at b
   ·rename_i m p
    cases b
    obtain ⟨d,hl,t,g,u⟩:=jC ho;simp only at g;subst g;refine OW.srange s hl t u p m λc v x=> ?_
    have j:=(n c).o v a (by grind [vS]) q;rw [vv hl rfl] at j;exact j
   ·cases b
  ·cases b⟩
def snC(l:List Oper)(N:Nat)(fr:Fr)(i:Nat):Option Nat:=match okO l N fr i with
 |some ⟨_,.next x true,_,_,_,_⟩=>match look fr x with
  |some (.pointer (some ⟨a,0,none⟩))=>some a
  |_=>none
 |_=>none
theorem GO.sx(m:nth L j=some (H4 sz e4 k))(b:KR (snC l N fr i) (some sz))(x:dx L j (H4 sz e4 (oJ e4 k))=some L1)
  (n:GO hs1 f r Fs L1 ((dst l i,.tuple [.bool true,.int .i64 (k:Int),.int .i32 (BT e4 k)].toArray)::fr) P B N w0 Z l (i+1) Q) (n2:GO hs2 A' r Fs L ((dst l i,.tuple [.bool false].toArray)::fr) P B N w0 Z l (i+1) Q):
  GO (.sx j hs1 hs2::hs) (@ite _ (decide (k<e4.size)=true) (instDecidableEqBool (decide (k<e4.size)) true) f A') r Fs L fr P B N w0 Z l i Q:=⟨λw a s q=>by
 have b:=b.h;unfold snC at b;split at b
 ·rename_i ho
  split at b
  ·rename_i p
   cases b
   obtain ⟨d,hl,t,g,u⟩:=jC ho;simp only at g;subst g;refine OW.snext s j (by rw [<- zQ];exact m) hl t u p (λe v y=> ?_) (λe=> ?_)
   ·have c:=n.o v a (by grind [qJ]) (sk q e);rw [vv hl rfl] at c;exact c
   ·have c:=n2.o w a s (su q e);rw [vv hl rfl] at c;exact c
  ·cases b
 ·cases b⟩
theorem Sim.sit(a:KR e4 s')(b:KR sz j)(n:Sim L L1):Sim (H4 N e4 sz::L) (H4 N s' j::L1):=⟨by rw [a.h,b.h,n.e]⟩
def clC(P:Program)(l:List Oper)(fr:Fr)(i:Nat):Option (Nat×Nat×Nat×List Value):=match vg l i with
 |some ⟨none,.call ⟨.builtin .clear,⟨[x]⟩,⟨t::a⟩⟩,ty,pos,c,g⟩=>match gd l fr ⟨none,.call ⟨.builtin .clear,⟨[x]⟩,⟨t::a⟩⟩,ty,pos,c,g⟩,look fr x,P.underlying t with
  |some true,some (.slice (some ⟨b,k,none⟩) (n+1) _),some (.slice e)=>match ax P (zeroValue e) with
   |some z=>some (b,k,n+1,(Builtin.zeroCells z.cells (n+1)).toList)
   |none=>none
  |_,_,_=>none
 |_=>none
theorem Lh(h:clC P l fr i=some (N,k,m,vs)):∃d3 t a ty pos b g a9 e5 z n,vg l i=some ⟨none,.call ⟨.builtin .clear,⟨[d3]⟩,⟨t::a⟩⟩,ty,pos,b,g⟩/\gd l fr ⟨none,.call ⟨.builtin .clear,⟨[d3]⟩,⟨t::a⟩⟩,ty,pos,b,g⟩=some true/\look fr d3=some (.slice (some ⟨N,k,none⟩) (n+1) a9)/\P.underlying t=some (.slice e5)/\ax P (zeroValue e5)=some z/\m=n+1/\(Builtin.zeroCells z.cells (n+1)).toList=vs:=by
 unfold clC at h
 grind
def zs(P:Program)(l:List Oper)(fr:Fr)(i:Nat):Nat->Option (List Value)
 |0=>some []
 |n+1=>match zs P l fr i n with
  |some q=>some ((match clC P l fr i with
   |some (_,_,_,v::_)=>v
   |_=>undef)::q)
  |none=>none
theorem GO.cp(p:nth L j=some (dv sz T args args' us))(I:zs P l fr i m=some vs)(b:fj args' vs k=some cs')(u:KR (clC P l fr i) (some (sz,args.length+k,m,vs)))(v:KR (eU vs) true)(y:KR (GR vs) true)
  (J:dx L j (dv sz T args cs' us)=some L1) (n:GO hs f r Fs L1 fr P B N w0 Z l (i+1) Q):GO (.cp j k m::hs) f r Fs L fr P B N w0 Z l i Q:=⟨λw a s q=>by
 obtain ⟨x,t,A,ty,pos,K,g,c,e,z,M,hl,C,D,E,F,rfl,d⟩:=Lh u.h;obtain ⟨e3,e4⟩:=bH b (by intro e5;have:=y.h;rw [e5] at this;cases this);refine OW.clearP (ats:=t::A) s j (by rw [<- zQ];exact p) hl C k D rfl E F vs d v.h (x7 e4) cs' e3 λG s'=> ?_
 exact n.o G a (by grind [qJ]) q⟩
theorem GO.bxe(k:KR (opT l i) T)(m:KR (gA (bxC l N fr i)) (some vs))(p:∀b,vl L (jL b T vs)=some (e2 b))
  (n:∀b,GO hs f r Fs (e2 b) ((dst l i,.pointer (some ⟨b,0,none⟩))::fr) P B N w0 Z l (i+1) Q):GO (.bxe T vs::hs) f r Fs L fr P B N w0 Z l i Q:=⟨λw a s q=>by
 obtain ⟨u,c,e⟩:=mH m.h;unfold bxC at c;split at c
 ·rename_i z t A _ _ _ _ ho
  obtain ⟨d,hl,v,g,x⟩:=jC ho;simp only at g;subst g;refine OW.box s hl v x c vs e λb y s'=> ?_
  have j:=(n b).o y a (by
   rw [vS (p b)];have:opT l i=t:=by simp [opT,hl]
   rw [<- k.h,this];exact s') q
  rw [vv hl rfl] at j;exact j
 ·cases c⟩
theorem GO.ste(e:nth L j=some (jL sz T vs))(c:fj vs us k=some cs')(p:us.length=m)(v:KR (gA (stV l fr i)) (some us))(x:KR (stC P l fr i m) (some ⟨sz,k,none⟩))
  (y:KR (eU us) true) (z:KR (GR us) true) (F:dx L j (jL sz T cs')=some L1) (n:GO hs f r Fs L1 fr P B N w0 Z l (i+1) Q):GO (.ste j k us::hs) f r Fs L fr P B N w0 Z l i Q:=⟨λw a s q=>by
 obtain ⟨t,G,I,ty,pos,J,g,u,hl,A,C,D,b,d⟩:=lS x.h v.h p;obtain ⟨e3,e4⟩:=bH c (by intro e5;have:=z.h;rw [e5] at this;cases this);refine OW.stB s j (by rw [<- zQ];exact e) hl A C D d (by rw [b];exact y.h) (by rw [b];exact x7 e4) cs' (by rw [b];exact e3) λE s'=> ?_
 exact n.o E a (by grind [qJ]) q⟩
def reh(v:Value):List Nat->Fr->Fr
 |[],fr=>fr
 |q::r,fr=>(q,v)::reh v r fr
def B3(fr:Fr):List Nat->List (Option Value)
 |[]=>[]
 |q::r=>lK fr q::B3 fr r
def B4(v:Value):List Nat->List (Option Value)
 |[]=>[]
 |_::r=>some v::B4 v r
theorem wN{fr:Fr}{N:Nat}{v:Value}{a:Act}(h:Rep N fr a):∀{qs:List Nat},B3 fr qs=B4 v qs->Rep N (reh v qs fr) a
 |[],_=>h
 |q::r,e=>by
  simp only [B3,B4,List.cons.injEq] at e;have b:=wN h e.2;refine {b with get:=λi u hi=> ?_};simp only [reh] at hi;rw [bF] at hi;split at hi
  ·rename_i c
   subst c;cases hi;exact h.get _ _ e.1
  ·exact b.get i u hi
theorem _root_.Go.Sx.St.rlen(s:St w0 Z w L)(h:nth L j=some (qb (.slice a m c) T enc sz xs)):m=xs.length:=by
 obtain ⟨_,b,d,e⟩:=s.len j (by rw [<- zQ];exact h)
 cases e;rfl
theorem _root_.Go.Sx.St.nlen'(s:St w0 Z w L)(h:nth L j=some (nI T R (.slice a m c) S xs ho)):m=xs.length:=by
 obtain ⟨_,b,d,e⟩:=s.nlen j (by rw [<- zQ];exact h)
 cases e;rfl
theorem dM{α:Type}{L L1:List α}{x:α}(h:L[j]? =some x)(a:dx L j x=some L1):L1=L:=by
 rw [qJ a];apply o4
 grind
theorem Adm.nc{α:Type}{enc:α->List Value}{xs:List α}(d:nth L j=some (qb (.slice a m c) T' enc sz xs))(e:nth L jb=some (jL N T vs))(b:KR (nth vs k) (some (.slice a m c)))
  (hs:dx vs k (.slice a xs.length c)=some cs') (f:dx L jb (jL N T cs')=some L1):Adm (.nc jb k j) Fs L (λ_:Unit=>L1) (λ_=>Fs):=⟨λw0 Z w g s=>⟨(),by
 have i:=s.rlen d;have b:=b.h;rw [i,zQ] at b;have e1:=dM b hs;subst e1;rw [dM (by rw [<- zQ];exact e) f]
 exact s,g⟩⟩
theorem Adm.nd{α:Type}{R:Rp α}{xs:List α}(d:nth L j=some (nI T' R (.slice a m c) S xs ho))(e:nth L jb=some (jL N T vs))(b:KR (nth vs k) (some (.slice a m c)))
  (hs:dx vs k (.slice a xs.length c)=some cs') (f:dx L jb (jL N T cs')=some L1):Adm (.nd jb k j) Fs L (λ_:Unit=>L1) (λ_=>Fs):=⟨λw0 Z w g s=>⟨(),by
 have i:=s.nlen' d;have b:=b.h;rw [i,zQ] at b;have e1:=dM b hs;subst e1;rw [dM (by rw [<- zQ];exact e) f]
 exact s,g⟩⟩
theorem GQ.nl{α:Type}{enc:α->List Value}{xs:List α}(e:nth L j=some (qb (.slice a m c) T enc sz xs))(d:KR (B3 fr qs) (B4 (.slice a m c) qs))
  (i:dx L j (qb (.slice a xs.length c) T enc sz xs)=some L1) (n:GQ hs f r Fs L1 (reh (.slice a xs.length c) qs fr) P B N w0 Z e5 Q):GQ (.nl j qs::hs) f r Fs L fr P B N w0 Z e5 Q:=⟨λw k s g b l=>by
 have p:=s.rlen e;have d:=d.h;rw [p] at d e
 have e1:L1=L:=by
  rw [qJ i];have q:L[j]? =some (qb (.slice a xs.length c) T enc sz xs):=by grind [zQ]
  apply o4
  grind
 subst e1;exact n.o w k s g b (wN l d)⟩
theorem GC.nl{α:Type}{enc:α->List Value}{xs:List α}(d:nth L j=some (qb (.slice a m c0) T enc sz xs))(c:KR (B3 fr qs) (B4 (.slice a m c0) qs))
  (e:dx L j (qb (.slice a xs.length c0) T enc sz xs)=some L1) (n:GC hs f r Fs L1 (reh (.slice a xs.length c0) qs fr) P B N w0 Z a9 Q):GC (.nl j qs::hs) f r Fs L fr P B N w0 Z a9 Q:=⟨λw i s g b k=>by
 have l:=s.rlen d;have c:=c.h;rw [l] at c d
 have e1:L1=L:=by
  rw [qJ e];have p:L[j]? =some (qb (.slice a xs.length c0) T enc sz xs):=by grind [zQ]
  apply o4
  grind
 subst e1;exact n.o w i s g b (wN k c)⟩
theorem GQ.nm{α:Type}{R:Rp α}{xs:List α}(i:nth L j=some (nI T R (.slice a m c) S xs ho))(e:KR (B3 fr qs) (B4 (.slice a m c) qs))
  (p:dx L j (nI T R (.slice a xs.length c) S xs ho)=some L1) (n:GQ hs f r Fs L1 (reh (.slice a xs.length c) qs fr) P B N w0 Z e5 Q):GQ (.nm j qs::hs) f r Fs L fr P B N w0 Z e5 Q:=⟨λw q s g b t=>by
 have u:=s.nlen' i;have e:=e.h;rw [u] at e i
 have e1:L1=L:=by
  rw [qJ p];have d:L[j]? =some (nI T R (.slice a xs.length c) S xs ho):=by rw [<- zQ];exact i
  apply o4
  intro k;by_cases l:j=k
  ·subst l;rw [yy (zes.1 d).1,d]
  ·rw [TE l]
 subst e1;exact n.o w q s g b (wN t e)⟩
theorem GC.nm{α:Type}{R:Rp α}{xs:List α}(e:nth L j=some (nI T R (.slice a m c0) S xs ho))(d:KR (B3 fr qs) (B4 (.slice a m c0) qs))
  (l:dx L j (nI T R (.slice a xs.length c0) S xs ho)=some L1) (n:GC hs f r Fs L1 (reh (.slice a xs.length c0) qs fr) P B N w0 Z a9 Q):GC (.nm j qs::hs) f r Fs L fr P B N w0 Z a9 Q:=⟨λw p s g b q=>by
 have t:=s.nlen' e;have d:=d.h;rw [t] at d e
 have e1:L1=L:=by
  rw [qJ l];have c:L[j]? =some (nI T R (.slice a xs.length c0) S xs ho):=by rw [<- zQ];exact e
  apply o4
  intro k;by_cases i:j=k
  ·subst i;rw [yy (zes.1 c).1,c]
  ·rw [TE i]
 subst e1;exact n.o w p s g b (wN q d)⟩
theorem Adm.shx{α β:Type}{R:Rp α}{ff:α->List Value->List Value}{hl:∀x vs,(ff x vs).length=sz}{g:α->β}{A:Rp β}{x:α}{y:β}
 (h:nth L j=some (jL N T args)) (a:R=qv ff sz hl g A) (b:qK ks Fs L A js vs y) (c:g x=y) (d:gz L Z []=some Lr) (e:∀S,vl Lr (itI (vu T R) [.pointer (some ⟨N,0,none⟩)] S x)=some (d0 S))
 (f:KR (zT ((j::js)++Z)) true) (i:KR args (ff x vs)):Adm (.shx j ks Z R x) Fs L d0 (λ_=>Fs):=⟨(Adm.sh h a b d e f i ⟨c⟩).o⟩
theorem Adm.shw{α β:Type}{R:Value->Rp α}{ff:α->List Value->List Value}{hl:∀x vs,(ff x vs).length=sz}{g:α->β}{A:Rp β}{x:α}{y:β}
 (m:nth L q=some (jL i T2 args)) (n:nth args k=some v) (h:nth L j=some (jL N T us)) (a:R v=qv ff sz hl g A) (b:qK ks Fs L A js vs y) (c:g x=y) (d:gz L Z []=some Lr) (e:∀S,vl Lr (itI (vu T (R v)) [.pointer (some ⟨N,0,none⟩)] S x)=some (d0 S))
 (f:KR (zT ((j::js)++Z)) true) (l:KR us (ff x vs)):Adm (.shw j ks Z R q k x) Fs L d0 (λ_=>Fs):=⟨(Adm.shx h a b c d e f l).o⟩
theorem Adm.s0x{α:Type}{enc:α->List Value}{h:∀x,(enc x).length=sz}{x:α}(a:nth L j=some (jL N T vs))(b:dx L j (itI (vu T (tu enc sz h)) [.pointer (some ⟨N,0,none⟩)] [N] x)=some Lq)(c:KR vs (enc x)):
 Adm (.s0x j enc sz x) Fs L (λ_:Unit=>Lq) (λ_=>Fs):=⟨(Adm.s0 a b c).o⟩
theorem LkV.pv(e:∀w0 Z w,bO w0 Z Fs->St w0 Z w L->xs.length<=c)(j:nth Fs q=some (.oe (cut xs 0 hi) ys))(h:cpC P l N fr i=some (.slice a n c,none,some hi,sz))(w:World)(f:bO w0 Z Fs)(s:St w0 Z w L):
  ∃o d,vg l i=some o/\gd l fr o=some true/\o.dst=some d/\Nat.blt d N=true/\∀g,Rep N fr g->(execOp g.eval o).run P w=.ok (.value (.slice a ys.length c)) w:=by
 unfold cpC at h;split at h
 ·rename_i ho
  split at h
  ·rename_i k m
   split at h
   ·rename_i p
    split at h
    ·split at h
     ·rename_i r
      cases h
      obtain ⟨d,hl,t,u,v⟩:=jC ho;exact ⟨_,d,hl,t,u,v,λb x=>sD sz rfl m r (zD f j) (e w0 Z w f s) k p b w x⟩
     ·cases h
    ·grind
    ·grind
    ·cases h
   ·cases h
  ·cases h
 ·cases h
theorem GO.pw{α:Type}{enc:α->List Value}{xs F ys:List α}(t:nth L j=some (qb (.slice a n c) T enc sz F))(u:nth Fs q=some (.oe (cut xs 0 hi) ys))(b:KR F xs)(v:KR (cpC P l N fr i) (some (.slice a n c,none,some hi,sz)))
  (m:GO hs f r Fs L ((dst l i,.slice a ys.length c)::fr) P B N w0 Z l (i+1) Q):GO (.pw j q::hs) f r Fs L fr P B N w0 Z l i Q:=⟨λw g s e=>by
 obtain ⟨o,d,hl,x,k,y,z⟩:=LkV.pv (Fs:=Fs) (L:=L) (w0:=w0) (Z:=Z) (λw0 Z w a s=>by rw [<- b.h];exact s.cap j (by rw [<- zQ];exact t)) u v.h w g s
 have p:=m.o w g s e;rw [vv hl k] at p;exact j6 hl x k y z p⟩
theorem Se(b:nth L j=some (qb (.slice a n c) T enc sz F))(d:KR F xs)(l:nth Fs q=some (.oe (cut xs 0 hi) ys))
  (m:∀W g o,mB Fs [.el (.slice a ys.length c) g o G ys W,.el (.slice a n c) g o G xs W]=some (Fs1 W g o)) (e:bO w0 Z Fs) (s:St w0 Z w L) (f:idx ys G=some W):∃g o,bO w0 Z (Fs1 W g o):=by
 have b:=b;rw [d.h] at b;have p:cut xs 0 hi=some ys:=zD e l;have i:=PF p f;obtain ⟨g,o,cap,k⟩:=s.rowv j (by rw [<- zQ];exact b) i
 refine ⟨g,o,mG (m W g o) e ⟨⟨f,cap,?_⟩,⟨i,cap,k⟩,trivial⟩⟩;cases k;rfl
theorem GO.vb{α:Type}{enc:α->List Value}{xs F ys:List α}{k:α->Option ρ}{Fs1:α->Nat->Nat->List Fa}(b:nth L j=some (qb (.slice a n c) T enc sz F))(d:nth Fs q=some (.oe (cut xs 0 hi) ys))(h:KR F xs)
  (f:∀a9 g o,mB Fs [.el (.slice a ys.length c) g o G ys a9,.el (.slice a n c) g o G xs a9]=some (Fs1 a9 g o)) (m:∀a9 g o,GO hs (k a9) r (Fs1 a9 g o) L fr P B N w0 Z l i Q):GO (.vb j q::hs) ((idx ys G).bind k) r Fs L fr P B N w0 Z l i Q:=⟨λw p s e=>by
 obtain ⟨a9,t,u⟩:=zI e;obtain ⟨g,o,v⟩:=Se b h d f p s t;exact (m a9 g o).o w v s u⟩
structure DG (κ:Type) where
 a:Nat
 s:List Nat
 k:κ
 u:Value
 t:List Nat
theorem jl.dep{α:Type}{R:Rp α}{l:∀v,(C v).sz=n}
  (p:KR n 1) (r:jl [k2] q Fs V e6 its2 e7):
  jl [8,k2] q Fs (RK (vu U R) V C n l) (λ(i:DG κ)y=>.pointer (some ⟨i.a,0,none⟩)::(e6 i.k y.2.1++[i.u]))
   (λi y=>itI (vu U R) [.pointer (some ⟨i.a,0,none⟩)] i.s y.1::(its2 i.k y.2.1++[itI (C (.pointer (some ⟨i.a,0,none⟩))) [i.u] i.t y.2.2])) (λi y=>e7 i.k y.2.1):=⟨by
 rintro w0 Z w J S y a ⟨v1,⟨x,K,z,A,rfl,rfl,c,d,⟨c2,d2,L,e,rfl,rfl,f,B,g⟩⟩,hv1⟩;have D:=(vu U R).nd w x z y.1 d;have j:=d;obtain ⟨b,cs',E,rfl,rfl,M⟩:=j;obtain rfl:v1=.pointer (some ⟨b,0,none⟩):=by grind
 have F:=(C (.pointer (some ⟨b,0,none⟩))).nd w d2 e y.2.2 g;have m:=(C (.pointer (some ⟨b,0,none⟩))).len w d2 e y.2.2 g;rw [l,p.h] at m
 match d2,m with
 |[u],_=>
 obtain ⟨i,rfl,G,I⟩:=r.o w0 Z w _ _ _ a B;exact ⟨⟨b,b::E,i,u,e⟩,rfl,(vL.single d D rfl).app (G.app (vL.single g F rfl) f) c,I⟩⟩
theorem qK.dep{α β:Type}{A:Rp α}{B:Rp β}{h:∀v,(C v).sz=n}{y:α}{b:β}(c:qK [e8] Fs L A j1 [v1] y)(d:qK [e9] Fs L B j2 vs b)(e:qK [k3] Fs L (C v1) S0 args c9):
  qK [.s,e8,e9,k3] Fs L (RK A B C n h) (j1++(j2++S0)) ([v1]++(vs++args)) (y,(b,c9)):=⟨λw0 Z w g a s=>by
 obtain ⟨S,o,i,f⟩:=(qK.pair c (qK.pair d e)).o w0 Z w g a s;exact ⟨S,⟨v1,o,rfl⟩,i,f⟩⟩
theorem qK.on:qK [.on] Fs L (BL U R) [] [.pointer none] none:=⟨λw0 Z w h a s=>⟨[],⟨rfl,rfl⟩,o5,by simp⟩⟩
theorem qK.os{α:Type}{R:Rp α}{y:α}(h:nth L j=some (itI (vu U R) [v] S y)):qK [.os j] Fs L (BL U R) [j] [v] (some y):=
 qK.item h λw ho=>ho
variable {g0:DG κ->List Fa}{g1:DG κ->List Item}
theorem GC.dg(n:∀a s k u t,GC hs f r (g0 ⟨a,s,k,u,t⟩) (g1 ⟨a,s,k,u,t⟩) fr P B N w0 Z a9 Q)(q:DG κ):GC hs f r (g0 q) (g1 q) fr P B N w0 Z a9 Q:=n q.a q.s q.k q.u q.t
theorem FI(d:nth L j=some (itI (BL U R) [u] S g2))(e:dx L j (itI (vu U R) [u] S W)=some (g3 W))(s:St w0 Z w L)(a:g2=some W):St w0 Z w (g3 W)/\∃b,u=.pointer (some ⟨b,0,none⟩):=by
 have h:L[j]? =some (itI (BL U R) [u] S g2):=by grind [zQ]
 have c:=s.optSome j h a;have f:=c.fptr (U:=U) (R:=R) (u:=u) (x:=W) j (by rw [yy (zes.1 h).1])
 grind [qJ]
theorem GO.fo(h:nth L j=some (itI (BL U R) [u] S g2))(c:∀y,dx L j (itI (vu U R) [u] S y)=some (g3 y))(n:∀y b,u=.pointer (some ⟨b,0,none⟩)->GO hs (c7 y) r Fs (g3 y) fr P B N w0 Z l i Q):GO (.fo j::hs) (g2.bind c7) r Fs L fr P B N w0 Z l i Q:=⟨λw a s q=>by
 obtain ⟨y,d,e⟩:=zI q;obtain ⟨f,b,g⟩:=FI h (c y) s d;exact (n y b g).o w a f e⟩
end Go.Sx
