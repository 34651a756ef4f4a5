/- Lemmas. -/
import Derived.Test.YtplmgfkghomelaaGreatDoorKH21
set_option linter.all false
namespace Go.Proofs.YtplmgfkghomelaaGreatDoor.KH
open Go.Sx
variable {g:Type}{h h':za}{c:zH}{ss:List (List zF)}{n a b d i j P:Nat}{rg:zb}{w' O:zA}{l:List g}{I J:za->Prop}{x:g}{p M:zd}{K:List ze}{r t:zp}{m T:zn}{v B:List zc}{z y:qn}{A W:List zp}{o F:zc}{q:vw}{C:zq}{u:List zA}{f:g->Nat}{D:zl}{G:List zF}{L:zF}{N:List zx}{Q:Int×Bool×za}{k:qw}{R E:Int}{e:ze}{U:qa}{S:List qa}{V s:zL}{ev:qr}
structure HJ (a b d:Nat) (h:za):Prop where
 UO:RJ h.Fd
 kC:∀(t:Nat) x,t<a->h.Um.Ub[t]? =some x->x.Ua≠2
 kW:∀(j:Nat) w x,h.LE[j]? =some w->h.Um.Ub[a+j]? =some x->x.Ua=2->w.Ue=true
 kO:∀(i:Nat) o x,h.Fn[i]? =some o->h.Um.Ub[a+b+i]? =some x->x.Ua=2->o.Ue=true
 kR:∀x,h.Um.Ub[a+b+d]? =some x->x.Ua=2->h.over=true
 ask:∀(j:Nat) w,h.LE[j]? =some w->w.TX.Ua=3->w.Va=none->1<=bS h.Fn ((a+j:Nat):Int)
 Vj:h.closed=true->∀r∈h.rings,r.waiting=[]
 Wp:∀(j:Nat) w,h.LE[j]? =some w->w.TX.Ua<=1->h.Fd.Uo.in_[j]? =some 0
 Wb:∀o∈h.Fn,o.Ue=true->o.TZ=[]
 fin:h.over=true->h.closed=true/\h.TZ=[]/\h.held=[]
theorem HJ.withK(l:HJ a b d h)(n:H7 h.Um m):HJ a b d (KH.withK h m):=by
 have c:∀(i:Nat) y,m.Ub[i]? =some y->y.Ua=2->∃x,h.Um.Ub[i]? =some x/\x.Ua=2:=λi y f e=>by
  have hl:=(zes.1 f).1;have p:=zeg (show i<h.Um.Ub.length by have:=n.1;omega);obtain ⟨z,u,g⟩:=n.2 i _ p
  grind
 exact {l with
  kC:=λt x q k e=>by obtain ⟨y,f,g⟩:=c t x k e;exact l.kC t y q f g
  kW:=λj w x r k e=>by obtain ⟨y,f,g⟩:=c _ x k e;exact l.kW j w y r f g
  kO:=λi o x s k e=>by obtain ⟨y,f,g⟩:=c _ x k e;exact l.kO i o y s f g
  kR:=λx k e=>by obtain ⟨y,f,g⟩:=c _ x k e;exact l.kR y f g}
theorem CS(l:List g):(l.map (λ_=>0)).sum=0:=by
 induction l with
 |nil=>rfl
 |cons x l i=>simp [i]
theorem HJ.rest(M:aQ c ss)(p:HI c ss n h)(m:HJ h.or.length h.LE.length h.Fn.length h)(J:∀t,t<h.Um.Ub.length->(∀x,h.Um.Ub[t]? =some x->x.Ua≠2)->¬ Rdy h t):
  (∀t,¬ Rdy h t)/\(∀k∈h.or,k.waits=false/\k.Uw=k.Uf.length)/\(∀w∈h.LE,w.TX.Ua=0)/\(h.closed=true->h.over=true):=by
 obtain ⟨T,U,V,W,X,Y⟩:=p.sizes M
 have all:∀t,¬ Rdy h t:=λt a=>by
  have A:t<h.Um.Ub.length:=by
   cases a with
   |c _ k B a=>have:=(zes.1 B).1;omega
   |w j w l a=>have:=(zes.1 l).1;omega
   |o i o d a=>have:=(zes.1 d).1;omega
   |r a=>omega
  refine J t A (λx C e=> ?_) a;cases a with
  |c _ k B a=>exact m.kC t x (zes.1 B).1 C e
  |w j w l a=>
   have b:=m.kW j w x l C e;have y:=(a.1 ((p.crew w (zmg l)).over b)).1
   grind
  |o i o d a=>
   have b:=m.kO i o x d C e;rcases a with q|q
   ·exact q (m.Wb o (zmg d) b)
   grind
  |r a=>
   have b:=a.1;rw [m.kR x C e] at b;cases b
 have K:∀o∈h.Fn,o.TZ=[]/\(h.closed=true->(∀w∈h.LE,w.Ue=true)->o.Ue=true):=λo d=>by
  obtain ⟨i,O⟩:=q8 d;have:¬ P9 h o:=λz=>all _ (.o i o O z)
  grind [P9]
 have D:∀f,bS h.Fn f=0:=λf=>by
  unfold bS;rw [Tv (g:=λ_=>0) λo d=>by rw [(K o d).1];rfl];exact CS _
 have l:∀w∈h.LE,w.TX.Ua=0/\(w.Ue=true\/h.closed=false/\∀r∈h.rings,r.waiting=[]):=λw l=>by
  obtain ⟨j,F⟩:=q8 l;have b:¬ P8 h w:=λz=>all _ (.w j w F z)
  have q:=(p.crew w l).UE.is;have y:=m.ask j w F;rw [D] at y
  have P:w.TX.Ua=0:=by
   rcases q with e|e|⟨e,_⟩|⟨e,_⟩
   ·exact e
   ·exact absurd ⟨λz=>by omega,λz=>by omega⟩ b
   ·exact absurd ⟨λz=>by omega,λz=>by omega⟩ b
   ·cases a:w.Va with
    |none=>have:=y e a;omega
    |some r=>exact absurd ⟨λz=>by omega,λ_=>by rw [a];rfl⟩ b
  refine ⟨P,?_⟩;by_cases G:w.Ue=true
  ·exact .inl G
  ·have N:¬ (h.closed=true\/∃r∈h.rings,r.waiting≠ []):=λz=>b ⟨λ_=>⟨by simpa using G,z⟩,λz=>by omega⟩
   grind
 have Z:∀r∈h.rings,r.waiting=[]:=by
  cases I:h.closed with
  |true=>exact m.Vj I
  |false=>
   obtain ⟨w,u⟩:∃w,w∈h.LE:=List.exists_mem_of_length_pos (by omega);have b:=(l w u).2;have q:=p.VH w u
   grind
 have Q:∀e∈h.Fd.Uo.in_,e=0:=λe G=>by
  obtain ⟨j,F⟩:=q8 G;have b:=(zes.1 F).1;have q:=p.UO.wk;have y:=p.crn M;have R:=zeg (show j<h.LE.length by omega);have N:=m.Wp j _ R (by grind)
  grind
 have E:∀x∈h.held,Fin h x:=λx C=>by
  grind [Fin]
 have v:h.TZ=[]/\h.held=[]/\(h.closed=true->h.over=true):=by
  cases d:h.over with
  |true=>have:=m.fin d;exact ⟨this.2.1,this.2.2,λ_=>rfl⟩
  |false=>
   have a:¬ Nq h:=λe=>all _ (.r e)
   unfold Nq at a
   have S:h.held=[]:=by
    cases S:h.held with
    |nil=>rfl
    |cons x xs=>exact absurd ⟨d,.inr (.inl ⟨x,by grind,E x (by grind)⟩)⟩ a
   grind
 refine ⟨all,λk B=> ?_,λw L=>(l w L).1,v.2.2⟩;obtain ⟨t,A⟩:=q8 B;obtain ⟨s,hs,I⟩:=p.at A;have b:¬ QV k:=λz=>all _ (.c t k A z)
 have q:=p.Vv t k A
 have y:gr h t=0:=by
  grind [gr,bX]
 rw [D,y] at q;have N:=I.Wr;have h5:=I.Uf
 grind [QV]
theorem Bj(h:∀o∈v,o.Ue=true->o.TZ=[])(a:∀o∈v,o.Ue=false):∀(l:List (Nat×zq)),∀o∈puts v l,o.Ue=true->o.TZ=[]:=λl o b e=>by
 obtain ⟨i,c⟩:=q8 b
 grind [eA]
theorem HJ.open(a:HI c ss n h)(d:h.closed=false):∀o∈h.Fn,o.Ue=false:=λo b=>by
 have:=a.VB o b
 grind
theorem HJ.put(c:HJ a b d h)(g:∀(i:Nat) o,v[i]? =some o->∃F,h.Fn[i]? =some F/\F.Ue=o.Ue)(k:∀f,bS h.Fn f<=bS v f)(l:∀o∈v,o.Ue=true->o.TZ=[])(e:h'={h with or:=h'.or,Fn:=v,TZ:=h'.TZ,Un:=h'.Un})(n:h.over=true->h'.TZ=[]):HJ a b d h':=by
 rw [e]
 exact {c with
  kO:=λi o x p r s=>by obtain ⟨F,t,u⟩:=g i o p;rw [<- u];exact c.kO i F x t r s
  ask:=λj w y m q=>t8 (c.ask j w y m q) (k _)
  Wb:=l
  fin:=λz=>⟨(c.fin z).1,n z,(c.fin z).2.2⟩}
theorem uP(os:List zc)(x:Nat×zq)(f:Int):bS os f<=bS (oG os x) f:=by
 unfold oG;split
 ·rename_i o h
  have a:=gL h (KI o x.2) f
  grind [uu,KI]
 grind
theorem nA(f:Int):∀(l:List (Nat×zq))(os:List zc),bS os f<=bS (puts os l) f
 |[],os=>k9 _
 |x::l,os=>t8 (uP os x f) (nA f l (oG os x))
theorem eQ(h:(LK m n z).Ub[i]? =some y):i=n\/m.Ub[i]? =some y:=by
 rcases jW (show (m.Ub.set n ⟨2,z.Vo⟩)[i]? =some y from h) with h|h
 ·exact .inl h.1
 ·exact .inr h.2
theorem HJ.crew(f:HJ a b d h){w:zA}(p:h.LE[j]? =some w)(s:w.Ue=true->w'.Ue=true)(g:RJ rg)(t:w'.TX.Ua=3->w'.Va=none->1<=bS h.Fn ((a+j:Nat):Int))(u:w'.TX.Ua<=1->rg.Uo.in_[j]? =some 0)(k:∀i:Nat,i≠j->h.Fd.Uo.in_[i]? =some 0->rg.Uo.in_[i]? =some 0)(l:h.closed=true->∀r∈A,r.waiting=[])(n:B=h.Fn)(e:ze):
  HJ a b d (wU h rg h.Um (h.LE.set j w') B A e):=by
 subst n
 exact {f with
  UO:=g
  kW:=λi v x c o m=>by
   rcases jW (show (h.LE.set j w')[i]? =some v from c) with ⟨rfl,rfl,_⟩|⟨_,c⟩
   ·exact s (f.kW _ w x p o m)
   ·exact f.kW i v x c o m
  ask:=λi v c m q=>by
   rcases jW (show (h.LE.set j w')[i]? =some v from c) with ⟨rfl,rfl,_⟩|⟨_,c⟩
   ·exact t m q
   ·exact f.ask i v c m q
  Vj:=l
  Wp:=λi v c m=>by
   rcases jW (show (h.LE.set j w')[i]? =some v from c) with ⟨rfl,rfl,_⟩|⟨y,c⟩
   ·exact u m
   ·exact k i y (f.Wp i v c m)}
theorem HJ.serve(c:HJ a b d h)(A:h.Fn[i]? =some o){B:List zq}(t:pR 2199023255552 o q F C B)(f:∀(j:Nat) w,u[j]? =some w->∃v,h.LE[j]? =some v/\w.TX=v.TX/\w.Ue=v.Ue/\(w.Va=none->v.Va=none/\C.Vf≠((a+j:Nat):Int)))(G:List zd)(K:List ze):
  HJ a b d (Ep h G u (h.Fn.set i F) K):=by
 have l:=t.sh
 exact {c with
  kW:=λj w y n x m=>by obtain ⟨v,s,z,D,E⟩:=f j w n;rw [D];exact c.kW j v y s x m
  kO:=λk p y g x m=>by
   rcases jW (show (h.Fn.set i F)[k]? =some p from g) with ⟨rfl,rfl,_⟩|⟨_,g⟩
   ·rw [l.2.2.1];exact c.kO _ o y A x m
   ·exact c.kO k p y g x m
  ask:=λj w n m r=>by
   obtain ⟨v,s,z,D,E⟩:=f j w n;obtain ⟨I,J⟩:=E r;have L:=c.ask j v s (by rw [<- z];exact m) I
   have M:=gL A F ((a+j:Nat):Int);have N:=uv B C ((a+j:Nat):Int);rw [t.TZ,t.Wc,d8 J] at*
   show 1<=bS (h.Fn.set i F) _;omega
  Wp:=λj w n m=>by obtain ⟨v,s,z,_⟩:=f j w n;exact c.Wp j v s (by rw [<- z];exact m)
  Wb:=λp g e=>by
   rcases r9 (show p∈h.Fn.set i F from g) with g|rfl
   ·exact c.Wb p g e
   ·rw [l.2.2.1] at e;have:=c.Wb o (zmg A) e;rw [t.TZ] at this;cases this}
theorem HJ.rul(c:HJ a b d h)(f:RJ rg)(g:rg.Uo.in_=h.Fd.Uo.in_)(e:h.over=false)(i:List zd)(l k:List zx)(K:List ze):HJ a b d (rV h rg i l k K):=
 {c with UO:=f,Wp:=λj w n m=>by show rg.Uo.in_[j]? =_;rw [g];exact c.Wp j w n m,fin:=λz=>by rw [show h.over=true from z] at e;cases e}
theorem Sw(hS:aQ c ss)(G:HI c ss n h)(ha:h.or.length=a)(hb:h.LE.length=b)(hd:h.Fn.length=d)(l:HJ a b d h)(A:Mv h P h'):HJ a b d h':=by
 cases A with
 |back P k ht C U=>exact {l with}
 |ask P k cmd h' ht C hat hc A=>
  cases A with
  |told E _=>exact {l with}
  |fire i r t n E g B _ _ hi hA=>exact {l with Vj:=λz=>by rw [show h.closed=true from z] at B;cases B}
  |items B _ _ _ _=>exact l.put (λi o I=>eA I) (λf=>nA f _ _) (Bj l.Wb (HJ.open G B) _) rfl (λz=>(l.fin z).2.1)
  |walk B _ _ _=>exact l.put (λi o I=>eA I) (λf=>nA f _ _) (Bj l.Wb (HJ.open G B) _) rfl (λz=>(l.fin z).2.1)
  |call B _ _=>exact {l with fin:=λz=>by have:=(l.fin z).1;rw [B] at this;cases this}
 |work j w h' C L A=>
  have hjl:=(zes.1 C).1;have hC:=G.crew w (zmg C);have hJw:=hC.UE;obtain ⟨hr1,hr2,hr4⟩:=G.hooks4 hS
  have M:∀{a:qT} {W:zl},w.TX.Ua=2->qA 2199023255552 w.TX=some (a,true,W)->Cx c.Up.toNat c.Maps.length w.TX a W:=λR D=>by
   grind [Jr]
  have V:∀(W:zl)(rp:Option zk)(O pc:Int)(e:ze),W.Ua=2->HJ a b d (wU h h.Fd h.Um (h.LE.set j ⟨W,O,pc,rp,w.Ue⟩) h.Fn h.rings e):=λW rp O pc e m=>
   l.crew (w':=⟨W,O,pc,rp,w.Ue⟩) C (λz=>z) l.UO (λz=>absurd (m.symm.trans z) (by decide)) (λz=>by grind) (λ_ _ z=>z) l.Vj rfl _
  cases A with
  |ends x m0 B hk U=>
   exact {l with
    kC:=λu y X s=>by
     rcases eQ s with e|s
     ·omega
     ·exact l.kC u y X s
    kW:=λi v y A s m=>by
     rcases jW (show (h.LE.set j _)[i]? =some v from A) with ⟨rfl,rfl,_⟩|⟨hn,A⟩
     ·rfl
     ·rcases eQ s with e|s
      ·omega
      ·exact l.kW i v y A s m
    kO:=λi o y I s m=>by
     rcases eQ s with e|s
     ·omega
     ·exact l.kO i o y I s m
    kR:=λy s m=>by
     rcases eQ s with e|s
     ·omega
     ·exact l.kR y s m
    ask:=λi v A m q=>by
     rcases jW (show (h.LE.set j _)[i]? =some v from A) with ⟨rfl,rfl,_⟩|⟨_,A⟩
     ·grind
     ·exact l.ask i v A m q
    Wp:=λi v A m=>by
     rcases jW (show (h.LE.set j _)[i]? =some v from A) with ⟨rfl,rfl,_⟩|⟨_,A⟩
     ·exact l.Wp _ w C m
     ·exact l.Wp i v A m}
  |take i r t q S O m0 B hi hwt htk c0 c1=>
   exact l.crew (w':=⟨⟨w.TX.UM,w.TX.Vh,1,⟨i,q,0,0,0,none⟩⟩,O,w.pc,w.Va,w.Ue⟩) C (λz=>z) l.UO (λz=>absurd (show (1:Int)=3 from z) (by decide)) (λ_=>l.Wp j w C (by omega)) (λ_ _ z=>z) (λz=>by grind) rfl _
  |skip st v p m1 hcu hsk=>
   exact l.crew (w':=inW w ⟨w.TX.UM,st,0,⟨0,⟨0,⟨0,0⟩⟩,0,0,0,none⟩⟩) C (λz=>z) l.UO (λz=>absurd (show (0:Int)=3 from z) (by decide)) (λ_=>l.Wp j w C (by omega)) (λ_ _ z=>z) l.Vj rfl _
  |enter v p m b e1 e2 Z e W m1 hcu hmo he hE=>
   obtain ⟨R,hm2,o,hjd⟩:=l.UO.cur G.UO hcu;obtain ⟨m3,b3,hm3,h1,h2,h3⟩:=G.module p;rw [hmo] at hm2 hm3;cases hm2;cases hm3;obtain ⟨e3,W2,hE2,_,hW⟩:=Cw hJw m1 h1 h2 h3 v p;rw [hE] at hE2;cases hE2
   have U:W.Ua=2:=by
    grind
   obtain ⟨⟨q1,q2,q3⟩,Q,hq2⟩:=A9 G.UO (j:Int);rw [he] at Q;cases Q;refine l.crew (w':=inW w W) (rg:=RP h.Fd Z) C (λz=>z) ⟨l.UO.VA,l.UO.hook⟩ (λz=>absurd (U.symm.trans z) (by decide)) (λz=>by have z:W.Ua<=1:=z;omega) (λi hn z=> ?_) l.Vj rfl _;show Z.in_[i]? =some 0
   grind
  |note x W R D k3=>
   rcases M R D with ⟨z,_⟩|⟨z,_⟩|⟨_,m,_⟩
   ·omega
   ·omega
   ·exact V _ _ _ _ _ m
  |ran x W R D k1=>
   rcases M R D with ⟨z,_⟩|⟨z,_⟩|⟨_,m,_⟩
   ·omega
   ·omega
   ·exact V _ _ _ _ _ m
  |done x W e1 Z R D k4 hlv=>
   obtain ⟨⟨q1,q2⟩,Q,hq2⟩:=Ba G.UO (j:Int);rw [hlv] at Q;cases Q
   have U:W.Ua=0:=by
    rcases M R D with ⟨_,m,_⟩|⟨z,_⟩|⟨z,_⟩
    ·exact m
    ·omega
    ·omega
   have hcr:=G.crn hS;have hwk:=G.UO.wk;refine l.crew (w':=inW w W) (rg:=RP h.Fd Z) C (λz=>z) ⟨l.UO.VA,l.UO.hook⟩ (λz=>absurd (U.symm.trans z) (by decide)) (λ_=> ?_) (λi hn z=> ?_) l.Vj rfl _
   ·show Z.in_[j]? =some 0
    grind
   ·show Z.in_[i]? =some 0
    grind
  |ask x W R D k2=>
   have hne:∀o∈h.Fn,o.Ue=false:=λo I=>by
    have h1:=G.VB o I;have h2:=hC.over
    grind
   obtain ⟨g1,g2,g3,g4⟩:0<=x.Item.UI/\x.Item.UI<c.Maps.length/\0<=x.Item.Op/\x.Item.Op<5:=by
    rcases M R D with ⟨z,_⟩|⟨_,_,_,_,_,_,g,_⟩|⟨z,_⟩
    ·omega
    ·grind
    ·omega
   obtain ⟨p,o,s1,s2,s3,s4,s5,s6⟩:=Ej G.own hS.sh hne (r:=⟨((a+j:Nat):Int),0,false,x.Item⟩) g1 g2 ⟨g3,g4⟩ (by have:=G.UZ;omega);have hput:=uw (os:=h.Fn) (x:=(iD x.Item.UV h.Fn.length,⟨((h.or.length+j:Nat):Int),0,false,x.Item⟩)) (by grind);have hle:=l.put (h':={h with Fn:=oG h.Fn (iD x.Item.UV h.Fn.length,⟨((h.or.length+j:Nat):Int),0,false,x.Item⟩)}) (λi o I=>pP I) (λf=>uP ..) (Bj l.Wb hne [_]) rfl (λz=>(l.fin z).2.1)
   have U:W.Ua=3:=by
    rcases M R D with ⟨z,_⟩|⟨_,m,_⟩|⟨z,_⟩
    ·omega
    ·exact m
    ·omega
   have:=hle.crew (j:=j) (w:=w) (w':={w with TX:=W,pc:=x.Pc}) C (λz=>z) l.UO (λ_ _=>by grind) (λz=>by grind) (λ_ _ z=>z) l.Vj rfl (AO 16 0 0 0 0 0 0 kE uz 0);exact {this with}
  |back r W m3 hr hA=>
   obtain ⟨W2,hW2,_,U,_⟩:=lD hJw m3 (hC.rep r hr)
   grind
 |serve i o h' I L A=>
  have hil:=(zes.1 I).1;have same:∀{u:Nat},u<a->∀(j:Nat) w,h.LE[j]? =some w->∃v,h.LE[j]? =some v/\w.TX=v.TX/\w.Ue=v.Ue/\(w.Va=none->v.Va=none/\(u:Int)≠((a+j:Nat):Int)):=λX j w C=>⟨w,C,rfl,rfl,λz=>⟨z,by omega⟩⟩
  cases A with
  |ends P x ht hl hk U=>
   exact {l with
    kC:=λu y X s=>by
     rcases eQ s with e|s
     ·omega
     ·exact l.kC u y X s
    kW:=λj v y A s m=>by
     have:=(zes.1 (show h.LE[j]? =some v from A)).1;rcases eQ s with e|s
     ·omega
     ·exact l.kW j v y A s m
    kO:=λk p y T s m=>by
     rcases jW (show (h.Fn.set i _)[k]? =some p from T) with ⟨rfl,rfl,_⟩|⟨hn,T⟩
     ·rfl
     ·rcases eQ s with e|s
      ·omega
      ·exact l.kO k p y T s m
    kR:=λy s m=>by
     rcases eQ s with e|s
     ·omega
     ·exact l.kR y s m
    ask:=λj w C m q=>by
     have h1:=l.ask j w C m q;have h2:_+th o.TZ _=_+th o.TZ _:=gL I {o with Ue:=true} ((a+j:Nat):Int)
     grind
    Wb:=λp T e=>by
     rcases r9 (show p∈h.Fn.set i _ from T) with T|rfl
     ·exact l.Wb p T e
     ·exact hl}
  |crew P q F x Y j w ht Q hf C=>
   refine l.serve I Q (λk v A=> ?_) _ _;rcases jW A with ⟨rfl,rfl,_⟩|⟨hn,A⟩
   ·exact ⟨w,C,rfl,rfl,λz=>by cases z⟩
   grind
  |walk q F x Y u k Q hf hk _ _ _=>exact l.serve I Q (by grind) _ _
  |item P q F x Y u k ht Q hf hk _ _ _=>exact l.serve I Q (by grind) _ _
 |rule h' L A=>
  have J:=L.1;cases A with
  |fin x u k _ _ _ _=>exact l.rul l.UO rfl J _ _ _ _
  |retired x u k _ _ _ _=>exact l.rul (l.UO.settled G.UO 1) rfl J _ _ _ _
  |over u k x hnf hl hc X hk U=>
   have B:=L.hyp hnf hl
   have hh:h.held=[]:=by
    rcases L.2 with z|⟨y,z1,z2⟩|z
    ·exact absurd hl z
    ·grind
    ·exact z.2.2
   exact {l with
    kC:=λu y X s=>by
     rcases eQ s with e|s
     ·omega
     ·exact l.kC u y X s
    kW:=λj v y A s m=>by
     have:=(zes.1 (show h.LE[j]? =some v from A)).1;rcases eQ s with e|s
     ·omega
     ·exact l.kW j v y A s m
    kO:=λk p y T s m=>by
     have:=(zes.1 (show h.Fn[k]? =some p from T)).1;rcases eQ s with e|s
     ·omega
     ·exact l.kO k p y T s m
    kR:=λy s m=>rfl
    fin:=λ_=>⟨B,hl,hh⟩}
  |refuse x Y u k _ _ _ _ _=>exact l.rul l.UO rfl J _ _ _ _
  |cmd x Y u k t N E K _ hl _ _ _ hc=>
   have:=Pv G l.UO (G.call x (by rw [hl];simp)).2.1 hc;exact l.rul this.1 this.2 J _ _ _ _
  |hold x Y v t _ _ _ _ hr=>
   have:=Pw G l.UO hr;exact l.rul this.1 this.2 J _ _ _ _
  |drain x Y _ _ _ _=>exact l.rul l.UO rfl J _ _ _ _
  |close x Y _ _ _ _=>
   exact {l with
    Vj:=λ_ r hr=>by
     grind [rW]
    fin:=λz=>by grind}
open Go.Sx
def vR(f:g->Nat)(l:List g):Nat:=(l.map f).sum
theorem cZ(f:g->Nat)(h:l[i]? =some x)(y:g):vR f (l.set i y)+f x=vR f l+f y:=by
 unfold vR;rw [yo];exact Ei (by grind) _
theorem nB(h:∀x∈l,f x=0):vR f l=0:=by
 unfold vR;rw [Tv (g:=λ_=>0) h];exact CS l
def CT(S:Nat)(x:zF):Nat:=4+max 1 (min 16 x.UC.length)+S+if x.TY=3 then 770 else 0
def Ad(S:Nat)(k:zd):Nat:=if k.waits then 1+vR (CT S) (k.Uf.drop (k.Uw.toNat+1)) else vR (CT S) (k.Uf.drop k.Uw.toNat)
def DD(w:zA):Nat:=(if w.Ue then 0 else 1)+if w.TX.Ua=1 then 769 else if w.TX.Ua=2 then 3*(oj w.TX).toNat else if w.TX.Ua=3 then 3*(oj w.TX).toNat-2 else 0
def wm(o:zc):Nat:=(if o.Ue then 0 else 1)+o.TZ.length
def phi(h:za):Nat:=vR (Ad h.Fn.length) h.or+vR DD h.LE+vR wm h.Fn+vR (λr:zp=>770*r.waiting.length) h.rings+2*h.TZ.length+h.held.length+if h.over then 0 else 1
theorem Sy(h:WJ n a D)(f:D.Ua=2\/D.Ua=3):1<=oj D:=by
 have go:∀{s:Int},Q4 a D s->1<=oj D:=λ⟨m,j,M,p,i,c,d,_,b,_⟩=>by
  rw [lC c b];exact O0 d.VA b.fit b.lt
 rcases h.is with e|e|e|e
 ·omega
 ·omega
 ·exact go e.2
 ·exact go e.2
theorem Mr(h:G[i]? =some L):vR (CT n) (G.drop i)=CT n L+vR (CT n) (G.drop (i+1)):=by
 obtain ⟨hl,rfl⟩:=zes.1 h;unfold vR;rw [TQ hl,p9,y5]
theorem Gk{os:List zc}(x:Nat×zq):vR wm (oG os x)<=vR wm os+1:=by
 grind [oG,cZ,wm,KI]
theorem Bl:∀(l:List (Nat×zq))(os:List zc),vR wm (puts os l)<=vR wm os+l.length
 |[],os=>k9 _
 |x::l,os=>by
  have h:=Bl l (oG os x)
  grind [Gk,vR,wm,puts,oG]
theorem EZ{k:zd}(a:h.or[n]? =some k){x:Nat}(b:Ad h.Fn.length (DB p)+x+1<=Ad h.Fn.length k)(c:vR (λr:zp=>770*r.waiting.length) A<=vR (λr:zp=>770*r.waiting.length) h.rings+x)(g:zL):phi (Cf h n p K A g)+1<=phi h:=by
 grind [cZ,Ad,DB,phi,Cf]
theorem E0(b:h.or[n]? =some M)(a:v.length=h.Fn.length)(c:Ad h.Fn.length p+vR wm v+2*N.length+1<=Ad h.Fn.length M+vR wm h.Fn+2*h.TZ.length):phi (Ja h n M p v N)+1<=phi h:=by
 grind [cZ,Ad,phi,Ja]
theorem ml(b:h.LE[j]? =some O)(a:v.length=h.Fn.length)(c:DD w'+vR wm v+vR (λr:zp=>770*r.waiting.length) A+1<=DD O+vR wm h.Fn+vR (λr:zp=>770*r.waiting.length) h.rings)(e:ze):phi (wU h rg m (h.LE.set j w') v A e)+1<=phi h:=by
 grind [cZ,DD,phi,wU]
theorem ry(f:g->Nat){y:g}(h:l[i]? =some x)(e:f y=f x):vR f (l.set i y)=vR f l:=by
 grind [cZ]
theorem Rl(hS:aQ c ss)(P:HI c ss n h)(hJ:RJ h.Fd)(L:Mv h d h'):phi h'+1<=phi h:=by
 cases L with
 |back d k D B hm=>
  obtain ⟨s,hs,f⟩:=P.at D;have h1:=f.Wi;have h2:=f.WD B;have h3:=hS.sl s (zmg hs);refine EZ D (x:=0) ?_ (k9 _) _
  grind [Ad,DB,qq]
 |ask d k cmd h' D B hat hc L=>
  obtain ⟨s,hs,f⟩:=P.at D;have h1:=f.Wi;have h2:=f.Wr;have h3:=hS.sl s (zmg hs)
  have hkw:Ad h.Fn.length k=CT h.Fn.length cmd+vR (CT h.Fn.length) (k.Uf.drop (k.Uw.toNat+1)):=by
   grind [Ad,Mr]
  have hfin:∀A,Ad h.Fn.length (DB (withA k A))=vR (CT h.Fn.length) (k.Uf.drop (k.Uw.toNat+1)):=λA=>by
   grind [Ad,DB,withA,qq]
  have hwait:∀m r p,Ad h.Fn.length (uA k m r p)=1+vR (CT h.Fn.length) (k.Uf.drop (k.Uw.toNat+1)):=λm r p=>by
   grind [Ad,uA]
  cases L with
  |told E _=>
   refine EZ D (x:=0) ?_ (k9 _) _
   grind [CT]
  |fire i r t n E g G hk3 _ hi hA=>
   have R:=P.Vn r (zmg hi);obtain ⟨n2,e2,r2,g2,a1,a2,a3,a4⟩:=kD R.1 cmd.Uv h.UL;rw [hA] at a1;cases a1;refine EZ D (x:=770) ?_ ?_ _
   ·grind [CT]
   grind [cZ,zp]
  |items G hkd h1 h16 hg=>
   refine E0 D (pO _ _) ?_
   grind [Bl,vI,bv,gj,CT]
  |walk G hkd _ _=>
   refine E0 D (pO _ _) ?_
   grind [Bl,aD,ka,CT]
  |call G _ _=>
   refine E0 D rfl ?_
   grind [CT]
 |work j w h' B I L=>
  have hC:=P.crew w (zmg B);have M:=hC.UE;obtain ⟨hr1,hr2,hr4⟩:=P.hooks4 hS
  have O:∀{a:qT} {W:zl},w.TX.Ua=2->qA 2199023255552 w.TX=some (a,true,W)->Cx c.Up.toNat c.Maps.length w.TX a W/\WJ c.Up.toNat c.Maps.length W:=λC l=>by
   grind [Jr]
  have Q:=λz=>Sy M (.inl z)
  have hp3:=λz=>Sy M (.inr z)
  cases L with
  |ends x m0 G f hm=>
   refine ml B rfl ?_ _;have:=(I.1 m0).1
   grind [DD]
  |take i r t q S cur m0 G hi hwt htk c0 c1=>
   refine ml B rfl ?_ _;have R:=P.Vn r (zmg hi);obtain ⟨r2,t1,t2,t3,t4⟩:=ni R.1 h.UL hwt
   grind [cZ,zp,DD]
  |skip st v p m1 U hsk=>
   refine ml B rfl ?_ _;unfold DD inW;simp [m1];omega
  |enter v p m b e1 e2 ck e W m1 U hmo he hE=>
   obtain ⟨C,V,o,hjd⟩:=hJ.cur P.UO U;obtain ⟨m3,b3,X,h1,h2,h3⟩:=P.module p;rw [hmo] at V X;cases V;cases X;obtain ⟨e3,W2,Y,_,hW⟩:=Cw M m1 h1 h2 h3 v p;rw [hE] at Y;cases Y;refine ml B rfl ?_ _;rcases hW with ⟨z,_,o2,q2,z2⟩|⟨_,z,z2⟩
   ·grind
   ·have hcost:wF m.Code m.Code.length<=256:=by
     obtain ⟨o3,p3,e3,Z,hc3⟩:=ng m;rw [hjd] at Z;cases Z;rcases hc3 with ⟨z,_⟩|⟨_,_,j,_,hSd⟩
     ·exact absurd rfl z
     ·exact hSd.VA.WH
    grind [DD,inW,oj]
  |note x W C l k3=>
   refine ml B rfl ?_ _;have Q:=Q C;rcases (O C l).1 with ⟨z,_⟩|⟨z,_⟩|⟨_,m,_,_,_,_,hl⟩
   ·omega
   ·omega
   grind [DD,inW]
  |ran x W C l k1=>
   refine ml B rfl ?_ _;have Q:=Q C;rcases (O C l).1 with ⟨z,_⟩|⟨z,_⟩|⟨_,m,_,_,_,_,hl⟩
   ·omega
   ·omega
   grind [DD,inW]
  |done x W e1 ck C l k4 hlv=>
   refine ml B rfl ?_ _;have Q:=Q C;rcases (O C l).1 with ⟨_,m,_⟩|⟨z,_⟩|⟨z,_⟩
   ·grind [DD,inW]
   ·omega
   ·omega
  |ask x W C l k2=>
   refine ml B (pN _ _) ?_ _;have Q:=Q C;have:=Gk (os:=h.Fn) (iD x.Item.UV h.Fn.length,⟨((h.or.length+j:Nat):Int),0,false,x.Item⟩);generalize vR wm (oG h.Fn _)=z at this |-;rcases (O C l).1 with ⟨z,_⟩|⟨_,m,_,_,_,_,_,hl⟩|⟨z,_⟩
   ·omega
   ·grind [Sy,DD]
   ·omega
  |back r W m3 hr hA=>
   refine ml B rfl ?_ _;obtain ⟨W2,hW2,hJ2,hm,_,_,_,_,hl⟩:=lD M m3 (hC.rep r hr)
   grind [DD]
 |serve i o h' ho I L=>
  have hown:∀{q:vw} {F:zc} {x:zq} {J:List zq},pR 2199023255552 o q F x J->vR wm (h.Fn.set i F)+1=vR wm h.Fn:=λ{q F x J}T=>by
   have:=cZ wm ho F
   have:wm o=wm F+1:=by
    unfold wm;rw [T.TZ,T.Wc,T.sh.2.2.1];simp;omega
   omega
  have hcli:∀{u:Nat} {k:zd},h.or[u]? =some k->∀r p,vR (Ad h.Fn.length) (h.or.set u (Jf k r p))=vR (Ad h.Fn.length) h.or:=λf r p=>ry _ f rfl
  cases L with
  |ends d x D hl f hm=>
   have:=cZ wm ho {o with Ue:=true}
   have he:o.Ue=false:=by
    rcases I with z|z
    ·exact absurd hl z
    ·exact z.2.2
   grind [wm,phi]
  |crew d q F x J j w D T hf B=>
   have:=hown T;have:=ry DD (y:=Sm w q.UJ) B rfl
   grind [phi,Ep]
  |walk q F x J u k T hf f _ _ _=>
   grind [phi,Ep]
  |item d q F x J u k D T hf f _ _ _=>
   grind [phi,Ep]
 |rule h' I L=>
  have hov:=I.1;have hcli:∀{u:Nat} {k:zd},h.or[u]? =some k->∀N E,vR (Ad h.Fn.length) (h.or.set u (rU k N E))=vR (Ad h.Fn.length) h.or:=λf N E=>ry _ f rfl
  have hera:∀{i:Nat} {x:zx},h.held[i]? =some x->(h.held.eraseIdx i).length+1=h.held.length:=λ{i x}hx=>by
   grind
  cases L with
  |fin i x u k hx _ _ f _=>
   grind [phi,rV]
  |retired i x u k hx _ _ f _=>
   grind [phi,rV]
  |over u k x hnf hl hc f _ _=>
   grind [phi]
  |refuse x J u k _ hl _ _ f=>
   grind [phi,rV,hl]
  |cmd x J u k t N E K _ hl _ _ f hc=>
   grind [phi,rV,hl]
  |hold x J v t _ hl _ _ hr=>
   grind [phi,rV,hl]
  |drain x J _ hl _ _=>
   grind [phi,rV,hl]
  |close x J _ hl _ _=>
   grind [vR,zp,rW,nB,phi,hl]
open Go.Sx
theorem Ms(a:Mv h n h'):h'.Um.LT=h.Um.LT:=by
 cases a with
 |back=>rfl
 |ask _ _ _ _ _ _ _ _ a=>cases a<;>rfl
 |work _ _ _ _ _ a=>cases a<;>rfl
 |serve _ _ _ _ _ a=>cases a<;>rfl
 |rule _ _ a=>cases a<;>rfl
theorem J6(a:Mv h n h'):h'.or.length=h.or.length/\h'.LE.length=h.LE.length/\h'.Fn.length=h.Fn.length:=by
 cases a with
 |back=>exact ⟨j8,rfl,rfl⟩
 |ask _ _ _ _ _ _ _ _ a=>cases a<;>simp [Cf,Ja,pO]
 |work _ _ _ _ _ a=>cases a<;>simp [wU,pN]
 |serve _ _ _ _ _ a=>cases a<;>simp [Ep]
 |rule _ _ a=>cases a<;>simp [rV]
structure HR (c:zH) (ss:List (List zF)) (P n:Nat) (h:za):Prop where
 inv:HI c ss n h
 more:HJ h.or.length h.LE.length h.Fn.length h
 left:n+phi h<=P
 turn:h.Um.LT=n
 WG:P<100000000
open Go.Sx
theorem uQ{g:Type}{f:g->Nat}{k:Nat}:∀{l:List g},(∀x∈l,f x<=k)->vR f l<=l.length*k
 |[],_=>by simp [vR]
 |x::l,hl=>by
  have a:=hl x zcs;have b:=uQ λy h=>hl y (zcm _ h)
  rw [u4,w8]
  grind [vR]
theorem J7(a:KG c ss h):HR c ss (phi h) 0 h:=by
 obtain ⟨n,_,_⟩:=FZ a;have L:=a.hk;have M:=a.wk;have N:=a.sh;have O:=a.cl;have q:=a.sl;obtain ⟨r,os,P,f,g,Q,R,S,T,U,V,⟨v,y⟩,⟨A,B⟩,rfl⟩:=a.is;obtain ⟨W,l,X,Y,Z⟩:=WJ.new (H:=c.Up.toNat) (K:=c.Maps.length) (by omega);rw [g] at l;obtain rfl:=i8 l
 have hm:∀{i:Nat} {x:qn},(List.replicate (ss.length+c.Uc.toNat+c.Ui.toNat+1) (qn.mk 0 0))[i]? =some x->x.Ua=0:=λb=>by
  grind
 have C:∀{j:Nat} {w:zA},(List.replicate c.Uc.toNat (nj f))[j]? =some w->w=nj f/\j<c.Uc.toNat:=λb=>⟨TB (zmg b),by grind⟩
 have D:∀o∈os,o.TZ=[]/\o.Ue=false:=λo h=>by
  obtain ⟨i,hi⟩:=q8 h
  grind
 refine ⟨n,⟨⟨λp x b=>by grind [ja],λi u hu hv=> ?_⟩,(λt x _ b e=>by grind),(λj w x _ b e=>by grind),(λi o x _ b e=>by grind),(λx b e=>by grind),(λj w d m _=> ?_),(λz=>by cases z),(λj w d _=> ?_),(λo h e=>(D o h).1),(λz=>by cases z)⟩,by omega,rfl,?_⟩
 ·grind
 ·rw [(C d).1] at m;have m:f.Ua=3:=m;omega
 ·grind
 ·have E:vR (Ad os.length) (ss.map tg)<=(ss.map tg).length*(64*794):=uQ λk F=>by
   obtain ⟨s,G,rfl⟩:=x2.1 F
   have E:vR (CT os.length) s<=s.length*794:=uQ λx _=>by
    grind [CT]
   have I:=q s G;have J:Ad os.length (tg s)=vR (CT os.length) s:=rfl
   grind
  have I:vR DD (List.replicate c.Uc.toNat (nj f))<=(List.replicate c.Uc.toNat (nj f)).length*1:=uQ λw d=>by
   grind [DD,nj]
  have J:vR wm os<=os.length*1:=uQ λo h=>by
   grind [wm]
  grind [vR,zp,nB,phi]
open Go.Sx
structure HB (c:zH) (ss:List (List zF)) (P n:Nat) (h:za):Prop where
 inv:HI c ss n h
 left:n+phi h<=P
 turn:h.Um.LT=n
 WG:P<100000000
structure CJ (c:zH) (ss:List (List zF)) (I:za->Prop):Prop where
 rj:∀{h:za},I h->RJ h.Fd
 k:∀{h:za} {k:zn},H7 h.Um k->I h->I (withK h k)
 mv:∀{n:Nat} {h:za} {t:Nat} {h':za},HI c ss n h->I h->Mv h t h'->I h'
theorem CJ.and(b:CJ c ss I)(f:∀{h:za} {k:zn},H7 h.Um k->J h->J (withK h k))(g:∀{n:Nat} {h:za} {t:Nat} {h':za},HI c ss n h->I h->J h->Mv h t h'->J h'):CJ c ss (λh=>I h/\J h):=
 ⟨λz=>b.rj z.1,λa z=>⟨b.k a z.1,f a z.2⟩,λd z e=>⟨b.mv d z.1 e,g d z.1 z.2 e⟩⟩
abbrev HJ'(h:za):Prop:=HJ h.or.length h.LE.length h.Fn.length h
theorem L5(b:aQ c ss):CJ c ss HJ':=⟨λz=>z.UO,λa z=>z.withK a,λ{n h t h'}d z e=>by
 grind [J6,Sw]⟩
theorem NA(l:aQ c ss)(g:CJ c ss I)(d:HB c ss P n h)(m:I h)(p:Stp h Q):HB c ss P (if Q.2.1 then n+1 else n) Q.2.2/\I Q.2.2/\(Q.2.1=true->phi Q.2.2+1<=phi h):=by
 have q:=d.left;have o:=d.WG;cases p with
 |none k _ a b e=>
  subst e;exact ⟨⟨d.inv.withK a.1,q,b.trans d.turn,o⟩,g.k a m,λz=>by cases z⟩
 |one k t x h' r a b u v i e=>
  subst e;have j:=d.inv.withK a.1;have f:=g.k a m;have w:=Rl l j (g.rj f) i;have s:phi (KH.withK h k)=phi h:=rfl;refine ⟨⟨QX l j (by omega) i,by grind,?_,o⟩,g.mv j f i,λ_=>by grind⟩;rw [Ms i];show k.LT=_;rw [b,d.turn,qq (by omega) (by omega)];rfl
def L6(h:za):Prop:=∀t,t<h.Um.Ub.length->(∀x,h.Um.Ub[t]? =some x->x.Ua≠2)->¬ Rdy h t
structure EO (h:za):Prop where
 no:∀t,¬ Rdy h t
 Vq:∀k∈h.or,k.waits=false/\k.Uw=k.Uf.length
 crew:∀w∈h.LE,w.TX.Ua=0
 over:h.closed=true->h.over=true
theorem L6.done(a:L6 h)(b:aQ c ss)(d:HI c ss n h)(e:HJ' h):EO h:=by
 obtain ⟨g,f,i,j⟩:=e.rest b d a;exact ⟨g,f,i,j⟩
theorem JF{c:zH}{ss:List (List zF)}{I:za->Prop}(l:aQ c ss)(u:CJ c ss I){P:Nat}:∀(m f n:Nat)(h:za),phi h<=m->m+2<=f->HB c ss P n h->I h->∃i h',HB c ss P i h'/\I h'/\L6 h'/\n<=i/\loop (vQ 2199023255552) f (h,true)=some h'
 |m,0,n,h,_,B,o,_=>by omega
 |m,f+1,n,h,C,B,o,D=>by
  obtain ⟨r,E,v⟩:=OP l o.inv;obtain ⟨a,d,w⟩:=NA l u o D v;cases j:r.2.1 with
  |true=>
   rw [j] at a;have w:=w j;obtain ⟨i,h',F,G,J,Q,R⟩:=JF l u (m-1) f (n+1) r.2.2 (by omega) (by omega) a d;refine ⟨i,h',F,G,J,by omega,?_⟩;show vQ _ _ (h,true)=_
   grind [vQ]
  |false=>
   rw [j] at a;cases v with
   |none k p b q e=>
    subst e;refine ⟨n,_,a,d,λt K A z=>p t (by rw [<- b.1];exact K) (λx s L=> ?_) (z.withK h.Um),k9 _,?_⟩
    ·obtain ⟨y,M,N⟩:=b.2 t x s;exact A y M (N.1 L)
    show vQ _ _ (h,true)=_;unfold vQ;simp only [q9,E,zbs];obtain ⟨f,rfl⟩:∃g,f=g+1:=⟨f-1,by omega⟩
    rfl
   |one k t x h' O b q A C S e=>subst e;cases j
theorem F9{c:zH}{ss:List (List zF)}{I:za->Prop}(d:aQ c ss)(j:CJ c ss I){P:Nat}(l:List Int):∀(m i n:Nat)(h:za),i+m=l.length->HB c ss P n h->I h->∃a h',HB c ss P a h'/\I h'/\n<=a/\jN (dO 2199023255552 l) (λ(s:za)=>s) m i h=some h'
 |0,i,n,h,_,b,e=>⟨n,h,b,e,k9 _,rfl⟩
 |m+1,i,n,h,q,b,e=>by
  obtain ⟨r,t,k⟩:=Ev d b.inv l[i];obtain ⟨f,g,_⟩:=NA d j b e k;obtain ⟨a,h',o,p,u,v⟩:=F9 d j l m (i+1) _ r.2.2 (by omega) f g;refine ⟨a,h',o,p,by grind,?_⟩;show dO _ _ i _ h=_;have w:=zeg (show i<l.length by omega)
  grind [dO,zX]
theorem O5(f:aQ c ss)(g:CJ c ss I)(i:HB c ss P n h)(m:I h)(l:List Int):∃j h',HB c ss P j h'/\I h'/\L6 h'/\cV 2199023255552 h l=some (((j-n:Nat):Int),h'):=by
 obtain ⟨o,k,b,d,u,p⟩:=F9 f g l l.length 0 n h (by omega) i m;obtain ⟨q,r,a,e,s,v,t⟩:=JF f g (phi k) 2199023255552 o k (k9 _) (by have:=b.left;have:=b.WG;omega) b d;refine ⟨q,r,a,e,s,?_⟩;unfold cV cm;simp only [zbs];rw [p];simp only [zbs];rw [t];simp only [zbs];rw [i.turn,a.turn];have:=a.left;have:=a.WG
 grind [qq]
theorem O6(b:KG c ss h):HB c ss (phi h) 0 h:=by
 have a:=J7 b;exact ⟨a.inv,a.left,a.turn,a.WG⟩
theorem L7:eN 2199023255552=some true:=by decide+kernel
theorem O7(a:∀s∈k.UG,∀c∈s,Fit c):bM 2199023255552 k=some (none,true)\/∃h,bM 2199023255552 k=some (some h,true)/\KG k.C k.UG h:=by
 unfold bM;rcases Eh (fu:=2199023255552) (by omega) k.C k.UG a with ⟨e,b,d⟩|⟨h,b,f⟩
 ·grind [vK]
 grind [vK]
open Go.Sx
def cE(m:Int)(z:Nat)(l:List ze):Nat:=l.countP (λe=>e.UW==m&&e.UF==(z:Int))
def Rb(z:Nat)(w:zA):Nat:=if w.TX.Ua≠0/\w.TX.UE.hook=z then 1 else 0
def Plain(e:ze):Prop:=e.UW≠4/\e.UW≠5/\e.UW≠9/\e.UW≠10
structure HQ (R:Int) (h:za):Prop where
 mark:∀e∈h.Un,Plain e\/(0<=e.UF/\e.UF<h.rings.length)
 cnt:∀(z:Nat) r,h.rings[z]? =some r->r.room=R/\r.counts.US=cE 4 z h.Un/\r.counts.Vz=cE 5 z h.Un/\r.counts.Vb=cE 10 z h.Un/\cE 4 z h.Un=cE 5 z h.Un+cE 10 z h.Un+r.waiting.length
 run:∀z:Nat,z<h.rings.length->cE 5 z h.Un=cE 9 z h.Un+vR (Rb z) h.LE
theorem Nz(m:Int)(z:Nat)(l a:List ze):cE m z (l++a)=cE m z l+cE m z a:=List.countP_append
theorem Rc(m:Int)(z:Nat)(e:ze):cE m z [e]=if e.UW=m/\e.UF=z then 1 else 0:=by
 grind [cE]
theorem HQ.crew(d:HQ R h){w:zA}(f:h.LE[j]? =some w)(i:e.UW≠4/\e.UW≠5/\e.UW≠10)(k:e.UW=9->0<=e.UF/\e.UF<h.rings.length)(g:∀z,Rb z w=cE 9 z [e]+Rb z w'):
  HQ R (wU h rg T (h.LE.set j w') v h.rings e):=by
 have b:∀m z,m=4\/m=5\/m=10->cE m z (h.Un++[e])=cE m z h.Un:=λm z l=>by
  rw [Nz,Rc,d8 (by grind)];rfl
 refine ⟨λx c=> ?_,λz r a=> ?_,λz a=> ?_⟩
 ·show Plain x\/(0<=x.UF/\x.UF<h.rings.length)
  rcases f8.1 (show x∈h.Un++[e] from c) with c|c
  ·exact d.mark x c
  ·grind [Plain]
 ·show _/\_=(cE 4 z (h.Un++[e]):Int)/\_=(cE 5 z (h.Un++[e]):Int)/\_=(cE 10 z (h.Un++[e]):Int)/\cE 4 z (h.Un++[e])=cE 5 z (h.Un++[e])+cE 10 z (h.Un++[e])+_;rw [b 4 z (by simp),b 5 z (by simp),b 10 z (by simp)];exact d.cnt z r a
 ·show cE 5 z (h.Un++[e])=cE 9 z (h.Un++[e])+vR (Rb z) (h.LE.set j w');have n:=d.run z a;have o:=cZ (Rb z) f w';have p:=g z;rw [b 5 z (by simp),Nz];omega
open Go.Sx
theorem O4(a:r.waiting=U::S)(h:vj r V=some (U,true,t)):t=⟨r.room,r.Vj,S,⟨r.counts.US,r.counts.Ve,w64 (r.counts.Vz+1),r.counts.Vb,r.counts.Vi⟩⟩:=by
 unfold vj at h;rw [a,d8 (by simp;omega)] at h
 have e:cut (U::S) 1 ((U::S).length:Int)=some S:=by
  unfold cut;rw [d7 (by simp;omega)];simp
 rw [show Go.Sx.idx (U::S) 0=some U from rfl,zbs,e] at h
 grind
theorem JE(h:xo r ev V=some (R,E,t,s)):
  (r.Vj=true/\E=43/\t=r/\s=V)\/(r.Vj=false/\E=40/\(r.waiting.length:Int)=r.room/\t={r with counts:=⟨r.counts.US,w64 (r.counts.Ve+1),r.counts.Vz,r.counts.Vb,r.counts.Vi⟩}/\s=V)\/
  (r.Vj=false/\E=0/\(r.waiting.length:Int)≠r.room/\t=⟨r.room,r.Vj,r.waiting++[⟨R,ev⟩],⟨w64 (r.counts.US+1),r.counts.Ve,r.counts.Vz,r.counts.Vb,r.counts.Vi⟩⟩/\aL V=some (R,s)):=by
 unfold xo at h;split at h
 ·grind
 ·split at h
  ·grind
  ·obtain ⟨⟨m,g⟩,a,h⟩:=z7.1 h;obtain ⟨u,b,h⟩:=z7.1 h
   grind
open Go.Sx
def row(l:List ze)(z:Nat):List Int:=[(cE 4 z l:Int),(cE 5 z l:Int),(cE 10 z l:Int),(cE 9 z l:Int)]
theorem EO.rings(b:HI c ss n h)(f:aQ c ss)(g:HJ h.or.length h.LE.length h.Fn.length h)(d:EO h):∀r∈h.rings,r.waiting=[]:=by
 cases a:h.closed with
 |true=>exact g.Vj a
 |false=>
  obtain ⟨s,p,q,t,v,x⟩:=b.sizes f;obtain ⟨w,u⟩:∃w,w∈h.LE:=List.exists_mem_of_length_pos (by omega);obtain ⟨j,i⟩:=q8 u;have k:¬ P8 h w:=λz=>d.no _ (.w j w i z)
  have l:=b.VH w u;have y:=d.crew w u;intro r m;refine Classical.byContradiction λe=>k ⟨λ_=>⟨?_,.inr ⟨r,m,e⟩⟩,λz=>by omega⟩
  cases o:w.Ue with
  |true=>rw [l o] at a;cases a
  |false=>rfl
abbrev IQ(R:Int)(h:za):Prop:=HJ' h/\HQ R h
open Go.Sx
structure CE (h:za) (t:Nat) (k:zd):Prop where
 call:∀x∈h.TZ++h.held,x.Ut=t->k.Uf[k.Uw.toNat]? =some x.cmd
 clo:h.closed=true->h.over=false->h.Uh=t->∃cmd,k.Uf[k.Uw.toNat]? =some cmd/\cmd.TY=10
 ans:∀(i:Nat) cmd A,k.Uf[i]? =some cmd->cmd.TY=10->k.Ud[i]? =some A->A.E=0->h.over=true
 VE:∀cmd,k.waits=true->k.Uf[k.Uw.toNat]? =some cmd->4<=cmd.TY->bS h.Fn t=0/\(cmd.TY=10->gr h t=0->k.Id.E=0->h.over=true)
def Clo(k:zd):Prop:=∃(i:Nat)(c:zF),k.Uf[i]? =some c/\c.TY=10/\((∃A,k.Ud[i]? =some A/\A.E=0)\/(k.waits=true/\k.Uw=i/\k.Ul=0/\k.Id.E=0))
def wgt(e:ze):Int:=if e.UW=4 then 1 else if e.UW=9\/e.UW=10 then -1 else 0
def iP(w:zA):Nat:=if w.TX.Ua=0 then 0 else 1
structure HE (a b d:Nat) (h:za):Prop where
 Vq:∀(t:Nat) k,h.or[t]? =some k->CE h t k
 held:∀x∈h.held,x.cmd.TY=8\/x.cmd.TY=9
 conv:h.over=true->∃(t:Nat)(k:zd),h.or[t]? =some k/\Clo k
 mW:∀(j:Nat) w x,h.LE[j]? =some w->h.Um.Ub[a+j]? =some x->w.Ue=true->x.Ua=2
 mO:∀(i:Nat) o x,h.Fn[i]? =some o->h.Um.Ub[a+b+i]? =some x->o.Ue=true->x.Ua=2
 mR:∀x,h.Um.Ub[a+b+d]? =some x->h.over=true->x.Ua=2
 Wf:(h.Un.map wgt).sum=(vR (λr:zp=>r.waiting.length) h.rings:Int)+(vR iP h.LE:Int)
theorem HE.withK(f:HE a b d h)(p:H7 h.Um m):HE a b d (KH.withK h m):=by
 have c:∀(i:Nat) y,m.Ub[i]? =some y->∃x,h.Um.Ub[i]? =some x/\(x.Ua=2↔y.Ua=2):=λi y g=>by
  have hl:=(zes.1 g).1;have r:=zeg (show i<h.Um.Ub.length by have:=p.1;omega);obtain ⟨z,s,k⟩:=p.2 i _ r
  grind
 exact {f with
  Vq:=λt q n=>⟨(f.Vq t q n).call,(f.Vq t q n).clo,(f.Vq t q n).ans,(f.Vq t q n).VE⟩
  mW:=λj w x o l e=>by obtain ⟨y,g,k⟩:=c _ x l;exact k.1 (f.mW j w y o g e)
  mO:=λj w x o l e=>by obtain ⟨y,g,k⟩:=c _ x l;exact k.1 (f.mO j w y o g e)
  mR:=λx l e=>by obtain ⟨y,g,k⟩:=c _ x l;exact k.1 (f.mR y g e)}
theorem CE.mono(a:CE h n p)(hl:∀x∈h'.TZ++h'.held,x.Ut=n->∃y∈h.TZ++h.held,y.Ut=n/\y.cmd=x.cmd)(l:h'.closed=true->h'.over=false->h'.Uh=n->(h.closed=true/\h.over=false/\h.Uh=n)\/∃c,p.Uf[p.Uw.toNat]? =some c/\c.TY=10)
  (k:h.over=true->h'.over=true) (m:bS h.Fn n=0->bS h'.Fn n=0) (o:gr h' n=0->gr h n=0\/h'.over=true):CE h' n p:=by
 refine ⟨λx r e=> ?_,λz g s=> ?_,λi c A b d f j=>k (a.ans i c A b d f j),λc b d f=>⟨m (a.VE c b d f).1,λj z g=> ?_⟩⟩
 ·obtain ⟨y,t,u,v⟩:=hl x r e;rw [<- v];exact a.call y t u
 ·rcases l z g s with ⟨w,B,C⟩|q
  ·exact a.clo w B C
  ·exact q
 ·rcases o z with q|q
  ·exact k ((a.VE c b d f).2 j q g)
  ·exact q
theorem kh{f:Int}:∀(l:List (Nat×zq))(os:List zc),(∀x∈l,x.2.Vf≠f)->bS (puts os l) f=bS os f
 |[],os,_=>rfl
 |x::l,os,h=>by
  refine (kh l (oG os x) λy a=>h y (zcm _ a)).trans ?_;have b:=h x zcs;unfold oG;split
  ·rename_i o c
   have d:=gL c (KI o x.2) f
   have e:th (KI o x.2).TZ f=th o.TZ f:=by
    show th (o.TZ++[x.2]) f=_;rw [uu,d8 b];rfl
   omega
  ·rfl
theorem O8(b:gr h R=0):(∀x∈h.TZ++h.held,x.Ut≠R)/\¬ (h.closed=true/\h.over=false/\h.Uh=R):=by
 unfold gr at b;refine ⟨λx a e=> ?_,λz=>by rw [d7 z] at b;omega⟩;rcases f8.1 a with a|a
 ·have:=tK a;rw [e] at this;omega
 ·have:=tK a;rw [e] at this;omega
theorem HE.fin(o:HI c ss n h)(j:HE a b d h){t:Nat}(l:h.or[t]? =some p)(J:p.Ul=0)(A:zy)(L:A=p.Id\/p.waits=false)(m:∀f,p.Uf[p.Uw.toNat]? =some f->f.TY=10->A.E=0->h.over=true)
  (hb:(K.map wgt).sum+(vR (λr:zp=>r.waiting.length) h.rings:Int)=(vR (λr:zp=>r.waiting.length) W:Int)):HE a b d (Cf h t (withA p A) K W V):=by
 obtain ⟨i1,M⟩:=o.idle l J;obtain ⟨s,hs,v⟩:=o.at l;have N:=j.Vq t p l;have h1:=v.ans;have h0:=v.Wi;obtain ⟨O,P⟩:=O8 M;refine {j with Vq:=λu k g=> ?_,conv:=λz=> ?_,Wf:= ?_}
 ·rcases jW g with ⟨rfl,rfl,_⟩|⟨_,g⟩
  ·refine ⟨λx Q e=>absurd e (O x Q),λR S T=>absurd ⟨R,S,T⟩ P,λi f B w y q C=> ?_,λf z=>by cases z⟩;have q:(p.Ud++[H6 (withA p A)])[i]? =some B:=q;rw [List.getElem?_append] at q;split at q
   ·exact N.ans i f B w y q C
   ·have U:i=p.Uw.toNat:=by
     have:=(zes.1 q).1;simp at this;omega
    subst U
    have:B=H6 (withA p A):=by
     rw [show p.Uw.toNat-p.Ud.length=0 by omega] at q;exact (i8 q).symm
    subst this;exact m f w y C
  ·exact ⟨(j.Vq u k g).call,(j.Vq u k g).clo,(j.Vq u k g).ans,(j.Vq u k g).VE⟩
 ·obtain ⟨u,k,g,i,f,D,F,G⟩:=j.conv z;by_cases e:u=t
  ·subst e;rw [l] at g;obtain rfl:=i8 g;refine ⟨u,_,kb l,i,f,D,F,.inl ?_⟩;rcases G with ⟨B,I,X⟩|⟨Y,w2,w3,Z⟩
   ·have:=(zes.1 I).1;exact ⟨B,by show (p.Ud++[_])[i]? =_;rw [ye this];exact I,X⟩
   ·rcases L with rfl|z
    ·refine ⟨H6 (withA p p.Id),?_,Z⟩;show (p.Ud++[_])[i]? =_;rw [show i=p.Ud.length by omega];simp
    ·rw [Y] at z;cases z
  ·exact ⟨u,k,ve g e,i,f,D,F,G⟩
 ·show ((h.Un++K++[Nn t (withA p A)]).map wgt).sum=(vR (λr:zp=>r.waiting.length) W:Int)+(vR iP h.LE:Int)
  have:=j.Wf;rw [k8,k8,yv,yv];simp only [p9,List.map_nil,y5,List.sum_nil,show wgt (Nn (t:Int) (withA p A))=0 from rfl];omega
theorem HE.ask(I:HI c ss n h)(K:HJ a b d h)(j:HE a b d h){t:Nat}(r:h.or[t]? =some p)(M:p.waits=false)(J:p.Uf[p.Uw.toNat]? =some L)(g:h.closed=false)(m:Int)(w:List zk)(O:List (List zr))
  (y:∀u:Nat,u≠t->bS v u=bS h.Fn u) (A:∀(i:Nat) o,v[i]? =some o->∃F,h.Fn[i]? =some F/\F.Ue=o.Ue) (hl:(N=h.TZ/\L.TY<4)\/(N=h.TZ++[⟨t,L,0⟩]/\v=h.Fn)):HE a b d (Ja h t p (uA p m w O) v N):=by
 obtain ⟨s,V,P⟩:=I.at r;obtain ⟨Q,R⟩:=I.idle r (P.VO M);obtain ⟨B,W⟩:=O8 R;have C:h.over=true->False:=λz=>by have:=(K.fin z).1;rw [g] at this;cases this
 refine {j with Vq:=λu S D=> ?_,conv:=λz=>(C z).elim,mO:=λi o x f E e=> ?_,Wf:= ?_}
 ·have G:∀x∈N++h.held,x.Ut=(u:Int)->u=t\/x∈h.TZ++h.held:=λx f e=>by
   rcases hl with ⟨rfl,_⟩|⟨rfl,_⟩
   ·exact .inr f
   ·rcases f8.1 f with f|f
    ·rcases f8.1 f with f|f
     ·exact .inr (zal _ f)
     ·rw [g8.1 f] at e;have e:(t:Int)=u:=e;exact .inl (by omega)
    ·exact .inr (zar _ f)
  rcases jW D with ⟨rfl,rfl,_⟩|⟨k,D⟩
  ·refine ⟨λx f e=> ?_,(λz=>by rw [show h.closed=true from z] at g;cases g),(j.Vq u p r).ans,λl _ q X=> ?_⟩
   ·rcases hl with ⟨rfl,_⟩|⟨rfl,_⟩
    ·exact absurd e (B x f)
    ·rcases f8.1 f with f|f
     ·rcases f8.1 f with f|f
      ·exact absurd e (B x (zal _ f))
      ·rw [g8.1 f];exact J
     ·exact absurd e (B x (zar _ f))
   ·rcases hl with ⟨_,z⟩|⟨rfl,rfl⟩
    ·have q:p.Uf[p.Uw.toNat]? =some l:=q;rw [J] at q;cases q;omega
    ·refine ⟨Q,λ_ z=> ?_⟩;have:=(O8 z).1 ⟨u,L,0⟩ (by show _∈(h.TZ++_)++h.held;simp);exact absurd rfl this
  ·refine (j.Vq u S D).mono (λx f e=> ?_) (λz=>by rw [show h.closed=true from z] at g;cases g) (λz=>z) (λz=>by show bS v u=0;rw [y u k];exact z) (λz=>.inl ?_)
   ·rcases G x f e with z|z
    ·exact absurd z k
    ·exact ⟨x,z,e,rfl⟩
   ·rcases hl with ⟨rfl,_⟩|⟨rfl,_⟩
    ·exact z
    ·have z:bX (h.TZ++[⟨t,L,0⟩]) u+bX h.held u+(if h.closed=true/\h.over=false/\h.Uh=(u:Int) then 1 else 0)=0:=z;rw [gM] at z;unfold gr;omega
 ·obtain ⟨F,T,U⟩:=A i o f;exact j.mO i F x T E (by rw [U];exact e)
 ·show ((h.Un++[iO t p]).map wgt).sum=_;rw [k8,yv];have:=j.Wf;simp only [p9,List.map_nil,y5,List.sum_nil,show wgt (iO (t:Int) p)=0 from rfl];exact this ▸ (by omega)
end Go.Proofs.YtplmgfkghomelaaGreatDoor.KH
