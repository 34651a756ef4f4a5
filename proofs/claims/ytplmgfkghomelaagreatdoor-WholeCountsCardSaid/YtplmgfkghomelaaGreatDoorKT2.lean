/- Lemmas. -/
import Derived.Test.YtplmgfkghomelaaGreatDoorKH21
set_option linter.all false
namespace Go.Proofs.YtplmgfkghomelaaGreatDoor.KH
open Go.Sx
variable {g:Type}{h h':za}{c:zH}{ss:List (List zO)}{n b i a d j P:Nat}{R m E:Int}{w' Q:zz}{rg:zb}{l:List g}{x:g}{es:List zd}{I J:za->Prop}{r F:zr}{p N:ze}{v:zo}{A:List zc}{B y:qr}{C:List zr}{o t:zc}{q:bB}{D:zp}{u:List zz}{f:g->Nat}{G:zl}{L:List zO}{M:zO}{O:List zB}{T:Int×Bool×za}{k:qZ}{e:zd}{U:zZ}{K:List zZ}{V s:zJ}{ev:qt}
structure HJ (a b d:Nat) (h:za):Prop where
 Ty:RJ h.Fn
 kC:∀(t:Nat) x,t<a->h.SD.Sn[t]? =some x->x.Su≠2
 kW:∀(j:Nat) w x,h.LE[j]? =some w->h.SD.Sn[a+j]? =some x->x.Su=2->w.Sv=true
 kO:∀(i:Nat) o x,h.Fd[i]? =some o->h.SD.Sn[a+b+i]? =some x->x.Su=2->o.Sv=true
 kR:∀x,h.SD.Sn[a+b+d]? =some x->x.Su=2->h.over=true
 ask:∀(j:Nat) w,h.LE[j]? =some w->w.LT.Su=3->w.Tw=none->1<=eY h.Fd ((a+j:Nat):Int)
 TK:h.Sk=true->∀r∈h.rings,r.waiting=[]
 UD:∀(j:Nat) w,h.LE[j]? =some w->w.LT.Su<=1->h.Fn.SC.in_[j]? =some 0
 Ut:∀o∈h.Fd,o.Sv=true->o.Sr=[]
 fin:h.over=true->h.Sk=true/\h.Sr=[]/\h.held=[]
theorem HJ.withK(l:HJ a b d h)(m:It h.SD v):HJ a b d (KH.withK h v):=by
 have c:∀(i:Nat) y,v.Sn[i]? =some y->y.Su=2->∃x,h.SD.Sn[i]? =some x/\x.Su=2:=λi y f e=>by
  have hl:=(zes.1 f).1;have n:=zeg (show i<h.SD.Sn.length by have:=m.1;omega);obtain ⟨z,s,g⟩:=m.2 i _ n
  grind
 exact {l with
  kC:=λt x p k e=>by obtain ⟨y,f,g⟩:=c t x k e;exact l.kC t y p f g
  kW:=λj w x q k e=>by obtain ⟨y,f,g⟩:=c _ x k e;exact l.kW j w y q f g
  kO:=λi o x r k e=>by obtain ⟨y,f,g⟩:=c _ x k e;exact l.kO i o y r f g
  kR:=λx k e=>by obtain ⟨y,f,g⟩:=c _ x k e;exact l.kR y f g}
theorem Ct(l:List g):(l.map (λ_=>0)).sum=0:=by
 induction l with
 |nil=>rfl
 |cons x l i=>simp [i]
theorem HJ.rest(M:aR c ss)(p:HI c ss n h)(m:HJ h.or.length h.LE.length h.Fd.length h)(J:∀t,t<h.SD.Sn.length->(∀x,h.SD.Sn[t]? =some x->x.Su≠2)->¬ Rdy h t):
  (∀t,¬ Rdy h t)/\(∀k∈h.or,k.waits=false/\k.SO=k.SP.length)/\(∀w∈h.LE,w.LT.Su=0)/\(h.Sk=true->h.over=true):=by
 obtain ⟨T,U,V,W,X,Y⟩:=p.sizes M
 have all:∀t,¬ Rdy h t:=λt a=>by
  have A:t<h.SD.Sn.length:=by
   cases a with
   |c _ k B a=>have:=(zes.1 B).1;omega
   |w j w l a=>have:=(zes.1 l).1;omega
   |o i o d a=>have:=(zes.1 d).1;omega
   |r a=>omega
  refine J t A (λx C e=> ?_) a;cases a with
  |c _ k B a=>exact m.kC t x (zes.1 B).1 C e
  |w j w l a=>
   have b:=m.kW j w x l C e;have y:=(a.1 ((p.crew w (zmg l)).over b)).1
   grind
  |o i o d a=>
   have b:=m.kO i o x d C e;rcases a with q|q
   ·exact q (m.Ut o (zmg d) b)
   grind
  |r a=>
   have b:=a.1;rw [m.kR x C e] at b;cases b
 have K:∀o∈h.Fd,o.Sr=[]/\(h.Sk=true->(∀w∈h.LE,w.Sv=true)->o.Sv=true):=λo d=>by
  obtain ⟨i,O⟩:=p9 d;have:¬ O7 h o:=λz=>all _ (.o i o O z)
  grind [O7]
 have D:∀f,eY h.Fd f=0:=λf=>by
  unfold eY;rw [List.map_congr_left (g:=λ_=>0) λo d=>by rw [(K o d).1];rfl];exact Ct _
 have l:∀w∈h.LE,w.LT.Su=0/\(w.Sv=true\/h.Sk=false/\∀r∈h.rings,r.waiting=[]):=λw l=>by
  obtain ⟨j,F⟩:=p9 l;have b:¬ O6 h w:=λz=>all _ (.w j w F z)
  have q:=(p.crew w l).SX.is;have y:=m.ask j w F;rw [D] at y
  have P:w.LT.Su=0:=by
   rcases q with e|e|⟨e,_⟩|⟨e,_⟩
   ·exact e
   ·exact absurd ⟨λz=>by omega,λz=>by omega⟩ b
   ·exact absurd ⟨λz=>by omega,λz=>by omega⟩ b
   ·cases a:w.Tw with
    |none=>have:=y e a;omega
    |some r=>exact absurd ⟨λz=>by omega,λ_=>by rw [a];rfl⟩ b
  refine ⟨P,?_⟩;by_cases G:w.Sv=true
  ·exact .inl G
  ·have N:¬ (h.Sk=true\/∃r∈h.rings,r.waiting≠ []):=λz=>b ⟨λ_=>⟨by simpa using G,z⟩,λz=>by omega⟩
   grind
 have Z:∀r∈h.rings,r.waiting=[]:=by
  cases I:h.Sk with
  |true=>exact m.TK I
  |false=>
   obtain ⟨w,u⟩:∃w,w∈h.LE:=List.exists_mem_of_length_pos (by omega);have b:=(l w u).2;have q:=p.Ud w u
   grind
 have Q:∀e∈h.Fn.SC.in_,e=0:=λe G=>by
  obtain ⟨j,F⟩:=p9 G;have b:=(zes.1 F).1;have q:=p.Ty.wk;have y:=p.crn M;have R:=zeg (show j<h.LE.length by omega);have N:=m.UD j _ R (by grind)
  grind
 have E:∀x∈h.held,Fin h x:=λx C=>by
  grind [Fin]
 have v:h.Sr=[]/\h.held=[]/\(h.Sk=true->h.over=true):=by
  cases d:h.over with
  |true=>have:=m.fin d;exact ⟨this.2.1,this.2.2,λ_=>rfl⟩
  |false=>
   have a:¬ Mx h:=λe=>all _ (.r e)
   unfold Mx at a
   have S:h.held=[]:=by
    cases S:h.held with
    |nil=>rfl
    |cons x xs=>exact absurd ⟨d,.inr (.inl ⟨x,by grind,E x (by grind)⟩)⟩ a
   grind
 refine ⟨all,λk B=> ?_,λw L=>(l w L).1,v.2.2⟩;obtain ⟨t,A⟩:=p9 B;obtain ⟨s,hs,I⟩:=p.at A;have b:¬ PY k:=λz=>all _ (.c t k A z)
 have q:=p.TV t k A
 have y:lC h t=0:=by
  grind [lC,gy]
 rw [D,y] at q;have N:=I.UK;have h5:=I.SP
 grind [PY]
theorem AR(h:∀o∈A,o.Sv=true->o.Sr=[])(a:∀o∈A,o.Sv=false):∀(l:List (Nat×zp)),∀o∈puts A l,o.Sv=true->o.Sr=[]:=λl o b e=>by
 obtain ⟨i,c⟩:=p9 b
 grind [gJ]
theorem HJ.open(a:HI c ss n h)(d:h.Sk=false):∀o∈h.Fd,o.Sv=false:=λo b=>by
 have:=a.TW o b
 grind
theorem HJ.put(c:HJ a b d h)(g:∀(i:Nat) o,A[i]? =some o->∃t,h.Fd[i]? =some t/\t.Sv=o.Sv)(k:∀f,eY h.Fd f<=eY A f)(l:∀o∈A,o.Sv=true->o.Sr=[])(e:h'={h with or:=h'.or,Fd:=A,Sr:=h'.Sr,SH:=h'.SH})(n:h.over=true->h'.Sr=[]):HJ a b d h':=by
 rw [e]
 exact {c with
  kO:=λi o x p r s=>by obtain ⟨t,u,v⟩:=g i o p;rw [<- v];exact c.kO i t x u r s
  ask:=λj w y m q=>q8 (c.ask j w y m q) (k _)
  Ut:=l
  fin:=λz=>⟨(c.fin z).1,n z,(c.fin z).2.2⟩}
theorem uj(os:List zc)(x:Nat×zp)(f:Int):eY os f<=eY (oF os x) f:=by
 unfold oF;split
 ·rename_i o h
  have a:=ng h (Mu o x.2) f
  grind [BN,Mu]
 grind
theorem mO(f:Int):∀(l:List (Nat×zp))(os:List zc),eY os f<=eY (puts os l) f
 |[],os=>k9 _
 |x::l,os=>q8 (uj os x f) (mO f l (oF os x))
theorem eG(h:(NF v n B).Sn[i]? =some y):i=n\/v.Sn[i]? =some y:=by
 rcases vC (show (v.Sn.set n ⟨2,B.TN⟩)[i]? =some y from h) with h|h
 ·exact .inl h.1
 ·exact .inr h.2
theorem HJ.crew(f:HJ a b d h){w:zz}(p:h.LE[j]? =some w)(s:w.Sv=true->w'.Sv=true)(g:RJ rg)(t:w'.LT.Su=3->w'.Tw=none->1<=eY h.Fd ((a+j:Nat):Int))(u:w'.LT.Su<=1->rg.SC.in_[j]? =some 0)(k:∀i:Nat,i≠j->h.Fn.SC.in_[i]? =some 0->rg.SC.in_[i]? =some 0)(l:h.Sk=true->∀r∈C,r.waiting=[])(n:A=h.Fd)(e:zd):
  HJ a b d (BV h rg h.SD (h.LE.set j w') A C e):=by
 subst n
 exact {f with
  Ty:=g
  kW:=λi v x c o m=>by
   rcases vC (show (h.LE.set j w')[i]? =some v from c) with ⟨rfl,rfl,_⟩|⟨_,c⟩
   ·exact s (f.kW _ w x p o m)
   ·exact f.kW i v x c o m
  ask:=λi v c m q=>by
   rcases vC (show (h.LE.set j w')[i]? =some v from c) with ⟨rfl,rfl,_⟩|⟨_,c⟩
   ·exact t m q
   ·exact f.ask i v c m q
  TK:=l
  UD:=λi v c m=>by
   rcases vC (show (h.LE.set j w')[i]? =some v from c) with ⟨rfl,rfl,_⟩|⟨y,c⟩
   ·exact u m
   ·exact k i y (f.UD i v c m)}
theorem HJ.serve(c:HJ a b d h)(B:h.Fd[i]? =some o){C:List zp}(x:tJ 2199023255552 o q t D C)(f:∀(j:Nat) w,u[j]? =some w->∃v,h.LE[j]? =some v/\w.LT=v.LT/\w.Sv=v.Sv/\(w.Tw=none->v.Tw=none/\D.TJ≠((a+j:Nat):Int)))(G:List ze)(es:List zd):
  HJ a b d (Hl h G u (h.Fd.set i t) es):=by
 have l:=x.sh
 exact {c with
  kW:=λj w y n z m=>by obtain ⟨v,s,A,E,F⟩:=f j w n;rw [E];exact c.kW j v y s z m
  kO:=λk p y g z m=>by
   rcases vC (show (h.Fd.set i t)[k]? =some p from g) with ⟨rfl,rfl,_⟩|⟨_,g⟩
   ·rw [l.2.2.1];exact c.kO _ o y B z m
   ·exact c.kO k p y g z m
  ask:=λj w n m r=>by
   obtain ⟨v,s,A,E,F⟩:=f j w n;obtain ⟨I,J⟩:=F r;have K:=c.ask j v s (by rw [<- A];exact m) I
   have L:=ng B t ((a+j:Nat):Int);have M:=BO C D ((a+j:Nat):Int);rw [x.Sr,x.Uz,d7 J] at*
   show 1<=eY (h.Fd.set i t) _;omega
  UD:=λj w n m=>by obtain ⟨v,s,A,_⟩:=f j w n;exact c.UD j v s (by rw [<- A];exact m)
  Ut:=λp g e=>by
   rcases q7 (show p∈h.Fd.set i t from g) with g|rfl
   ·exact c.Ut p g e
   ·rw [l.2.2.1] at e;have:=c.Ut o (zmg B) e;rw [x.Sr] at this;cases this}
theorem HJ.rul(c:HJ a b d h)(f:RJ rg)(g:rg.SC.in_=h.Fn.SC.in_)(e:h.over=false)(i:List ze)(l k:List zB)(es:List zd):HJ a b d (tN h rg i l k es):=
 {c with Ty:=f,UD:=λj w n m=>by show rg.SC.in_[j]? =_;rw [g];exact c.UD j w n m,fin:=λz=>by rw [show h.over=true from z] at e;cases e}
theorem Rb(hS:aR c ss)(G:HI c ss n h)(ha:h.or.length=a)(hb:h.LE.length=b)(hd:h.Fd.length=d)(l:HJ a b d h)(A:Mv h P h'):HJ a b d h':=by
 cases A with
 |back P k ht C T=>exact {l with}
 |ask P k cmd h' ht C hat hc A=>
  cases A with
  |told E _=>exact {l with}
  |fire i r F n E g B _ _ hi hA=>exact {l with TK:=λz=>by rw [show h.Sk=true from z] at B;cases B}
  |items B _ _ _ _=>exact l.put (λi o I=>gJ I) (λf=>mO f _ _) (AR l.Ut (HJ.open G B) _) rfl (λz=>(l.fin z).2.1)
  |walk B _ _ _=>exact l.put (λi o I=>gJ I) (λf=>mO f _ _) (AR l.Ut (HJ.open G B) _) rfl (λz=>(l.fin z).2.1)
  |call B _ _=>exact {l with fin:=λz=>by have:=(l.fin z).1;rw [B] at this;cases this}
 |work j w h' C L A=>
  have hjl:=(zes.1 C).1;have hC:=G.crew w (zmg C);have Z:=hC.SX;obtain ⟨hr1,hr2,hr4⟩:=G.hooks4 hS
  have M:∀{a:qT} {W:zl},w.LT.Su=2->qz 2199023255552 w.LT=some (a,true,W)->B9 c.SA.toNat c.Maps.length w.LT a W:=λR D=>by
   grind [IA]
  have U:∀(W:zl)(rp:Option zk)(O pc:Int)(e:zd),W.Su=2->HJ a b d (BV h h.Fn h.SD (h.LE.set j ⟨W,O,pc,rp,w.Sv⟩) h.Fd h.rings e):=λW rp O pc e m=>
   l.crew (w':=⟨W,O,pc,rp,w.Sv⟩) C (λz=>z) l.Ty (λz=>absurd (m.symm.trans z) (by decide)) (λz=>by grind) (λ_ _ z=>z) l.TK rfl _
  cases A with
  |ends x m0 B hk T=>
   exact {l with
    kC:=λu y V s=>by
     rcases eG s with e|s
     ·omega
     ·exact l.kC u y V s
    kW:=λi v y A s m=>by
     rcases vC (show (h.LE.set j _)[i]? =some v from A) with ⟨rfl,rfl,_⟩|⟨hn,A⟩
     ·rfl
     ·rcases eG s with e|s
      ·omega
      ·exact l.kW i v y A s m
    kO:=λi o y I s m=>by
     rcases eG s with e|s
     ·omega
     ·exact l.kO i o y I s m
    kR:=λy s m=>by
     rcases eG s with e|s
     ·omega
     ·exact l.kR y s m
    ask:=λi v A m q=>by
     rcases vC (show (h.LE.set j _)[i]? =some v from A) with ⟨rfl,rfl,_⟩|⟨_,A⟩
     ·grind
     ·exact l.ask i v A m q
    UD:=λi v A m=>by
     rcases vC (show (h.LE.set j _)[i]? =some v from A) with ⟨rfl,rfl,_⟩|⟨_,A⟩
     ·exact l.UD _ w C m
     ·exact l.UD i v A m}
  |take i r F q K O m0 B hi hwt htk c0 c1=>
   exact l.crew (w':=⟨⟨w.LT.Tg,w.LT.Tz,1,⟨i,q,0,0,0,none⟩⟩,O,w.pc,w.Tw,w.Sv⟩) C (λz=>z) l.Ty (λz=>absurd (show (1:Int)=3 from z) (by decide)) (λ_=>l.UD j w C (by omega)) (λ_ _ z=>z) (λz=>by grind) rfl _
  |skip st v p m1 hcu hsk=>
   exact l.crew (w':=inW w ⟨w.LT.Tg,st,0,⟨0,⟨0,⟨0,0⟩⟩,0,0,0,none⟩⟩) C (λz=>z) l.Ty (λz=>absurd (show (0:Int)=3 from z) (by decide)) (λ_=>l.UD j w C (by omega)) (λ_ _ z=>z) l.TK rfl _
  |enter v p m b e1 e2 Y e W m1 hcu hmo he hE=>
   obtain ⟨R,hm2,o,hjd⟩:=l.Ty.cur G.Ty hcu;obtain ⟨m3,b3,hm3,h1,h2,h3⟩:=G.module p;rw [hmo] at hm2 hm3;cases hm2;cases hm3;obtain ⟨e3,W2,hE2,_,hW⟩:=B8 Z m1 h1 h2 h3 v p;rw [hE] at hE2;cases hE2
   have T:W.Su=2:=by
    grind
   obtain ⟨⟨q1,q2,q3⟩,Q,hq2⟩:=AG G.Ty (j:Int);rw [he] at Q;cases Q;refine l.crew (w':=inW w W) (rg:=QG h.Fn Y) C (λz=>z) ⟨l.Ty.TU,l.Ty.hook⟩ (λz=>absurd (T.symm.trans z) (by decide)) (λz=>by have z:W.Su<=1:=z;omega) (λi hn z=> ?_) l.TK rfl _;show Y.in_[i]? =some 0
   grind
  |note x W R D k3=>
   rcases M R D with ⟨z,_⟩|⟨z,_⟩|⟨_,m,_⟩
   ·omega
   ·omega
   ·exact U _ _ _ _ _ m
  |ran x W R D k1=>
   rcases M R D with ⟨z,_⟩|⟨z,_⟩|⟨_,m,_⟩
   ·omega
   ·omega
   ·exact U _ _ _ _ _ m
  |done x W e1 Y R D k4 hlv=>
   obtain ⟨⟨q1,q2⟩,Q,hq2⟩:=AI G.Ty (j:Int);rw [hlv] at Q;cases Q
   have T:W.Su=0:=by
    rcases M R D with ⟨_,m,_⟩|⟨z,_⟩|⟨z,_⟩
    ·exact m
    ·omega
    ·omega
   have hcr:=G.crn hS;have hwk:=G.Ty.wk;refine l.crew (w':=inW w W) (rg:=QG h.Fn Y) C (λz=>z) ⟨l.Ty.TU,l.Ty.hook⟩ (λz=>absurd (T.symm.trans z) (by decide)) (λ_=> ?_) (λi hn z=> ?_) l.TK rfl _
   ·show Y.in_[j]? =some 0
    grind
   ·show Y.in_[i]? =some 0
    grind
  |ask x W R D k2=>
   have hne:∀o∈h.Fd,o.Sv=false:=λo I=>by
    have h1:=G.TW o I;have h2:=hC.over
    grind
   obtain ⟨g1,g2,g3,g4⟩:0<=x.Item.Tc/\x.Item.Tc<c.Maps.length/\0<=x.Item.Op/\x.Item.Op<5:=by
    rcases M R D with ⟨z,_⟩|⟨_,_,_,_,_,_,g,_⟩|⟨z,_⟩
    ·omega
    ·grind
    ·omega
   obtain ⟨p,o,s1,s2,s3,s4,s5,s6⟩:=DK G.own hS.sh hne (r:=⟨((a+j:Nat):Int),0,false,x.Item⟩) g1 g2 ⟨g3,g4⟩ (by have:=G.Tv;omega);have hput:=tD (os:=h.Fd) (x:=(ig x.Item.Ts h.Fd.length,⟨((h.or.length+j:Nat):Int),0,false,x.Item⟩)) (by grind);have hle:=l.put (h':={h with Fd:=oF h.Fd (ig x.Item.Ts h.Fd.length,⟨((h.or.length+j:Nat):Int),0,false,x.Item⟩)}) (λi o I=>tH I) (λf=>uj ..) (AR l.Ut hne [_]) rfl (λz=>(l.fin z).2.1)
   have T:W.Su=3:=by
    rcases M R D with ⟨z,_⟩|⟨_,m,_⟩|⟨z,_⟩
    ·omega
    ·exact m
    ·omega
   have:=hle.crew (j:=j) (w:=w) (w':={w with LT:=W,pc:=x.Pc}) C (λz=>z) l.Ty (λ_ _=>by grind) (λz=>by grind) (λ_ _ z=>z) l.TK rfl (pf 16 0 0 0 0 0 0 ol BQ 0);exact {this with}
  |back r W m3 hr hA=>
   obtain ⟨W2,hW2,_,T,_⟩:=kH Z m3 (hC.rep r hr)
   grind
 |serve i o h' I L A=>
  have hil:=(zes.1 I).1;have same:∀{u:Nat},u<a->∀(j:Nat) w,h.LE[j]? =some w->∃v,h.LE[j]? =some v/\w.LT=v.LT/\w.Sv=v.Sv/\(w.Tw=none->v.Tw=none/\(u:Int)≠((a+j:Nat):Int)):=λV j w C=>⟨w,C,rfl,rfl,λz=>⟨z,by omega⟩⟩
  cases A with
  |ends P x ht hl hk T=>
   exact {l with
    kC:=λu y V s=>by
     rcases eG s with e|s
     ·omega
     ·exact l.kC u y V s
    kW:=λj v y A s m=>by
     have:=(zes.1 (show h.LE[j]? =some v from A)).1;rcases eG s with e|s
     ·omega
     ·exact l.kW j v y A s m
    kO:=λk p y S s m=>by
     rcases vC (show (h.Fd.set i _)[k]? =some p from S) with ⟨rfl,rfl,_⟩|⟨hn,S⟩
     ·rfl
     ·rcases eG s with e|s
      ·omega
      ·exact l.kO k p y S s m
    kR:=λy s m=>by
     rcases eG s with e|s
     ·omega
     ·exact l.kR y s m
    ask:=λj w C m q=>by
     have h1:=l.ask j w C m q;have h2:_+wv o.Sr _=_+wv o.Sr _:=ng I {o with Sv:=true} ((a+j:Nat):Int)
     grind
    Ut:=λp S e=>by
     rcases q7 (show p∈h.Fd.set i _ from S) with S|rfl
     ·exact l.Ut p S e
     ·exact hl}
  |crew P q t x X j w ht Q hf C=>
   refine l.serve I Q (λk v A=> ?_) _ _;rcases vC A with ⟨rfl,rfl,_⟩|⟨hn,A⟩
   ·exact ⟨w,C,rfl,rfl,λz=>by cases z⟩
   grind
  |walk q t x X u k Q hf hk _ _ _=>exact l.serve I Q (by grind) _ _
  |item P q t x X u k ht Q hf hk _ _ _=>exact l.serve I Q (by grind) _ _
 |rule h' L A=>
  have J:=L.1;cases A with
  |fin x u k _ _ _ _=>exact l.rul l.Ty rfl J _ _ _ _
  |retired x u k _ _ _ _=>exact l.rul (l.Ty.settled G.Ty 1) rfl J _ _ _ _
  |over u k x hnf hl hc V hk T=>
   have B:=L.hyp hnf hl
   have hh:h.held=[]:=by
    rcases L.2 with z|⟨y,z1,z2⟩|z
    ·exact absurd hl z
    ·grind
    ·exact z.2.2
   exact {l with
    kC:=λu y V s=>by
     rcases eG s with e|s
     ·omega
     ·exact l.kC u y V s
    kW:=λj v y A s m=>by
     have:=(zes.1 (show h.LE[j]? =some v from A)).1;rcases eG s with e|s
     ·omega
     ·exact l.kW j v y A s m
    kO:=λk p y S s m=>by
     have:=(zes.1 (show h.Fd[k]? =some p from S)).1;rcases eG s with e|s
     ·omega
     ·exact l.kO k p y S s m
    kR:=λy s m=>rfl
    fin:=λ_=>⟨B,hl,hh⟩}
  |refuse x X u k _ _ _ _ _=>exact l.rul l.Ty rfl J _ _ _ _
  |cmd x X u k F N E es _ hl _ _ _ hc=>
   have:=On G l.Ty (G.call x (by rw [hl];simp)).2.1 hc;exact l.rul this.1 this.2 J _ _ _ _
  |hold x X v F _ _ _ _ hr=>
   have:=Oo G l.Ty hr;exact l.rul this.1 this.2 J _ _ _ _
  |drain x X _ _ _ _=>exact l.rul l.Ty rfl J _ _ _ _
  |close x X _ _ _ _=>
   exact {l with
    TK:=λ_ r hr=>by
     grind [lD]
    fin:=λz=>by grind}
open Go.Sx
def eQ(f:g->Nat)(l:List g):Nat:=(l.map f).sum
theorem eH(f:g->Nat)(h:l[i]? =some x)(y:g):eQ f (l.set i y)+f x=eQ f l+f y:=by
 unfold eQ;rw [yb];exact DJ (by grind) _
theorem mP(h:∀x∈l,f x=0):eQ f l=0:=by
 unfold eQ;rw [List.map_congr_left (g:=λ_=>0) h];exact Ct l
def Cu(S:Nat)(x:zO):Nat:=4+max 1 (min 16 x.SV.length)+S+if x.Sm=3 then 770 else 0
def wK(S:Nat)(k:ze):Nat:=if k.waits then 1+eQ (Cu S) (k.SP.drop (k.SO.toNat+1)) else eQ (Cu S) (k.SP.drop k.SO.toNat)
def C3(w:zz):Nat:=(if w.Sv then 0 else 1)+if w.LT.Su=1 then 769 else if w.LT.Su=2 then 3*(ny w.LT).toNat else if w.LT.Su=3 then 3*(ny w.LT).toNat-2 else 0
def uH(o:zc):Nat:=(if o.Sv then 0 else 1)+o.Sr.length
def phi(h:za):Nat:=eQ (wK h.Fd.length) h.or+eQ C3 h.LE+eQ uH h.Fd+eQ (λr:zr=>770*r.waiting.length) h.rings+2*h.Sr.length+h.held.length+if h.over then 0 else 1
theorem Rc(h:WJ n b G)(f:G.Su=2\/G.Su=3):1<=ny G:=by
 have go:∀{s:Int},P7 b G s->1<=ny G:=λ⟨m,j,M,p,i,c,d,_,a,_⟩=>by
  rw [kG c a];exact NZ d.TU a.fit a.lt
 rcases h.is with e|e|e|e
 ·omega
 ·omega
 ·exact go e.2
 ·exact go e.2
theorem Lz(h:L[i]? =some M):eQ (Cu n) (L.drop i)=Cu n M+eQ (Cu n) (L.drop (i+1)):=by
 obtain ⟨hl,rfl⟩:=zes.1 h;unfold eQ;rw [Sd hl,yl,List.sum_cons]
theorem FJ{os:List zc}(x:Nat×zp):eQ uH (oF os x)<=eQ uH os+1:=by
 grind [oF,eH,uH,Mu]
theorem AS:∀(l:List (Nat×zp))(os:List zc),eQ uH (puts os l)<=eQ uH os+l.length
 |[],os=>k9 _
 |x::l,os=>by
  have h:=AS l (oF os x)
  grind [FJ,eQ,uH,puts,oF]
theorem Em{k:ze}(a:h.or[n]? =some k){x:Nat}(b:wK h.Fd.length (Fi p)+x+1<=wK h.Fd.length k)(c:eQ (λr:zr=>770*r.waiting.length) C<=eQ (λr:zr=>770*r.waiting.length) h.rings+x)(g:zJ):phi (uF h n p es C g)+1<=phi h:=by
 grind [eH,wK,Fi,phi,uF]
theorem Eo(b:h.or[n]? =some N)(a:A.length=h.Fd.length)(c:wK h.Fd.length p+eQ uH A+2*O.length+1<=wK h.Fd.length N+eQ uH h.Fd+2*h.Sr.length):phi (KI h n N p A O)+1<=phi h:=by
 grind [eH,wK,phi,KI]
theorem lJ(b:h.LE[j]? =some Q)(a:A.length=h.Fd.length)(c:C3 w'+eQ uH A+eQ (λr:zr=>770*r.waiting.length) C+1<=C3 Q+eQ uH h.Fd+eQ (λr:zr=>770*r.waiting.length) h.rings)(e:zd):phi (BV h rg v (h.LE.set j w') A C e)+1<=phi h:=by
 grind [eH,C3,phi,BV]
theorem sS(f:g->Nat){y:g}(h:l[i]? =some x)(e:f y=f x):eQ f (l.set i y)=eQ f l:=by
 grind [eH]
theorem Qm(hS:aR c ss)(P:HI c ss n h)(hJ:RJ h.Fn)(L:Mv h d h'):phi h'+1<=phi h:=by
 cases L with
 |back d k D B hm=>
  obtain ⟨s,hs,f⟩:=P.at D;have h1:=f.UF;have h2:=f.UX B;have h3:=hS.sl s (zmg hs);refine Em D (x:=0) ?_ (k9 _) _
  grind [wK,Fi,qo]
 |ask d k cmd h' D B hat hc L=>
  obtain ⟨s,hs,f⟩:=P.at D;have h1:=f.UF;have h2:=f.UK;have h3:=hS.sl s (zmg hs)
  have hkw:wK h.Fd.length k=Cu h.Fd.length cmd+eQ (Cu h.Fd.length) (k.SP.drop (k.SO.toNat+1)):=by
   grind [wK,Lz]
  have hfin:∀A,wK h.Fd.length (Fi (withA k A))=eQ (Cu h.Fd.length) (k.SP.drop (k.SO.toNat+1)):=λA=>by
   grind [wK,Fi,withA,qo]
  have hwait:∀m r p,wK h.Fd.length (BR k m r p)=1+eQ (Cu h.Fd.length) (k.SP.drop (k.SO.toNat+1)):=λm r p=>by
   grind [wK,BR]
  cases L with
  |told E _=>
   refine Em D (x:=0) ?_ (k9 _) _
   grind [Cu]
  |fire i r F n E g G hk3 _ hi hA=>
   have R:=P.ring r (zmg hi);obtain ⟨n2,e2,r2,g2,a1,a2,a3,a4⟩:=iU R.1 cmd.SK h.Ti;rw [hA] at a1;cases a1;refine Em D (x:=770) ?_ ?_ _
   ·grind [Cu]
   grind [eH,zr]
  |items G hkd h1 h16 hg=>
   refine Eo D (oZ _ _) ?_
   grind [AS,vA,bv,fS,Cu]
  |walk G hkd _ _=>
   refine Eo D (oZ _ _) ?_
   grind [AS,az,iH,Cu]
  |call G _ _=>
   refine Eo D rfl ?_
   grind [Cu]
 |work j w h' B I L=>
  have hC:=P.crew w (zmg B);have M:=hC.SX;obtain ⟨hr1,hr2,hr4⟩:=P.hooks4 hS
  have O:∀{a:qT} {W:zl},w.LT.Su=2->qz 2199023255552 w.LT=some (a,true,W)->B9 c.SA.toNat c.Maps.length w.LT a W/\WJ c.SA.toNat c.Maps.length W:=λC l=>by
   grind [IA]
  have Q:=λz=>Rc M (.inl z)
  have hp3:=λz=>Rc M (.inr z)
  cases L with
  |ends x m0 G f hm=>
   refine lJ B rfl ?_ _;have:=(I.1 m0).1
   grind [C3]
  |take i r F q K cur m0 G hi hwt htk c0 c1=>
   refine lJ B rfl ?_ _;have R:=P.ring r (zmg hi);obtain ⟨r2,t1,t2,t3,t4⟩:=mA R.1 h.Ti hwt
   grind [eH,zr,C3]
  |skip st v p m1 T hsk=>
   refine lJ B rfl ?_ _;unfold C3 inW;simp [m1];omega
  |enter v p m b e1 e2 ck e W m1 T hmo he hE=>
   obtain ⟨C,U,o,hjd⟩:=hJ.cur P.Ty T;obtain ⟨m3,b3,V,h1,h2,h3⟩:=P.module p;rw [hmo] at U V;cases U;cases V;obtain ⟨e3,W2,X,_,hW⟩:=B8 M m1 h1 h2 h3 v p;rw [hE] at X;cases X;refine lJ B rfl ?_ _;rcases hW with ⟨z,_,o2,q2,z2⟩|⟨_,z,z2⟩
   ·grind
   ·have hcost:uU m.Code m.Code.length<=256:=by
     obtain ⟨o3,p3,e3,Y,hc3⟩:=mz m;rw [hjd] at Y;cases Y;rcases hc3 with ⟨z,_⟩|⟨_,_,j,_,hSd⟩
     ·exact absurd rfl z
     ·exact hSd.TU.UZ
    grind [C3,inW,ny]
  |note x W C l k3=>
   refine lJ B rfl ?_ _;have Q:=Q C;rcases (O C l).1 with ⟨z,_⟩|⟨z,_⟩|⟨_,m,_,_,_,_,hl⟩
   ·omega
   ·omega
   grind [C3,inW]
  |ran x W C l k1=>
   refine lJ B rfl ?_ _;have Q:=Q C;rcases (O C l).1 with ⟨z,_⟩|⟨z,_⟩|⟨_,m,_,_,_,_,hl⟩
   ·omega
   ·omega
   grind [C3,inW]
  |done x W e1 ck C l k4 hlv=>
   refine lJ B rfl ?_ _;have Q:=Q C;rcases (O C l).1 with ⟨_,m,_⟩|⟨z,_⟩|⟨z,_⟩
   ·grind [C3,inW]
   ·omega
   ·omega
  |ask x W C l k2=>
   refine lJ B (oY _ _) ?_ _;have Q:=Q C;have:=FJ (os:=h.Fd) (ig x.Item.Ts h.Fd.length,⟨((h.or.length+j:Nat):Int),0,false,x.Item⟩);generalize eQ uH (oF h.Fd _)=z at this |-;rcases (O C l).1 with ⟨z,_⟩|⟨_,m,_,_,_,_,_,hl⟩|⟨z,_⟩
   ·omega
   ·grind [Rc,C3]
   ·omega
  |back r W m3 hr hA=>
   refine lJ B rfl ?_ _;obtain ⟨W2,hW2,hJ2,hm,_,_,_,_,hl⟩:=kH M m3 (hC.rep r hr)
   grind [C3]
 |serve i o h' ho I L=>
  have Z:∀{q:bB} {t:zc} {x:zp} {J:List zp},tJ 2199023255552 o q t x J->eQ uH (h.Fd.set i t)+1=eQ uH h.Fd:=λ{q t x J}S=>by
   have:=eH uH ho t
   have:uH o=uH t+1:=by
    unfold uH;rw [S.Sr,S.Uz,S.sh.2.2.1];simp;omega
   omega
  have hcli:∀{u:Nat} {k:ze},h.or[u]? =some k->∀r p,eQ (wK h.Fd.length) (h.or.set u (Q5 k r p))=eQ (wK h.Fd.length) h.or:=λf r p=>sS _ f rfl
  cases L with
  |ends d x D hl f hm=>
   have:=eH uH ho {o with Sv:=true}
   have he:o.Sv=false:=by
    rcases I with z|z
    ·exact absurd hl z
    ·exact z.2.2
   grind [uH,phi]
  |crew d q t x J j w D S hf B=>
   have:=Z S;have:=sS C3 (y:=Rw w q.Tj) B rfl
   grind [phi,Hl]
  |walk q t x J u k S hf f _ _ _=>
   grind [phi,Hl]
  |item d q t x J u k D S hf f _ _ _=>
   grind [phi,Hl]
 |rule h' I L=>
  have hov:=I.1;have hcli:∀{u:Nat} {k:ze},h.or[u]? =some k->∀N E,eQ (wK h.Fd.length) (h.or.set u (C2 k N E))=eQ (wK h.Fd.length) h.or:=λf N E=>sS _ f rfl
  have hera:∀{i:Nat} {x:zB},h.held[i]? =some x->(h.held.eraseIdx i).length+1=h.held.length:=λ{i x}hx=>by
   grind
  cases L with
  |fin i x u k hx _ _ f _=>
   grind [phi,tN]
  |retired i x u k hx _ _ f _=>
   grind [phi,tN]
  |over u k x hnf hl hc f _ _=>
   grind [phi]
  |refuse x J u k _ hl _ _ f=>
   grind [phi,tN,hl]
  |cmd x J u k F N E es _ hl _ _ f hc=>
   grind [phi,tN,hl]
  |hold x J v F _ hl _ _ hr=>
   grind [phi,tN,hl]
  |drain x J _ hl _ _=>
   grind [phi,tN,hl]
  |close x J _ hl _ _=>
   grind [eQ,zr,lD,mP,phi,hl]
open Go.Sx
theorem LA(a:Mv h n h'):h'.SD.Si=h.SD.Si:=by
 cases a with
 |back=>rfl
 |ask _ _ _ _ _ _ _ _ a=>cases a<;>rfl
 |work _ _ _ _ _ a=>cases a<;>rfl
 |serve _ _ _ _ _ a=>cases a<;>rfl
 |rule _ _ a=>cases a<;>rfl
theorem Oq(a:Mv h n h'):h'.or.length=h.or.length/\h'.LE.length=h.LE.length/\h'.Fd.length=h.Fd.length:=by
 cases a with
 |back=>exact ⟨j8,rfl,rfl⟩
 |ask _ _ _ _ _ _ _ _ a=>cases a<;>simp [uF,KI,oZ]
 |work _ _ _ _ _ a=>cases a<;>simp [BV,oY]
 |serve _ _ _ _ _ a=>cases a<;>simp [Hl]
 |rule _ _ a=>cases a<;>simp [tN]
structure HR (c:zH) (ss:List (List zO)) (P n:Nat) (h:za):Prop where
 inv:HI c ss n h
 Vc:HJ h.or.length h.LE.length h.Fd.length h
 left:n+phi h<=P
 turn:h.SD.Si=n
 UY:P<100000000
open Go.Sx
theorem uk{g:Type}{f:g->Nat}{k:Nat}:∀{l:List g},(∀x∈l,f x<=k)->eQ f l<=l.length*k
 |[],_=>by simp [eQ]
 |x::l,hl=>by
  have a:=hl x zcs;have b:=uk λy h=>hl y (zcm _ h)
  rw [u7,t8]
  grind [eQ]
theorem Jh(a:KF c ss h):HR c ss (phi h) 0 h:=by
 obtain ⟨n,_,_⟩:=KS a;have L:=a.hk;have M:=a.wk;have N:=a.sh;have O:=a.cl;have q:=a.sl;obtain ⟨r,os,P,f,g,Q,R,S,T,U,V,⟨v,y⟩,⟨A,B⟩,rfl⟩:=a.is;obtain ⟨W,l,X,Y,Z⟩:=WJ.new (H:=c.SA.toNat) (K:=c.Maps.length) (by omega);rw [g] at l;obtain rfl:=j4 l
 have hm:∀{i:Nat} {x:qr},(List.replicate (ss.length+c.Sl.toNat+c.Sw.toNat+1) (qr.mk 0 0))[i]? =some x->x.Su=0:=λb=>by
  grind
 have C:∀{j:Nat} {w:zz},(List.replicate c.Sl.toNat (mC f))[j]? =some w->w=mC f/\j<c.Sl.toNat:=λb=>⟨R6 (zmg b),by grind⟩
 have D:∀o∈os,o.Sr=[]/\o.Sv=false:=λo h=>by
  obtain ⟨i,hi⟩:=p9 h
  grind
 refine ⟨n,⟨⟨λp x b=>by grind [jA],λi u hu hv=> ?_⟩,(λt x _ b e=>by grind),(λj w x _ b e=>by grind),(λi o x _ b e=>by grind),(λx b e=>by grind),(λj w d m _=> ?_),(λz=>by cases z),(λj w d _=> ?_),(λo h e=>(D o h).1),(λz=>by cases z)⟩,by omega,rfl,?_⟩
 ·grind
 ·rw [(C d).1] at m;have m:f.Su=3:=m;omega
 ·grind
 ·have E:eQ (wK os.length) (ss.map C1)<=(ss.map C1).length*(64*794):=uk λk F=>by
   obtain ⟨s,G,rfl⟩:=ym.1 F
   have E:eQ (Cu os.length) s<=s.length*794:=uk λx _=>by
    grind [Cu]
   have I:=q s G;have J:wK os.length (C1 s)=eQ (Cu os.length) s:=rfl
   grind
  have I:eQ C3 (List.replicate c.Sl.toNat (mC f))<=(List.replicate c.Sl.toNat (mC f)).length*1:=uk λw d=>by
   grind [C3,mC]
  have J:eQ uH os<=os.length*1:=uk λo h=>by
   grind [uH]
  grind [eQ,zr,mP,phi]
open Go.Sx
structure HB (c:zH) (ss:List (List zO)) (P n:Nat) (h:za):Prop where
 inv:HI c ss n h
 left:n+phi h<=P
 turn:h.SD.Si=n
 UY:P<100000000
structure AC (c:zH) (ss:List (List zO)) (I:za->Prop):Prop where
 rj:∀{h:za},I h->RJ h.Fn
 k:∀{h:za} {k:zo},It h.SD k->I h->I (withK h k)
 mv:∀{n:Nat} {h:za} {t:Nat} {h':za},HI c ss n h->I h->Mv h t h'->I h'
theorem AC.and(b:AC c ss I)(f:∀{h:za} {k:zo},It h.SD k->J h->J (withK h k))(g:∀{n:Nat} {h:za} {t:Nat} {h':za},HI c ss n h->I h->J h->Mv h t h'->J h'):AC c ss (λh=>I h/\J h):=
 ⟨λz=>b.rj z.1,λa z=>⟨b.k a z.1,f a z.2⟩,λd z e=>⟨b.mv d z.1 e,g d z.1 z.2 e⟩⟩
abbrev HJ'(h:za):Prop:=HJ h.or.length h.LE.length h.Fd.length h
theorem K4(b:aR c ss):AC c ss HJ':=⟨λz=>z.Ty,λa z=>z.withK a,λ{n h t h'}d z e=>by
 grind [Oq,Rb]⟩
theorem IP(l:aR c ss)(g:AC c ss I)(d:HB c ss P n h)(m:I h)(p:Stp h T):HB c ss P (if T.2.1 then n+1 else n) T.2.2/\I T.2.2/\(T.2.1=true->phi T.2.2+1<=phi h):=by
 have q:=d.left;have o:=d.UY;cases p with
 |none k _ a b e=>
  subst e;exact ⟨⟨d.inv.withK a.1,q,b.trans d.turn,o⟩,g.k a m,λz=>by cases z⟩
 |one k t x h' r a b u v i e=>
  subst e;have j:=d.inv.withK a.1;have f:=g.k a m;have w:=Qm l j (g.rj f) i;have s:phi (KH.withK h k)=phi h:=rfl;refine ⟨⟨PZ l j (by omega) i,by grind,?_,o⟩,g.mv j f i,λ_=>by grind⟩;rw [LA i];show k.Si=_;rw [b,d.turn,qo (by omega) (by omega)];rfl
def K5(h:za):Prop:=∀t,t<h.SD.Sn.length->(∀x,h.SD.Sn[t]? =some x->x.Su≠2)->¬ Rdy h t
structure Ea (h:za):Prop where
 no:∀t,¬ Rdy h t
 Uu:∀k∈h.or,k.waits=false/\k.SO=k.SP.length
 crew:∀w∈h.LE,w.LT.Su=0
 over:h.Sk=true->h.over=true
theorem K5.done(a:K5 h)(b:aR c ss)(d:HI c ss n h)(e:HJ' h):Ea h:=by
 obtain ⟨g,f,i,j⟩:=e.rest b d a;exact ⟨g,f,i,j⟩
theorem IR{c:zH}{ss:List (List zO)}{I:za->Prop}(l:aR c ss)(u:AC c ss I){P:Nat}:∀(m f n:Nat)(h:za),phi h<=m->m+2<=f->HB c ss P n h->I h->∃i h',HB c ss P i h'/\I h'/\K5 h'/\n<=i/\loop (vJ 2199023255552) f (h,true)=some h'
 |m,0,n,h,_,B,o,_=>by omega
 |m,f+1,n,h,C,B,o,D=>by
  obtain ⟨r,E,v⟩:=NQ l o.inv;obtain ⟨a,d,w⟩:=IP l u o D v;cases j:r.2.1 with
  |true=>
   rw [j] at a;have w:=w j;obtain ⟨i,h',F,G,J,Q,R⟩:=IR l u (m-1) f (n+1) r.2.2 (by omega) (by omega) a d;refine ⟨i,h',F,G,J,by omega,?_⟩;show vJ _ _ (h,true)=_
   grind [vJ]
  |false=>
   rw [j] at a;cases v with
   |none k p b q e=>
    subst e;refine ⟨n,_,a,d,λt K A z=>p t (by rw [<- b.1];exact K) (λx s L=> ?_) (z.withK h.SD),k9 _,?_⟩
    ·obtain ⟨y,M,N⟩:=b.2 t x s;exact A y M (N.1 L)
    show vJ _ _ (h,true)=_;unfold vJ;simp only [q9,E,zbs];obtain ⟨f,rfl⟩:∃g,f=g+1:=⟨f-1,by omega⟩
    rfl
   |one k t x h' O b q A C S e=>subst e;cases j
theorem Fx{c:zH}{ss:List (List zO)}{I:za->Prop}(d:aR c ss)(j:AC c ss I){P:Nat}(l:List Int):∀(m i n:Nat)(h:za),i+m=l.length->HB c ss P n h->I h->∃a h',HB c ss P a h'/\I h'/\n<=a/\jM (dF 2199023255552 l) (λ(s:za)=>s) m i h=some h'
 |0,i,n,h,_,b,e=>⟨n,h,b,e,k9 _,rfl⟩
 |m+1,i,n,h,q,b,e=>by
  obtain ⟨r,t,k⟩:=Av d b.inv l[i];obtain ⟨f,g,_⟩:=IP d j b e k;obtain ⟨a,h',o,p,u,v⟩:=Fx d j l m (i+1) _ r.2.2 (by omega) f g;refine ⟨a,h',o,p,by grind,?_⟩;show dF _ _ i _ h=_;have w:=zeg (show i<l.length by omega)
  grind [dF,zV]
theorem N2(f:aR c ss)(g:AC c ss I)(i:HB c ss P n h)(m:I h)(l:List Int):∃j h',HB c ss P j h'/\I h'/\K5 h'/\cM 2199023255552 h l=some (((j-n:Nat):Int),h'):=by
 obtain ⟨o,k,b,d,u,p⟩:=Fx f g l l.length 0 n h (by omega) i m;obtain ⟨q,r,a,e,s,v,t⟩:=IR f g (phi k) 2199023255552 o k (k9 _) (by have:=b.left;have:=b.UY;omega) b d;refine ⟨q,r,a,e,s,?_⟩;unfold cM bY;simp only [zbs];rw [p];simp only [zbs];rw [t];simp only [zbs];rw [i.turn,a.turn];have:=a.left;have:=a.UY
 grind [qo]
theorem N3(b:KF c ss h):HB c ss (phi h) 0 h:=by
 have a:=Jh b;exact ⟨a.inv,a.left,a.turn,a.UY⟩
theorem K6:eB 2199023255552=some true:=by decide+kernel
theorem N4(a:∀s∈k.Tl,∀c∈s,Fit c):bM 2199023255552 k=some (none,true)\/∃h,bM 2199023255552 k=some (some h,true)/\KF k.C k.Tl h:=by
 unfold bM;rcases DI (fu:=2199023255552) (by omega) k.C k.Tl a with ⟨e,b,d⟩|⟨h,b,f⟩
 ·grind [vT]
 grind [vT]
theorem AD(j:h.or.length<=4)(l:h.LE.length<=4):∃b,xE h=some b/\(b=true↔(∀k∈h.or,k.waits=false)/\∀w∈h.LE,w.LT.Su=0):=by
 unfold xE;rw [xR (by omega),zbs]
 obtain ⟨o,m,n⟩:OK (jM (eD h) (λ(c:Unit)=>(.inl ())) (h.or).length 0 ()) (λo=>match o with|.inl _=>∀k∈h.or,k.waits=false|.inr b=>b=false/\∃k∈h.or,k.waits=true):=by
  refine g9 (λi _=>∀k∈h.or.take i,k.waits=false) (by simp) (λi s a f p g=> ?_) (λs q=>by grind);unfold eD;refine f9 (i7 f λx d=> ?_);refine d5 (λe=>b9 ⟨rfl,x,zmg d,e⟩) (λe=>g _ ?_);rw [mB d]
  grind
 grind [wz]
def lH(r:zr):zT:=⟨r.Sj.SZ,r.Sj.TB,r.Sj.TC,r.Sj.Tf,(r.waiting.length:Int)⟩
theorem Fy(g:h.rings.length<=4):aN h=some (h.rings.map lH):=by
 unfold aN;rw [xR (by omega),zbs]
 have:jM (eC h) (λ(a:(List zT))=>a) (h.rings).length 0 ([]:List zT)=some (h.rings.map lH):=by
  refine OK.is (g9 (λi s=>s=(h.rings.take i).map lH) rfl (λi s b c d e=> ?_) (λs j=>by grind));subst d;unfold eC;refine f9 (i7 c λx f=> ?_);unfold xM;rw [zbs,xR (by simp;omega),zbs];refine e _ ?_;rw [mB f,t9];rfl
 rw [this];rfl
open Go.Sx
def cE(m:Int)(z:Nat)(l:List zd):Nat:=l.countP (λe=>e.TO==m&&e.SS==(z:Int))
def pN(z:Nat)(w:zz):Nat:=if w.LT.Su≠0/\w.LT.SX.hook=z then 1 else 0
def fV(e:zd):Prop:=e.TO≠4/\e.TO≠5/\e.TO≠9/\e.TO≠10
structure HQ (R:Int) (h:za):Prop where
 mark:∀e∈h.SH,fV e\/(0<=e.SS/\e.SS<h.rings.length)
 cnt:∀(z:Nat) r,h.rings[z]? =some r->r.room=R/\r.Sj.SZ=cE 4 z h.SH/\r.Sj.TC=cE 5 z h.SH/\r.Sj.Tf=cE 10 z h.SH/\cE 4 z h.SH=cE 5 z h.SH+cE 10 z h.SH+r.waiting.length
 run:∀z:Nat,z<h.rings.length->cE 5 z h.SH=cE 9 z h.SH+eQ (pN z) h.LE
theorem nQ(m:Int)(z:Nat)(l a:List zd):cE m z (l++a)=cE m z l+cE m z a:=List.countP_append
theorem wE(m:Int)(z:Nat)(e:zd):cE m z [e]=if e.TO=m/\e.SS=z then 1 else 0:=by
 grind [cE]
theorem IM(z:Nat){l:List zd}(h:∀e∈l,e.TO≠m):cE m z l=0:=by
 unfold cE;rw [List.countP_eq_zero]
 grind
theorem Gs(m:Int)(z:Nat)(l:List zd):cE m z l<=l.length:=List.countP_le_length
theorem HQ.withK(a:HQ R h)(k:zo):HQ R (KH.withK h k):=⟨a.mark,a.cnt,a.run⟩
theorem HQ.plain(d:HQ R h)(hl:h'.SH=h.SH++es)(g:∀e∈es,fV e)(f:h'.rings=h.rings)(i:∀z,eQ (pN z) h'.LE=eQ (pN z) h.LE):HQ R h':=by
 have c:∀m z,m=4\/m=5\/m=9\/m=10->cE m z h'.SH=cE m z h.SH:=λm z j=>by
  rw [hl,nQ,IM z (l:=es) (by grind [fV])];rfl
 refine ⟨λe b=> ?_,λz r a=> ?_,λz a=> ?_⟩
 ·rw [f];rw [hl] at b;rcases g8.1 b with b|b
  ·exact d.mark e b
  ·exact .inl (g e b)
 ·rw [c 4 z (by simp),c 5 z (by simp),c 10 z (by simp)];rw [f] at a;exact d.cnt z r a
 ·rw [c 5 z (by simp),c 9 z (by simp),i];rw [f] at a;exact d.run z a
theorem HQ.crew(d:HQ R h){w:zz}(f:h.LE[j]? =some w)(i:e.TO≠4/\e.TO≠5/\e.TO≠10)(k:e.TO=9->0<=e.SS/\e.SS<h.rings.length)(g:∀z,pN z w=cE 9 z [e]+pN z w'):
  HQ R (BV h rg v (h.LE.set j w') A h.rings e):=by
 have b:∀m z,m=4\/m=5\/m=10->cE m z (h.SH++[e])=cE m z h.SH:=λm z l=>by
  rw [nQ,wE,d7 (by grind)];rfl
 refine ⟨λx c=> ?_,λz r a=> ?_,λz a=> ?_⟩
 ·show fV x\/(0<=x.SS/\x.SS<h.rings.length)
  rcases g8.1 (show x∈h.SH++[e] from c) with c|c
  ·exact d.mark x c
  ·grind [fV]
 ·show _/\_=(cE 4 z (h.SH++[e]):Int)/\_=(cE 5 z (h.SH++[e]):Int)/\_=(cE 10 z (h.SH++[e]):Int)/\cE 4 z (h.SH++[e])=cE 5 z (h.SH++[e])+cE 10 z (h.SH++[e])+_;rw [b 4 z (by simp),b 5 z (by simp),b 10 z (by simp)];exact d.cnt z r a
 ·show cE 5 z (h.SH++[e])=cE 9 z (h.SH++[e])+eQ (pN z) (h.LE.set j w');have n:=d.run z a;have o:=eH (pN z) f w';have p:=g z;rw [b 5 z (by simp),nQ];omega
theorem K3(m:Int)(t:Int)(z:Nat)(a:List zr):cE m z (om t a)=if m=10 then ((a[z]?).map (λr=>r.waiting.length)).getD 0 else 0:=by
 have gen:∀(a:List zr)(o:Nat),cE m z ((a.mapIdx (λi r=>r.waiting.map (lT t ((i+o:Nat):Int)))).flatten)=if m=10/\o<=z then ((a[z-o]?).map (λr=>r.waiting.length)).getD 0 else 0:=λa=>by
  induction a with
  |nil=>intro o;simp [cE]
  |cons r a b=>
   intro o;have d:=b (o+1)
   have f:cE m z (r.waiting.map (lT t ((0+o:Nat):Int)))=if m=10/\o=z then r.waiting.length else 0:=by
    unfold cE;rw [List.countP_map];split
    ·rename_i e
     rw [List.countP_eq_length.2];intro q _;simp [lT,e.1,e.2]
    ·rename_i e
     rw [List.countP_eq_zero];intro q _;simp only [Function.comp,lT]
     grind
   rw [List.mapIdx_cons,yc,nQ,f]
   have g:(λ(i:Nat)(r:zr)=>r.waiting.map (lT t ((i+1+o:Nat):Int)))=λi r=>r.waiting.map (lT t ((i+(o+1):Nat):Int)):=by
    funext i r
    rw [show i+1+o=i+(o+1) by omega]
   rw [g,d];by_cases h:m=10
   ·by_cases e:o=z
    ·subst e;simp [h];omega
    ·by_cases j:o<=z
     ·rw [d7 (by omega),d8 (c:=m=10/\o<=z) ⟨h,j⟩,d8 (by omega),show z-o=(z-(o+1))+1 by omega];simp
     ·rw [d7 (by omega),d7 (by omega),d7 (by omega)]
   ·simp [h]
 have:=gen a 0
 simpa [om] using this
open Go.Sx
theorem N0(a:r.waiting=U::K)(h:va r V=some (U,true,F)):F=⟨r.room,r.TK,K,⟨r.Sj.SZ,r.Sj.TB,w64 (r.Sj.TC+1),r.Sj.Tf,r.Sj.Tx⟩⟩:=by
 unfold va at h;rw [a,d7 (by simp;omega)] at h
 have e:cut (U::K) 1 ((U::K).length:Int)=some K:=by
  unfold cut;rw [d8 (by simp;omega)];simp
 rw [show Go.Sx.idx (U::K) 0=some U from rfl,zbs,e] at h
 grind
theorem IN(h:xi r ev V=some (R,E,F,s)):
  (r.TK=true/\E=43/\F=r/\s=V)\/(r.TK=false/\E=40/\(r.waiting.length:Int)=r.room/\F={r with Sj:=⟨r.Sj.SZ,w64 (r.Sj.TB+1),r.Sj.TC,r.Sj.Tf,r.Sj.Tx⟩}/\s=V)\/
  (r.TK=false/\E=0/\(r.waiting.length:Int)≠r.room/\F=⟨r.room,r.TK,r.waiting++[⟨R,ev⟩],⟨w64 (r.Sj.SZ+1),r.Sj.TB,r.Sj.TC,r.Sj.Tf,r.Sj.Tx⟩⟩/\aH V=some (R,s)):=by
 unfold xi at h;split at h
 ·grind
 ·split at h
  ·grind
  ·obtain ⟨⟨m,g⟩,a,h⟩:=z4.1 h;obtain ⟨u,b,h⟩:=z4.1 h
   grind
theorem Qe{g:Type}{l:List g}{x:g}(h:l[i]? =some x):l.set i x=l:=by
 refine l8 λj=> ?_
 grind
theorem N1(a:w'.LT.Su=0↔Q.LT.Su=0)(h:w'.LT.SX.hook=Q.LT.SX.hook):pN n w'=pN n Q:=by
 unfold pN;rw [h]
 grind
theorem HQ.ring(d:HQ R h)(y:h.SH.length<9223372036854775807)(f:h.rings[i]? =some r)(A:m=4\/m=5\/m=10)
  (hl:h'.SH=h.SH++es) (j:h'.rings=h.rings.set i F) (l:∀e∈es,fV e\/e.TO=m/\e.SS=i) (k:Nat) (B:cE m i es=k) (n:k<=1)
  (C:F.room=r.room) (D:F.Sj.SZ=if m=4/\k=1 then w64 (r.Sj.SZ+1) else r.Sj.SZ) (E:F.Sj.TC=if m=5/\k=1 then w64 (r.Sj.TC+1) else r.Sj.TC) (o:F.Sj.Tf=r.Sj.Tf) (g:m≠10)
  (G:F.waiting.length+(if m=5 then k else 0)=r.waiting.length+(if m=4 then k else 0)) (p:∀z:Nat,eQ (pN z) h'.LE=eQ (pN z) h.LE+if m=5/\z=i then k else 0):HQ R h':=by
 have s:=(zes.1 f).1
 have b:∀(q:Int) z,(q=4\/q=5\/q=9\/q=10)->cE q z h'.SH=cE q z h.SH+if q=m/\z=i then k else 0:=λq z I=>by
  rw [hl,nQ]
  congr 1
  split
  ·grind
  ·rename_i e
   unfold cE;rw [List.countP_eq_zero];intro x a;rcases l x a with t|⟨t,J⟩
   ·grind [fV]
   ·grind
 have u:h'.rings.length=h.rings.length:=by grind
 refine ⟨λe a=> ?_,λz v c=> ?_,λz c=> ?_⟩
 ·rw [u];rw [hl] at a;rcases g8.1 a with a|a
  ·exact d.mark e a
  grind
 ·rw [b 4 z (by simp),b 5 z (by simp),b 10 z (by simp)];rw [j] at c;rcases vC c with ⟨rfl,rfl,_⟩|⟨K,c⟩
  ·obtain ⟨L,M,N,w,O⟩:=d.cnt z r f;have P:=Gs 4 z h.SH
   grind [qo]
  ·have:=d.cnt z v c
   grind
 ·rw [b 5 z (by simp),b 9 z (by simp),p];have:=d.run z (by omega)
  grind
theorem Q9(hS:aR c ss)(J:HI c ss n h)(f:HQ R h)(D:Mv h d h'):HQ R h':=by
 have hb:h.SH.length<9223372036854775807:=by have:=J.Ua;have:=J.Tv;omega
 cases D with
 |back d k ht A L=>exact f.plain (es:=[DL d k]) (by simp [uF]) (by simp [fV,DL]) rfl λ_=>rfl
 |ask d k cmd h' ht A hat hc D=>
  cases D with
  |told E _=>exact f.plain (es:=[eS d k,DL d (withA k ⟨E,k.Id.N,k.Id.Tj,k.Id.Pairs⟩)]) (by simp [uF]) (by simp [fV,DL,eS]) rfl λ_=>rfl
  |fire i r F n E g B _ _ T hA=>
   rcases IN hA with ⟨_,rfl,rfl,_⟩|⟨_,rfl,_,rfl,_⟩|⟨_,rfl,_,rfl,_⟩
   ·exact f.plain (es:=[eS d k,DL d (withA k ⟨43,k.Id.N,k.Id.Tj,k.Id.Pairs⟩)]) (by simp [uF]) (by simp [fV,DL,eS]) (Qe T) λ_=>rfl
   ·exact f.ring hb T (m:=4) (es:=[eS d k,DL d (withA k _)]) (by simp) (by simp [uF];rfl) rfl (by simp [fV,DL,eS]) 0 (by simp [cE,eS,DL]) (by simp) rfl (by simp) (by simp) rfl (by simp) (by simp) (by simp [uF])
   ·exact f.ring hb T (m:=4) (es:=[eS d k,O5 d k n i,DL d (withA k _)]) (by simp) (by simp [uF];rfl) rfl (by simp [fV,DL,eS,O5]) 1 (by simp [cE,eS,DL,O5]) (by simp) rfl (by simp) (by simp) rfl (by simp) (by simp) (by simp [uF])
  |items B _ _ _ _=>exact f.plain (es:=[eS d k]) rfl (by simp [fV,eS]) rfl λ_=>rfl
  |walk B _ _ _=>exact f.plain (es:=[eS d k]) rfl (by simp [fV,eS]) rfl λ_=>rfl
  |call B _ _=>exact f.plain (es:=[eS d k]) rfl (by simp [fV,eS]) rfl λ_=>rfl
 |work j w h' A U D=>
  have hC:=J.crew w (zmg A);have M:=hC.SX;obtain ⟨hr1,hr2,hr4⟩:=J.hooks4 hS
  have hh:0<=w.LT.SX.hook/\w.LT.SX.hook<h.rings.length:=by
   have:=M.hook;have:=J.rg;omega
  have G:∀{a:qT} {W:zl},w.LT.Su=2->qz 2199023255552 w.LT=some (a,true,W)->B9 c.SA.toNat c.Maps.length w.LT a W:=λI y=>by
   grind [IA]
  have s:∀{w':zz} {e:zd},e.TO≠9->(w'.LT.Su=0↔w.LT.Su=0)->w'.LT.SX.hook=w.LT.SX.hook->∀z,pN z w=cE 9 z [e]+pN z w':=λh9 L O z=>by
   rw [N1 L O,wE,d7 (by grind)];omega
  have gone:∀{w':zz} {e:zd},e.TO=9->e.SS=w.LT.SX.hook->w.LT.Su≠0->w'.LT.Su=0->∀z,pN z w=cE 9 z [e]+pN z w':=λh9 O m0 m1 z=>by
   grind [pN,wE]
  cases D with
  |ends x m0 B O L=>exact f.crew A (by simp [Hk]) (by simp [Hk]) (s (by simp [Hk]) Iff.rfl rfl)
  |take i r F q K cur m0 B T V htk c0 c1=>
   obtain rfl:=N0 V htk;refine f.ring hb T (m:=5) (es:=[pf 5 (h.or.length+j:Nat) q.N i 0 0 0 ol BQ 0]) (by simp) rfl rfl (by simp [pf]) 1 (by simp [cE,pf]) (by simp) rfl (by simp) (by simp) rfl (by simp) (by simp [V]) λz=> ?_
   have:=eH (pN z) A ⟨⟨w.LT.Tg,w.LT.Tz,1,⟨i,q,0,0,0,none⟩⟩,cur,w.pc,w.Tw,w.Sv⟩;show eQ (pN z) (h.LE.set j _)=_
   grind [pN]
  |skip st v p m1 hcu hsk=>exact f.crew A (by simp [pf]) (λ_=>hh) (gone rfl rfl (by omega) rfl)
  |enter v p m b e1 e2 ck e W m1 hcu hmo C hE=>
   obtain ⟨m3,b3,X,h1,h2,h3⟩:=J.module p;rw [hmo] at X;cases X;obtain ⟨e3,W2,Y,_,hW⟩:=B8 M m1 h1 h2 h3 v p;rw [hE] at Y;cases Y;exact f.crew A (by simp [pf]) (by simp [pf]) (s (by simp [pf]) (by grind [inW]) (by grind [inW]))
  |note x W I y k3=>
   rcases G I y with ⟨z,_⟩|⟨z,_⟩|⟨_,m,g,_⟩
   ·omega
   ·omega
   ·exact f.crew A (by simp [pf]) (by simp [pf]) (s (by simp [pf]) (by simp [inW];omega) g)
  |ran x W I y k1=>
   rcases G I y with ⟨z,_⟩|⟨z,_⟩|⟨_,m,g,_⟩
   ·omega
   ·omega
   ·exact f.crew A (by simp [pf]) (by simp [pf]) (s (by simp [pf]) (by simp [inW];omega) g)
  |done x W e1 ck I y k4 hlv=>
   rcases G I y with ⟨_,m,_⟩|⟨z,_⟩|⟨z,_⟩
   ·exact f.crew A (by simp [pf]) (λ_=>hh) (gone rfl rfl (by omega) m)
   ·omega
   ·omega
  |ask x W I y k2=>
   rcases G I y with ⟨z,_⟩|⟨_,m,g,_⟩|⟨z,_⟩
   ·omega
   ·exact f.crew A (by simp [pf]) (by simp [pf]) (s (by simp [pf]) (by grind) g)
   ·omega
  |back r W m3 P hA=>
   obtain ⟨W2,Z,_,L,g,_⟩:=kH M m3 (hC.rep r P);rw [hA] at Z;cases Z;exact f.crew A (by simp [pf]) (by simp [pf]) (s (by simp [pf]) (by grind) g)
 |serve i o h' ho U D=>
  cases D with
  |ends d x ht hl O L=>exact f.plain (es:=[Hk d]) rfl (by simp [fV,Hk]) rfl λ_=>rfl
  |crew d q t x Q j w ht hq hf A=>exact f.plain (es:=[Mw d q 0 w.LT.SX.Te.N]) rfl (by simp [fV,Mw]) rfl λz=>sS _ A rfl
  |walk q t x Q u k hq hf O _ _ _=>exact f.plain (es:=[]) rfl (by simp) rfl λ_=>rfl
  |item d q t x Q u k ht hq hf O _ _ _=>exact f.plain (es:=[Mw d q k.SO 0]) rfl (by simp [fV,Mw]) rfl λ_=>rfl
 |rule h' U D=>
  cases D with
  |fin x u k _ _ _ _=>exact f.plain (es:=[]) rfl (by simp) rfl λ_=>rfl
  |retired i x u k _ _ _ _=>exact f.plain (es:=[tM 13 _ 0 x.cmd.Tu 0]) rfl (by simp [fV,tM]) rfl λ_=>rfl
  |over u k x hnf hl hc hu O L=>exact f.plain (es:=[Hk _]) rfl (by simp [fV,Hk]) rfl λ_=>rfl
  |refuse x Q u k _ _ _ _ _=>exact f.plain (es:=[]) rfl (by simp) rfl λ_=>rfl
  |cmd x Q u k F N E es _ hl _ _ _ hc=>
   refine f.plain (es:=es) rfl ?_ rfl λ_=>rfl
   cases hc<;>intro e C<;>grind [fV,tM]
  |hold x Q v F _ _ _ _ P=>exact f.plain (es:=[]) rfl (by simp) rfl λ_=>rfl
  |drain x Q _ _ _ _=>exact f.plain (es:=[]) rfl (by simp) rfl λ_=>rfl
  |close x Q _ _ _ _=>
   have hz:∀(m:Int) z,m=4\/m=5\/m=9\/m=10->cE m z (h.SH++om ((h.or.length+h.LE.length+h.Fd.length:Nat):Int) h.rings++[tM 14 ((h.or.length+h.LE.length+h.Fd.length:Nat):Int) 0 0 0])=cE m z h.SH+if m=10 then ((h.rings[z]?).map (λr=>r.waiting.length)).getD 0 else 0:=λm z L=>by
    rw [nQ,nQ,K3,IM z (l:=[tM 14 _ 0 0 0]) (by simp only [i6,forall_eq];show (14:Int)≠m;omega)];rfl
   have hle:=λz=>Gs 10 z (h.SH++om ((h.or.length+h.LE.length+h.Fd.length:Nat):Int) h.rings++[tM 14 ((h.or.length+h.LE.length+h.Fd.length:Nat):Int) 0 0 0])
   refine ⟨λe C=> ?_,λz r P=> ?_,λz hz'=> ?_⟩
   ·show fV e\/(0<=e.SS/\e.SS<(h.rings.map lD).length)
    rw [o8];rcases g8.1 C with C|C
    ·rcases g8.1 C with C|C
     ·exact f.mark e C
     ·refine .inr ?_;unfold om at C;obtain ⟨l,h1,h2⟩:=j9.1 C
      grind [lT]
    ·exact .inl (by grind [fV,tM])
   ·have P:(h.rings.map lD)[z]? =some r:=P;rw [x3] at P;obtain ⟨S,h0,rfl⟩:=yf.1 P;obtain ⟨a0,a4,a5,a10,aw⟩:=f.cnt z S h0;show (lD S).room=R/\(lD S).Sj.SZ=(cE 4 z (h.SH++_++_):Int)/\(lD S).Sj.TC=(cE 5 z (h.SH++_++_):Int)/\(lD S).Sj.Tf=(cE 10 z (h.SH++_++_):Int)/\cE 4 z (h.SH++_++_)=cE 5 z (h.SH++_++_)+cE 10 z (h.SH++_++_)+(lD S).waiting.length;rw [hz 4 z (by simp),hz 5 z (by simp),hz 10 z (by simp),h0];have hwl:=(J.ring S (zmg h0)).1;have l1:=Gs 4 z h.SH
    grind [lD,w64,qo]
   ·show cE 5 z (h.SH++_++_)=cE 9 z (h.SH++_++_)+eQ (pN z) h.LE;rw [hz 5 z (by simp),hz 9 z (by simp)];exact f.run z (by simpa using hz')
end Go.Proofs.YtplmgfkghomelaaGreatDoor.KH
