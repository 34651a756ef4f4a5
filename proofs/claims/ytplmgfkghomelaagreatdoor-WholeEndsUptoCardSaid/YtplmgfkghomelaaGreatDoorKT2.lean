/- Lemmas. -/
import Derived.Test.YtplmgfkghomelaaGreatDoorKH21
set_option linter.all false
namespace Go.Proofs.YtplmgfkghomelaaGreatDoor.KH
open Go.Sx
variable {s:Type}{h h':za}{c:zG}{ss:List (List zJ)}{n b a d i j P:Nat}{rg:zb}{l:List s}{I J:za->Prop}{w' N:zB}{x:s}{p L:zd}{S:List ze}{r:Int×Bool×za}{t O:zp}{m W K:zn}{v A:List zc}{e y:ql}{z U:List zp}{o F:zc}{q:aH}{B:zq}{u:List zB}{f:s->Nat}{C:zl}{D:List zJ}{G:zJ}{M:List zx}{w g:List Bool}{k:qt}{Q:zY}{V:List zY}{R X:zM}{ev:qr}{T E:Int}
structure HJ (a b d:Nat) (h:za):Prop where
 TT:RJ h.Fn
 kC:∀(t:Nat) x,t<a->h.Td.SU[t]? =some x->x.SY≠2
 kW:∀(j:Nat) w x,h.LE[j]? =some w->h.Td.SU[a+j]? =some x->x.SY=2->w.SZ=true
 kO:∀(i:Nat) o x,h.Fd[i]? =some o->h.Td.SU[a+b+i]? =some x->x.SY=2->o.SZ=true
 kR:∀x,h.Td.SU[a+b+d]? =some x->x.SY=2->h.over=true
 ask:∀(j:Nat) w,h.LE[j]? =some w->w.SQ.SY=3->w.TV=none->1<=bQ h.Fd ((a+j:Nat):Int)
 Uf:h.closed=true->∀r∈h.rings,r.waiting=[]
 Vh:∀(j:Nat) w,h.LE[j]? =some w->w.SQ.SY<=1->h.Fn.Th.in_[j]? =some 0
 UW:∀o∈h.Fd,o.SZ=true->o.SX=[]
 fin:h.over=true->h.closed=true/\h.SX=[]/\h.held=[]
theorem HJ.withK(l:HJ a b d h)(n:GB h.Td m):HJ a b d (KH.withK h m):=by
 have c:∀(i:Nat) y,m.SU[i]? =some y->y.SY=2->∃x,h.Td.SU[i]? =some x/\x.SY=2:=λi y f e=>by
  have hl:=(zes.1 f).1;have p:=zeg (show i<h.Td.SU.length by have:=n.1;omega);obtain ⟨z,u,g⟩:=n.2 i _ p
  grind
 exact {l with
  kC:=λt x q k e=>by obtain ⟨y,f,g⟩:=c t x k e;exact l.kC t y q f g
  kW:=λj w x r k e=>by obtain ⟨y,f,g⟩:=c _ x k e;exact l.kW j w y r f g
  kO:=λi o x s k e=>by obtain ⟨y,f,g⟩:=c _ x k e;exact l.kO i o y s f g
  kR:=λx k e=>by obtain ⟨y,f,g⟩:=c _ x k e;exact l.kR y f g}
theorem CM(l:List s):(l.map (λ_=>0)).sum=0:=by
 induction l with
 |nil=>rfl
 |cons x l i=>simp [i]
theorem HJ.rest(M:aq c ss)(p:HI c ss n h)(m:HJ h.or.length h.LE.length h.Fd.length h)(J:∀t,t<h.Td.SU.length->(∀x,h.Td.SU[t]? =some x->x.SY≠2)->¬ Rdy h t):
  (∀t,¬ Rdy h t)/\(∀k∈h.or,k.waits=false/\k.Tt=k.Tj.length)/\(∀w∈h.LE,w.SQ.SY=0)/\(h.closed=true->h.over=true):=by
 obtain ⟨T,U,V,W,X,Y⟩:=p.sizes M
 have all:∀t,¬ Rdy h t:=λt a=>by
  have A:t<h.Td.SU.length:=by
   cases a with
   |c _ k B a=>have:=(zes.1 B).1;omega
   |w j w l a=>have:=(zes.1 l).1;omega
   |o i o d a=>have:=(zes.1 d).1;omega
   |r a=>omega
  refine J t A (λx C e=> ?_) a;cases a with
  |c _ k B a=>exact m.kC t x (zes.1 B).1 C e
  |w j w l a=>
   have b:=m.kW j w x l C e;have y:=(a.1 ((p.crew w (zmg l)).over b)).1
   grind
  |o i o d a=>
   have b:=m.kO i o x d C e;rcases a with q|q
   ·exact q (m.UW o (zmg d) b)
   grind
  |r a=>
   have b:=a.1;rw [m.kR x C e] at b;cases b
 have K:∀o∈h.Fd,o.SX=[]/\(h.closed=true->(∀w∈h.LE,w.SZ=true)->o.SZ=true):=λo d=>by
  obtain ⟨i,O⟩:=p6 d;have:¬ Pp h o:=λz=>all _ (.o i o O z)
  grind [Pp]
 have D:∀f,bQ h.Fd f=0:=λf=>by
  unfold bQ;rw [List.map_congr_left (g:=λ_=>0) λo d=>by rw [(K o d).1];rfl];exact CM _
 have l:∀w∈h.LE,w.SQ.SY=0/\(w.SZ=true\/h.closed=false/\∀r∈h.rings,r.waiting=[]):=λw l=>by
  obtain ⟨j,F⟩:=p6 l;have b:¬ Po h w:=λz=>all _ (.w j w F z)
  have q:=(p.crew w l).Tz.is;have y:=m.ask j w F;rw [D] at y
  have P:w.SQ.SY=0:=by
   rcases q with e|e|⟨e,_⟩|⟨e,_⟩
   ·exact e
   ·exact absurd ⟨λz=>by omega,λz=>by omega⟩ b
   ·exact absurd ⟨λz=>by omega,λz=>by omega⟩ b
   ·cases a:w.TV with
    |none=>have:=y e a;omega
    |some r=>exact absurd ⟨λz=>by omega,λ_=>by rw [a];rfl⟩ b
  refine ⟨P,?_⟩;by_cases G:w.SZ=true
  ·exact .inl G
  ·have N:¬ (h.closed=true\/∃r∈h.rings,r.waiting≠ []):=λz=>b ⟨λ_=>⟨by simpa using G,z⟩,λz=>by omega⟩
   grind
 have Z:∀r∈h.rings,r.waiting=[]:=by
  cases I:h.closed with
  |true=>exact m.Uf I
  |false=>
   obtain ⟨w,u⟩:∃w,w∈h.LE:=List.exists_mem_of_length_pos (by omega);have b:=(l w u).2;have q:=p.UB w u
   grind
 have Q:∀e∈h.Fn.Th.in_,e=0:=λe G=>by
  obtain ⟨j,F⟩:=p6 G;have b:=(zes.1 F).1;have q:=p.TT.wk;have y:=p.crn M;have R:=zeg (show j<h.LE.length by omega);have N:=m.Vh j _ R (by grind)
  grind
 have E:∀x∈h.held,Fin h x:=λx C=>by
  grind [Fin]
 have v:h.SX=[]/\h.held=[]/\(h.closed=true->h.over=true):=by
  cases d:h.over with
  |true=>have:=m.fin d;exact ⟨this.2.1,this.2.2,λ_=>rfl⟩
  |false=>
   have a:¬ MN h:=λe=>all _ (.r e)
   unfold MN at a
   have S:h.held=[]:=by
    cases S:h.held with
    |nil=>rfl
    |cons x xs=>exact absurd ⟨d,.inr (.inl ⟨x,by grind,E x (by grind)⟩)⟩ a
   grind
 refine ⟨all,λk B=> ?_,λw L=>(l w L).1,v.2.2⟩;obtain ⟨t,A⟩:=p6 B;obtain ⟨s,hs,I⟩:=p.at A;have b:¬ Qf k:=λz=>all _ (.c t k A z)
 have q:=p.Ut t k A
 have y:gE h t=0:=by
  grind [gE,bV]
 rw [D,y] at q;have N:=I.Vj;have h5:=I.Tj
 grind [Qf]
theorem Ba(h:∀o∈v,o.SZ=true->o.SX=[])(a:∀o∈v,o.SZ=false):∀(l:List (Nat×zq)),∀o∈puts v l,o.SZ=true->o.SX=[]:=λl o b e=>by
 obtain ⟨i,c⟩:=p6 b
 grind [ep]
theorem HJ.open(a:HI c ss n h)(d:h.closed=false):∀o∈h.Fd,o.SZ=false:=λo b=>by
 have:=a.Uu o b
 grind
theorem HJ.put(c:HJ a b d h)(g:∀(i:Nat) o,v[i]? =some o->∃F,h.Fd[i]? =some F/\F.SZ=o.SZ)(k:∀f,bQ h.Fd f<=bQ v f)(l:∀o∈v,o.SZ=true->o.SX=[])(e:h'={h with or:=h'.or,Fd:=v,SX:=h'.SX,Tr:=h'.Tr})(n:h.over=true->h'.SX=[]):HJ a b d h':=by
 rw [e]
 exact {c with
  kO:=λi o x p r s=>by obtain ⟨F,t,u⟩:=g i o p;rw [<- u];exact c.kO i F x t r s
  ask:=λj w y m q=>p9 (c.ask j w y m q) (k _)
  UW:=l
  fin:=λz=>⟨(c.fin z).1,n z,(c.fin z).2.2⟩}
theorem uK(os:List zc)(x:Nat×zq)(f:Int):bQ os f<=bQ (oj os x) f:=by
 unfold oj;split
 ·rename_i o h
  have a:=gC h (Kb o x.2) f
  grind [uh,Kb]
 grind
theorem ni(f:Int):∀(l:List (Nat×zq))(os:List zc),bQ os f<=bQ (puts os l) f
 |[],os=>m6 _
 |x::l,os=>p9 (uK os x f) (ni f l (oj os x))
theorem eN(h:(K5 m n e).SU[i]? =some y):i=n\/m.SU[i]? =some y:=by
 rcases jS (show (m.SU.set n ⟨2,e.Uk⟩)[i]? =some y from h) with h|h
 ·exact .inl h.1
 ·exact .inr h.2
theorem HJ.crew(f:HJ a b d h){w:zB}(p:h.LE[j]? =some w)(s:w.SZ=true->w'.SZ=true)(g:RJ rg)(t:w'.SQ.SY=3->w'.TV=none->1<=bQ h.Fd ((a+j:Nat):Int))(u:w'.SQ.SY<=1->rg.Th.in_[j]? =some 0)(k:∀i:Nat,i≠j->h.Fn.Th.in_[i]? =some 0->rg.Th.in_[i]? =some 0)(l:h.closed=true->∀r∈z,r.waiting=[])(n:A=h.Fd)(e:ze):
  HJ a b d (BA h rg h.Td (h.LE.set j w') A z e):=by
 subst n
 exact {f with
  TT:=g
  kW:=λi v x c o m=>by
   rcases jS (show (h.LE.set j w')[i]? =some v from c) with ⟨rfl,rfl,_⟩|⟨_,c⟩
   ·exact s (f.kW _ w x p o m)
   ·exact f.kW i v x c o m
  ask:=λi v c m q=>by
   rcases jS (show (h.LE.set j w')[i]? =some v from c) with ⟨rfl,rfl,_⟩|⟨_,c⟩
   ·exact t m q
   ·exact f.ask i v c m q
  Uf:=l
  Vh:=λi v c m=>by
   rcases jS (show (h.LE.set j w')[i]? =some v from c) with ⟨rfl,rfl,_⟩|⟨y,c⟩
   ·exact u m
   ·exact k i y (f.Vh i v c m)}
theorem HJ.serve(c:HJ a b d h)(A:h.Fd[i]? =some o){C:List zq}(t:sj 2199023255552 o q F B C)(f:∀(j:Nat) w,u[j]? =some w->∃v,h.LE[j]? =some v/\w.SQ=v.SQ/\w.SZ=v.SZ/\(w.TV=none->v.TV=none/\B.Ud≠((a+j:Nat):Int)))(G:List zd)(S:List ze):
  HJ a b d (FC h G u (h.Fd.set i F) S):=by
 have l:=t.sh
 exact {c with
  kW:=λj w y n x m=>by obtain ⟨v,s,z,D,E⟩:=f j w n;rw [D];exact c.kW j v y s x m
  kO:=λk p y g x m=>by
   rcases jS (show (h.Fd.set i F)[k]? =some p from g) with ⟨rfl,rfl,_⟩|⟨_,g⟩
   ·rw [l.2.2.1];exact c.kO _ o y A x m
   ·exact c.kO k p y g x m
  ask:=λj w n m r=>by
   obtain ⟨v,s,z,D,E⟩:=f j w n;obtain ⟨I,J⟩:=E r;have K:=c.ask j v s (by rw [<- z];exact m) I
   have L:=gC A F ((a+j:Nat):Int);have M:=ui C B ((a+j:Nat):Int);rw [t.SX,t.UY,d8 J] at*
   show 1<=bQ (h.Fd.set i F) _;omega
  Vh:=λj w n m=>by obtain ⟨v,s,z,_⟩:=f j w n;exact c.Vh j v s (by rw [<- z];exact m)
  UW:=λp g e=>by
   rcases r7 (show p∈h.Fd.set i F from g) with g|rfl
   ·exact c.UW p g e
   ·rw [l.2.2.1] at e;have:=c.UW o (zmg A) e;rw [t.SX] at this;cases this}
theorem HJ.rul(c:HJ a b d h)(f:RJ rg)(g:rg.Th.in_=h.Fn.Th.in_)(e:h.over=false)(i:List zd)(l k:List zx)(S:List ze):HJ a b d (sk h rg i l k S):=
 {c with TT:=f,Vh:=λj w n m=>by show rg.Th.in_[j]? =_;rw [g];exact c.Vh j w n m,fin:=λz=>by rw [show h.over=true from z] at e;cases e}
theorem Ry(hS:aq c ss)(I:HI c ss n h)(ha:h.or.length=a)(hb:h.LE.length=b)(hd:h.Fd.length=d)(l:HJ a b d h)(A:Mv h P h'):HJ a b d h':=by
 cases A with
 |back P k ht D X=>exact {l with}
 |ask P k cmd h' ht D hat hc A=>
  cases A with
  |told E _=>exact {l with}
  |fire i r t n E g B _ _ hi hA=>exact {l with Uf:=λz=>by rw [show h.closed=true from z] at B;cases B}
  |items B _ _ _ _=>exact l.put (λi o J=>ep J) (λf=>ni f _ _) (Ba l.UW (HJ.open I B) _) rfl (λz=>(l.fin z).2.1)
  |walk B _ _ _=>exact l.put (λi o J=>ep J) (λf=>ni f _ _) (Ba l.UW (HJ.open I B) _) rfl (λz=>(l.fin z).2.1)
  |call B _ _=>exact {l with fin:=λz=>by have:=(l.fin z).1;rw [B] at this;cases this}
 |work j w h' D M A=>
  have hjl:=(zes.1 D).1;have hC:=I.crew w (zmg D);have hJw:=hC.Tz;obtain ⟨hr1,hr2,hr4⟩:=I.hooks4 hS
  have O:∀{a:qT} {C:zl},w.SQ.SY=2->qz 2199023255552 w.SQ=some (a,true,C)->Cn c.Ti.toNat c.Maps.length w.SQ a C:=λT G=>by
   grind [IW]
  have Y:∀(C:zl)(rp:Option zk)(Q pc:Int)(e:ze),C.SY=2->HJ a b d (BA h h.Fn h.Td (h.LE.set j ⟨C,Q,pc,rp,w.SZ⟩) h.Fd h.rings e):=λC rp Q pc e m=>
   l.crew (w':=⟨C,Q,pc,rp,w.SZ⟩) D (λz=>z) l.TT (λz=>absurd (m.symm.trans z) (by decide)) (λz=>by grind) (λ_ _ z=>z) l.Uf rfl _
  cases A with
  |ends x m0 B hk X=>
   exact {l with
    kC:=λu y Z s=>by
     rcases eN s with e|s
     ·omega
     ·exact l.kC u y Z s
    kW:=λi v y A s m=>by
     rcases jS (show (h.LE.set j _)[i]? =some v from A) with ⟨rfl,rfl,_⟩|⟨hn,A⟩
     ·rfl
     ·rcases eN s with e|s
      ·omega
      ·exact l.kW i v y A s m
    kO:=λi o y J s m=>by
     rcases eN s with e|s
     ·omega
     ·exact l.kO i o y J s m
    kR:=λy s m=>by
     rcases eN s with e|s
     ·omega
     ·exact l.kR y s m
    ask:=λi v A m q=>by
     rcases jS (show (h.LE.set j _)[i]? =some v from A) with ⟨rfl,rfl,_⟩|⟨_,A⟩
     ·grind
     ·exact l.ask i v A m q
    Vh:=λi v A m=>by
     rcases jS (show (h.LE.set j _)[i]? =some v from A) with ⟨rfl,rfl,_⟩|⟨_,A⟩
     ·exact l.Vh _ w D m
     ·exact l.Vh i v A m}
  |take i r t q V Q m0 B hi hwt htk c0 c1=>
   exact l.crew (w':=⟨⟨w.SQ.TG,w.SQ.Ua,1,⟨i,q,0,0,0,none⟩⟩,Q,w.pc,w.TV,w.SZ⟩) D (λz=>z) l.TT (λz=>absurd (show (1:Int)=3 from z) (by decide)) (λ_=>l.Vh j w D (by omega)) (λ_ _ z=>z) (λz=>by grind) rfl _
  |skip st v p m1 hcu hsk=>
   exact l.crew (w':=inW w ⟨w.SQ.TG,st,0,⟨0,⟨0,⟨0,0⟩⟩,0,0,0,none⟩⟩) D (λz=>z) l.TT (λz=>absurd (show (0:Int)=3 from z) (by decide)) (λ_=>l.Vh j w D (by omega)) (λ_ _ z=>z) l.Uf rfl _
  |enter v p m b e1 e2 ck e C m1 hcu hmo he hE=>
   obtain ⟨T,hm2,o,hjd⟩:=l.TT.cur I.TT hcu;obtain ⟨m3,b3,hm3,h1,h2,h3⟩:=I.module p;rw [hmo] at hm2 hm3;cases hm2;cases hm3;obtain ⟨e3,W2,hE2,_,hW⟩:=Cm hJw m1 h1 h2 h3 v p;rw [hE] at hE2;cases hE2
   have X:C.SY=2:=by
    grind
   obtain ⟨⟨q1,q2,q3⟩,R,hq2⟩:=AR I.TT (j:Int);rw [he] at R;cases R;refine l.crew (w':=inW w C) (rg:=QZ h.Fn ck) D (λz=>z) ⟨l.TT.Ux,l.TT.hook⟩ (λz=>absurd (X.symm.trans z) (by decide)) (λz=>by have z:C.SY<=1:=z;omega) (λi hn z=> ?_) l.Uf rfl _;show ck.in_[i]? =some 0
   grind
  |note x C T G k3=>
   rcases O T G with ⟨z,_⟩|⟨z,_⟩|⟨_,m,_⟩
   ·omega
   ·omega
   ·exact Y _ _ _ _ _ m
  |ran x C T G W=>
   rcases O T G with ⟨z,_⟩|⟨z,_⟩|⟨_,m,_⟩
   ·omega
   ·omega
   ·exact Y _ _ _ _ _ m
  |done x C e1 ck T G k4 hlv=>
   obtain ⟨⟨q1,q2⟩,R,hq2⟩:=AU I.TT (j:Int);rw [hlv] at R;cases R
   have X:C.SY=0:=by
    rcases O T G with ⟨_,m,_⟩|⟨z,_⟩|⟨z,_⟩
    ·exact m
    ·omega
    ·omega
   have hcr:=I.crn hS;have hwk:=I.TT.wk;refine l.crew (w':=inW w C) (rg:=QZ h.Fn ck) D (λz=>z) ⟨l.TT.Ux,l.TT.hook⟩ (λz=>absurd (X.symm.trans z) (by decide)) (λ_=> ?_) (λi hn z=> ?_) l.Uf rfl _
   ·show ck.in_[j]? =some 0
    grind
   ·show ck.in_[i]? =some 0
    grind
  |ask x C T G K=>
   have hne:∀o∈h.Fd,o.SZ=false:=λo J=>by
    have h1:=I.Uu o J;have h2:=hC.over
    grind
   obtain ⟨g1,g2,g3,g4⟩:0<=x.Item.TB/\x.Item.TB<c.Maps.length/\0<=x.Item.Op/\x.Item.Op<5:=by
    rcases O T G with ⟨z,_⟩|⟨_,_,_,_,_,_,g,_⟩|⟨z,_⟩
    ·omega
    ·grind
    ·omega
   obtain ⟨p,o,s1,s2,s3,s4,s5,s6⟩:=DY I.own hS.sh hne (r:=⟨((a+j:Nat):Int),0,false,x.Item⟩) g1 g2 ⟨g3,g4⟩ (by have:=I.TU;omega);have hput:=uj (os:=h.Fd) (x:=(io x.Item.TQ h.Fd.length,⟨((h.or.length+j:Nat):Int),0,false,x.Item⟩)) (by grind);have hle:=l.put (h':={h with Fd:=oj h.Fd (io x.Item.TQ h.Fd.length,⟨((h.or.length+j:Nat):Int),0,false,x.Item⟩)}) (λi o J=>pE J) (λf=>uK ..) (Ba l.UW hne [_]) rfl (λz=>(l.fin z).2.1)
   have X:C.SY=3:=by
    rcases O T G with ⟨z,_⟩|⟨_,m,_⟩|⟨z,_⟩
    ·omega
    ·exact m
    ·omega
   have:=hle.crew (j:=j) (w:=w) (w':={w with SQ:=C,pc:=x.Pc}) D (λz=>z) l.TT (λ_ _=>by grind) (λz=>by grind) (λ_ _ z=>z) l.Uf rfl (Cc 16 0 0 0 0 0 0 kj uk 0);exact {this with}
  |back r C m3 hr hA=>
   obtain ⟨W2,hW2,_,X,_⟩:=kX hJw m3 (hC.rep r hr)
   grind
 |serve i o h' J M A=>
  have hil:=(zes.1 J).1;have same:∀{u:Nat},u<a->∀(j:Nat) w,h.LE[j]? =some w->∃v,h.LE[j]? =some v/\w.SQ=v.SQ/\w.SZ=v.SZ/\(w.TV=none->v.TV=none/\(u:Int)≠((a+j:Nat):Int)):=λZ j w D=>⟨w,D,rfl,rfl,λz=>⟨z,by omega⟩⟩
  cases A with
  |ends P x ht hl hk X=>
   exact {l with
    kC:=λu y Z s=>by
     rcases eN s with e|s
     ·omega
     ·exact l.kC u y Z s
    kW:=λj v y A s m=>by
     have:=(zes.1 (show h.LE[j]? =some v from A)).1;rcases eN s with e|s
     ·omega
     ·exact l.kW j v y A s m
    kO:=λk p y U s m=>by
     rcases jS (show (h.Fd.set i _)[k]? =some p from U) with ⟨rfl,rfl,_⟩|⟨hn,U⟩
     ·rfl
     ·rcases eN s with e|s
      ·omega
      ·exact l.kO k p y U s m
    kR:=λy s m=>by
     rcases eN s with e|s
     ·omega
     ·exact l.kR y s m
    ask:=λj w D m q=>by
     have h1:=l.ask j w D m q;have h2:_+sL o.SX _=_+sL o.SX _:=gC J {o with SZ:=true} ((a+j:Nat):Int)
     grind
    UW:=λp U e=>by
     rcases r7 (show p∈h.Fd.set i _ from U) with U|rfl
     ·exact l.UW p U e
     ·exact hl}
  |crew P q F x xs j w ht R hf D=>
   refine l.serve J R (λk v A=> ?_) _ _;rcases jS A with ⟨rfl,rfl,_⟩|⟨hn,A⟩
   ·exact ⟨w,D,rfl,rfl,λz=>by cases z⟩
   grind
  |walk q F x xs u k R hf hk _ _ _=>exact l.serve J R (by grind) _ _
  |item P q F x xs u k ht R hf hk _ _ _=>exact l.serve J R (by grind) _ _
 |rule h' M A=>
  have L:=M.1;cases A with
  |fin x u k _ _ _ _=>exact l.rul l.TT rfl L _ _ _ _
  |retired x u k _ _ _ _=>exact l.rul (l.TT.settled I.TT 1) rfl L _ _ _ _
  |over u k x hnf hl hc Z hk X=>
   have B:=M.hyp hnf hl
   have hh:h.held=[]:=by
    rcases M.2 with z|⟨y,z1,z2⟩|z
    ·exact absurd hl z
    ·grind
    ·exact z.2.2
   exact {l with
    kC:=λu y Z s=>by
     rcases eN s with e|s
     ·omega
     ·exact l.kC u y Z s
    kW:=λj v y A s m=>by
     have:=(zes.1 (show h.LE[j]? =some v from A)).1;rcases eN s with e|s
     ·omega
     ·exact l.kW j v y A s m
    kO:=λk p y U s m=>by
     have:=(zes.1 (show h.Fd[k]? =some p from U)).1;rcases eN s with e|s
     ·omega
     ·exact l.kO k p y U s m
    kR:=λy s m=>rfl
    fin:=λ_=>⟨B,hl,hh⟩}
  |refuse x xs u k _ _ _ _ _=>exact l.rul l.TT rfl L _ _ _ _
  |cmd x xs u k t N E S _ hl _ _ _ hc=>
   have:=OI I l.TT (I.call x (by rw [hl];simp)).2.1 hc;exact l.rul this.1 this.2 L _ _ _ _
  |hold x xs v t _ _ _ _ hr=>
   have:=OJ I l.TT hr;exact l.rul this.1 this.2 L _ _ _ _
  |drain x xs _ _ _ _=>exact l.rul l.TT rfl L _ _ _ _
  |close x xs _ _ _ _=>
   exact {l with
    Uf:=λ_ r hr=>by
     grind [rC]
    fin:=λz=>by grind}
open Go.Sx
def jV(f:s->Nat)(l:List s):Nat:=(l.map f).sum
theorem dK(f:s->Nat)(h:l[i]? =some x)(y:s):jV f (l.set i y)+f x=jV f l+f y:=by
 unfold jV;rw [yg];exact DX (by grind) _
theorem fY(h:∀x∈l,f x=0):jV f l=0:=by
 unfold jV;rw [List.map_congr_left (g:=λ_=>0) h];exact CM l
def wT(S:Nat)(x:zJ):Nat:=4+max 1 (min 16 x.Tw.length)+S+if x.SV=3 then 770 else 0
def uL(S:Nat)(k:zd):Nat:=if k.waits then 1+jV (wT S) (k.Tj.drop (k.Tt.toNat+1)) else jV (wT S) (k.Tj.drop k.Tt.toNat)
def Bb(w:zB):Nat:=(if w.SZ then 0 else 1)+if w.SQ.SY=1 then 769 else if w.SQ.SY=2 then 3*(nR w.SQ).toNat else if w.SQ.SY=3 then 3*(nR w.SQ).toNat-2 else 0
def sO(o:zc):Nat:=(if o.SZ then 0 else 1)+o.SX.length
def phi(h:za):Nat:=jV (uL h.Fd.length) h.or+jV Bb h.LE+jV sO h.Fd+jV (λr:zp=>770*r.waiting.length) h.rings+2*h.SX.length+h.held.length+if h.over then 0 else 1
theorem Rz(h:WJ n b C)(f:C.SY=2\/C.SY=3):1<=nR C:=by
 have go:∀{s:Int},Qn b C s->1<=nR C:=λ⟨m,j,M,p,i,c,d,_,a,_⟩=>by
  rw [kV c a];exact Oe d.Ux a.fit a.lt
 rcases h.is with e|e|e|e
 ·omega
 ·omega
 ·exact go e.2
 ·exact go e.2
theorem LV(h:D[i]? =some G):jV (wT n) (D.drop i)=wT n G+jV (wT n) (D.drop (i+1)):=by
 obtain ⟨hl,rfl⟩:=zes.1 h;unfold jV;rw [SK hl,t6,ym]
theorem FY{os:List zc}(x:Nat×zq):jV sO (oj os x)<=jV sO os+1:=by
 grind [oj,dK,sO,Kb]
theorem Bc:∀(l:List (Nat×zq))(os:List zc),jV sO (puts os l)<=jV sO os+l.length
 |[],os=>m6 _
 |x::l,os=>by
  have h:=Bc l (oj os x)
  grind [FY,jV,sO,puts,oj]
theorem ED{k:zd}(a:h.or[n]? =some k){x:Nat}(b:uL h.Fd.length (Fz p)+x+1<=uL h.Fd.length k)(c:jV (λr:zp=>770*r.waiting.length) z<=jV (λr:zp=>770*r.waiting.length) h.rings+x)(g:zM):phi (Dh h n p S z g)+1<=phi h:=by
 grind [dK,uL,Fz,phi,Dh]
theorem EE(b:h.or[n]? =some L)(a:v.length=h.Fd.length)(c:uL h.Fd.length p+jV sO v+2*M.length+1<=uL h.Fd.length L+jV sO h.Fd+2*h.SX.length):phi (Kc h n L p v M)+1<=phi h:=by
 grind [dK,uL,phi,Kc]
theorem lT(b:h.LE[j]? =some N)(a:v.length=h.Fd.length)(c:Bb w'+jV sO v+jV (λr:zp=>770*r.waiting.length) z+1<=Bb N+jV sO h.Fd+jV (λr:zp=>770*r.waiting.length) h.rings)(e:ze):phi (BA h rg m (h.LE.set j w') v z e)+1<=phi h:=by
 grind [dK,Bb,phi,BA]
theorem pP(f:s->Nat){y:s}(h:l[i]? =some x)(e:f y=f x):jV f (l.set i y)=jV f l:=by
 grind [dK]
theorem QB(hS:aq c ss)(Q:HI c ss n h)(hJ:RJ h.Fn)(L:Mv h d h'):phi h'+1<=phi h:=by
 cases L with
 |back d k D B hm=>
  obtain ⟨s,hs,f⟩:=Q.at D;have h1:=f.Ve;have h2:=f.Vx B;have h3:=hS.sl s (zmg hs);refine ED D (x:=0) ?_ (m6 _) _
  grind [uL,Fz,qe]
 |ask d k cmd h' D B hat hc L=>
  obtain ⟨s,hs,f⟩:=Q.at D;have h1:=f.Ve;have h2:=f.Vj;have h3:=hS.sl s (zmg hs)
  have hkw:uL h.Fd.length k=wT h.Fd.length cmd+jV (wT h.Fd.length) (k.Tj.drop (k.Tt.toNat+1)):=by
   grind [uL,LV]
  have hfin:∀A,uL h.Fd.length (Fz (withA k A))=jV (wT h.Fd.length) (k.Tj.drop (k.Tt.toNat+1)):=λA=>by
   grind [uL,Fz,withA,qe]
  have hwait:∀m r p,uL h.Fd.length (Ax k m r p)=1+jV (wT h.Fd.length) (k.Tj.drop (k.Tt.toNat+1)):=λm r p=>by
   grind [uL,Ax]
  cases L with
  |told E _=>
   refine ED D (x:=0) ?_ (m6 _) _
   grind [wT]
  |fire i r t n E g G hk3 _ hi hA=>
   have T:=Q.Uj r (zmg hi);obtain ⟨n2,e2,r2,g2,a1,a2,a3,a4⟩:=kh T.1 cmd.Tq h.TF;rw [hA] at a1;cases a1;refine ED D (x:=770) ?_ ?_ _
   ·grind [wT]
   grind [dK,zp]
  |items G hkd h1 h16 hg=>
   refine EE D (pC _ _) ?_
   grind [Bc,vG,bf,fW,wT]
  |walk G hkd _ _=>
   refine EE D (pC _ _) ?_
   grind [Bc,aB,iM,wT]
  |call G _ _=>
   refine EE D rfl ?_
   grind [wT]
 |work j w h' B I L=>
  have hC:=Q.crew w (zmg B);have M:=hC.Tz;obtain ⟨hr1,hr2,hr4⟩:=Q.hooks4 hS
  have O:∀{a:qT} {P:zl},w.SQ.SY=2->qz 2199023255552 w.SQ=some (a,true,P)->Cn c.Ti.toNat c.Maps.length w.SQ a P/\WJ c.Ti.toNat c.Maps.length P:=λC l=>by
   grind [IW]
  have R:=λz=>Rz M (.inl z)
  have hp3:=λz=>Rz M (.inr z)
  cases L with
  |ends x m0 G f hm=>
   refine lT B rfl ?_ _;have:=(I.1 m0).1
   grind [Bb]
  |take i r t q V cur m0 G hi hwt htk c0 c1=>
   refine lT B rfl ?_ _;have T:=Q.Uj r (zmg hi);obtain ⟨r2,t1,t2,t3,t4⟩:=mM T.1 h.TF hwt
   grind [dK,zp,Bb]
  |skip st v p m1 X hsk=>
   refine lT B rfl ?_ _;unfold Bb inW;simp [m1];omega
  |enter v p m b e1 e2 ck e P m1 X hmo he hE=>
   obtain ⟨C,Y,o,hjd⟩:=hJ.cur Q.TT X;obtain ⟨m3,b3,Z,h1,h2,h3⟩:=Q.module p;rw [hmo] at Y Z;cases Y;cases Z;obtain ⟨e3,W2,hE2,_,hW⟩:=Cm M m1 h1 h2 h3 v p;rw [hE] at hE2;cases hE2;refine lT B rfl ?_ _;rcases hW with ⟨z,_,o2,q2,z2⟩|⟨_,z,z2⟩
   ·grind
   ·have hcost:wr m.Code m.Code.length<=256:=by
     obtain ⟨o3,p3,e3,hj3,hc3⟩:=mL m;rw [hjd] at hj3;cases hj3;rcases hc3 with ⟨z,_⟩|⟨_,_,j,_,hSd⟩
     ·exact absurd rfl z
     ·exact hSd.Ux.Vz
    grind [Bb,inW,nR]
  |note x P C l k3=>
   refine lT B rfl ?_ _;have R:=R C;rcases (O C l).1 with ⟨z,_⟩|⟨z,_⟩|⟨_,m,_,_,_,_,hl⟩
   ·omega
   ·omega
   grind [Bb,inW]
  |ran x P C l W=>
   refine lT B rfl ?_ _;have R:=R C;rcases (O C l).1 with ⟨z,_⟩|⟨z,_⟩|⟨_,m,_,_,_,_,hl⟩
   ·omega
   ·omega
   grind [Bb,inW]
  |done x P e1 ck C l k4 hlv=>
   refine lT B rfl ?_ _;have R:=R C;rcases (O C l).1 with ⟨_,m,_⟩|⟨z,_⟩|⟨z,_⟩
   ·grind [Bb,inW]
   ·omega
   ·omega
  |ask x P C l K=>
   refine lT B (pB _ _) ?_ _;have R:=R C;have:=FY (os:=h.Fd) (io x.Item.TQ h.Fd.length,⟨((h.or.length+j:Nat):Int),0,false,x.Item⟩);generalize jV sO (oj h.Fd _)=z at this |-;rcases (O C l).1 with ⟨z,_⟩|⟨_,m,_,_,_,_,_,hl⟩|⟨z,_⟩
   ·omega
   ·grind [Rz,Bb]
   ·omega
  |back r P m3 hr hA=>
   refine lT B rfl ?_ _;obtain ⟨W2,hW2,hJ2,hm,_,_,_,_,hl⟩:=kX M m3 (hC.rep r hr)
   grind [Bb]
 |serve i o h' ho I L=>
  have hown:∀{q:aH} {F:zc} {x:zq} {J:List zq},sj 2199023255552 o q F x J->jV sO (h.Fd.set i F)+1=jV sO h.Fd:=λ{q F x J}U=>by
   have:=dK sO ho F
   have:sO o=sO F+1:=by
    unfold sO;rw [U.SX,U.UY,U.sh.2.2.1];simp;omega
   omega
  have hcli:∀{u:Nat} {k:zd},h.or[u]? =some k->∀r p,jV (uL h.Fd.length) (h.or.set u (QY k r p))=jV (uL h.Fd.length) h.or:=λf r p=>pP _ f rfl
  cases L with
  |ends d x D hl f hm=>
   have:=dK sO ho {o with SZ:=true}
   have he:o.SZ=false:=by
    rcases I with z|z
    ·exact absurd hl z
    ·exact z.2.2
   grind [sO,phi]
  |crew d q F x J j w D U hf B=>
   have:=hown U;have:=pP Bb (y:=Rq w q.TD) B rfl
   grind [phi,FC]
  |walk q F x J u k U hf f _ _ _=>
   grind [phi,FC]
  |item d q F x J u k D U hf f _ _ _=>
   grind [phi,FC]
 |rule h' I L=>
  have hov:=I.1;have hcli:∀{u:Nat} {k:zd},h.or[u]? =some k->∀N E,jV (uL h.Fd.length) (h.or.set u (AC k N E))=jV (uL h.Fd.length) h.or:=λf N E=>pP _ f rfl
  have hera:∀{i:Nat} {x:zx},h.held[i]? =some x->(h.held.eraseIdx i).length+1=h.held.length:=λ{i x}hx=>by
   grind
  cases L with
  |fin i x u k hx _ _ f _=>
   grind [phi,sk]
  |retired i x u k hx _ _ f _=>
   grind [phi,sk]
  |over u k x hnf hl hc f _ _=>
   grind [phi]
  |refuse x J u k _ hl _ _ f=>
   grind [phi,sk,hl]
  |cmd x J u k t N E S _ hl _ _ f hc=>
   grind [phi,sk,hl]
  |hold x J v t _ hl _ _ hr=>
   grind [phi,sk,hl]
  |drain x J _ hl _ _=>
   grind [phi,sk,hl]
  |close x J _ hl _ _=>
   grind [jV,zp,rC,fY,phi,hl]
open Go.Sx
theorem LW(a:Mv h n h'):h'.Td.LT=h.Td.LT:=by
 cases a with
 |back=>rfl
 |ask _ _ _ _ _ _ _ _ a=>cases a<;>rfl
 |work _ _ _ _ _ a=>cases a<;>rfl
 |serve _ _ _ _ _ a=>cases a<;>rfl
 |rule _ _ a=>cases a<;>rfl
theorem Jx(a:Mv h n h'):h'.or.length=h.or.length/\h'.LE.length=h.LE.length/\h'.Fd.length=h.Fd.length:=by
 cases a with
 |back=>exact ⟨k7,rfl,rfl⟩
 |ask _ _ _ _ _ _ _ _ a=>cases a<;>simp [Dh,Kc,pC]
 |work _ _ _ _ _ a=>cases a<;>simp [BA,pB]
 |serve _ _ _ _ _ a=>cases a<;>simp [FC]
 |rule _ _ a=>cases a<;>simp [sk]
structure HR (c:zG) (ss:List (List zJ)) (P n:Nat) (h:za):Prop where
 inv:HI c ss n h
 more:HJ h.or.length h.LE.length h.Fd.length h
 left:n+phi h<=P
 turn:h.Td.LT=n
 Vy:P<100000000
theorem Laid.twice(b:Laid m W w w.length)(c:Laid W K g g.length)(hl:w.length=m.SU.length)(d:g=w):K=W:=by
 subst d;obtain ⟨l,n,e⟩:=b;obtain ⟨f,o,j⟩:=c;obtain ⟨t,p⟩:=K;obtain ⟨q,r⟩:=W;simp only at*
 subst f
 congr 1
 refine o5 λi=> ?_
 cases h:m.SU[i]? with
 |none=>grind
 |some x=>
  have s:=(zes.1 h).1;obtain ⟨u,a,y,z⟩:=e i x h;obtain ⟨v,k,A,B⟩:=j i u a;rw [a,k];obtain ⟨C,up⟩:=u;obtain ⟨D,E⟩:=v
  grind
theorem G3(b:aq c ss)(d:HI c ss n h)(x:Int):∃k f r,cF h=some (f,withK h k)/\xF 2199023255552 (withK h k) x=some r/\xF 2199023255552 h x=some r/\Stp h r/\f.length<=64/\(if r.2.1 then r.1∈f else f=[])/\GB h.Td k/\k.LT=h.Td.LT:=by
 obtain ⟨k,w,q,j,s,e⟩:=nD b d;obtain ⟨F,G,I,J,L,M⟩:=d.sizes b;have a:=e.2.1;have l:=d.withK a;obtain ⟨K,g,A,B,C,D⟩:=nD b l
 have m:g=w:=by
  refine o5 λi=> ?_
  have hl:g.length=w.length:=by rw [B,j];exact a
  by_cases E:i<w.length
  ·have t:=zeg E;have u:=zeg (show i<g.length by omega);rw [t,u];have o:=s i _ t;have v:=C i _ u;have y:Rdy (withK h k) i↔Rdy h i:=⟨λz=>z.withK h.Td,λz=>z.withK k⟩
   grind
  grind
 have p:K=k:=e.twice D j m;subst p;obtain ⟨r,o,v,y⟩:=D7 b d j s e (su (k:=K) (by omega) x);refine ⟨K,kin K 1 K.SU.length,r,?_,?_,?_,v,p9 DR (by omega),y,e.stay j,e.1⟩
 ·unfold cF;rw [q];simp only [zbs];show (xG K).bind _=_
  grind [lP]
 ·unfold xF;rw [A];exact o
 ·unfold xF;rw [q];exact o
theorem Stp.idle(a:∀t,¬ Rdy h t)(c:Stp h r):∃k,r=(0,false,withK h k):=by
 cases c with
 |none k _ _ _ e=>exact ⟨k,e⟩
 |one k t x h' b=>exact absurd b (a t)
open Go.Sx
theorem lU{s:Type}{f:s->Nat}{k:Nat}:∀{l:List s},(∀x∈l,f x<=k)->jV f l<=l.length*k
 |[],_=>by simp [jV]
 |x::l,hl=>by
  have a:=hl x zcs;have b:=lU λy h=>hl y (zcm _ h)
  rw [u5,v9]
  grind [jV]
theorem Jy(a:Ka c ss h):HR c ss (phi h) 0 h:=by
 obtain ⟨n,_,_⟩:=FE a;have L:=a.hk;have M:=a.wk;have N:=a.sh;have O:=a.cl;have q:=a.sl;obtain ⟨r,os,P,f,g,Q,R,S,T,U,V,⟨v,y⟩,⟨A,B⟩,rfl⟩:=a.is;obtain ⟨W,l,X,Y,Z⟩:=WJ.new (H:=c.Ti.toNat) (K:=c.Maps.length) (by omega);rw [g] at l;obtain rfl:=j6 l
 have hm:∀{i:Nat} {x:ql},(List.replicate (ss.length+c.SS.toNat+c.SR.toNat+1) (ql.mk 0 0))[i]? =some x->x.SY=0:=λb=>by
  grind
 have C:∀{j:Nat} {w:zB},(List.replicate c.SS.toNat (ki f))[j]? =some w->w=ki f/\j<c.SS.toNat:=λb=>⟨z8 (zmg b),by grind⟩
 have D:∀o∈os,o.SX=[]/\o.SZ=false:=λo h=>by
  obtain ⟨i,hi⟩:=p6 h
  grind
 refine ⟨n,⟨⟨λp x b=>by grind [jz],λi u hu hv=> ?_⟩,(λt x _ b e=>by grind),(λj w x _ b e=>by grind),(λi o x _ b e=>by grind),(λx b e=>by grind),(λj w d m _=> ?_),(λz=>by cases z),(λj w d _=> ?_),(λo h e=>(D o h).1),(λz=>by cases z)⟩,by omega,rfl,?_⟩
 ·grind
 ·rw [(C d).1] at m;have m:f.SY=3:=m;omega
 ·grind
 ·have E:jV (uL os.length) (ss.map wu)<=(ss.map wu).length*(64*794):=lU λk F=>by
   obtain ⟨s,G,rfl⟩:=x8.1 F
   have E:jV (wT os.length) s<=s.length*794:=lU λx _=>by
    grind [wT]
   have I:=q s G;have J:uL os.length (wu s)=jV (wT os.length) s:=rfl
   grind
  have I:jV Bb (List.replicate c.SS.toNat (ki f))<=(List.replicate c.SS.toNat (ki f)).length*1:=lU λw d=>by
   grind [Bb,ki]
  have J:jV sO os<=os.length*1:=lU λo h=>by
   grind [sO]
  grind [jV,zp,fY,phi]
open Go.Sx
structure HB (c:zG) (ss:List (List zJ)) (P n:Nat) (h:za):Prop where
 inv:HI c ss n h
 left:n+phi h<=P
 turn:h.Td.LT=n
 Vy:P<100000000
structure CA (c:zG) (ss:List (List zJ)) (I:za->Prop):Prop where
 rj:∀{h:za},I h->RJ h.Fn
 k:∀{h:za} {k:zn},GB h.Td k->I h->I (withK h k)
 mv:∀{n:Nat} {h:za} {t:Nat} {h':za},HI c ss n h->I h->Mv h t h'->I h'
theorem CA.and(b:CA c ss I)(f:∀{h:za} {k:zn},GB h.Td k->J h->J (withK h k))(g:∀{n:Nat} {h:za} {t:Nat} {h':za},HI c ss n h->I h->J h->Mv h t h'->J h'):CA c ss (λh=>I h/\J h):=
 ⟨λz=>b.rj z.1,λa z=>⟨b.k a z.1,f a z.2⟩,λd z e=>⟨b.mv d z.1 e,g d z.1 z.2 e⟩⟩
abbrev HJ'(h:za):Prop:=HJ h.or.length h.LE.length h.Fd.length h
theorem Lv(b:aq c ss):CA c ss HJ':=⟨λz=>z.TT,λa z=>z.withK a,λ{n h t h'}d z e=>by
 grind [Jx,Ry]⟩
theorem MW(l:aq c ss)(g:CA c ss I)(d:HB c ss P n h)(m:I h)(p:Stp h r):HB c ss P (if r.2.1 then n+1 else n) r.2.2/\I r.2.2/\(r.2.1=true->phi r.2.2+1<=phi h):=by
 have q:=d.left;have o:=d.Vy;cases p with
 |none k _ a b e=>
  subst e;exact ⟨⟨d.inv.withK a.1,q,b.trans d.turn,o⟩,g.k a m,λz=>by cases z⟩
 |one k t x h' s a b v w i e=>
  subst e;have j:=d.inv.withK a.1;have f:=g.k a m;have y:=QB l j (g.rj f) i;have u:phi (KH.withK h k)=phi h:=rfl;refine ⟨⟨Qg l j (by omega) i,by grind,?_,o⟩,g.mv j f i,λ_=>by grind⟩;rw [LW i];show k.LT=_;rw [b,d.turn,qe (by omega) (by omega)];rfl
def Lw(h:za):Prop:=∀t,t<h.Td.SU.length->(∀x,h.Td.SU[t]? =some x->x.SY≠2)->¬ Rdy h t
structure AP (h:za):Prop where
 no:∀t,¬ Rdy h t
 Um:∀k∈h.or,k.waits=false/\k.Tt=k.Tj.length
 crew:∀w∈h.LE,w.SQ.SY=0
 over:h.closed=true->h.over=true
theorem Lw.done(a:Lw h)(b:aq c ss)(d:HI c ss n h)(e:HJ' h):AP h:=by
 obtain ⟨g,f,i,j⟩:=e.rest b d a;exact ⟨g,f,i,j⟩
theorem I9{c:zG}{ss:List (List zJ)}{I:za->Prop}(l:aq c ss)(u:CA c ss I){P:Nat}:∀(m f n:Nat)(h:za),phi h<=m->m+2<=f->HB c ss P n h->I h->∃i h',HB c ss P i h'/\I h'/\Lw h'/\n<=i/\loop (vN 2199023255552) f (h,true)=some h'
 |m,0,n,h,_,B,o,_=>by omega
 |m,f+1,n,h,C,B,o,D=>by
  obtain ⟨r,E,v⟩:=N5 l o.inv;obtain ⟨a,d,w⟩:=MW l u o D v;cases j:r.2.1 with
  |true=>
   rw [j] at a;have w:=w j;obtain ⟨i,h',F,G,J,Q,R⟩:=I9 l u (m-1) f (n+1) r.2.2 (by omega) (by omega) a d;refine ⟨i,h',F,G,J,by omega,?_⟩;show vN _ _ (h,true)=_
   grind [vN]
  |false=>
   rw [j] at a;cases v with
   |none k p b q e=>
    subst e;refine ⟨n,_,a,d,λt K A z=>p t (by rw [<- b.1];exact K) (λx s L=> ?_) (z.withK h.Td),m6 _,?_⟩
    ·obtain ⟨y,M,N⟩:=b.2 t x s;exact A y M (N.1 L)
    show vN _ _ (h,true)=_;unfold vN;simp only [s7,E,zbs];obtain ⟨f,rfl⟩:∃g,f=g+1:=⟨f-1,by omega⟩
    rfl
   |one k t x h' O b q A C S e=>subst e;cases j
theorem FN{c:zG}{ss:List (List zJ)}{I:za->Prop}(d:aq c ss)(j:CA c ss I){P:Nat}(l:List Int):∀(m i n:Nat)(h:za),i+m=l.length->HB c ss P n h->I h->∃a h',HB c ss P a h'/\I h'/\n<=a/\jM (dJ 2199023255552 l) (λ(s:za)=>s) m i h=some h'
 |0,i,n,h,_,b,e=>⟨n,h,b,e,m6 _,rfl⟩
 |m+1,i,n,h,q,b,e=>by
  obtain ⟨r,t,k⟩:=D8 d b.inv l[i];obtain ⟨f,g,_⟩:=MW d j b e k;obtain ⟨a,h',o,p,u,v⟩:=FN d j l m (i+1) _ r.2.2 (by omega) f g;refine ⟨a,h',o,p,by grind,?_⟩;show dJ _ _ i _ h=_;have w:=zeg (show i<l.length by omega)
  grind [dJ,zV]
theorem Oi(f:aq c ss)(g:CA c ss I)(i:HB c ss P n h)(m:I h)(l:List Int):∃j h',HB c ss P j h'/\I h'/\Lw h'/\cU 2199023255552 h l=some (((j-n:Nat):Int),h'):=by
 obtain ⟨o,k,b,d,u,p⟩:=FN f g l l.length 0 n h (by omega) i m;obtain ⟨q,r,a,e,s,v,t⟩:=I9 f g (phi k) 2199023255552 o k (m6 _) (by have:=b.left;have:=b.Vy;omega) b d;refine ⟨q,r,a,e,s,?_⟩;unfold cU cg;simp only [zbs];rw [p];simp only [zbs];rw [t];simp only [zbs];rw [i.turn,a.turn];have:=a.left;have:=a.Vy
 grind [qe]
theorem Oj(b:Ka c ss h):HB c ss (phi h) 0 h:=by
 have a:=Jy b;exact ⟨a.inv,a.left,a.turn,a.Vy⟩
theorem Lx:eJ 2199023255552=some true:=by decide+kernel
theorem Ok(a:∀s∈k.Tg,∀c∈s,Fit c):bH 2199023255552 k=some (none,true)\/∃h,bH 2199023255552 k=some (some h,true)/\Ka k.C k.Tg h:=by
 unfold bH;rcases DW (fu:=2199023255552) (by omega) k.C k.Tg a with ⟨e,b,d⟩|⟨h,b,f⟩
 ·grind [vW]
 grind [vW]
theorem Ly(j:h.or.length<=4)(l:h.LE.length<=4):∃b,cG h=some b/\(b=true↔(∀k∈h.or,k.waits=false)/\∀w∈h.LE,w.SQ.SY=0):=by
 unfold cG;rw [xJ (by omega),zbs]
 obtain ⟨o,m,n⟩:OK (jM (eK h) (λ(c:Unit)=>(.inl ())) (h.or).length 0 ()) (λo=>match o with|.inl _=>∀k∈h.or,k.waits=false|.inr b=>b=false/\∃k∈h.or,k.waits=true):=by
  refine i7 (λi _=>∀k∈h.or.take i,k.waits=false) (by simp) (λi s a f p g=> ?_) (λs q=>by grind);unfold eK;refine g9 (j4 f λx d=> ?_);refine d5 (λe=>b9 ⟨rfl,x,zmg d,e⟩) (λe=>g _ ?_);rw [mP d]
  grind
 grind [wM]
open Go.Sx
def cE(m:Int)(z:Nat)(l:List ze):Nat:=l.countP (λe=>e.Uv==m&&e.TC==(z:Int))
def Sh(z:Nat)(w:zB):Nat:=if w.SQ.SY≠0/\w.SQ.Tz.hook=z then 1 else 0
def Rv(e:ze):Prop:=e.Uv≠4/\e.Uv≠5/\e.Uv≠9/\e.Uv≠10
structure HQ (R:Int) (h:za):Prop where
 mark:∀e∈h.Tr,Rv e\/(0<=e.TC/\e.TC<h.rings.length)
 cnt:∀(z:Nat) r,h.rings[z]? =some r->r.room=R/\r.counts.TO=cE 4 z h.Tr/\r.counts.Uw=cE 5 z h.Tr/\r.counts.TW=cE 10 z h.Tr/\cE 4 z h.Tr=cE 5 z h.Tr+cE 10 z h.Tr+r.waiting.length
 run:∀z:Nat,z<h.rings.length->cE 5 z h.Tr=cE 9 z h.Tr+jV (Sh z) h.LE
open Go.Sx
theorem Oh(a:O.waiting=Q::V)(h:vf O R=some (Q,true,t)):t=⟨O.room,O.Uf,V,⟨O.counts.TO,O.counts.TY,w64 (O.counts.Uw+1),O.counts.TW,O.counts.Uc⟩⟩:=by
 unfold vf at h;rw [a,d8 (by simp;omega)] at h
 have e:cut (Q::V) 1 ((Q::V).length:Int)=some V:=by
  unfold cut;rw [d7 (by simp;omega)];simp
 rw [show Go.Sx.idx (Q::V) 0=some Q from rfl,zbs,e] at h
 grind
theorem I8(h:xj O ev R=some (T,E,t,X)):
  (O.Uf=true/\E=43/\t=O/\X=R)\/(O.Uf=false/\E=40/\(O.waiting.length:Int)=O.room/\t={O with counts:=⟨O.counts.TO,w64 (O.counts.TY+1),O.counts.Uw,O.counts.TW,O.counts.Uc⟩}/\X=R)\/
  (O.Uf=false/\E=0/\(O.waiting.length:Int)≠O.room/\t=⟨O.room,O.Uf,O.waiting++[⟨T,ev⟩],⟨w64 (O.counts.TO+1),O.counts.TY,O.counts.Uw,O.counts.TW,O.counts.Uc⟩⟩/\aJ R=some (T,X)):=by
 unfold xj at h;split at h
 ·grind
 ·split at h
  ·grind
  ·obtain ⟨⟨m,g⟩,a,h⟩:=Sy.1 h;obtain ⟨u,b,h⟩:=Sy.1 h
   grind
open Go.Sx
def row(l:List ze)(z:Nat):List Int:=[(cE 4 z l:Int),(cE 5 z l:Int),(cE 10 z l:Int),(cE 9 z l:Int)]
theorem AP.rings(b:HI c ss n h)(f:aq c ss)(g:HJ h.or.length h.LE.length h.Fd.length h)(d:AP h):∀r∈h.rings,r.waiting=[]:=by
 cases a:h.closed with
 |true=>exact g.Uf a
 |false=>
  obtain ⟨s,p,q,t,v,x⟩:=b.sizes f;obtain ⟨w,u⟩:∃w,w∈h.LE:=List.exists_mem_of_length_pos (by omega);obtain ⟨j,i⟩:=p6 u;have k:¬ Po h w:=λz=>d.no _ (.w j w i z)
  have l:=b.UB w u;have y:=d.crew w u;intro r m;refine Classical.byContradiction λe=>k ⟨λ_=>⟨?_,.inr ⟨r,m,e⟩⟩,λz=>by omega⟩
  cases o:w.SZ with
  |true=>rw [l o] at a;cases a
  |false=>rfl
abbrev IQ(R:Int)(h:za):Prop:=HJ' h/\HQ R h
open Go.Sx
structure CE (h:za) (t:Nat) (k:zd):Prop where
 call:∀x∈h.SX++h.held,x.Tn=t->k.Tj[k.Tt.toNat]? =some x.cmd
 clo:h.closed=true->h.over=false->h.Tb=t->∃cmd,k.Tj[k.Tt.toNat]? =some cmd/\cmd.SV=10
 UX:∀(i:Nat) cmd A,k.Tj[i]? =some cmd->cmd.SV=10->k.Tc[i]? =some A->A.E=0->h.over=true
 UH:∀cmd,k.waits=true->k.Tj[k.Tt.toNat]? =some cmd->4<=cmd.SV->bQ h.Fd t=0/\(cmd.SV=10->gE h t=0->k.Id.E=0->h.over=true)
def Clo(k:zd):Prop:=∃(i:Nat)(c:zJ),k.Tj[i]? =some c/\c.SV=10/\((∃A,k.Tc[i]? =some A/\A.E=0)\/(k.waits=true/\k.Tt=i/\k.Tf=0/\k.Id.E=0))
def wgt(e:ze):Int:=if e.Uv=4 then 1 else if e.Uv=9\/e.Uv=10 then -1 else 0
def ir(w:zB):Nat:=if w.SQ.SY=0 then 0 else 1
structure HE (a b d:Nat) (h:za):Prop where
 Um:∀(t:Nat) k,h.or[t]? =some k->CE h t k
 held:∀x∈h.held,x.cmd.SV=8\/x.cmd.SV=9
 conv:h.over=true->∃(t:Nat)(k:zd),h.or[t]? =some k/\Clo k
 mW:∀(j:Nat) w x,h.LE[j]? =some w->h.Td.SU[a+j]? =some x->w.SZ=true->x.SY=2
 mO:∀(i:Nat) o x,h.Fd[i]? =some o->h.Td.SU[a+b+i]? =some x->o.SZ=true->x.SY=2
 mR:∀x,h.Td.SU[a+b+d]? =some x->h.over=true->x.SY=2
 Vb:(h.Tr.map wgt).sum=(jV (λr:zp=>r.waiting.length) h.rings:Int)+(jV ir h.LE:Int)
theorem HE.withK(f:HE a b d h)(p:GB h.Td m):HE a b d (KH.withK h m):=by
 have c:∀(i:Nat) y,m.SU[i]? =some y->∃x,h.Td.SU[i]? =some x/\(x.SY=2↔y.SY=2):=λi y g=>by
  have hl:=(zes.1 g).1;have r:=zeg (show i<h.Td.SU.length by have:=p.1;omega);obtain ⟨z,s,k⟩:=p.2 i _ r
  grind
 exact {f with
  Um:=λt q n=>⟨(f.Um t q n).call,(f.Um t q n).clo,(f.Um t q n).UX,(f.Um t q n).UH⟩
  mW:=λj w x o l e=>by obtain ⟨y,g,k⟩:=c _ x l;exact k.1 (f.mW j w y o g e)
  mO:=λj w x o l e=>by obtain ⟨y,g,k⟩:=c _ x l;exact k.1 (f.mO j w y o g e)
  mR:=λx l e=>by obtain ⟨y,g,k⟩:=c _ x l;exact k.1 (f.mR y g e)}
theorem CE.mono(a:CE h n p)(hl:∀x∈h'.SX++h'.held,x.Tn=n->∃y∈h.SX++h.held,y.Tn=n/\y.cmd=x.cmd)(l:h'.closed=true->h'.over=false->h'.Tb=n->(h.closed=true/\h.over=false/\h.Tb=n)\/∃c,p.Tj[p.Tt.toNat]? =some c/\c.SV=10)
  (k:h.over=true->h'.over=true) (m:bQ h.Fd n=0->bQ h'.Fd n=0) (o:gE h' n=0->gE h n=0\/h'.over=true):CE h' n p:=by
 refine ⟨λx r e=> ?_,λz g s=> ?_,λi c A b d f j=>k (a.UX i c A b d f j),λc b d f=>⟨m (a.UH c b d f).1,λj z g=> ?_⟩⟩
 ·obtain ⟨y,t,u,v⟩:=hl x r e;rw [<- v];exact a.call y t u
 ·rcases l z g s with ⟨w,B,C⟩|q
  ·exact a.clo w B C
  ·exact q
 ·rcases o z with q|q
  ·exact k ((a.UH c b d f).2 j q g)
  ·exact q
theorem iP{f:Int}:∀(l:List (Nat×zq))(os:List zc),(∀x∈l,x.2.Ud≠f)->bQ (puts os l) f=bQ os f
 |[],os,_=>rfl
 |x::l,os,h=>by
  refine (iP l (oj os x) λy a=>h y (zcm _ a)).trans ?_;have b:=h x zcs;unfold oj;split
  ·rename_i o c
   have d:=gC c (Kb o x.2) f
   have e:sL (Kb o x.2).SX f=sL o.SX f:=by
    show sL (o.SX++[x.2]) f=_;rw [uh,d8 b];rfl
   omega
  ·rfl
theorem Ol(b:gE h T=0):(∀x∈h.SX++h.held,x.Tn≠T)/\¬ (h.closed=true/\h.over=false/\h.Tb=T):=by
 unfold gE at b;refine ⟨λx a e=> ?_,λz=>by rw [d7 z] at b;omega⟩;rcases g8.1 a with a|a
 ·have:=Fy a;rw [e] at this;omega
 ·have:=Fy a;rw [e] at this;omega
theorem HE.fin(m:HI c ss n h)(j:HE a b d h){t:Nat}(k:h.or[t]? =some p)(I:p.Tf=0)(A:zA)(J:A=p.Id\/p.waits=false)(l:∀f,p.Tj[p.Tt.toNat]? =some f->f.SV=10->A.E=0->h.over=true)
  (hb:(S.map wgt).sum+(jV (λr:zp=>r.waiting.length) h.rings:Int)=(jV (λr:zp=>r.waiting.length) U:Int)):HE a b d (Dh h t (withA p A) S U R):=by
 obtain ⟨i1,L⟩:=m.idle k I;obtain ⟨s,hs,o⟩:=m.at k;have M:=j.Um t p k;have h1:=o.UX;have h0:=o.Ve;obtain ⟨N,O⟩:=Ol L;refine {j with Um:=λu K g=> ?_,conv:=λz=> ?_,Vb:= ?_}
 ·rcases jS g with ⟨rfl,rfl,_⟩|⟨_,g⟩
  ·refine ⟨λx P e=>absurd e (N x P),λQ T V=>absurd ⟨Q,T,V⟩ O,λi f B v w q y=> ?_,λf z=>by cases z⟩;have q:(p.Tc++[K2 (withA p A)])[i]? =some B:=q;rw [List.getElem?_append] at q;split at q
   ·exact M.UX i f B v w q y
   ·have W:i=p.Tt.toNat:=by
     have:=(zes.1 q).1;simp at this;omega
    subst W
    have:B=K2 (withA p A):=by
     rw [show p.Tt.toNat-p.Tc.length=0 by omega] at q;exact (j6 q).symm
    subst this;exact l f v w y
  ·exact ⟨(j.Um u K g).call,(j.Um u K g).clo,(j.Um u K g).UX,(j.Um u K g).UH⟩
 ·obtain ⟨u,K,g,i,f,C,D,F⟩:=j.conv z;by_cases e:u=t
  ·subst e;rw [k] at g;obtain rfl:=j6 g;refine ⟨u,_,iN k,i,f,C,D,.inl ?_⟩;rcases F with ⟨B,G,X⟩|⟨Y,w2,w3,Z⟩
   ·have:=(zes.1 G).1;exact ⟨B,by show (p.Tc++[_])[i]? =_;rw [x9 this];exact G,X⟩
   ·rcases J with rfl|z
    ·refine ⟨K2 (withA p p.Id),?_,Z⟩;show (p.Tc++[_])[i]? =_;rw [show i=p.Tc.length by omega];simp
    ·rw [Y] at z;cases z
  ·exact ⟨u,K,vc g e,i,f,C,D,F⟩
 ·show ((h.Tr++S++[Qb t (withA p A)]).map wgt).sum=(jV (λr:zp=>r.waiting.length) U:Int)+(jV ir h.LE:Int)
  have:=j.Vb;rw [o7,o7,yh,yh];simp only [t6,List.map_nil,ym,List.sum_nil,show wgt (Qb (t:Int) (withA p A))=0 from rfl];omega
theorem HE.ask(L:HI c ss n h)(O:HJ a b d h)(j:HE a b d h){t:Nat}(r:h.or[t]? =some p)(P:p.waits=false)(N:p.Tj[p.Tt.toNat]? =some G)(g:h.closed=false)(m:Int)(y:List zk)(w:List (List zt))
  (A:∀u:Nat,u≠t->bQ v u=bQ h.Fd u) (B:∀(i:Nat) o,v[i]? =some o->∃F,h.Fd[i]? =some F/\F.SZ=o.SZ) (hl:(M=h.SX/\G.SV<4)\/(M=h.SX++[⟨t,G,0⟩]/\v=h.Fd)):HE a b d (Kc h t p (Ax p m y w) v M):=by
 obtain ⟨s,V,Q⟩:=L.at r;obtain ⟨R,S⟩:=L.idle r (Q.UM P);obtain ⟨C,W⟩:=Ol S;have D:h.over=true->False:=λz=>by have:=(O.fin z).1;rw [g] at this;cases this
 refine {j with Um:=λu K E=> ?_,conv:=λz=>(D z).elim,mO:=λi o x f I e=> ?_,Vb:= ?_}
 ·have J:∀x∈M++h.held,x.Tn=(u:Int)->u=t\/x∈h.SX++h.held:=λx f e=>by
   rcases hl with ⟨rfl,_⟩|⟨rfl,_⟩
   ·exact .inr f
   ·rcases g8.1 f with f|f
    ·rcases g8.1 f with f|f
     ·exact .inr (zal _ f)
     ·rw [i6.1 f] at e;have e:(t:Int)=u:=e;exact .inl (by omega)
    ·exact .inr (zar _ f)
  rcases jS E with ⟨rfl,rfl,_⟩|⟨k,E⟩
  ·refine ⟨λx f e=> ?_,(λz=>by rw [show h.closed=true from z] at g;cases g),(j.Um u p r).UX,λl _ q X=> ?_⟩
   ·rcases hl with ⟨rfl,_⟩|⟨rfl,_⟩
    ·exact absurd e (C x f)
    ·rcases g8.1 f with f|f
     ·rcases g8.1 f with f|f
      ·exact absurd e (C x (zal _ f))
      ·rw [i6.1 f];exact N
     ·exact absurd e (C x (zar _ f))
   ·rcases hl with ⟨_,z⟩|⟨rfl,rfl⟩
    ·have q:p.Tj[p.Tt.toNat]? =some l:=q;rw [N] at q;cases q;omega
    ·refine ⟨R,λ_ z=> ?_⟩;have:=(Ol z).1 ⟨u,G,0⟩ (by show _∈(h.SX++_)++h.held;simp);exact absurd rfl this
  ·refine (j.Um u K E).mono (λx f e=> ?_) (λz=>by rw [show h.closed=true from z] at g;cases g) (λz=>z) (λz=>by show bQ v u=0;rw [A u k];exact z) (λz=>.inl ?_)
   ·rcases J x f e with z|z
    ·exact absurd z k
    ·exact ⟨x,z,e,rfl⟩
   ·rcases hl with ⟨rfl,_⟩|⟨rfl,_⟩
    ·exact z
    ·have z:bV (h.SX++[⟨t,G,0⟩]) u+bV h.held u+(if h.closed=true/\h.over=false/\h.Tb=(u:Int) then 1 else 0)=0:=z;rw [gD] at z;unfold gE;omega
 ·obtain ⟨F,T,U⟩:=B i o f;exact j.mO i F x T I (by rw [U];exact e)
 ·show ((h.Tr++[mf t p]).map wgt).sum=_;rw [o7,yh];have:=j.Vb;simp only [t6,List.map_nil,ym,List.sum_nil,show wgt (mf (t:Int) p)=0 from rfl];exact this ▸ (by omega)
end Go.Proofs.YtplmgfkghomelaaGreatDoor.KH
