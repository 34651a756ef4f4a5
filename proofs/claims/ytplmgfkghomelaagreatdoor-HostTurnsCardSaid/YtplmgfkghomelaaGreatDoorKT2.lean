/- Lemmas. -/
import Derived.Test.YtplmgfkghomelaaGreatDoorKH21
import Derived.Test.YtplmgfkghomelaaGreatDoorD1
set_option linter.unusedVariables false
set_option linter.unusedSimpArgs false
namespace Go.Proofs.YtplmgfkghomelaaGreatDoor.KH
section
section
section
open Go.Sx
variable {c:zN} {ss:List (List zF)} {n a b d:Nat} {h:za}
structure HJ (a b d:Nat) (h:za):Prop where
 SY:RJ h.Fn
 kC:∀(t:Nat) x,t<a->h.Sf.RT[t]? =some x->x.RX≠2
 kW:∀(j:Nat) w x,h.LT[j]? =some w->h.Sf.RT[a+j]? =some x->x.RX=2->w.RY=true
 kO:∀(i:Nat) o x,h.Fd[i]? =some o->h.Sf.RT[a+b+i]? =some x->x.RX=2->o.RY=true
 kR:∀x,h.Sf.RT[a+b+d]? =some x->x.RX=2->h.over=true
 ask:∀(j:Nat) w,h.LT[j]? =some w->w.RP.RX=3->w.SZ=none->1<=eW h.Fd ((a+j:Nat):Int)
 Tu:h.closed=true->∀r∈h.RN,r.waiting=[]
 Um:∀(j:Nat) w,h.LT[j]? =some w->w.RP.RX<=1->h.Fn.Sg.in_[j]? =some 0
 TZ:∀o∈h.Fd,o.RY=true->o.RW=[]
 fin:h.over=true->h.closed=true/\h.RW=[]/\h.held=[]
theorem HJ.withK(hJ:HJ a b d h){k:zo}(hk:JA h.Sf k):HJ a b d (KH.withK h k):=by
 have back:∀(i:Nat) y,k.RT[i]? =some y->y.RX=2->∃x,h.Sf.RT[i]? =some x/\x.RX=2:=λi y hy e=>by
  have hl:=(zes.1 hy).1;have hg:=zeg (show i<h.Sf.RT.length by have:=hk.1;omega);obtain ⟨z,hz,e2⟩:=hk.2 i _ hg
  grind
 exact {hJ with
  kC:=λt x ht hx e=>by obtain ⟨y,hy,e2⟩:=back t x hx e;exact hJ.kC t y ht hy e2
  kW:=λj w x hw hx e=>by obtain ⟨y,hy,e2⟩:=back _ x hx e;exact hJ.kW j w y hw hy e2
  kO:=λi o x ho hx e=>by obtain ⟨y,hy,e2⟩:=back _ x hx e;exact hJ.kO i o y ho hy e2
  kR:=λx hx e=>by obtain ⟨y,hy,e2⟩:=back _ x hx e;exact hJ.kR y hy e2}
theorem BU{α:Type}(l:List α):(l.map (λ_=>0)).sum=0:=by
 induction l with
 |nil=>rfl
 |cons x l ih=>simp [ih]
theorem HJ.rest(hS:bS c ss)(hI:HI c ss n h)(hJ:HJ h.or.length h.LT.length h.Fd.length h)(hno:∀t,t<h.Sf.RT.length->(∀x,h.Sf.RT[t]? =some x->x.RX≠2)->¬ Rdy h t):
  (∀t,¬ Rdy h t)/\(∀k∈h.or,k.waits=false/\k.Su=k.Sv.length)/\∀w∈h.LT,w.RP.RX=0:=by
 obtain ⟨s1,s2,s3,s4,s5,s6⟩:=hI.sizes hS
 have all:∀t,¬ Rdy h t:=λt hr=>by
  have ht:t<h.Sf.RT.length:=by
   cases hr with
   |c _ k hk hr=>have:=(zes.1 hk).1;omega
   |w j w hw hr=>have:=(zes.1 hw).1;omega
   |o i o ho hr=>have:=(zes.1 ho).1;omega
   |r hr=>omega
  refine hno t ht (λx hx e=> ?_) hr;cases hr with
  |c _ k hk hr=>exact hJ.kC t x (zes.1 hk).1 hx e
  |w j w hw hr=>
   have h1:=hJ.kW j w x hw hx e;have h3:=(hr.1 ((hI.crew w (zmg hw)).over h1)).1
   grind
  |o i o ho hr=>
   have h1:=hJ.kO i o x ho hx e;rcases hr with h2|h2
   ·exact h2 (hJ.TZ o (zmg ho) h1)
   grind
  |r hr=>
   have h1:=hr.1;rw [hJ.kR x hx e] at h1;cases h1
 have hol:∀o∈h.Fd,o.RW=[]/\(h.closed=true->(∀w∈h.LT,w.RY=true)->o.RY=true):=λo ho=>by
  obtain ⟨i,hi⟩:=q9 ho;have:¬ OE h o:=λz=>all _ (.o i o hi z)
  grind [OE]
 have hc0:∀f,eW h.Fd f=0:=λf=>by
  unfold eW;rw [List.map_congr_left (g:=λ_=>0) λo ho=>by rw [(hol o ho).1];rfl];exact BU _
 have hw:∀w∈h.LT,w.RP.RX=0/\(w.RY=true\/h.closed=false/\∀r∈h.RN,r.waiting=[]):=λw hw=>by
  obtain ⟨j,hj⟩:=q9 hw;have h1:¬ PC h w:=λz=>all _ (.w j w hj z)
  have h2:=(hI.crew w hw).SC.is;have h3:=hJ.ask j w hj;rw [hc0] at h3
  have m0:w.RP.RX=0:=by
   rcases h2 with e|e|⟨e,_⟩|⟨e,_⟩
   ·exact e
   ·exact absurd ⟨λz=>by omega,λz=>by omega⟩ h1
   ·exact absurd ⟨λz=>by omega,λz=>by omega⟩ h1
   ·cases hr:w.SZ with
    |none=>have:=h3 e hr;omega
    |some r=>exact absurd ⟨λz=>by omega,λ_=>by rw [hr];rfl⟩ h1
  refine ⟨m0,?_⟩;by_cases he:w.RY=true
  ·exact .inl he
  ·have h4:¬ (h.closed=true\/∃r∈h.RN,r.waiting≠ []):=λz=>h1 ⟨λ_=>⟨by simpa using he,z⟩,λz=>by omega⟩
   grind
 have hq:∀r∈h.RN,r.waiting=[]:=by
  cases hc:h.closed with
  |true=>exact hJ.Tu hc
  |false=>
   obtain ⟨w,ws⟩:∃w,w∈h.LT:=List.exists_mem_of_length_pos (by omega);have h1:=(hw w ws).2;have h2:=hI.TK w ws
   grind
 have hin:∀e∈h.Fn.Sg.in_,e=0:=λe he=>by
  obtain ⟨j,hj⟩:=q9 he;have h1:=(zes.1 hj).1;have h2:=hI.SY.wk;have h3:=hI.crn hS;have hg:=zeg (show j<h.LT.length by omega);have h4:=hJ.Um j _ hg (by grind)
  grind
 have hfin:∀x∈h.held,Fin h x:=λx hx=>by
  grind [Fin]
 have hrest:h.RW=[]/\h.held=[]/\(h.closed=true->h.over=true):=by
  cases ho:h.over with
  |true=>have:=hJ.fin ho;exact ⟨this.2.1,this.2.2,λ_=>rfl⟩
  |false=>
   have hr:¬ Mg h:=λe=>all _ (.r e)
   unfold Mg at hr
   have hh:h.held=[]:=by
    cases hh:h.held with
    |nil=>rfl
    |cons x xs=>exact absurd ⟨ho,.inr (.inl ⟨x,by grind,hfin x (by grind)⟩)⟩ hr
   grind
 refine ⟨all,λk hk=> ?_,λw hw'=>(hw w hw').1⟩;obtain ⟨t,ht⟩:=q9 hk;obtain ⟨s,hs,hc⟩:=hI.at ht;have h1:¬ PB k:=λz=>all _ (.c t k ht z)
 have h2:=hI.Tz t k ht
 have h3:lh h t=0:=by
  grind [lh,gu]
 rw [hc0,h3] at h2;have h4:=hc.Up;have h5:=hc.Sv
 grind [PB]
theorem An{os:List zc}(h:∀o∈os,o.RY=true->o.RW=[])(hne:∀o∈os,o.RY=false):∀(l:List (Nat×zq)),∀o∈puts os l,o.RY=true->o.RW=[]:=λl o ho e=>by
 obtain ⟨i,hi⟩:=q9 ho
 grind [gI]
theorem HJ.open(hI:HI c ss n h)(hc:h.closed=false):∀o∈h.Fd,o.RY=false:=λo ho=>by
 have:=hI.TA o ho
 grind
theorem HJ.put(hJ:HJ a b d h){os:List zc}(h1:∀(i:Nat) o,os[i]? =some o->∃o',h.Fd[i]? =some o'/\o'.RY=o.RY)(h2:∀f,eW h.Fd f<=eW os f)(h3:∀o∈os,o.RY=true->o.RW=[]){h':za}(e:h'={h with or:=h'.or,Fd:=os,RW:=h'.RW,Sw:=h'.Sw})(h4:h.over=true->h'.RW=[]):HJ a b d h':=by
 rw [e]
 exact {hJ with
  kO:=λi o x ho hx e2=>by obtain ⟨o',g1,g2⟩:=h1 i o ho;rw [<- g2];exact hJ.kO i o' x g1 hx e2
  ask:=λj w hw m q=>p8 (hJ.ask j w hw m q) (h2 _)
  TZ:=h3
  fin:=λz=>⟨(hJ.fin z).1,h4 z,(hJ.fin z).2.2⟩}
theorem tN(os:List zc)(x:Nat×zq)(f:Int):eW os f<=eW (oh os x) f:=by
 unfold oh;split
 ·rename_i o h
  have h1:=mQ h (Mf o x.2) f
  grind [Bg,Mf]
 grind
theorem mD(f:Int):∀(l:List (Nat×zq))(os:List zc),eW os f<=eW (puts os l) f
 |[],os=>m6 _
 |x::l,os=>p8 (tN os x f) (mD f l (oh os x))
theorem eJ{k:zo}{t i:Nat}{x y:qm}(h:(Nn k t x).RT[i]? =some y):i=t\/k.RT[i]? =some y:=by
 rcases aq (show (k.RT.set t ⟨2,x.Tn⟩)[i]? =some y from h) with h|h
 ·exact .inl h.1
 ·exact .inr h.2
theorem HJ.crew(hJ:HJ a b d h){j:Nat}{w w':zH}(hw:h.LT[j]? =some w)(he:w.RY=true->w'.RY=true){rg:zb}(hrg:RJ rg)(h3:w'.RP.RX=3->w'.SZ=none->1<=eW h.Fd ((a+j:Nat):Int))(hc:w'.RP.RX<=1->rg.Sg.in_[j]? =some 0)(hc2:∀i:Nat,i≠j->h.Fn.Sg.in_[i]? =some 0->rg.Sg.in_[i]? =some 0){rs:List zt}(hrs:h.closed=true->∀r∈rs,r.waiting=[]){os:List zc}(hos:os=h.Fd)(e:zd):
  HJ a b d (CK h rg h.Sf (h.LT.set j w') os rs e):=by
 subst hos
 exact {hJ with
  SY:=hrg
  kW:=λi v x hv hx m=>by
   rcases aq (show (h.LT.set j w')[i]? =some v from hv) with ⟨rfl,rfl,_⟩|⟨_,hv⟩
   ·exact he (hJ.kW _ w x hw hx m)
   ·exact hJ.kW i v x hv hx m
  ask:=λi v hv m q=>by
   rcases aq (show (h.LT.set j w')[i]? =some v from hv) with ⟨rfl,rfl,_⟩|⟨_,hv⟩
   ·exact h3 m q
   ·exact hJ.ask i v hv m q
  Tu:=hrs
  Um:=λi v hv m=>by
   rcases aq (show (h.LT.set j w')[i]? =some v from hv) with ⟨rfl,rfl,_⟩|⟨hn,hv⟩
   ·exact hc m
   ·exact hc2 i hn (hJ.Um i v hv m)}
theorem HJ.serve(hJ:HJ a b d h){i:Nat}{o o':zc}(ho:h.Fd[i]? =some o){q:bA}{x:zq}{xs:List zq}(hq:tf 2199023255552 o q o' x xs){ws:List zH}(hws:∀(j:Nat) w,ws[j]? =some w->∃v,h.LT[j]? =some v/\w.RP=v.RP/\w.RY=v.RY/\(w.SZ=none->v.SZ=none/\x.Te≠((a+j:Nat):Int)))(cs:List ze)(es:List zd):
  HJ a b d (Ha h cs ws (h.Fd.set i o') es):=by
 have hsh:=hq.sh
 exact {hJ with
  kW:=λj w y hw hy m=>by obtain ⟨v,h1,h2,h3,h4⟩:=hws j w hw;rw [h3];exact hJ.kW j v y h1 hy m
  kO:=λk p y hp hy m=>by
   rcases aq (show (h.Fd.set i o')[k]? =some p from hp) with ⟨rfl,rfl,_⟩|⟨_,hp⟩
   ·rw [hsh.2.2.1];exact hJ.kO _ o y ho hy m
   ·exact hJ.kO k p y hp hy m
  ask:=λj w hw m r=>by
   obtain ⟨v,h1,h2,h3,h4⟩:=hws j w hw;obtain ⟨h5,h6⟩:=h4 r;have h7:=hJ.ask j v h1 (by rw [<- h2];exact m) h5
   have h8:=mQ ho o' ((a+j:Nat):Int);have h9:=Bh xs x ((a+j:Nat):Int);rw [hq.RW,hq.Ug,d8 h6] at*
   show 1<=eW (h.Fd.set i o') _;omega
  Um:=λj w hw m=>by obtain ⟨v,h1,h2,_⟩:=hws j w hw;exact hJ.Um j v h1 (by rw [<- h2];exact m)
  TZ:=λp hp e=>by
   rcases p9 (show p∈h.Fd.set i o' from hp) with hp|rfl
   ·exact hJ.TZ p hp e
   ·rw [hsh.2.2.1] at e;have:=hJ.TZ o (zmg ho) e;rw [hq.RW] at this;cases this}
theorem HJ.rul(hJ:HJ a b d h){rg:zb}(h1:RJ rg)(h2:rg.Sg.in_=h.Fn.Sg.in_)(h3:h.over=false)(cs:List ze)(l hd:List zB)(es:List zd):HJ a b d (th h rg cs l hd es):=
 {hJ with SY:=h1,Um:=λj w hw m=>by show rg.Sg.in_[j]? =_;rw [h2];exact hJ.Um j w hw m,fin:=λz=>by rw [show h.over=true from z] at h3;cases h3}
theorem QO(hS:bS c ss)(hI:HI c ss n h)(ha:h.or.length=a)(hb:h.LT.length=b)(hd:h.Fd.length=d)(hJ:HJ a b d h){t:Nat}{h':za}(hv:Mv h t h'):HJ a b d h':=by
 cases hv with
 |back t k ht hw hm=>exact {hJ with}
 |ask t k cmd h' ht hw hat hc hv=>
  cases hv with
  |told E _=>exact {hJ with}
  |fire i r r' n E g hcl _ _ hi hA=>exact {hJ with Tu:=λz=>by rw [show h.closed=true from z] at hcl;cases hcl}
  |items hcl _ _ _ _=>exact hJ.put (λi o ho=>gI ho) (λf=>mD f _ _) (An hJ.TZ (HJ.open hI hcl) _) rfl (λz=>(hJ.fin z).2.1)
  |walk hcl _ _ _=>exact hJ.put (λi o ho=>gI ho) (λf=>mD f _ _) (An hJ.TZ (HJ.open hI hcl) _) rfl (λz=>(hJ.fin z).2.1)
  |call hcl _ _=>exact {hJ with fin:=λz=>by have:=(hJ.fin z).1;rw [hcl] at this;cases this}
 |work j w h' hw hrd hv=>
  have hjl:=(zes.1 hw).1;have hC:=hI.crew w (zmg hw);have hJw:=hC.SC;obtain ⟨hr1,hr2,hr4⟩:=hI.hooks4 hS
  have stp:∀{a:qS} {W':zm},w.RP.RX=2->qG 2199023255552 w.RP=some (a,true,W')->DV c.Sh.toNat c.Maps.length w.RP a W':=λm2 hst=>by
   grind [KS]
  have goes:∀(W':zm)(rp:Option zk)(cur pc:Int)(e:zd),W'.RX=2->HJ a b d (CK h h.Fn h.Sf (h.LT.set j ⟨W',cur,pc,rp,w.RY⟩) h.Fd h.RN e):=λW' rp cur pc e m=>
   hJ.crew (w':=⟨W',cur,pc,rp,w.RY⟩) hw (λz=>z) hJ.SY (λz=>absurd (m.symm.trans z) (by decide)) (λz=>by grind) (λ_ _ z=>z) hJ.Tu rfl _
  cases hv with
  |ends x m0 hcl hk hm=>
   exact {hJ with
    kC:=λu y hu hy=>by
     rcases eJ hy with e|hy
     ·omega
     ·exact hJ.kC u y hu hy
    kW:=λi v y hv hy m=>by
     rcases aq (show (h.LT.set j _)[i]? =some v from hv) with ⟨rfl,rfl,_⟩|⟨hn,hv⟩
     ·rfl
     ·rcases eJ hy with e|hy
      ·omega
      ·exact hJ.kW i v y hv hy m
    kO:=λi o y ho hy m=>by
     rcases eJ hy with e|hy
     ·omega
     ·exact hJ.kO i o y ho hy m
    kR:=λy hy m=>by
     rcases eJ hy with e|hy
     ·omega
     ·exact hJ.kR y hy m
    ask:=λi v hv m q=>by
     rcases aq (show (h.LT.set j _)[i]? =some v from hv) with ⟨rfl,rfl,_⟩|⟨_,hv⟩
     ·grind
     ·exact hJ.ask i v hv m q
    Um:=λi v hv m=>by
     rcases aq (show (h.LT.set j _)[i]? =some v from hv) with ⟨rfl,rfl,_⟩|⟨_,hv⟩
     ·exact hJ.Um _ w hw m
     ·exact hJ.Um i v hv m}
  |take i r r' q qs cur m0 hcl hi hwt htk c0 c1=>
   exact hJ.crew (w':=⟨⟨w.RP.SK,w.RP.Tq,1,⟨i,q,0,0,0,none⟩⟩,cur,w.pc,w.SZ,w.RY⟩) hw (λz=>z) hJ.SY (λz=>absurd (show (1:Int)=3 from z) (by decide)) (λ_=>hJ.Um j w hw (by omega)) (λ_ _ z=>z) (λz=>by grind) rfl _
  |skip st v p m1 hcu hsk=>
   exact hJ.crew (w':=inW w ⟨w.RP.SK,st,0,⟨0,⟨0,⟨0,0⟩⟩,0,0,0,none⟩⟩) hw (λz=>z) hJ.SY (λz=>absurd (show (0:Int)=3 from z) (by decide)) (λ_=>hJ.Um j w hw (by omega)) (λ_ _ z=>z) hJ.Tu rfl _
  |enter v p m b e1 e2 ck e W' m1 hcu hmo he hE=>
   obtain ⟨m2,hm2,o,hjd⟩:=hJ.SY.cur hI.SY hcu;obtain ⟨m3,b3,hm3,h1,h2,h3⟩:=hI.module p;rw [hmo] at hm2 hm3;cases hm2;cases hm3;obtain ⟨e3,W2,hE2,_,hW⟩:=Fb hJw m1 h1 h2 h3 v p;rw [hE] at hE2;cases hE2
   have hm:W'.RX=2:=by
    grind
   obtain ⟨⟨q1,q2,q3⟩,hq,hq2⟩:=Ad hI.SY (j:Int);rw [he] at hq;cases hq;refine hJ.crew (w':=inW w W') (rg:=Qk h.Fn ck) hw (λz=>z) ⟨hJ.SY.Ty,hJ.SY.hook⟩ (λz=>absurd (hm.symm.trans z) (by decide)) (λz=>by have z:W'.RX<=1:=z;omega) (λi hn z=> ?_) hJ.Tu rfl _;show ck.in_[i]? =some 0
   grind
  |note x W' m2 hst k3=>
   rcases stp m2 hst with ⟨z,_⟩|⟨z,_⟩|⟨_,m,_⟩
   ·omega
   ·omega
   ·exact goes _ _ _ _ _ m
  |ran x W' m2 hst k1=>
   rcases stp m2 hst with ⟨z,_⟩|⟨z,_⟩|⟨_,m,_⟩
   ·omega
   ·omega
   ·exact goes _ _ _ _ _ m
  |done x W' e1 ck m2 hst k4 hlv=>
   obtain ⟨⟨q1,q2⟩,hq,hq2⟩:=Ae hI.SY (j:Int);rw [hlv] at hq;cases hq
   have hm:W'.RX=0:=by
    rcases stp m2 hst with ⟨_,m,_⟩|⟨z,_⟩|⟨z,_⟩
    ·exact m
    ·omega
    ·omega
   have hcr:=hI.crn hS;have hwk:=hI.SY.wk;refine hJ.crew (w':=inW w W') (rg:=Qk h.Fn ck) hw (λz=>z) ⟨hJ.SY.Ty,hJ.SY.hook⟩ (λz=>absurd (hm.symm.trans z) (by decide)) (λ_=> ?_) (λi hn z=> ?_) hJ.Tu rfl _
   ·show ck.in_[j]? =some 0
    grind
   ·show ck.in_[i]? =some 0
    grind
  |ask x W' m2 hst k2=>
   have hne:∀o∈h.Fd,o.RY=false:=λo ho=>by
    have h1:=hI.TA o ho;have h2:=hC.over
    grind
   obtain ⟨g1,g2,g3,g4⟩:0<=x.Item.SE/\x.Item.SE<c.Maps.length/\0<=x.Item.Op/\x.Item.Op<5:=by
    rcases stp m2 hst with ⟨z,_⟩|⟨_,_,_,_,_,_,g,_⟩|⟨z,_⟩
    ·omega
    ·grind
    ·omega
   obtain ⟨p,o,s1,s2,s3,s4,s5,s6⟩:=Dy hI.own hS.sh hne (r:=⟨((a+j:Nat):Int),0,false,x.Item⟩) g1 g2 ⟨g3,g4⟩ (by have:=hI.Ta;omega);have hput:=ta (os:=h.Fd) (x:=(hZ x.Item.SQ h.Fd.length,⟨((h.or.length+j:Nat):Int),0,false,x.Item⟩)) (by grind);have hle:=hJ.put (h':={h with Fd:=oh h.Fd (hZ x.Item.SQ h.Fd.length,⟨((h.or.length+j:Nat):Int),0,false,x.Item⟩)}) (λi o ho=>tc ho) (λf=>tN ..) (An hJ.TZ hne [_]) rfl (λz=>(hJ.fin z).2.1)
   have hm:W'.RX=3:=by
    rcases stp m2 hst with ⟨z,_⟩|⟨_,m,_⟩|⟨z,_⟩
    ·omega
    ·exact m
    ·omega
   have:=hle.crew (j:=j) (w:=w) (w':={w with RP:=W',pc:=x.Pc}) hw (λz=>z) hJ.SY (λ_ _=>by grind) (λz=>by grind) (λ_ _ z=>z) hJ.Tu rfl (Kz 16 0 0 0 0 0 0 oO CJ 0);exact {this with}
  |back r W' m3 hr hA=>
   obtain ⟨W2,hW2,_,hm,_⟩:=mU hJw m3 (hC.rep r hr)
   grind
 |serve i o h' ho hrd hv=>
  have hil:=(zes.1 ho).1;have same:∀{u:Nat},u<a->∀(j:Nat) w,h.LT[j]? =some w->∃v,h.LT[j]? =some v/\w.RP=v.RP/\w.RY=v.RY/\(w.SZ=none->v.SZ=none/\(u:Int)≠((a+j:Nat):Int)):=λhu j w hw=>⟨w,hw,rfl,rfl,λz=>⟨z,by omega⟩⟩
  cases hv with
  |ends t x ht hl hk hm=>
   exact {hJ with
    kC:=λu y hu hy=>by
     rcases eJ hy with e|hy
     ·omega
     ·exact hJ.kC u y hu hy
    kW:=λj v y hv hy m=>by
     have:=(zes.1 (show h.LT[j]? =some v from hv)).1;rcases eJ hy with e|hy
     ·omega
     ·exact hJ.kW j v y hv hy m
    kO:=λk p y hp hy m=>by
     rcases aq (show (h.Fd.set i _)[k]? =some p from hp) with ⟨rfl,rfl,_⟩|⟨hn,hp⟩
     ·rfl
     ·rcases eJ hy with e|hy
      ·omega
      ·exact hJ.kO k p y hp hy m
    kR:=λy hy m=>by
     rcases eJ hy with e|hy
     ·omega
     ·exact hJ.kR y hy m
    ask:=λj w hw m q=>by
     have h1:=hJ.ask j w hw m q;have h2:_+uS o.RW _=_+uS o.RW _:=mQ ho {o with RY:=true} ((a+j:Nat):Int)
     grind
    TZ:=λp hp e=>by
     rcases p9 (show p∈h.Fd.set i _ from hp) with hp|rfl
     ·exact hJ.TZ p hp e
     ·exact hl}
  |crew t q o' x xs j w ht hq hf hw=>
   refine hJ.serve ho hq (λk v hv=> ?_) _ _;rcases aq hv with ⟨rfl,rfl,_⟩|⟨hn,hv⟩
   ·exact ⟨w,hw,rfl,rfl,λz=>by cases z⟩
   grind
  |walk q o' x xs u k hq hf hk _ _ _=>exact hJ.serve ho hq (by grind) _ _
  |item t q o' x xs u k ht hq hf hk _ _ _=>exact hJ.serve ho hq (by grind) _ _
 |rule h' hrd hv=>
  have hov:=hrd.1;cases hv with
  |fin x u k _ _ _ _=>exact hJ.rul hJ.SY rfl hov _ _ _ _
  |retired x u k _ _ _ _=>exact hJ.rul (hJ.SY.settled hI.SY 1) rfl hov _ _ _ _
  |over u k x hnf hl hc hu hk hm=>
   have hcl:=hrd.hyp hnf hl
   have hh:h.held=[]:=by
    rcases hrd.2 with z|⟨y,z1,z2⟩|z
    ·exact absurd hl z
    ·grind
    ·exact z.2.2
   exact {hJ with
    kC:=λu y hu hy=>by
     rcases eJ hy with e|hy
     ·omega
     ·exact hJ.kC u y hu hy
    kW:=λj v y hv hy m=>by
     have:=(zes.1 (show h.LT[j]? =some v from hv)).1;rcases eJ hy with e|hy
     ·omega
     ·exact hJ.kW j v y hv hy m
    kO:=λk p y hp hy m=>by
     have:=(zes.1 (show h.Fd[k]? =some p from hp)).1;rcases eJ hy with e|hy
     ·omega
     ·exact hJ.kO k p y hp hy m
    kR:=λy hy m=>rfl
    fin:=λ_=>⟨hcl,hl,hh⟩}
  |refuse x xs u k _ _ _ _ _=>exact hJ.rul hJ.SY rfl hov _ _ _ _
  |cmd x xs u k r' N E es _ hl _ _ _ hc=>
   have:=NZ hI hJ.SY (hI.call x (by rw [hl];simp)).2.1 hc;exact hJ.rul this.1 this.2 hov _ _ _ _
  |hold x xs v r' _ _ _ _ hr=>
   have:=N0 hI hJ.SY hr;exact hJ.rul this.1 this.2 hov _ _ _ _
  |drain x xs _ _ _ _=>exact hJ.rul hJ.SY rfl hov _ _ _ _
  |close x xs _ _ _ _=>
   exact {hJ with
    Tu:=λ_ r hr=>by
     grind [tj]
    fin:=λz=>by grind}
end
open Go.Sx
variable {α:Type} {i:Nat} {l:List α}
variable {c:zN} {ss:List (List zF)} {n a b d:Nat} {h:za}
def gw(f:α->Nat)(l:List α):Nat:=(l.map f).sum
theorem gy(f:α->Nat){x:α}(h:l[i]? =some x)(y:α):gw f (l.set i y)+f x=gw f l+f y:=by
 unfold gw;rw [ya];exact Dx (by grind) _
theorem BV{f:α->Nat}(h:∀x∈l,f x=0):gw f l=0:=by
 unfold gw;rw [List.map_congr_left (g:=λ_=>0) h];exact BU l
def BW(S:Nat)(x:zF):Nat:=4+max 1 (min 16 x.Sy.length)+S+if x.RS=3 then 770 else 0
def wg(S:Nat)(k:ze):Nat:=if k.waits then 1+gw (BW S) (k.Sv.drop (k.Su.toNat+1)) else gw (BW S) (k.Sv.drop k.Su.toNat)
def CN(w:zH):Nat:=(if w.RY then 0 else 1)+if w.RP.RX=1 then 769 else if w.RP.RX=2 then 3*(ni w.RP).toNat else if w.RP.RX=3 then 3*(ni w.RP).toNat-2 else 0
def ul(o:zc):Nat:=(if o.RY then 0 else 1)+o.RW.length
def phi(h:za):Nat:=gw (wg h.Fd.length) h.or+gw CN h.LT+gw ul h.Fd+gw (λr:zt=>770*r.waiting.length) h.RN+2*h.RW.length+h.held.length+if h.over then 0 else 1
theorem QP{H K:Nat}{w:zm}(h:WJ H K w)(hm:w.RX=2\/w.RX=3):1<=ni w:=by
 have go:∀{st:Int},PK K w st->1<=ni w:=λ⟨m,j,M,p,i,hM,hS,_,hR,_⟩=>by
  rw [kB hM hR];exact NH hS.Ty hR.fit hR.lt
 rcases h.is with e|e|e|e
 ·omega
 ·omega
 ·exact go e.2
 ·exact go e.2
theorem Ld{S:Nat}{l:List zF}{x:zF}(h:l[i]? =some x):gw (BW S) (l.drop i)=BW S x+gw (BW S) (l.drop (i+1)):=by
 obtain ⟨hl,rfl⟩:=zes.1 h;unfold gw;rw [RE hl,yl,List.sum_cons]
theorem Fy{os:List zc}(x:Nat×zq):gw ul (oh os x)<=gw ul os+1:=by
 grind [oh,gy,ul,Mf]
theorem Ao:∀(l:List (Nat×zq))(os:List zc),gw ul (puts os l)<=gw ul os+l.length
 |[],os=>m6 _
 |x::l,os=>by
  have h1:=Ao l (oh os x)
  grind [Fy,gw,ul,puts,oh]
theorem Ed{t:Nat}{k k':ze}(ht:h.or[t]? =some k){x:Nat}(hx:wg h.Fd.length (E5 k')+x+1<=wg h.Fd.length k){es:List zd}{rs:List zt}(hr:gw (λr:zt=>770*r.waiting.length) rs<=gw (λr:zt=>770*r.waiting.length) h.RN+x)(g:zP):phi (Dz h t k' es rs g)+1<=phi h:=by
 grind [gy,wg,E5,phi,Dz]
theorem Ee{t:Nat}{k k':ze}(ht:h.or[t]? =some k){os:List zc}{l:List zB}(hlen:os.length=h.Fd.length)(hx:wg h.Fd.length k'+gw ul os+2*l.length+1<=wg h.Fd.length k+gw ul h.Fd+2*h.RW.length):phi (Kv h t k k' os l)+1<=phi h:=by
 grind [gy,wg,phi,Kv]
theorem lx{j:Nat}{w w':zH}(hw:h.LT[j]? =some w){rg:zb}{k:zo}{os:List zc}{rs:List zt}(hlen:os.length=h.Fd.length)(hx:CN w'+gw ul os+gw (λr:zt=>770*r.waiting.length) rs+1<=CN w+gw ul h.Fd+gw (λr:zt=>770*r.waiting.length) h.RN)(e:zd):phi (CK h rg k (h.LT.set j w') os rs e)+1<=phi h:=by
 grind [gy,CN,phi,CK]
theorem Ap(f:α->Nat){x y:α}(h:l[i]? =some x)(e:f y=f x):gw f (l.set i y)=gw f l:=by
 grind [gy]
theorem PY(hS:bS c ss)(hI:HI c ss n h)(ha:h.or.length=a)(hb:h.LT.length=b)(hd:h.Fd.length=d)(hJ:HJ a b d h){t:Nat}{h':za}(hv:Mv h t h'):phi h'+1<=phi h:=by
 cases hv with
 |back t k ht hw hm=>
  obtain ⟨s,hs,hk⟩:=hI.at ht;have h1:=hk.Uo;have h2:=hk.UE hw;have h3:=hS.sl s (zmg hs);refine Ed ht (x:=0) ?_ (m6 _) _
  grind [wg,E5,qp]
 |ask t k cmd h' ht hw hat hc hv=>
  obtain ⟨s,hs,hk⟩:=hI.at ht;have h1:=hk.Uo;have h2:=hk.Up;have h3:=hS.sl s (zmg hs)
  have hkw:wg h.Fd.length k=BW h.Fd.length cmd+gw (BW h.Fd.length) (k.Sv.drop (k.Su.toNat+1)):=by
   grind [wg,Ld]
  have hfin:∀A,wg h.Fd.length (E5 (withA k A))=gw (BW h.Fd.length) (k.Sv.drop (k.Su.toNat+1)):=λA=>by
   grind [wg,E5,withA,qp]
  have hwait:∀m r p,wg h.Fd.length (Bj k m r p)=1+gw (BW h.Fd.length) (k.Sv.drop (k.Su.toNat+1)):=λm r p=>by
   grind [wg,Bj]
  cases hv with
  |told E _=>
   refine Ed ht (x:=0) ?_ (m6 _) _
   grind [BW]
  |fire i r r' n E g hcl hk3 _ hi hA=>
   have hri:=hI.Tj r (zmg hi);obtain ⟨n2,e2,r2,g2,a1,a2,a3,a4⟩:=iP hri.1 cmd.Sl h.SH;rw [hA] at a1;cases a1;refine Ed ht (x:=770) ?_ ?_ _
   ·grind [BW]
   grind [gy,zt]
  |items hcl hkd h1 h16 hg=>
   refine Ee ht (oM _ _) ?_
   grind [Ao,vG,bv,fQ,BW]
  |walk hcl hkd _ _=>
   refine Ee ht (oM _ _) ?_
   grind [Ao,aE,iD,BW]
  |call hcl _ _=>
   refine Ee ht rfl ?_
   grind [BW]
 |work j w h' hw hrd hv=>
  have hC:=hI.crew w (zmg hw);have hJw:=hC.SC;obtain ⟨hr1,hr2,hr4⟩:=hI.hooks4 hS
  have stp:∀{a:qS} {W':zm},w.RP.RX=2->qG 2199023255552 w.RP=some (a,true,W')->DV c.Sh.toNat c.Maps.length w.RP a W'/\WJ c.Sh.toNat c.Maps.length W':=λm2 hst=>by
   grind [KS]
  have hp:=λz=>QP hJw (.inl z)
  have hp3:=λz=>QP hJw (.inr z)
  cases hv with
  |ends x m0 hcl hk hm=>
   refine lx hw rfl ?_ _;have:=(hrd.1 m0).1
   grind [CN]
  |take i r r' q qs cur m0 hcl hi hwt htk c0 c1=>
   refine lx hw rfl ?_ _;have hri:=hI.Tj r (zmg hi);obtain ⟨r2,t1,t2,t3,t4⟩:=mj hri.1 h.SH hwt
   grind [gy,zt,CN]
  |skip st v p m1 hcu hsk=>
   refine lx hw rfl ?_ _;unfold CN inW;simp [m1];omega
  |enter v p m b e1 e2 ck e W' m1 hcu hmo he hE=>
   obtain ⟨m2,hm2,o,hjd⟩:=hJ.SY.cur hI.SY hcu;obtain ⟨m3,b3,hm3,h1,h2,h3⟩:=hI.module p;rw [hmo] at hm2 hm3;cases hm2;cases hm3;obtain ⟨e3,W2,hE2,_,hW⟩:=Fb hJw m1 h1 h2 h3 v p;rw [hE] at hE2;cases hE2;refine lx hw rfl ?_ _;rcases hW with ⟨z,_,o2,q2,z2⟩|⟨_,z,z2⟩
   ·grind
   ·have hcost:uC m.Code m.Code.length<=256:=by
     obtain ⟨o3,p3,e3,hj3,hc3⟩:=mg m;rw [hjd] at hj3;cases hj3;rcases hc3 with ⟨z,_⟩|⟨_,_,j,_,hSd⟩
     ·exact absurd rfl z
     ·exact hSd.Ty.UF
    grind [CN,inW,ni]
  |note x W' m2 hst k3=>
   refine lx hw rfl ?_ _;have hp:=hp m2;rcases (stp m2 hst).1 with ⟨z,_⟩|⟨z,_⟩|⟨_,m,_,_,_,_,hl⟩
   ·omega
   ·omega
   grind [CN,inW]
  |ran x W' m2 hst k1=>
   refine lx hw rfl ?_ _;have hp:=hp m2;rcases (stp m2 hst).1 with ⟨z,_⟩|⟨z,_⟩|⟨_,m,_,_,_,_,hl⟩
   ·omega
   ·omega
   grind [CN,inW]
  |done x W' e1 ck m2 hst k4 hlv=>
   refine lx hw rfl ?_ _;have hp:=hp m2;rcases (stp m2 hst).1 with ⟨_,m,_⟩|⟨z,_⟩|⟨z,_⟩
   ·grind [CN,inW]
   ·omega
   ·omega
  |ask x W' m2 hst k2=>
   refine lx hw (oL _ _) ?_ _;have hp:=hp m2;have:=Fy (os:=h.Fd) (hZ x.Item.SQ h.Fd.length,⟨((h.or.length+j:Nat):Int),0,false,x.Item⟩);generalize gw ul (oh h.Fd _)=z at this |-;rcases (stp m2 hst).1 with ⟨z,_⟩|⟨_,m,_,_,_,_,_,hl⟩|⟨z,_⟩
   ·omega
   ·grind [QP,CN]
   ·omega
  |back r W' m3 hr hA=>
   refine lx hw rfl ?_ _;obtain ⟨W2,hW2,hJ2,hm,_,_,_,_,hl⟩:=mU hJw m3 (hC.rep r hr)
   grind [CN]
 |serve i o h' ho hrd hv=>
  have hown:∀{q:bA} {o':zc} {x:zq} {xs:List zq},tf 2199023255552 o q o' x xs->gw ul (h.Fd.set i o')+1=gw ul h.Fd:=λ{q o' x xs}hq=>by
   have:=gy ul ho o'
   have:ul o=ul o'+1:=by
    unfold ul;rw [hq.RW,hq.Ug,hq.sh.2.2.1];simp;omega
   omega
  have hcli:∀{u:Nat} {k:ze},h.or[u]? =some k->∀r p,gw (wg h.Fd.length) (h.or.set u (QJ k r p))=gw (wg h.Fd.length) h.or:=λhk r p=>Ap _ hk rfl
  cases hv with
  |ends t x ht hl hk hm=>
   have:=gy ul ho {o with RY:=true}
   have he:o.RY=false:=by
    rcases hrd with z|z
    ·exact absurd hl z
    ·exact z.2.2
   grind [ul,phi]
  |crew t q o' x xs j w ht hq hf hw=>
   have:=hown hq;have:=Ap CN (y:=Q2 w q.SD) hw rfl
   grind [phi,Ha]
  |walk q o' x xs u k hq hf hk _ _ _=>
   grind [phi,Ha]
  |item t q o' x xs u k ht hq hf hk _ _ _=>
   grind [phi,Ha]
 |rule h' hrd hv=>
  have hov:=hrd.1;have hcli:∀{u:Nat} {k:ze},h.or[u]? =some k->∀N E,gw (wg h.Fd.length) (h.or.set u (CL k N E))=gw (wg h.Fd.length) h.or:=λhk N E=>Ap _ hk rfl
  have hera:∀{i:Nat} {x:zB},h.held[i]? =some x->(h.held.eraseIdx i).length+1=h.held.length:=λ{i x}hx=>by
   grind
  cases hv with
  |fin i x u k hx _ _ hk _=>
   grind [phi,th]
  |retired i x u k hx _ _ hk _=>
   grind [phi,th]
  |over u k x hnf hl hc hk _ _=>
   grind [phi]
  |refuse x xs u k _ hl _ _ hk=>
   grind [phi,th,hl]
  |cmd x xs u k r' N E es _ hl _ _ hk hc=>
   grind [phi,th,hl]
  |hold x xs v r' _ hl _ _ hr=>
   grind [phi,th,hl]
  |drain x xs _ hl _ _=>
   grind [phi,th,hl]
  |close x xs _ hl _ _=>
   grind [gw,zt,tj,BV,phi,hl]
end
open Go.Sx
variable {c:zN} {ss:List (List zF)} {n a b d:Nat} {h:za}
theorem Le{t:Nat}{h':za}(hv:Mv h t h'):h'.Sf.LE=h.Sf.LE:=by
 cases hv with
 |back=>rfl
 |ask _ _ _ _ _ _ _ _ hv=>cases hv<;>rfl
 |work _ _ _ _ _ hv=>cases hv<;>rfl
 |serve _ _ _ _ _ hv=>cases hv<;>rfl
 |rule _ _ hv=>cases hv<;>rfl
theorem N1{t:Nat}{h':za}(hv:Mv h t h'):h'.or.length=h.or.length/\h'.LT.length=h.LT.length/\h'.Fd.length=h.Fd.length:=by
 cases hv with
 |back=>exact ⟨j5,rfl,rfl⟩
 |ask _ _ _ _ _ _ _ _ hv=>cases hv<;>simp [Dz,Kv,oM]
 |work _ _ _ _ _ hv=>cases hv<;>simp [CK,oL]
 |serve _ _ _ _ _ hv=>cases hv<;>simp [Ha]
 |rule _ _ hv=>cases hv<;>simp [th]
structure HR (c:zN) (ss:List (List zF)) (P n:Nat) (h:za):Prop where
 inv:HI c ss n h
 more:HJ h.or.length h.LT.length h.Fd.length h
 left:n+phi h<=P
 turn:h.Sf.LE=n
 UD:P<100000000
theorem Fz{P:Nat}(hS:bS c ss)(hR:HR c ss P n h){r:Int×Bool×za}(hr:Stp h r):HR c ss P (if r.2.1 then n+1 else n) r.2.2/\(r.2.1=true->phi r.2.2+1<=phi h):=by
 have hb:=hR.left;have ht:=hR.UD;cases hr with
 |none k hno hst htn e=>
  subst e;exact ⟨⟨hR.inv.withK hst.1,hR.more.withK hst,hb,htn.trans hR.turn,ht⟩,λz=>by cases z⟩
 |one k t x h' hrd hst htn hx hm hv e=>
  subst e;have hI:=hR.inv.withK hst.1;have hJ:=hR.more.withK hst;have hp:=PY hS hI rfl rfl rfl hJ hv;have hp0:phi (KH.withK h k)=phi h:=rfl;obtain ⟨l1,l2,l3⟩:=N1 hv;refine ⟨⟨PD hS hI (by omega) hv,?_,by show n+1+phi h'<=P;omega,?_,ht⟩,λ_=>by show phi h'+1<=_;omega⟩
  ·rw [l1,l2,l3];exact QO hS hI rfl rfl rfl hJ hv
  ·rw [Le hv];show k.LE=_;rw [htn,hR.turn,qp (by omega) (by omega)];rfl
theorem Laid.twice{k k1 k2:zo}{ps ps2:List Bool}(h1:Laid k k1 ps ps.length)(h2:Laid k1 k2 ps2 ps2.length)(hl:ps.length=k.RT.length)(hp:ps2=ps):k2=k1:=by
 subst hp;obtain ⟨a1,a2,a3⟩:=h1;obtain ⟨b1,b2,b3⟩:=h2;obtain ⟨t2,n2⟩:=k2;obtain ⟨t1,n1⟩:=k1;simp only at*
 subst b1
 congr 1
 refine m8 λi=> ?_
 cases hk:k.RT[i]? with
 |none=>grind
 |some x=>
  have hi:=(zes.1 hk).1;obtain ⟨u,hu,p1,m1⟩:=a3 i x hk;obtain ⟨v,hv,p2,m2⟩:=b3 i u hu;rw [hu,hv];obtain ⟨um,up⟩:=u;obtain ⟨vm,vp⟩:=v
  grind
theorem wh(hS:bS c ss)(hI:HI c ss n h)(x:Int):∃k rs r,vB h=some (rs,withK h k)/\xi 2199023255552 (withK h k) x=some r/\xi 2199023255552 h x=some r/\Stp h r/\rs.length<=64/\(if r.2.1 then r.1∈rs else rs=[])/\JA h.Sf k/\k.LE=h.Sf.LE:=by
 obtain ⟨k,ps,e1,e2,e3,e4⟩:=mS hS hI;obtain ⟨s1,s2,s3,s4,s5,s6⟩:=hI.sizes hS;have hkl:=e4.2.1;have hI2:=hI.withK hkl;obtain ⟨k2,ps2,f1,f2,f3,f4⟩:=mS hS hI2
 have hps:ps2=ps:=by
  refine m8 λi=> ?_
  have hl:ps2.length=ps.length:=by rw [f2,e2];exact hkl
  by_cases hi:i<ps.length
  ·have g1:=zeg hi;have g2:=zeg (show i<ps2.length by omega);rw [g1,g2];have h1:=e3 i _ g1;have h2:=f3 i _ g2;have h3:Rdy (withK h k) i↔Rdy h i:=⟨λz=>z.withK h.Sf,λz=>z.withK k⟩
   rw [h3,<- h1] at h2
   congr 1
   exact Bool.eq_iff_iff.2 h2
  ·rw [ym (by omega),ym (by omega)]
 have hk2:k2=k:=e4.twice f4 e2 hps;subst hk2;obtain ⟨r,h1,h2,h3⟩:=DJ hS hI e2 e3 e4 (ry (k:=k2) (by omega) x);refine ⟨k2,kin k2 1 k2.RT.length,r,?_,?_,?_,h2,p8 Dq (by omega),h3,e4.stay e2,e4.1⟩
 ·unfold vB;rw [e1];simp only [zbs];show (xJ k2).bind _=_;rw [lj (by omega)];rfl
 ·unfold xi;rw [f1];exact h1
 ·unfold xi;rw [e1];exact h1
theorem Lg{rs:List Int}{h1:za}{r:Int×Bool×za}(hr:if r.2.1 then r.1∈rs else rs=[])(hl:rs.length<=64):jL (aR (rs,h1) r) (λ(s:Bool)=>s) rs.length 0 (!r.2.1)=some true:=by
 refine OK.is (g8 (λi s=>s=true\/(r.2.1=true/\r.1∉rs.take i)) ?_ (λi s again hi hI ha=> ?_) (λs hs=> ?_))
 ·cases h:r.2.1<;>simp
 ·unfold aR;refine d5 (λ_=>ha _ (.inl rfl)) (λhs=> ?_);refine f9 (i7 hi λx hx=>ha _ ?_);rcases hI with e|⟨e1,e2⟩
  ·rw [hs] at e;cases e
  ·by_cases e:x=r.1
   ·exact .inl (by simp [e])
   ·refine .inr ⟨e1,?_⟩;rw [ng hx]
    grind
 ·rcases hs with e|⟨e1,e2⟩
  ·exact e
  ·rw [e1,d7 rfl] at hr;rw [List.take_length] at e2;exact absurd hr e2
theorem tO{P:Nat}(hS:bS c ss)(p0:jd):∀(m i n:Nat)(h:za),i+m=p0.SL.length->HR c ss P n h->∃n' h',HR c ss P n' h'/\
  jL (xW 2199023255552 p0.SL) (λ(s:za)=>s) m i h=some h'/\jL (xa 2199023255552 p0) (λ(s:za×Int)=>(.inl (s.1,s.2))) m i (h,(n:Int))=some (.inl (h',(n':Int)))
 |0,i,n,h,_,hR=>⟨n,h,hR,rfl,rfl⟩
 |m+1,i,n,h,hm,hR=>by
  have hg:=zeg (show i<p0.SL.length by omega);obtain ⟨k,rs,r,h1,h2,h3,h4,h5,h6,_⟩:=wh hS hR.inv p0.SL[i];obtain ⟨hR2,_⟩:=Fz hS hR h4;obtain ⟨n',h',hR3,h7,h8⟩:=tO hS p0 m (i+1) _ r.2.2 (by omega) hR2;refine ⟨n',h',hR3,?_,?_⟩
  ·show xW _ _ i _ h=_;unfold xW;rw [zT hg];simp only [zbs,h3];exact h7
  ·show xa _ _ i _ (h,(n:Int))=_;unfold xa;have hb:=hR.left;have ht:=hR.UD;simp only [h1,zT hg,zbs,h2];rw [d8 (by cases hr:r.2.1<;>rw [hr] at h6<;>grind),Lg h6 h5];simp only [zbs];rw [d8 (by simp)];cases hr:r.2.1 with
   |true=>
    rw [hr] at h8;rw [d7 rfl,qp (by omega) (by omega)];exact h8
   |false=>
    rw [hr] at h8;rw [d8 (by simp)];exact h8
theorem FA{P:Nat}(hS:bS c ss):∀(m f n:Nat)(h:za),phi h<=m->m+2<=f->HR c ss P n h->∃n' h',HR c ss P n' h'/\(∀t,¬ Rdy h' t)/\(∀k∈h'.or,k.waits=false/\k.Su=k.Sv.length)/\(∀w∈h'.LT,w.RP.RX=0)/\
  loop (jK 2199023255552) f (h,true)=some h'/\loop (jB 2199023255552) f (h,(n:Int),true)=some (h',(n':Int))
 |m,0,n,h,_,hf,hR=>by omega
 |m,f+1,n,h,hm,hf,hR=>by
  obtain ⟨r,h1,h2⟩:=Ih hS hR.inv;obtain ⟨hR2,hp⟩:=Fz hS hR h2;have hb:=hR.left;have ht:=hR.UD;cases hr:r.2.1 with
  |true=>
   rw [hr] at hR2;have hp:=hp hr;obtain ⟨n',h',g1,g2,g3,g4,g5,g6⟩:=FA hS (m-1) f (n+1) r.2.2 (by omega) (by omega) hR2;refine ⟨n',h',g1,g2,g3,g4,?_,?_⟩
   ·show jK _ _ (h,true)=_;unfold jK;simp only [o8,h1,zbs,hr];exact g5
   ·show jB _ _ (h,(n:Int),true)=_;unfold jB;simp only [o8,h1,zbs,hr];rw [qp (by omega) (by omega)];exact g6
  |false=>
   rw [hr] at hR2;cases h2 with
   |none k hno hst htn e=>
    subst e;obtain ⟨g1,g2,g3⟩:=hR.more.rest hS hR.inv hno;refine ⟨n,_,hR2,λt z=>g1 t (z.withK h.Sf),g2,g3,?_,?_⟩
    ·show jK _ _ (h,true)=_;unfold jK;simp only [o8,h1,zbs];obtain ⟨f,rfl⟩:∃g,f=g+1:=⟨f-1,by omega⟩
     rfl
    ·show jB _ _ (h,(n:Int),true)=_;unfold jB;simp only [o8,h1,zbs];obtain ⟨f,rfl⟩:∃g,f=g+1:=⟨f-1,by omega⟩
     rfl
   |one k t x h' hrd hst htn hx hm hv e=>subst e;cases hr
theorem Stp.idle(hno:∀t,¬ Rdy h t){r:Int×Bool×za}(hr:Stp h r):∃k,r=(0,false,withK h k):=by
 cases hr with
 |none k _ _ _ e=>exact ⟨k,e⟩
 |one k t x h' hrd=>exact absurd hrd (hno t)
theorem FB{P:Nat}(hS:bS c ss)(l:List Int):∀(m i n:Nat)(h:za),i+m=l.length->HR c ss P n h->(∀t,¬ Rdy h t)->∃k,HR c ss P n (withK h k)/\jL (xW 2199023255552 l) (λ(s:za)=>s) m i h=some (withK h k)
 |0,i,n,h,_,hR,_=>⟨h.Sf,hR,rfl⟩
 |m+1,i,n,h,hm,hR,hno=>by
  have hg:=zeg (show i<l.length by omega);obtain ⟨r,h1,h2⟩:=DK hS hR.inv l[i];obtain ⟨hR2,_⟩:=Fz hS hR h2;obtain ⟨k,rfl⟩:=h2.idle hno;obtain ⟨k2,g1,g2⟩:=FB hS l m (i+1) n (withK h k) (by omega) hR2 (λt z=>hno t (z.withK h.Sf));refine ⟨k2,g1,?_⟩;show xW _ _ i _ h=_;unfold xW;rw [zT hg];simp only [zbs,h1];exact g2
end
open Go.Sx
variable {c:zN} {ss:List (List zF)} {n a b d:Nat} {h:za}
theorem tP{α:Type}{f:α->Nat}{k:Nat}:∀{l:List α},(∀x∈l,f x<=k)->gw f l<=l.length*k
 |[],_=>by simp [gw]
 |x::l,hl=>by
  have h1:=hl x zcs;have h2:=tP λy hy=>hl y (zcm _ hy)
  rw [t7,v5];show f x+gw f l<=_;omega
theorem N2(hb:OC c ss h):HR c ss (phi h) 0 h:=by
 obtain ⟨hI,_,_⟩:=KF hb;have b1:=hb.hk;have b2:=hb.wk;have b3:=hb.sh;have b4:=hb.cl;have b5:=hb.sl;obtain ⟨r,os,rs,w0,hw0,hr,r1,r2,r3,r4,r5,⟨ho1,ho2⟩,⟨hr1,hr2⟩,rfl⟩:=hb.is;obtain ⟨w1,e1,hJ,m0,k0⟩:=WJ.new (H:=c.Sh.toNat) (K:=c.Maps.length) (by omega);rw [hw0] at e1;obtain rfl:=j6 e1
 have hm:∀{i:Nat} {x:qm},(List.replicate (ss.length+c.RR.toNat+c.RZ.toNat+1) (qm.mk 0 0))[i]? =some x->x.RX=0:=λhx=>by
  rw [z4 (zmg hx)]
 have hw:∀{j:Nat} {w:zH},(List.replicate c.RR.toNat (nS w0))[j]? =some w->w=nS w0/\j<c.RR.toNat:=λhx=>⟨z4 (zmg hx),by have:=(zes.1 hx).1;simpa using this⟩
 have ho:∀o∈os,o.RW=[]/\o.RY=false:=λo h=>by
  obtain ⟨i,hi⟩:=q9 h;have:=ho2 i o hi;exact ⟨this.2.1,this.2.2.1⟩
 refine ⟨hI,⟨⟨λp x hx=>by rw [r3.1] at hx;simp [jz] at hx,λi u hu hv=> ?_⟩,(λt x _ hx e=>by have:=hm hx;omega),(λj w x _ hx e=>by have:=hm hx;omega),(λi o x _ hx e=>by have:=hm hx;omega),(λx hx e=>by have:=hm hx;omega),(λj w hw' m _=> ?_),(λz=>by cases z),(λj w hw' _=> ?_),(λo h e=>(ho o h).1),(λz=>by cases z)⟩,by omega,rfl,?_⟩
 ·have:=r3.2 u (zmg hu);omega
 ·rw [(hw hw').1] at m;have m:w0.RX=3:=m;omega
 ·show r.Sg.in_[j]? =_;rw [r5,List.getElem?_replicate,d7 (hw hw').2]
 ·have h1:gw (wg os.length) (ss.map CI)<=(ss.map CI).length*(64*794):=tP λk hk=>by
   obtain ⟨s,hs,rfl⟩:=yn.1 hk
   have h1:gw (BW os.length) s<=s.length*794:=tP λx _=>by
    unfold BW;split<;>omega
   have h2:=b5 s hs;have h3:wg os.length (CI s)=gw (BW os.length) s:=rfl;have h4:s.length*794<=64*794:=o9 _ h2;omega
  have h2:gw CN (List.replicate c.RR.toNat (nS w0))<=(List.replicate c.RR.toNat (nS w0)).length*1:=tP λw hw'=>by
   rw [z4 hw'];unfold CN nS;simp [m0]
  have h3:gw ul os<=os.length*1:=tP λo h=>by
   have:=ho o h;unfold ul;rw [this.1];split<;>simp
  have h4:gw (λr:zt=>770*r.waiting.length) rs=0:=BV λr hr'=>by rw [(hr2 r hr').2.1];rfl
  rw [q7] at h1;rw [Rz] at h2;unfold phi;simp only [h4,ye];have:ss.length*(64*794)<=4*(64*794):=o9 _ b4.2;split<;>omega
theorem I1{P:Nat}(hS:bS c ss)(hR:HR c ss P n h)(hno:∀t,¬ Rdy h t)(l:List Int):∃k,HR c ss P n (withK h k)/\xI 2199023255552 h l=some (0,withK h k):=by
 obtain ⟨k,hR2,h1⟩:=FB hS l l.length 0 n h (by omega) hR hno;obtain ⟨r,h2,h3⟩:=Ih hS hR2.inv;obtain ⟨hR3,_⟩:=Fz hS hR2 h3;obtain ⟨k2,rfl⟩:=Stp.idle (h:=withK h k) (λt z=>hno t (z.withK h.Sf)) h3;refine ⟨k2,hR3,?_⟩;unfold xI aL;simp only [zbs];rw [h1];simp only [zbs]
 have:loop (jK 2199023255552) 2199023255552 (withK h k,true)=some (withK h k2):=by
  show jK 2199023255552 (λs=>loop (jK 2199023255552) 2199023255551 s) (withK h k,true)=_;unfold jK;simp only [o8,h2,zbs];rfl
 rw [this];simp only [zbs];have e1:=hR.turn;have e2:=hR3.turn;simp only [zfe,w6] at e2;rw [e1];have e2:k2.LE=n:=e2;rw [show (withK h k2).Sf.LE=n from e2,Int.sub_self];rfl
theorem GA(l:List zp):aQ l l=some true:=by
 unfold aQ;rw [d8 (by simp)]
 obtain ⟨o,h1,h2⟩:OK (jL (dr l l) (λ(s170:Unit)=>(.inl ())) l.length 0 ()) (λo=>o=Sum.inl ()):=by
  refine g8 (λi _=>True) trivial (λi s again hi hI ha=> ?_) (λs hs=>rfl);unfold dr;refine f9 (i7 hi λx hx=> ?_);rw [zT hx]
  grind
 rw [h1,h2];rfl
theorem BX(l:List zx)(hl:∀x∈l,x.SD.length<=16):vC 2199023255552 l l=some true:=by
 unfold vC;rw [d8 (by simp)]
 obtain ⟨o,h1,h2⟩:OK (jL (bR 2199023255552 l l) (λ(s:Unit)=>(.inl ())) l.length 0 ()) (λo=>o=Sum.inl ()):=by
  refine g8 (λi _=>True) trivial (λi s again hi hI ha=> ?_) (λs hs=>rfl);unfold bR;have hx:=zeg hi;have hn:=hl _ (yb hi);rw [zT hx];simp only [zbs];rw [d8 (by simp),d8 (by simp),d8 (by simp),GA];simp only [zbs];refine j7 rfl ?_
  obtain ⟨o,h1,rfl⟩:=lu (body:=bQ l l i) (λm s=>∃k:Nat,s=(k:Int)/\k+m=l[i].SD.length) (λo=>o=Sum.inl ()) (λm s again hI ha=>by
   obtain ⟨k,rfl,e2⟩:=hI;unfold bQ;rw [zT hx];simp only [zbs];by_cases hk:k<l[i].SD.length
   ·rw [d7 (by simpa using hk),mi hk];simp only [zbs];rw [d8 (by simp),qp (by omega) (by omega)];exact ha (m-1) _ (by omega) ⟨k+1,by omega,by omega⟩
   ·rw [d8 (by simpa using hk)];exact ⟨_,rfl,rfl⟩) 2199023255552 l[i].SD.length 0 (by omega) ⟨0,rfl,by omega⟩
  rw [h1];exact ha _ trivial
 rw [h1,h2];rfl
theorem hostTurns_law(p0:jd)(h1:p0.C.Maps.length*16<=140737488355328)(h2:p0.SO.length*24<=140737488355328)(h3:∀x∈p0.SO,x.length<=1099511627776)(hf:∀s∈p0.SO,∀c∈s,Fit c):xb 2199023255552 p0=some true:=by
 refine OK.is ?_;unfold xb;rw [KP];simp only [zbs];refine j7 rfl ?_;rw [KG h1];simp only [zbs];rw [Gd h2 h3 hf (λx hx=>by have:=h3 x hx;omega)];simp only [zbs];rcases Dw (fu:=2199023255552) (by omega) p0.C p0.SO hf with ⟨e,hn,he⟩|⟨h,hn,hb⟩
 ·rw [hn];simp only [zbs,aa];exact b9 (by simpa using he)
 rw [hn];simp only [zbs,aa];have hS:=hb.shape hf;have hR:=N2 hb;obtain ⟨n1,g1,hR1,a1,a2⟩:=tO hS p0 p0.SL.length 0 0 h (by omega) hR;have a2:jL (xa 2199023255552 p0) (λ(s:za×Int)=>(.inl (s.1,s.2))) p0.SL.length 0 (h,0)=some (.inl (g1,(n1:Int))):=a2;obtain ⟨n2,g2,hR2,hno,hcl,_,b1,b2⟩:=FA hS (phi g1) 2199023255552 n1 g1 (m6 _) (by have:=hR1.left;have:=hR1.UD;omega) hR1;rw [a2];simp only [zbs];rw [b2];simp only [zbs]
 have hrun:xI 2199023255552 h p0.SL=some ((n2:Int),g2):=by
  unfold xI aL;simp only [zbs];rw [a1];simp only [zbs];rw [b1];simp only [zbs];rw [hR.turn,hR2.turn];have:=hR2.left;have:=hR2.UD;rw [qp (by omega) (by omega)];simp
 rw [hrun];simp only [zbs];obtain ⟨k,rs,r,c1,_,_,c4,_,c6,c7,c8⟩:=wh hS hR2.inv 0;obtain ⟨k1,rfl⟩:=c4.idle hno;obtain rfl:rs=[]:=c6;have hR3:HR p0.C p0.SO (phi h) n2 (withK g2 k):=⟨hR2.inv.withK c7.1,hR2.more.withK c7,hR2.left,c8.trans hR2.turn,hR2.UD⟩
 obtain ⟨k2,hR4,hrun2⟩:=I1 hS hR3 (λt z=>hno t (z.withK g2.Sf)) p0.SL
 have hmid:(if ((n2:Int) !=(n2:Int))=true then some (g2,true) else
   (vZ g2).bind λr1026=>(vZ g2).bind λr1034=>(vP r1026 r1034).bind λr1042=>
    if (!r1042)=true then some (g2,true) else (vB g2).bind λr1047=>if (((r1047.1).length:Int) !=0)=true then some (r1047.2,true) else
     (xI 2199023255552 r1047.2 p0.SL).bind λr1057=>some (r1057.2,(r1057.1 !=0)))=some (withK g2 k2,false):=by
  rw [d8 (by simp),PF hR2.inv];simp only [zbs];rw [Ii];simp only [zbs];rw [d8 (by simp),c1];simp only [zbs];rw [d8 (by simp),hrun2];rfl
 rw [hmid];simp only [zbs];refine j7 rfl ?_
 obtain ⟨o,d1,d2⟩:OK (jL (aS 2199023255552 p0 (g2,(n2:Int)) (withK g2 k2,false)) (λ(s1456:Unit)=>(.inl ())) p0.SO.length 0 ()) (λo=>o=Sum.inl ()):=by
  refine g8 (λi _=>True) trivial (λi s again hi hI ha=> ?_) (λs hs=>rfl);have hg:=zeg (show i<g2.or.length by rw [hR2.inv.cl];exact hi)
  obtain ⟨s,hs,hc⟩:=hR2.inv.at hg;obtain ⟨_,e1⟩:=hcl _ (zmg hg);have e2:=hc.Uq;have e3:=hc.Sv;unfold aS;rw [show jq (withK g2 k2) (i:Int)=_ from uX hS hR4.inv hg];simp only [zbs];rw [zT hs];simp only [zbs];rw [d8 (by rw [<- e3];simp;omega),uX hS hR2.inv hg];simp only [zbs];rw [BX _ λx hx=>(hc.done x hx).1];simp only [zbs];exact j7 rfl (ha _ trivial)
 rw [d1,d2];exact b9 rfl
end Go.Proofs.YtplmgfkghomelaaGreatDoor.KH
namespace Go.Proofs.YtplmgfkghomelaaGreatDoor
open Go.Sx
theorem KH.lit_u64{n:Int}(h:(Lit.int .u64 n).wf=true):u64 n:=by
 simp only [Lit.wf,zae,zdq] at h;exact ⟨h.1,Int.lt_of_le_of_lt h.2 (by decide)⟩
theorem KH.fitG{x:zF}(h:sI x):KH.Fit x:=by
 have h2:reachBytes<=140737488355328:=by decide
 obtain ⟨_,gi,⟨gl,gm⟩,_,_,_,ge,⟨gb,_⟩⟩:=h;exact ⟨by omega,by omega,⟨KH.lit_u64 ge.1,KH.lit_u64 ge.2⟩,KH.lit_u64 gi.2.2.2,λi hi=>KH.lit_u64 (gm i hi).2.2.2⟩
theorem uB(p0:jd)(g0:gN p0):∃fu,xb fu p0=some true:=by
 have h2:reachBytes<=140737488355328:=by decide
 obtain ⟨gc,⟨gs,gx⟩,_⟩:=g0;have gm:=gc.2.2.2.2.1;exact ⟨2199023255552,KH.hostTurns_law p0 (by omega) (by omega) (λx hx=>by have:=(gx x hx).1;omega) (λs hs c hc=>KH.fitG ((gx s hs).2 c hc))⟩
end Go.Proofs.YtplmgfkghomelaaGreatDoor
