/- Lemmas. -/
import Derived.Test.YtplmgfkghomelaaGreatDoorKH12
set_option linter.all false
namespace Go.Proofs.YtplmgfkghomelaaGreatDoor.KH
open Go.Sx
variable {h h':za}{c:zH}{f:List (List zO)}{n j a A i:Nat}{x:qr}{α:Type}{o w' B:zz}{e:Int}{l:List zB}{d:zb}{r:zr}{m:List zr}{q:List Int}
def BV(h:za)(d:zb)(k:zo)(w:List zz)(os:List zc)(r:List zr)(e:zd):za:=
 {h with Fn:=d,SD:=k,LE:=w,Fd:=os,rings:=r,SH:=h.SH++[e]}
def QG(r:zb)(k:zE):zb:={r with SC:=k}
def inW(w:zz)(W:zl):zz:={w with LT:=W}
def pf(w t:Int)(e h prog a p:Int)(i:zg)(r:zk)(v:Int):zd:=⟨w,t,0,0,0,e,h,prog,a,p,i,r,v,0⟩
inductive WMv (h:za) (j:Nat) (w:zz) (t:Nat):za->Prop
 | ends (x : qr) : w.LT.Su = 0 -> h.Sk = true -> h.SD.Sn[t]? = some x -> x.Su ≠ 2 ->
   WMv h j w t (BV h h.Fn (NF h.SD t x) (h.LE.set j {w with Sv:=true}) h.Fd h.rings (Hk t))
 | take (i : Nat) (r r' : zr) (q : zZ) (qs : List zZ) (cur : Int) : w.LT.Su = 0 -> h.Sk = false -> h.rings[i]? = some r -> r.waiting = q :: qs -> va r h.Ti = some (q, true, r') -> 0 <= cur -> cur < h.rings.length ->
   WMv h j w t (BV h h.Fn h.SD (h.LE.set j ⟨⟨w.LT.Tg,w.LT.Tz,1,⟨i,q,0,0,0,none⟩⟩,cur,w.pc,w.Tw,w.Sv⟩) h.Fd (h.rings.set i r') (pf 5 t q.N i 0 0 0 ol BQ 0))
 | skip (st : zR) (v p : Int) : w.LT.Su = 1 -> jn h.Fn.SF w.LT.SX.hook = some (v, p, false) -> xG w.LT = some (0, ⟨w.LT.Tg, st, 0, ⟨0, ⟨0, ⟨0, 0⟩⟩, 0, 0, 0, none⟩⟩) ->
   WMv h j w t (BV h h.Fn h.SD (h.LE.set j (inW w ⟨w.LT.Tg,st,0,⟨0,⟨0,⟨0,0⟩⟩,0,0,0,none⟩⟩)) h.Fd h.rings (pf 9 t w.LT.SX.Te.N w.LT.SX.hook 0 0 0 ol BQ 0))
 | enter (v p : Int) (m : zD) (b : Bool) (e1 e2 : Int) (ck : zE) (e : Int) (W' : zl) : w.LT.Su = 1 -> jn h.Fn.SF w.LT.SX.hook = some (v, p, true) -> qR h.Fn p = some (m, b) ->
   vj h.Fn.SC j=some (e1,e2,ck)->jU 2199023255552 w.LT v p m=some (e,W')->
   WMv h j w t (BV h (QG h.Fn ck) h.SD (h.LE.set j (inW w W')) h.Fd h.rings (pf 6 t w.LT.SX.Te.N w.LT.SX.hook p v 0 ol BQ 0))
 | note (a : qT) (W' : zl) : w.LT.Su = 2 -> qz 2199023255552 w.LT = some (a, true, W') -> a.Sm = 3 ->
   WMv h j w t (BV h h.Fn h.SD (h.LE.set j (inW w W')) h.Fd h.rings (pf 8 t w.LT.SX.Te.N 0 w.LT.SX.prog w.LT.SX.SL a.Pc ol BQ a.Tp))
 | ask (a : qT) (W' : zl) : w.LT.Su = 2 -> qz 2199023255552 w.LT = some (a, true, W') -> a.Sm = 2 ->
   WMv h j w t (BV h h.Fn h.SD (h.LE.set j {w with LT:=W',pc:=a.Pc}) (oF h.Fd (ig a.Item.Ts h.Fd.length,⟨t,0,false,a.Item⟩)) h.rings (pf 16 t w.LT.SX.Te.N 0 w.LT.SX.prog w.LT.SX.SL a.Pc a.Item BQ a.Tp))
 | done (a : qT) (W' : zl) (e1 : Int) (ck : zE) : w.LT.Su = 2 -> qz 2199023255552 w.LT = some (a, true, W') -> a.Sm = 4 -> vk h.Fn.SC [(j : Int)] = some (e1, ck) ->
   WMv h j w t (BV h (QG h.Fn ck) h.SD (h.LE.set j (inW w W')) h.Fd h.rings (pf 9 t w.LT.SX.Te.N w.LT.SX.hook w.LT.SX.prog w.LT.SX.SL a.Pc ol BQ a.Tp))
 | ran (a : qT) (W' : zl) : w.LT.Su = 2 -> qz 2199023255552 w.LT = some (a, true, W') -> a.Sm = 1 ->
   WMv h j w t (BV h h.Fn h.SD (h.LE.set j (inW w W')) h.Fd h.rings (pf 7 t w.LT.SX.Te.N 0 w.LT.SX.prog w.LT.SX.SL a.Pc ol BQ a.Tp))
 | back (r : zk) (W' : zl) : w.LT.Su = 3 -> w.Tw = some r -> xh w.LT r = some (0, W') ->
   WMv h j w t (BV h h.Fn h.SD (h.LE.set j {w with LT:=W',Tw:=none}) h.Fd h.rings (pf 17 t w.LT.SX.Te.N 0 w.LT.SX.prog w.LT.SX.SL w.pc ol r 0))
theorem NI(hl:h.rings.length=n)(B:1<=n/\n<=4)(C:0<=o.Tb)(D:o.Tb<n){g:zr}(a:h.rings[j]? =some g)(q:g.waiting≠ []):
  ∃(i:Nat)(r:zr),loop (cI h) 2199023255552 o=some {o with Tb:=(i:Int)}/\h.rings[i]? =some r/\r.waiting≠ []:=by
 have t:=(zes.1 a).1
 obtain ⟨s,e,i,r,rfl,E,F⟩:=lF (body:=cI h) (λm s=>∃c:Nat,s={o with Tb:=(c:Int)}/\c<n/\m=if c<=j then j-c else j+n-c) (λs=>∃(i:Nat)(r:zr),s={o with Tb:=(i:Int)}/\h.rings[i]? =some r/\r.waiting≠ []) (λm s b u k=>by
  obtain ⟨c,rfl,G,I⟩:=u;unfold cI;have d:c<h.rings.length:=by omega
  have l:=zeg d;rw [zV l];simp only [zbs];obtain ⟨v,f,w⟩:=nP h.rings[c];rw [f];simp only [zbs];by_cases p:v.Tx=0
  ·rw [d8 (by simp [p])]
   have x:c≠j:=λe=>by
    subst e;rw [l] at a;obtain rfl:=j4 a;rw [w] at p;exact q (Sh.1 (by omega))
   have y:nz (h.rings.length:Int)=some ():=by grind [nz]
   rw [y,zbs,qo (by omega) (by omega)];by_cases z:c+1<n
   ·rw [Int.tmod_eq_of_lt (by omega) (by omega)];refine k (if c+1<=j then j-(c+1) else j+n-(c+1)) _ ?_ ⟨c+1,rfl,z,rfl⟩
    grind
   ·have:c+1=n:=by omega
    have A:(c:Int)+1=(h.rings.length:Int):=by omega
    rw [A,Int.tmod_self];refine k j _ ?_ ⟨0,rfl,by omega,by grind⟩
    grind
  grind) 2199023255552 (if o.Tb.toNat<=j then j-o.Tb.toNat else j+n-o.Tb.toNat) o (by split<;>omega) ⟨o.Tb.toNat,by rw [show ((o.Tb.toNat:Nat):Int)=o.Tb by omega],by omega,rfl⟩
 grind
theorem Gg{t:zx}(h:0<=e)(a:e<t.Sz.length):∃v p b,jn t e=some (v,p,b):=by
 obtain ⟨x,c,_⟩:=oX (xs:=t.Sz) h a;unfold jn jg jh;have d:(decide (e>=0)&&decide (e<(t.Sz.length:Int)))=true:=by grind
 rw [d,c];simp only [zbs,Bool.not_true,zfe,x4];cases decide (x.SL>0) with
 |true=>exact ⟨_,_,_,rfl⟩
 |false=>exact ⟨_,_,_,rfl⟩
theorem HI.hooks4(a:aR c f)(b:HI c f n h):h.rings.length=c.SA.toNat/\1<=c.SA.toNat/\c.SA.toNat<=4:=by
 have d:=b.rg;have e:=a.hk;omega
theorem HI.module(e:HI c f n h)(p:Int):∃m b,qR h.Fn p=some (m,b)/\m.Maps.length*8<=140737488355328/\m.Code.length*40<=140737488355328/\∀x∈m.Maps,x<(c.Maps.length:Int):=by
 have i:=Co e.Ty p;cases g:jA h.Fn.SG p with
 |none=>
  grind
 |some x=>
  rw [g] at i;obtain ⟨_,_,a,b,d,_⟩:=e.Ty.prog p x g;have j:=a.2.2
  grind
theorem NJ(J:aR c f)(g:HI c f n h){t:Nat}{w:zz}(P:h.LE[j]? =some w)(ht:t=h.or.length+j)
  (U:w.LT.Su=0->w.Sv=false/\(h.Sk=true\/∃r∈h.rings,r.waiting≠ [])) (V:w.LT.Su=3->w.Tw.isSome=true) {x:qr} (hk:h.SD.Sn[t]? =some x) (hm:x.Su≠2):
  OK (du 2199023255552 h (t:Int)) (WMv h j w t):=by
 have hjl:=(zes.1 P).1;have hcl:=g.cl;have hcr:=g.crn J;have hSc:=J.cl;have hSw:=J.wk;have hlog:=g.logb;obtain ⟨X,z,s⟩:=g.hooks4 J;have K:=g.crew w (zmg P);have u:=K.SX;have d:∀e:zd,room (h.SH.length+[e].length) 176=some ():=λe=>xR (by grind)
 unfold du zW xo jN vR;simp only [zbs];have Y:w64 ((t:Int)-(h.or.length:Int))=(j:Int):=by grind [qo]
 rw [Y,zV P];simp only [zbs,k8];rcases u.is with L|I|⟨y,_⟩|⟨A,_⟩
 ·refine m9 (by simp [L]) ?_;refine d5 (λB=> ?_) (λB=> ?_)
  ·rw [d];simp only [zbs];rw [oq hk hm];simp only [zbs];exact b9 (.ends x L B hk hm)
  ·obtain ⟨_,Q⟩:=U L;rcases Q with Q|⟨r0,Q,C⟩
   ·grind
   obtain ⟨i0,Z⟩:=p9 Q;obtain ⟨i,r,e3,R,e5⟩:=NI X ⟨z,s⟩ K.cur.1 K.cur.2 Z C;have hil:=(zes.1 R).1;rw [e3];simp only [zbs];rw [zV R];simp only [zbs];have M:=g.ring r (zmg R);cases D:r.waiting with
   |nil=>exact absurd D e5
   |cons q qs=>
    obtain ⟨r',t1,t2,t3,t4⟩:=mA M.1 h.Ti D;rw [t1];have hz:nz (h.rings.length:Int)=some ():=by grind [nz]
    simp only [zbs];rw [hz];simp only [zbs];rw [(P8 u s L (k:=(i:Int)) (by omega) (by omega) (M.2 q (by grind))).1];simp only [zbs];rw [d];simp only [zbs,k8]
    have h5:0<=(w64 ((i:Int)+1)).tmod (h.rings.length:Int)/\(w64 ((i:Int)+1)).tmod (h.rings.length:Int)<h.rings.length:=by
     rw [qo (by omega) (by omega)];exact ⟨Int.tmod_nonneg _ (by omega),Int.tmod_lt_of_pos _ (by omega)⟩
    exact b9 (.take i r r' q qs _ L B R D t1 h5.1 h5.2)
 ·refine j6 (by simp [I]) ?_;refine m9 (by simp [I]) ?_;have hhl:=g.Ty.hl;obtain ⟨v,p,b,E⟩:=Gg (t:=h.Fn.SF) u.hook.1 (by have:=u.hook.2;omega);rw [E];simp only [zbs];cases b with
  |false=>
   refine m9 rfl ?_;obtain ⟨st,s1,s2⟩:=P9 u z s I;rw [s1];simp only [zbs];rw [d];simp only [zbs];exact b9 (.skip st v p I E s1)
  |true=>
   refine j6 rfl ?_;obtain ⟨m,b,N,hm2,hm3,hm4⟩:=g.module p;rw [N];simp only [zbs];obtain ⟨⟨e1,Y,ck⟩,F,_⟩:=AG g.Ty (j:Int);rw [F];simp only [zbs];obtain ⟨e,W,hE,_⟩:=B8 u I hm2 hm3 hm4 v p;rw [hE];simp only [zbs];rw [d];simp only [zbs];exact b9 (.enter v p m b e1 Y ck e W I E N F hE)
 ·refine j6 (by simp [y]) ?_;refine j6 (by simp [y]) ?_;refine m9 (by simp [y]) ?_;obtain ⟨a,W,l,hWJ,hWS⟩:=IA z s u y;rw [l];simp only [zbs];have O:=g.own;have hb:=g.Tv;rcases hWS with ⟨S,_⟩|⟨k2,_,_,_,_,_,⟨g1,g2,g3,g4,g5,g6⟩,_⟩|⟨k13,_⟩
  ·refine j6 (by simp [S]) ?_;refine j6 (by simp [S]) ?_;refine m9 (by simp [S]) ?_;obtain ⟨⟨e1,ck⟩,F,_⟩:=AI g.Ty (j:Int);rw [F];simp only [zbs];rw [d];simp only [zbs];exact b9 (.done a W e1 ck y l S F)
  ·refine j6 (by simp [k2]) ?_;refine m9 (by simp [k2]) ?_
   have C:∀o∈h.Fd,o.Sv=false:=λo ho=>by
    cases F:o.Sv with
    |false=>rfl
    |true=>
     have:=K.over ((g.TW o ho F).2 w (zmg P));omega
   obtain ⟨p,o,q1,q2,q3,q4,q5,q6⟩:=DK O J.sh C (r:=⟨(t:Int),0,false,a.Item⟩) g1 g2 ⟨g3,g4⟩ (by omega);have q2:av a.Item.Ts (h.Fd.length:Int)=some (p:Int):=q2;rw [q2];simp only [zbs];rw [q4];simp only [zbs];rw [q6];simp only [zbs];rw [d];simp only [zbs,k8];have:=WMv.ask (h:=h) (j:=j) (w:=w) (t:=t) a W y l k2;have q1:ig a.Item.Ts h.Fd.length=p:=q1
   have e7:oF h.Fd (p,⟨(t:Int),0,false,a.Item⟩)=h.Fd.set p (Mu o ⟨(t:Int),0,false,a.Item⟩):=by
    grind [oF]
   rw [q1,e7] at this;exact b9 this
  ·rcases k13 with T|k3
   ·refine j6 (by simp [T]) ?_;refine j6 (by simp [T]) ?_;refine j6 (by simp [T]) ?_;rw [d];simp only [zbs];exact b9 (.ran a W y l T)
   ·refine m9 (by simp [k3]) ?_;rw [d];simp only [zbs];exact b9 (.note a W y l k3)
 ·refine j6 (by simp [A]) ?_;refine j6 (by simp [A]) ?_;refine j6 (by simp [A]) ?_;refine m9 (by simp [A]) ?_;cases G:w.Tw with
  |none=>have:=V A;rw [G] at this;cases this
  |some r=>
   simp only [zbs];rw [d];simp only [zbs];obtain ⟨W,hA,_⟩:=kH u A (K.rep r G);rw [hA];simp only [zbs];exact b9 (.back r W A G hA)
open Go.Sx
theorem Io(h:∀x∈l,x.SR≠e):gy l e=0:=by
 grind [gy]
theorem HI.reg0(a:HI c f n h)(i:f.length<=j):lC h j=0:=by
 have k:∀x∈h.Sr++h.held,x.SR≠j:=λx b e=>by
  obtain ⟨⟨u,d,g⟩,_⟩:=a.call x b;omega
 obtain ⟨u,d,g⟩:=a.Sy
 grind [lC,Io]
theorem Ar(g:HI c f n h)(I:n+1<=100000000){w:zz}(N:h.LE[j]? =some w)(z:fF c.SA.toNat c.Maps.length c.Sl.toNat (n+1) d){k:zo}(J:k.Sn.length=h.SD.Sn.length)
  (A:BT c.SA.toNat c.Maps.length w') (K:w.Sv=true->w'.Sv=true) (B:w'.Sv=true->h.Sk=true)
  {os:List zc} (C:ww c (16*n+16) os) (D:∀(i:Nat) o,os[i]? =some o->∃l,h.Fd[i]? =some l/\l.Sv=o.Sv) (q:∀o∈os,∀r∈o.Sr,(∃l∈h.Fd,r∈l.Sr)\/(∃j:Nat,r.TJ=(h.or.length:Int)+j/\j<h.LE.length/\r.TQ=false))
  (m:∀u:Nat,u<h.or.length->eY os u=eY h.Fd u) {rs:List zr} (s:Ap c rs) (e:zd):HI c f (n+1) (BV h d k (h.LE.set j w') os rs e):=by
 have t:(∀w∈h.LE,w.Sv=true)->∀v∈h.LE.set j w',v.Sv=true:=λa v p=>by
  grind
 exact
 {Tv:=I
  SI:=g.SI
  cl:=g.cl
  cr:=by show ((h.LE.set j w').length:Int)=_;rw [j8];exact g.cr
  rg:=s.1
  Ty:=z
  ring:=s.2
  Uu:=g.Uu
  crew:=λv p=>by
   rcases q7 (show v∈h.LE.set j w' from p) with p|rfl
   ·exact g.crew v p
   ·exact A
  own:=C.mono (by omega)
  UA:=λo E r L=>by
   show Ao h.or (h.LE.set j w').length r;rw [j8];rcases q o E r L with ⟨l,x,F⟩|x
   ·exact g.UA l x r F
   ·exact .inr x
  TV:=λu G y=>by
   show G.SB=((eY os u+lC h u:Nat):Int)
   rw [m u (zes.1 y).1];exact g.TV u G y
  Ub:=λu=>by
   show lC h u=0\/lC h u=1/\eY os u=0;by_cases y:u<h.or.length
   ·rw [m u y];exact g.Ub u
   ·exact .inl (g.reg0 (by have:=g.cl;omega))
  call:=g.call
  Sy:=g.Sy
  Uc:=by show k.Sn.length=_;rw [J];exact g.Uc
  TW:=λo E e=>by
   obtain ⟨i,M⟩:=p9 (show o∈os from E);obtain ⟨l,x,F⟩:=D i o M;obtain ⟨a,b⟩:=g.TW l (zmg x) (by rw [F];exact e)
   exact ⟨a,t b⟩
  Ud:=λv p e=>by
   rcases q7 (show v∈h.LE.set j w' from p) with p|rfl
   ·exact g.Ud v p e
   ·exact B e
  Ua:=by
   show (h.SH++[e]).length<=_;have:=g.Ua
   grind
  Ux:=by have:=g.Ux;show h.Sr.length<=_;omega
  hel:=by have:=g.hel;show h.held.length<=_;omega}
theorem NK(hS:aR c f)(s:HI c f n h)(hn:n+1<=100000000)(Q:h.LE[j]? =some B)(ht:A=h.or.length+j)(hr0:B.LT.Su=0->B.Sv=false)(hv:WMv h j B A h'):HI c f (n+1) h':=by
 have hjl:=(zes.1 Q).1;obtain ⟨hr1,hr2,R⟩:=s.hooks4 hS;have F:=s.crew B (zmg Q);have S:=F.SX;have g:=s.Ty.mono (show n<=n+1 by omega) (by omega)
 have hne:B.Sv=false:=by
  cases M:B.Sv with
  |false=>rfl
  |true=>rw [hr0 (F.over M)] at M;cases M
 have w:∀{p:Prop},B.Sv=true->p:=λe=>by grind
 have G:=s.own.mono (show 16*n<=16*n+16 by omega);have D:∀o∈h.Fd,∀r∈o.Sr,(∃o'∈h.Fd,r∈o'.Sr)\/(∃j:Nat,r.TJ=(h.or.length:Int)+j/\j<h.LE.length/\r.TQ=false):=λo I r T=>.inl ⟨o,I,T⟩
 have t:∀{w':zz},BT c.SA.toNat c.Maps.length w'->w'.Sv=B.Sv->∀{d:zb},fF c.SA.toNat c.Maps.length c.Sl.toNat (n+1) d->∀e,HI c f (n+1) (BV h d h.SD (h.LE.set j w') h.Fd h.rings e):=λhw' M d hrg e=>
  Ar s hn Q hrg rfl hw' (λz=>by rw [M];exact z) (λz=>w (by rw [<- M];exact z)) G (λi o I=>⟨o,I,rfl⟩) D (λ_ _=>rfl) ⟨s.rg,s.ring⟩ e
 have J:∀{W:zl},WJ c.SA.toNat c.Maps.length W->BT c.SA.toNat c.Maps.length (inW B W):=λhW=>⟨hW,F.cur,F.rep,w⟩
 have K:∀{a:qT} {W:zl},B.LT.Su=2->qz 2199023255552 B.LT=some (a,true,W)->WJ c.SA.toNat c.Maps.length W/\B9 c.SA.toNat c.Maps.length B.LT a W:=λL C=>by
  grind [IA]
 cases hv with
 |ends x m0 U hk hm=>
  exact Ar s hn Q (k:=NF h.SD A x) (w':={B with Sv:=true}) g (by show (h.SD.Sn.set A _).length=_;rw [j8]) ⟨S,F.cur,F.rep,λ_=>m0⟩ (λ_=>rfl) (λ_=>U) G (λi o I=>⟨o,I,rfl⟩) D (λ_ _=>rfl) ⟨s.rg,s.ring⟩ _
 |take i r r' q qs cur m0 U hi hwt htk c0 c1=>
  have V:=s.ring r (zmg hi);have hil:=(zes.1 hi).1;obtain ⟨r2,t1,t2,t3,t4⟩:=mA V.1 h.Ti hwt;rw [htk] at t1;cases t1;have N:=P8 S R m0 (k:=(i:Int)) (by omega) (by omega) (V.2 q (by grind));refine Ar s hn Q (k:=h.SD) (w':=⟨⟨B.LT.Tg,B.LT.Tz,1,⟨i,q,0,0,0,none⟩⟩,cur,B.pc,B.Tw,B.Sv⟩) (rs:=h.rings.set i r') g rfl ⟨N.2,⟨c0,by grind⟩,F.rep,w⟩ w w G (λi o I=>⟨o,I,rfl⟩) D (λ_ _=>rfl) ⟨by grind,λy hy=> ?_⟩ _;rcases q7 hy with hy|rfl
  ·exact s.ring y hy
  grind
 |skip st v p m1 hcu hsk=>
  obtain ⟨st2,s1,s2⟩:=P9 S hr2 R m1;rw [hsk] at s1;cases s1;exact t (J s2) rfl g _
 |enter v p m b e1 e2 X e W m1 hcu hmo M hE=>
  obtain ⟨L,b2,Y,hm2,hm3,hm4⟩:=s.module p;rw [hmo] at Y;cases Y;obtain ⟨e3,W2,Z,O,_⟩:=B8 S m1 hm2 hm3 hm4 v p;rw [hE] at Z;cases Z;refine t (J O) rfl ?_ _;obtain ⟨⟨q1,q2,q3⟩,N,P⟩:=AG s.Ty (j:Int);rw [M] at N;cases N;rcases P with ⟨_,_,E⟩|⟨_,_,_,_,_,E⟩
  ·have E:X=h.Fn.SC:=E;subst E;exact g
  ·have E:X=⟨h.Fn.SC.TR,h.Fn.SC.in_.set ((j:Int)).toNat h.Fn.SC.TR⟩:=E;subst E;exact I0 s.Ty (by omega) _
 |note a W L C k3=>exact t (J (K L C).1) rfl g _
 |ran a W L C k1=>exact t (J (K L C).1) rfl g _
 |done a W e1 X L C k4 hlv=>
  refine t (J (K L C).1) rfl ?_ _;obtain ⟨⟨q1,q2⟩,N,P⟩:=AI s.Ty (j:Int);rw [hlv] at N;cases N;rcases P with ⟨_,E,_⟩|⟨_,_,_,E⟩
  ·have E:X=h.Fn.SC:=E;subst E;exact g
  ·have E:X=⟨h.Fn.SC.TR,h.Fn.SC.in_.set ((j:Int)).toNat 0⟩:=E;subst E;exact I1 s.Ty (by omega) _
 |ask a W L C k2=>
  obtain ⟨hW,hWS⟩:=K L C;rcases hWS with ⟨k4,_⟩|⟨_,_,_,_,_,_,⟨g1,g2,g3,g4,g5,g6⟩,_⟩|⟨k13,_⟩
  ·grind
  ·refine Ar s hn Q (k:=h.SD) (w':={B with LT:=W,pc:=a.Pc}) (os:=oF h.Fd (ig a.Item.Ts h.Fd.length,⟨A,0,false,a.Item⟩)) g rfl ⟨hW,F.cur,F.rep,w⟩ (λz=>z) w ((s.own.put g1 g2 (.inr ⟨g3,g4⟩) g6).mono (by omega)) (λi o I=>tH I) (λo I r T=> ?_) (λu hu=> ?_) ⟨s.rg,s.ring⟩ _
   ·rcases An (l:=[(ig a.Item.Ts h.Fd.length,⟨(A:Int),0,false,a.Item⟩)]) (os:=h.Fd) I T with h6|⟨x,hx,rfl⟩
    ·exact .inl h6
    grind
   ·obtain ⟨p,hp,hlt⟩:=Am (k:=a.Item.Ts) (n:=(h.Fd.length:Int)) (by rw [s.own.len];exact hS.sh.1) (by rw [s.own.len];exact hS.sh.2)
    grind [tD,ig]
  ·omega
 |back r W m3 T hA=>
  obtain ⟨W2,hA2,O,_⟩:=kH S m3 (F.rep r T);rw [hA] at hA2;cases hA2;exact t (w':={B with LT:=W,Tw:=none}) ⟨O,F.cur,λr e=>(by cases e),w⟩ rfl g _
open Go.Sx
theorem wy(hl:h.rings.length<=4):∃b,ve h=some b/\(b=true↔∃r∈h.rings,r.waiting≠ []):=by
 unfold ve;rw [xR (by omega),zbs]
 obtain ⟨o,j,d⟩:OK (jM (cX h) (λ(g:Unit)=>(.inl ())) (h.rings).length 0 ()) (λo=>match o with|.inl _=>∀r∈h.rings,r.waiting=[]|.inr b=>b=true/\∃r∈h.rings,r.waiting≠ []):=by
  refine g9 (λi _=>∀r∈h.rings.take i,r.waiting=[]) (by simp) (λi s f k l m=> ?_) (λs t=>by grind);unfold cX;refine f9 (i7 k λr c=> ?_);obtain ⟨u,n,v⟩:=nP r;rw [n];simp only [zbs];refine d5 (λe=>b9 ⟨rfl,r,zmg c,λz=> ?_⟩) (λe=>m _ λq a=> ?_)
  ·grind
  ·rw [mB c] at a;rcases g8.1 a with a|a
   ·exact l q a
   ·rw [i6.1 a];have e:=yv e;exact Sh.1 (by omega)
 rw [j];cases o with
 |inl _=>exact ⟨false,rfl,λz=>(by cases z),λ⟨r,c,p⟩=>absurd (d r c) p⟩
 |inr b=>exact ⟨b,rfl,λ_=>d.2,λ_=>d.1⟩
theorem wz(hl:h.LE.length<=4):∃b,vf h=some b/\(b=true↔∀w∈h.LE,w.LT.Su=0):=by
 unfold vf;rw [xR (by omega),zbs]
 obtain ⟨o,g,d⟩:OK (jM (cY h) (λ(f:Unit)=>(.inl ())) (h.LE).length 0 ()) (λo=>match o with|.inl _=>∀w∈h.LE,w.LT.Su=0|.inr b=>b=false/\∃w∈h.LE,w.LT.Su≠0):=by
  refine g9 (λi _=>∀w∈h.LE.take i,w.LT.Su=0) (by simp) (λi s c j n k=> ?_) (λs p=>by grind);unfold cY jN;refine f9 (i7 j λw a=> ?_);simp only [zbs];refine d5 (λe=>b9 ⟨rfl,w,zmg a,by simpa using e⟩) (λe=>k _ λq l=> ?_);rw [mB a] at l
  grind
 rw [g];cases o with
 |inl _=>exact ⟨true,rfl,λ_=>d,λ_=>rfl⟩
 |inr b=>
  obtain ⟨e,w,a,m⟩:=d;exact ⟨b,rfl,λz=>(by grind),λz=>absurd (z w a) m⟩
theorem tK(hl:h.LE.length<=4)(A:h.Fd.length<=4)(g:Bool):∃b,xF h g=some b/\(b=true↔(∀w∈h.LE,w.Sv=true)/\(g=true->∀o∈h.Fd,o.Sv=true)):=by
 unfold xF;rw [xR (by omega),zbs]
 obtain ⟨o,p,k⟩:OK (jM (bZ h) (λ(l:Unit)=>(.inl ())) (h.LE).length 0 ()) (λo=>match o with|.inl _=>∀w∈h.LE,w.Sv=true|.inr b=>b=false/\∃w∈h.LE,w.Sv=false):=by
  refine g9 (λi _=>∀w∈h.LE.take i,w.Sv=true) (by simp) (λi s a d r f=> ?_) (λs t=>by grind);unfold bZ;refine f9 (i7 d λw c=>d5 (λe=>b9 ⟨rfl,w,zmg c,by simpa using e⟩) (λe=>f _ λq j=> ?_));rw [mB c] at j
  grind
 rw [p];cases o with
 |inr b=>
  obtain ⟨e,w,c,u⟩:=k;exact ⟨b,rfl,λz=>(by grind),λz=>(by grind)⟩
 |inl _=>
  simp only [zbs];rw [xR (by omega),zbs]
  obtain ⟨o,v,m⟩:OK (jM (cd h g) (λ(n:Unit)=>(.inl ())) (h.Fd).length 0 ()) (λo=>match o with|.inl _=>g=true->∀o∈h.Fd,o.Sv=true|.inr b=>b=false/\g=true/\∃o∈h.Fd,o.Sv=false):=by
   refine g9 (λi _=>g=true->∀w∈h.Fd.take i,w.Sv=true) (by simp) (λi s a d r f=> ?_) (λs t=>by grind);unfold cd vg;refine f9 (i7 d λw c=> ?_);simp only [zbs];refine d6 (R:=λb=>b=(g&& !w.Sv)) (d5 (λe=>b9 (by simp [e])) (λe=>b9 (by simp [e]))) (λb x=> ?_);subst x;refine d5 (λe=>b9 ?_) (λe=>f _ λy q j=> ?_)
   ·grind
   ·rw [mB c] at j
    grind
  rw [v];cases o with
  |inl _=>exact ⟨true,rfl,λ_=>⟨k,m⟩,λ_=>rfl⟩
  |inr b=>
   obtain ⟨e,y,w,c,u⟩:=m;exact ⟨b,rfl,λz=>(by grind),λz=>(by grind)⟩
def Fin(h:za)(x:zB):Prop:=(x.cmd.Sm=8/\∀e∈h.Fn.SC.in_,e=0\/x.TX<=e)\/(x.cmd.Sm≠8/\(∀r∈h.rings,r.waiting=[])/\∀w∈h.LE,w.LT.Su=0)
theorem PX(c:h.rings.length<=4)(f:h.LE.length<=4)(l:h.Fn.SC.in_.length<=4)(x:zB):∃b,xl x h=some b/\(b=true↔Fin h x):=by
 unfold xl;by_cases a:x.cmd.Sm=8
 ·rw [d8 (by simp [a]),I2 _ _ (by omega),zbs];refine ⟨_,rfl,λe=>.inl ⟨a,yd e⟩,λe=> ?_⟩;rcases e with e|e
  ·grind
  grind
 ·rw [d7 (by simp [a])];obtain ⟨g,i,m⟩:=wy c;obtain ⟨n,j,d⟩:=wz f;rw [i,j];simp only [zbs];cases k:g with
  |true=>
   simp only [Bool.not_true,zfe,x4,zbs];refine ⟨_,rfl,λe=>(by cases e),λe=> ?_⟩;rcases e with e|e
   ·exact absurd e.1 a
   grind
  |false=>
   simp only [Bool.not_false,q9,zbs];refine ⟨_,rfl,λe=>.inr ⟨a,λr c=> ?_,d.1 e⟩,λe=> ?_⟩
   ·grind
   ·rcases e with e|e
    ·exact absurd e.1 a
    ·exact d.2 e.2.2
theorem pg(g:h.rings.length<=4)(j:h.LE.length<=4)(k:h.Fn.SC.in_.length<=4):∃i,xg h=some i/\((i= -1/\∀x∈h.held,¬ Fin h x)\/∃(a:Nat)(x:zB),i=(a:Int)/\h.held[a]? =some x/\Fin h x):=by
 unfold xg qg
 obtain ⟨o,t,u⟩:OK (jM (qw h.held h) (λ(d:Unit)=>(.inl ())) h.held.length 0 ()) (λo=>match o with|.inl _=>∀x∈h.held,¬ Fin h x|.inr i=>∃(a:Nat)(x:zB),i=(a:Int)/\h.held[a]? =some x/\Fin h x):=by
  refine g9 (λi _=>∀x∈h.held.take i,¬ Fin h x) (by simp) (λi s c l v m=> ?_) (λs w=>by grind);unfold qw;refine f9 (i7 l λx f=> ?_);obtain ⟨b,n,p⟩:=PX g j k x;rw [n,zbs];refine d5 (λe=>b9 ⟨i,x,rfl,f,p.1 e⟩) (λe=>m _ λq r=> ?_);rw [mB f] at r
  grind
 grind
def C2(k:ze)(N E:Int):ze:={k with SB:=0,Id:=⟨E,N,k.Id.Tj,k.Id.Pairs⟩}
def tM(w t:Int)(h prog v:Int):zd:=⟨w,t,0,0,0,0,h,prog,v,0,ol,BQ,0,0⟩
def tN(h:za)(d:zb)(c:List ze)(l a:List zB)(e:List zd):za:=
 {h with Fn:=d,or:=c,Sr:=l,held:=a,SH:=h.SH++e}
def lT(t:Int)(h:Int)(q:zZ):zd:=⟨10,t,0,0,0,q.N,h,0,0,0,ol,BQ,0,0⟩
def lD(r:zr):zr:=⟨r.room,true,[],⟨r.Sj.SZ,r.Sj.TB,r.Sj.TC,w64 (r.Sj.Tf+(r.waiting.length:Int)),r.Sj.Tx⟩⟩
def om(t:Int)(a:List zr):List zd:=(a.mapIdx (λi r=>r.waiting.map (lT t (i:Int)))).flatten
inductive KM (t:Int) (r:zb) (x:zB):zb->Int->Int->List zd->Prop
 |load (n e:Int) (r':zb):x.cmd.Sm=4->jr 2199023255552 r x.cmd.SM=some (n,e,r')->KM t r x r' n e (if e=0 then [tM 12 t 0 n 0] else [])
 |attach (v e:Int) (r':zb):x.cmd.Sm=5->jB r x.cmd.SS x.cmd.Tu=some (v,e,r')->KM t r x r' v e (if e=0 then [tM 11 t x.cmd.SS x.cmd.Tu v] else [])
 |swap (v e:Int) (r':zb):x.cmd.Sm=6->jQ r x.cmd.SS x.cmd.Tu=some (v,e,r')->KM t r x r' v e (if e=0 then [tM 11 t x.cmd.SS x.cmd.Tu v] else [])
 |detach (e:Int) (tb:zx):x.cmd.Sm=7->xJ r.SF [x.cmd.SS]=some (e,tb)->KM t r x (Gv r tb) 0 e (if e=0 then [tM 11 t x.cmd.SS 0 0] else [])
 |retire (v e:Int) (r':zb):x.cmd.Sm=8->qS r x.cmd.Tu=some (v,e,r')->e≠0->KM t r x r' 0 e []
inductive RMv (h:za) (t:Nat):za->Prop
 |fin (a:Nat) (x:zB) (u:Nat) (k:ze):h.held[a]? =some x->Fin h x->x.SR=(u:Int)->h.or[u]? =some k->x.cmd.Sm≠8->RMv h t (tN h h.Fn (h.or.set u (C2 k 0 0)) h.Sr (h.held.eraseIdx a) [])
 | retired (a : Nat) (x : zB) (u : Nat) (k : ze) : h.held[a]? = some x -> Fin h x -> x.SR = (u : Int) -> h.or[u]? = some k -> x.cmd.Sm = 8 ->
   RMv h t (tN h (settled h.Fn (iJ h.Fn 1)) (h.or.set u (C2 k 0 0)) h.Sr (h.held.eraseIdx a) [tM 13 t 0 x.cmd.Tu 0])
 | over (u : Nat) (k : ze) (x : qr) : (∀ x ∈ h.held, ¬ Fin h x) -> h.Sr = [] -> h.Sy = (u : Int) -> h.or[u]? = some k -> h.SD.Sn[t]? = some x -> x.Su ≠ 2 ->
   RMv h t {h with SD:=NF h.SD t x,or:=h.or.set u (C2 k 0 0),over:=true,SH:=h.SH++[Hk t]}
 |refuse (x:zB) (xs:List zB) (u:Nat) (k:ze):(∀x∈h.held,¬ Fin h x)->h.Sr=x::xs->h.Sk=true->x.SR=(u:Int)->h.or[u]? =some k->RMv h t (tN h h.Fn (h.or.set u (C2 k 0 43)) xs h.held [])
 | cmd (x : zB) (xs : List zB) (u : Nat) (k : ze) (r' : zb) (N E : Int) (es : List zd) : (∀ x ∈ h.held, ¬ Fin h x) -> h.Sr = x :: xs -> h.Sk = false -> x.SR = (u : Int) -> h.or[u]? = some k -> KM t h.Fn x r' N E es ->
   RMv h t (tN h r' (h.or.set u (C2 k N E)) xs h.held es)
 | hold (x : zB) (xs : List zB) (v : Int) (r' : zb) : (∀ x ∈ h.held, ¬ Fin h x) -> h.Sr = x :: xs -> h.Sk = false -> x.cmd.Sm = 8 -> qS h.Fn x.cmd.Tu = some (v, 0, r') ->
   RMv h t (tN h r' h.or xs (h.held++[{x with TX:=v}]) [])
 |drain (x:zB) (xs:List zB):(∀x∈h.held,¬ Fin h x)->h.Sr=x::xs->h.Sk=false->x.cmd.Sm=9->RMv h t (tN h h.Fn h.or xs (h.held++[x]) [])
 | close (x : zB) (xs : List zB) : (∀ x ∈ h.held, ¬ Fin h x) -> h.Sr = x :: xs -> h.Sk = false -> x.cmd.Sm = 10 ->
   RMv h t {h with rings:=h.rings.map lD,Sr:=xs,Sy:=x.SR,Sk:=true,SH:=h.SH++om t h.rings++[tM 14 t 0 0 0]}
open Go.Sx
theorem pY(h:h'.or.length=a)(b:h'.LE.length=n)(c:h'.Fd.length=j)(d:a<=4)(e:n<=4)(f:j<=4):qG h'=some ((a+n+j:Nat):Int):=by
 grind [qG,qo]
theorem gz{k:ze}(h:h'.or[n]? =some k)(N E:Int):jR h' (n:Int) N E=
  some {h' with or:=h'.or.set n (C2 k N E)}:=by
 unfold jR;rw [zV h];simp only [zbs,k8];rfl
theorem NL(h:kF r)(g:zJ):dw r g=some (r.waiting,lD r):=by
 obtain ⟨a,b,c⟩:=h;unfold dw qv;rw [xR (by simp;omega)];rfl
theorem KP{x:zB}{s:List zr×List zd}{r:List zZ×zr}(d:qG h=some (n:Int))(hl:s.2.length+r.1.length<=500000000000):
  jM (de h x i s r) (λ(b:(List zd))=>b) r.1.length 0 s.2=some (s.2++r.1.map (lT n (i:Int))):=by
 refine OK.is (g9 (λa l=>l=s.2++(r.1.take a).map (lT n (i:Int))) (by simp) (λa l c e f g=> ?_) (λl hl=>by grind));subst f;unfold de;refine f9 (i7 e λq j=> ?_);have k:qG {h with rings:=(s.1.set (Int.toNat (i:Int)) r.2),Sy:=x.SR,Sk:=true,SH:=(s.2++(r.1.take a).map (lT n (i:Int)))}=some (n:Int):=d;rw [k];simp only [zbs];rw [xR (by grind)];simp only [zbs];refine g _ ?_;rw [mB j,t9,<- w6];rfl
theorem BZ{l:List (List α)}{b:Nat}(h:∀p∈l,p.length<=b):l.flatten.length<=l.length*b:=by
 induction l with
 |nil=>simp
 |cons p l i=>
  have c:=h p zcs;have d:=i λq a=>h q (zcm _ a)
  rw [yc,p6,u7,t8];omega
theorem B3{t:Int}(h:∀r∈m,kF r):(om t m).length<=m.length*16:=by
 unfold om
 have:=BZ (l:=m.mapIdx (λi r=>r.waiting.map (lT t (i:Int)))) (b:=16) (λp e=>by
  obtain ⟨i,c⟩:=p9 e;rw [List.getElem?_mapIdx] at c;obtain ⟨r,f,rfl⟩:=yf.1 c;obtain ⟨a,b,d⟩:=h r (zmg f)
  grind)
 grind
theorem KQ{x:zB}{t:Nat}(C:qG h=some (t:Int))(z:∀r∈h.rings,kF r)(D:h.rings.length<=4)(hl:h.SH.length<=400000000000):
  jM (df h x) (λ(c:(List zr)×(List zd))=>{h with rings:=c.1,Sy:=x.SR,Sk:=true,SH:=c.2}) (h.rings).length 0 (h.rings,h.SH)=
   some {h with rings:=(h.rings.map lD),Sy:=x.SR,Sk:=true,SH:=(h.SH++om t h.rings)}:=by
 refine OK.is (g9 (λi s=>s.1.length=h.rings.length/\(∀j,s.1[j]? =if j<i then (h.rings[j]?).map lD else h.rings[j]?)/\s.2=h.SH++((h.rings.mapIdx (λi r=>r.waiting.map (lT t (i:Int)))).take i).flatten) ⟨rfl,λj=>by grind,by simp⟩ (λi s n A o m=> ?_) (λs o=> ?_))
 ·obtain ⟨f,e⟩:=s;obtain ⟨q,u,g⟩:=o;have q:f.length=h.rings.length:=q;have u:∀j,f[j]? =if j<i then (h.rings[j]?).map lD else h.rings[j]? :=u
  have g:e=h.SH++((h.rings.mapIdx (λi r=>r.waiting.map (lT t (i:Int)))).take i).flatten:=g;unfold df;have L:=zeg A;have v:f[i]? =some h.rings[i]:=by grind
  have k:=z _ (yn A);have w:(h.rings.mapIdx (λi r=>r.waiting.map (lT t (i:Int))))[i]? =some (h.rings[i].waiting.map (lT t (i:Int))):=by grind
  have E:=BZ (l:=(h.rings.mapIdx (λi r=>r.waiting.map (lT t (i:Int)))).take i) (b:=16) (λp F=>by
   obtain ⟨a,m⟩:=p9 (R5 F);rw [List.getElem?_mapIdx] at m;obtain ⟨r,y,rfl⟩:=yf.1 m;obtain ⟨a,b,d⟩:=z r (zmg y)
   grind)
  have B:((h.rings.mapIdx (λi r=>r.waiting.map (lT t (i:Int)))).take i).length<=4:=by grind
  have G:e.length<=400000000064:=by grind
  rw [zV (xs:=(f,e).1) v];simp only [zbs];rw [NL k];simp only [zbs];have I:h.rings[i].waiting.length<=16:=by obtain ⟨a,b,d⟩:=k;omega
  rw [KP (h:=h) (x:=x) (i:=i) (s:=(f,e)) (r:=(h.rings[i].waiting,lD h.rings[i])) C (by grind)];simp only [zbs,k8];refine m _ ⟨by grind,λj=> ?_,?_⟩
  ·grind
  ·show e++_=_;rw [mB w,yr,<- w6,<- g];simp
 ·obtain ⟨f,e⟩:=s;obtain ⟨q,u,g⟩:=o
  have J:f=h.rings.map lD:=by
   refine l8 λj=> ?_
   grind
  have K:e=h.SH++om t h.rings:=by
   rw [show e=_ from g];unfold om;rw [r9 (by grind)]
  rw [J,K]
theorem DR{α:Type}(l:List α)(h:a<l.length):l.take a++l.drop (a+1)=l.eraseIdx a:=(List.eraseIdx_eq_take_drop_succ l a).symm
theorem pZ(d:HI c f n h)(e:q.length<=140737488355328):∃v,jr 2199023255552 h.Fn q=some (if v.2≠0 then (0,v.2,h.Fn) else if 16<=h.Fn.SG.length then (0,40,h.Fn) else (h.Fn.Ta+1,0,added h.Fn v.1))/\oz h.Fn.maps q=some v/\
  (v.2=0->tU v.1.Maps/\(∀x∈v.1.Maps,x<h.Fn.maps)/\v.1.Code.length<=64):=by
 obtain ⟨v,a,b⟩:=Gu h.Fn.maps e;exact ⟨v,Od d.Ty a b,a,b⟩
theorem NM(X:aR c f)(j:HI c f n h){t:Nat}(ht:t=h.or.length+h.LE.length+h.Fd.length)(V:(∀x∈h.held,¬ Fin h x)->h.Sr=[]->h.Sk=true)(hk:h.SD.Sn[t]? =some x)(hm:x.Su≠2):
  OK (dx 2199023255552 h) (RMv h t):=by
 have Y:=j.cl;have Z:=j.crn X;have hSc:=X.cl;have hSw:=X.wk;have ho4:=(j.own4 X).1;have hlog:=j.logb;have hb:=j.Tv;have hln:=j.Ux;have hhl:=j.hel;obtain ⟨hr1,hr2,hr4⟩:=j.hooks4 X;have hwk:=j.Ty.wk;have hsm:=j.Ty.Uk
 have s:∀{h':za},h'.or.length=h.or.length->h'.LE.length=h.LE.length->h'.Fd.length=h.Fd.length->qG h'=some (t:Int):=λe1 e2 e3=>by
  rw [pY (e1.trans Y) (e2.trans Z) e3 (by omega) (by omega) ho4,ht,Y,Z]
 have P:∀e:zd,room (h.SH.length+[e].length) 176=some ():=λe=>xR (by grind)
 have who:∀y∈h.Sr++h.held,∃(u:Nat)(k:ze),y.SR=(u:Int)/\h.or[u]? =some k:=λy T=>by
  obtain ⟨⟨u,e1,e2⟩,_⟩:=j.call y T;exact ⟨u,_,e1,zeg (by omega)⟩
 unfold dx;obtain ⟨i,e1,e2⟩:=pg (h:=h) (by omega) (by omega) (by omega);rw [e1];simp only [zbs];rcases e2 with ⟨rfl,F⟩|⟨a,y,rfl,T,Q⟩
 ·refine j6 (by decide) ?_;refine d5 (λw=> ?_) (λw=> ?_)
  ·have w:h.Sr=[]:=Sh.1 (by simpa using w);obtain ⟨u,A,u2⟩:=j.Sy;have C:=zeg (show u<h.or.length by omega);rw [A,gz (h':=za.mk h.Fn h.SD h.SI h.or h.LE h.Fd h.rings h.Sr h.held (u:Int) h.Sk true h.SH h.Ti) C];simp only [zbs];rw [s (h':=za.mk h.Fn h.SD h.SI (h.or.set u (C2 h.or[u] 0 0)) h.LE h.Fd h.rings h.Sr h.held (u:Int) h.Sk true h.SH h.Ti) (by grind) rfl rfl];simp only [zbs];rw [P];simp only [zbs];rw [oq hk hm];simp only [zbs];have:=RMv.over (h:=h) (t:=t) u _ x F w A C hk hm;rw [A] at this;exact b9 this
  ·have w:¬ h.Sr=[]:=λz=>by rw [z] at w;cases w
   obtain ⟨y,d,hl⟩:=List.exists_cons_of_ne_nil w
   have hcut:cut h.Sr 1 (h.Sr.length:Int)=some d:=by
    rw [hl];unfold cut;rw [d8 (by simp;omega)];simp
   have hix:Go.Sx.idx h.Sr 0=some y:=by rw [hl];rfl
   rw [hix,hcut];simp only [zbs];have hyl:y∈h.Sr++h.held:=zal _ (by grind);obtain ⟨u,k,A,C⟩:=who y hyl;obtain ⟨_,hmod,k4,k10⟩:=j.call y hyl;refine d5 (λG=> ?_) (λG=> ?_)
   ·rw [A,gz (h':=za.mk h.Fn h.SD h.SI h.or h.LE h.Fd h.rings d h.held h.Sy h.Sk h.over h.SH h.Ti) C];have:=RMv.refuse (h:=h) (t:=t) y d u k F hl G A C
    grind [tN,b9]
   refine d6 (R:=RMv h t) ?_ (λr V=>b9 V);have I:∀{l:zb} {N E:Int} {es:List zd},KM t h.Fn y l N E es->RMv h t (tN h l (h.or.set u (C2 k N E)) d h.held es):=λhc=>.cmd y d u k _ _ _ _ F hl G A C hc
   have U:∀(l:zb)(p v e:Int),OK (xt {h with Fn:=l,Sr:=d} y p v e) (λh'=>h'=tN h l (h.or.set u (C2 k v e)) d h.held (if e=0 then [tM 11 t y.cmd.SS p v] else [])):=λl p v e=>by
    unfold xt;by_cases D:e=0
    ·subst D;refine d6 (R:=λh'=>h'=za.mk l h.SD h.SI h.or h.LE h.Fd h.rings d h.held h.Sy h.Sk h.over (h.SH++[tM 11 t y.cmd.SS p v]) h.Ti) (m9 rfl ?_) (λh' B=> ?_)
     ·rw [s (h':=za.mk l h.SD h.SI h.or h.LE h.Fd h.rings d h.held h.Sy h.Sk h.over h.SH h.Ti) rfl rfl rfl];simp only [zbs];rw [P];exact b9 rfl
     ·subst B;rw [A,gz (h':=za.mk l h.SD h.SI h.or h.LE h.Fd h.rings d h.held h.Sy h.Sk h.over (h.SH++[tM 11 t y.cmd.SS p v]) h.Ti) C];exact b9 (by rw [d8 rfl];rfl)
    ·refine d6 (R:=λh'=>h'=za.mk l h.SD h.SI h.or h.LE h.Fd h.rings d h.held h.Sy h.Sk h.over h.SH h.Ti) (j6 (by simp [D]) (b9 rfl)) (λh' B=> ?_);subst B;rw [A,gz (h':=za.mk l h.SD h.SI h.or h.LE h.Fd h.rings d h.held h.Sy h.Sk h.over h.SH h.Ti) C];refine b9 ?_;rw [d7 D];unfold tN;rw [i9]
   unfold cL;refine d5 (λJ=> ?_) (λJ=> ?_)
   ·have J:y.cmd.Sm=4:=by simpa using J
    obtain ⟨v,v1,_⟩:=pZ j hmod;generalize hq:(if v.2≠0 then (0,v.2,h.Fn) else if 16<=h.Fn.SG.length then (0,40,h.Fn) else (h.Fn.Ta+1,0,added h.Fn v.1):Int×Int×zb)=q at v1;obtain ⟨q1,q2,W⟩:=q;simp only;rw [v1];simp only [zbs];have o:=I (KM.load (t:=t) q1 q2 W J v1);by_cases D:q2=0
    ·subst D;refine d6 (R:=λh'=>h'=za.mk W h.SD h.SI h.or h.LE h.Fd h.rings d h.held h.Sy h.Sk h.over (h.SH++[tM 12 t 0 q1 0]) h.Ti) (m9 rfl ?_) (λh' B=> ?_)
     ·rw [s (h':=za.mk W h.SD h.SI h.or h.LE h.Fd h.rings d h.held h.Sy h.Sk h.over h.SH h.Ti) rfl rfl rfl];simp only [zbs];rw [P];exact b9 rfl
     ·subst B;rw [A,gz (h':=za.mk W h.SD h.SI h.or h.LE h.Fd h.rings d h.held h.Sy h.Sk h.over (h.SH++[tM 12 t 0 q1 0]) h.Ti) C];rw [d8 rfl] at o;exact b9 o
    ·refine d6 (R:=λh'=>h'=za.mk W h.SD h.SI h.or h.LE h.Fd h.rings d h.held h.Sy h.Sk h.over h.SH h.Ti) (j6 (by simp [D]) (b9 rfl)) (λh' B=> ?_);subst B;rw [A,gz (h':=za.mk W h.SD h.SI h.or h.LE h.Fd h.rings d h.held h.Sy h.Sk h.over h.SH h.Ti) C];rw [d7 D] at o;unfold tN at o;rw [i9] at o;exact b9 o
   refine d5 (λK=> ?_) (λK=> ?_)
   ·have K:y.cmd.Sm=5:=by simpa using K
    obtain ⟨⟨v,e,l⟩,v1,_⟩:=uc j.Ty y.cmd.SS y.cmd.Tu;simp only;rw [v1];simp only [zbs];refine d6 (U l y.cmd.Tu v e) (λh' B=>b9 ?_);rw [B];exact I (.attach v e l K v1)
   refine d5 (λL=> ?_) (λL=> ?_)
   ·have L:y.cmd.Sm=6:=by simpa using L
    obtain ⟨⟨v,e,l⟩,v1,_⟩:=Eb j.Ty y.cmd.SS y.cmd.Tu;simp only;rw [v1];simp only [zbs];refine d6 (U l y.cmd.Tu v e) (λh' B=>b9 ?_);rw [B];exact I (.swap v e l L v1)
   refine d5 (λM=> ?_) (λM=> ?_)
   ·have M:y.cmd.Sm=7:=by simpa using M
    obtain ⟨⟨e,tb⟩,v1,_⟩:=ud j.Ty y.cmd.SS;simp only;rw [v1];simp only [zbs];refine d6 (U (Gv h.Fn tb) 0 0 e) (λh' B=>b9 ?_);rw [B];exact I (.detach e tb M v1)
   refine d5 (λg=> ?_) (λg=> ?_)
   ·have g:y.cmd.Sm=8:=by simpa using g
    obtain ⟨⟨v,e,l⟩,v1,_⟩:=mJ j.Ty y.cmd.Tu;simp only;rw [v1];simp only [zbs];refine d5 (λD=> ?_) (λD=> ?_)
    ·have D:e≠0:=by simpa using D
     rw [A,gz (h':=za.mk l h.SD h.SI h.or h.LE h.Fd h.rings d h.held h.Sy h.Sk h.over h.SH h.Ti) C];have o:=I (.retire v e l g v1 D);unfold tN at o;rw [i9] at o;exact b9 o
    ·have D:e=0:=by simpa using D
     subst D;rw [xR (m:=h.held.length+_) (b:=144) (by simp only [u7,y4];omega)];have:=RMv.hold (h:=h) (t:=t) y d v l F hl G g v1;unfold tN at this;rw [i9] at this;exact b9 this
   refine d5 (λO=> ?_) (λO=> ?_)
   ·have O:y.cmd.Sm=9:=by simpa using O
    simp only;rw [xR (m:=h.held.length+_) (b:=144) (by simp only [u7,y4];omega)];have:=RMv.drain (h:=h) (t:=t) y d F hl G O;unfold tN at this;rw [i9] at this;exact b9 this
   simp only [beq_eq_false_iff_ne] at J K L M g O;have S:y.cmd.Sm=10:=by omega
   refine m9 (by simp [S]) ?_;rw [KQ (h:=za.mk h.Fn h.SD h.SI h.or h.LE h.Fd h.rings d h.held h.Sy h.Sk h.over h.SH h.Ti) (x:=y) (t:=t) (s rfl rfl rfl) (λr V=>(j.ring r V).1) (by show h.rings.length<=4;omega) (by show h.SH.length<=_;omega)];simp only [zbs];rw [s (h':=za.mk h.Fn h.SD h.SI h.or h.LE h.Fd (h.rings.map lD) d h.held y.SR true h.over (h.SH++om t h.rings) h.Ti) rfl rfl rfl];simp only [zbs];have hd:=B3 (t:=(t:Int)) (λr V=>(j.ring r V).1);rw [xR (by simp only [p6,u7,y4];omega)];exact b9 (.close y d F hl G S)
 ·refine m9 (by simp) ?_;have hal:=(zes.1 T).1;rw [zV T];simp only [zbs]
  have hdel:qe h.held (a:Int) (w64 ((a:Int)+1))=some (h.held.eraseIdx a):=by
   unfold qe Mr;rw [qo (by omega) (by omega),d8 (by omega),<- DR _ hal];rw [show ((a:Int)+1).toNat=a+1 by omega];rfl
  rw [hdel];simp only [zbs];obtain ⟨u,k,A,C⟩:=who y (zar _ (zmg T));by_cases g:y.cmd.Sm=8
  ·refine d6 (R:=λh'=>h'=za.mk (settled h.Fn (iJ h.Fn 1)) h.SD h.SI h.or h.LE h.Fd h.rings h.Sr (h.held.eraseIdx a) h.Sy h.Sk h.over (h.SH++[tM 13 t 0 y.cmd.Tu 0]) h.Ti) (m9 (by simp [g]) ?_) (λh' B=> ?_)
   ·rw [I6 j.Ty 1];simp only [zbs];rw [s (h':=za.mk (settled h.Fn (iJ h.Fn 1)) h.SD h.SI h.or h.LE h.Fd h.rings h.Sr (h.held.eraseIdx a) h.Sy h.Sk h.over h.SH h.Ti) rfl rfl rfl];simp only [zbs];rw [P];exact b9 rfl
   ·subst B;rw [A,gz (h':=za.mk (settled h.Fn (iJ h.Fn 1)) h.SD h.SI h.or h.LE h.Fd h.rings h.Sr (h.held.eraseIdx a) h.Sy h.Sk h.over (h.SH++[tM 13 t 0 y.cmd.Tu 0]) h.Ti) C];exact b9 (.retired a y u k T Q A C g)
  ·refine d6 (R:=λh'=>h'=za.mk h.Fn h.SD h.SI h.or h.LE h.Fd h.rings h.Sr (h.held.eraseIdx a) h.Sy h.Sk h.over h.SH h.Ti) (j6 (by simp [g]) (b9 rfl)) (λh' B=> ?_);subst B;rw [A,gz (h':=za.mk h.Fn h.SD h.SI h.or h.LE h.Fd h.rings h.Sr (h.held.eraseIdx a) h.Sy h.Sk h.over h.SH h.Ti) C];have:=RMv.fin (h:=h) (t:=t) a y u k T Q A C g;unfold tN at this;rw [i9] at this;exact b9 this
end Go.Proofs.YtplmgfkghomelaaGreatDoor.KH
