/- Lemmas. -/
import Derived.Test.YtplmgfkghomelaaGreatDoorKH12
set_option linter.all false
namespace Go.Proofs.YtplmgfkghomelaaGreatDoor.KH
open Go.Sx
variable {h h':za}{c:zG}{f:List (List zJ)}{n j a y A i:Nat}{x:ql}{α:Type}{o z w' B:zB}{e:Int}{l:List zx}{d:zb}{r:zp}{m:List zp}{q:List Int}
def BA(h:za)(d:zb)(k:zn)(w:List zB)(os:List zc)(r:List zp)(e:ze):za:=
 {h with Fn:=d,Td:=k,LE:=w,Fd:=os,rings:=r,Tr:=h.Tr++[e]}
def QZ(r:zb)(k:zF):zb:={r with Th:=k}
def inW(w:zB)(W:zl):zB:={w with SQ:=W}
def Cc(w t:Int)(e h prog a p:Int)(i:zg)(r:zk)(v:Int):ze:=⟨w,t,0,0,0,e,h,prog,a,p,i,r,v,0⟩
inductive WMv (h:za) (j:Nat) (w:zB) (t:Nat):za->Prop
 | ends (x : ql) : w.SQ.SY = 0 -> h.closed = true -> h.Td.SU[t]? = some x -> x.SY ≠ 2 ->
   WMv h j w t (BA h h.Fn (K5 h.Td t x) (h.LE.set j {w with SZ:=true}) h.Fd h.rings (IG t))
 | take (i : Nat) (r r' : zp) (q : zY) (qs : List zY) (cur : Int) : w.SQ.SY = 0 -> h.closed = false -> h.rings[i]? = some r -> r.waiting = q :: qs -> vf r h.TF = some (q, true, r') -> 0 <= cur -> cur < h.rings.length ->
   WMv h j w t (BA h h.Fn h.Td (h.LE.set j ⟨⟨w.SQ.TG,w.SQ.Ua,1,⟨i,q,0,0,0,none⟩⟩,cur,w.pc,w.TV,w.SZ⟩) h.Fd (h.rings.set i r') (Cc 5 t q.N i 0 0 0 kj uk 0))
 | skip (st : zS) (v p : Int) : w.SQ.SY = 1 -> jl h.Fn.Tk w.SQ.Tz.hook = some (v, p, false) -> xL w.SQ = some (0, ⟨w.SQ.TG, st, 0, ⟨0, ⟨0, ⟨0, 0⟩⟩, 0, 0, 0, none⟩⟩) ->
   WMv h j w t (BA h h.Fn h.Td (h.LE.set j (inW w ⟨w.SQ.TG,st,0,⟨0,⟨0,⟨0,0⟩⟩,0,0,0,none⟩⟩)) h.Fd h.rings (Cc 9 t w.SQ.Tz.TE.N w.SQ.Tz.hook 0 0 0 kj uk 0))
 | enter (v p : Int) (m : zE) (b : Bool) (e1 e2 : Int) (ck : zF) (e : Int) (W' : zl) : w.SQ.SY = 1 -> jl h.Fn.Tk w.SQ.Tz.hook = some (v, p, true) -> qR h.Fn p = some (m, b) ->
   vn h.Fn.Th j=some (e1,e2,ck)->jX 2199023255552 w.SQ v p m=some (e,W')->
   WMv h j w t (BA h (QZ h.Fn ck) h.Td (h.LE.set j (inW w W')) h.Fd h.rings (Cc 6 t w.SQ.Tz.TE.N w.SQ.Tz.hook p v 0 kj uk 0))
 | note (a : qT) (W' : zl) : w.SQ.SY = 2 -> qz 2199023255552 w.SQ = some (a, true, W') -> a.SV = 3 ->
   WMv h j w t (BA h h.Fn h.Td (h.LE.set j (inW w W')) h.Fd h.rings (Cc 8 t w.SQ.Tz.TE.N 0 w.SQ.Tz.prog w.SQ.Tz.Ts a.Pc kj uk a.TL))
 | ask (a : qT) (W' : zl) : w.SQ.SY = 2 -> qz 2199023255552 w.SQ = some (a, true, W') -> a.SV = 2 ->
   WMv h j w t (BA h h.Fn h.Td (h.LE.set j {w with SQ:=W',pc:=a.Pc}) (oj h.Fd (io a.Item.TQ h.Fd.length,⟨t,0,false,a.Item⟩)) h.rings (Cc 16 t w.SQ.Tz.TE.N 0 w.SQ.Tz.prog w.SQ.Tz.Ts a.Pc a.Item uk a.TL))
 | done (a : qT) (W' : zl) (e1 : Int) (ck : zF) : w.SQ.SY = 2 -> qz 2199023255552 w.SQ = some (a, true, W') -> a.SV = 4 -> vo h.Fn.Th [(j : Int)] = some (e1, ck) ->
   WMv h j w t (BA h (QZ h.Fn ck) h.Td (h.LE.set j (inW w W')) h.Fd h.rings (Cc 9 t w.SQ.Tz.TE.N w.SQ.Tz.hook w.SQ.Tz.prog w.SQ.Tz.Ts a.Pc kj uk a.TL))
 | ran (a : qT) (W' : zl) : w.SQ.SY = 2 -> qz 2199023255552 w.SQ = some (a, true, W') -> a.SV = 1 ->
   WMv h j w t (BA h h.Fn h.Td (h.LE.set j (inW w W')) h.Fd h.rings (Cc 7 t w.SQ.Tz.TE.N 0 w.SQ.Tz.prog w.SQ.Tz.Ts a.Pc kj uk a.TL))
 | back (r : zk) (W' : zl) : w.SQ.SY = 3 -> w.TV = some r -> xi w.SQ r = some (0, W') ->
   WMv h j w t (BA h h.Fn h.Td (h.LE.set j {w with SQ:=W',TV:=none}) h.Fd h.rings (Cc 17 t w.SQ.Tz.TE.N 0 w.SQ.Tz.prog w.SQ.Tz.Ts w.pc kj r 0))
theorem NX(hl:h.rings.length=n)(B:1<=n/\n<=4)(C:0<=o.TA)(D:o.TA<n){g:zp}(a:h.rings[j]? =some g)(q:g.waiting≠ []):
  ∃(i:Nat)(r:zp),loop (cQ h) 2199023255552 o=some {o with TA:=(i:Int)}/\h.rings[i]? =some r/\r.waiting≠ []:=by
 have t:=(zes.1 a).1
 obtain ⟨s,e,i,r,rfl,E,F⟩:=lQ (body:=cQ h) (λm s=>∃c:Nat,s={o with TA:=(c:Int)}/\c<n/\m=if c<=j then j-c else j+n-c) (λs=>∃(i:Nat)(r:zp),s={o with TA:=(i:Int)}/\h.rings[i]? =some r/\r.waiting≠ []) (λm s b u k=>by
  obtain ⟨c,rfl,G,I⟩:=u;unfold cQ;have d:c<h.rings.length:=by omega
  have l:=zeg d;rw [zV l];simp only [zbs];obtain ⟨v,f,w⟩:=oh h.rings[c];rw [f];simp only [zbs];by_cases p:v.Uc=0
  ·rw [d7 (by simp [p])]
   have x:c≠j:=λe=>by
    subst e;rw [l] at a;obtain rfl:=j6 a;rw [w] at p;exact q (SN.1 (by omega))
   have y:nz (h.rings.length:Int)=some ():=by grind [nz]
   rw [y,zbs,qe (by omega) (by omega)];by_cases z:c+1<n
   ·rw [Int.tmod_eq_of_lt (by omega) (by omega)];refine k (if c+1<=j then j-(c+1) else j+n-(c+1)) _ ?_ ⟨c+1,rfl,z,rfl⟩
    grind
   ·have:c+1=n:=by omega
    have A:(c:Int)+1=(h.rings.length:Int):=by omega
    rw [A,Int.tmod_self];refine k j _ ?_ ⟨0,rfl,by omega,by grind⟩
    grind
  grind) 2199023255552 (if o.TA.toNat<=j then j-o.TA.toNat else j+n-o.TA.toNat) o (by split<;>omega) ⟨o.TA.toNat,by rw [show ((o.TA.toNat:Nat):Int)=o.TA by omega],by omega,rfl⟩
 grind
theorem Gy{t:zz}(h:0<=e)(a:e<t.Te.length):∃v p b,jl t e=some (v,p,b):=by
 obtain ⟨x,c,_⟩:=pA (xs:=t.Te) h a;unfold jl jf jg;have d:(decide (e>=0)&&decide (e<(t.Te.length:Int)))=true:=by grind
 rw [d,c];simp only [zbs,Bool.not_true,zfe,ya];cases decide (x.Ts>0) with
 |true=>exact ⟨_,_,_,rfl⟩
 |false=>exact ⟨_,_,_,rfl⟩
theorem HI.hooks4(a:aq c f)(b:HI c f n h):h.rings.length=c.Ti.toNat/\1<=c.Ti.toNat/\c.Ti.toNat<=4:=by
 have d:=b.rg;have e:=a.hk;omega
theorem HI.module(e:HI c f n h)(p:Int):∃m b,qR h.Fn p=some (m,b)/\m.Maps.length*8<=140737488355328/\m.Code.length*40<=140737488355328/\∀x∈m.Maps,x<(c.Maps.length:Int):=by
 have i:=CJ e.TT p;cases g:jz h.Fn.Tl p with
 |none=>
  grind
 |some x=>
  rw [g] at i;obtain ⟨_,_,a,b,d,_⟩:=e.TT.prog p x g;have j:=a.2.2
  grind
theorem NY(L:aq c f)(g:HI c f n h)(R:h.LE[j]? =some z)(ht:y=h.or.length+j)
  (X:z.SQ.SY=0->z.SZ=false/\(h.closed=true\/∃r∈h.rings,r.waiting≠ [])) (Y:z.SQ.SY=3->z.TV.isSome=true) {x:ql} (hk:h.Td.SU[y]? =some x) (hm:x.SY≠2):
  OK (dy 2199023255552 h (y:Int)) (WMv h j z y):=by
 have hjl:=(zes.1 R).1;have hcl:=g.cl;have hcr:=g.crn L;have hSc:=L.cl;have hSw:=L.wk;have hlog:=g.logb;obtain ⟨Z,B,s⟩:=g.hooks4 L;have M:=g.crew z (zmg R);have u:=M.Tz;have d:∀e:ze,room (h.Tr.length+[e].length) 176=some ():=λe=>xJ (by grind)
 unfold dy zW xq jN vU;simp only [zbs];have e2:w64 ((y:Int)-(h.or.length:Int))=(j:Int):=by grind [qe]
 rw [e2,zV R];simp only [zbs,l8];rcases u.is with N|K|⟨A,_⟩|⟨C,_⟩
 ·refine o8 (by simp [N]) ?_;refine d5 (λD=> ?_) (λD=> ?_)
  ·rw [d];simp only [zbs];rw [oG hk hm];simp only [zbs];exact b9 (.ends x N D hk hm)
  ·obtain ⟨_,S⟩:=X N;rcases S with S|⟨r0,S,E⟩
   ·grind
   obtain ⟨i0,hi0⟩:=p6 S;obtain ⟨i,r,e3,T,e5⟩:=NX Z ⟨B,s⟩ M.cur.1 M.cur.2 hi0 E;have hil:=(zes.1 T).1;rw [e3];simp only [zbs];rw [zV T];simp only [zbs];have O:=g.Uj r (zmg T);cases F:r.waiting with
   |nil=>exact absurd F e5
   |cons q qs=>
    obtain ⟨r',t1,t2,t3,t4⟩:=mM O.1 h.TF F;rw [t1];have hz:nz (h.rings.length:Int)=some ():=by grind [nz]
    simp only [zbs];rw [hz];simp only [zbs];rw [(Qo u s N (k:=(i:Int)) (by omega) (by omega) (O.2 q (by grind))).1];simp only [zbs];rw [d];simp only [zbs,l8]
    have h5:0<=(w64 ((i:Int)+1)).tmod (h.rings.length:Int)/\(w64 ((i:Int)+1)).tmod (h.rings.length:Int)<h.rings.length:=by
     rw [qe (by omega) (by omega)];exact ⟨Int.tmod_nonneg _ (by omega),Int.tmod_lt_of_pos _ (by omega)⟩
    exact b9 (.take i r r' q qs _ N D T F t1 h5.1 h5.2)
 ·refine j8 (by simp [K]) ?_;refine o8 (by simp [K]) ?_;have hhl:=g.TT.hl;obtain ⟨v,p,b,G⟩:=Gy (t:=h.Fn.Tk) u.hook.1 (by have:=u.hook.2;omega);rw [G];simp only [zbs];cases b with
  |false=>
   refine o8 rfl ?_;obtain ⟨st,s1,s2⟩:=Qp u B s K;rw [s1];simp only [zbs];rw [d];simp only [zbs];exact b9 (.skip st v p K G s1)
  |true=>
   refine j8 rfl ?_;obtain ⟨m,b,P,hm2,hm3,hm4⟩:=g.module p;rw [P];simp only [zbs];obtain ⟨⟨e1,e2,ck⟩,I,_⟩:=AR g.TT (j:Int);rw [I];simp only [zbs];obtain ⟨e,W,hE,_⟩:=Cm u K hm2 hm3 hm4 v p;rw [hE];simp only [zbs];rw [d];simp only [zbs];exact b9 (.enter v p m b e1 e2 ck e W K G P I hE)
 ·refine j8 (by simp [A]) ?_;refine j8 (by simp [A]) ?_;refine o8 (by simp [A]) ?_;obtain ⟨a,W,l,hWJ,hWS⟩:=IW B s u A;rw [l];simp only [zbs];have Q:=g.own;have hb:=g.TU;rcases hWS with ⟨U,_⟩|⟨k2,_,_,_,_,_,⟨g1,g2,g3,g4,g5,g6⟩,_⟩|⟨k13,_⟩
  ·refine j8 (by simp [U]) ?_;refine j8 (by simp [U]) ?_;refine o8 (by simp [U]) ?_;obtain ⟨⟨e1,ck⟩,I,_⟩:=AU g.TT (j:Int);rw [I];simp only [zbs];rw [d];simp only [zbs];exact b9 (.done a W e1 ck A l U I)
  ·refine j8 (by simp [k2]) ?_;refine o8 (by simp [k2]) ?_
   have E:∀o∈h.Fd,o.SZ=false:=λo ho=>by
    cases I:o.SZ with
    |false=>rfl
    |true=>
     have:=M.over ((g.Uu o ho I).2 z (zmg R));omega
   obtain ⟨p,o,q1,q2,q3,q4,q5,q6⟩:=DY Q L.sh E (r:=⟨(y:Int),0,false,a.Item⟩) g1 g2 ⟨g3,g4⟩ (by omega);have q2:ay a.Item.TQ (h.Fd.length:Int)=some (p:Int):=q2;rw [q2];simp only [zbs];rw [q4];simp only [zbs];rw [q6];simp only [zbs];rw [d];simp only [zbs,l8];have:=WMv.ask (h:=h) (j:=j) (w:=z) (t:=y) a W A l k2;have q1:io a.Item.TQ h.Fd.length=p:=q1
   have e7:oj h.Fd (p,⟨(y:Int),0,false,a.Item⟩)=h.Fd.set p (Kb o ⟨(y:Int),0,false,a.Item⟩):=by
    grind [oj]
   rw [q1,e7] at this;exact b9 this
  ·rcases k13 with V|k3
   ·refine j8 (by simp [V]) ?_;refine j8 (by simp [V]) ?_;refine j8 (by simp [V]) ?_;rw [d];simp only [zbs];exact b9 (.ran a W A l V)
   ·refine o8 (by simp [k3]) ?_;rw [d];simp only [zbs];exact b9 (.note a W A l k3)
 ·refine j8 (by simp [C]) ?_;refine j8 (by simp [C]) ?_;refine j8 (by simp [C]) ?_;refine o8 (by simp [C]) ?_;cases J:z.TV with
  |none=>have:=Y C;rw [J] at this;cases this
  |some r=>
   simp only [zbs];rw [d];simp only [zbs];obtain ⟨W,hA,_⟩:=kX u C (M.rep r J);rw [hA];simp only [zbs];exact b9 (.back r W C J hA)
open Go.Sx
theorem IH(h:∀x∈l,x.Tn≠e):bV l e=0:=by
 grind [bV]
theorem HI.reg0(a:HI c f n h)(i:f.length<=j):gE h j=0:=by
 have k:∀x∈h.SX++h.held,x.Tn≠j:=λx b e=>by
  obtain ⟨⟨u,d,g⟩,_⟩:=a.call x b;omega
 obtain ⟨u,d,g⟩:=a.Tb
 grind [gE,IH]
theorem AB(g:HI c f n h)(I:n+1<=100000000){w:zB}(N:h.LE[j]? =some w)(z:fJ c.Ti.toNat c.Maps.length c.SS.toNat (n+1) d){k:zn}(J:k.SU.length=h.Td.SU.length)
  (A:Ca c.Ti.toNat c.Maps.length w') (K:w.SZ=true->w'.SZ=true) (B:w'.SZ=true->h.closed=true)
  {os:List zc} (C:wJ c (16*n+16) os) (D:∀(i:Nat) o,os[i]? =some o->∃l,h.Fd[i]? =some l/\l.SZ=o.SZ) (q:∀o∈os,∀r∈o.SX,(∃l∈h.Fd,r∈l.SX)\/(∃j:Nat,r.Ud=(h.or.length:Int)+j/\j<h.LE.length/\r.Up=false))
  (m:∀u:Nat,u<h.or.length->bQ os u=bQ h.Fd u) {rs:List zp} (s:Az c rs) (e:ze):HI c f (n+1) (BA h d k (h.LE.set j w') os rs e):=by
 have t:(∀w∈h.LE,w.SZ=true)->∀v∈h.LE.set j w',v.SZ=true:=λa v p=>by
  grind
 exact
 {TU:=I
  Tm:=g.Tm
  cl:=g.cl
  cr:=by show ((h.LE.set j w').length:Int)=_;rw [k7];exact g.cr
  rg:=s.1
  TT:=z
  Uj:=s.2
  Um:=g.Um
  crew:=λv p=>by
   rcases r7 (show v∈h.LE.set j w' from p) with p|rfl
   ·exact g.crew v p
   ·exact A
  own:=C.mono (by omega)
  Vd:=λo E r L=>by
   show Ay h.or (h.LE.set j w').length r;rw [k7];rcases q o E r L with ⟨l,x,F⟩|x
   ·exact g.Vd l x r F
   ·exact .inr x
  Ut:=λu G y=>by
   show G.Tf=((bQ os u+gE h u:Nat):Int)
   rw [m u (zes.1 y).1];exact g.Ut u G y
  UC:=λu=>by
   show gE h u=0\/gE h u=1/\bQ os u=0;by_cases y:u<h.or.length
   ·rw [m u y];exact g.UC u
   ·exact .inl (g.reg0 (by have:=g.cl;omega))
  call:=g.call
  Tb:=g.Tb
  UD:=by show k.SU.length=_;rw [J];exact g.UD
  Uu:=λo E e=>by
   obtain ⟨i,M⟩:=p6 (show o∈os from E);obtain ⟨l,x,F⟩:=D i o M;obtain ⟨a,b⟩:=g.Uu l (zmg x) (by rw [F];exact e)
   exact ⟨a,t b⟩
  UB:=λv p e=>by
   rcases r7 (show v∈h.LE.set j w' from p) with p|rfl
   ·exact g.UB v p e
   ·exact B e
  UE:=by
   show (h.Tr++[e]).length<=_;have:=g.UE
   grind
  Va:=by have:=g.Va;show h.SX.length<=_;omega
  hel:=by have:=g.hel;show h.held.length<=_;omega}
theorem NZ(hS:aq c f)(s:HI c f n h)(hn:n+1<=100000000)(Q:h.LE[j]? =some B)(ht:A=h.or.length+j)(hr0:B.SQ.SY=0->B.SZ=false)(hv:WMv h j B A h'):HI c f (n+1) h':=by
 have hjl:=(zes.1 Q).1;obtain ⟨hr1,hr2,R⟩:=s.hooks4 hS;have F:=s.crew B (zmg Q);have S:=F.Tz;have g:=s.TT.mono (show n<=n+1 by omega) (by omega)
 have hne:B.SZ=false:=by
  cases M:B.SZ with
  |false=>rfl
  |true=>rw [hr0 (F.over M)] at M;cases M
 have w:∀{p:Prop},B.SZ=true->p:=λe=>by grind
 have G:=s.own.mono (show 16*n<=16*n+16 by omega);have D:∀o∈h.Fd,∀r∈o.SX,(∃o'∈h.Fd,r∈o'.SX)\/(∃j:Nat,r.Ud=(h.or.length:Int)+j/\j<h.LE.length/\r.Up=false):=λo I r T=>.inl ⟨o,I,T⟩
 have t:∀{w':zB},Ca c.Ti.toNat c.Maps.length w'->w'.SZ=B.SZ->∀{d:zb},fJ c.Ti.toNat c.Maps.length c.SS.toNat (n+1) d->∀e,HI c f (n+1) (BA h d h.Td (h.LE.set j w') h.Fd h.rings e):=λhw' M d hrg e=>
  AB s hn Q hrg rfl hw' (λz=>by rw [M];exact z) (λz=>w (by rw [<- M];exact z)) G (λi o I=>⟨o,I,rfl⟩) D (λ_ _=>rfl) ⟨s.rg,s.Uj⟩ e
 have J:∀{W:zl},WJ c.Ti.toNat c.Maps.length W->Ca c.Ti.toNat c.Maps.length (inW B W):=λhW=>⟨hW,F.cur,F.rep,w⟩
 have K:∀{a:qT} {W:zl},B.SQ.SY=2->qz 2199023255552 B.SQ=some (a,true,W)->WJ c.Ti.toNat c.Maps.length W/\Cn c.Ti.toNat c.Maps.length B.SQ a W:=λL C=>by
  grind [IW]
 cases hv with
 |ends x m0 U hk hm=>
  exact AB s hn Q (k:=K5 h.Td A x) (w':={B with SZ:=true}) g (by show (h.Td.SU.set A _).length=_;rw [k7]) ⟨S,F.cur,F.rep,λ_=>m0⟩ (λ_=>rfl) (λ_=>U) G (λi o I=>⟨o,I,rfl⟩) D (λ_ _=>rfl) ⟨s.rg,s.Uj⟩ _
 |take i r r' q qs cur m0 U hi hwt htk c0 c1=>
  have V:=s.Uj r (zmg hi);have hil:=(zes.1 hi).1;obtain ⟨r2,t1,t2,t3,t4⟩:=mM V.1 h.TF hwt;rw [htk] at t1;cases t1;have N:=Qo S R m0 (k:=(i:Int)) (by omega) (by omega) (V.2 q (by grind));refine AB s hn Q (k:=h.Td) (w':=⟨⟨B.SQ.TG,B.SQ.Ua,1,⟨i,q,0,0,0,none⟩⟩,cur,B.pc,B.TV,B.SZ⟩) (rs:=h.rings.set i r') g rfl ⟨N.2,⟨c0,by grind⟩,F.rep,w⟩ w w G (λi o I=>⟨o,I,rfl⟩) D (λ_ _=>rfl) ⟨by grind,λy hy=> ?_⟩ _;rcases r7 hy with hy|rfl
  ·exact s.Uj y hy
  grind
 |skip st v p m1 hcu hsk=>
  obtain ⟨st2,s1,s2⟩:=Qp S hr2 R m1;rw [hsk] at s1;cases s1;exact t (J s2) rfl g _
 |enter v p m b e1 e2 X e W m1 hcu hmo M hE=>
  obtain ⟨L,b2,Y,hm2,hm3,hm4⟩:=s.module p;rw [hmo] at Y;cases Y;obtain ⟨e3,W2,Z,O,_⟩:=Cm S m1 hm2 hm3 hm4 v p;rw [hE] at Z;cases Z;refine t (J O) rfl ?_ _;obtain ⟨⟨q1,q2,q3⟩,N,P⟩:=AR s.TT (j:Int);rw [M] at N;cases N;rcases P with ⟨_,_,E⟩|⟨_,_,_,_,_,E⟩
  ·have E:X=h.Fn.Th:=E;subst E;exact g
  ·have E:X=⟨h.Fn.Th.Uq,h.Fn.Th.in_.set ((j:Int)).toNat h.Fn.Th.Uq⟩:=E;subst E;exact Jh s.TT (by omega) _
 |note a W L C k3=>exact t (J (K L C).1) rfl g _
 |ran a W L C k1=>exact t (J (K L C).1) rfl g _
 |done a W e1 X L C k4 hlv=>
  refine t (J (K L C).1) rfl ?_ _;obtain ⟨⟨q1,q2⟩,N,P⟩:=AU s.TT (j:Int);rw [hlv] at N;cases N;rcases P with ⟨_,E,_⟩|⟨_,_,_,E⟩
  ·have E:X=h.Fn.Th:=E;subst E;exact g
  ·have E:X=⟨h.Fn.Th.Uq,h.Fn.Th.in_.set ((j:Int)).toNat 0⟩:=E;subst E;exact Ji s.TT (by omega) _
 |ask a W L C k2=>
  obtain ⟨hW,hWS⟩:=K L C;rcases hWS with ⟨k4,_⟩|⟨_,_,_,_,_,_,⟨g1,g2,g3,g4,g5,g6⟩,_⟩|⟨k13,_⟩
  ·grind
  ·refine AB s hn Q (k:=h.Td) (w':={B with SQ:=W,pc:=a.Pc}) (os:=oj h.Fd (io a.Item.TQ h.Fd.length,⟨A,0,false,a.Item⟩)) g rfl ⟨hW,F.cur,F.rep,w⟩ (λz=>z) w ((s.own.put g1 g2 (.inr ⟨g3,g4⟩) g6).mono (by omega)) (λi o I=>pE I) (λo I r T=> ?_) (λu hu=> ?_) ⟨s.rg,s.Uj⟩ _
   ·rcases Aw (l:=[(io a.Item.TQ h.Fd.length,⟨(A:Int),0,false,a.Item⟩)]) (os:=h.Fd) I T with h6|⟨x,hx,rfl⟩
    ·exact .inl h6
    grind
   ·obtain ⟨p,hp,hlt⟩:=Av (k:=a.Item.TQ) (n:=(h.Fd.length:Int)) (by rw [s.own.len];exact hS.sh.1) (by rw [s.own.len];exact hS.sh.2)
    grind [uj,io]
  ·omega
 |back r W m3 T hA=>
  obtain ⟨W2,hA2,O,_⟩:=kX S m3 (F.rep r T);rw [hA] at hA2;cases hA2;exact t (w':={B with SQ:=W,TV:=none}) ⟨O,F.cur,λr e=>(by cases e),w⟩ rfl g _
open Go.Sx
theorem wL(hl:h.rings.length<=4):∃b,vi h=some b/\(b=true↔∃r∈h.rings,r.waiting≠ []):=by
 unfold vi;rw [xJ (by omega),zbs]
 obtain ⟨o,j,d⟩:OK (jM (de h) (λ(g:Unit)=>(.inl ())) (h.rings).length 0 ()) (λo=>match o with|.inl _=>∀r∈h.rings,r.waiting=[]|.inr b=>b=true/\∃r∈h.rings,r.waiting≠ []):=by
  refine i7 (λi _=>∀r∈h.rings.take i,r.waiting=[]) (by simp) (λi s f k l m=> ?_) (λs t=>by grind);unfold de;refine g9 (j4 k λr c=> ?_);obtain ⟨u,n,v⟩:=oh r;rw [n];simp only [zbs];refine d5 (λe=>b9 ⟨rfl,r,zmg c,λz=> ?_⟩) (λe=>m _ λq a=> ?_)
  ·grind
  ·rw [mP c] at a;rcases g8.1 a with a|a
   ·exact l q a
   ·rw [i6.1 a];have e:=yv e;exact SN.1 (by omega)
 rw [j];cases o with
 |inl _=>exact ⟨false,rfl,λz=>(by cases z),λ⟨r,c,p⟩=>absurd (d r c) p⟩
 |inr b=>exact ⟨b,rfl,λ_=>d.2,λ_=>d.1⟩
theorem wM(hl:h.LE.length<=4):∃b,vj h=some b/\(b=true↔∀w∈h.LE,w.SQ.SY=0):=by
 unfold vj;rw [xJ (by omega),zbs]
 obtain ⟨o,g,d⟩:OK (jM (df h) (λ(f:Unit)=>(.inl ())) (h.LE).length 0 ()) (λo=>match o with|.inl _=>∀w∈h.LE,w.SQ.SY=0|.inr b=>b=false/\∃w∈h.LE,w.SQ.SY≠0):=by
  refine i7 (λi _=>∀w∈h.LE.take i,w.SQ.SY=0) (by simp) (λi s c j n k=> ?_) (λs p=>by grind);unfold df jN;refine g9 (j4 j λw a=> ?_);simp only [zbs];refine d5 (λe=>b9 ⟨rfl,w,zmg a,by simpa using e⟩) (λe=>k _ λq l=> ?_);rw [mP a] at l
  grind
 rw [g];cases o with
 |inl _=>exact ⟨true,rfl,λ_=>d,λ_=>rfl⟩
 |inr b=>
  obtain ⟨e,w,a,m⟩:=d;exact ⟨b,rfl,λz=>(by grind),λz=>absurd (z w a) m⟩
theorem un(hl:h.LE.length<=4)(A:h.Fd.length<=4)(g:Bool):∃b,xK h g=some b/\(b=true↔(∀w∈h.LE,w.SZ=true)/\(g=true->∀o∈h.Fd,o.SZ=true)):=by
 unfold xK;rw [xJ (by omega),zbs]
 obtain ⟨o,p,k⟩:OK (jM (cj h) (λ(l:Unit)=>(.inl ())) (h.LE).length 0 ()) (λo=>match o with|.inl _=>∀w∈h.LE,w.SZ=true|.inr b=>b=false/\∃w∈h.LE,w.SZ=false):=by
  refine i7 (λi _=>∀w∈h.LE.take i,w.SZ=true) (by simp) (λi s a d r f=> ?_) (λs t=>by grind);unfold cj;refine g9 (j4 d λw c=>d5 (λe=>b9 ⟨rfl,w,zmg c,by simpa using e⟩) (λe=>f _ λq j=> ?_));rw [mP c] at j
  grind
 rw [p];cases o with
 |inr b=>
  obtain ⟨e,w,c,u⟩:=k;exact ⟨b,rfl,λz=>(by grind),λz=>(by grind)⟩
 |inl _=>
  simp only [zbs];rw [xJ (by omega),zbs]
  obtain ⟨o,v,m⟩:OK (jM (cm h g) (λ(n:Unit)=>(.inl ())) (h.Fd).length 0 ()) (λo=>match o with|.inl _=>g=true->∀o∈h.Fd,o.SZ=true|.inr b=>b=false/\g=true/\∃o∈h.Fd,o.SZ=false):=by
   refine i7 (λi _=>g=true->∀w∈h.Fd.take i,w.SZ=true) (by simp) (λi s a d r f=> ?_) (λs t=>by grind);unfold cm vk;refine g9 (j4 d λw c=> ?_);simp only [zbs];refine d6 (R:=λb=>b=(g&& !w.SZ)) (d5 (λe=>b9 (by simp [e])) (λe=>b9 (by simp [e]))) (λb x=> ?_);subst x;refine d5 (λe=>b9 ?_) (λe=>f _ λy q j=> ?_)
   ·grind
   ·rw [mP c] at j
    grind
  rw [v];cases o with
  |inl _=>exact ⟨true,rfl,λ_=>⟨k,m⟩,λ_=>rfl⟩
  |inr b=>
   obtain ⟨e,y,w,c,u⟩:=m;exact ⟨b,rfl,λz=>(by grind),λz=>(by grind)⟩
def Fin(h:za)(x:zx):Prop:=(x.cmd.SV=8/\∀e∈h.Fn.Th.in_,e=0\/x.Uy<=e)\/(x.cmd.SV≠8/\(∀r∈h.rings,r.waiting=[])/\∀w∈h.LE,w.SQ.SY=0)
theorem Qe(c:h.rings.length<=4)(f:h.LE.length<=4)(l:h.Fn.Th.in_.length<=4)(x:zx):∃b,xm x h=some b/\(b=true↔Fin h x):=by
 unfold xm;by_cases a:x.cmd.SV=8
 ·rw [d7 (by simp [a]),Jj _ _ (by omega),zbs];refine ⟨_,rfl,λe=>.inl ⟨a,yd e⟩,λe=> ?_⟩;rcases e with e|e
  ·grind
  grind
 ·rw [d8 (by simp [a])];obtain ⟨g,i,m⟩:=wL c;obtain ⟨n,j,d⟩:=wM f;rw [i,j];simp only [zbs];cases k:g with
  |true=>
   simp only [Bool.not_true,zfe,ya,zbs];refine ⟨_,rfl,λe=>(by cases e),λe=> ?_⟩;rcases e with e|e
   ·exact absurd e.1 a
   grind
  |false=>
   simp only [Bool.not_false,s7,zbs];refine ⟨_,rfl,λe=>.inr ⟨a,λr c=> ?_,d.1 e⟩,λe=> ?_⟩
   ·grind
   ·rcases e with e|e
    ·exact absurd e.1 a
    ·exact d.2 e.2.2
theorem pF(g:h.rings.length<=4)(j:h.LE.length<=4)(k:h.Fn.Th.in_.length<=4):∃i,xh h=some i/\((i= -1/\∀x∈h.held,¬ Fin h x)\/∃(a:Nat)(x:zx),i=(a:Int)/\h.held[a]? =some x/\Fin h x/\∀y∈h.held.take a,¬ Fin h y):=by
 unfold xh qg
 obtain ⟨o,u,v⟩:OK (jM (qw h.held h) (λ(d:Unit)=>(.inl ())) h.held.length 0 ()) (λo=>match o with|.inl _=>∀x∈h.held,¬ Fin h x|.inr i=>∃(a:Nat)(x:zx),i=(a:Int)/\h.held[a]? =some x/\Fin h x/\∀y∈h.held.take a,¬ Fin h y):=by
  refine i7 (λi _=>∀x∈h.held.take i,¬ Fin h x) (by simp) (λi s c l m n=> ?_) (λs w=>by grind);unfold qw;refine g9 (j4 l λx f=> ?_);obtain ⟨b,p,r⟩:=Qe g j k x;rw [p,zbs];refine d5 (λe=>b9 ⟨i,x,rfl,f,r.1 e,m⟩) (λe=>n _ λq t=> ?_);rw [mP f] at t
  grind
 grind
def AC(k:zd)(N E:Int):zd:={k with Tf:=0,Id:=⟨E,N,k.Id.TD,k.Id.Pairs⟩}
def AD(w t:Int)(h prog v:Int):ze:=⟨w,t,0,0,0,0,h,prog,v,0,kj,uk,0,0⟩
def sk(h:za)(d:zb)(c:List zd)(l a:List zx)(e:List ze):za:=
 {h with Fn:=d,or:=c,SX:=l,held:=a,Tr:=h.Tr++e}
def nQ(t:Int)(h:Int)(q:zY):ze:=⟨10,t,0,0,0,q.N,h,0,0,0,kj,uk,0,0⟩
def rC(r:zp):zp:=⟨r.room,true,[],⟨r.counts.TO,r.counts.TY,r.counts.Uw,w64 (r.counts.TW+(r.waiting.length:Int)),r.counts.Uc⟩⟩
def sM(t:Int)(a:List zp):List ze:=(a.mapIdx (λi r=>r.waiting.map (nQ t (i:Int)))).flatten
inductive K7 (t:Int) (r:zb) (x:zx):zb->Int->Int->List ze->Prop
 |load (n e:Int) (r':zb):x.cmd.SV=4->jq 2199023255552 r x.cmd.Tu=some (n,e,r')->K7 t r x r' n e (if e=0 then [AD 12 t 0 n 0] else [])
 |attach (v e:Int) (r':zb):x.cmd.SV=5->jA r x.cmd.TC x.cmd.TS=some (v,e,r')->K7 t r x r' v e (if e=0 then [AD 11 t x.cmd.TC x.cmd.TS v] else [])
 |swap (v e:Int) (r':zb):x.cmd.SV=6->jQ r x.cmd.TC x.cmd.TS=some (v,e,r')->K7 t r x r' v e (if e=0 then [AD 11 t x.cmd.TC x.cmd.TS v] else [])
 |detach (e:Int) (tb:zz):x.cmd.SV=7->xO r.Tk [x.cmd.TC]=some (e,tb)->K7 t r x (GN r tb) 0 e (if e=0 then [AD 11 t x.cmd.TC 0 0] else [])
 |retire (v e:Int) (r':zb):x.cmd.SV=8->qS r x.cmd.TS=some (v,e,r')->e≠0->K7 t r x r' 0 e []
inductive RMv (h:za) (t:Nat):za->Prop
 |fin (a:Nat) (x:zx) (u:Nat) (k:zd):h.held[a]? =some x->Fin h x->x.Tn=(u:Int)->h.or[u]? =some k->x.cmd.SV≠8->RMv h t (sk h h.Fn (h.or.set u (AC k 0 0)) h.SX (h.held.eraseIdx a) [])
 | retired (a : Nat) (x : zx) (u : Nat) (k : zd) : h.held[a]? = some x -> (Fin h x /\ ∀ y ∈ h.held.take a, ¬ Fin h y) -> x.Tn = (u : Int) -> h.or[u]? = some k -> x.cmd.SV = 8 ->
   RMv h t (sk h (settled h.Fn (iQ h.Fn 1)) (h.or.set u (AC k 0 0)) h.SX (h.held.eraseIdx a) [AD 13 t 0 x.cmd.TS 0])
 | over (u : Nat) (k : zd) (x : ql) : (∀ x ∈ h.held, ¬ Fin h x) -> h.SX = [] -> h.Tb = (u : Int) -> h.or[u]? = some k -> h.Td.SU[t]? = some x -> x.SY ≠ 2 ->
   RMv h t {h with Td:=K5 h.Td t x,or:=h.or.set u (AC k 0 0),over:=true,Tr:=h.Tr++[IG t]}
 |refuse (x:zx) (xs:List zx) (u:Nat) (k:zd):(∀x∈h.held,¬ Fin h x)->h.SX=x::xs->h.closed=true->x.Tn=(u:Int)->h.or[u]? =some k->RMv h t (sk h h.Fn (h.or.set u (AC k 0 43)) xs h.held [])
 | cmd (x : zx) (xs : List zx) (u : Nat) (k : zd) (r' : zb) (N E : Int) (es : List ze) : (∀ x ∈ h.held, ¬ Fin h x) -> h.SX = x :: xs -> h.closed = false -> x.Tn = (u : Int) -> h.or[u]? = some k -> K7 t h.Fn x r' N E es ->
   RMv h t (sk h r' (h.or.set u (AC k N E)) xs h.held es)
 | hold (x : zx) (xs : List zx) (v : Int) (r' : zb) : (∀ x ∈ h.held, ¬ Fin h x) -> h.SX = x :: xs -> h.closed = false -> x.cmd.SV = 8 -> qS h.Fn x.cmd.TS = some (v, 0, r') ->
   RMv h t (sk h r' h.or xs (h.held++[{x with Uy:=v}]) [])
 |drain (x:zx) (xs:List zx):(∀x∈h.held,¬ Fin h x)->h.SX=x::xs->h.closed=false->x.cmd.SV=9->RMv h t (sk h h.Fn h.or xs (h.held++[x]) [])
 | close (x : zx) (xs : List zx) : (∀ x ∈ h.held, ¬ Fin h x) -> h.SX = x :: xs -> h.closed = false -> x.cmd.SV = 10 ->
   RMv h t {h with rings:=h.rings.map rC,SX:=xs,Tb:=x.Tn,closed:=true,Tr:=h.Tr++sM t h.rings++[AD 14 t 0 0 0]}
open Go.Sx
theorem rD(h:h'.or.length=a)(b:h'.LE.length=n)(c:h'.Fd.length=j)(d:a<=4)(e:n<=4)(f:j<=4):qG h'=some ((a+n+j:Nat):Int):=by
 grind [qG,qe]
theorem gF{k:zd}(h:h'.or[n]? =some k)(N E:Int):jR h' (n:Int) N E=
  some {h' with or:=h'.or.set n (AC k N E)}:=by
 unfold jR;rw [zV h];simp only [zbs,l8];rfl
theorem N0(h:kU r)(g:zM):dB r g=some (r.waiting,rC r):=by
 obtain ⟨a,b,c⟩:=h;unfold dB qv;rw [xJ (by simp;omega)];rfl
theorem La{x:zx}{s:List zp×List ze}{r:List zY×zp}(d:qG h=some (n:Int))(hl:s.2.length+r.1.length<=500000000000):
  jM (dm h x i s r) (λ(b:(List ze))=>b) r.1.length 0 s.2=some (s.2++r.1.map (nQ n (i:Int))):=by
 refine OK.is (i7 (λa l=>l=s.2++(r.1.take a).map (nQ n (i:Int))) (by simp) (λa l c e f g=> ?_) (λl hl=>by grind));subst f;unfold dm;refine g9 (j4 e λq j=> ?_);have k:qG {h with rings:=(s.1.set (Int.toNat (i:Int)) r.2),Tb:=x.Tn,closed:=true,Tr:=(s.2++(r.1.take a).map (nQ n (i:Int)))}=some (n:Int):=d;rw [k];simp only [zbs];rw [xJ (by grind)];simp only [zbs];refine g _ ?_;rw [mP j,o7,<- x4];rfl
theorem Cf{l:List (List α)}{b:Nat}(h:∀p∈l,p.length<=b):l.flatten.length<=l.length*b:=by
 induction l with
 |nil=>simp
 |cons p l i=>
  have c:=h p zcs;have d:=i λq a=>h q (zcm _ a)
  rw [yl,q7,u5,v9];omega
theorem Cg{t:Int}(h:∀r∈m,kU r):(sM t m).length<=m.length*16:=by
 unfold sM
 have:=Cf (l:=m.mapIdx (λi r=>r.waiting.map (nQ t (i:Int)))) (b:=16) (λp e=>by
  obtain ⟨i,c⟩:=p6 e;rw [List.getElem?_mapIdx] at c;obtain ⟨r,f,rfl⟩:=yn.1 c;obtain ⟨a,b,d⟩:=h r (zmg f)
  grind)
 grind
theorem Lb{x:zx}{t:Nat}(C:qG h=some (t:Int))(z:∀r∈h.rings,kU r)(D:h.rings.length<=4)(hl:h.Tr.length<=400000000000):
  jM (dp h x) (λ(c:(List zp)×(List ze))=>{h with rings:=c.1,Tb:=x.Tn,closed:=true,Tr:=c.2}) (h.rings).length 0 (h.rings,h.Tr)=
   some {h with rings:=(h.rings.map rC),Tb:=x.Tn,closed:=true,Tr:=(h.Tr++sM t h.rings)}:=by
 refine OK.is (i7 (λi s=>s.1.length=h.rings.length/\(∀j,s.1[j]? =if j<i then (h.rings[j]?).map rC else h.rings[j]?)/\s.2=h.Tr++((h.rings.mapIdx (λi r=>r.waiting.map (nQ t (i:Int)))).take i).flatten) ⟨rfl,λj=>by grind,by simp⟩ (λi s n A o m=> ?_) (λs o=> ?_))
 ·obtain ⟨f,e⟩:=s;obtain ⟨q,u,g⟩:=o;have q:f.length=h.rings.length:=q;have u:∀j,f[j]? =if j<i then (h.rings[j]?).map rC else h.rings[j]? :=u
  have g:e=h.Tr++((h.rings.mapIdx (λi r=>r.waiting.map (nQ t (i:Int)))).take i).flatten:=g;unfold dp;have L:=zeg A;have v:f[i]? =some h.rings[i]:=by grind
  have k:=z _ (yo A);have w:(h.rings.mapIdx (λi r=>r.waiting.map (nQ t (i:Int))))[i]? =some (h.rings[i].waiting.map (nQ t (i:Int))):=by grind
  have E:=Cf (l:=(h.rings.mapIdx (λi r=>r.waiting.map (nQ t (i:Int)))).take i) (b:=16) (λp F=>by
   obtain ⟨a,m⟩:=p6 (y7 F);rw [List.getElem?_mapIdx] at m;obtain ⟨r,y,rfl⟩:=yn.1 m;obtain ⟨a,b,d⟩:=z r (zmg y)
   grind)
  have B:((h.rings.mapIdx (λi r=>r.waiting.map (nQ t (i:Int)))).take i).length<=4:=by grind
  have G:e.length<=400000000064:=by grind
  rw [zV (xs:=(f,e).1) v];simp only [zbs];rw [N0 k];simp only [zbs];have I:h.rings[i].waiting.length<=16:=by obtain ⟨a,b,d⟩:=k;omega
  rw [La (h:=h) (x:=x) (i:=i) (s:=(f,e)) (r:=(h.rings[i].waiting,rC h.rings[i])) C (by grind)];simp only [zbs,l8];refine m _ ⟨by grind,λj=> ?_,?_⟩
  ·grind
  ·show e++_=_;rw [mP w,yx,<- x4,<- g];simp
 ·obtain ⟨f,e⟩:=s;obtain ⟨q,u,g⟩:=o
  have J:f=h.rings.map rC:=by
   refine o5 λj=> ?_
   grind
  have K:e=h.Tr++sM t h.rings:=by
   rw [show e=_ from g];unfold sM;rw [t7 (by grind)]
  rw [J,K]
theorem D4{α:Type}(l:List α)(h:a<l.length):l.take a++l.drop (a+1)=l.eraseIdx a:=(List.eraseIdx_eq_take_drop_succ l a).symm
theorem rE(d:HI c f n h)(e:q.length<=140737488355328):∃v,jq 2199023255552 h.Fn q=some (if v.2≠0 then (0,v.2,h.Fn) else if 16<=h.Fn.Tl.length then (0,40,h.Fn) else (h.Fn.given+1,0,added h.Fn v.1))/\oL h.Fn.maps q=some v/\
  (v.2=0->ut v.1.Maps/\(∀x∈v.1.Maps,x<h.Fn.maps)/\v.1.Code.length<=64):=by
 obtain ⟨v,a,b⟩:=GM h.Fn.maps e;exact ⟨v,Ow d.TT a b,a,b⟩
theorem N1(X:aq c f)(j:HI c f n h){t:Nat}(ht:t=h.or.length+h.LE.length+h.Fd.length)(V:(∀x∈h.held,¬ Fin h x)->h.SX=[]->h.closed=true)(hk:h.Td.SU[t]? =some x)(hm:x.SY≠2):
  OK (dC 2199023255552 h) (RMv h t):=by
 have Y:=j.cl;have Z:=j.crn X;have hSc:=X.cl;have hSw:=X.wk;have ho4:=(j.own4 X).1;have hlog:=j.logb;have hb:=j.TU;have hln:=j.Va;have hhl:=j.hel;obtain ⟨hr1,hr2,hr4⟩:=j.hooks4 X;have hwk:=j.TT.wk;have hsm:=j.TT.UN
 have s:∀{h':za},h'.or.length=h.or.length->h'.LE.length=h.LE.length->h'.Fd.length=h.Fd.length->qG h'=some (t:Int):=λe1 e2 e3=>by
  rw [rD (e1.trans Y) (e2.trans Z) e3 (by omega) (by omega) ho4,ht,Y,Z]
 have P:∀e:ze,room (h.Tr.length+[e].length) 176=some ():=λe=>xJ (by grind)
 have who:∀y∈h.SX++h.held,∃(u:Nat)(k:zd),y.Tn=(u:Int)/\h.or[u]? =some k:=λy T=>by
  obtain ⟨⟨u,e1,e2⟩,_⟩:=j.call y T;exact ⟨u,_,e1,zeg (by omega)⟩
 unfold dC;obtain ⟨i,e1,e2⟩:=pF (h:=h) (by omega) (by omega) (by omega);rw [e1];simp only [zbs];rcases e2 with ⟨rfl,F⟩|⟨a,y,rfl,T,Q,hff⟩
 ·refine j8 (by decide) ?_;refine d5 (λw=> ?_) (λw=> ?_)
  ·have w:h.SX=[]:=SN.1 (by simpa using w);obtain ⟨u,A,u2⟩:=j.Tb;have C:=zeg (show u<h.or.length by omega);rw [A,gF (h':=za.mk h.Fn h.Td h.Tm h.or h.LE h.Fd h.rings h.SX h.held (u:Int) h.closed true h.Tr h.TF) C];simp only [zbs];rw [s (h':=za.mk h.Fn h.Td h.Tm (h.or.set u (AC h.or[u] 0 0)) h.LE h.Fd h.rings h.SX h.held (u:Int) h.closed true h.Tr h.TF) (by grind) rfl rfl];simp only [zbs];rw [P];simp only [zbs];rw [oG hk hm];simp only [zbs];have:=RMv.over (h:=h) (t:=t) u _ x F w A C hk hm;rw [A] at this;exact b9 this
  ·have w:¬ h.SX=[]:=λz=>by rw [z] at w;cases w
   obtain ⟨y,d,hl⟩:=List.exists_cons_of_ne_nil w
   have hcut:cut h.SX 1 (h.SX.length:Int)=some d:=by
    rw [hl];unfold cut;rw [d7 (by simp;omega)];simp
   have hix:Go.Sx.idx h.SX 0=some y:=by rw [hl];rfl
   rw [hix,hcut];simp only [zbs];have hyl:y∈h.SX++h.held:=zal _ (by grind);obtain ⟨u,k,A,C⟩:=who y hyl;obtain ⟨_,hmod,k4,k10⟩:=j.call y hyl;refine d5 (λG=> ?_) (λG=> ?_)
   ·rw [A,gF (h':=za.mk h.Fn h.Td h.Tm h.or h.LE h.Fd h.rings d h.held h.Tb h.closed h.over h.Tr h.TF) C];have:=RMv.refuse (h:=h) (t:=t) y d u k F hl G A C
    grind [sk,b9]
   refine d6 (R:=RMv h t) ?_ (λr V=>b9 V);have I:∀{l:zb} {N E:Int} {es:List ze},K7 t h.Fn y l N E es->RMv h t (sk h l (h.or.set u (AC k N E)) d h.held es):=λhc=>.cmd y d u k _ _ _ _ F hl G A C hc
   have U:∀(l:zb)(p v e:Int),OK (xv {h with Fn:=l,SX:=d} y p v e) (λh'=>h'=sk h l (h.or.set u (AC k v e)) d h.held (if e=0 then [AD 11 t y.cmd.TC p v] else [])):=λl p v e=>by
    unfold xv;by_cases D:e=0
    ·subst D;refine d6 (R:=λh'=>h'=za.mk l h.Td h.Tm h.or h.LE h.Fd h.rings d h.held h.Tb h.closed h.over (h.Tr++[AD 11 t y.cmd.TC p v]) h.TF) (o8 rfl ?_) (λh' B=> ?_)
     ·rw [s (h':=za.mk l h.Td h.Tm h.or h.LE h.Fd h.rings d h.held h.Tb h.closed h.over h.Tr h.TF) rfl rfl rfl];simp only [zbs];rw [P];exact b9 rfl
     ·subst B;rw [A,gF (h':=za.mk l h.Td h.Tm h.or h.LE h.Fd h.rings d h.held h.Tb h.closed h.over (h.Tr++[AD 11 t y.cmd.TC p v]) h.TF) C];exact b9 (by rw [d7 rfl];rfl)
    ·refine d6 (R:=λh'=>h'=za.mk l h.Td h.Tm h.or h.LE h.Fd h.rings d h.held h.Tb h.closed h.over h.Tr h.TF) (j8 (by simp [D]) (b9 rfl)) (λh' B=> ?_);subst B;rw [A,gF (h':=za.mk l h.Td h.Tm h.or h.LE h.Fd h.rings d h.held h.Tb h.closed h.over h.Tr h.TF) C];refine b9 ?_;rw [d8 D];unfold sk;rw [j7]
   unfold cT;refine d5 (λJ=> ?_) (λJ=> ?_)
   ·have J:y.cmd.SV=4:=by simpa using J
    obtain ⟨v,v1,_⟩:=rE j hmod;generalize hq:(if v.2≠0 then (0,v.2,h.Fn) else if 16<=h.Fn.Tl.length then (0,40,h.Fn) else (h.Fn.given+1,0,added h.Fn v.1):Int×Int×zb)=q at v1;obtain ⟨q1,q2,W⟩:=q;simp only;rw [v1];simp only [zbs];have o:=I (K7.load (t:=t) q1 q2 W J v1);by_cases D:q2=0
    ·subst D;refine d6 (R:=λh'=>h'=za.mk W h.Td h.Tm h.or h.LE h.Fd h.rings d h.held h.Tb h.closed h.over (h.Tr++[AD 12 t 0 q1 0]) h.TF) (o8 rfl ?_) (λh' B=> ?_)
     ·rw [s (h':=za.mk W h.Td h.Tm h.or h.LE h.Fd h.rings d h.held h.Tb h.closed h.over h.Tr h.TF) rfl rfl rfl];simp only [zbs];rw [P];exact b9 rfl
     ·subst B;rw [A,gF (h':=za.mk W h.Td h.Tm h.or h.LE h.Fd h.rings d h.held h.Tb h.closed h.over (h.Tr++[AD 12 t 0 q1 0]) h.TF) C];rw [d7 rfl] at o;exact b9 o
    ·refine d6 (R:=λh'=>h'=za.mk W h.Td h.Tm h.or h.LE h.Fd h.rings d h.held h.Tb h.closed h.over h.Tr h.TF) (j8 (by simp [D]) (b9 rfl)) (λh' B=> ?_);subst B;rw [A,gF (h':=za.mk W h.Td h.Tm h.or h.LE h.Fd h.rings d h.held h.Tb h.closed h.over h.Tr h.TF) C];rw [d8 D] at o;unfold sk at o;rw [j7] at o;exact b9 o
   refine d5 (λK=> ?_) (λK=> ?_)
   ·have K:y.cmd.SV=5:=by simpa using K
    obtain ⟨⟨v,e,l⟩,v1,_⟩:=uD j.TT y.cmd.TC y.cmd.TS;simp only;rw [v1];simp only [zbs];refine d6 (U l y.cmd.TS v e) (λh' B=>b9 ?_);rw [B];exact I (.attach v e l K v1)
   refine d5 (λL=> ?_) (λL=> ?_)
   ·have L:y.cmd.SV=6:=by simpa using L
    obtain ⟨⟨v,e,l⟩,v1,_⟩:=Er j.TT y.cmd.TC y.cmd.TS;simp only;rw [v1];simp only [zbs];refine d6 (U l y.cmd.TS v e) (λh' B=>b9 ?_);rw [B];exact I (.swap v e l L v1)
   refine d5 (λM=> ?_) (λM=> ?_)
   ·have M:y.cmd.SV=7:=by simpa using M
    obtain ⟨⟨e,tb⟩,v1,_⟩:=uE j.TT y.cmd.TC;simp only;rw [v1];simp only [zbs];refine d6 (U (GN h.Fn tb) 0 0 e) (λh' B=>b9 ?_);rw [B];exact I (.detach e tb M v1)
   refine d5 (λg=> ?_) (λg=> ?_)
   ·have g:y.cmd.SV=8:=by simpa using g
    obtain ⟨⟨v,e,l⟩,v1,_⟩:=mZ j.TT y.cmd.TS;simp only;rw [v1];simp only [zbs];refine d5 (λD=> ?_) (λD=> ?_)
    ·have D:e≠0:=by simpa using D
     rw [A,gF (h':=za.mk l h.Td h.Tm h.or h.LE h.Fd h.rings d h.held h.Tb h.closed h.over h.Tr h.TF) C];have o:=I (.retire v e l g v1 D);unfold sk at o;rw [j7] at o;exact b9 o
    ·have D:e=0:=by simpa using D
     subst D;rw [xJ (m:=h.held.length+_) (b:=144) (by simp only [u5,y9];omega)];have:=RMv.hold (h:=h) (t:=t) y d v l F hl G g v1;unfold sk at this;rw [j7] at this;exact b9 this
   refine d5 (λO=> ?_) (λO=> ?_)
   ·have O:y.cmd.SV=9:=by simpa using O
    simp only;rw [xJ (m:=h.held.length+_) (b:=144) (by simp only [u5,y9];omega)];have:=RMv.drain (h:=h) (t:=t) y d F hl G O;unfold sk at this;rw [j7] at this;exact b9 this
   simp only [beq_eq_false_iff_ne] at J K L M g O;have S:y.cmd.SV=10:=by omega
   refine o8 (by simp [S]) ?_;rw [Lb (h:=za.mk h.Fn h.Td h.Tm h.or h.LE h.Fd h.rings d h.held h.Tb h.closed h.over h.Tr h.TF) (x:=y) (t:=t) (s rfl rfl rfl) (λr V=>(j.Uj r V).1) (by show h.rings.length<=4;omega) (by show h.Tr.length<=_;omega)];simp only [zbs];rw [s (h':=za.mk h.Fn h.Td h.Tm h.or h.LE h.Fd (h.rings.map rC) d h.held y.Tn true h.over (h.Tr++sM t h.rings) h.TF) rfl rfl rfl];simp only [zbs];have hd:=Cg (t:=(t:Int)) (λr V=>(j.Uj r V).1);rw [xJ (by simp only [q7,u5,y9];omega)];exact b9 (.close y d F hl G S)
 ·refine o8 (by simp) ?_;have hal:=(zes.1 T).1;rw [zV T];simp only [zbs]
  have hdel:qd h.held (a:Int) (w64 ((a:Int)+1))=some (h.held.eraseIdx a):=by
   unfold qd ML;rw [qe (by omega) (by omega),d7 (by omega),<- D4 _ hal];rw [show ((a:Int)+1).toNat=a+1 by omega];rfl
  rw [hdel];simp only [zbs];obtain ⟨u,k,A,C⟩:=who y (zar _ (zmg T));by_cases g:y.cmd.SV=8
  ·refine d6 (R:=λh'=>h'=za.mk (settled h.Fn (iQ h.Fn 1)) h.Td h.Tm h.or h.LE h.Fd h.rings h.SX (h.held.eraseIdx a) h.Tb h.closed h.over (h.Tr++[AD 13 t 0 y.cmd.TS 0]) h.TF) (o8 (by simp [g]) ?_) (λh' B=> ?_)
   ·rw [Jn j.TT 1];simp only [zbs];rw [s (h':=za.mk (settled h.Fn (iQ h.Fn 1)) h.Td h.Tm h.or h.LE h.Fd h.rings h.SX (h.held.eraseIdx a) h.Tb h.closed h.over h.Tr h.TF) rfl rfl rfl];simp only [zbs];rw [P];exact b9 rfl
   ·subst B;rw [A,gF (h':=za.mk (settled h.Fn (iQ h.Fn 1)) h.Td h.Tm h.or h.LE h.Fd h.rings h.SX (h.held.eraseIdx a) h.Tb h.closed h.over (h.Tr++[AD 13 t 0 y.cmd.TS 0]) h.TF) C];exact b9 (.retired a y u k T ⟨Q,hff⟩ A C g)
  ·refine d6 (R:=λh'=>h'=za.mk h.Fn h.Td h.Tm h.or h.LE h.Fd h.rings h.SX (h.held.eraseIdx a) h.Tb h.closed h.over h.Tr h.TF) (j8 (by simp [g]) (b9 rfl)) (λh' B=> ?_);subst B;rw [A,gF (h':=za.mk h.Fn h.Td h.Tm h.or h.LE h.Fd h.rings h.SX (h.held.eraseIdx a) h.Tb h.closed h.over h.Tr h.TF) C];have:=RMv.fin (h:=h) (t:=t) a y u k T Q A C g;unfold sk at this;rw [j7] at this;exact b9 this
end Go.Proofs.YtplmgfkghomelaaGreatDoor.KH
