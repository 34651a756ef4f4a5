/- Lemmas. -/
import Derived.Test.YtplmgfkghomelaaGreatDoorKH12
set_option linter.all false
namespace Go.Proofs.YtplmgfkghomelaaGreatDoor.KH
open Go.Sx
variable {h h':za}{c:zH}{f:List (List zF)}{n j a y A i:Nat}{x:qn}{α:Type}{o z w' B:zA}{e:Int}{l:List zx}{d:zb}{r:zp}{m:List zp}{q:List Int}
def wU(h:za)(d:zb)(k:zn)(w:List zA)(os:List zc)(r:List zp)(e:ze):za:=
 {h with Fd:=d,Um:=k,LE:=w,Fn:=os,rings:=r,Un:=h.Un++[e]}
def RP(r:zb)(k:zG):zb:={r with Uo:=k}
def inW(w:zA)(W:zl):zA:={w with TX:=W}
def AO(w t:Int)(e h prog a p:Int)(i:zg)(r:zk)(v:Int):ze:=⟨w,t,0,0,0,e,h,prog,a,p,i,r,v,0⟩
inductive WMv (h:za) (j:Nat) (w:zA) (t:Nat):za->Prop
 | ends (x : qn) : w.TX.Ua = 0 -> h.closed = true -> h.Um.Ub[t]? = some x -> x.Ua ≠ 2 ->
   WMv h j w t (wU h h.Fd (LK h.Um t x) (h.LE.set j {w with Ue:=true}) h.Fn h.rings (AM t))
 | take (i : Nat) (r r' : zp) (q : qa) (qs : List qa) (cur : Int) : w.TX.Ua = 0 -> h.closed = false -> h.rings[i]? = some r -> r.waiting = q :: qs -> vj r h.UL = some (q, true, r') -> 0 <= cur -> cur < h.rings.length ->
   WMv h j w t (wU h h.Fd h.Um (h.LE.set j ⟨⟨w.TX.UM,w.TX.Vh,1,⟨i,q,0,0,0,none⟩⟩,cur,w.pc,w.Va,w.Ue⟩) h.Fn (h.rings.set i r') (AO 5 t q.N i 0 0 0 kE uz 0))
 | skip (st : zU) (v p : Int) : w.TX.Ua = 1 -> jn h.Fd.Us w.TX.UE.hook = some (v, p, false) -> xO w.TX = some (0, ⟨w.TX.UM, st, 0, ⟨0, ⟨0, ⟨0, 0⟩⟩, 0, 0, 0, none⟩⟩) ->
   WMv h j w t (wU h h.Fd h.Um (h.LE.set j (inW w ⟨w.TX.UM,st,0,⟨0,⟨0,⟨0,0⟩⟩,0,0,0,none⟩⟩)) h.Fn h.rings (AO 9 t w.TX.UE.UK.N w.TX.UE.hook 0 0 0 kE uz 0))
 | enter (v p : Int) (m : zE) (b : Bool) (e1 e2 : Int) (ck : zG) (e : Int) (W' : zl) : w.TX.Ua = 1 -> jn h.Fd.Us w.TX.UE.hook = some (v, p, true) -> qR h.Fd p = some (m, b) ->
   vq h.Fd.Uo j=some (e1,e2,ck)->jY 2199023255552 w.TX v p m=some (e,W')->
   WMv h j w t (wU h (RP h.Fd ck) h.Um (h.LE.set j (inW w W')) h.Fn h.rings (AO 6 t w.TX.UE.UK.N w.TX.UE.hook p v 0 kE uz 0))
 | note (a : qT) (W' : zl) : w.TX.Ua = 2 -> qA 2199023255552 w.TX = some (a, true, W') -> a.TY = 3 ->
   WMv h j w t (wU h h.Fd h.Um (h.LE.set j (inW w W')) h.Fn h.rings (AO 8 t w.TX.UE.UK.N 0 w.TX.UE.prog w.TX.UE.Ux a.Pc kE uz a.UQ))
 | ask (a : qT) (W' : zl) : w.TX.Ua = 2 -> qA 2199023255552 w.TX = some (a, true, W') -> a.TY = 2 ->
   WMv h j w t (wU h h.Fd h.Um (h.LE.set j {w with TX:=W',pc:=a.Pc}) (oG h.Fn (iD a.Item.UV h.Fn.length,⟨t,0,false,a.Item⟩)) h.rings (AO 16 t w.TX.UE.UK.N 0 w.TX.UE.prog w.TX.UE.Ux a.Pc a.Item uz a.UQ))
 | done (a : qT) (W' : zl) (e1 : Int) (ck : zG) : w.TX.Ua = 2 -> qA 2199023255552 w.TX = some (a, true, W') -> a.TY = 4 -> vr h.Fd.Uo [(j : Int)] = some (e1, ck) ->
   WMv h j w t (wU h (RP h.Fd ck) h.Um (h.LE.set j (inW w W')) h.Fn h.rings (AO 9 t w.TX.UE.UK.N w.TX.UE.hook w.TX.UE.prog w.TX.UE.Ux a.Pc kE uz a.UQ))
 | ran (a : qT) (W' : zl) : w.TX.Ua = 2 -> qA 2199023255552 w.TX = some (a, true, W') -> a.TY = 1 ->
   WMv h j w t (wU h h.Fd h.Um (h.LE.set j (inW w W')) h.Fn h.rings (AO 7 t w.TX.UE.UK.N 0 w.TX.UE.prog w.TX.UE.Ux a.Pc kE uz a.UQ))
 | back (r : zk) (W' : zl) : w.TX.Ua = 3 -> w.Va = some r -> xn w.TX r = some (0, W') ->
   WMv h j w t (wU h h.Fd h.Um (h.LE.set j {w with TX:=W',Va:=none}) h.Fn h.rings (AO 17 t w.TX.UE.UK.N 0 w.TX.UE.prog w.TX.UE.Ux w.pc kE r 0))
theorem OG(hl:h.rings.length=n)(B:1<=n/\n<=4)(C:0<=o.UH)(D:o.UH<n){g:zp}(a:h.rings[j]? =some g)(q:g.waiting≠ []):
  ∃(i:Nat)(r:zp),loop (cR h) 2199023255552 o=some {o with UH:=(i:Int)}/\h.rings[i]? =some r/\r.waiting≠ []:=by
 have t:=(zes.1 a).1
 obtain ⟨s,e,i,r,rfl,E,F⟩:=mf (body:=cR h) (λm s=>∃c:Nat,s={o with UH:=(c:Int)}/\c<n/\m=if c<=j then j-c else j+n-c) (λs=>∃(i:Nat)(r:zp),s={o with UH:=(i:Int)}/\h.rings[i]? =some r/\r.waiting≠ []) (λm s b u k=>by
  obtain ⟨c,rfl,G,I⟩:=u;unfold cR;have d:c<h.rings.length:=by omega
  have l:=zeg d;rw [zX l];simp only [zbs];obtain ⟨v,f,w⟩:=oF h.rings[c];rw [f];simp only [zbs];by_cases p:v.Vi=0
  ·rw [d7 (by simp [p])]
   have x:c≠j:=λe=>by
    subst e;rw [l] at a;obtain rfl:=i8 a;rw [w] at p;exact q (TK.1 (by omega))
   have y:nz (h.rings.length:Int)=some ():=by grind [nz]
   rw [y,zbs,qq (by omega) (by omega)];by_cases z:c+1<n
   ·rw [Int.tmod_eq_of_lt (by omega) (by omega)];refine k (if c+1<=j then j-(c+1) else j+n-(c+1)) _ ?_ ⟨c+1,rfl,z,rfl⟩
    grind
   ·have:c+1=n:=by omega
    have A:(c:Int)+1=(h.rings.length:Int):=by omega
    rw [A,Int.tmod_self];refine k j _ ?_ ⟨0,rfl,by omega,by grind⟩
    grind
  grind) 2199023255552 (if o.UH.toNat<=j then j-o.UH.toNat else j+n-o.UH.toNat) o (by split<;>omega) ⟨o.UH.toNat,by rw [show ((o.UH.toNat:Nat):Int)=o.UH by omega],by omega,rfl⟩
 grind
theorem G0{t:zC}(h:0<=e)(a:e<t.Uk.length):∃v p b,jn t e=some (v,p,b):=by
 obtain ⟨x,c,_⟩:=pM (xs:=t.Uk) h a;unfold jn jg jh;have d:(decide (e>=0)&&decide (e<(t.Uk.length:Int)))=true:=by grind
 rw [d,c];simp only [zbs,Bool.not_true,zfe,x5];cases decide (x.Ux>0) with
 |true=>exact ⟨_,_,_,rfl⟩
 |false=>exact ⟨_,_,_,rfl⟩
theorem HI.hooks4(a:aQ c f)(b:HI c f n h):h.rings.length=c.Up.toNat/\1<=c.Up.toNat/\c.Up.toNat<=4:=by
 have d:=b.rg;have e:=a.hk;omega
theorem HI.module(e:HI c f n h)(p:Int):∃m b,qR h.Fd p=some (m,b)/\m.Maps.length*8<=140737488355328/\m.Code.length*40<=140737488355328/\∀x∈m.Maps,x<(c.Maps.length:Int):=by
 have i:=CP e.UO p;cases g:ja h.Fd.Uj p with
 |none=>
  grind
 |some x=>
  rw [g] at i;obtain ⟨_,_,a,b,d,_⟩:=e.UO.prog p x g;have j:=a.2.2
  grind
theorem OH(L:aQ c f)(g:HI c f n h)(R:h.LE[j]? =some z)(ht:y=h.or.length+j)
  (X:z.TX.Ua=0->z.Ue=false/\(h.closed=true\/∃r∈h.rings,r.waiting≠ [])) (Y:z.TX.Ua=3->z.Va.isSome=true) {x:qn} (hk:h.Um.Ub[y]? =some x) (hm:x.Ua≠2):
  OK (dC 2199023255552 h (y:Int)) (WMv h j z y):=by
 have hjl:=(zes.1 R).1;have hcl:=g.cl;have hcr:=g.crn L;have hSc:=L.cl;have hSw:=L.wk;have hlog:=g.logb;obtain ⟨Z,B,s⟩:=g.hooks4 L;have M:=g.crew z (zmg R);have u:=M.UE;have d:∀e:ze,room (h.Un.length+[e].length) 176=some ():=λe=>xi (by grind)
 unfold dC zZ xw jQ vY;simp only [zbs];have e2:w64 ((y:Int)-(h.or.length:Int))=(j:Int):=by grind [qq]
 rw [e2,zX R];simp only [zbs,l6];rcases u.is with N|K|⟨A,_⟩|⟨C,_⟩
 ·refine o9 (by simp [N]) ?_;refine d5 (λD=> ?_) (λD=> ?_)
  ·rw [d];simp only [zbs];rw [oX hk hm];simp only [zbs];exact b9 (.ends x N D hk hm)
  ·obtain ⟨_,S⟩:=X N;rcases S with S|⟨r0,S,E⟩
   ·grind
   obtain ⟨i0,hi0⟩:=q8 S;obtain ⟨i,r,e3,T,e5⟩:=OG Z ⟨B,s⟩ M.cur.1 M.cur.2 hi0 E;have hil:=(zes.1 T).1;rw [e3];simp only [zbs];rw [zX T];simp only [zbs];have O:=g.Vn r (zmg T);cases F:r.waiting with
   |nil=>exact absurd F e5
   |cons q qs=>
    obtain ⟨r',t1,t2,t3,t4⟩:=ni O.1 h.UL F;rw [t1];have hz:nz (h.rings.length:Int)=some ():=by grind [nz]
    simp only [zbs];rw [hz];simp only [zbs];rw [(Q5 u s N (k:=(i:Int)) (by omega) (by omega) (O.2 q (by grind))).1];simp only [zbs];rw [d];simp only [zbs,l6]
    have h5:0<=(w64 ((i:Int)+1)).tmod (h.rings.length:Int)/\(w64 ((i:Int)+1)).tmod (h.rings.length:Int)<h.rings.length:=by
     rw [qq (by omega) (by omega)];exact ⟨Int.tmod_nonneg _ (by omega),Int.tmod_lt_of_pos _ (by omega)⟩
    exact b9 (.take i r r' q qs _ N D T F t1 h5.1 h5.2)
 ·refine j7 (by simp [K]) ?_;refine o9 (by simp [K]) ?_;have hhl:=g.UO.hl;obtain ⟨v,p,b,G⟩:=G0 (t:=h.Fd.Us) u.hook.1 (by have:=u.hook.2;omega);rw [G];simp only [zbs];cases b with
  |false=>
   refine o9 rfl ?_;obtain ⟨st,s1,s2⟩:=Q6 u B s K;rw [s1];simp only [zbs];rw [d];simp only [zbs];exact b9 (.skip st v p K G s1)
  |true=>
   refine j7 rfl ?_;obtain ⟨m,b,P,hm2,hm3,hm4⟩:=g.module p;rw [P];simp only [zbs];obtain ⟨⟨e1,e2,ck⟩,I,_⟩:=A9 g.UO (j:Int);rw [I];simp only [zbs];obtain ⟨e,W,hE,_⟩:=Cw u K hm2 hm3 hm4 v p;rw [hE];simp only [zbs];rw [d];simp only [zbs];exact b9 (.enter v p m b e1 e2 ck e W K G P I hE)
 ·refine j7 (by simp [A]) ?_;refine j7 (by simp [A]) ?_;refine o9 (by simp [A]) ?_;obtain ⟨a,W,l,hWJ,hWS⟩:=Jr B s u A;rw [l];simp only [zbs];have Q:=g.own;have hb:=g.UZ;rcases hWS with ⟨U,_⟩|⟨k2,_,_,_,_,_,⟨g1,g2,g3,g4,g5,g6⟩,_⟩|⟨k13,_⟩
  ·refine j7 (by simp [U]) ?_;refine j7 (by simp [U]) ?_;refine o9 (by simp [U]) ?_;obtain ⟨⟨e1,ck⟩,I,_⟩:=Ba g.UO (j:Int);rw [I];simp only [zbs];rw [d];simp only [zbs];exact b9 (.done a W e1 ck A l U I)
  ·refine j7 (by simp [k2]) ?_;refine o9 (by simp [k2]) ?_
   have E:∀o∈h.Fn,o.Ue=false:=λo ho=>by
    cases I:o.Ue with
    |false=>rfl
    |true=>
     have:=M.over ((g.VB o ho I).2 z (zmg R));omega
   obtain ⟨p,o,q1,q2,q3,q4,q5,q6⟩:=Ej Q L.sh E (r:=⟨(y:Int),0,false,a.Item⟩) g1 g2 ⟨g3,g4⟩ (by omega);have q2:aA a.Item.UV (h.Fn.length:Int)=some (p:Int):=q2;rw [q2];simp only [zbs];rw [q4];simp only [zbs];rw [q6];simp only [zbs];rw [d];simp only [zbs,l6];have:=WMv.ask (h:=h) (j:=j) (w:=z) (t:=y) a W A l k2;have q1:iD a.Item.UV h.Fn.length=p:=q1
   have e7:oG h.Fn (p,⟨(y:Int),0,false,a.Item⟩)=h.Fn.set p (KI o ⟨(y:Int),0,false,a.Item⟩):=by
    grind [oG]
   rw [q1,e7] at this;exact b9 this
  ·rcases k13 with V|k3
   ·refine j7 (by simp [V]) ?_;refine j7 (by simp [V]) ?_;refine j7 (by simp [V]) ?_;rw [d];simp only [zbs];exact b9 (.ran a W A l V)
   ·refine o9 (by simp [k3]) ?_;rw [d];simp only [zbs];exact b9 (.note a W A l k3)
 ·refine j7 (by simp [C]) ?_;refine j7 (by simp [C]) ?_;refine j7 (by simp [C]) ?_;refine o9 (by simp [C]) ?_;cases J:z.Va with
  |none=>have:=Y C;rw [J] at this;cases this
  |some r=>
   simp only [zbs];rw [d];simp only [zbs];obtain ⟨W,hA,_⟩:=lD u C (M.rep r J);rw [hA];simp only [zbs];exact b9 (.back r W C J hA)
open Go.Sx
theorem Jg(h:∀x∈l,x.Ut≠e):bX l e=0:=by
 grind [bX]
theorem HI.reg0(a:HI c f n h)(i:f.length<=j):gr h j=0:=by
 have k:∀x∈h.TZ++h.held,x.Ut≠j:=λx b e=>by
  obtain ⟨⟨u,d,g⟩,_⟩:=a.call x b;omega
 obtain ⟨u,d,g⟩:=a.Uh
 grind [gr,Jg]
theorem AP(g:HI c f n h)(I:n+1<=100000000){w:zA}(N:h.LE[j]? =some w)(z:fK c.Up.toNat c.Maps.length c.Uc.toNat (n+1) d){k:zn}(J:k.Ub.length=h.Um.Ub.length)
  (A:Ch c.Up.toNat c.Maps.length w') (K:w.Ue=true->w'.Ue=true) (B:w'.Ue=true->h.closed=true)
  {os:List zc} (C:wS c (16*n+16) os) (D:∀(i:Nat) o,os[i]? =some o->∃l,h.Fn[i]? =some l/\l.Ue=o.Ue) (q:∀o∈os,∀r∈o.TZ,(∃l∈h.Fn,r∈l.TZ)\/(∃j:Nat,r.Vf=(h.or.length:Int)+j/\j<h.LE.length/\r.Vw=false))
  (m:∀u:Nat,u<h.or.length->bS os u=bS h.Fn u) {rs:List zp} (s:AL c rs) (e:ze):HI c f (n+1) (wU h d k (h.LE.set j w') os rs e):=by
 have t:(∀w∈h.LE,w.Ue=true)->∀v∈h.LE.set j w',v.Ue=true:=λa v p=>by
  grind
 exact
 {UZ:=I
  Ur:=g.Ur
  cl:=g.cl
  cr:=by show ((h.LE.set j w').length:Int)=_;rw [j8];exact g.cr
  rg:=s.1
  UO:=z
  Vn:=s.2
  Vq:=g.Vq
  crew:=λv p=>by
   rcases r9 (show v∈h.LE.set j w' from p) with p|rfl
   ·exact g.crew v p
   ·exact A
  own:=C.mono (by omega)
  Wg:=λo E r L=>by
   show AK h.or (h.LE.set j w').length r;rw [j8];rcases q o E r L with ⟨l,x,F⟩|x
   ·exact g.Wg l x r F
   ·exact .inr x
  Vv:=λu G y=>by
   show G.Ul=((bS os u+gr h u:Nat):Int)
   rw [m u (zes.1 y).1];exact g.Vv u G y
  VF:=λu=>by
   show gr h u=0\/gr h u=1/\bS os u=0;by_cases y:u<h.or.length
   ·rw [m u y];exact g.VF u
   ·exact .inl (g.reg0 (by have:=g.cl;omega))
  call:=g.call
  Uh:=g.Uh
  VG:=by show k.Ub.length=_;rw [J];exact g.VG
  VB:=λo E e=>by
   obtain ⟨i,M⟩:=q8 (show o∈os from E);obtain ⟨l,x,F⟩:=D i o M;obtain ⟨a,b⟩:=g.VB l (zmg x) (by rw [F];exact e)
   exact ⟨a,t b⟩
  VH:=λv p e=>by
   rcases r9 (show v∈h.LE.set j w' from p) with p|rfl
   ·exact g.VH v p e
   ·exact B e
  VI:=by
   show (h.Un++[e]).length<=_;have:=g.VI
   grind
  Wd:=by have:=g.Wd;show h.TZ.length<=_;omega
  hel:=by have:=g.hel;show h.held.length<=_;omega}
theorem OI(hS:aQ c f)(s:HI c f n h)(hn:n+1<=100000000)(Q:h.LE[j]? =some B)(ht:A=h.or.length+j)(hr0:B.TX.Ua=0->B.Ue=false)(hv:WMv h j B A h'):HI c f (n+1) h':=by
 have hjl:=(zes.1 Q).1;obtain ⟨hr1,hr2,R⟩:=s.hooks4 hS;have F:=s.crew B (zmg Q);have S:=F.UE;have g:=s.UO.mono (show n<=n+1 by omega) (by omega)
 have hne:B.Ue=false:=by
  cases M:B.Ue with
  |false=>rfl
  |true=>rw [hr0 (F.over M)] at M;cases M
 have w:∀{p:Prop},B.Ue=true->p:=λe=>by grind
 have G:=s.own.mono (show 16*n<=16*n+16 by omega);have D:∀o∈h.Fn,∀r∈o.TZ,(∃o'∈h.Fn,r∈o'.TZ)\/(∃j:Nat,r.Vf=(h.or.length:Int)+j/\j<h.LE.length/\r.Vw=false):=λo I r T=>.inl ⟨o,I,T⟩
 have t:∀{w':zA},Ch c.Up.toNat c.Maps.length w'->w'.Ue=B.Ue->∀{d:zb},fK c.Up.toNat c.Maps.length c.Uc.toNat (n+1) d->∀e,HI c f (n+1) (wU h d h.Um (h.LE.set j w') h.Fn h.rings e):=λhw' M d hrg e=>
  AP s hn Q hrg rfl hw' (λz=>by rw [M];exact z) (λz=>w (by rw [<- M];exact z)) G (λi o I=>⟨o,I,rfl⟩) D (λ_ _=>rfl) ⟨s.rg,s.Vn⟩ e
 have J:∀{W:zl},WJ c.Up.toNat c.Maps.length W->Ch c.Up.toNat c.Maps.length (inW B W):=λhW=>⟨hW,F.cur,F.rep,w⟩
 have K:∀{a:qT} {W:zl},B.TX.Ua=2->qA 2199023255552 B.TX=some (a,true,W)->WJ c.Up.toNat c.Maps.length W/\Cx c.Up.toNat c.Maps.length B.TX a W:=λL C=>by
  grind [Jr]
 cases hv with
 |ends x m0 U hk hm=>
  exact AP s hn Q (k:=LK h.Um A x) (w':={B with Ue:=true}) g (by show (h.Um.Ub.set A _).length=_;rw [j8]) ⟨S,F.cur,F.rep,λ_=>m0⟩ (λ_=>rfl) (λ_=>U) G (λi o I=>⟨o,I,rfl⟩) D (λ_ _=>rfl) ⟨s.rg,s.Vn⟩ _
 |take i r r' q qs cur m0 U hi hwt htk c0 c1=>
  have V:=s.Vn r (zmg hi);have hil:=(zes.1 hi).1;obtain ⟨r2,t1,t2,t3,t4⟩:=ni V.1 h.UL hwt;rw [htk] at t1;cases t1;have N:=Q5 S R m0 (k:=(i:Int)) (by omega) (by omega) (V.2 q (by grind));refine AP s hn Q (k:=h.Um) (w':=⟨⟨B.TX.UM,B.TX.Vh,1,⟨i,q,0,0,0,none⟩⟩,cur,B.pc,B.Va,B.Ue⟩) (rs:=h.rings.set i r') g rfl ⟨N.2,⟨c0,by grind⟩,F.rep,w⟩ w w G (λi o I=>⟨o,I,rfl⟩) D (λ_ _=>rfl) ⟨by grind,λy hy=> ?_⟩ _;rcases r9 hy with hy|rfl
  ·exact s.Vn y hy
  grind
 |skip st v p m1 hcu hsk=>
  obtain ⟨st2,s1,s2⟩:=Q6 S hr2 R m1;rw [hsk] at s1;cases s1;exact t (J s2) rfl g _
 |enter v p m b e1 e2 X e W m1 hcu hmo M hE=>
  obtain ⟨L,b2,Y,hm2,hm3,hm4⟩:=s.module p;rw [hmo] at Y;cases Y;obtain ⟨e3,W2,Z,O,_⟩:=Cw S m1 hm2 hm3 hm4 v p;rw [hE] at Z;cases Z;refine t (J O) rfl ?_ _;obtain ⟨⟨q1,q2,q3⟩,N,P⟩:=A9 s.UO (j:Int);rw [M] at N;cases N;rcases P with ⟨_,_,E⟩|⟨_,_,_,_,_,E⟩
  ·have E:X=h.Fd.Uo:=E;subst E;exact g
  ·have E:X=⟨h.Fd.Uo.Vs,h.Fd.Uo.in_.set ((j:Int)).toNat h.Fd.Uo.Vs⟩:=E;subst E;exact JP s.UO (by omega) _
 |note a W L C k3=>exact t (J (K L C).1) rfl g _
 |ran a W L C k1=>exact t (J (K L C).1) rfl g _
 |done a W e1 X L C k4 hlv=>
  refine t (J (K L C).1) rfl ?_ _;obtain ⟨⟨q1,q2⟩,N,P⟩:=Ba s.UO (j:Int);rw [hlv] at N;cases N;rcases P with ⟨_,E,_⟩|⟨_,_,_,E⟩
  ·have E:X=h.Fd.Uo:=E;subst E;exact g
  ·have E:X=⟨h.Fd.Uo.Vs,h.Fd.Uo.in_.set ((j:Int)).toNat 0⟩:=E;subst E;exact JQ s.UO (by omega) _
 |ask a W L C k2=>
  obtain ⟨hW,hWS⟩:=K L C;rcases hWS with ⟨k4,_⟩|⟨_,_,_,_,_,_,⟨g1,g2,g3,g4,g5,g6⟩,_⟩|⟨k13,_⟩
  ·grind
  ·refine AP s hn Q (k:=h.Um) (w':={B with TX:=W,pc:=a.Pc}) (os:=oG h.Fn (iD a.Item.UV h.Fn.length,⟨A,0,false,a.Item⟩)) g rfl ⟨hW,F.cur,F.rep,w⟩ (λz=>z) w ((s.own.put g1 g2 (.inr ⟨g3,g4⟩) g6).mono (by omega)) (λi o I=>pP I) (λo I r T=> ?_) (λu hu=> ?_) ⟨s.rg,s.Vn⟩ _
   ·rcases AJ (l:=[(iD a.Item.UV h.Fn.length,⟨(A:Int),0,false,a.Item⟩)]) (os:=h.Fn) I T with h6|⟨x,hx,rfl⟩
    ·exact .inl h6
    grind
   ·obtain ⟨p,hp,hlt⟩:=AG (k:=a.Item.UV) (n:=(h.Fn.length:Int)) (by rw [s.own.len];exact hS.sh.1) (by rw [s.own.len];exact hS.sh.2)
    grind [uw,iD]
  ·omega
 |back r W m3 T hA=>
  obtain ⟨W2,hA2,O,_⟩:=lD S m3 (F.rep r T);rw [hA] at hA2;cases hA2;exact t (w':={B with TX:=W,Va:=none}) ⟨O,F.cur,λr e=>(by cases e),w⟩ rfl g _
open Go.Sx
theorem wV(hl:h.rings.length<=4):∃b,vm h=some b/\(b=true↔∃r∈h.rings,r.waiting≠ []):=by
 unfold vm;rw [xi (by omega),zbs]
 obtain ⟨o,j,d⟩:OK (jN (dh h) (λ(g:Unit)=>(.inl ())) (h.rings).length 0 ()) (λo=>match o with|.inl _=>∀r∈h.rings,r.waiting=[]|.inr b=>b=true/\∃r∈h.rings,r.waiting≠ []):=by
  refine i5 (λi _=>∀r∈h.rings.take i,r.waiting=[]) (by simp) (λi s f k l m=> ?_) (λs t=>by grind);unfold dh;refine g9 (i9 k λr c=> ?_);obtain ⟨u,n,v⟩:=oF r;rw [n];simp only [zbs];refine d5 (λe=>b9 ⟨rfl,r,zmg c,λz=> ?_⟩) (λe=>m _ λq a=> ?_)
  ·grind
  ·rw [iN c] at a;rcases f8.1 a with a|a
   ·exact l q a
   ·rw [g8.1 a];have e:=z8 e;exact TK.1 (by omega)
 rw [j];cases o with
 |inl _=>exact ⟨false,rfl,λz=>(by cases z),λ⟨r,c,p⟩=>absurd (d r c) p⟩
 |inr b=>exact ⟨b,rfl,λ_=>d.2,λ_=>d.1⟩
theorem G1(hl:h.LE.length<=4):∃b,aI h=some b/\(b=true↔∀w∈h.LE,w.TX.Ua=0):=by
 unfold aI;rw [xi (by omega),zbs]
 obtain ⟨o,g,d⟩:OK (jN (di h) (λ(f:Unit)=>(.inl ())) (h.LE).length 0 ()) (λo=>match o with|.inl _=>∀w∈h.LE,w.TX.Ua=0|.inr b=>b=false/\∃w∈h.LE,w.TX.Ua≠0):=by
  refine i5 (λi _=>∀w∈h.LE.take i,w.TX.Ua=0) (by simp) (λi s c j n k=> ?_) (λs p=>by grind);unfold di jQ;refine g9 (i9 j λw a=> ?_);simp only [zbs];refine d5 (λe=>b9 ⟨rfl,w,zmg a,by simpa using e⟩) (λe=>k _ λq l=> ?_);rw [iN a] at l
  grind
 rw [g];cases o with
 |inl _=>exact ⟨true,rfl,λ_=>d,λ_=>rfl⟩
 |inr b=>
  obtain ⟨e,w,a,m⟩:=d;exact ⟨b,rfl,λz=>(by grind),λz=>absurd (z w a) m⟩
theorem uC(hl:h.LE.length<=4)(A:h.Fn.length<=4)(g:Bool):∃b,xN h g=some b/\(b=true↔(∀w∈h.LE,w.Ue=true)/\(g=true->∀o∈h.Fn,o.Ue=true)):=by
 unfold xN;rw [xi (by omega),zbs]
 obtain ⟨o,p,k⟩:OK (jN (cq h) (λ(l:Unit)=>(.inl ())) (h.LE).length 0 ()) (λo=>match o with|.inl _=>∀w∈h.LE,w.Ue=true|.inr b=>b=false/\∃w∈h.LE,w.Ue=false):=by
  refine i5 (λi _=>∀w∈h.LE.take i,w.Ue=true) (by simp) (λi s a d r f=> ?_) (λs t=>by grind);unfold cq;refine g9 (i9 d λw c=>d5 (λe=>b9 ⟨rfl,w,zmg c,by simpa using e⟩) (λe=>f _ λq j=> ?_));rw [iN c] at j
  grind
 rw [p];cases o with
 |inr b=>
  obtain ⟨e,w,c,u⟩:=k;exact ⟨b,rfl,λz=>(by grind),λz=>(by grind)⟩
 |inl _=>
  simp only [zbs];rw [xi (by omega),zbs]
  obtain ⟨o,v,m⟩:OK (jN (cw h g) (λ(n:Unit)=>(.inl ())) (h.Fn).length 0 ()) (λo=>match o with|.inl _=>g=true->∀o∈h.Fn,o.Ue=true|.inr b=>b=false/\g=true/\∃o∈h.Fn,o.Ue=false):=by
   refine i5 (λi _=>g=true->∀w∈h.Fn.take i,w.Ue=true) (by simp) (λi s a d r f=> ?_) (λs t=>by grind);unfold cw vn;refine g9 (i9 d λw c=> ?_);simp only [zbs];refine d6 (R:=λb=>b=(g&& !w.Ue)) (d5 (λe=>b9 (by simp [e])) (λe=>b9 (by simp [e]))) (λb x=> ?_);subst x;refine d5 (λe=>b9 ?_) (λe=>f _ λy q j=> ?_)
   ·grind
   ·rw [iN c] at j
    grind
  rw [v];cases o with
  |inl _=>exact ⟨true,rfl,λ_=>⟨k,m⟩,λ_=>rfl⟩
  |inr b=>
   obtain ⟨e,y,w,c,u⟩:=m;exact ⟨b,rfl,λz=>(by grind),λz=>(by grind)⟩
def Fin(h:za)(x:zx):Prop:=(x.cmd.TY=8/\∀e∈h.Fd.Uo.in_,e=0\/x.Vt<=e)\/(x.cmd.TY≠8/\(∀r∈h.rings,r.waiting=[])/\∀w∈h.LE,w.TX.Ua=0)
theorem QU(c:h.rings.length<=4)(f:h.LE.length<=4)(l:h.Fd.Uo.in_.length<=4)(x:zx):∃b,xr x h=some b/\(b=true↔Fin h x):=by
 unfold xr;by_cases a:x.cmd.TY=8
 ·rw [d7 (by simp [a]),JR _ _ (by omega),zbs];refine ⟨_,rfl,λe=>.inl ⟨a,yq e⟩,λe=> ?_⟩;rcases e with e|e
  ·grind
  grind
 ·rw [d8 (by simp [a])];obtain ⟨g,i,m⟩:=wV c;obtain ⟨n,j,d⟩:=G1 f;rw [i,j];simp only [zbs];cases k:g with
  |true=>
   simp only [Bool.not_true,zfe,x5,zbs];refine ⟨_,rfl,λe=>(by cases e),λe=> ?_⟩;rcases e with e|e
   ·exact absurd e.1 a
   grind
  |false=>
   simp only [Bool.not_false,q9,zbs];refine ⟨_,rfl,λe=>.inr ⟨a,λr c=> ?_,d.1 e⟩,λe=> ?_⟩
   ·grind
   ·rcases e with e|e
    ·exact absurd e.1 a
    ·exact d.2 e.2.2
theorem pS(g:h.rings.length<=4)(j:h.LE.length<=4)(k:h.Fd.Uo.in_.length<=4):∃i,xm h=some i/\((i= -1/\∀x∈h.held,¬ Fin h x)\/∃(a:Nat)(x:zx),i=(a:Int)/\h.held[a]? =some x/\Fin h x/\∀y∈h.held.take a,¬ Fin h y):=by
 unfold xm qg
 obtain ⟨o,u,v⟩:OK (jN (qx h.held h) (λ(d:Unit)=>(.inl ())) h.held.length 0 ()) (λo=>match o with|.inl _=>∀x∈h.held,¬ Fin h x|.inr i=>∃(a:Nat)(x:zx),i=(a:Int)/\h.held[a]? =some x/\Fin h x/\∀y∈h.held.take a,¬ Fin h y):=by
  refine i5 (λi _=>∀x∈h.held.take i,¬ Fin h x) (by simp) (λi s c l m n=> ?_) (λs w=>by grind);unfold qx;refine g9 (i9 l λx f=> ?_);obtain ⟨b,p,r⟩:=QU g j k x;rw [p,zbs];refine d5 (λe=>b9 ⟨i,x,rfl,f,r.1 e,m⟩) (λe=>n _ λq t=> ?_);rw [iN f] at t
  grind
 grind
def rU(k:zd)(N E:Int):zd:={k with Ul:=0,Id:=⟨E,N,k.Id.UJ,k.Id.Pairs⟩}
def oW(w t:Int)(h prog v:Int):ze:=⟨w,t,0,0,0,0,h,prog,v,0,kE,uz,0,0⟩
def rV(h:za)(d:zb)(c:List zd)(l a:List zx)(e:List ze):za:=
 {h with Fd:=d,or:=c,TZ:=l,held:=a,Un:=h.Un++e}
def oh(t:Int)(h:Int)(q:qa):ze:=⟨10,t,0,0,0,q.N,h,0,0,0,kE,uz,0,0⟩
def rW(r:zp):zp:=⟨r.room,true,[],⟨r.counts.US,r.counts.Ve,r.counts.Vz,w64 (r.counts.Vb+(r.waiting.length:Int)),r.counts.Vi⟩⟩
def pT(t:Int)(a:List zp):List ze:=(a.mapIdx (λi r=>r.waiting.map (oh t (i:Int)))).flatten
inductive LM (t:Int) (r:zb) (x:zx):zb->Int->Int->List ze->Prop
 |load (n e:Int) (r':zb):x.cmd.TY=4->ju 2199023255552 r x.cmd.Uq=some (n,e,r')->LM t r x r' n e (if e=0 then [oW 12 t 0 n 0] else [])
 |attach (v e:Int) (r':zb):x.cmd.TY=5->jB r x.cmd.UF x.cmd.UA=some (v,e,r')->LM t r x r' v e (if e=0 then [oW 11 t x.cmd.UF x.cmd.UA v] else [])
 |swap (v e:Int) (r':zb):x.cmd.TY=6->jT r x.cmd.UF x.cmd.UA=some (v,e,r')->LM t r x r' v e (if e=0 then [oW 11 t x.cmd.UF x.cmd.UA v] else [])
 |detach (e:Int) (tb:zC):x.cmd.TY=7->xR r.Us [x.cmd.UF]=some (e,tb)->LM t r x (Hg r tb) 0 e (if e=0 then [oW 11 t x.cmd.UF 0 0] else [])
 |retire (v e:Int) (r':zb):x.cmd.TY=8->qS r x.cmd.UA=some (v,e,r')->e≠0->LM t r x r' 0 e []
inductive RMv (h:za) (t:Nat):za->Prop
 |fin (a:Nat) (x:zx) (u:Nat) (k:zd):h.held[a]? =some x->Fin h x->x.Ut=(u:Int)->h.or[u]? =some k->x.cmd.TY≠8->RMv h t (rV h h.Fd (h.or.set u (rU k 0 0)) h.TZ (h.held.eraseIdx a) [])
 | retired (a : Nat) (x : zx) (u : Nat) (k : zd) : h.held[a]? = some x -> (Fin h x /\ ∀ y ∈ h.held.take a, ¬ Fin h y) -> x.Ut = (u : Int) -> h.or[u]? = some k -> x.cmd.TY = 8 ->
   RMv h t (rV h (settled h.Fd (gn h.Fd 1)) (h.or.set u (rU k 0 0)) h.TZ (h.held.eraseIdx a) [oW 13 t 0 x.cmd.UA 0])
 | over (u : Nat) (k : zd) (x : qn) : (∀ x ∈ h.held, ¬ Fin h x) -> h.TZ = [] -> h.Uh = (u : Int) -> h.or[u]? = some k -> h.Um.Ub[t]? = some x -> x.Ua ≠ 2 ->
   RMv h t {h with Um:=LK h.Um t x,or:=h.or.set u (rU k 0 0),over:=true,Un:=h.Un++[AM t]}
 |refuse (x:zx) (xs:List zx) (u:Nat) (k:zd):(∀x∈h.held,¬ Fin h x)->h.TZ=x::xs->h.closed=true->x.Ut=(u:Int)->h.or[u]? =some k->RMv h t (rV h h.Fd (h.or.set u (rU k 0 43)) xs h.held [])
 | cmd (x : zx) (xs : List zx) (u : Nat) (k : zd) (r' : zb) (N E : Int) (es : List ze) : (∀ x ∈ h.held, ¬ Fin h x) -> h.TZ = x :: xs -> h.closed = false -> x.Ut = (u : Int) -> h.or[u]? = some k -> LM t h.Fd x r' N E es ->
   RMv h t (rV h r' (h.or.set u (rU k N E)) xs h.held es)
 | hold (x : zx) (xs : List zx) (v : Int) (r' : zb) : (∀ x ∈ h.held, ¬ Fin h x) -> h.TZ = x :: xs -> h.closed = false -> x.cmd.TY = 8 -> qS h.Fd x.cmd.UA = some (v, 0, r') ->
   RMv h t (rV h r' h.or xs (h.held++[{x with Vt:=v}]) [])
 |drain (x:zx) (xs:List zx):(∀x∈h.held,¬ Fin h x)->h.TZ=x::xs->h.closed=false->x.cmd.TY=9->RMv h t (rV h h.Fd h.or xs (h.held++[x]) [])
 | close (x : zx) (xs : List zx) : (∀ x ∈ h.held, ¬ Fin h x) -> h.TZ = x :: xs -> h.closed = false -> x.cmd.TY = 10 ->
   RMv h t {h with rings:=h.rings.map rW,TZ:=xs,Uh:=x.Ut,closed:=true,Un:=h.Un++pT t h.rings++[oW 14 t 0 0 0]}
open Go.Sx
theorem rX(h:h'.or.length=a)(b:h'.LE.length=n)(c:h'.Fn.length=j)(d:a<=4)(e:n<=4)(f:j<=4):qH h'=some ((a+n+j:Nat):Int):=by
 grind [qH,qq]
theorem gN{k:zd}(h:h'.or[n]? =some k)(N E:Int):jV h' (n:Int) N E=
  some {h' with or:=h'.or.set n (rU k N E)}:=by
 unfold jV;rw [zX h];simp only [zbs,l6];rfl
theorem OJ(h:lB r)(g:zL):dE r g=some (r.waiting,rW r):=by
 obtain ⟨a,b,c⟩:=h;unfold dE qt;rw [xi (by simp;omega)];rfl
theorem LP{x:zx}{s:List zp×List ze}{r:List qa×zp}(d:qH h=some (n:Int))(hl:s.2.length+r.1.length<=500000000000):
  jN (dr h x i s r) (λ(b:(List ze))=>b) r.1.length 0 s.2=some (s.2++r.1.map (oh n (i:Int))):=by
 refine OK.is (i5 (λa l=>l=s.2++(r.1.take a).map (oh n (i:Int))) (by simp) (λa l c e f g=> ?_) (λl hl=>by grind));subst f;unfold dr;refine g9 (i9 e λq j=> ?_);have k:qH {h with rings:=(s.1.set (Int.toNat (i:Int)) r.2),Uh:=x.Ut,closed:=true,Un:=(s.2++(r.1.take a).map (oh n (i:Int)))}=some (n:Int):=d;rw [k];simp only [zbs];rw [xi (by grind)];simp only [zbs];refine g _ ?_;rw [iN j,k8,<- u6];rfl
theorem Cm{l:List (List α)}{b:Nat}(h:∀p∈l,p.length<=b):l.flatten.length<=l.length*b:=by
 induction l with
 |nil=>simp
 |cons p l i=>
  have c:=h p zcs;have d:=i λq a=>h q (zcm _ a)
  rw [yb,l8,u4,w8];omega
theorem Cn{t:Int}(h:∀r∈m,lB r):(pT t m).length<=m.length*16:=by
 unfold pT
 have:=Cm (l:=m.mapIdx (λi r=>r.waiting.map (oh t (i:Int)))) (b:=16) (λp e=>by
  obtain ⟨i,c⟩:=q8 e;rw [List.getElem?_mapIdx] at c;obtain ⟨r,f,rfl⟩:=yp.1 c;obtain ⟨a,b,d⟩:=h r (zmg f)
  grind)
 grind
theorem LQ{x:zx}{t:Nat}(C:qH h=some (t:Int))(z:∀r∈h.rings,lB r)(D:h.rings.length<=4)(hl:h.Un.length<=400000000000):
  jN (dt h x) (λ(c:(List zp)×(List ze))=>{h with rings:=c.1,Uh:=x.Ut,closed:=true,Un:=c.2}) (h.rings).length 0 (h.rings,h.Un)=
   some {h with rings:=(h.rings.map rW),Uh:=x.Ut,closed:=true,Un:=(h.Un++pT t h.rings)}:=by
 refine OK.is (i5 (λi s=>s.1.length=h.rings.length/\(∀j,s.1[j]? =if j<i then (h.rings[j]?).map rW else h.rings[j]?)/\s.2=h.Un++((h.rings.mapIdx (λi r=>r.waiting.map (oh t (i:Int)))).take i).flatten) ⟨rfl,λj=>by grind,by simp⟩ (λi s n A o m=> ?_) (λs o=> ?_))
 ·obtain ⟨f,e⟩:=s;obtain ⟨q,u,g⟩:=o;have q:f.length=h.rings.length:=q;have u:∀j,f[j]? =if j<i then (h.rings[j]?).map rW else h.rings[j]? :=u
  have g:e=h.Un++((h.rings.mapIdx (λi r=>r.waiting.map (oh t (i:Int)))).take i).flatten:=g;unfold dt;have L:=zeg A;have v:f[i]? =some h.rings[i]:=by grind
  have k:=z _ (yi A);have w:(h.rings.mapIdx (λi r=>r.waiting.map (oh t (i:Int))))[i]? =some (h.rings[i].waiting.map (oh t (i:Int))):=by grind
  have E:=Cm (l:=(h.rings.mapIdx (λi r=>r.waiting.map (oh t (i:Int)))).take i) (b:=16) (λp F=>by
   obtain ⟨a,m⟩:=q8 (Tz F);rw [List.getElem?_mapIdx] at m;obtain ⟨r,y,rfl⟩:=yp.1 m;obtain ⟨a,b,d⟩:=z r (zmg y)
   grind)
  have B:((h.rings.mapIdx (λi r=>r.waiting.map (oh t (i:Int)))).take i).length<=4:=by grind
  have G:e.length<=400000000064:=by grind
  rw [zX (xs:=(f,e).1) v];simp only [zbs];rw [OJ k];simp only [zbs];have I:h.rings[i].waiting.length<=16:=by obtain ⟨a,b,d⟩:=k;omega
  rw [LP (h:=h) (x:=x) (i:=i) (s:=(f,e)) (r:=(h.rings[i].waiting,rW h.rings[i])) C (by grind)];simp only [zbs,l6];refine m _ ⟨by grind,λj=> ?_,?_⟩
  ·grind
  ·show e++_=_;rw [iN w,yx,<- u6,<- g];simp
 ·obtain ⟨f,e⟩:=s;obtain ⟨q,u,g⟩:=o
  have J:f=h.rings.map rW:=by
   refine o4 λj=> ?_
   grind
  have K:e=h.Un++pT t h.rings:=by
   rw [show e=_ from g];unfold pT;rw [s9 (by grind)]
  rw [J,K]
theorem Es{α:Type}(l:List α)(h:a<l.length):l.take a++l.drop (a+1)=l.eraseIdx a:=(TW l a).symm
theorem nV(d:HI c f n h)(e:q.length<=140737488355328):∃v,ju 2199023255552 h.Fd q=some (if v.2≠0 then (0,v.2,h.Fd) else if 16<=h.Fd.Uj.length then (0,40,h.Fd) else (h.Fd.given+1,0,added h.Fd v.1))/\mg h.Fd.maps q=some v/\
  (v.2=0->pg v.1.Maps/\(∀x∈v.1.Maps,x<h.Fd.maps)/\v.1.Code.length<=64):=by
 obtain ⟨v,a,b⟩:=Hf h.Fd.maps e;exact ⟨v,Pi d.UO a b,a,b⟩
theorem OL(X:aQ c f)(j:HI c f n h){t:Nat}(ht:t=h.or.length+h.LE.length+h.Fn.length)(V:(∀x∈h.held,¬ Fin h x)->h.TZ=[]->h.closed=true)(hk:h.Um.Ub[t]? =some x)(hm:x.Ua≠2):
  OK (dF 2199023255552 h) (RMv h t):=by
 have Y:=j.cl;have Z:=j.crn X;have hSc:=X.cl;have hSw:=X.wk;have ho4:=(j.own4 X).1;have hlog:=j.logb;have hb:=j.UZ;have hln:=j.Wd;have hhl:=j.hel;obtain ⟨hr1,hr2,hr4⟩:=j.hooks4 X;have hwk:=j.UO.wk;have hsm:=j.UO.VS
 have s:∀{h':za},h'.or.length=h.or.length->h'.LE.length=h.LE.length->h'.Fn.length=h.Fn.length->qH h'=some (t:Int):=λe1 e2 e3=>by
  rw [rX (e1.trans Y) (e2.trans Z) e3 (by omega) (by omega) ho4,ht,Y,Z]
 have P:∀e:ze,room (h.Un.length+[e].length) 176=some ():=λe=>xi (by grind)
 have who:∀y∈h.TZ++h.held,∃(u:Nat)(k:zd),y.Ut=(u:Int)/\h.or[u]? =some k:=λy T=>by
  obtain ⟨⟨u,e1,e2⟩,_⟩:=j.call y T;exact ⟨u,_,e1,zeg (by omega)⟩
 unfold dF;obtain ⟨i,e1,e2⟩:=pS (h:=h) (by omega) (by omega) (by omega);rw [e1];simp only [zbs];rcases e2 with ⟨rfl,F⟩|⟨a,y,rfl,T,Q,hff⟩
 ·refine j7 (by decide) ?_;refine d5 (λw=> ?_) (λw=> ?_)
  ·have w:h.TZ=[]:=TK.1 (by simpa using w);obtain ⟨u,A,u2⟩:=j.Uh;have C:=zeg (show u<h.or.length by omega);rw [A,gN (h':=za.mk h.Fd h.Um h.Ur h.or h.LE h.Fn h.rings h.TZ h.held (u:Int) h.closed true h.Un h.UL) C];simp only [zbs];rw [s (h':=za.mk h.Fd h.Um h.Ur (h.or.set u (rU h.or[u] 0 0)) h.LE h.Fn h.rings h.TZ h.held (u:Int) h.closed true h.Un h.UL) (by grind) rfl rfl];simp only [zbs];rw [P];simp only [zbs];rw [oX hk hm];simp only [zbs];have:=RMv.over (h:=h) (t:=t) u _ x F w A C hk hm;rw [A] at this;exact b9 this
  ·have w:¬ h.TZ=[]:=λz=>by rw [z] at w;cases w
   obtain ⟨y,d,hl⟩:=List.exists_cons_of_ne_nil w
   have hcut:cut h.TZ 1 (h.TZ.length:Int)=some d:=by
    rw [hl];unfold cut;rw [d7 (by simp;omega)];simp
   have hix:Go.Sx.idx h.TZ 0=some y:=by rw [hl];rfl
   rw [hix,hcut];simp only [zbs];have hyl:y∈h.TZ++h.held:=zal _ (by grind);obtain ⟨u,k,A,C⟩:=who y hyl;obtain ⟨_,hmod,k4,k10⟩:=j.call y hyl;refine d5 (λG=> ?_) (λG=> ?_)
   ·rw [A,gN (h':=za.mk h.Fd h.Um h.Ur h.or h.LE h.Fn h.rings d h.held h.Uh h.closed h.over h.Un h.UL) C];have:=RMv.refuse (h:=h) (t:=t) y d u k F hl G A C
    grind [rV,b9]
   refine d6 (R:=RMv h t) ?_ (λr V=>b9 V);have I:∀{l:zb} {N E:Int} {es:List ze},LM t h.Fd y l N E es->RMv h t (rV h l (h.or.set u (rU k N E)) d h.held es):=λhc=>.cmd y d u k _ _ _ _ F hl G A C hc
   have U:∀(l:zb)(p v e:Int),OK (xB {h with Fd:=l,TZ:=d} y p v e) (λh'=>h'=rV h l (h.or.set u (rU k v e)) d h.held (if e=0 then [oW 11 t y.cmd.UF p v] else [])):=λl p v e=>by
    unfold xB;by_cases D:e=0
    ·subst D;refine d6 (R:=λh'=>h'=za.mk l h.Um h.Ur h.or h.LE h.Fn h.rings d h.held h.Uh h.closed h.over (h.Un++[oW 11 t y.cmd.UF p v]) h.UL) (o9 rfl ?_) (λh' B=> ?_)
     ·rw [s (h':=za.mk l h.Um h.Ur h.or h.LE h.Fn h.rings d h.held h.Uh h.closed h.over h.Un h.UL) rfl rfl rfl];simp only [zbs];rw [P];exact b9 rfl
     ·subst B;rw [A,gN (h':=za.mk l h.Um h.Ur h.or h.LE h.Fn h.rings d h.held h.Uh h.closed h.over (h.Un++[oW 11 t y.cmd.UF p v]) h.UL) C];exact b9 (by rw [d7 rfl];rfl)
    ·refine d6 (R:=λh'=>h'=za.mk l h.Um h.Ur h.or h.LE h.Fn h.rings d h.held h.Uh h.closed h.over h.Un h.UL) (j7 (by simp [D]) (b9 rfl)) (λh' B=> ?_);subst B;rw [A,gN (h':=za.mk l h.Um h.Ur h.or h.LE h.Fn h.rings d h.held h.Uh h.closed h.over h.Un h.UL) C];refine b9 ?_;rw [d8 D];unfold rV;rw [i4]
   unfold cU;refine d5 (λJ=> ?_) (λJ=> ?_)
   ·have J:y.cmd.TY=4:=by simpa using J
    obtain ⟨v,v1,_⟩:=nV j hmod;generalize hq:(if v.2≠0 then (0,v.2,h.Fd) else if 16<=h.Fd.Uj.length then (0,40,h.Fd) else (h.Fd.given+1,0,added h.Fd v.1):Int×Int×zb)=q at v1;obtain ⟨q1,q2,W⟩:=q;simp only;rw [v1];simp only [zbs];have o:=I (LM.load (t:=t) q1 q2 W J v1);by_cases D:q2=0
    ·subst D;refine d6 (R:=λh'=>h'=za.mk W h.Um h.Ur h.or h.LE h.Fn h.rings d h.held h.Uh h.closed h.over (h.Un++[oW 12 t 0 q1 0]) h.UL) (o9 rfl ?_) (λh' B=> ?_)
     ·rw [s (h':=za.mk W h.Um h.Ur h.or h.LE h.Fn h.rings d h.held h.Uh h.closed h.over h.Un h.UL) rfl rfl rfl];simp only [zbs];rw [P];exact b9 rfl
     ·subst B;rw [A,gN (h':=za.mk W h.Um h.Ur h.or h.LE h.Fn h.rings d h.held h.Uh h.closed h.over (h.Un++[oW 12 t 0 q1 0]) h.UL) C];rw [d7 rfl] at o;exact b9 o
    ·refine d6 (R:=λh'=>h'=za.mk W h.Um h.Ur h.or h.LE h.Fn h.rings d h.held h.Uh h.closed h.over h.Un h.UL) (j7 (by simp [D]) (b9 rfl)) (λh' B=> ?_);subst B;rw [A,gN (h':=za.mk W h.Um h.Ur h.or h.LE h.Fn h.rings d h.held h.Uh h.closed h.over h.Un h.UL) C];rw [d8 D] at o;unfold rV at o;rw [i4] at o;exact b9 o
   refine d5 (λK=> ?_) (λK=> ?_)
   ·have K:y.cmd.TY=5:=by simpa using K
    obtain ⟨⟨v,e,l⟩,v1,_⟩:=rm j.UO y.cmd.UF y.cmd.UA;simp only;rw [v1];simp only [zbs];refine d6 (U l y.cmd.UA v e) (λh' B=>b9 ?_);rw [B];exact I (.attach v e l K v1)
   refine d5 (λL=> ?_) (λL=> ?_)
   ·have L:y.cmd.TY=6:=by simpa using L
    obtain ⟨⟨v,e,l⟩,v1,_⟩:=A8 j.UO y.cmd.UF y.cmd.UA;simp only;rw [v1];simp only [zbs];refine d6 (U l y.cmd.UA v e) (λh' B=>b9 ?_);rw [B];exact I (.swap v e l L v1)
   refine d5 (λM=> ?_) (λM=> ?_)
   ·have M:y.cmd.TY=7:=by simpa using M
    obtain ⟨⟨e,tb⟩,v1,_⟩:=uK j.UO y.cmd.UF;simp only;rw [v1];simp only [zbs];refine d6 (U (Hg h.Fd tb) 0 0 e) (λh' B=>b9 ?_);rw [B];exact I (.detach e tb M v1)
   refine d5 (λg=> ?_) (λg=> ?_)
   ·have g:y.cmd.TY=8:=by simpa using g
    obtain ⟨⟨v,e,l⟩,v1,_⟩:=iF j.UO y.cmd.UA;simp only;rw [v1];simp only [zbs];refine d5 (λD=> ?_) (λD=> ?_)
    ·have D:e≠0:=by simpa using D
     rw [A,gN (h':=za.mk l h.Um h.Ur h.or h.LE h.Fn h.rings d h.held h.Uh h.closed h.over h.Un h.UL) C];have o:=I (.retire v e l g v1 D);unfold rV at o;rw [i4] at o;exact b9 o
    ·have D:e=0:=by simpa using D
     subst D;rw [xi (m:=h.held.length+_) (b:=144) (by simp only [u4,yj];omega)];have:=RMv.hold (h:=h) (t:=t) y d v l F hl G g v1;unfold rV at this;rw [i4] at this;exact b9 this
   refine d5 (λO=> ?_) (λO=> ?_)
   ·have O:y.cmd.TY=9:=by simpa using O
    simp only;rw [xi (m:=h.held.length+_) (b:=144) (by simp only [u4,yj];omega)];have:=RMv.drain (h:=h) (t:=t) y d F hl G O;unfold rV at this;rw [i4] at this;exact b9 this
   simp only [beq_eq_false_iff_ne] at J K L M g O;have S:y.cmd.TY=10:=by omega
   refine o9 (by simp [S]) ?_;rw [LQ (h:=za.mk h.Fd h.Um h.Ur h.or h.LE h.Fn h.rings d h.held h.Uh h.closed h.over h.Un h.UL) (x:=y) (t:=t) (s rfl rfl rfl) (λr V=>(j.Vn r V).1) (by show h.rings.length<=4;omega) (by show h.Un.length<=_;omega)];simp only [zbs];rw [s (h':=za.mk h.Fd h.Um h.Ur h.or h.LE h.Fn (h.rings.map rW) d h.held y.Ut true h.over (h.Un++pT t h.rings) h.UL) rfl rfl rfl];simp only [zbs];have hd:=Cn (t:=(t:Int)) (λr V=>(j.Vn r V).1);rw [xi (by simp only [l8,u4,yj];omega)];exact b9 (.close y d F hl G S)
 ·refine o9 (by simp) ?_;have hal:=(zes.1 T).1;rw [zX T];simp only [zbs]
  have hdel:qe h.held (a:Int) (w64 ((a:Int)+1))=some (h.held.eraseIdx a):=by
   unfold qe Nl;rw [qq (by omega) (by omega),d7 (by omega),<- Es _ hal];rw [show ((a:Int)+1).toNat=a+1 by omega];rfl
  rw [hdel];simp only [zbs];obtain ⟨u,k,A,C⟩:=who y (zar _ (zmg T));by_cases g:y.cmd.TY=8
  ·refine d6 (R:=λh'=>h'=za.mk (settled h.Fd (gn h.Fd 1)) h.Um h.Ur h.or h.LE h.Fn h.rings h.TZ (h.held.eraseIdx a) h.Uh h.closed h.over (h.Un++[oW 13 t 0 y.cmd.UA 0]) h.UL) (o9 (by simp [g]) ?_) (λh' B=> ?_)
   ·rw [JW j.UO 1];simp only [zbs];rw [s (h':=za.mk (settled h.Fd (gn h.Fd 1)) h.Um h.Ur h.or h.LE h.Fn h.rings h.TZ (h.held.eraseIdx a) h.Uh h.closed h.over h.Un h.UL) rfl rfl rfl];simp only [zbs];rw [P];exact b9 rfl
   ·subst B;rw [A,gN (h':=za.mk (settled h.Fd (gn h.Fd 1)) h.Um h.Ur h.or h.LE h.Fn h.rings h.TZ (h.held.eraseIdx a) h.Uh h.closed h.over (h.Un++[oW 13 t 0 y.cmd.UA 0]) h.UL) C];exact b9 (.retired a y u k T ⟨Q,hff⟩ A C g)
  ·refine d6 (R:=λh'=>h'=za.mk h.Fd h.Um h.Ur h.or h.LE h.Fn h.rings h.TZ (h.held.eraseIdx a) h.Uh h.closed h.over h.Un h.UL) (j7 (by simp [g]) (b9 rfl)) (λh' B=> ?_);subst B;rw [A,gN (h':=za.mk h.Fd h.Um h.Ur h.or h.LE h.Fn h.rings h.TZ (h.held.eraseIdx a) h.Uh h.closed h.over h.Un h.UL) C];have:=RMv.fin (h:=h) (t:=t) a y u k T Q A C g;unfold rV at this;rw [i4] at this;exact b9 this
end Go.Proofs.YtplmgfkghomelaaGreatDoor.KH
