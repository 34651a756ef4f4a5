/- Lemmas. -/
import Derived.Test.YtplmgfkghomelaaGreatDoorKH12
set_option linter.unusedVariables false
set_option linter.unusedSimpArgs false
namespace Go.Proofs.YtplmgfkghomelaaGreatDoor.KH
section
section
section
open Go.Sx
variable {c:zN} {ss:List (List zF)} {n:Nat} {h:za}
def CK(h:za)(rg:zb)(k:zo)(ws:List zH)(os:List zc)(rs:List zt)(e:zd):za:=
 {h with Fn:=rg,Sf:=k,LT:=ws,Fd:=os,RN:=rs,Sw:=h.Sw++[e]}
def Qk(r:zb)(k:zE):zb:={r with Sg:=k}
def inW(w:zH)(W:zm):zH:={w with RP:=W}
def Kz(what t:Int)(ev hook prog ver pc:Int)(i:zh)(r:zk)(v:Int):zd:=⟨what,t,0,0,0,ev,hook,prog,ver,pc,i,r,v,0⟩
inductive WMv (h:za) (j:Nat) (w:zH) (t:Nat):za->Prop
 | ends (x : qm) : w.RP.RX = 0 -> h.closed = true -> h.Sf.RT[t]? = some x -> x.RX ≠ 2 ->
   WMv h j w t (CK h h.Fn (Nn h.Sf t x) (h.LT.set j {w with RY:=true}) h.Fd h.RN (Py t))
 | take (i : Nat) (r r' : zt) (q : zZ) (qs : List zZ) (cur : Int) : w.RP.RX = 0 -> h.closed = false -> h.RN[i]? = some r -> r.waiting = q :: qs -> bL r h.SH = some (q, true, r') -> 0 <= cur -> cur < h.RN.length ->
   WMv h j w t (CK h h.Fn h.Sf (h.LT.set j ⟨⟨w.RP.SK,w.RP.Tq,1,⟨i,q,0,0,0,none⟩⟩,cur,w.pc,w.SZ,w.RY⟩) h.Fd (h.RN.set i r') (Kz 5 t q.N i 0 0 0 oO CJ 0))
 | skip (st : zX) (v p : Int) : w.RP.RX = 1 -> jl h.Fn.Si w.RP.SC.hook = some (v, p, false) -> xN w.RP = some (0, ⟨w.RP.SK, st, 0, ⟨0, ⟨0, ⟨0, 0⟩⟩, 0, 0, 0, none⟩⟩) ->
   WMv h j w t (CK h h.Fn h.Sf (h.LT.set j (inW w ⟨w.RP.SK,st,0,⟨0,⟨0,⟨0,0⟩⟩,0,0,0,none⟩⟩)) h.Fd h.RN (Kz 9 t w.RP.SC.SI.N w.RP.SC.hook 0 0 0 oO CJ 0))
 | enter (v p : Int) (m : zD) (b : Bool) (e1 e2 : Int) (ck : zE) (e : Int) (W' : zm) : w.RP.RX = 1 -> jl h.Fn.Si w.RP.SC.hook = some (v, p, true) -> qO h.Fn p = some (m, b) ->
   vk h.Fn.Sg j=some (e1,e2,ck)->jV 2199023255552 w.RP v p m=some (e,W')->
   WMv h j w t (CK h (Qk h.Fn ck) h.Sf (h.LT.set j (inW w W')) h.Fd h.RN (Kz 6 t w.RP.SC.SI.N w.RP.SC.hook p v 0 oO CJ 0))
 | note (a : qS) (W' : zm) : w.RP.RX = 2 -> qG 2199023255552 w.RP = some (a, true, W') -> a.RS = 3 ->
   WMv h j w t (CK h h.Fn h.Sf (h.LT.set j (inW w W')) h.Fd h.RN (Kz 8 t w.RP.SC.SI.N 0 w.RP.SC.prog w.RP.SC.Sq a.Pc oO CJ a.SJ))
 | ask (a : qS) (W' : zm) : w.RP.RX = 2 -> qG 2199023255552 w.RP = some (a, true, W') -> a.RS = 2 ->
   WMv h j w t (CK h h.Fn h.Sf (h.LT.set j {w with RP:=W',pc:=a.Pc}) (oh h.Fd (hZ a.Item.SQ h.Fd.length,⟨t,0,false,a.Item⟩)) h.RN (Kz 16 t w.RP.SC.SI.N 0 w.RP.SC.prog w.RP.SC.Sq a.Pc a.Item CJ a.SJ))
 | done (a : qS) (W' : zm) (e1 : Int) (ck : zE) : w.RP.RX = 2 -> qG 2199023255552 w.RP = some (a, true, W') -> a.RS = 4 -> vl h.Fn.Sg [(j : Int)] = some (e1, ck) ->
   WMv h j w t (CK h (Qk h.Fn ck) h.Sf (h.LT.set j (inW w W')) h.Fd h.RN (Kz 9 t w.RP.SC.SI.N w.RP.SC.hook w.RP.SC.prog w.RP.SC.Sq a.Pc oO CJ a.SJ))
 | ran (a : qS) (W' : zm) : w.RP.RX = 2 -> qG 2199023255552 w.RP = some (a, true, W') -> a.RS = 1 ->
   WMv h j w t (CK h h.Fn h.Sf (h.LT.set j (inW w W')) h.Fd h.RN (Kz 7 t w.RP.SC.SI.N 0 w.RP.SC.prog w.RP.SC.Sq a.Pc oO CJ a.SJ))
 | back (r : zk) (W' : zm) : w.RP.RX = 3 -> w.SZ = some r -> xn w.RP r = some (0, W') ->
   WMv h j w t (CK h h.Fn h.Sf (h.LT.set j {w with RP:=W',SZ:=none}) h.Fd h.RN (Kz 17 t w.RP.SC.SI.N 0 w.RP.SC.prog w.RP.SC.Sq w.pc oO r 0))
theorem Nr{h:za}{H:Nat}(hl:h.RN.length=H)(hH:1<=H/\H<=4){w:zH}(h0:0<=w.SF)(h1:w.SF<H){i0:Nat}{r0:zt}(hi:h.RN[i0]? =some r0)(hw:r0.waiting≠ []):
  ∃(i:Nat)(r:zt),loop (cT h) 2199023255552 w=some {w with SF:=(i:Int)}/\h.RN[i]? =some r/\r.waiting≠ []:=by
 have hil:=(zes.1 hi).1
 obtain ⟨s,e,i,r,rfl,e2,e3⟩:=lu (body:=cT h) (λm s=>∃cur:Nat,s={w with SF:=(cur:Int)}/\cur<H/\m=if cur<=i0 then i0-cur else i0+H-cur) (λs=>∃(i:Nat)(r:zt),s={w with SF:=(i:Int)}/\h.RN[i]? =some r/\r.waiting≠ []) (λm s again hI ha=>by
  obtain ⟨cur,rfl,hc,hm⟩:=hI;unfold cT;have hcl:cur<h.RN.length:=by omega
  have hg:=zeg hcl;rw [zT hg];simp only [zbs];obtain ⟨cn,hcn,hq⟩:=nA h.RN[cur];rw [hcn];simp only [zbs];by_cases he:cn.Tv=0
  ·rw [d7 (by simp [he])]
   have hne:cur≠i0:=λe=>by
    subst e;rw [hg] at hi;obtain rfl:=j6 hi;rw [hq] at he;exact hw (RK.1 (by omega))
   have hz:nz (h.RN.length:Int)=some ():=by grind [nz]
   rw [hz,zbs,qp (by omega) (by omega)];by_cases hx:cur+1<H
   ·rw [Int.tmod_eq_of_lt (by omega) (by omega)];refine ha (if cur+1<=i0 then i0-(cur+1) else i0+H-(cur+1)) _ ?_ ⟨cur+1,rfl,hx,rfl⟩
    grind
   ·have:cur+1=H:=by omega
    have e5:(cur:Int)+1=(h.RN.length:Int):=by omega
    rw [e5,Int.tmod_self];refine ha i0 _ ?_ ⟨0,rfl,by omega,by grind⟩
    grind
  grind) 2199023255552 (if w.SF.toNat<=i0 then i0-w.SF.toNat else i0+H-w.SF.toNat) w (by split<;>omega) ⟨w.SF.toNat,by rw [show ((w.SF.toNat:Nat):Int)=w.SF by omega],by omega,rfl⟩
 grind
theorem F8{t:zz}{k:Int}(h0:0<=k)(h1:k<t.Sc.length):∃v p b,jl t k=some (v,p,b):=by
 obtain ⟨x,hx,_⟩:=oK (xs:=t.Sc) h0 h1;unfold jl je jf;have e1:(decide (k>=0)&&decide (k<(t.Sc.length:Int)))=true:=by grind
 rw [e1,hx];simp only [zbs,Bool.not_true,zfe,w6];cases decide (x.Sq>0) with
 |true=>exact ⟨_,_,_,rfl⟩
 |false=>exact ⟨_,_,_,rfl⟩
theorem HI.hooks4(hS:bS c ss)(hI:HI c ss n h):h.RN.length=c.Sh.toNat/\1<=c.Sh.toNat/\c.Sh.toNat<=4:=by
 have h1:=hI.rg;have h2:=hS.hk;omega
theorem HI.module(hI:HI c ss n h)(p:Int):∃m b,qO h.Fn p=some (m,b)/\m.Maps.length*8<=140737488355328/\m.Code.length*40<=140737488355328/\∀x∈m.Maps,x<(c.Maps.length:Int):=by
 have h1:=BR hI.SY p;cases hg:jz h.Fn.Sj p with
 |none=>
  grind
 |some x=>
  rw [hg] at h1;obtain ⟨_,_,a,b,d,_⟩:=hI.SY.prog p x hg;have a2:=a.2.2
  grind
theorem Ns(hS:bS c ss)(hI:HI c ss n h){j t:Nat}{w:zH}(hw:h.LT[j]? =some w)(ht:t=h.or.length+j)
  (hr0:w.RP.RX=0->w.RY=false/\(h.closed=true\/∃r∈h.RN,r.waiting≠ [])) (hr3:w.RP.RX=3->w.SZ.isSome=true) {x:qm} (hk:h.Sf.RT[t]? =some x) (hm:x.RX≠2):
  OK (dy 2199023255552 h (t:Int)) (WMv h j w t):=by
 have hjl:=(zes.1 hw).1;have hcl:=hI.cl;have hcr:=hI.crn hS;have hSc:=hS.cl;have hSw:=hS.wk;have hlog:=hI.logb;obtain ⟨hr1,hr2,hr4⟩:=hI.hooks4 hS;have hC:=hI.crew w (zmg hw);have hJ:=hC.SC;have hrm:∀e:zd,room (h.Sw.length+[e].length) 176=some ():=λe=>xg (by grind)
 unfold dy zU xv jO vW;simp only [zbs];have e2:w64 ((t:Int)-(h.or.length:Int))=(j:Int):=by grind [qp]
 rw [e2,zT hw];simp only [zbs,k8];rcases hJ.is with m0|m1|⟨m2,_⟩|⟨m3,_⟩
 ·refine o5 (by simp [m0]) ?_;refine d5 (λhcd=> ?_) (λhcd=> ?_)
  ·rw [hrm];simp only [zbs];rw [nT hk hm];simp only [zbs];exact b9 (.ends x m0 hcd hk hm)
  ·obtain ⟨_,hr⟩:=hr0 m0;rcases hr with hr|⟨r0,hr,hne⟩
   ·grind
   obtain ⟨i0,hi0⟩:=q9 hr;obtain ⟨i,r,e3,e4,e5⟩:=Nr hr1 ⟨hr2,hr4⟩ hC.cur.1 hC.cur.2 hi0 hne;have hil:=(zes.1 e4).1;rw [e3];simp only [zbs];rw [zT e4];simp only [zbs];have hri:=hI.Tj r (zmg e4);cases hwt:r.waiting with
   |nil=>exact absurd hwt e5
   |cons q qs=>
    obtain ⟨r',t1,t2,t3,t4⟩:=mj hri.1 h.SH hwt;rw [t1];have hz:nz (h.RN.length:Int)=some ():=by grind [nz]
    simp only [zbs];rw [hz];simp only [zbs];rw [(PL hJ hr4 m0 (k:=(i:Int)) (by omega) (by omega) (hri.2 q (by grind))).1];simp only [zbs];rw [hrm];simp only [zbs,k8]
    have h5:0<=(w64 ((i:Int)+1)).tmod (h.RN.length:Int)/\(w64 ((i:Int)+1)).tmod (h.RN.length:Int)<h.RN.length:=by
     rw [qp (by omega) (by omega)];exact ⟨Int.tmod_nonneg _ (by omega),Int.tmod_lt_of_pos _ (by omega)⟩
    exact b9 (.take i r r' q qs _ m0 hcd e4 hwt t1 h5.1 h5.2)
 ·refine j7 (by simp [m1]) ?_;refine o5 (by simp [m1]) ?_;have hhl:=hI.SY.hl;obtain ⟨v,p,b,hcu⟩:=F8 (t:=h.Fn.Si) hJ.hook.1 (by have:=hJ.hook.2;omega);rw [hcu];simp only [zbs];cases b with
  |false=>
   refine o5 rfl ?_;obtain ⟨st,s1,s2⟩:=PM hJ hr2 hr4 m1;rw [s1];simp only [zbs];rw [hrm];simp only [zbs];exact b9 (.skip st v p m1 hcu s1)
  |true=>
   refine j7 rfl ?_;obtain ⟨m,b,hm1,hm2,hm3,hm4⟩:=hI.module p;rw [hm1];simp only [zbs];obtain ⟨⟨e1,e2,ck⟩,he,_⟩:=Ad hI.SY (j:Int);rw [he];simp only [zbs];obtain ⟨e,W',hE,_⟩:=Fb hJ m1 hm2 hm3 hm4 v p;rw [hE];simp only [zbs];rw [hrm];simp only [zbs];exact b9 (.enter v p m b e1 e2 ck e W' m1 hcu hm1 he hE)
 ·refine j7 (by simp [m2]) ?_;refine j7 (by simp [m2]) ?_;refine o5 (by simp [m2]) ?_;obtain ⟨a,W',hst,hWJ,hWS⟩:=KS hr2 hr4 hJ m2;rw [hst];simp only [zbs];have hown:=hI.own;have hb:=hI.Ta;rcases hWS with ⟨k4,_⟩|⟨k2,_,_,_,_,_,⟨g1,g2,g3,g4,g5,g6⟩,_⟩|⟨k13,_⟩
  ·refine j7 (by simp [k4]) ?_;refine j7 (by simp [k4]) ?_;refine o5 (by simp [k4]) ?_;obtain ⟨⟨e1,ck⟩,he,_⟩:=Ae hI.SY (j:Int);rw [he];simp only [zbs];rw [hrm];simp only [zbs];exact b9 (.done a W' e1 ck m2 hst k4 he)
  ·refine j7 (by simp [k2]) ?_;refine o5 (by simp [k2]) ?_
   have hne:∀o∈h.Fd,o.RY=false:=λo ho=>by
    cases he:o.RY with
    |false=>rfl
    |true=>
     have:=hC.over ((hI.TA o ho he).2 w (zmg hw));omega
   obtain ⟨p,o,q1,q2,q3,q4,q5,q6⟩:=Dy hown hS.sh hne (r:=⟨(t:Int),0,false,a.Item⟩) g1 g2 ⟨g3,g4⟩ (by omega);have q2:aB a.Item.SQ (h.Fd.length:Int)=some (p:Int):=q2;rw [q2];simp only [zbs];rw [q4];simp only [zbs];rw [q6];simp only [zbs];rw [hrm];simp only [zbs,k8];have:=WMv.ask (h:=h) (j:=j) (w:=w) (t:=t) a W' m2 hst k2;have q1:hZ a.Item.SQ h.Fd.length=p:=q1
   have e7:oh h.Fd (p,⟨(t:Int),0,false,a.Item⟩)=h.Fd.set p (Mf o ⟨(t:Int),0,false,a.Item⟩):=by
    grind [oh]
   rw [q1,e7] at this;exact b9 this
  ·rcases k13 with k1|k3
   ·refine j7 (by simp [k1]) ?_;refine j7 (by simp [k1]) ?_;refine j7 (by simp [k1]) ?_;rw [hrm];simp only [zbs];exact b9 (.ran a W' m2 hst k1)
   ·refine o5 (by simp [k3]) ?_;rw [hrm];simp only [zbs];exact b9 (.note a W' m2 hst k3)
 ·refine j7 (by simp [m3]) ?_;refine j7 (by simp [m3]) ?_;refine j7 (by simp [m3]) ?_;refine o5 (by simp [m3]) ?_;cases hrp:w.SZ with
  |none=>have:=hr3 m3;rw [hrp] at this;cases this
  |some r=>
   simp only [zbs];rw [hrm];simp only [zbs];obtain ⟨W',hA,_⟩:=mU hJ m3 (hC.rep r hrp);rw [hA];simp only [zbs];exact b9 (.back r W' m3 hrp hA)
end
open Go.Sx
variable {c:zN} {ss:List (List zF)} {n:Nat} {h:za}
theorem Ia{l:List zB}{f:Int}(h:∀x∈l,x.SA≠f):gu l f=0:=by
 grind [gu]
theorem HI.reg0(hI:HI c ss n h){t:Nat}(ht:ss.length<=t):lh h t=0:=by
 have h1:∀x∈h.RW++h.held,x.SA≠t:=λx hx e=>by
  obtain ⟨⟨u,e1,e2⟩,_⟩:=hI.call x hx;omega
 obtain ⟨u,e1,e2⟩:=hI.Sa
 grind [lh,Ia]
theorem wT(hI:HI c ss n h)(hn:n+1<=100000000){j:Nat}{w w':zH}(hw:h.LT[j]? =some w){rg:zb}(hrg:fD c.Sh.toNat c.Maps.length c.RR.toNat (n+1) rg){k:zo}(hk:k.RT.length=h.Sf.RT.length)
  (hw':Bm c.Sh.toNat c.Maps.length w') (he1:w.RY=true->w'.RY=true) (he2:w'.RY=true->h.closed=true)
  {os:List zc} (hos:uT c (16*n+16) os) (hoe:∀(i:Nat) o,os[i]? =some o->∃o',h.Fd[i]? =some o'/\o'.RY=o.RY) (hreq:∀o∈os,∀r∈o.RW,(∃o'∈h.Fd,r∈o'.RW)\/(∃j:Nat,r.Te=(h.or.length:Int)+j/\j<h.LT.length/\r.Ts=false))
  (hcnt:∀u:Nat,u<h.or.length->eW os u=eW h.Fd u) {rs:List zt} (hrs:wR c rs) (e:zd):HI c ss (n+1) (CK h rg k (h.LT.set j w') os rs e):=by
 have hend:(∀w∈h.LT,w.RY=true)->∀v∈h.LT.set j w',v.RY=true:=λa v hv=>by
  grind
 exact
 {Ta:=hn
  Sk:=hI.Sk
  cl:=hI.cl
  cr:=by show ((h.LT.set j w').length:Int)=_;rw [j5];exact hI.cr
  rg:=hrs.1
  SY:=hrg
  Tj:=hrs.2
  Ue:=hI.Ue
  crew:=λv hv=>by
   rcases p9 (show v∈h.LT.set j w' from hv) with hv|rfl
   ·exact hI.crew v hv
   ·exact hw'
  own:=hos.mono (by omega)
  Uh:=λo ho r hr=>by
   show wQ h.or (h.LT.set j w').length r;rw [j5];rcases hreq o ho r hr with ⟨o',h1,h2⟩|h1
   ·exact hI.Uh o' h1 r h2
   ·exact .inr h1
  Tz:=λu k2 hu=>by
   show k2.Sd=((eW os u+lh h u:Nat):Int)
   rw [hcnt u (zes.1 hu).1];exact hI.Tz u k2 hu
  TE:=λu=>by
   show lh h u=0\/lh h u=1/\eW os u=0;by_cases hu:u<h.or.length
   ·rw [hcnt u hu];exact hI.TE u
   ·exact .inl (hI.reg0 (by have:=hI.cl;omega))
  call:=hI.call
  Sa:=hI.Sa
  TF:=by show k.RT.length=_;rw [hk];exact hI.TF
  TA:=λo ho e=>by
   obtain ⟨i,hi⟩:=q9 (show o∈os from ho);obtain ⟨o',h1,h2⟩:=hoe i o hi;obtain ⟨a,b⟩:=hI.TA o' (zmg h1) (by rw [h2];exact e)
   exact ⟨a,hend b⟩
  TK:=λv hv e=>by
   rcases p9 (show v∈h.LT.set j w' from hv) with hv|rfl
   ·exact hI.TK v hv e
   ·exact he2 e
  TL:=by
   show (h.Sw++[e]).length<=_;have:=hI.TL
   grind
  Uc:=by have:=hI.Uc;show h.RW.length<=_;omega
  hel:=by have:=hI.hel;show h.held.length<=_;omega}
theorem Nt(hS:bS c ss)(hI:HI c ss n h)(hn:n+1<=100000000){j t:Nat}{w:zH}(hw:h.LT[j]? =some w)(ht:t=h.or.length+j)(hr0:w.RP.RX=0->w.RY=false){h':za}(hv:WMv h j w t h'):HI c ss (n+1) h':=by
 have hjl:=(zes.1 hw).1;obtain ⟨hr1,hr2,hr4⟩:=hI.hooks4 hS;have hC:=hI.crew w (zmg hw);have hJ:=hC.SC;have hregm:=hI.SY.mono (show n<=n+1 by omega) (by omega)
 have hne:w.RY=false:=by
  cases he:w.RY with
  |false=>rfl
  |true=>rw [hr0 (hC.over he)] at he;cases he
 have hcf:∀{p:Prop},w.RY=true->p:=λe=>by grind
 have hown:=hI.own.mono (show 16*n<=16*n+16 by omega);have hsame:∀o∈h.Fd,∀r∈o.RW,(∃o'∈h.Fd,r∈o'.RW)\/(∃j:Nat,r.Te=(h.or.length:Int)+j/\j<h.LT.length/\r.Ts=false):=λo ho r hr=>.inl ⟨o,ho,hr⟩
 have keep:∀{w':zH},Bm c.Sh.toNat c.Maps.length w'->w'.RY=w.RY->∀{rg:zb},fD c.Sh.toNat c.Maps.length c.RR.toNat (n+1) rg->∀e,HI c ss (n+1) (CK h rg h.Sf (h.LT.set j w') h.Fd h.RN e):=λhw' he rg hrg e=>
  wT hI hn hw hrg rfl hw' (λz=>by rw [he];exact z) (λz=>hcf (by rw [<- he];exact z)) hown (λi o ho=>⟨o,ho,rfl⟩) hsame (λ_ _=>rfl) ⟨hI.rg,hI.Tj⟩ e
 have crw:∀{W':zm},WJ c.Sh.toNat c.Maps.length W'->Bm c.Sh.toNat c.Maps.length (inW w W'):=λhW=>⟨hW,hC.cur,hC.rep,hcf⟩
 have stp:∀{a:qS} {W':zm},w.RP.RX=2->qG 2199023255552 w.RP=some (a,true,W')->WJ c.Sh.toNat c.Maps.length W'/\DV c.Sh.toNat c.Maps.length w.RP a W':=λm2 hst=>by
  grind [KS]
 cases hv with
 |ends x m0 hcl hk hm=>
  exact wT hI hn hw (k:=Nn h.Sf t x) (w':={w with RY:=true}) hregm (by show (h.Sf.RT.set t _).length=_;rw [j5]) ⟨hJ,hC.cur,hC.rep,λ_=>m0⟩ (λ_=>rfl) (λ_=>hcl) hown (λi o ho=>⟨o,ho,rfl⟩) hsame (λ_ _=>rfl) ⟨hI.rg,hI.Tj⟩ _
 |take i r r' q qs cur m0 hcl hi hwt htk c0 c1=>
  have hri:=hI.Tj r (zmg hi);have hil:=(zes.1 hi).1;obtain ⟨r2,t1,t2,t3,t4⟩:=mj hri.1 h.SH hwt;rw [htk] at t1;cases t1;have hq:=PL hJ hr4 m0 (k:=(i:Int)) (by omega) (by omega) (hri.2 q (by grind));refine wT hI hn hw (k:=h.Sf) (w':=⟨⟨w.RP.SK,w.RP.Tq,1,⟨i,q,0,0,0,none⟩⟩,cur,w.pc,w.SZ,w.RY⟩) (rs:=h.RN.set i r') hregm rfl ⟨hq.2,⟨c0,by grind⟩,hC.rep,hcf⟩ hcf hcf hown (λi o ho=>⟨o,ho,rfl⟩) hsame (λ_ _=>rfl) ⟨by grind,λy hy=> ?_⟩ _;rcases p9 hy with hy|rfl
  ·exact hI.Tj y hy
  grind
 |skip st v p m1 hcu hsk=>
  obtain ⟨st2,s1,s2⟩:=PM hJ hr2 hr4 m1;rw [hsk] at s1;cases s1;exact keep (crw s2) rfl hregm _
 |enter v p m b e1 e2 ck e W' m1 hcu hmo he hE=>
  obtain ⟨m2,b2,hm1,hm2,hm3,hm4⟩:=hI.module p;rw [hmo] at hm1;cases hm1;obtain ⟨e3,W2,hE2,hW2,_⟩:=Fb hJ m1 hm2 hm3 hm4 v p;rw [hE] at hE2;cases hE2;refine keep (crw hW2) rfl ?_ _;obtain ⟨⟨q1,q2,q3⟩,hq,hq2⟩:=Ad hI.SY (j:Int);rw [he] at hq;cases hq;rcases hq2 with ⟨_,_,e5⟩|⟨_,_,_,_,_,e5⟩
  ·have e5:ck=h.Fn.Sg:=e5;subst e5;exact hregm
  ·have e5:ck=⟨h.Fn.Sg.Tt,h.Fn.Sg.in_.set ((j:Int)).toNat h.Fn.Sg.Tt⟩:=e5;subst e5;exact IG hI.SY (by omega) _
 |note a W' m2 hst k3=>exact keep (crw (stp m2 hst).1) rfl hregm _
 |ran a W' m2 hst k1=>exact keep (crw (stp m2 hst).1) rfl hregm _
 |done a W' e1 ck m2 hst k4 hlv=>
  refine keep (crw (stp m2 hst).1) rfl ?_ _;obtain ⟨⟨q1,q2⟩,hq,hq2⟩:=Ae hI.SY (j:Int);rw [hlv] at hq;cases hq;rcases hq2 with ⟨_,e5,_⟩|⟨_,_,_,e5⟩
  ·have e5:ck=h.Fn.Sg:=e5;subst e5;exact hregm
  ·have e5:ck=⟨h.Fn.Sg.Tt,h.Fn.Sg.in_.set ((j:Int)).toNat 0⟩:=e5;subst e5;exact IH hI.SY (by omega) _
 |ask a W' m2 hst k2=>
  obtain ⟨hW,hWS⟩:=stp m2 hst;rcases hWS with ⟨k4,_⟩|⟨_,_,_,_,_,_,⟨g1,g2,g3,g4,g5,g6⟩,_⟩|⟨k13,_⟩
  ·grind
  ·refine wT hI hn hw (k:=h.Sf) (w':={w with RP:=W',pc:=a.Pc}) (os:=oh h.Fd (hZ a.Item.SQ h.Fd.length,⟨t,0,false,a.Item⟩)) hregm rfl ⟨hW,hC.cur,hC.rep,hcf⟩ (λz=>z) hcf ((hI.own.put g1 g2 (.inr ⟨g3,g4⟩) g6).mono (by omega)) (λi o ho=>tc ho) (λo ho r hr=> ?_) (λu hu=> ?_) ⟨hI.rg,hI.Tj⟩ _
   ·rcases wP (l:=[(hZ a.Item.SQ h.Fd.length,⟨(t:Int),0,false,a.Item⟩)]) (os:=h.Fd) ho hr with h6|⟨x,hx,rfl⟩
    ·exact .inl h6
    grind
   ·obtain ⟨p,hp,hlt⟩:=wO (k:=a.Item.SQ) (n:=(h.Fd.length:Int)) (by rw [hI.own.len];exact hS.sh.1) (by rw [hI.own.len];exact hS.sh.2)
    grind [ta,hZ]
  ·omega
 |back r W' m3 hr hA=>
  obtain ⟨W2,hA2,hW2,_⟩:=mU hJ m3 (hC.rep r hr);rw [hA] at hA2;cases hA2;exact keep (w':={w with RP:=W',SZ:=none}) ⟨hW2,hC.cur,λr e=>(by cases e),hcf⟩ rfl hregm _
end
open Go.Sx
variable {c:zN} {ss:List (List zF)} {n:Nat} {h:za}
theorem uV(hl:h.RN.length<=4):∃b,vh h=some b/\(b=true↔∃r∈h.RN,r.waiting≠ []):=by
 unfold vh;rw [xg (by omega),zbs]
 obtain ⟨o,h1,h2⟩:OK (jL (df h) (λ(s185:Unit)=>(.inl ())) (h.RN).length 0 ()) (λo=>match o with|.inl _=>∀r∈h.RN,r.waiting=[]|.inr b=>b=true/\∃r∈h.RN,r.waiting≠ []):=by
  refine g8 (λi _=>∀r∈h.RN.take i,r.waiting=[]) (by simp) (λi s again hi hI ha=> ?_) (λs hs=>by grind);unfold df;refine f9 (i7 hi λr hr=> ?_);obtain ⟨cn,e1,e2⟩:=nA r;rw [e1];simp only [zbs];refine d5 (λe=>b9 ⟨rfl,r,zmg hr,λz=> ?_⟩) (λe=>ha _ λq hq=> ?_)
  ·grind
  ·rw [ng hr] at hq;rcases g9.1 hq with hq|hq
   ·exact hI q hq
   ·rw [i6.1 hq];have e:=yu e;exact RK.1 (by omega)
 rw [h1];cases o with
 |inl _=>exact ⟨false,rfl,λz=>(by cases z),λ⟨r,hr,hn⟩=>absurd (h2 r hr) hn⟩
 |inr b=>exact ⟨b,rfl,λ_=>h2.2,λ_=>h2.1⟩
theorem F9(hl:h.LT.length<=4):∃b,aK h=some b/\(b=true↔∀w∈h.LT,w.RP.RX=0):=by
 unfold aK;rw [xg (by omega),zbs]
 obtain ⟨o,h1,h2⟩:OK (jL (dh h) (λ(s210:Unit)=>(.inl ())) (h.LT).length 0 ()) (λo=>match o with|.inl _=>∀w∈h.LT,w.RP.RX=0|.inr b=>b=false/\∃w∈h.LT,w.RP.RX≠0):=by
  refine g8 (λi _=>∀w∈h.LT.take i,w.RP.RX=0) (by simp) (λi s again hi hI ha=> ?_) (λs hs=>by grind);unfold dh jO;refine f9 (i7 hi λw hw=> ?_);simp only [zbs];refine d5 (λe=>b9 ⟨rfl,w,zmg hw,by simpa using e⟩) (λe=>ha _ λq hq=> ?_);rw [ng hw] at hq
  grind
 rw [h1];cases o with
 |inl _=>exact ⟨true,rfl,λ_=>h2,λ_=>rfl⟩
 |inr b=>
  obtain ⟨e,w,hw,hn⟩:=h2;exact ⟨b,rfl,λz=>(by grind),λz=>absurd (z w hw) hn⟩
theorem tg(hl:h.LT.length<=4)(ho:h.Fd.length<=4)(g:Bool):∃b,xM h g=some b/\(b=true↔(∀w∈h.LT,w.RY=true)/\(g=true->∀o∈h.Fd,o.RY=true)):=by
 unfold xM;rw [xg (by omega),zbs]
 obtain ⟨o,h1,h2⟩:OK (jL (cm h) (λ(s170:Unit)=>(.inl ())) (h.LT).length 0 ()) (λo=>match o with|.inl _=>∀w∈h.LT,w.RY=true|.inr b=>b=false/\∃w∈h.LT,w.RY=false):=by
  refine g8 (λi _=>∀w∈h.LT.take i,w.RY=true) (by simp) (λi s again hi hI ha=> ?_) (λs hs=>by grind);unfold cm;refine f9 (i7 hi λw hw=>d5 (λe=>b9 ⟨rfl,w,zmg hw,by simpa using e⟩) (λe=>ha _ λq hq=> ?_));rw [ng hw] at hq
  grind
 rw [h1];cases o with
 |inr b=>
  obtain ⟨e,w,hw,hn⟩:=h2;exact ⟨b,rfl,λz=>(by grind),λz=>(by grind)⟩
 |inl _=>
  simp only [zbs];rw [xg (by omega),zbs]
  obtain ⟨o,h3,h4⟩:OK (jL (cq h g) (λ(s374:Unit)=>(.inl ())) (h.Fd).length 0 ()) (λo=>match o with|.inl _=>g=true->∀o∈h.Fd,o.RY=true|.inr b=>b=false/\g=true/\∃o∈h.Fd,o.RY=false):=by
   refine g8 (λi _=>g=true->∀w∈h.Fd.take i,w.RY=true) (by simp) (λi s again hi hI ha=> ?_) (λs hs=>by grind);unfold cq vi;refine f9 (i7 hi λw hw=> ?_);simp only [zbs];refine d6 (R:=λb=>b=(g&& !w.RY)) (d5 (λe=>b9 (by simp [e])) (λe=>b9 (by simp [e]))) (λb hb=> ?_);subst hb;refine d5 (λe=>b9 ?_) (λe=>ha _ λhg q hq=> ?_)
   ·grind
   ·rw [ng hw] at hq
    grind
  rw [h3];cases o with
  |inl _=>exact ⟨true,rfl,λ_=>⟨h2,h4⟩,λ_=>rfl⟩
  |inr b=>
   obtain ⟨e,hg,w,hw,hn⟩:=h4;exact ⟨b,rfl,λz=>(by grind),λz=>(by grind)⟩
def Fin(h:za)(x:zB):Prop:=(x.cmd.RS=8/\∀e∈h.Fn.Sg.in_,e=0\/x.TB<=e)\/(x.cmd.RS≠8/\(∀r∈h.RN,r.waiting=[])/\∀w∈h.LT,w.RP.RX=0)
theorem PA(hr:h.RN.length<=4)(hw:h.LT.length<=4)(hc:h.Fn.Sg.in_.length<=4)(x:zB):∃b,xq x h=some b/\(b=true↔Fin h x):=by
 unfold xq;by_cases hk:x.cmd.RS=8
 ·rw [d7 (by simp [hk]),II _ _ (by omega),zbs];refine ⟨_,rfl,λe=>.inl ⟨hk,yc e⟩,λe=> ?_⟩;rcases e with e|e
  ·grind
  grind
 ·rw [d8 (by simp [hk])];obtain ⟨b1,e1,e2⟩:=uV hr;obtain ⟨b2,e3,e4⟩:=F9 hw;rw [e1,e3];simp only [zbs];cases hb1:b1 with
  |true=>
   simp only [Bool.not_true,zfe,w6,zbs];refine ⟨_,rfl,λe=>(by cases e),λe=> ?_⟩;rcases e with e|e
   ·exact absurd e.1 hk
   grind
  |false=>
   simp only [Bool.not_false,o8,zbs];refine ⟨_,rfl,λe=>.inr ⟨hk,λr hr=> ?_,e4.1 e⟩,λe=> ?_⟩
   ·grind
   ·rcases e with e|e
    ·exact absurd e.1 hk
    ·exact e4.2 e.2.2
theorem oQ(hr:h.RN.length<=4)(hw:h.LT.length<=4)(hc:h.Fn.Sg.in_.length<=4):∃i,xm h=some i/\((i= -1/\∀x∈h.held,¬ Fin h x)\/∃(a:Nat)(x:zB),i=(a:Int)/\h.held[a]? =some x/\Fin h x):=by
 unfold xm qe
 obtain ⟨o,h1,h2⟩:OK (jL (qr h.held h) (λ(s216:Unit)=>(.inl ())) h.held.length 0 ()) (λo=>match o with|.inl _=>∀x∈h.held,¬ Fin h x|.inr i=>∃(a:Nat)(x:zB),i=(a:Int)/\h.held[a]? =some x/\Fin h x):=by
  refine g8 (λi _=>∀x∈h.held.take i,¬ Fin h x) (by simp) (λi s again hi hI ha=> ?_) (λs hs=>by grind);unfold qr;refine f9 (i7 hi λx hx=> ?_);obtain ⟨b,e1,e2⟩:=PA hr hw hc x;rw [e1,zbs];refine d5 (λe=>b9 ⟨i,x,rfl,hx,e2.1 e⟩) (λe=>ha _ λq hq=> ?_);rw [ng hx] at hq
  grind
 grind
def CL(k:ze)(N E:Int):ze:={k with Sd:=0,Id:=⟨E,N,k.Id.SD,k.Id.Pairs⟩}
def CM(what t:Int)(hook prog ver:Int):zd:=⟨what,t,0,0,0,0,hook,prog,ver,0,oO,CJ,0,0⟩
def th(h:za)(rg:zb)(cs:List ze)(l hd:List zB)(es:List zd):za:=
 {h with Fn:=rg,or:=cs,RW:=l,held:=hd,Sw:=h.Sw++es}
def ti(t:Int)(hook:Int)(q:zZ):zd:=⟨10,t,0,0,0,q.N,hook,0,0,0,oO,CJ,0,0⟩
def tj(r:zt):zt:=⟨r.room,true,[],⟨r.counts.Tp,r.counts.Tw,r.counts.TU,w64 (r.counts.Tx+(r.waiting.length:Int)),r.counts.Tv⟩⟩
def uD(t:Int)(rs:List zt):List zd:=(rs.mapIdx (λi r=>r.waiting.map (ti t (i:Int)))).flatten
inductive KA (t:Int) (r:zb) (x:zB):zb->Int->Int->List zd->Prop
 |load (n e:Int) (r':zb):x.cmd.RS=4->jr 2199023255552 r x.cmd.Sn=some (n,e,r')->KA t r x r' n e (if e=0 then [CM 12 t 0 n 0] else [])
 |attach (v e:Int) (r':zb):x.cmd.RS=5->jA r x.cmd.SG x.cmd.SV=some (v,e,r')->KA t r x r' v e (if e=0 then [CM 11 t x.cmd.SG x.cmd.SV v] else [])
 |swap (v e:Int) (r':zb):x.cmd.RS=6->jQ r x.cmd.SG x.cmd.SV=some (v,e,r')->KA t r x r' v e (if e=0 then [CM 11 t x.cmd.SG x.cmd.SV v] else [])
 |detach (e:Int) (tb:zz):x.cmd.RS=7->xQ r.Si [x.cmd.SG]=some (e,tb)->KA t r x (Gn r tb) 0 e (if e=0 then [CM 11 t x.cmd.SG 0 0] else [])
 |retire (v e:Int) (r':zb):x.cmd.RS=8->qP r x.cmd.SV=some (v,e,r')->e≠0->KA t r x r' 0 e []
inductive RMv (h:za) (t:Nat):za->Prop
 |fin (a:Nat) (x:zB) (u:Nat) (k:ze):h.held[a]? =some x->Fin h x->x.SA=(u:Int)->h.or[u]? =some k->x.cmd.RS≠8->RMv h t (th h h.Fn (h.or.set u (CL k 0 0)) h.RW (h.held.eraseIdx a) [])
 | retired (a : Nat) (x : zB) (u : Nat) (k : ze) : h.held[a]? = some x -> Fin h x -> x.SA = (u : Int) -> h.or[u]? = some k -> x.cmd.RS = 8 ->
   RMv h t (th h (settled h.Fn (iF h.Fn 1)) (h.or.set u (CL k 0 0)) h.RW (h.held.eraseIdx a) [CM 13 t 0 x.cmd.SV 0])
 | over (u : Nat) (k : ze) (x : qm) : (∀ x ∈ h.held, ¬ Fin h x) -> h.RW = [] -> h.Sa = (u : Int) -> h.or[u]? = some k -> h.Sf.RT[t]? = some x -> x.RX ≠ 2 ->
   RMv h t {h with Sf:=Nn h.Sf t x,or:=h.or.set u (CL k 0 0),over:=true,Sw:=h.Sw++[Py t]}
 |refuse (x:zB) (xs:List zB) (u:Nat) (k:ze):(∀x∈h.held,¬ Fin h x)->h.RW=x::xs->h.closed=true->x.SA=(u:Int)->h.or[u]? =some k->RMv h t (th h h.Fn (h.or.set u (CL k 0 43)) xs h.held [])
 | cmd (x : zB) (xs : List zB) (u : Nat) (k : ze) (r' : zb) (N E : Int) (es : List zd) : (∀ x ∈ h.held, ¬ Fin h x) -> h.RW = x :: xs -> h.closed = false -> x.SA = (u : Int) -> h.or[u]? = some k -> KA t h.Fn x r' N E es ->
   RMv h t (th h r' (h.or.set u (CL k N E)) xs h.held es)
 | hold (x : zB) (xs : List zB) (v : Int) (r' : zb) : (∀ x ∈ h.held, ¬ Fin h x) -> h.RW = x :: xs -> h.closed = false -> x.cmd.RS = 8 -> qP h.Fn x.cmd.SV = some (v, 0, r') ->
   RMv h t (th h r' h.or xs (h.held++[{x with TB:=v}]) [])
 |drain (x:zB) (xs:List zB):(∀x∈h.held,¬ Fin h x)->h.RW=x::xs->h.closed=false->x.cmd.RS=9->RMv h t (th h h.Fn h.or xs (h.held++[x]) [])
 | close (x : zB) (xs : List zB) : (∀ x ∈ h.held, ¬ Fin h x) -> h.RW = x :: xs -> h.closed = false -> x.cmd.RS = 10 ->
   RMv h t {h with RN:=h.RN.map tj,RW:=xs,Sa:=x.SA,closed:=true,Sw:=h.Sw++uD t h.RN++[CM 14 t 0 0 0]}
end
open Go.Sx
variable {c:zN} {ss:List (List zF)} {n:Nat} {h:za}
theorem pI{h':za}{a b d:Nat}(h1:h'.or.length=a)(h2:h'.LT.length=b)(h3:h'.Fd.length=d)(ha:a<=4)(hb:b<=4)(hd:d<=4):qD h'=some ((a+b+d:Nat):Int):=by
 grind [qD,qp]
theorem gv{h':za}{u:Nat}{k:ze}(hu:h'.or[u]? =some k)(N E:Int):jR h' (u:Int) N E=
  some {h' with or:=h'.or.set u (CL k N E)}:=by
 unfold jR;rw [zT hu];simp only [zbs,k8];rfl
theorem Nu{r:zt}(h:kA r)(g:zP):dB r g=some (r.waiting,tj r):=by
 obtain ⟨h1,h2,h3⟩:=h;unfold dB qq;rw [xg (by simp;omega)];rfl
theorem KD{h:za}{x:zB}{i:Nat}{s:List zt×List zd}{r:List zZ×zt}{t:Nat}(ht:qD h=some (t:Int))(hl:s.2.length+r.1.length<=500000000000):
  jL (dp h x i s r) (λ(s3860:(List zd))=>s3860) r.1.length 0 s.2=some (s.2++r.1.map (ti t (i:Int))):=by
 refine OK.is (g8 (λa l=>l=s.2++(r.1.take a).map (ti t (i:Int))) (by simp) (λa l again hi hI ha=> ?_) (λl hl=>by grind));subst hI;unfold dp;refine f9 (i7 hi λq hq=> ?_);have hb:qD {h with RN:=(s.1.set (Int.toNat (i:Int)) r.2),Sa:=x.SA,closed:=true,Sw:=(s.2++(r.1.take a).map (ti t (i:Int)))}=some (t:Int):=ht;rw [hb];simp only [zbs];rw [xg (by grind)];simp only [zbs];refine ha _ ?_;rw [ng hq,v6,<- o4];rfl
theorem Bt{α:Type}{l:List (List α)}{b:Nat}(h:∀p∈l,p.length<=b):l.flatten.length<=l.length*b:=by
 induction l with
 |nil=>simp
 |cons p l ih=>
  have h1:=h p zcs;have h2:=ih λq hq=>h q (zcm _ hq)
  rw [yj,l6,t7,v5];omega
theorem Bu{t:Int}{rs:List zt}(h:∀r∈rs,kA r):(uD t rs).length<=rs.length*16:=by
 unfold uD
 have:=Bt (l:=rs.mapIdx (λi r=>r.waiting.map (ti t (i:Int)))) (b:=16) (λp hp=>by
  obtain ⟨i,hi⟩:=q9 hp;rw [List.getElem?_mapIdx] at hi;obtain ⟨r,hr,rfl⟩:=yw.1 hi;obtain ⟨a,b,d⟩:=h r (zmg hr)
  grind)
 grind
theorem KE{h:za}{x:zB}{t:Nat}(ht:qD h=some (t:Int))(hr:∀r∈h.RN,kA r)(hr4:h.RN.length<=4)(hl:h.Sw.length<=400000000000):
  jL (dq h x) (λ(s3406:(List zt)×(List zd))=>{h with RN:=s3406.1,Sa:=x.SA,closed:=true,Sw:=s3406.2}) (h.RN).length 0 (h.RN,h.Sw)=
   some {h with RN:=(h.RN.map tj),Sa:=x.SA,closed:=true,Sw:=(h.Sw++uD t h.RN)}:=by
 refine OK.is (g8 (λi s=>s.1.length=h.RN.length/\(∀j,s.1[j]? =if j<i then (h.RN[j]?).map tj else h.RN[j]?)/\s.2=h.Sw++((h.RN.mapIdx (λi r=>r.waiting.map (ti t (i:Int)))).take i).flatten) ⟨rfl,λj=>by grind,by simp⟩ (λi s again hi hI ha=> ?_) (λs hI=> ?_))
 ·obtain ⟨s1,s2⟩:=s;obtain ⟨i1,i2,i3⟩:=hI;have i1:s1.length=h.RN.length:=i1;have i2:∀j,s1[j]? =if j<i then (h.RN[j]?).map tj else h.RN[j]? :=i2
  have i3:s2=h.Sw++((h.RN.mapIdx (λi r=>r.waiting.map (ti t (i:Int)))).take i).flatten:=i3;unfold dq;have hg:=zeg hi;have hs1:s1[i]? =some h.RN[i]:=by grind
  have hro:=hr _ (yb hi);have hmi:(h.RN.mapIdx (λi r=>r.waiting.map (ti t (i:Int))))[i]? =some (h.RN[i].waiting.map (ti t (i:Int))):=by grind
  have hfl:=Bt (l:=(h.RN.mapIdx (λi r=>r.waiting.map (ti t (i:Int)))).take i) (b:=16) (λp hp=>by
   obtain ⟨a,ha⟩:=q9 (z9 hp);rw [List.getElem?_mapIdx] at ha;obtain ⟨r,hr2,rfl⟩:=yw.1 ha;obtain ⟨a,b,d⟩:=hr r (zmg hr2)
   grind)
  have hfl2:((h.RN.mapIdx (λi r=>r.waiting.map (ti t (i:Int)))).take i).length<=4:=by grind
  have hs2:s2.length<=400000000064:=by grind
  rw [zT (xs:=(s1,s2).1) hs1];simp only [zbs];rw [Nu hro];simp only [zbs];have hlr:h.RN[i].waiting.length<=16:=by obtain ⟨a,b,d⟩:=hro;omega
  rw [KD (h:=h) (x:=x) (i:=i) (s:=(s1,s2)) (r:=(h.RN[i].waiting,tj h.RN[i])) ht (by grind)];simp only [zbs,k8];refine ha _ ⟨by grind,λj=> ?_,?_⟩
  ·grind
  ·show s2++_=_;rw [ng hmi,yd,<- o4,<- i3];simp
 ·obtain ⟨s1,s2⟩:=s;obtain ⟨i1,i2,i3⟩:=hI
  have e1:s1=h.RN.map tj:=by
   refine m8 λj=> ?_
   grind
  have e2:s2=h.Sw++uD t h.RN:=by
   rw [show s2=_ from i3];unfold uD;rw [r9 (by grind)]
  rw [e1,e2]
theorem DF{α:Type}(l:List α){a:Nat}(h:a<l.length):l.take a++l.drop (a+1)=l.eraseIdx a:=(List.eraseIdx_eq_take_drop_succ l a).symm
theorem pJ(hI:HI c ss n h){b:List Int}(hb:b.length<=140737488355328):∃v,jr 2199023255552 h.Fn b=some (if v.2≠0 then (0,v.2,h.Fn) else if 16<=h.Fn.Sj.length then (0,40,h.Fn) else (h.Fn.given+1,0,added h.Fn v.1))/\nY h.Fn.maps b=some v/\
  (v.2=0->tu v.1.Maps/\(∀x∈v.1.Maps,x<h.Fn.maps)/\v.1.Code.length<=64):=by
 obtain ⟨v,h1,h2⟩:=Gm h.Fn.maps hb;exact ⟨v,NP hI.SY h1 h2,h1,h2⟩
theorem Nv(hS:bS c ss)(hI:HI c ss n h){t:Nat}(ht:t=h.or.length+h.LT.length+h.Fd.length)(hr:(∀x∈h.held,¬ Fin h x)->h.RW=[]->h.closed=true){x:qm}(hk:h.Sf.RT[t]? =some x)(hm:x.RX≠2):
  OK (dC 2199023255552 h) (RMv h t):=by
 have hcl:=hI.cl;have hcr:=hI.crn hS;have hSc:=hS.cl;have hSw:=hS.wk;have ho4:=(hI.own4 hS).1;have hlog:=hI.logb;have hb:=hI.Ta;have hln:=hI.Uc;have hhl:=hI.hel;obtain ⟨hr1,hr2,hr4⟩:=hI.hooks4 hS;have hwk:=hI.SY.wk;have hsm:=hI.SY.TP
 have boss:∀{h':za},h'.or.length=h.or.length->h'.LT.length=h.LT.length->h'.Fd.length=h.Fd.length->qD h'=some (t:Int):=λe1 e2 e3=>by
  rw [pI (e1.trans hcl) (e2.trans hcr) e3 (by omega) (by omega) ho4,ht,hcl,hcr]
 have hrm:∀e:zd,room (h.Sw.length+[e].length) 176=some ():=λe=>xg (by grind)
 have who:∀y∈h.RW++h.held,∃(u:Nat)(k:ze),y.SA=(u:Int)/\h.or[u]? =some k:=λy hy=>by
  obtain ⟨⟨u,e1,e2⟩,_⟩:=hI.call y hy;exact ⟨u,_,e1,zeg (by omega)⟩
 unfold dC;obtain ⟨i,e1,e2⟩:=oQ (h:=h) (by omega) (by omega) (by omega);rw [e1];simp only [zbs];rcases e2 with ⟨rfl,hnf⟩|⟨a,y,rfl,hy,hfin⟩
 ·refine j7 (by decide) ?_;refine d5 (λhl0=> ?_) (λhl0=> ?_)
  ·have hl0:h.RW=[]:=RK.1 (by simpa using hl0);obtain ⟨u,u1,u2⟩:=hI.Sa;have hu:=zeg (show u<h.or.length by omega);rw [u1,gv (h':=za.mk h.Fn h.Sf h.Sk h.or h.LT h.Fd h.RN h.RW h.held (u:Int) h.closed true h.Sw h.SH) hu];simp only [zbs];rw [boss (h':=za.mk h.Fn h.Sf h.Sk (h.or.set u (CL h.or[u] 0 0)) h.LT h.Fd h.RN h.RW h.held (u:Int) h.closed true h.Sw h.SH) (by grind) rfl rfl];simp only [zbs];rw [hrm];simp only [zbs];rw [nT hk hm];simp only [zbs];have:=RMv.over (h:=h) (t:=t) u _ x hnf hl0 u1 hu hk hm;rw [u1] at this;exact b9 this
  ·have hl0:¬ h.RW=[]:=λz=>by rw [z] at hl0;cases hl0
   obtain ⟨y,ys,hl⟩:=List.exists_cons_of_ne_nil hl0
   have hcut:cut h.RW 1 (h.RW.length:Int)=some ys:=by
    rw [hl];unfold cut;rw [d7 (by simp;omega)];simp
   have hix:Go.Sx.idx h.RW 0=some y:=by rw [hl];rfl
   rw [hix,hcut];simp only [zbs];have hyl:y∈h.RW++h.held:=zal _ (by grind);obtain ⟨u,k,u1,hu⟩:=who y hyl;obtain ⟨_,hmod,k4,k10⟩:=hI.call y hyl;refine d5 (λhcd=> ?_) (λhcd=> ?_)
   ·rw [u1,gv (h':=za.mk h.Fn h.Sf h.Sk h.or h.LT h.Fd h.RN ys h.held h.Sa h.closed h.over h.Sw h.SH) hu];have:=RMv.refuse (h:=h) (t:=t) y ys u k hnf hl hcd u1 hu
    grind [th,b9]
   refine d6 (R:=RMv h t) ?_ (λr hr=>b9 hr);have cmd:∀{r':zb} {N E:Int} {es:List zd},KA t h.Fn y r' N E es->RMv h t (th h r' (h.or.set u (CL k N E)) ys h.held es):=λhc=>.cmd y ys u k _ _ _ _ hnf hl hcd u1 hu hc
   have pub:∀(r':zb)(p v e:Int),OK (xA {h with Fn:=r',RW:=ys} y p v e) (λh'=>h'=th h r' (h.or.set u (CL k v e)) ys h.held (if e=0 then [CM 11 t y.cmd.SG p v] else [])):=λr' p v e=>by
    unfold xA;by_cases he:e=0
    ·subst he;refine d6 (R:=λh'=>h'=za.mk r' h.Sf h.Sk h.or h.LT h.Fd h.RN ys h.held h.Sa h.closed h.over (h.Sw++[CM 11 t y.cmd.SG p v]) h.SH) (o5 rfl ?_) (λh' hh=> ?_)
     ·rw [boss (h':=za.mk r' h.Sf h.Sk h.or h.LT h.Fd h.RN ys h.held h.Sa h.closed h.over h.Sw h.SH) rfl rfl rfl];simp only [zbs];rw [hrm];exact b9 rfl
     ·subst hh;rw [u1,gv (h':=za.mk r' h.Sf h.Sk h.or h.LT h.Fd h.RN ys h.held h.Sa h.closed h.over (h.Sw++[CM 11 t y.cmd.SG p v]) h.SH) hu];exact b9 (by rw [d7 rfl];rfl)
    ·refine d6 (R:=λh'=>h'=za.mk r' h.Sf h.Sk h.or h.LT h.Fd h.RN ys h.held h.Sa h.closed h.over h.Sw h.SH) (j7 (by simp [he]) (b9 rfl)) (λh' hh=> ?_);subst hh;rw [u1,gv (h':=za.mk r' h.Sf h.Sk h.or h.LT h.Fd h.RN ys h.held h.Sa h.closed h.over h.Sw h.SH) hu];refine b9 ?_;rw [d8 he];unfold th;rw [i8]
   unfold cV;refine d5 (λhk4=> ?_) (λhk4=> ?_)
   ·have hk4:y.cmd.RS=4:=by simpa using hk4
    obtain ⟨v,v1,_⟩:=pJ hI hmod;generalize hq:(if v.2≠0 then (0,v.2,h.Fn) else if 16<=h.Fn.Sj.length then (0,40,h.Fn) else (h.Fn.given+1,0,added h.Fn v.1):Int×Int×zb)=q at v1;obtain ⟨q1,q2,q3⟩:=q;simp only;rw [v1];simp only [zbs];have hcm:=cmd (KA.load (t:=t) q1 q2 q3 hk4 v1);by_cases he:q2=0
    ·subst he;refine d6 (R:=λh'=>h'=za.mk q3 h.Sf h.Sk h.or h.LT h.Fd h.RN ys h.held h.Sa h.closed h.over (h.Sw++[CM 12 t 0 q1 0]) h.SH) (o5 rfl ?_) (λh' hh=> ?_)
     ·rw [boss (h':=za.mk q3 h.Sf h.Sk h.or h.LT h.Fd h.RN ys h.held h.Sa h.closed h.over h.Sw h.SH) rfl rfl rfl];simp only [zbs];rw [hrm];exact b9 rfl
     ·subst hh;rw [u1,gv (h':=za.mk q3 h.Sf h.Sk h.or h.LT h.Fd h.RN ys h.held h.Sa h.closed h.over (h.Sw++[CM 12 t 0 q1 0]) h.SH) hu];rw [d7 rfl] at hcm;exact b9 hcm
    ·refine d6 (R:=λh'=>h'=za.mk q3 h.Sf h.Sk h.or h.LT h.Fd h.RN ys h.held h.Sa h.closed h.over h.Sw h.SH) (j7 (by simp [he]) (b9 rfl)) (λh' hh=> ?_);subst hh;rw [u1,gv (h':=za.mk q3 h.Sf h.Sk h.or h.LT h.Fd h.RN ys h.held h.Sa h.closed h.over h.Sw h.SH) hu];rw [d8 he] at hcm;unfold th at hcm;rw [i8] at hcm;exact b9 hcm
   refine d5 (λhk5=> ?_) (λhk5=> ?_)
   ·have hk5:y.cmd.RS=5:=by simpa using hk5
    obtain ⟨⟨v,e,r'⟩,v1,_⟩:=tB hI.SY y.cmd.SG y.cmd.SV;simp only;rw [v1];simp only [zbs];refine d6 (pub r' y.cmd.SV v e) (λh' hh=>b9 ?_);rw [hh];exact cmd (.attach v e r' hk5 v1)
   refine d5 (λhk6=> ?_) (λhk6=> ?_)
   ·have hk6:y.cmd.RS=6:=by simpa using hk6
    obtain ⟨⟨v,e,r'⟩,v1,_⟩:=D2 hI.SY y.cmd.SG y.cmd.SV;simp only;rw [v1];simp only [zbs];refine d6 (pub r' y.cmd.SV v e) (λh' hh=>b9 ?_);rw [hh];exact cmd (.swap v e r' hk6 v1)
   refine d5 (λhk7=> ?_) (λhk7=> ?_)
   ·have hk7:y.cmd.RS=7:=by simpa using hk7
    obtain ⟨⟨e,tb⟩,v1,_⟩:=tD hI.SY y.cmd.SG;simp only;rw [v1];simp only [zbs];refine d6 (pub (Gn h.Fn tb) 0 0 e) (λh' hh=>b9 ?_);rw [hh];exact cmd (.detach e tb hk7 v1)
   refine d5 (λhk8=> ?_) (λhk8=> ?_)
   ·have hk8:y.cmd.RS=8:=by simpa using hk8
    obtain ⟨⟨v,e,r'⟩,v1,_⟩:=mz hI.SY y.cmd.SV;simp only;rw [v1];simp only [zbs];refine d5 (λhe=> ?_) (λhe=> ?_)
    ·have he:e≠0:=by simpa using he
     rw [u1,gv (h':=za.mk r' h.Sf h.Sk h.or h.LT h.Fd h.RN ys h.held h.Sa h.closed h.over h.Sw h.SH) hu];have hcm:=cmd (.retire v e r' hk8 v1 he);unfold th at hcm;rw [i8] at hcm;exact b9 hcm
    ·have he:e=0:=by simpa using he
     subst he;rw [xg (m:=h.held.length+_) (b:=144) (by simp only [t7,ye];omega)];have:=RMv.hold (h:=h) (t:=t) y ys v r' hnf hl hcd hk8 v1;unfold th at this;rw [i8] at this;exact b9 this
   refine d5 (λhk9=> ?_) (λhk9=> ?_)
   ·have hk9:y.cmd.RS=9:=by simpa using hk9
    simp only;rw [xg (m:=h.held.length+_) (b:=144) (by simp only [t7,ye];omega)];have:=RMv.drain (h:=h) (t:=t) y ys hnf hl hcd hk9;unfold th at this;rw [i8] at this;exact b9 this
   simp only [beq_eq_false_iff_ne] at hk4 hk5 hk6 hk7 hk8 hk9;have hk10:y.cmd.RS=10:=by omega
   refine o5 (by simp [hk10]) ?_;rw [KE (h:=za.mk h.Fn h.Sf h.Sk h.or h.LT h.Fd h.RN ys h.held h.Sa h.closed h.over h.Sw h.SH) (x:=y) (t:=t) (boss rfl rfl rfl) (λr hr=>(hI.Tj r hr).1) (by show h.RN.length<=4;omega) (by show h.Sw.length<=_;omega)];simp only [zbs];rw [boss (h':=za.mk h.Fn h.Sf h.Sk h.or h.LT h.Fd (h.RN.map tj) ys h.held y.SA true h.over (h.Sw++uD t h.RN) h.SH) rfl rfl rfl];simp only [zbs];have hd:=Bu (t:=(t:Int)) (λr hr=>(hI.Tj r hr).1);rw [xg (by simp only [l6,t7,ye];omega)];exact b9 (.close y ys hnf hl hcd hk10)
 ·refine o5 (by simp) ?_;have hal:=(zes.1 hy).1;rw [zT hy];simp only [zbs]
  have hdel:qc h.held (a:Int) (w64 ((a:Int)+1))=some (h.held.eraseIdx a):=by
   unfold qc Md;rw [qp (by omega) (by omega),d7 (by omega),<- DF _ hal];rw [show ((a:Int)+1).toNat=a+1 by omega];rfl
  rw [hdel];simp only [zbs];obtain ⟨u,k,u1,hu⟩:=who y (zar _ (zmg hy));by_cases hk8:y.cmd.RS=8
  ·refine d6 (R:=λh'=>h'=za.mk (settled h.Fn (iF h.Fn 1)) h.Sf h.Sk h.or h.LT h.Fd h.RN h.RW (h.held.eraseIdx a) h.Sa h.closed h.over (h.Sw++[CM 13 t 0 y.cmd.SV 0]) h.SH) (o5 (by simp [hk8]) ?_) (λh' hh=> ?_)
   ·rw [IM hI.SY 1];simp only [zbs];rw [boss (h':=za.mk (settled h.Fn (iF h.Fn 1)) h.Sf h.Sk h.or h.LT h.Fd h.RN h.RW (h.held.eraseIdx a) h.Sa h.closed h.over h.Sw h.SH) rfl rfl rfl];simp only [zbs];rw [hrm];exact b9 rfl
   ·subst hh;rw [u1,gv (h':=za.mk (settled h.Fn (iF h.Fn 1)) h.Sf h.Sk h.or h.LT h.Fd h.RN h.RW (h.held.eraseIdx a) h.Sa h.closed h.over (h.Sw++[CM 13 t 0 y.cmd.SV 0]) h.SH) hu];exact b9 (.retired a y u k hy hfin u1 hu hk8)
  ·refine d6 (R:=λh'=>h'=za.mk h.Fn h.Sf h.Sk h.or h.LT h.Fd h.RN h.RW (h.held.eraseIdx a) h.Sa h.closed h.over h.Sw h.SH) (j7 (by simp [hk8]) (b9 rfl)) (λh' hh=> ?_);subst hh;rw [u1,gv (h':=za.mk h.Fn h.Sf h.Sk h.or h.LT h.Fd h.RN h.RW (h.held.eraseIdx a) h.Sa h.closed h.over h.Sw h.SH) hu];have:=RMv.fin (h:=h) (t:=t) a y u k hy hfin u1 hu hk8;unfold th at this;rw [i8] at this;exact b9 this
end Go.Proofs.YtplmgfkghomelaaGreatDoor.KH
