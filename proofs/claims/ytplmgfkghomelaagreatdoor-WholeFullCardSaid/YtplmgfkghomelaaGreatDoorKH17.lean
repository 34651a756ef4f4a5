/- Lemmas. -/
import Derived.Test.YtplmgfkghomelaaGreatDoorKH12
set_option linter.unusedVariables false
set_option linter.unusedSimpArgs false
namespace Go.Proofs.YtplmgfkghomelaaGreatDoor.KH
section
section
section
open Go.Sx
variable {c:zH} {ss:List (List zK)} {n:Nat} {h:za}
def Du(h:za)(rg:zb)(k:zo)(ws:List zE)(os:List zc)(rs:List zq)(e:zd):za:=
 {h with Fd:=rg,Sn:=k,LT:=ws,Fn:=os,RX:=rs,SE:=h.SE++[e]}
def Rb(r:zb)(k:zD):zb:={r with Sq:=k}
def inW(w:zE)(W:zm):zE:={w with RY:=W}
def Bl(what t:Int)(ev hook prog ver pc:Int)(i:zg)(r:zk)(v:Int):zd:=⟨what,t,0,0,0,ev,hook,prog,ver,pc,i,r,v,0⟩
inductive WMv (h:za) (j:Nat) (w:zE) (t:Nat):za->Prop
 | ends (x : qw) : w.RY.Si = 0 -> h.closed = true -> h.Sn.Sd[t]? = some x -> x.Si ≠ 2 ->
   WMv h j w t (Du h h.Fd (OI h.Sn t x) (h.LT.set j {w with Sk:=true}) h.Fn h.RX (Jx t))
 | take (i : Nat) (r r' : zq) (q : zY) (qs : List zY) (cur : Int) : w.RY.Si = 0 -> h.closed = false -> h.RX[i]? = some r -> r.waiting = q :: qs -> xZ r h.SK = some (q, true, r') -> 0 <= cur -> cur < h.RX.length ->
   WMv h j w t (Du h h.Fd h.Sn (h.LT.set j ⟨⟨w.RY.SX,w.RY.Tm,1,⟨i,q,0,0,0,none⟩⟩,cur,w.pc,w.Tw,w.Sk⟩) h.Fn (h.RX.set i r') (Bl 5 t q.N i 0 0 0 nR Bf 0))
 | skip (st : zR) (v p : Int) : w.RY.Si = 1 -> jo h.Fd.Sr w.RY.SL.hook = some (v, p, false) -> xG w.RY = some (0, ⟨w.RY.SX, st, 0, ⟨0, ⟨0, ⟨0, 0⟩⟩, 0, 0, 0, none⟩⟩) ->
   WMv h j w t (Du h h.Fd h.Sn (h.LT.set j (inW w ⟨w.RY.SX,st,0,⟨0,⟨0,⟨0,0⟩⟩,0,0,0,none⟩⟩)) h.Fn h.RX (Bl 9 t w.RY.SL.SP.N w.RY.SL.hook 0 0 0 nR Bf 0))
 | enter (v p : Int) (m : zC) (b : Bool) (e1 e2 : Int) (ck : zD) (e : Int) (W' : zm) : w.RY.Si = 1 -> jo h.Fd.Sr w.RY.SL.hook = some (v, p, true) -> qS h.Fd p = some (m, b) ->
   vh h.Fd.Sq j=some (e1,e2,ck)->jV 2199023255552 w.RY v p m=some (e,W')->
   WMv h j w t (Du h (Rb h.Fd ck) h.Sn (h.LT.set j (inW w W')) h.Fn h.RX (Bl 6 t w.RY.SL.SP.N w.RY.SL.hook p v 0 nR Bf 0))
 | note (a : qZ) (W' : zm) : w.RY.Si = 2 -> ja 2199023255552 w.RY = some (a, true, W') -> a.RZ = 3 ->
   WMv h j w t (Du h h.Fd h.Sn (h.LT.set j (inW w W')) h.Fn h.RX (Bl 8 t w.RY.SL.SP.N 0 w.RY.SL.prog w.RY.SL.SA a.Pc nR Bf a.SV))
 | ask (a : qZ) (W' : zm) : w.RY.Si = 2 -> ja 2199023255552 w.RY = some (a, true, W') -> a.RZ = 2 ->
   WMv h j w t (Du h h.Fd h.Sn (h.LT.set j {w with RY:=W',pc:=a.Pc}) (rl h.Fn (kx a.Item.Tc h.Fn.length,⟨t,0,false,a.Item⟩)) h.RX (Bl 16 t w.RY.SL.SP.N 0 w.RY.SL.prog w.RY.SL.SA a.Pc a.Item Bf a.SV))
 | done (a : qZ) (W' : zm) (e1 : Int) (ck : zD) : w.RY.Si = 2 -> ja 2199023255552 w.RY = some (a, true, W') -> a.RZ = 4 -> vi h.Fd.Sq [(j : Int)] = some (e1, ck) ->
   WMv h j w t (Du h (Rb h.Fd ck) h.Sn (h.LT.set j (inW w W')) h.Fn h.RX (Bl 9 t w.RY.SL.SP.N w.RY.SL.hook w.RY.SL.prog w.RY.SL.SA a.Pc nR Bf a.SV))
 | ran (a : qZ) (W' : zm) : w.RY.Si = 2 -> ja 2199023255552 w.RY = some (a, true, W') -> a.RZ = 1 ->
   WMv h j w t (Du h h.Fd h.Sn (h.LT.set j (inW w W')) h.Fn h.RX (Bl 7 t w.RY.SL.SP.N 0 w.RY.SL.prog w.RY.SL.SA a.Pc nR Bf a.SV))
 | back (r : zk) (W' : zm) : w.RY.Si = 3 -> w.Tw = some r -> xi w.RY r = some (0, W') ->
   WMv h j w t (Du h h.Fd h.Sn (h.LT.set j {w with RY:=W',Tw:=none}) h.Fn h.RX (Bl 17 t w.RY.SL.SP.N 0 w.RY.SL.prog w.RY.SL.SA w.pc nR r 0))
theorem Np{h:za}{H:Nat}(hl:h.RX.length=H)(hH:1<=H/\H<=4){w:zE}(h0:0<=w.SN)(h1:w.SN<H){i0:Nat}{r0:zq}(hi:h.RX[i0]? =some r0)(hw:r0.waiting≠ []):
  ∃(i:Nat)(r:zq),loop (cz h) 2199023255552 w=some {w with SN:=(i:Int)}/\h.RX[i]? =some r/\r.waiting≠ []:=by
 have hil:=(zes.1 hi).1
 obtain ⟨s,e,i,r,rfl,e2,e3⟩:=oM (body:=cz h) (λm s=>∃cur:Nat,s={w with SN:=(cur:Int)}/\cur<H/\m=if cur<=i0 then i0-cur else i0+H-cur) (λs=>∃(i:Nat)(r:zq),s={w with SN:=(i:Int)}/\h.RX[i]? =some r/\r.waiting≠ []) (λm s again hI ha=>by
  obtain ⟨cur,rfl,hc,hm⟩:=hI;unfold cz;have hcl:cur<h.RX.length:=by omega
  have hg:=zeg hcl;rw [zU hg];simp only [zbs];obtain ⟨cn,hcn,hq⟩:=nv h.RX[cur];rw [hcn];simp only [zbs];by_cases he:cn.Tp=0
  ·rw [d7 (by simp [he])]
   have hne:cur≠i0:=λe=>by
    subst e;rw [hg] at hi;obtain rfl:=j4 hi;rw [hq] at he;exact hw (RW.1 (by omega))
   have hz:nz (h.RX.length:Int)=some ():=by grind [nz]
   rw [hz,zbs,qt (by omega) (by omega)];by_cases hx:cur+1<H
   ·rw [Int.tmod_eq_of_lt (by omega) (by omega)];refine ha (if cur+1<=i0 then i0-(cur+1) else i0+H-(cur+1)) _ ?_ ⟨cur+1,rfl,hx,rfl⟩
    grind
   ·have:cur+1=H:=by omega
    have e5:(cur:Int)+1=(h.RX.length:Int):=by omega
    rw [e5,Int.tmod_self];refine ha i0 _ ?_ ⟨0,rfl,by omega,by grind⟩
    grind
  grind) 2199023255552 (if w.SN.toNat<=i0 then i0-w.SN.toNat else i0+H-w.SN.toNat) w (by split<;>omega) ⟨w.SN.toNat,by rw [show ((w.SN.toNat:Nat):Int)=w.SN by omega],by omega,rfl⟩
 grind
theorem FW{t:zy}{k:Int}(h0:0<=k)(h1:k<t.Sh.length):∃v p b,jo t k=some (v,p,b):=by
 obtain ⟨x,hx,_⟩:=oF (xs:=t.Sh) h0 h1;unfold jo jh jj;have e1:(decide (k>=0)&&decide (k<(t.Sh.length:Int)))=true:=by grind
 rw [e1,hx];simp only [zbs,Bool.not_true,zfe,x3];cases decide (x.SA>0) with
 |true=>exact ⟨_,_,_,rfl⟩
 |false=>exact ⟨_,_,_,rfl⟩
theorem HI.hooks4(hS:cX c ss)(hI:HI c ss n h):h.RX.length=c.Sj.toNat/\1<=c.Sj.toNat/\c.Sj.toNat<=4:=by
 have h1:=hI.rg;have h2:=hS.hk;omega
theorem HI.module(hI:HI c ss n h)(p:Int):∃m b,qS h.Fd p=some (m,b)/\m.Maps.length*8<=140737488355328/\m.Code.length*40<=140737488355328/\∀x∈m.Maps,x<(c.Maps.length:Int):=by
 have h1:=BS hI.Tv p;cases hg:jB h.Fd.Su p with
 |none=>
  grind
 |some x=>
  rw [hg] at h1;obtain ⟨_,_,a,b,d,_⟩:=hI.Tv.prog p x hg;have a2:=a.2.2
  grind
theorem Nq(hS:cX c ss)(hI:HI c ss n h){j t:Nat}{w:zE}(hw:h.LT[j]? =some w)(ht:t=h.or.length+j)
  (hr0:w.RY.Si=0->w.Sk=false/\(h.closed=true\/∃r∈h.RX,r.waiting≠ [])) (hr3:w.RY.Si=3->w.Tw.isSome=true) {x:qw} (hk:h.Sn.Sd[t]? =some x) (hm:x.Si≠2):
  OK (dh 2199023255552 h (t:Int)) (WMv h j w t):=by
 have hjl:=(zes.1 hw).1;have hcl:=hI.cl;have hcr:=hI.crn hS;have hSc:=hS.cl;have hSw:=hS.wk;have hlog:=hI.logb;obtain ⟨hr1,hr2,hr4⟩:=hI.hooks4 hS;have hC:=hI.crew w (zmg hw);have hJ:=hC.SL;have hrm:∀e:zd,room (h.SE.length+[e].length) 176=some ():=λe=>xX (by grind)
 unfold dh zX xp jO vP;simp only [zbs];have e2:w64 ((t:Int)-(h.or.length:Int))=(j:Int):=by grind [qt]
 rw [e2,zU hw];simp only [zbs,k8];rcases hJ.is with m0|m1|⟨m2,_⟩|⟨m3,_⟩
 ·refine m9 (by simp [m0]) ?_;refine d5 (λhcd=> ?_) (λhcd=> ?_)
  ·rw [hrm];simp only [zbs];rw [nS hk hm];simp only [zbs];exact b9 (.ends x m0 hcd hk hm)
  ·obtain ⟨_,hr⟩:=hr0 m0;rcases hr with hr|⟨r0,hr,hne⟩
   ·grind
   obtain ⟨i0,hi0⟩:=v9 hr;obtain ⟨i,r,e3,e4,e5⟩:=Np hr1 ⟨hr2,hr4⟩ hC.cur.1 hC.cur.2 hi0 hne;have hil:=(zes.1 e4).1;rw [e3];simp only [zbs];rw [zU e4];simp only [zbs];have hri:=hI.ring r (zmg e4);cases hwt:r.waiting with
   |nil=>exact absurd hwt e5
   |cons q qs=>
    obtain ⟨r',t1,t2,t3,t4⟩:=me hri.1 h.SK hwt;rw [t1];have hz:nz (h.RX.length:Int)=some ():=by grind [nz]
    simp only [zbs];rw [hz];simp only [zbs];rw [(PL hJ hr4 m0 (k:=(i:Int)) (by omega) (by omega) (hri.2 q (by grind))).1];simp only [zbs];rw [hrm];simp only [zbs,k8]
    have h5:0<=(w64 ((i:Int)+1)).tmod (h.RX.length:Int)/\(w64 ((i:Int)+1)).tmod (h.RX.length:Int)<h.RX.length:=by
     rw [qt (by omega) (by omega)];exact ⟨Int.tmod_nonneg _ (by omega),Int.tmod_lt_of_pos _ (by omega)⟩
    exact b9 (.take i r r' q qs _ m0 hcd e4 hwt t1 h5.1 h5.2)
 ·refine j8 (by simp [m1]) ?_;refine m9 (by simp [m1]) ?_;have hhl:=hI.Tv.hl;obtain ⟨v,p,b,hcu⟩:=FW (t:=h.Fd.Sr) hJ.hook.1 (by have:=hJ.hook.2;omega);rw [hcu];simp only [zbs];cases b with
  |false=>
   refine m9 rfl ?_;obtain ⟨st,s1,s2⟩:=PM hJ hr2 hr4 m1;rw [s1];simp only [zbs];rw [hrm];simp only [zbs];exact b9 (.skip st v p m1 hcu s1)
  |true=>
   refine j8 rfl ?_;obtain ⟨m,b,hm1,hm2,hm3,hm4⟩:=hI.module p;rw [hm1];simp only [zbs];obtain ⟨⟨e1,e2,ck⟩,he,_⟩:=Fb hI.Tv (j:Int);rw [he];simp only [zbs];obtain ⟨e,W',hE,_⟩:=Ih hJ m1 hm2 hm3 hm4 v p;rw [hE];simp only [zbs];rw [hrm];simp only [zbs];exact b9 (.enter v p m b e1 e2 ck e W' m1 hcu hm1 he hE)
 ·refine j8 (by simp [m2]) ?_;refine j8 (by simp [m2]) ?_;refine m9 (by simp [m2]) ?_;obtain ⟨a,W',hst,hWJ,hWS⟩:=Nz hr2 hr4 hJ m2;rw [hst];simp only [zbs];have hown:=hI.own;have hb:=hI.Tg;rcases hWS with ⟨k4,_⟩|⟨k2,_,_,_,_,_,⟨g1,g2,g3,g4,g5,g6⟩,_⟩|⟨k13,_⟩
  ·refine j8 (by simp [k4]) ?_;refine j8 (by simp [k4]) ?_;refine m9 (by simp [k4]) ?_;obtain ⟨⟨e1,ck⟩,he,_⟩:=Fc hI.Tv (j:Int);rw [he];simp only [zbs];rw [hrm];simp only [zbs];exact b9 (.done a W' e1 ck m2 hst k4 he)
  ·refine j8 (by simp [k2]) ?_;refine m9 (by simp [k2]) ?_
   have hne:∀o∈h.Fn,o.Sk=false:=λo ho=>by
    cases he:o.Sk with
    |false=>rfl
    |true=>
     have:=hC.over ((hI.TM o ho he).2 w (zmg hw));omega
   obtain ⟨p,o,q1,q2,q3,q4,q5,q6⟩:=H0 hown hS.sh hne (r:=⟨(t:Int),0,false,a.Item⟩) g1 g2 ⟨g3,g4⟩ (by omega);have q2:aq a.Item.Tc (h.Fn.length:Int)=some (p:Int):=q2;rw [q2];simp only [zbs];rw [q4];simp only [zbs];rw [q6];simp only [zbs];rw [hrm];simp only [zbs,k8];have:=WMv.ask (h:=h) (j:=j) (w:=w) (t:=t) a W' m2 hst k2;have q1:kx a.Item.Tc h.Fn.length=p:=q1
   have e7:rl h.Fn (p,⟨(t:Int),0,false,a.Item⟩)=h.Fn.set p (OG o ⟨(t:Int),0,false,a.Item⟩):=by
    grind [rl]
   rw [q1,e7] at this;exact b9 this
  ·rcases k13 with k1|k3
   ·refine j8 (by simp [k1]) ?_;refine j8 (by simp [k1]) ?_;refine j8 (by simp [k1]) ?_;rw [hrm];simp only [zbs];exact b9 (.ran a W' m2 hst k1)
   ·refine m9 (by simp [k3]) ?_;rw [hrm];simp only [zbs];exact b9 (.note a W' m2 hst k3)
 ·refine j8 (by simp [m3]) ?_;refine j8 (by simp [m3]) ?_;refine j8 (by simp [m3]) ?_;refine m9 (by simp [m3]) ?_;cases hrp:w.Tw with
  |none=>have:=hr3 m3;rw [hrp] at this;cases this
  |some r=>
   simp only [zbs];rw [hrm];simp only [zbs];obtain ⟨W',hA,_⟩:=pF hJ m3 (hC.rep r hrp);rw [hA];simp only [zbs];exact b9 (.back r W' m3 hrp hA)
end
open Go.Sx
variable {c:zH} {ss:List (List zK)} {n:Nat} {h:za}
theorem H4{l:List zB}{f:Int}(h:∀x∈l,x.SG≠f):gA l f=0:=by
 grind [gA]
theorem HI.reg0(hI:HI c ss n h){t:Nat}(ht:ss.length<=t):lB h t=0:=by
 have h1:∀x∈h.Se++h.held,x.SG≠t:=λx hx e=>by
  obtain ⟨⟨u,e1,e2⟩,_⟩:=hI.call x hx;omega
 obtain ⟨u,e1,e2⟩:=hI.Sg
 grind [lB,H4]
theorem wM(hI:HI c ss n h)(hn:n+1<=100000000){j:Nat}{w w':zE}(hw:h.LT[j]? =some w){rg:zb}(hrg:fk c.Sj.toNat c.Maps.length c.Sa.toNat (n+1) rg){k:zo}(hk:k.Sd.length=h.Sn.Sd.length)
  (hw':Bi c.Sj.toNat c.Maps.length w') (he1:w.Sk=true->w'.Sk=true) (he2:w'.Sk=true->h.closed=true)
  {os:List zc} (hos:uL c (16*n+16) os) (hoe:∀(i:Nat) o,os[i]? =some o->∃o',h.Fn[i]? =some o'/\o'.Sk=o.Sk) (hreq:∀o∈os,∀r∈o.Se,(∃o'∈h.Fn,r∈o'.Se)\/(∃j:Nat,r.Tt=(h.or.length:Int)+j/\j<h.LT.length/\r.TB=false))
  (hcnt:∀u:Nat,u<h.or.length->ic os u=ic h.Fn u) {rs:List zq} (hrs:wK c rs) (e:zd):HI c ss (n+1) (Du h rg k (h.LT.set j w') os rs e):=by
 have hend:(∀w∈h.LT,w.Sk=true)->∀v∈h.LT.set j w',v.Sk=true:=λa v hv=>by
  grind
 exact
 {Tg:=hn
  Sv:=hI.Sv
  cl:=hI.cl
  cr:=by show ((h.LT.set j w').length:Int)=_;rw [j7];exact hI.cr
  rg:=hrs.1
  Tv:=hrg
  ring:=hrs.2
  Ul:=hI.Ul
  crew:=λv hv=>by
   rcases p9 (show v∈h.LT.set j w' from hv) with hv|rfl
   ·exact hI.crew v hv
   ·exact hw'
  own:=hos.mono (by omega)
  Un:=λo ho r hr=>by
   show wJ h.or (h.LT.set j w').length r;rw [j7];rcases hreq o ho r hr with ⟨o',h1,h2⟩|h1
   ·exact hI.Un o' h1 r h2
   ·exact .inr h1
  TH:=λu k2 hu=>by
   show k2.Sl=((ic os u+lB h u:Nat):Int)
   rw [hcnt u (zes.1 hu).1];exact hI.TH u k2 hu
  TO:=λu=>by
   show lB h u=0\/lB h u=1/\ic os u=0;by_cases hu:u<h.or.length
   ·rw [hcnt u hu];exact hI.TO u
   ·exact .inl (hI.reg0 (by have:=hI.cl;omega))
  call:=hI.call
  Sg:=hI.Sg
  TP:=by show k.Sd.length=_;rw [hk];exact hI.TP
  TM:=λo ho e=>by
   obtain ⟨i,hi⟩:=v9 (show o∈os from ho);obtain ⟨o',h1,h2⟩:=hoe i o hi;obtain ⟨a,b⟩:=hI.TM o' (zmg h1) (by rw [h2];exact e)
   exact ⟨a,hend b⟩
  TV:=λv hv e=>by
   rcases p9 (show v∈h.LT.set j w' from hv) with hv|rfl
   ·exact hI.TV v hv e
   ·exact he2 e
  TQ:=by
   show (h.SE++[e]).length<=_;have:=hI.TQ
   grind
  Uj:=by have:=hI.Uj;show h.Se.length<=_;omega
  hel:=by have:=hI.hel;show h.held.length<=_;omega}
theorem Nr(hS:cX c ss)(hI:HI c ss n h)(hn:n+1<=100000000){j t:Nat}{w:zE}(hw:h.LT[j]? =some w)(ht:t=h.or.length+j)(hr0:w.RY.Si=0->w.Sk=false){h':za}(hv:WMv h j w t h'):HI c ss (n+1) h':=by
 have hjl:=(zes.1 hw).1;obtain ⟨hr1,hr2,hr4⟩:=hI.hooks4 hS;have hC:=hI.crew w (zmg hw);have hJ:=hC.SL;have hregm:=hI.Tv.mono (show n<=n+1 by omega) (by omega)
 have hne:w.Sk=false:=by
  cases he:w.Sk with
  |false=>rfl
  |true=>rw [hr0 (hC.over he)] at he;cases he
 have hcf:∀{p:Prop},w.Sk=true->p:=λe=>by grind
 have hown:=hI.own.mono (show 16*n<=16*n+16 by omega);have hsame:∀o∈h.Fn,∀r∈o.Se,(∃o'∈h.Fn,r∈o'.Se)\/(∃j:Nat,r.Tt=(h.or.length:Int)+j/\j<h.LT.length/\r.TB=false):=λo ho r hr=>.inl ⟨o,ho,hr⟩
 have keep:∀{w':zE},Bi c.Sj.toNat c.Maps.length w'->w'.Sk=w.Sk->∀{rg:zb},fk c.Sj.toNat c.Maps.length c.Sa.toNat (n+1) rg->∀e,HI c ss (n+1) (Du h rg h.Sn (h.LT.set j w') h.Fn h.RX e):=λhw' he rg hrg e=>
  wM hI hn hw hrg rfl hw' (λz=>by rw [he];exact z) (λz=>hcf (by rw [<- he];exact z)) hown (λi o ho=>⟨o,ho,rfl⟩) hsame (λ_ _=>rfl) ⟨hI.rg,hI.ring⟩ e
 have crw:∀{W':zm},WJ c.Sj.toNat c.Maps.length W'->Bi c.Sj.toNat c.Maps.length (inW w W'):=λhW=>⟨hW,hC.cur,hC.rep,hcf⟩
 have stp:∀{a:qZ} {W':zm},w.RY.Si=2->ja 2199023255552 w.RY=some (a,true,W')->WJ c.Sj.toNat c.Maps.length W'/\F6 c.Sj.toNat c.Maps.length w.RY a W':=λm2 hst=>by
  grind [Nz]
 cases hv with
 |ends x m0 hcl hk hm=>
  exact wM hI hn hw (k:=OI h.Sn t x) (w':={w with Sk:=true}) hregm (by show (h.Sn.Sd.set t _).length=_;rw [j7]) ⟨hJ,hC.cur,hC.rep,λ_=>m0⟩ (λ_=>rfl) (λ_=>hcl) hown (λi o ho=>⟨o,ho,rfl⟩) hsame (λ_ _=>rfl) ⟨hI.rg,hI.ring⟩ _
 |take i r r' q qs cur m0 hcl hi hwt htk c0 c1=>
  have hri:=hI.ring r (zmg hi);have hil:=(zes.1 hi).1;obtain ⟨r2,t1,t2,t3,t4⟩:=me hri.1 h.SK hwt;rw [htk] at t1;cases t1;have hq:=PL hJ hr4 m0 (k:=(i:Int)) (by omega) (by omega) (hri.2 q (by grind));refine wM hI hn hw (k:=h.Sn) (w':=⟨⟨w.RY.SX,w.RY.Tm,1,⟨i,q,0,0,0,none⟩⟩,cur,w.pc,w.Tw,w.Sk⟩) (rs:=h.RX.set i r') hregm rfl ⟨hq.2,⟨c0,by grind⟩,hC.rep,hcf⟩ hcf hcf hown (λi o ho=>⟨o,ho,rfl⟩) hsame (λ_ _=>rfl) ⟨by grind,λy hy=> ?_⟩ _;rcases p9 hy with hy|rfl
  ·exact hI.ring y hy
  grind
 |skip st v p m1 hcu hsk=>
  obtain ⟨st2,s1,s2⟩:=PM hJ hr2 hr4 m1;rw [hsk] at s1;cases s1;exact keep (crw s2) rfl hregm _
 |enter v p m b e1 e2 ck e W' m1 hcu hmo he hE=>
  obtain ⟨m2,b2,hm1,hm2,hm3,hm4⟩:=hI.module p;rw [hmo] at hm1;cases hm1;obtain ⟨e3,W2,hE2,hW2,_⟩:=Ih hJ m1 hm2 hm3 hm4 v p;rw [hE] at hE2;cases hE2;refine keep (crw hW2) rfl ?_ _;obtain ⟨⟨q1,q2,q3⟩,hq,hq2⟩:=Fb hI.Tv (j:Int);rw [he] at hq;cases hq;rcases hq2 with ⟨_,_,e5⟩|⟨_,_,_,_,_,e5⟩
  ·have e5:ck=h.Fd.Sq:=e5;subst e5;exact hregm
  ·have e5:ck=⟨h.Fd.Sq.TC,h.Fd.Sq.in_.set ((j:Int)).toNat h.Fd.Sq.TC⟩:=e5;subst e5;exact IC hI.Tv (by omega) _
 |note a W' m2 hst k3=>exact keep (crw (stp m2 hst).1) rfl hregm _
 |ran a W' m2 hst k1=>exact keep (crw (stp m2 hst).1) rfl hregm _
 |done a W' e1 ck m2 hst k4 hlv=>
  refine keep (crw (stp m2 hst).1) rfl ?_ _;obtain ⟨⟨q1,q2⟩,hq,hq2⟩:=Fc hI.Tv (j:Int);rw [hlv] at hq;cases hq;rcases hq2 with ⟨_,e5,_⟩|⟨_,_,_,e5⟩
  ·have e5:ck=h.Fd.Sq:=e5;subst e5;exact hregm
  ·have e5:ck=⟨h.Fd.Sq.TC,h.Fd.Sq.in_.set ((j:Int)).toNat 0⟩:=e5;subst e5;exact ID hI.Tv (by omega) _
 |ask a W' m2 hst k2=>
  obtain ⟨hW,hWS⟩:=stp m2 hst;rcases hWS with ⟨k4,_⟩|⟨_,_,_,_,_,_,⟨g1,g2,g3,g4,g5,g6⟩,_⟩|⟨k13,_⟩
  ·grind
  ·refine wM hI hn hw (k:=h.Sn) (w':={w with RY:=W',pc:=a.Pc}) (os:=rl h.Fn (kx a.Item.Tc h.Fn.length,⟨t,0,false,a.Item⟩)) hregm rfl ⟨hW,hC.cur,hC.rep,hcf⟩ (λz=>z) hcf ((hI.own.put g1 g2 (.inr ⟨g3,g4⟩) g6).mono (by omega)) (λi o ho=>Be ho) (λo ho r hr=> ?_) (λu hu=> ?_) ⟨hI.rg,hI.ring⟩ _
   ·rcases wI (l:=[(kx a.Item.Tc h.Fn.length,⟨(t:Int),0,false,a.Item⟩)]) (os:=h.Fn) ho hr with h6|⟨x,hx,rfl⟩
    ·exact .inl h6
    grind
   ·obtain ⟨p,hp,hlt⟩:=wG (k:=a.Item.Tc) (n:=(h.Fn.length:Int)) (by rw [hI.own.len];exact hS.sh.1) (by rw [hI.own.len];exact hS.sh.2)
    grind [Bc,kx]
  ·omega
 |back r W' m3 hr hA=>
  obtain ⟨W2,hA2,hW2,_⟩:=pF hJ m3 (hC.rep r hr);rw [hA] at hA2;cases hA2;exact keep (w':={w with RY:=W',Tw:=none}) ⟨hW2,hC.cur,λr e=>(by cases e),hcf⟩ rfl hregm _
end
open Go.Sx
variable {c:zH} {ss:List (List zK)} {n:Nat} {h:za}
theorem uP(hl:h.RX.length<=4):∃b,vd h=some b/\(b=true↔∃r∈h.RX,r.waiting≠ []):=by
 unfold vd;rw [xX (by omega),zbs]
 obtain ⟨o,h1,h2⟩:OK (jN (cO h) (λ(s185:Unit)=>(.inl ())) (h.RX).length 0 ()) (λo=>match o with|.inl _=>∀r∈h.RX,r.waiting=[]|.inr b=>b=true/\∃r∈h.RX,r.waiting≠ []):=by
  refine i4 (λi _=>∀r∈h.RX.take i,r.waiting=[]) (by simp) (λi s again hi hI ha=> ?_) (λs hs=>by grind);unfold cO;refine f9 (i7 hi λr hr=> ?_);obtain ⟨cn,e1,e2⟩:=nv r;rw [e1];simp only [zbs];refine d5 (λe=>b9 ⟨rfl,r,zmg hr,λz=> ?_⟩) (λe=>ha _ λq hq=> ?_)
  ·grind
  ·rw [oG hr] at hq;rcases i5.1 hq with hq|hq
   ·exact hI q hq
   ·rw [i6.1 hq];have e:=yu e;exact RW.1 (by omega)
 rw [h1];cases o with
 |inl _=>exact ⟨false,rfl,λz=>(by cases z),λ⟨r,hr,hn⟩=>absurd (h2 r hr) hn⟩
 |inr b=>exact ⟨b,rfl,λ_=>h2.2,λ_=>h2.1⟩
theorem FX(hl:h.LT.length<=4):∃b,aA h=some b/\(b=true↔∀w∈h.LT,w.RY.Si=0):=by
 unfold aA;rw [xX (by omega),zbs]
 obtain ⟨o,h1,h2⟩:OK (jN (cP h) (λ(s210:Unit)=>(.inl ())) (h.LT).length 0 ()) (λo=>match o with|.inl _=>∀w∈h.LT,w.RY.Si=0|.inr b=>b=false/\∃w∈h.LT,w.RY.Si≠0):=by
  refine i4 (λi _=>∀w∈h.LT.take i,w.RY.Si=0) (by simp) (λi s again hi hI ha=> ?_) (λs hs=>by grind);unfold cP jO;refine f9 (i7 hi λw hw=> ?_);simp only [zbs];refine d5 (λe=>b9 ⟨rfl,w,zmg hw,by simpa using e⟩) (λe=>ha _ λq hq=> ?_);rw [oG hw] at hq
  grind
 rw [h1];cases o with
 |inl _=>exact ⟨true,rfl,λ_=>h2,λ_=>rfl⟩
 |inr b=>
  obtain ⟨e,w,hw,hn⟩:=h2;exact ⟨b,rfl,λz=>(by grind),λz=>absurd (z w hw) hn⟩
theorem tc(hl:h.LT.length<=4)(ho:h.Fn.length<=4)(g:Bool):∃b,xF h g=some b/\(b=true↔(∀w∈h.LT,w.Sk=true)/\(g=true->∀o∈h.Fn,o.Sk=true)):=by
 unfold xF;rw [xX (by omega),zbs]
 obtain ⟨o,h1,h2⟩:OK (jN (bR h) (λ(s170:Unit)=>(.inl ())) (h.LT).length 0 ()) (λo=>match o with|.inl _=>∀w∈h.LT,w.Sk=true|.inr b=>b=false/\∃w∈h.LT,w.Sk=false):=by
  refine i4 (λi _=>∀w∈h.LT.take i,w.Sk=true) (by simp) (λi s again hi hI ha=> ?_) (λs hs=>by grind);unfold bR;refine f9 (i7 hi λw hw=>d5 (λe=>b9 ⟨rfl,w,zmg hw,by simpa using e⟩) (λe=>ha _ λq hq=> ?_));rw [oG hw] at hq
  grind
 rw [h1];cases o with
 |inr b=>
  obtain ⟨e,w,hw,hn⟩:=h2;exact ⟨b,rfl,λz=>(by grind),λz=>(by grind)⟩
 |inl _=>
  simp only [zbs];rw [xX (by omega),zbs]
  obtain ⟨o,h3,h4⟩:OK (jN (bS h g) (λ(s374:Unit)=>(.inl ())) (h.Fn).length 0 ()) (λo=>match o with|.inl _=>g=true->∀o∈h.Fn,o.Sk=true|.inr b=>b=false/\g=true/\∃o∈h.Fn,o.Sk=false):=by
   refine i4 (λi _=>g=true->∀w∈h.Fn.take i,w.Sk=true) (by simp) (λi s again hi hI ha=> ?_) (λs hs=>by grind);unfold bS ve;refine f9 (i7 hi λw hw=> ?_);simp only [zbs];refine d6 (R:=λb=>b=(g&& !w.Sk)) (d5 (λe=>b9 (by simp [e])) (λe=>b9 (by simp [e]))) (λb hb=> ?_);subst hb;refine d5 (λe=>b9 ?_) (λe=>ha _ λhg q hq=> ?_)
   ·grind
   ·rw [oG hw] at hq
    grind
  rw [h3];cases o with
  |inl _=>exact ⟨true,rfl,λ_=>⟨h2,h4⟩,λ_=>rfl⟩
  |inr b=>
   obtain ⟨e,hg,w,hw,hn⟩:=h4;exact ⟨b,rfl,λz=>(by grind),λz=>(by grind)⟩
def Fin(h:za)(x:zB):Prop:=(x.cmd.RZ=8/\∀e∈h.Fd.Sq.in_,e=0\/x.TK<=e)\/(x.cmd.RZ≠8/\(∀r∈h.RX,r.waiting=[])/\∀w∈h.LT,w.RY.Si=0)
theorem PC(hr:h.RX.length<=4)(hw:h.LT.length<=4)(hc:h.Fd.Sq.in_.length<=4)(x:zB):∃b,xm x h=some b/\(b=true↔Fin h x):=by
 unfold xm;by_cases hk:x.cmd.RZ=8
 ·rw [d7 (by simp [hk]),IE _ _ (by omega),zbs];refine ⟨_,rfl,λe=>.inl ⟨hk,yc e⟩,λe=> ?_⟩;rcases e with e|e
  ·grind
  grind
 ·rw [d8 (by simp [hk])];obtain ⟨b1,e1,e2⟩:=uP hr;obtain ⟨b2,e3,e4⟩:=FX hw;rw [e1,e3];simp only [zbs];cases hb1:b1 with
  |true=>
   simp only [Bool.not_true,zfe,x3,zbs];refine ⟨_,rfl,λe=>(by cases e),λe=> ?_⟩;rcases e with e|e
   ·exact absurd e.1 hk
   grind
  |false=>
   simp only [Bool.not_false,q9,zbs];refine ⟨_,rfl,λe=>.inr ⟨hk,λr hr=> ?_,e4.1 e⟩,λe=> ?_⟩
   ·grind
   ·rcases e with e|e
    ·exact absurd e.1 hk
    ·exact e4.2 e.2.2
theorem oH(hr:h.RX.length<=4)(hw:h.LT.length<=4)(hc:h.Fd.Sq.in_.length<=4):∃i,xh h=some i/\((i= -1/\∀x∈h.held,¬ Fin h x)\/∃(a:Nat)(x:zB),i=(a:Int)/\h.held[a]? =some x/\Fin h x):=by
 unfold xh qh
 obtain ⟨o,h1,h2⟩:OK (jN (qy h.held h) (λ(s216:Unit)=>(.inl ())) h.held.length 0 ()) (λo=>match o with|.inl _=>∀x∈h.held,¬ Fin h x|.inr i=>∃(a:Nat)(x:zB),i=(a:Int)/\h.held[a]? =some x/\Fin h x):=by
  refine i4 (λi _=>∀x∈h.held.take i,¬ Fin h x) (by simp) (λi s again hi hI ha=> ?_) (λs hs=>by grind);unfold qy;refine f9 (i7 hi λx hx=> ?_);obtain ⟨b,e1,e2⟩:=PC hr hw hc x;rw [e1,zbs];refine d5 (λe=>b9 ⟨i,x,rfl,hx,e2.1 e⟩) (λe=>ha _ λq hq=> ?_);rw [oG hx] at hq
  grind
 grind
def Bm(k:ze)(N E:Int):ze:={k with Sl:=0,Id:=⟨E,N,k.Id.SQ,k.Id.Pairs⟩}
def wN(what t:Int)(hook prog ver:Int):zd:=⟨what,t,0,0,0,0,hook,prog,ver,0,nR,Bf,0,0⟩
def uv(h:za)(rg:zb)(cs:List ze)(l hd:List zB)(es:List zd):za:=
 {h with Fd:=rg,or:=cs,Se:=l,held:=hd,SE:=h.SE++es}
def mY(t:Int)(hook:Int)(q:zY):zd:=⟨10,t,0,0,0,q.N,hook,0,0,0,nR,Bf,0,0⟩
def rE(r:zq):zq:=⟨r.room,true,[],⟨r.counts.Td,r.counts.Ta,r.counts.TJ,w64 (r.counts.Ti+(r.waiting.length:Int)),r.counts.Tp⟩⟩
def drops(t:Int)(rs:List zq):List zd:=(rs.mapIdx (λi r=>r.waiting.map (mY t (i:Int)))).flatten
inductive Kw (t:Int) (r:zb) (x:zB):zb->Int->Int->List zd->Prop
 |load (n e:Int) (r':zb):x.cmd.RZ=4->ju 2199023255552 r x.cmd.SC=some (n,e,r')->Kw t r x r' n e (if e=0 then [wN 12 t 0 n 0] else [])
 |attach (v e:Int) (r':zb):x.cmd.RZ=5->jC r x.cmd.SJ x.cmd.Tf=some (v,e,r')->Kw t r x r' v e (if e=0 then [wN 11 t x.cmd.SJ x.cmd.Tf v] else [])
 |swap (v e:Int) (r':zb):x.cmd.RZ=6->jR r x.cmd.SJ x.cmd.Tf=some (v,e,r')->Kw t r x r' v e (if e=0 then [wN 11 t x.cmd.SJ x.cmd.Tf v] else [])
 |detach (e:Int) (tb:zy):x.cmd.RZ=7->xJ r.Sr [x.cmd.SJ]=some (e,tb)->Kw t r x (Gb r tb) 0 e (if e=0 then [wN 11 t x.cmd.SJ 0 0] else [])
 |retire (v e:Int) (r':zb):x.cmd.RZ=8->qT r x.cmd.Tf=some (v,e,r')->e≠0->Kw t r x r' 0 e []
inductive RMv (h:za) (t:Nat):za->Prop
 |fin (a:Nat) (x:zB) (u:Nat) (k:ze):h.held[a]? =some x->Fin h x->x.SG=(u:Int)->h.or[u]? =some k->x.cmd.RZ≠8->RMv h t (uv h h.Fd (h.or.set u (Bm k 0 0)) h.Se (h.held.eraseIdx a) [])
 | retired (a : Nat) (x : zB) (u : Nat) (k : ze) : h.held[a]? = some x -> Fin h x -> x.SG = (u : Int) -> h.or[u]? = some k -> x.cmd.RZ = 8 ->
   RMv h t (uv h (settled h.Fd (iA h.Fd 1)) (h.or.set u (Bm k 0 0)) h.Se (h.held.eraseIdx a) [wN 13 t 0 x.cmd.Tf 0])
 | over (u : Nat) (k : ze) (x : qw) : (∀ x ∈ h.held, ¬ Fin h x) -> h.Se = [] -> h.Sg = (u : Int) -> h.or[u]? = some k -> h.Sn.Sd[t]? = some x -> x.Si ≠ 2 ->
   RMv h t {h with Sn:=OI h.Sn t x,or:=h.or.set u (Bm k 0 0),over:=true,SE:=h.SE++[Jx t]}
 |refuse (x:zB) (xs:List zB) (u:Nat) (k:ze):(∀x∈h.held,¬ Fin h x)->h.Se=x::xs->h.closed=true->x.SG=(u:Int)->h.or[u]? =some k->RMv h t (uv h h.Fd (h.or.set u (Bm k 0 43)) xs h.held [])
 | cmd (x : zB) (xs : List zB) (u : Nat) (k : ze) (r' : zb) (N E : Int) (es : List zd) : (∀ x ∈ h.held, ¬ Fin h x) -> h.Se = x :: xs -> h.closed = false -> x.SG = (u : Int) -> h.or[u]? = some k -> Kw t h.Fd x r' N E es ->
   RMv h t (uv h r' (h.or.set u (Bm k N E)) xs h.held es)
 | hold (x : zB) (xs : List zB) (v : Int) (r' : zb) : (∀ x ∈ h.held, ¬ Fin h x) -> h.Se = x :: xs -> h.closed = false -> x.cmd.RZ = 8 -> qT h.Fd x.cmd.Tf = some (v, 0, r') ->
   RMv h t (uv h r' h.or xs (h.held++[{x with TK:=v}]) [])
 |drain (x:zB) (xs:List zB):(∀x∈h.held,¬ Fin h x)->h.Se=x::xs->h.closed=false->x.cmd.RZ=9->RMv h t (uv h h.Fd h.or xs (h.held++[x]) [])
 | close (x : zB) (xs : List zB) : (∀ x ∈ h.held, ¬ Fin h x) -> h.Se = x :: xs -> h.closed = false -> x.cmd.RZ = 10 ->
   RMv h t {h with RX:=h.RX.map rE,Se:=xs,Sg:=x.SG,closed:=true,SE:=h.SE++drops t h.RX++[wN 14 t 0 0 0]}
end
open Go.Sx
variable {c:zH} {ss:List (List zK)} {n:Nat} {h:za}
theorem pC{h':za}{a b d:Nat}(h1:h'.or.length=a)(h2:h'.LT.length=b)(h3:h'.Fn.length=d)(ha:a<=4)(hb:b<=4)(hd:d<=4):qH h'=some ((a+b+d:Nat):Int):=by
 grind [qH,qt]
theorem gj{h':za}{u:Nat}{k:ze}(hu:h'.or[u]? =some k)(N E:Int):jS h' (u:Int) N E=
  some {h' with or:=h'.or.set u (Bm k N E)}:=by
 unfold jS;rw [zU hu];simp only [zbs,k8];rfl
theorem Ns{r:zq}(h:ku r)(g:zJ):dj r g=some (r.waiting,rE r):=by
 obtain ⟨h1,h2,h3⟩:=h;unfold dj qx;rw [xX (by simp;omega)];rfl
theorem Kz{h:za}{x:zB}{i:Nat}{s:List zq×List zd}{r:List zY×zq}{t:Nat}(ht:qH h=some (t:Int))(hl:s.2.length+r.1.length<=500000000000):
  jN (cV h x i s r) (λ(s3860:(List zd))=>s3860) r.1.length 0 s.2=some (s.2++r.1.map (mY t (i:Int))):=by
 refine OK.is (i4 (λa l=>l=s.2++(r.1.take a).map (mY t (i:Int))) (by simp) (λa l again hi hI ha=> ?_) (λl hl=>by grind));subst hI;unfold cV;refine f9 (i7 hi λq hq=> ?_);have hb:qH {h with RX:=(s.1.set (Int.toNat (i:Int)) r.2),Sg:=x.SG,closed:=true,SE:=(s.2++(r.1.take a).map (mY t (i:Int)))}=some (t:Int):=ht;rw [hb];simp only [zbs];rw [xX (by grind)];simp only [zbs];refine ha _ ?_;rw [oG hq,u5,<- w6];rfl
theorem Bt{α:Type}{l:List (List α)}{b:Nat}(h:∀p∈l,p.length<=b):l.flatten.length<=l.length*b:=by
 induction l with
 |nil=>simp
 |cons p l ih=>
  have h1:=h p zcs;have h2:=ih λq hq=>h q (zcm _ hq)
  rw [yd,p5,v8,u4];omega
theorem Bu{t:Int}{rs:List zq}(h:∀r∈rs,ku r):(drops t rs).length<=rs.length*16:=by
 unfold drops
 have:=Bt (l:=rs.mapIdx (λi r=>r.waiting.map (mY t (i:Int)))) (b:=16) (λp hp=>by
  obtain ⟨i,hi⟩:=v9 hp;rw [List.getElem?_mapIdx] at hi;obtain ⟨r,hr,rfl⟩:=yf.1 hi;obtain ⟨a,b,d⟩:=h r (zmg hr)
  grind)
 grind
theorem KA{h:za}{x:zB}{t:Nat}(ht:qH h=some (t:Int))(hr:∀r∈h.RX,ku r)(hr4:h.RX.length<=4)(hl:h.SE.length<=400000000000):
  jN (cW h x) (λ(s3406:(List zq)×(List zd))=>{h with RX:=s3406.1,Sg:=x.SG,closed:=true,SE:=s3406.2}) (h.RX).length 0 (h.RX,h.SE)=
   some {h with RX:=(h.RX.map rE),Sg:=x.SG,closed:=true,SE:=(h.SE++drops t h.RX)}:=by
 refine OK.is (i4 (λi s=>s.1.length=h.RX.length/\(∀j,s.1[j]? =if j<i then (h.RX[j]?).map rE else h.RX[j]?)/\s.2=h.SE++((h.RX.mapIdx (λi r=>r.waiting.map (mY t (i:Int)))).take i).flatten) ⟨rfl,λj=>by grind,by simp⟩ (λi s again hi hI ha=> ?_) (λs hI=> ?_))
 ·obtain ⟨s1,s2⟩:=s;obtain ⟨i1,i2,i3⟩:=hI;have i1:s1.length=h.RX.length:=i1;have i2:∀j,s1[j]? =if j<i then (h.RX[j]?).map rE else h.RX[j]? :=i2
  have i3:s2=h.SE++((h.RX.mapIdx (λi r=>r.waiting.map (mY t (i:Int)))).take i).flatten:=i3;unfold cW;have hg:=zeg hi;have hs1:s1[i]? =some h.RX[i]:=by grind
  have hro:=hr _ (ym hi);have hmi:(h.RX.mapIdx (λi r=>r.waiting.map (mY t (i:Int))))[i]? =some (h.RX[i].waiting.map (mY t (i:Int))):=by grind
  have hfl:=Bt (l:=(h.RX.mapIdx (λi r=>r.waiting.map (mY t (i:Int)))).take i) (b:=16) (λp hp=>by
   obtain ⟨a,ha⟩:=v9 (z9 hp);rw [List.getElem?_mapIdx] at ha;obtain ⟨r,hr2,rfl⟩:=yf.1 ha;obtain ⟨a,b,d⟩:=hr r (zmg hr2)
   grind)
  have hfl2:((h.RX.mapIdx (λi r=>r.waiting.map (mY t (i:Int)))).take i).length<=4:=by grind
  have hs2:s2.length<=400000000064:=by grind
  rw [zU (xs:=(s1,s2).1) hs1];simp only [zbs];rw [Ns hro];simp only [zbs];have hlr:h.RX[i].waiting.length<=16:=by obtain ⟨a,b,d⟩:=hro;omega
  rw [Kz (h:=h) (x:=x) (i:=i) (s:=(s1,s2)) (r:=(h.RX[i].waiting,rE h.RX[i])) ht (by grind)];simp only [zbs,k8];refine ha _ ⟨by grind,λj=> ?_,?_⟩
  ·grind
  ·show s2++_=_;rw [oG hmi,yp,<- w6,<- i3];simp
 ·obtain ⟨s1,s2⟩:=s;obtain ⟨i1,i2,i3⟩:=hI
  have e1:s1=h.RX.map rE:=by
   refine m6 λj=> ?_
   grind
  have e2:s2=h.SE++drops t h.RX:=by
   rw [show s2=_ from i3];unfold drops;rw [r7 (by grind)]
  rw [e1,e2]
theorem Dv{α:Type}(l:List α){a:Nat}(h:a<l.length):l.take a++l.drop (a+1)=l.eraseIdx a:=(List.eraseIdx_eq_take_drop_succ l a).symm
theorem pD(hI:HI c ss n h){b:List Int}(hb:b.length<=140737488355328):∃v,ju 2199023255552 h.Fd b=some (if v.2≠0 then (0,v.2,h.Fd) else if 16<=h.Fd.Su.length then (0,40,h.Fd) else (h.Fd.given+1,0,added h.Fd v.1))/\nX h.Fd.maps b=some v/\
  (v.2=0->th v.1.Maps/\(∀x∈v.1.Maps,x<h.Fd.maps)/\v.1.Code.length<=64):=by
 obtain ⟨v,h1,h2⟩:=Ga h.Fd.maps hb;exact ⟨v,NU hI.Tv h1 h2,h1,h2⟩
theorem Nt(hS:cX c ss)(hI:HI c ss n h){t:Nat}(ht:t=h.or.length+h.LT.length+h.Fn.length)(hr:(∀x∈h.held,¬ Fin h x)->h.Se=[]->h.closed=true){x:qw}(hk:h.Sn.Sd[t]? =some x)(hm:x.Si≠2):
  OK (dl 2199023255552 h) (RMv h t):=by
 have hcl:=hI.cl;have hcr:=hI.crn hS;have hSc:=hS.cl;have hSw:=hS.wk;have ho4:=(hI.own4 hS).1;have hlog:=hI.logb;have hb:=hI.Tg;have hln:=hI.Uj;have hhl:=hI.hel;obtain ⟨hr1,hr2,hr4⟩:=hI.hooks4 hS;have hwk:=hI.Tv.wk;have hsm:=hI.Tv.TY
 have boss:∀{h':za},h'.or.length=h.or.length->h'.LT.length=h.LT.length->h'.Fn.length=h.Fn.length->qH h'=some (t:Int):=λe1 e2 e3=>by
  rw [pC (e1.trans hcl) (e2.trans hcr) e3 (by omega) (by omega) ho4,ht,hcl,hcr]
 have hrm:∀e:zd,room (h.SE.length+[e].length) 176=some ():=λe=>xX (by grind)
 have who:∀y∈h.Se++h.held,∃(u:Nat)(k:ze),y.SG=(u:Int)/\h.or[u]? =some k:=λy hy=>by
  obtain ⟨⟨u,e1,e2⟩,_⟩:=hI.call y hy;exact ⟨u,_,e1,zeg (by omega)⟩
 unfold dl;obtain ⟨i,e1,e2⟩:=oH (h:=h) (by omega) (by omega) (by omega);rw [e1];simp only [zbs];rcases e2 with ⟨rfl,hnf⟩|⟨a,y,rfl,hy,hfin⟩
 ·refine j8 (by decide) ?_;refine d5 (λhl0=> ?_) (λhl0=> ?_)
  ·have hl0:h.Se=[]:=RW.1 (by simpa using hl0);obtain ⟨u,u1,u2⟩:=hI.Sg;have hu:=zeg (show u<h.or.length by omega);rw [u1,gj (h':=za.mk h.Fd h.Sn h.Sv h.or h.LT h.Fn h.RX h.Se h.held (u:Int) h.closed true h.SE h.SK) hu];simp only [zbs];rw [boss (h':=za.mk h.Fd h.Sn h.Sv (h.or.set u (Bm h.or[u] 0 0)) h.LT h.Fn h.RX h.Se h.held (u:Int) h.closed true h.SE h.SK) (by grind) rfl rfl];simp only [zbs];rw [hrm];simp only [zbs];rw [nS hk hm];simp only [zbs];have:=RMv.over (h:=h) (t:=t) u _ x hnf hl0 u1 hu hk hm;rw [u1] at this;exact b9 this
  ·have hl0:¬ h.Se=[]:=λz=>by rw [z] at hl0;cases hl0
   obtain ⟨y,ys,hl⟩:=List.exists_cons_of_ne_nil hl0
   have hcut:cut h.Se 1 (h.Se.length:Int)=some ys:=by
    rw [hl];unfold cut;rw [d7 (by simp;omega)];simp
   have hix:Go.Sx.idx h.Se 0=some y:=by rw [hl];rfl
   rw [hix,hcut];simp only [zbs];have hyl:y∈h.Se++h.held:=zal _ (by grind);obtain ⟨u,k,u1,hu⟩:=who y hyl;obtain ⟨_,hmod,k4,k10⟩:=hI.call y hyl;refine d5 (λhcd=> ?_) (λhcd=> ?_)
   ·rw [u1,gj (h':=za.mk h.Fd h.Sn h.Sv h.or h.LT h.Fn h.RX ys h.held h.Sg h.closed h.over h.SE h.SK) hu];have:=RMv.refuse (h:=h) (t:=t) y ys u k hnf hl hcd u1 hu
    grind [uv,b9]
   refine d6 (R:=RMv h t) ?_ (λr hr=>b9 hr);have cmd:∀{r':zb} {N E:Int} {es:List zd},Kw t h.Fd y r' N E es->RMv h t (uv h r' (h.or.set u (Bm k N E)) ys h.held es):=λhc=>.cmd y ys u k _ _ _ _ hnf hl hcd u1 hu hc
   have pub:∀(r':zb)(p v e:Int),OK (xu {h with Fd:=r',Se:=ys} y p v e) (λh'=>h'=uv h r' (h.or.set u (Bm k v e)) ys h.held (if e=0 then [wN 11 t y.cmd.SJ p v] else [])):=λr' p v e=>by
    unfold xu;by_cases he:e=0
    ·subst he;refine d6 (R:=λh'=>h'=za.mk r' h.Sn h.Sv h.or h.LT h.Fn h.RX ys h.held h.Sg h.closed h.over (h.SE++[wN 11 t y.cmd.SJ p v]) h.SK) (m9 rfl ?_) (λh' hh=> ?_)
     ·rw [boss (h':=za.mk r' h.Sn h.Sv h.or h.LT h.Fn h.RX ys h.held h.Sg h.closed h.over h.SE h.SK) rfl rfl rfl];simp only [zbs];rw [hrm];exact b9 rfl
     ·subst hh;rw [u1,gj (h':=za.mk r' h.Sn h.Sv h.or h.LT h.Fn h.RX ys h.held h.Sg h.closed h.over (h.SE++[wN 11 t y.cmd.SJ p v]) h.SK) hu];exact b9 (by rw [d7 rfl];rfl)
    ·refine d6 (R:=λh'=>h'=za.mk r' h.Sn h.Sv h.or h.LT h.Fn h.RX ys h.held h.Sg h.closed h.over h.SE h.SK) (j8 (by simp [he]) (b9 rfl)) (λh' hh=> ?_);subst hh;rw [u1,gj (h':=za.mk r' h.Sn h.Sv h.or h.LT h.Fn h.RX ys h.held h.Sg h.closed h.over h.SE h.SK) hu];refine b9 ?_;rw [d8 he];unfold uv;rw [i9]
   unfold cC;refine d5 (λhk4=> ?_) (λhk4=> ?_)
   ·have hk4:y.cmd.RZ=4:=by simpa using hk4
    obtain ⟨v,v1,_⟩:=pD hI hmod;generalize hq:(if v.2≠0 then (0,v.2,h.Fd) else if 16<=h.Fd.Su.length then (0,40,h.Fd) else (h.Fd.given+1,0,added h.Fd v.1):Int×Int×zb)=q at v1;obtain ⟨q1,q2,q3⟩:=q;simp only;rw [v1];simp only [zbs];have hcm:=cmd (Kw.load (t:=t) q1 q2 q3 hk4 v1);by_cases he:q2=0
    ·subst he;refine d6 (R:=λh'=>h'=za.mk q3 h.Sn h.Sv h.or h.LT h.Fn h.RX ys h.held h.Sg h.closed h.over (h.SE++[wN 12 t 0 q1 0]) h.SK) (m9 rfl ?_) (λh' hh=> ?_)
     ·rw [boss (h':=za.mk q3 h.Sn h.Sv h.or h.LT h.Fn h.RX ys h.held h.Sg h.closed h.over h.SE h.SK) rfl rfl rfl];simp only [zbs];rw [hrm];exact b9 rfl
     ·subst hh;rw [u1,gj (h':=za.mk q3 h.Sn h.Sv h.or h.LT h.Fn h.RX ys h.held h.Sg h.closed h.over (h.SE++[wN 12 t 0 q1 0]) h.SK) hu];rw [d7 rfl] at hcm;exact b9 hcm
    ·refine d6 (R:=λh'=>h'=za.mk q3 h.Sn h.Sv h.or h.LT h.Fn h.RX ys h.held h.Sg h.closed h.over h.SE h.SK) (j8 (by simp [he]) (b9 rfl)) (λh' hh=> ?_);subst hh;rw [u1,gj (h':=za.mk q3 h.Sn h.Sv h.or h.LT h.Fn h.RX ys h.held h.Sg h.closed h.over h.SE h.SK) hu];rw [d8 he] at hcm;unfold uv at hcm;rw [i9] at hcm;exact b9 hcm
   refine d5 (λhk5=> ?_) (λhk5=> ?_)
   ·have hk5:y.cmd.RZ=5:=by simpa using hk5
    obtain ⟨⟨v,e,r'⟩,v1,_⟩:=tu hI.Tv y.cmd.SJ y.cmd.Tf;simp only;rw [v1];simp only [zbs];refine d6 (pub r' y.cmd.Tf v e) (λh' hh=>b9 ?_);rw [hh];exact cmd (.attach v e r' hk5 v1)
   refine d5 (λhk6=> ?_) (λhk6=> ?_)
   ·have hk6:y.cmd.RZ=6:=by simpa using hk6
    obtain ⟨⟨v,e,r'⟩,v1,_⟩:=DQ hI.Tv y.cmd.SJ y.cmd.Tf;simp only;rw [v1];simp only [zbs];refine d6 (pub r' y.cmd.Tf v e) (λh' hh=>b9 ?_);rw [hh];exact cmd (.swap v e r' hk6 v1)
   refine d5 (λhk7=> ?_) (λhk7=> ?_)
   ·have hk7:y.cmd.RZ=7:=by simpa using hk7
    obtain ⟨⟨e,tb⟩,v1,_⟩:=tv hI.Tv y.cmd.SJ;simp only;rw [v1];simp only [zbs];refine d6 (pub (Gb h.Fd tb) 0 0 e) (λh' hh=>b9 ?_);rw [hh];exact cmd (.detach e tb hk7 v1)
   refine d5 (λhk8=> ?_) (λhk8=> ?_)
   ·have hk8:y.cmd.RZ=8:=by simpa using hk8
    obtain ⟨⟨v,e,r'⟩,v1,_⟩:=mr hI.Tv y.cmd.Tf;simp only;rw [v1];simp only [zbs];refine d5 (λhe=> ?_) (λhe=> ?_)
    ·have he:e≠0:=by simpa using he
     rw [u1,gj (h':=za.mk r' h.Sn h.Sv h.or h.LT h.Fn h.RX ys h.held h.Sg h.closed h.over h.SE h.SK) hu];have hcm:=cmd (.retire v e r' hk8 v1 he);unfold uv at hcm;rw [i9] at hcm;exact b9 hcm
    ·have he:e=0:=by simpa using he
     subst he;rw [xX (m:=h.held.length+_) (b:=144) (by simp only [v8,yz];omega)];have:=RMv.hold (h:=h) (t:=t) y ys v r' hnf hl hcd hk8 v1;unfold uv at this;rw [i9] at this;exact b9 this
   refine d5 (λhk9=> ?_) (λhk9=> ?_)
   ·have hk9:y.cmd.RZ=9:=by simpa using hk9
    simp only;rw [xX (m:=h.held.length+_) (b:=144) (by simp only [v8,yz];omega)];have:=RMv.drain (h:=h) (t:=t) y ys hnf hl hcd hk9;unfold uv at this;rw [i9] at this;exact b9 this
   simp only [beq_eq_false_iff_ne] at hk4 hk5 hk6 hk7 hk8 hk9;have hk10:y.cmd.RZ=10:=by omega
   refine m9 (by simp [hk10]) ?_;rw [KA (h:=za.mk h.Fd h.Sn h.Sv h.or h.LT h.Fn h.RX ys h.held h.Sg h.closed h.over h.SE h.SK) (x:=y) (t:=t) (boss rfl rfl rfl) (λr hr=>(hI.ring r hr).1) (by show h.RX.length<=4;omega) (by show h.SE.length<=_;omega)];simp only [zbs];rw [boss (h':=za.mk h.Fd h.Sn h.Sv h.or h.LT h.Fn (h.RX.map rE) ys h.held y.SG true h.over (h.SE++drops t h.RX) h.SK) rfl rfl rfl];simp only [zbs];have hd:=Bu (t:=(t:Int)) (λr hr=>(hI.ring r hr).1);rw [xX (by simp only [p5,v8,yz];omega)];exact b9 (.close y ys hnf hl hcd hk10)
 ·refine m9 (by simp) ?_;have hal:=(zes.1 hy).1;rw [zU hy];simp only [zbs]
  have hdel:qf h.held (a:Int) (w64 ((a:Int)+1))=some (h.held.eraseIdx a):=by
   unfold qf L9;rw [qt (by omega) (by omega),d7 (by omega),<- Dv _ hal];rw [show ((a:Int)+1).toNat=a+1 by omega];rfl
  rw [hdel];simp only [zbs];obtain ⟨u,k,u1,hu⟩:=who y (zar _ (zmg hy));by_cases hk8:y.cmd.RZ=8
  ·refine d6 (R:=λh'=>h'=za.mk (settled h.Fd (iA h.Fd 1)) h.Sn h.Sv h.or h.LT h.Fn h.RX h.Se (h.held.eraseIdx a) h.Sg h.closed h.over (h.SE++[wN 13 t 0 y.cmd.Tf 0]) h.SK) (m9 (by simp [hk8]) ?_) (λh' hh=> ?_)
   ·rw [II hI.Tv 1];simp only [zbs];rw [boss (h':=za.mk (settled h.Fd (iA h.Fd 1)) h.Sn h.Sv h.or h.LT h.Fn h.RX h.Se (h.held.eraseIdx a) h.Sg h.closed h.over h.SE h.SK) rfl rfl rfl];simp only [zbs];rw [hrm];exact b9 rfl
   ·subst hh;rw [u1,gj (h':=za.mk (settled h.Fd (iA h.Fd 1)) h.Sn h.Sv h.or h.LT h.Fn h.RX h.Se (h.held.eraseIdx a) h.Sg h.closed h.over (h.SE++[wN 13 t 0 y.cmd.Tf 0]) h.SK) hu];exact b9 (.retired a y u k hy hfin u1 hu hk8)
  ·refine d6 (R:=λh'=>h'=za.mk h.Fd h.Sn h.Sv h.or h.LT h.Fn h.RX h.Se (h.held.eraseIdx a) h.Sg h.closed h.over h.SE h.SK) (j8 (by simp [hk8]) (b9 rfl)) (λh' hh=> ?_);subst hh;rw [u1,gj (h':=za.mk h.Fd h.Sn h.Sv h.or h.LT h.Fn h.RX h.Se (h.held.eraseIdx a) h.Sg h.closed h.over h.SE h.SK) hu];have:=RMv.fin (h:=h) (t:=t) a y u k hy hfin u1 hu hk8;unfold uv at this;rw [i9] at this;exact b9 this
end Go.Proofs.YtplmgfkghomelaaGreatDoor.KH
