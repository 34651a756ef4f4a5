/- Lemmas. -/
import Derived.Test.YtplmgfkghomelaaGreatDoorKH16
set_option linter.unusedVariables false
set_option linter.unusedSimpArgs false
namespace Go.Proofs.YtplmgfkghomelaaGreatDoor.KH
section
section
section
open Go.Sx
variable {c:zR} {ss:List (List zI)} {n:Nat} {h:za}
theorem oW{h':za}{a b d:Nat}(h1:h'.or.length=a)(h2:h'.LT.length=b)(h3:h'.Id.length=d)(ha:a<=4)(hb:b<=4)(hd:d<=4):qF h'=some ((a+b+d:Nat):Int):=by
 grind [qF,qr]
theorem fU{h':za}{u:Nat}{k:ze}(hu:h'.or[u]? =some k)(N E:Int):jN h' (u:Int) N E=
  some {h' with or:=h'.or.set u (CK k N E)}:=by
 unfold jN;rw [zT hu];simp only [zbs,k6];rfl
theorem Ms{r:zw}(h:iU r)(g:zO):de r g=some (r.waiting,wi r):=by
 obtain ⟨h1,h2,h3⟩:=h;unfold de qp;rw [xb (by simp;omega)];rfl
theorem Jz{h:za}{x:zE}{i:Nat}{s:List zw×List zd}{r:List zZ×zw}{t:Nat}(ht:qF h=some (t:Int))(hl:s.2.length+r.1.length<=500000000000):
  jI (cR h x i s r) (λ(s3860:(List zd))=>s3860) r.1.length 0 s.2=some (s.2++r.1.map (sJ t (i:Int))):=by
 refine OK.is (f9 (λa l=>l=s.2++(r.1.take a).map (sJ t (i:Int))) (by simp) (λa l again hi hI ha=> ?_) (λl hl=>by grind));subst hI;unfold cR;refine f8 (i5 hi λq hq=> ?_);have hb:qF {h with QI:=(s.1.set (Int.toNat (i:Int)) r.2),QQ:=x.Rn,closed:=true,Ri:=(s.2++(r.1.take a).map (sJ t (i:Int)))}=some (t:Int):=ht;rw [hb];simp only [zbs];rw [xb (by grind)];simp only [zbs];refine ha _ ?_;rw [mf hq,t7,<- m6];rfl
theorem AG{α:Type}{l:List (List α)}{b:Nat}(h:∀p∈l,p.length<=b):l.flatten.length<=l.length*b:=by
 induction l with
 |nil=>simp
 |cons p l ih=>
  have h1:=h p zcs;have h2:=ih λq hq=>h q (zcm _ hq)
  rw [yo,k7,t6,w6];omega
theorem AJ{t:Int}{rs:List zw}(h:∀r∈rs,iU r):(tO t rs).length<=rs.length*16:=by
 unfold tO
 have:=AG (l:=rs.mapIdx (λi r=>r.waiting.map (sJ t (i:Int)))) (b:=16) (λp hp=>by
  obtain ⟨i,hi⟩:=w7 hp;rw [List.getElem?_mapIdx] at hi;obtain ⟨r,hr,rfl⟩:=yy.1 hi;obtain ⟨a,b,d⟩:=h r (zmg hr)
  grind)
 grind
theorem JA{h:za}{x:zE}{t:Nat}(ht:qF h=some (t:Int))(hr:∀r∈h.QI,iU r)(hr4:h.QI.length<=4)(hl:h.Ri.length<=400000000000):
  jI (cT h x) (λ(s3406:(List zw)×(List zd))=>{h with QI:=s3406.1,QQ:=x.Rn,closed:=true,Ri:=s3406.2}) (h.QI).length 0 (h.QI,h.Ri)=
   some {h with QI:=(h.QI.map wi),QQ:=x.Rn,closed:=true,Ri:=(h.Ri++tO t h.QI)}:=by
 refine OK.is (f9 (λi s=>s.1.length=h.QI.length/\(∀j,s.1[j]? =if j<i then (h.QI[j]?).map wi else h.QI[j]?)/\s.2=h.Ri++((h.QI.mapIdx (λi r=>r.waiting.map (sJ t (i:Int)))).take i).flatten) ⟨rfl,λj=>by grind,by simp⟩ (λi s again hi hI ha=> ?_) (λs hI=> ?_))
 ·obtain ⟨s1,s2⟩:=s;obtain ⟨i1,i2,i3⟩:=hI;have i1:s1.length=h.QI.length:=i1;have i2:∀j,s1[j]? =if j<i then (h.QI[j]?).map wi else h.QI[j]? :=i2
  have i3:s2=h.Ri++((h.QI.mapIdx (λi r=>r.waiting.map (sJ t (i:Int)))).take i).flatten:=i3;unfold cT;have hg:=zeg hi;have hs1:s1[i]? =some h.QI[i]:=by grind
  have hro:=hr _ (yg hi);have hmi:(h.QI.mapIdx (λi r=>r.waiting.map (sJ t (i:Int))))[i]? =some (h.QI[i].waiting.map (sJ t (i:Int))):=by grind
  have hfl:=AG (l:=(h.QI.mapIdx (λi r=>r.waiting.map (sJ t (i:Int)))).take i) (b:=16) (λp hp=>by
   obtain ⟨a,ha⟩:=w7 (Qw hp);rw [List.getElem?_mapIdx] at ha;obtain ⟨r,hr2,rfl⟩:=yy.1 ha;obtain ⟨a,b,d⟩:=hr r (zmg hr2)
   grind)
  have hfl2:((h.QI.mapIdx (λi r=>r.waiting.map (sJ t (i:Int)))).take i).length<=4:=by grind
  have hs2:s2.length<=400000000064:=by grind
  rw [zT (xs:=(s1,s2).1) hs1];simp only [zbs];rw [Ms hro];simp only [zbs];have hlr:h.QI[i].waiting.length<=16:=by obtain ⟨a,b,d⟩:=hro;omega
  rw [Jz (h:=h) (x:=x) (i:=i) (s:=(s1,s2)) (r:=(h.QI[i].waiting,wi h.QI[i])) ht (by grind)];simp only [zbs,k6];refine ha _ ⟨by grind,λj=> ?_,?_⟩
  ·grind
  ·show s2++_=_;rw [mf hmi,yf,<- m6,<- i3];simp
 ·obtain ⟨s1,s2⟩:=s;obtain ⟨i1,i2,i3⟩:=hI
  have e1:s1=h.QI.map wi:=by
   refine l8 λj=> ?_
   grind
  have e2:s2=h.Ri++tO t h.QI:=by
   rw [show s2=_ from i3];unfold tO;rw [p8 (by grind)]
  rw [e1,e2]
theorem CM{α:Type}(l:List α){a:Nat}(h:a<l.length):l.take a++l.drop (a+1)=l.eraseIdx a:=(List.eraseIdx_eq_take_drop_succ l a).symm
theorem ul(hI:HI c ss n h){b:List Int}(hb:b.length<=140737488355328):∃v,jo 2199023255552 h.Fd b=some (if v.2≠0 then (0,v.2,h.Fd) else if 16<=h.Fd.Re.length then (0,40,h.Fd) else (h.Fd.given+1,0,oa h.Fd v.1))/\sS h.Fd.maps b=some v/\
  (v.2=0->sN v.1.Maps/\(∀x∈v.1.Maps,x<h.Fd.maps)/\v.1.Code.length<=64):=by
 obtain ⟨v,h1,h2⟩:=Ft h.Fd.maps hb;exact ⟨v,MN hI.Sm h1 h2,h1,h2⟩
theorem Mt(hS:cU c ss)(hI:HI c ss n h){t:Nat}(ht:t=h.or.length+h.LT.length+h.Id.length)(hr:(∀x∈h.held,¬ Fin h x)->h.QO=[]->h.closed=true){x:qq}(hk:h.QX.QN[t]? =some x)(hm:x.QU≠2):
  OK (df 2199023255552 h) (RMv h t):=by
 have hcl:=hI.cl;have hcr:=hI.crn hS;have hSc:=hS.cl;have hSw:=hS.wk;have ho4:=(hI.own4 hS).1;have hlog:=hI.logb;have hb:=hI.RP;have hln:=hI.Ta;have hhl:=hI.hel;obtain ⟨hr1,hr2,hr4⟩:=hI.hooks4 hS;have hwk:=hI.Sm.wk;have hsm:=hI.Sm.SH
 have boss:∀{h':za},h'.or.length=h.or.length->h'.LT.length=h.LT.length->h'.Id.length=h.Id.length->qF h'=some (t:Int):=λe1 e2 e3=>by
  rw [oW (e1.trans hcl) (e2.trans hcr) e3 (by omega) (by omega) ho4,ht,hcl,hcr]
 have hrm:∀e:zd,room (h.Ri.length+[e].length) 176=some ():=λe=>xb (by grind)
 have who:∀y∈h.QO++h.held,∃(u:Nat)(k:ze),y.Rn=(u:Int)/\h.or[u]? =some k:=λy hy=>by
  obtain ⟨⟨u,e1,e2⟩,_⟩:=hI.call y hy;exact ⟨u,_,e1,zeg (by omega)⟩
 unfold df;obtain ⟨i,e1,e2⟩:=nT (h:=h) (by omega) (by omega) (by omega);rw [e1];simp only [zbs];rcases e2 with ⟨rfl,hnf⟩|⟨a,y,rfl,hy,hfin⟩
 ·refine j4 (by decide) ?_;refine b9 (λhl0=> ?_) (λhl0=> ?_)
  ·have hl0:h.QO=[]:=List.length_eq_zero_iff.1 (by simpa using hl0);obtain ⟨u,u1,u2⟩:=hI.QQ;have hu:=zeg (show u<h.or.length by omega);rw [u1,fU (h':=za.mk h.Fd h.QX h.QZ h.or h.LT h.Id h.QI h.QO h.held (u:Int) h.closed true h.Ri h.Rx) hu];simp only [zbs];rw [boss (h':=za.mk h.Fd h.QX h.QZ (h.or.set u (CK h.or[u] 0 0)) h.LT h.Id h.QI h.QO h.held (u:Int) h.closed true h.Ri h.Rx) (by grind) rfl rfl];simp only [zbs];rw [hrm];simp only [zbs];rw [mU hk hm];simp only [zbs];have:=RMv.over (h:=h) (t:=t) u _ x hnf hl0 u1 hu hk hm;rw [u1] at this;exact b8 this
  ·have hl0:¬ h.QO=[]:=λz=>by rw [z] at hl0;cases hl0
   obtain ⟨y,ys,hl⟩:=List.exists_cons_of_ne_nil hl0
   have hcut:cut h.QO 1 (h.QO.length:Int)=some ys:=by
    rw [hl];unfold cut;rw [d6 (by simp;omega)];simp
   have hix:Go.Sx.idx h.QO 0=some y:=by rw [hl];rfl
   rw [hix,hcut];simp only [zbs];have hyl:y∈h.QO++h.held:=zal _ (by grind);obtain ⟨u,k,u1,hu⟩:=who y hyl;obtain ⟨_,hmod,k4,k10⟩:=hI.call y hyl;refine b9 (λhcd=> ?_) (λhcd=> ?_)
   ·rw [u1,fU (h':=za.mk h.Fd h.QX h.QZ h.or h.LT h.Id h.QI ys h.held h.QQ h.closed h.over h.Ri h.Rx) hu];have:=RMv.refuse (h:=h) (t:=t) y ys u k hnf hl hcd u1 hu
    grind [CL,b8]
   refine d5 (R:=RMv h t) ?_ (λr hr=>b8 hr);have cmd:∀{r':zb} {N E:Int} {es:List zd},K3 t h.Fd y r' N E es->RMv h t (CL h r' (h.or.set u (CK k N E)) ys h.held es):=λhc=>.cmd y ys u k _ _ _ _ hnf hl hcd u1 hu hc
   have pub:∀(r':zb)(p v e:Int),OK (xt {h with Fd:=r',QO:=ys} y p v e) (λh'=>h'=CL h r' (h.or.set u (CK k v e)) ys h.held (if e=0 then [BS 11 t y.cmd.Ry p v] else [])):=λr' p v e=>by
    unfold xt;by_cases he:e=0
    ·subst he;refine d5 (R:=λh'=>h'=za.mk r' h.QX h.QZ h.or h.LT h.Id h.QI ys h.held h.QQ h.closed h.over (h.Ri++[BS 11 t y.cmd.Ry p v]) h.Rx) (m9 rfl ?_) (λh' hh=> ?_)
     ·rw [boss (h':=za.mk r' h.QX h.QZ h.or h.LT h.Id h.QI ys h.held h.QQ h.closed h.over h.Ri h.Rx) rfl rfl rfl];simp only [zbs];rw [hrm];exact b8 rfl
     ·subst hh;rw [u1,fU (h':=za.mk r' h.QX h.QZ h.or h.LT h.Id h.QI ys h.held h.QQ h.closed h.over (h.Ri++[BS 11 t y.cmd.Ry p v]) h.Rx) hu];exact b8 (by rw [d6 rfl];rfl)
    ·refine d5 (R:=λh'=>h'=za.mk r' h.QX h.QZ h.or h.LT h.Id h.QI ys h.held h.QQ h.closed h.over h.Ri h.Rx) (j4 (by simp [he]) (b8 rfl)) (λh' hh=> ?_);subst hh;rw [u1,fU (h':=za.mk r' h.QX h.QZ h.or h.LT h.Id h.QI ys h.held h.QQ h.closed h.over h.Ri h.Rx) hu];refine b8 ?_;rw [d8 he];unfold CL;rw [i6]
   unfold cz;refine b9 (λhk4=> ?_) (λhk4=> ?_)
   ·have hk4:y.cmd.QJ=4:=by simpa using hk4
    obtain ⟨v,v1,_⟩:=ul hI hmod;generalize hq:(if v.2≠0 then (0,v.2,h.Fd) else if 16<=h.Fd.Re.length then (0,40,h.Fd) else (h.Fd.given+1,0,oa h.Fd v.1):Int×Int×zb)=q at v1;obtain ⟨q1,q2,q3⟩:=q;simp only;rw [v1];simp only [zbs];have hcm:=cmd (K3.load (t:=t) q1 q2 q3 hk4 v1);by_cases he:q2=0
    ·subst he;refine d5 (R:=λh'=>h'=za.mk q3 h.QX h.QZ h.or h.LT h.Id h.QI ys h.held h.QQ h.closed h.over (h.Ri++[BS 12 t 0 q1 0]) h.Rx) (m9 rfl ?_) (λh' hh=> ?_)
     ·rw [boss (h':=za.mk q3 h.QX h.QZ h.or h.LT h.Id h.QI ys h.held h.QQ h.closed h.over h.Ri h.Rx) rfl rfl rfl];simp only [zbs];rw [hrm];exact b8 rfl
     ·subst hh;rw [u1,fU (h':=za.mk q3 h.QX h.QZ h.or h.LT h.Id h.QI ys h.held h.QQ h.closed h.over (h.Ri++[BS 12 t 0 q1 0]) h.Rx) hu];rw [d6 rfl] at hcm;exact b8 hcm
    ·refine d5 (R:=λh'=>h'=za.mk q3 h.QX h.QZ h.or h.LT h.Id h.QI ys h.held h.QQ h.closed h.over h.Ri h.Rx) (j4 (by simp [he]) (b8 rfl)) (λh' hh=> ?_);subst hh;rw [u1,fU (h':=za.mk q3 h.QX h.QZ h.or h.LT h.Id h.QI ys h.held h.QQ h.closed h.over h.Ri h.Rx) hu];rw [d8 he] at hcm;unfold CL at hcm;rw [i6] at hcm;exact b8 hcm
   refine b9 (λhk5=> ?_) (λhk5=> ?_)
   ·have hk5:y.cmd.QJ=5:=by simpa using hk5
    obtain ⟨⟨v,e,r'⟩,v1,_⟩:=Bc hI.Sm y.cmd.Ry y.cmd.RM;simp only;rw [v1];simp only [zbs];refine d5 (pub r' y.cmd.RM v e) (λh' hh=>b8 ?_);rw [hh];exact cmd (.attach v e r' hk5 v1)
   refine b9 (λhk6=> ?_) (λhk6=> ?_)
   ·have hk6:y.cmd.QJ=6:=by simpa using hk6
    obtain ⟨⟨v,e,r'⟩,v1,_⟩:=HL hI.Sm y.cmd.Ry y.cmd.RM;simp only;rw [v1];simp only [zbs];refine d5 (pub r' y.cmd.RM v e) (λh' hh=>b8 ?_);rw [hh];exact cmd (.swap v e r' hk6 v1)
   refine b9 (λhk7=> ?_) (λhk7=> ?_)
   ·have hk7:y.cmd.QJ=7:=by simpa using hk7
    obtain ⟨⟨e,tb⟩,v1,_⟩:=Bd hI.Sm y.cmd.Ry;simp only;rw [v1];simp only [zbs];refine d5 (pub (Fu h.Fd tb) 0 0 e) (λh' hh=>b8 ?_);rw [hh];exact cmd (.detach e tb hk7 v1)
   refine b9 (λhk8=> ?_) (λhk8=> ?_)
   ·have hk8:y.cmd.QJ=8:=by simpa using hk8
    obtain ⟨⟨v,e,r'⟩,v1,_⟩:=sT hI.Sm y.cmd.RM;simp only;rw [v1];simp only [zbs];refine b9 (λhe=> ?_) (λhe=> ?_)
    ·have he:e≠0:=by simpa using he
     rw [u1,fU (h':=za.mk r' h.QX h.QZ h.or h.LT h.Id h.QI ys h.held h.QQ h.closed h.over h.Ri h.Rx) hu];have hcm:=cmd (.retire v e r' hk8 v1 he);unfold CL at hcm;rw [i6] at hcm;exact b8 hcm
    ·have he:e=0:=by simpa using he
     subst he;rw [xb (m:=h.held.length+_) (b:=144) (by simp only [t6,yu];omega)];have:=RMv.hold (h:=h) (t:=t) y ys v r' hnf hl hcd hk8 v1;unfold CL at this;rw [i6] at this;exact b8 this
   refine b9 (λhk9=> ?_) (λhk9=> ?_)
   ·have hk9:y.cmd.QJ=9:=by simpa using hk9
    simp only;rw [xb (m:=h.held.length+_) (b:=144) (by simp only [t6,yu];omega)];have:=RMv.drain (h:=h) (t:=t) y ys hnf hl hcd hk9;unfold CL at this;rw [i6] at this;exact b8 this
   simp only [beq_eq_false_iff_ne] at hk4 hk5 hk6 hk7 hk8 hk9;have hk10:y.cmd.QJ=10:=by omega
   refine m9 (by simp [hk10]) ?_;rw [JA (h:=za.mk h.Fd h.QX h.QZ h.or h.LT h.Id h.QI ys h.held h.QQ h.closed h.over h.Ri h.Rx) (x:=y) (t:=t) (boss rfl rfl rfl) (λr hr=>(hI.RZ r hr).1) (by show h.QI.length<=4;omega) (by show h.Ri.length<=_;omega)];simp only [zbs];rw [boss (h':=za.mk h.Fd h.QX h.QZ h.or h.LT h.Id (h.QI.map wi) ys h.held y.Rn true h.over (h.Ri++tO t h.QI) h.Rx) rfl rfl rfl];simp only [zbs];have hd:=AJ (t:=(t:Int)) (λr hr=>(hI.RZ r hr).1);rw [xb (by simp only [k7,t6,yu];omega)];exact b8 (.close y ys hnf hl hcd hk10)
 ·refine m9 (by simp) ?_;have hal:=(zes.1 hy).1;rw [zT hy];simp only [zbs]
  have hdel:qc h.held (a:Int) (w64 ((a:Int)+1))=some (h.held.eraseIdx a):=by
   unfold qc K0;rw [qr (by omega) (by omega),d6 (by omega),<- CM _ hal];rw [show ((a:Int)+1).toNat=a+1 by omega];rfl
  rw [hdel];simp only [zbs];obtain ⟨u,k,u1,hu⟩:=who y (zar _ (zmg hy));by_cases hk8:y.cmd.QJ=8
  ·refine d5 (R:=λh'=>h'=za.mk (gJ h.Fd (mE h.Fd 1)) h.QX h.QZ h.or h.LT h.Id h.QI h.QO (h.held.eraseIdx a) h.QQ h.closed h.over (h.Ri++[BS 13 t 0 y.cmd.RM 0]) h.Rx) (m9 (by simp [hk8]) ?_) (λh' hh=> ?_)
   ·rw [HS hI.Sm 1];simp only [zbs];rw [boss (h':=za.mk (gJ h.Fd (mE h.Fd 1)) h.QX h.QZ h.or h.LT h.Id h.QI h.QO (h.held.eraseIdx a) h.QQ h.closed h.over h.Ri h.Rx) rfl rfl rfl];simp only [zbs];rw [hrm];exact b8 rfl
   ·subst hh;rw [u1,fU (h':=za.mk (gJ h.Fd (mE h.Fd 1)) h.QX h.QZ h.or h.LT h.Id h.QI h.QO (h.held.eraseIdx a) h.QQ h.closed h.over (h.Ri++[BS 13 t 0 y.cmd.RM 0]) h.Rx) hu];exact b8 (.retired a y u k hy hfin u1 hu hk8)
  ·refine d5 (R:=λh'=>h'=za.mk h.Fd h.QX h.QZ h.or h.LT h.Id h.QI h.QO (h.held.eraseIdx a) h.QQ h.closed h.over h.Ri h.Rx) (j4 (by simp [hk8]) (b8 rfl)) (λh' hh=> ?_);subst hh;rw [u1,fU (h':=za.mk h.Fd h.QX h.QZ h.or h.LT h.Id h.QI h.QO (h.held.eraseIdx a) h.QQ h.closed h.over h.Ri h.Rx) hu];have:=RMv.fin (h:=h) (t:=t) a y u k hy hfin u1 hu hk8;unfold CL at this;rw [i6] at this;exact b8 this
end
open Go.Sx
variable {c:zR} {ss:List (List zI)} {n:Nat} {h:za}
def Mu(h:za)(rg:zb)(k:zo)(cs:List ze)(rs:List zw)(l hd:List zE)(clo:Int)(cld ov:Bool)(es:List zd):za:=
 ⟨rg,k,h.QZ,cs,h.LT,h.Id,rs,l,hd,clo,cld,ov,h.Ri++es,h.Rx⟩
theorem lx(hI:HI c ss n h)(hn:n+1<=100000000){rg:zb}{k:zo}{cs:List ze}{rs:List zw}{l hd:List zE}{clo:Int}{cld ov:Bool}{es:List zd}
  (hrg:fV c.QY.toNat c.Maps.length c.QM.toNat (n+1) rg) (hk:k.QN.length=h.QX.QN.length)
  (hcs:(cs=h.or/\∀t:Nat,kO (Mu h rg k cs rs l hd clo cld ov es) t=kO h t)\/∃(u:Nat)(k0:ze)(N E:Int),h.or[u]? =some k0/\cs=h.or.set u (CK k0 N E)/\∀t:Nat,kO (Mu h rg k cs rs l hd clo cld ov es) t+(if t=u then 1 else 0)=kO h t)
  (hrs:we c rs) (hcall:∀x∈l++hd,(∃t:Nat,x.Rn=t/\t<ss.length)/\x.cmd.Rf.length<=140737488355328/\4<=x.cmd.QJ/\x.cmd.QJ<=10) (hclo:∃t:Nat,clo=t/\t<ss.length) (hcld:h.closed=true->cld=true) (hes:es.length<=100) (hl:l.length<=n+1) (hhd:hd.length<=n+1):
  HI c ss (n+1) (Mu h rg k cs rs l hd clo cld ov es):=by
 have hlen:cs.length=h.or.length:=by
  rcases hcs with ⟨e,_⟩|⟨u,k0,N,E,_,e,_⟩
  ·rw [e]
  ·rw [e,j5]
 have hcl:∀(t:Nat) k',cs[t]? =some k'->k'.QT=((gT h.Id t+kO (Mu h rg k cs rs l hd clo cld ov es) t:Nat):Int)/\∀s,ss[t]? =some s->oV s k':=λt k' hk'=>by
  rcases hcs with ⟨rfl,e⟩|⟨u,k0,N,E,hu,rfl,e⟩
  ·exact ⟨by rw [e t];exact hI.Sr t k' hk',λs hs=>hI.Tc t k' s hk' hs⟩
  ·have h1:=e t;rcases iv hk' with ⟨rfl,rfl,_⟩|⟨hne,hk'⟩
   ·rw [d6 rfl] at h1;have h2:=hI.SB t;refine ⟨?_,λs hs=> ?_⟩
    ·show (0:Int)=_;omega
    ·have hc:=hI.Tc t k0 s hu hs;exact {hc with SY:=λ_=>rfl}
   ·rw [d8 hne] at h1;exact ⟨by rw [hI.Sr t k' hk'];rw [<- h1];rfl,λs hs=>hI.Tc t k' s hk' hs⟩
 have hback:∀(t:Nat) k,h.or[t]? =some k->∃k',cs[t]? =some k'/\k'.parts.length=k.parts.length/\k'.Fn.Rs.length=k.Fn.Rs.length:=λt k1 hk1=>by
  rcases hcs with ⟨rfl,e⟩|⟨u,k0,N,E,hu,rfl,e⟩
  ·exact ⟨k1,hk1,rfl,rfl⟩
  ·by_cases e:t=u
   ·subst e;rw [hu] at hk1;obtain rfl:=i8 hk1;exact ⟨_,nS hu,rfl,rfl⟩
   ·exact ⟨k1,vr hk1 e,rfl,rfl⟩
 exact
 {RP:=hn
  QZ:=hI.QZ
  cl:=hlen.trans hI.cl
  cr:=hI.cr
  rg:=hrs.1
  Sm:=hrg
  RZ:=hrs.2
  Tc:=λt k' s hk' hs=>(hcl t k' hk').2 s hs
  crew:=hI.crew
  own:=hI.own.mono (by omega)
  Tf:=λo ho r hr=>(hI.Tf o ho r hr).same hlen hback
  Sr:=λt k' hk'=>(hcl t k' hk').1
  SB:=λt=>by
   have h1:=hI.SB t;show kO (Mu h rg k cs rs l hd clo cld ov es) t=0\/kO (Mu h rg k cs rs l hd clo cld ov es) t=1/\gT h.Id t=0;rcases hcs with ⟨_,e⟩|⟨u,k0,N,E,_,_,e⟩
   ·rw [e t];exact h1
   ·have h2:=e t;split at h2<;>omega
  call:=hcall
  QQ:=hclo
  SC:=by show k.QN.length=_;rw [hk];exact hI.SC
  Sy:=λo ho e=>⟨hcld (hI.Sy o ho e).1,(hI.Sy o ho e).2⟩
  SF:=λw hw e=>hcld (hI.SF w hw e)
  SA:=by
   show (h.Ri++es).length<=_;have:=hI.SA;rw [k7];omega
  Ta:=hl
  hel:=hhd}
theorem un{l:List zE}{a:Nat}{x:zE}(h:l[a]? =some x)(f:Int):gp (l.eraseIdx a) f+(if x.Rn=f then 1 else 0)=gp l f:=by
 have hal:=(zes.1 h).1
 have h1:l=l.take a++x::l.drop (a+1):=by
  have h2:=yi a l;rw [List.drop_eq_getElem_cons hal] at h2;have h3:l[a]=x:=(zes.1 h).2;rw [h3] at h2;exact h2.symm
 rw [List.eraseIdx_eq_take_drop_succ]
 conv=>rhs;rw [h1]
 rw [lV,lV,sF];omega
theorem Mw(hS:cU c ss)(hI:HI c ss n h)(hn:n+1<=100000000){t:Nat}(ho:h.over=false)(hr:(∀x∈h.held,¬ Fin h x)->h.QO=[]->h.closed=true){h':za}(hv:RMv h t h'):HI c ss (n+1) h':=by
 have hregm:=hI.Sm.mono (show n<=n+1 by omega) (by omega);have hln:=hI.Ta;have hhl:=hI.hel;have hrs:we c h.QI:=⟨hI.rg,hI.RZ⟩
 have popc:∀{x xs},h.QO=x::xs->∀f:Int,gp xs f+(if x.Rn=f then 1 else 0)=gp h.QO f:=λe f=>by rw [e,sF]
 have calls:∀{x xs},h.QO=x::xs->∀y∈xs++h.held,(∃t:Nat,y.Rn=t/\t<ss.length)/\y.cmd.Rf.length<=140737488355328/\4<=y.cmd.QJ/\y.cmd.QJ<=10:=λe y hy=>hI.call y (by
  rcases f7.1 hy with hy|hy
  ·exact zal _ (by rw [e];exact zcm _ hy)
  ·exact zar _ hy)
 have callx:∀{x xs},h.QO=x::xs->(∃t:Nat,x.Rn=t/\t<ss.length)/\x.cmd.Rf.length<=140737488355328/\4<=x.cmd.QJ/\x.cmd.QJ<=10:=λe=>hI.call _ (zal _ (by rw [e];exact zcs))
 have lens:∀{x xs},h.QO=x::xs->xs.length<=n+1:=λe=>by rw [e,t6] at hln;omega
 cases hv with
 |fin a x u k hx hf hu hk h8=>
  refine lx hI hn (rg:=h.Fd) (k:=h.QX) (cs:=h.or.set u (CK k 0 0)) (rs:=h.QI) (l:=h.QO) (hd:=h.held.eraseIdx a) (clo:=h.QQ) (cld:=h.closed) (ov:=h.over) (es:=[]) hregm rfl (.inr ⟨u,k,0,0,hk,rfl,λv=> ?_⟩) hrs (λy hy=>hI.call y ?_) hI.QQ (λe=>e) (by simp) (by omega) (t5 (List.length_eraseIdx_le _ _) (by omega))
  ·have h1:=un hx (v:Int);unfold kO;show gp h.QO v+gp (h.held.eraseIdx a) v+_+_=_;rw [hu] at h1;by_cases e:v=u
   ·subst e;rw [d6 rfl] at h1 |-;show _+(if h.closed=true/\h.over=false/\h.QQ=(v:Int) then 1 else 0)+1=_;omega
   ·rw [d8 (by omega)] at h1;rw [d8 e];show _+(if h.closed=true/\h.over=false/\h.QQ=(v:Int) then 1 else 0)+0=_;omega
  ·rcases f7.1 hy with hy|hy
   ·exact zal _ hy
   ·exact zar _ (List.mem_of_mem_eraseIdx hy)
 |retired a x u k hx hf hu hk h8=>
  refine lx hI hn (rg:=gJ h.Fd (mE h.Fd 1)) (k:=h.QX) (cs:=h.or.set u (CK k 0 0)) (rs:=h.QI) (l:=h.QO) (hd:=h.held.eraseIdx a) (clo:=h.QQ) (cld:=h.closed) (ov:=h.over) (es:=[BS 13 t 0 x.cmd.RM 0]) (C9 hI.Sm (by omega) 1) rfl (.inr ⟨u,k,0,0,hk,rfl,λv=> ?_⟩) hrs (λy hy=>hI.call y ?_) hI.QQ (λe=>e) (by simp) (by omega) (t5 (List.length_eraseIdx_le _ _) (by omega))
  ·have h1:=un hx (v:Int);unfold kO;show gp h.QO v+gp (h.held.eraseIdx a) v+_+_=_;rw [hu] at h1;by_cases e:v=u
   ·subst e;rw [d6 rfl] at h1 |-;show _+(if h.closed=true/\h.over=false/\h.QQ=(v:Int) then 1 else 0)+1=_;omega
   ·rw [d8 (by omega)] at h1;rw [d8 e];show _+(if h.closed=true/\h.over=false/\h.QQ=(v:Int) then 1 else 0)+0=_;omega
  ·rcases f7.1 hy with hy|hy
   ·exact zal _ hy
   ·exact zar _ (List.mem_of_mem_eraseIdx hy)
 |over u k x hnf hl hu hk hkt hm=>
  have hc:=hr hnf hl;refine lx hI hn (rg:=h.Fd) (k:=Ny h.QX t x) (cs:=h.or.set u (CK k 0 0)) (rs:=h.QI) (l:=h.QO) (hd:=h.held) (clo:=h.QQ) (cld:=h.closed) (ov:=true) (es:=[Oj t]) hregm (by show (h.QX.QN.set t _).length=_;rw [j5]) (.inr ⟨u,k,0,0,hk,rfl,λv=> ?_⟩) hrs hI.call hI.QQ (λe=>e) (by simp) (by omega) (by omega);unfold kO;show gp h.QO v+gp h.held v+(if h.closed=true/\true=false/\h.QQ=(v:Int) then 1 else 0)+_=_;rw [d8 (λz=>by cases z.2.1),hc,ho,hu];by_cases e:v=u
  ·subst e;rw [d6 rfl,d6 ⟨rfl,rfl,rfl⟩]
  ·rw [d8 e,d8 (λz=>e (by have:=z.2.2;omega))]
 |refuse x xs u k hnf hl hc hu hk=>
  refine lx hI hn (rg:=h.Fd) (k:=h.QX) (cs:=h.or.set u (CK k 0 43)) (rs:=h.QI) (l:=xs) (hd:=h.held) (clo:=h.QQ) (cld:=h.closed) (ov:=h.over) (es:=[]) hregm rfl (.inr ⟨u,k,0,43,hk,rfl,λv=> ?_⟩) hrs (calls hl) hI.QQ (λe=>e) (by simp) (lens hl) (by omega);have h1:=popc hl (v:Int);rw [hu] at h1;unfold kO;show gp xs v+gp h.held v+(if h.closed=true/\h.over=false/\h.QQ=(v:Int) then 1 else 0)+_=_;by_cases e:v=u
  ·subst e;rw [d6 rfl] at h1 |-;omega
  ·rw [d8 (by omega)] at h1;rw [d8 e];omega
 |cmd x xs u k r' N E es hnf hl hc hu hk hcm=>
  have hrg:fV c.QY.toNat c.Maps.length c.QM.toNat (n+1) r'/\es.length<=1:=by
   cases hcm with
   |load n2 e r' hk4 hld=>
    refine ⟨?_,by split<;>simp⟩;obtain ⟨v,v1,v2,v3⟩:=ul hI (callx hl).2.1;rw [hld] at v1;have v1:=i8 v1;split at v1
    ·cases v1;exact hregm
    ·rename_i h0
     split at v1
     ·cases v1;exact hregm
     ·rename_i h16
      cases v1
      have h3:=v3 (Classical.not_not.1 h0);exact HK hI.Sm (by omega) h16 ⟨h3.1,by rw [<- hI.Sm.maps];exact h3.2.1,h3.2.2⟩
   |attach v e r' hk5 ha=>
    refine ⟨?_,by split<;>simp⟩;obtain ⟨q,q1,q2⟩:=Bc hI.Sm x.cmd.Ry x.cmd.RM;rw [ha] at q1;cases q1;exact q2.inv hI.Sm (by omega)
   |swap v e r' hk6 ha=>
    refine ⟨?_,by split<;>simp⟩;obtain ⟨q,q1,q2⟩:=HL hI.Sm x.cmd.Ry x.cmd.RM;rw [ha] at q1;cases q1;exact q2.inv hI.Sm (by omega)
   |detach e tb hk7 ha=>
    refine ⟨?_,by split<;>simp⟩;obtain ⟨q,q1,q2⟩:=Bd hI.Sm x.cmd.Ry;rw [ha] at q1;cases q1;exact Fw hI.Sm (by omega) q2
   |retire v e r' hk8 ha he=>
    refine ⟨?_,by simp⟩;obtain ⟨q,q1,q2⟩:=sT hI.Sm x.cmd.RM;rw [ha] at q1;cases q1;rcases q2 with ⟨_,_,e5⟩|⟨e5,_⟩
    ·rw [show r'=h.Fd from e5];exact hregm
    ·exact absurd e5 he
  refine lx hI hn (rg:=r') (k:=h.QX) (cs:=h.or.set u (CK k N E)) (rs:=h.QI) (l:=xs) (hd:=h.held) (clo:=h.QQ) (cld:=h.closed) (ov:=h.over) (es:=es) hrg.1 rfl (.inr ⟨u,k,N,E,hk,rfl,λv=> ?_⟩) hrs (calls hl) hI.QQ (λe=>e) (by have:=hrg.2;omega) (lens hl) (by omega);have h1:=popc hl (v:Int);rw [hu] at h1;unfold kO;show gp xs v+gp h.held v+(if h.closed=true/\h.over=false/\h.QQ=(v:Int) then 1 else 0)+_=_;by_cases e:v=u
  ·subst e;rw [d6 rfl] at h1 |-;omega
  ·rw [d8 (by omega)] at h1;rw [d8 e];omega
 |hold x xs v r' hnf hl hc h8 ha=>
  have hrg:fV c.QY.toNat c.Maps.length c.QM.toNat (n+1) r':=by
   obtain ⟨q,q1,q2⟩:=sT hI.Sm x.cmd.RM;rw [ha] at q1;cases q1;rcases q2 with ⟨e5,_⟩|⟨_,_,y,y1,y2,y3⟩
   ·exact absurd rfl e5
   ·rw [show r'=_ from y3];exact C8 hI.Sm (by omega) y1 y2
  refine lx hI hn (rg:=r') (k:=h.QX) (cs:=h.or) (rs:=h.QI) (l:=xs) (hd:=h.held++[{x with Sv:=v}]) (clo:=h.QQ) (cld:=h.closed) (ov:=h.over) (es:=[]) hrg rfl (.inl ⟨rfl,λw=> ?_⟩) hrs (λy hy=> ?_) hI.QQ (λe=>e) (by simp) (lens hl) (by rw [k7];simp only [t6,yu];omega)
  ·have h1:=popc hl (w:Int);unfold kO;show gp xs w+gp (h.held++[{x with Sv:=v}]) w+(if h.closed=true/\h.over=false/\h.QQ=(w:Int) then 1 else 0)=_;rw [lV,rH];show gp xs w+(gp h.held w+(if x.Rn=(w:Int) then 1 else 0))+_=_;omega
  ·rcases f7.1 hy with hy|hy
   ·exact calls hl y (zal _ hy)
   ·rcases f7.1 hy with hy|hy
    ·exact hI.call y (zar _ hy)
    ·rw [g9.1 hy];exact callx (x:=x) hl
 |drain x xs hnf hl hc h9=>
  refine lx hI hn (rg:=h.Fd) (k:=h.QX) (cs:=h.or) (rs:=h.QI) (l:=xs) (hd:=h.held++[x]) (clo:=h.QQ) (cld:=h.closed) (ov:=h.over) (es:=[]) hregm rfl (.inl ⟨rfl,λw=> ?_⟩) hrs (λy hy=> ?_) hI.QQ (λe=>e) (by simp) (lens hl) (by rw [k7];simp only [t6,yu];omega)
  ·have h1:=popc hl (w:Int);unfold kO;show gp xs w+gp (h.held++[x]) w+(if h.closed=true/\h.over=false/\h.QQ=(w:Int) then 1 else 0)=_;rw [lV,rH];omega
  ·rcases f7.1 hy with hy|hy
   ·exact calls hl y (zal _ hy)
   ·rcases f7.1 hy with hy|hy
    ·exact hI.call y (zar _ hy)
    ·rw [g9.1 hy];exact callx hl
 |close x xs hnf hl hc h10=>
  have hd:=AJ (t:=(t:Int)) (λr hr=>(hI.RZ r hr).1);have hr4:=(hI.hooks4 hS)
  have:=lx hI hn (rg:=h.Fd) (k:=h.QX) (cs:=h.or) (rs:=h.QI.map wi) (l:=xs) (hd:=h.held) (clo:=x.Rn) (cld:=true) (ov:=h.over) (es:=tO t h.QI++[BS 14 t 0 0 0]) hregm rfl (.inl ⟨rfl,λw=> ?_⟩) ⟨by rw [p5];exact hI.rg,λr hr=> ?_⟩ (calls hl) (callx hl).1 (λ_=>rfl) (by rw [k7];simp only [t6,yu];omega) (lens hl) (by omega)
  ·unfold Mu at this;rw [<- m6] at this;exact this
  ·have h1:=popc hl (w:Int);unfold kO;show gp xs w+gp h.held w+(if true=true/\h.over=false/\x.Rn=(w:Int) then 1 else 0)=_;rw [ho,hc,d8 (show ¬ (false=true/\false=false/\h.QQ=(w:Int)) from λz=>by cases z.1)];by_cases e:x.Rn=(w:Int)
   ·rw [d6 e] at h1;rw [d6 ⟨rfl,rfl,e⟩];omega
   ·rw [d8 e] at h1;rw [d8 (λz=>e z.2.2)];omega
  ·obtain ⟨r0,hr0,rfl⟩:=yn.1 hr;obtain ⟨⟨a,b,d⟩,_⟩:=hI.RZ r0 hr0;refine ⟨⟨a,b,?_⟩,λq hq=>by cases hq⟩;show ((0:Nat):Int)<=r0.room;omega
end
open Go.Sx
variable {c:zR} {ss:List (List zI)} {n:Nat} {h:za}
def PK(k:ze):Prop:=(k.waits=true/\k.QT=0)\/(k.waits=false/\k.Rj<k.Ro.length)
def Pd(h:za)(w:zJ):Prop:=(w.QL.QU=0->w.QV=false/\(h.closed=true\/∃r∈h.QI,r.waiting≠ []))/\(w.QL.QU=3->w.Sg.isSome=true)
def Pe(h:za)(o:zc):Prop:=o.QO≠ []\/(h.closed=true/\(∀w∈h.LT,w.QV=true)/\o.QV=false)
def Nz(h:za):Prop:=h.over=false/\(h.QO≠ []\/(∃x∈h.held,Fin h x)\/(h.closed=true/\((∀w∈h.LT,w.QV=true)/\∀o∈h.Id,o.QV=true)/\h.held=[]))
theorem HI.sizes(hS:cU c ss)(hI:HI c ss n h):(1<=h.or.length/\h.or.length<=4)/\(1<=h.LT.length/\h.LT.length<=4)/\(1<=h.Id.length/\h.Id.length<=4)/\(1<=h.QI.length/\h.QI.length<=4)/\h.Fd.Rb.in_.length<=4/\h.QX.QN.length=h.or.length+h.LT.length+h.Id.length+1:=by
 have h1:=hI.cl;have h2:=hI.crn hS;have h3:=hI.own4 hS;have h4:=hI.hooks4 hS;have h5:=hI.Sm.wk;have h6:=hI.SC;have h7:=hS.cl;have h8:=hS.wk;have h9:=hS.sh
 grind
theorem Hh{t:Nat}{k:ze}(ht:h.or[t]? =some k):∃b,qQ h (t:Int)=some b/\(b=true↔PK k):=by
 have hl:=(zes.1 ht).1;unfold qQ zS;simp only [zbs];rw [d6 (by simpa using hl),zT ht];simp only [zbs];unfold PK;cases hw:k.waits with
 |true=>
  grind
 |false=>
  grind
theorem Hj(hS:cU c ss)(hI:HI c ss n h){j:Nat}{w:zJ}(hw:h.LT[j]? =some w):∃b,qQ h ((h.or.length+j:Nat):Int)=some b/\(b=true↔Pd h w):=by
 have hl:=(zes.1 hw).1;obtain ⟨s1,s2,s3,s4,s5,s6⟩:=hI.sizes hS;have hJ:=(hI.crew w (zmg hw)).Ru;unfold qQ zS qC jJ
 grind [qr,zT,Pd,uk]
theorem Hk(hS:cU c ss)(hI:HI c ss n h){i:Nat}{o:zc}(ho:h.Id[i]? =some o):∃b,qQ h ((h.or.length+h.LT.length+i:Nat):Int)=some b/\(b=true↔Pe h o):=by
 have hl:=(zes.1 ho).1;obtain ⟨s1,s2,s3,s4,s5,s6⟩:=hI.sizes hS;have hb:=hI.RP;have hol:=(hI.own.all i o ho).2.2.2.2.2;unfold qQ zS qC;simp only [zbs];rw [d8 (by simp;omega),qr (x:=(h.or.length:Int)+h.LT.length) (by omega) (by omega),d8 (by simp;omega)];rw [oW rfl rfl rfl (by omega) (by omega) (by omega)];simp only [zbs];rw [d6 (by simp;omega),qr (by omega) (by omega)];rw [show ((h.or.length+h.LT.length+i:Nat):Int)-((h.or.length:Int)+h.LT.length)=(i:Int) by omega,zT ho];simp only [zbs];rw [pX (by omega)];simp only [zbs];unfold Pe;by_cases hn:o.QO=[]
 ·rw [d8 (by rw [hn];simp)];cases hc:h.closed with
  |false=>
   refine ⟨false,rfl,λe=>(by cases e),λe=> ?_⟩
   grind
  |true=>
   obtain ⟨b,e1,e2⟩:=sI (h:=h) s2.2 s3.2 false;rw [e1];simp only [zbs,s9];cases hb2:b with
   |false=>
    refine ⟨false,rfl,λe=>(by cases e),λe=> ?_⟩;rcases e with e|e
    ·exact absurd hn e
    ·rw [e2.2 ⟨e.2.1,λz=>by cases z⟩] at hb2;cases hb2
   |true=>
    unfold ve;refine ⟨_,rfl,λe=>.inr ⟨by trivial,(e2.1 hb2).1,by simpa using e⟩,λe=> ?_⟩;rcases e with e|e
    ·exact absurd hn e
    ·simp [e.2.2]
 ·have:0<o.QO.length:=List.length_pos_iff.2 hn;rw [d6 (by simp;omega)];exact ⟨true,rfl,λ_=>.inl hn,λ_=>rfl⟩
theorem E8(s2:h.LT.length<=4)(s3:h.Id.length<=4):∃b,ay h=some b/\(b=true↔h.closed=true/\((∀w∈h.LT,w.QV=true)/\∀o∈h.Id,o.QV=true)/\h.held=[]):=by
 unfold ay;cases hc:h.closed with
 |false=>exact ⟨false,rfl,λe=>(by cases e),λe=>(by cases e.1)⟩
 |true=>
  obtain ⟨b,e1,e2⟩:=sI (h:=h) s2 s3 true;rw [e1];simp only [zbs,s9];cases hb2:b with
  |false=>exact ⟨false,rfl,λe=>(by cases e),λe=>(by rw [e2.2 ⟨e.2.1.1,λ_=>e.2.1.2⟩] at hb2;cases hb2)⟩
  |true=>
   have:=e2.1 hb2;exact ⟨_,rfl,λe=>⟨by trivial,⟨this.1,this.2 rfl⟩,List.length_eq_zero_iff.1 (by simpa using e)⟩,λe=>(by simp [e.2.2])⟩
theorem Hl(hS:cU c ss)(hI:HI c ss n h):∃b,qQ h ((h.or.length+h.LT.length+h.Id.length:Nat):Int)=some b/\(b=true↔Nz h):=by
 obtain ⟨s1,s2,s3,s4,s5,s6⟩:=hI.sizes hS;unfold qQ zS qC;simp only [zbs];rw [d8 (by simp;omega),qr (x:=(h.or.length:Int)+h.LT.length) (by omega) (by omega),d8 (by simp;omega)];rw [oW rfl rfl rfl (by omega) (by omega) (by omega)];simp only [zbs];rw [d8 (by simp)];unfold Nz;cases hov:h.over with
 |true=>exact ⟨false,rfl,λe=>(by cases e),λe=>(by cases e.1)⟩
 |false=>
  simp only [Bool.not_false,s9];by_cases hl:h.QO=[]
  ·rw [d8 (by rw [hl];simp)]
   grind [nT,E8,hl]
  ·have:0<h.QO.length:=List.length_pos_iff.2 hl;rw [d6 (by simp;omega)];exact ⟨true,rfl,λ_=>⟨by trivial,.inl hl⟩,λ_=>rfl⟩
inductive Rdy (h:za):Nat->Prop
 |c (t:Nat) (k:ze):h.or[t]? =some k->PK k->Rdy h t
 |w (j:Nat) (w:zJ):h.LT[j]? =some w->Pd h w->Rdy h (h.or.length+j)
 |o (i:Nat) (o:zc):h.Id[i]? =some o->Pe h o->Rdy h (h.or.length+h.LT.length+i)
 |r:Nz h->Rdy h (h.or.length+h.LT.length+h.Id.length)
theorem E9(hS:cU c ss)(hI:HI c ss n h){t:Nat}(ht:t<h.or.length+h.LT.length+h.Id.length+1):∃b,qQ h (t:Int)=some b/\(b=true↔Rdy h t):=by
 by_cases h1:t<h.or.length
 ·have hg:=zeg h1;obtain ⟨b,e1,e2⟩:=Hh hg;refine ⟨b,e1,λe=>.c t _ hg (e2.1 e),λe=>e2.2 ?_⟩;cases e with
  |c _ k hk hr=>rw [hg] at hk;cases hk;exact hr
  |w j w hw hr=>omega
  |o i o ho hr=>omega
  |r hr=>omega
 by_cases h2:t<h.or.length+h.LT.length
 ·obtain ⟨j,rfl⟩:∃j,t=h.or.length+j:=⟨t-h.or.length,by omega⟩
  have hg:=zeg (show j<h.LT.length by omega);obtain ⟨b,e1,e2⟩:=Hj hS hI hg;refine ⟨b,e1,λe=>.w j _ hg (e2.1 e),λe=>e2.2 ?_⟩;generalize ht:h.or.length+j=t at e;cases e with
  |c _ k hk hr=>have:=(zes.1 hk).1;omega
  |w j2 w hw hr=>
   grind
  |o i o ho hr=>omega
  |r hr=>omega
 by_cases h3:t<h.or.length+h.LT.length+h.Id.length
 ·obtain ⟨i,rfl⟩:∃i,t=h.or.length+h.LT.length+i:=⟨t-(h.or.length+h.LT.length),by omega⟩
  have hg:=zeg (show i<h.Id.length by omega);obtain ⟨b,e1,e2⟩:=Hk hS hI hg;refine ⟨b,e1,λe=>.o i _ hg (e2.1 e),λe=>e2.2 ?_⟩;generalize ht:h.or.length+h.LT.length+i=t at e;cases e with
  |c _ k hk hr=>have:=(zes.1 hk).1;omega
  |w j2 w hw hr=>have:=(zes.1 hw).1;omega
  |o i2 o ho hr=>
   obtain rfl:i=i2:=by omega
   rw [hg] at ho;cases ho;exact hr
  |r hr=>omega
 ·obtain rfl:t=h.or.length+h.LT.length+h.Id.length:=by omega
  obtain ⟨b,e1,e2⟩:=Hl hS hI;refine ⟨b,e1,λe=>.r (e2.1 e),λe=>e2.2 ?_⟩;generalize ht:h.or.length+h.LT.length+h.Id.length=t at e;cases e with
  |c _ k hk hr=>have:=(zes.1 hk).1;omega
  |w j2 w hw hr=>have:=(zes.1 hw).1;omega
  |o i2 o ho hr=>have:=(zes.1 ho).1;omega
  |r hr=>exact hr
def withK(h:za)(k:zo):za:={h with QX:=k}
theorem Fb(hS:cU c ss)(hI:HI c ss n h):∃k ps,vf h=some (withK h k)/\ps.length=h.QX.QN.length/\(∀(t:Nat) b,ps[t]? =some b->(b=true↔Rdy h t))/\Laid h.QX k ps ps.length:=by
 obtain ⟨s1,s2,s3,s4,s5,s6⟩:=hI.sizes hS;unfold vf;rw [oW rfl rfl rfl (by omega) (by omega) (by omega)];simp only [zbs]
 have hm:mkLen (w64 (((h.or.length+h.LT.length+h.Id.length:Nat):Int)+1)) 1=some h.QX.QN.length:=by
  grind [qr,mkLen]
 rw [hm];simp only [zbs];rw [xb (by omega)];simp only [zbs]
 obtain ⟨ps,h1,h2,h3⟩:OK (jI (cM h) (λ(s148:(List Bool))=>s148) h.QX.QN.length 0 (List.replicate h.QX.QN.length false)) (λps=>ps.length=h.QX.QN.length/\∀(t:Nat) b,ps[t]? =some b->(b=true↔Rdy h t)):=by
  refine f9 (λi s=>s.length=h.QX.QN.length/\∀(t:Nat) b,t<i->s[t]? =some b->(b=true↔Rdy h t)) ⟨by simp,λt b z=>by omega⟩ (λi s again hi hI2 ha=> ?_) (λs hs=>⟨hs.1,λt b hb=>hs.2 t b (by grind) hb⟩);obtain ⟨i1,i2⟩:=hI2;unfold cM;obtain ⟨b,e1,e2⟩:=E9 hS hI (t:=i) (by omega);rw [e1];simp only [zbs]
  grind [zT,iv]
 rw [h1];simp only [zbs];obtain ⟨k,e1,e2⟩:=Cy (k:=h.QX) h2;rw [e1];exact ⟨k,ps,rfl,h2,h3,e2⟩
theorem HI.withK(hI:HI c ss n h){k:zo}(hk:k.QN.length=h.QX.QN.length):HI c ss n (withK h k):=
 {RP:=hI.RP,QZ:=hI.QZ,cl:=hI.cl,cr:=hI.cr,rg:=hI.rg,Sm:=hI.Sm,RZ:=hI.RZ,Tc:=hI.Tc,crew:=hI.crew,own:=hI.own,Tf:=hI.Tf,Sr:=hI.Sr,SB:=hI.SB,call:=hI.call,QQ:=hI.QQ,SC:=hk.trans hI.SC,Sy:=hI.Sy,SF:=hI.SF,SA:=hI.SA,Ta:=hI.Ta,hel:=hI.hel}
inductive Mv (h:za):Nat->za->Prop
 |back (t:Nat) (k:ze):h.or[t]? =some k->k.waits=true->k.QT=0->Mv h t (F9 h t k [] h.QI h.Rx)
 |ask (t:Nat) (k:ze) (cmd:zI) (h':za):h.or[t]? =some k->k.waits=false->k.Rj<k.Ro.length->k.Ro[k.Rj.toNat]? =some cmd->CMv h t k cmd h'->Mv h t h'
 |work (j:Nat) (w:zJ) (h':za):h.LT[j]? =some w->Pd h w->WMv h j w (h.or.length+j) h'->Mv h (h.or.length+j) h'
 |serve (i:Nat) (o:zc) (h':za):h.Id[i]? =some o->Pe h o->SMv 2199023255552 h i o h'->Mv h (h.or.length+h.LT.length+i) h'
 |rule (h':za):Nz h->RMv h (h.or.length+h.LT.length+h.Id.length) h'->Mv h (h.or.length+h.LT.length+h.Id.length) h'
theorem Nz.hyp(h1:Nz h)(h2:∀x∈h.held,¬ Fin h x)(h3:h.QO=[]):h.closed=true:=by
 rcases h1.2 with z|⟨x,z1,z2⟩|z
 ·exact absurd h3 z
 ·grind
 ·exact z.1
theorem Mx(hS:cU c ss)(hI:HI c ss n h){t:Nat}(hr:Rdy h t){x:qq}(hk:h.QX.QN[t]? =some x)(hm:x.QU≠2):OK (vW 2199023255552 h (t:Int) true) (λr=>r.1=(t:Int)/\r.2.1=true/\Mv h t r.2.2):=by
 obtain ⟨s1,s2,s3,s4,s5,s6⟩:=hI.sizes hS;unfold vW zS qC;simp only [zbs];refine j4 rfl ?_;rw [qr (x:=(h.or.length:Int)+h.LT.length) (by omega) (by omega)];cases hr with
 |c _ k ht hrd=>
  have hl:=(zes.1 ht).1;refine m9 (by simpa using hl) ?_;rcases hrd with ⟨hw,hm0⟩|⟨hw,hat⟩
  ·rw [CG hS hI ht hw];exact b8 ⟨rfl,rfl,.back t k ht hw hm0⟩
  ·obtain ⟨cmd,hc,hok⟩:=E5 hS hI ht hw hat;exact d5 hok λr hr=>b8 ⟨rfl,rfl,.ask t k cmd _ ht hw hat hc hr⟩
 |w j w hw hrd=>
  have hl:=(zes.1 hw).1;refine j4 (by simp;omega) ?_;refine m9 (by simp;omega) ?_;exact d5 (Mp hS hI hw rfl hrd.1 hrd.2 hk hm) λr hr=>b8 ⟨rfl,rfl,.work j w _ hw hrd hr⟩
 |o i o ho hrd=>
  have hl:=(zes.1 ho).1;refine j4 (by simp;omega) ?_;refine j4 (by simp;omega) ?_;rw [oW rfl rfl rfl (by omega) (by omega) (by omega)];simp only [zbs];refine m9 (by simp;omega) ?_;exact d5 (Jw (by decide) hS hI ho rfl hk hm) λr hr=>b8 ⟨rfl,rfl,.serve i o _ ho hrd hr⟩
 |r hrd=>
  refine j4 (by simp;omega) ?_;refine j4 (by simp;omega) ?_;rw [oW rfl rfl rfl (by omega) (by omega) (by omega)];simp only [zbs];refine j4 (by simp) ?_;exact d5 (Mt hS hI rfl hrd.hyp hk hm) λr hr=>b8 ⟨rfl,rfl,.rule _ hrd hr⟩
theorem Om(hS:cU c ss)(hI:HI c ss n h)(hn:n+1<=100000000){t:Nat}{h':za}(hv:Mv h t h'):HI c ss (n+1) h':=by
 cases hv with
 |back t k ht hw hm=>exact Jv hS hI hn ht hw hm
 |ask t k cmd h' ht hw hat hc hv=>exact Mk hS hI hn ht hw hat hc hv
 |work j w h' hw hrd hv=>exact Mq hS hI hn hw rfl (λz=>(hrd.1 z).1) hv
 |serve i o h' ho hrd hv=>
  refine Mn hS hI hn ho (λz=> ?_) hv;rcases hrd with e|e
  ·exact absurd z e
  grind
 |rule h' hrd hv=>exact Mw hS hI hn hrd.1 hrd.hyp hv
end
open Go.Sx
variable {c:zR} {ss:List (List zI)} {n:Nat} {h:za}
def mg(cs:List ze):Nat:=(cs.map (λk=>k.QR.length)).sum
theorem wm{cs:List ze}{t:Nat}{k:ze}(ht:cs[t]? =some k)(k':ze):mg (cs.set t k')+k.QR.length=mg cs+k'.QR.length:=by
 unfold mg;rw [ym];exact G7 (by grind) _
structure Eff (h:za) (t:Nat) (h':za):Prop where
 Ri:∃es:List zd,h'.Ri=h.Ri++es/\∀e∈es,e.Te=(t:Int)
 SC:∀(i:Nat)(x:qq),h.QX.QN[i]? =some x->∃y,h'.QX.QN[i]? =some y/\(x.QU=2->y.QU=2)
 TD:h'.QX.QN.length=h.QX.QN.length
 sum:mg h'.or=mg h.or\/mg h'.or=mg h.or+1
theorem jW(k:zo):∀(i:Nat)(x:qq),k.QN[i]? =some x->∃y,k.QN[i]? =some y/\(x.QU=2->y.QU=2):=λi x hx=>⟨x,hx,λe=>e⟩
theorem wn(k:zo)(t:Nat)(z:qq):∀(i:Nat)(x:qq),k.QN[i]? =some x->∃y,(Ny k t z).QN[i]? =some y/\(x.QU=2->y.QU=2):=λi x hx=>by
 by_cases e:i=t
 ·subst e;exact ⟨⟨2,z.Sh⟩,nS hx,λ_=>rfl⟩
 ·exact ⟨x,vr hx e,λz=>z⟩
theorem CN{t:Nat}{k k':ze}(ht:h.or[t]? =some k)(hk:k'.QR=k.QR){es:List zd}(he:∀e∈es,e.Te=(t:Int))(rs:List zw)(g:zO):Eff h t (F9 h t k' es rs g):=by
 refine ⟨⟨es++[PI t k'],by grind [F9],λe hm=> ?_⟩,jW _,rfl,.inr ?_⟩
 ·rcases f7.1 hm with hm|hm
  ·exact he e hm
  ·rw [g9.1 hm];rfl
 ·have h1:mg (h.or.set t (Jt k'))+k.QR.length=mg h.or+(Jt k').QR.length:=wm ht (Jt k')
  have h2:(Jt k').QR.length=k.QR.length+1:=by
   show (k'.QR++[Nw k']).length=_
   grind
  show mg (h.or.set t (Jt k'))=_;omega
theorem CO{t:Nat}{k k':ze}(ht:h.or[t]? =some k)(hk:k'.QR=k.QR)(os:List zc)(l:List zE):Eff h t (Nx h t k k' os l):=by
 refine ⟨⟨[pV t k],rfl,λe hm=>by rw [g9.1 hm];rfl⟩,jW _,rfl,.inl ?_⟩;have h1:mg (h.or.set t k')+k.QR.length=mg h.or+k'.QR.length:=wm ht k';show mg (h.or.set t k')=_;rw [hk] at h1;omega
theorem dm{t:Nat}{k k':ze}(ht:h.or[t]? =some k)(hk:k'.QR=k.QR):mg (h.or.set t k')=mg h.or:=by
 grind [wm]
theorem On{t:Nat}{h':za}(hv:Mv h t h'):Eff h t h':=by
 cases hv with
 |back t k ht hw hm=>exact CN ht (by rfl) (λe he=>by cases he) _ _
 |ask t k cmd h' ht hw hat hc hv=>
  cases hv with
  |told E hE=>exact CN ht (by rfl) (λe he=>by rw [g9.1 he];rfl) _ _
  |fire i r r' n2 E g h1 h2 h3 h4 h5=>
   refine CN ht (by rfl) (λe he=> ?_) _ _;rcases f7.1 he with he|he
   ·rw [g9.1 he];rfl
   ·split at he
    ·rw [g9.1 he];rfl
    ·cases he
  |items h1 h2 h3 h4 h5=>exact CO ht (by rfl) _ _
  |walk h1 h2 h3 h4=>exact CO ht (by rfl) _ _
  |call h1 h2 h3=>exact CO ht (by rfl) _ _
 |work j w h' hw hrd hv=>
  cases hv with
  |ends x m0 hcl hk hm=>exact ⟨⟨_,rfl,λe he=>by rw [g9.1 he];rfl⟩,wn _ _ _,by show (h.QX.QN.set _ _).length=_;rw [j5],.inl rfl⟩
  |take i r r' q qs cur m0 hcl hi hwt htk c0 c1=>exact ⟨⟨_,rfl,λe he=>by rw [g9.1 he];rfl⟩,jW _,rfl,.inl rfl⟩
  |skip st v p m1 hcu hsk=>exact ⟨⟨_,rfl,λe he=>by rw [g9.1 he];rfl⟩,jW _,rfl,.inl rfl⟩
  |enter v p m b e1 e2 ck e W' m1 hcu hmo he hE=>exact ⟨⟨_,rfl,λe he=>by rw [g9.1 he];rfl⟩,jW _,rfl,.inl rfl⟩
  |note a W' m2 hst k3=>exact ⟨⟨_,rfl,λe he=>by rw [g9.1 he];rfl⟩,jW _,rfl,.inl rfl⟩
  |ask a W' m2 hst k2=>exact ⟨⟨_,rfl,λe he=>by rw [g9.1 he];rfl⟩,jW _,rfl,.inl rfl⟩
  |done a W' e1 ck m2 hst k4 hlv=>exact ⟨⟨_,rfl,λe he=>by rw [g9.1 he];rfl⟩,jW _,rfl,.inl rfl⟩
  |ran a W' m2 hst k1=>exact ⟨⟨_,rfl,λe he=>by rw [g9.1 he];rfl⟩,jW _,rfl,.inl rfl⟩
  |back r W' m3 hr hA=>exact ⟨⟨_,rfl,λe he=>by rw [g9.1 he];rfl⟩,jW _,rfl,.inl rfl⟩
 |serve i o h' ho hrd hv=>
  cases hv with
  |ends t x ht hl hk hm=>subst ht;exact ⟨⟨_,rfl,λe he=>by rw [g9.1 he];rfl⟩,wn _ _ _,by show (h.QX.QN.set _ _).length=_;rw [j5],.inl rfl⟩
  |crew t q o' x xs j w ht hq hf hw=>subst ht;exact ⟨⟨_,rfl,λe he=>by rw [g9.1 he];rfl⟩,jW _,rfl,.inl rfl⟩
  |walk q o' x xs u k hq hf hu hw g0 g1=>exact ⟨⟨[],rfl,λe he=>by cases he⟩,jW _,rfl,.inl (dm hu rfl)⟩
  |item t q o' x xs u k ht hq hf hu hw g0 g1=>subst ht;exact ⟨⟨_,rfl,λe he=>by rw [g9.1 he];rfl⟩,jW _,rfl,.inl (dm hu rfl)⟩
 |rule h' hrd hv=>
  generalize h.or.length+h.LT.length+h.Id.length=t at hv;cases hv with
  |fin a x u k hx hf hu hk h8=>exact ⟨⟨[],rfl,λe he=>by cases he⟩,jW _,rfl,.inl (dm hk rfl)⟩
  |retired a x u k hx hf hu hk h8=>exact ⟨⟨_,rfl,λe he=>by rw [g9.1 he];rfl⟩,jW _,rfl,.inl (dm hk rfl)⟩
  |over u k x hnf hl hu hk hkt hm=>exact ⟨⟨_,rfl,λe he=>by rw [g9.1 he];rfl⟩,wn _ _ _,by show (h.QX.QN.set _ _).length=_;rw [j5],.inl (dm hk rfl)⟩
  |refuse x xs u k hnf hl hc hu hk=>exact ⟨⟨[],rfl,λe he=>by cases he⟩,jW _,rfl,.inl (dm hk rfl)⟩
  |cmd x xs u k r' N E es hnf hl hc hu hk hcm=>
   refine ⟨⟨es,rfl,λe he=> ?_⟩,jW _,rfl,.inl (dm hk rfl)⟩;cases hcm with
   |load n2 e2 r' hk4 hld=>
    split at he
    ·rw [g9.1 he];rfl
    ·cases he
   |attach v e2 r' hk5 ha=>
    split at he
    ·rw [g9.1 he];rfl
    ·cases he
   |swap v e2 r' hk6 ha=>
    split at he
    ·rw [g9.1 he];rfl
    ·cases he
   |detach e2 tb hk7 ha=>
    split at he
    ·rw [g9.1 he];rfl
    ·cases he
   |retire v e2 r' hk8 ha he2=>cases he
  |hold x xs v r' hnf hl hc h8 ha=>exact ⟨⟨[],rfl,λe he=>by cases he⟩,jW _,rfl,.inl rfl⟩
  |drain x xs hnf hl hc h9=>exact ⟨⟨[],rfl,λe he=>by cases he⟩,jW _,rfl,.inl rfl⟩
  |close x xs hnf hl hc h10=>
   refine ⟨⟨tO t h.QI++[BS 14 t 0 0 0],m6 _ _ _,λe he=> ?_⟩,jW _,rfl,.inl rfl⟩;rcases f7.1 he with he|he
   ·unfold tO at he;obtain ⟨l,hl1,hl2⟩:=j9.1 he;obtain ⟨i,hi⟩:=w7 hl1;rw [List.getElem?_mapIdx] at hi;obtain ⟨r,hr,rfl⟩:=yy.1 hi;obtain ⟨q,hq,rfl⟩:=yn.1 hl2;rfl
   ·rw [g9.1 he];rfl
def K4(a b:zo):Prop:=b.QN.length=a.QN.length/\∀(i:Nat)(x:qq),a.QN[i]? =some x->∃y,b.QN[i]? =some y/\(x.QU=2↔y.QU=2)
theorem Laid.stay{a b:zo}{ps:List Bool}(h:Laid a b ps ps.length)(hl:ps.length=a.QN.length):K4 a b:=by
 refine ⟨h.2.1,λi x hx=> ?_⟩;obtain ⟨u,hu,_,hm⟩:=h.2.2 i x hx
 grind
theorem Jx.stay{a b:zo}(h:Jx a b):K4 a b:=by
 refine ⟨h.1,λi x hx=> ?_⟩;have h2:=h.2 i
 grind
theorem K4.trans{a b d:zo}(h1:K4 a b)(h2:K4 b d):K4 a d:=by
 refine ⟨h2.1.trans h1.1,λi x hx=> ?_⟩;obtain ⟨y,hy,e1⟩:=h1.2 i x hx;obtain ⟨z,hz,e2⟩:=h2.2 i y hy
 grind
inductive Stp (h:za) (r:Int×Bool×za):Prop
 |none (k:zo):(∀t,t<h.QX.QN.length->(∀x,h.QX.QN[t]? =some x->x.QU≠2)->¬ Rdy h t)->K4 h.QX k->r=(0,false,withK h k)->Stp h r
 |one (k:zo) (t:Nat) (x:qq) (h':za):Rdy h t->K4 h.QX k->h.QX.QN[t]? =some x->x.QU≠2->Mv (withK h k) t h'->r=((t:Int),true,h')->Stp h r
theorem Rdy.withK{t:Nat}(hr:Rdy h t)(k:zo):Rdy (withK h k) t:=by
 cases hr with
 |c _ q ht hrd=>exact .c t q ht hrd
 |w j w hw hrd=>exact .w (h:=KH.withK h k) j w hw hrd
 |o i o ho hrd=>exact .o (h:=KH.withK h k) i o ho hrd
 |r hrd=>exact .r (h:=KH.withK h k) hrd
theorem My(hS:cU c ss)(hI:HI c ss n h){k:zo}{ps:List Bool}(hl:ps.length=h.QX.QN.length)(hps:∀(t:Nat) b,ps[t]? =some b->(b=true↔Rdy h t))(hla:Laid h.QX k ps ps.length){o:Option (Int×Bool×zo)}(hp:Mr k o):
  OK (o.bind λr71=>(vW 2199023255552 (withK h r71.2.2) r71.1 r71.2.1).bind λr77=>some (r77.1,r77.2.1,r77.2.2)) (Stp h):=by
 have hst:=hla.stay hl;have hlen:=hst.1;rcases hp with ⟨h0,rfl⟩|⟨x,k',hx,rfl,hmd⟩
 ·refine b8 (.none k (λt ht hm hr=> ?_) hst rfl);have hg:=zeg ht;have hgp:=zeg (show t<ps.length by omega);obtain ⟨u,hu,_,hmu⟩:=hla.2.2 t _ hg;rw [d6 (by omega),d8 (hm _ hg),hgp,(hps t _ hgp).2 hr,d6 rfl] at hmu
  have:(t:Int)∈kin k 1 k.QN.length:=by
   unfold kin;refine yn.2 ⟨t,List.mem_filter.2 ⟨by simp;omega,?_⟩,rfl⟩;rw [hu];simp [hmu]
  rw [h0] at this;cases this
 ·obtain ⟨t,y,rfl,ht,hy,hm⟩:=G3 hx;have htl:t<h.QX.QN.length:=by omega
  have hg:=zeg htl;have hgp:=zeg (show t<ps.length by omega);obtain ⟨u,hu,_,hmu⟩:=hla.2.2 t _ hg;rw [hy] at hu;obtain rfl:=i8 hu;rw [d6 (by omega),hm] at hmu;have hne:h.QX.QN[t].QU≠2:=λe=>by rw [d6 e] at hmu;omega
  rw [d8 hne,hgp] at hmu
  have hrd:Rdy h t:=(hps t _ hgp).1 (by
   cases hb:ps[t] with
   |true=>rfl
   |false=>rw [hb,d8 (by simp)] at hmu;omega)
  have hst2:=hst.trans hmd.stay;obtain ⟨z,hz,e⟩:=hst2.2 t _ hg;simp only [zbs];refine d5 (Mx hS (hI.withK hst2.1) (hrd.withK k') (x:=z) hz (λw=>hne (e.2 w))) (λr hr=>b8 (.one k' t _ r.2.2 hrd hst2 hg hne hr.2.2 ?_));rw [hr.1,hr.2.1]
theorem CP(hS:cU c ss)(hI:HI c ss n h)(ch:Int):OK (bu 2199023255552 h ch) (Stp h):=by
 obtain ⟨k,ps,e1,e2,e3,e4⟩:=Fb hS hI;obtain ⟨s1,s2,s3,s4,s5,s6⟩:=hI.sizes hS;unfold bu;rw [e1];simp only [zbs];have:=e4.2.1;exact My hS hI e2 e3 e4 (AF (k:=k) (by omega) ch)
theorem Mz(hS:cU c ss)(hI:HI c ss n h)(hn:n+1<=100000000){r:Int×Bool×za}(hr:Stp h r):HI c ss (if r.2.1 then n+1 else n) r.2.2:=by
 cases hr with
 |none k hno hst e=>subst e;exact hI.withK hst.1
 |one k t x h' hrd hst hx hm hv e=>subst e;exact Om hS (hI.withK hst.1) hn hv
end Go.Proofs.YtplmgfkghomelaaGreatDoor.KH
