/- Lemmas. -/
import Derived.Test.YtplmgfkghomelaaGreatDoorKHW
set_option linter.unusedVariables false
set_option linter.unusedSimpArgs false
namespace Go.Proofs.YtplmgfkghomelaaGreatDoor.KH
section
section
section
open Go.Sx
variable {o:zc} {i:Nat}
variable {c:zR} {ss:List (List zI)} {n:Nat} {h:za}
def Ny(k:zo)(t:Nat)(x:qq):zo:=⟨k.QN.set t ⟨2,x.Sh⟩,k.LE⟩
def Oj(t:Int):zd:=⟨15,t,0,0,0,0,0,0,0,0,oU,CD,0,0⟩
def Pb(t:Int)(q:cZ)(cmd ev:Int):zd:=⟨3,t,q.To,cmd,q.SD,ev,0,0,0,0,q.Item,q.Rs,0,0⟩
def Qd(w:zJ)(r:zk):zJ:={w with Sg:=some r}
def PZ(k:ze)(res:List zk)(ps:List (List zq)):ze:={k with QT:=k.QT-1,Fn:=⟨k.Fn.E,k.Fn.N,res,k.Fn.Pairs⟩,parts:=ps}
def Ml(h:za)(cs:List ze)(ws:List zJ)(os:List zc)(es:List zd):za:=
 {h with or:=cs,LT:=ws,Id:=os,Ri:=h.Ri++es}
structure AD (fu:Nat) (o:zc) (q:cZ) (o':zc) (x:zr) (xs:List zr):Prop where
 step:jF fu o=some (q,true,o')
 QO:o.QO=x::xs
 Tk:o'.QO=xs
 to:q.To=x.RT
 tag:q.SD=x.SD
 walk:q.Sj=x.Sj
 item:q.Item=x.Item
 QK:q.Pairs.length<=16
 val:u64 q.Rs.Rz
 ok:iw o'
 ou:Fj o'
 sh:o'.Si=o.Si/\o'.RL=o.RL/\o'.QV=o.QV/\o'.maps.length=o.maps.length
inductive SMv (fu:Nat) (h:za) (i:Nat) (o:zc):za->Prop
 | ends (t : Nat) (x : qq) : t = h.or.length + h.LT.length + i -> o.QO = [] -> h.QX.QN[t]? = some x -> x.QU ≠ 2 ->
   SMv fu h i o {h with QX:=Ny h.QX t x,Id:=h.Id.set i {o with QV:=true},Ri:=h.Ri++[Oj t]}
 | crew (t : Nat) (q : cZ) (o' : zc) (x : zr) (xs : List zr) (j : Nat) (w : zJ) : t = h.or.length + h.LT.length + i -> AD fu o q o' x xs -> x.RT = (h.or.length : Int) + j -> h.LT[j]? = some w ->
   SMv fu h i o (Ml h h.or (h.LT.set j (Qd w q.Rs)) (h.Id.set i o') [Pb t q 0 w.QL.Ru.RB.N])
 | walk (q : cZ) (o' : zc) (x : zr) (xs : List zr) (u : Nat) (k : ze) : AD fu o q o' x xs -> x.RT = (u : Int) -> h.or[u]? = some k -> x.Sj = true -> 0 <= x.SD -> x.SD < k.parts.length ->
   SMv fu h i o (Ml h (h.or.set u (PZ k k.Fn.Rs (k.parts.set x.SD.toNat q.Pairs))) h.LT (h.Id.set i o') [])
 | item (t : Nat) (q : cZ) (o' : zc) (x : zr) (xs : List zr) (u : Nat) (k : ze) : t = h.or.length + h.LT.length + i -> AD fu o q o' x xs -> x.RT = (u : Int) -> h.or[u]? = some k -> x.Sj = false -> 0 <= x.SD -> x.SD < k.Fn.Rs.length ->
   SMv fu h i o (Ml h (h.or.set u (PZ k (k.Fn.Rs.set x.SD.toNat q.Rs) k.parts)) h.LT (h.Id.set i o') [Pb t q k.Rj 0])
theorem wg{fu:Nat}:Pst (jF fu o) (λq=>q.2.2.Si=o.Si/\q.2.2.RL=o.RL/\q.2.2.QV=o.QV/\q.2.2.maps.length=o.maps.length):=by
 unfold jF;refine j8 (g8 ⟨rfl,rfl,rfl,rfl⟩) (i7 λx=>i7 λys=>j8 (i7 λs=>i7 λps=>g8 ⟨rfl,rfl,rfl,rfl⟩) (i7 λs=>i7 λq=>g8 ⟨rfl,rfl,rfl,by grind⟩))
theorem Ok{fu:Nat}(hfu:101<fu)(h:iw o)(hu:Fj o){x:zr}{xs:List zr}(hl:o.QO=x::xs):∃q o',AD fu o q o' x xs:=by
 obtain ⟨⟨q,b,o'⟩,h1,h2,h3,h4⟩:=nV hfu h;have h5:=AP hu _ h1;have h6:=wg _ h1;rcases h4 with ⟨e,_⟩|⟨y,ys,e,rfl,e2,e3,e4,e5,e6,e7⟩
 ·grind
 ·have e0:=hl.symm.trans e;cases e0;refine ⟨q,o',h1,hl,e2,e3,e4,e5,e6,e7,h5.1,h2,⟨h5.2,λr hr=> ?_⟩,h6⟩;have e2:o'.QO=xs:=e2;rw [e2] at hr;exact hu.QO r (by grind)
theorem Mm{os:List zc}{b:Nat}(hb:∀o∈os,o.QO.length<=b)(f:Int):gT os f<=os.length*b:=by
 unfold gT
 induction os with
 |nil=>simp
 |cons o os ih=>
  have h1:=hb o zcs;have h2:=ih λp hp=>hb p (zcm _ hp)
  have h3:wV o.QO f<=o.QO.length:=List.countP_le_length;rw [yw,List.sum_cons,t6,w6];omega
theorem HI.cnt_small(hS:cU c ss)(hI:HI c ss n h)(f:Int):gT h.Id f<=6400000000:=by
 have h1:=Mm (os:=h.Id) (b:=16*n) (λo ho=>by
  obtain ⟨j,hj⟩:=w7 ho;exact (hI.own.all j o hj).2.2.2.2.2) f
 have h2:=hI.own.len;have h3:=hS.sh;have h4:=hI.RP;have h5:h.Id.length*(16*n)<=4*(16*n):=p6 _ (by omega);omega
theorem HI.crn(hS:cU c ss)(hI:HI c ss n h):h.LT.length=c.QM.toNat:=by have:=hI.cr;have:=hS.wk;omega
theorem HI.own4(hS:cU c ss)(hI:HI c ss n h):h.Id.length<=4/\h.Id.length=c.QP.toNat:=by have:=hI.own.len;have:=hS.sh;omega
theorem Jw{fu:Nat}(hfu:101<fu)(hS:cU c ss)(hI:HI c ss n h){t:Nat}(ho:h.Id[i]? =some o)(ht:t=h.or.length+h.LT.length+i){x:qq}(hk:h.QX.QN[t]? =some x)(hm:x.QU≠2):
  OK (bT fu h (t:Int)) (SMv fu h i o):=by
 have hil:=(zes.1 ho).1;have hcl:=hI.cl;have hcr:=hI.crn hS;have hSc:=hS.cl;have hSw:=hS.wk;have ho4:=(hI.own4 hS).1;have hlog:=hI.logb;obtain ⟨a1,a2,a3,a4,a5,a6⟩:=hI.own.all i o ho;unfold bT qC zS;simp only [zbs];have e1:w64 ((h.or.length:Int)+(h.LT.length:Int))=(h.or.length:Int)+(h.LT.length:Int):=qr (by omega) (by omega);have e2:w64 ((t:Int)-((h.or.length:Int)+(h.LT.length:Int)))=(i:Int):=by grind [qr]
 rw [e1,e2,zT ho];simp only [zbs,k6];cases hl:o.QO with
 |nil=>
  obtain ⟨⟨q,b,o'⟩,h1,h2,h3,h4⟩:=nV hfu a1;rcases h4 with ⟨_,e3,e4⟩|⟨y,ys,e,_⟩
  ·have e3:b=false:=e3;have e4:o'=o:=e4;subst e3 e4;rw [h1];simp only [zbs];refine m9 rfl ?_
   have e5:bS o'=some (0,{o' with QV:=true}):=by
    grind [bS,hl]
   rw [e5];simp only [zbs];rw [xb (m:=h.Ri.length+_) (b:=176) (by grind)];simp only [zbs];rw [mU hk hm];simp only [zbs];exact b8 (.ends t x ht hl hk hm)
  grind
 |cons r rs=>
  obtain ⟨q,o',hq⟩:=Ok hfu a1 a2 hl;rw [hq.step];simp only [zbs];refine j4 rfl ?_;rw [hq.to,hq.tag];have hreq:=hI.Tf o (zmg ho) r (by grind);rcases hreq with ⟨u,k,eu,hu,g0,g1,g2⟩|⟨j,ej,hj,hjw⟩
  ·have hul:=(zes.1 hu).1;refine j4 (by grind) ?_;rw [eu,zT hu];simp only [zbs,k6];obtain ⟨s,hs,hck⟩:=hI.at hu;have hmis:=hI.Sr u k hu;have hcs:=hI.cnt_small hS u;have hex:=hI.SB u;have e6:w64 (k.QT-1)=k.QT-1:=qr (by omega) (by omega);rw [hq.walk];refine b9 (λhw=> ?_) (λhw=> ?_)
   ·obtain ⟨p,hp,_⟩:=nR (xs:=k.parts) g0 (g1 hw);rw [hp];simp only [zbs];rw [e6];have:=SMv.walk (fu:=fu) (h:=h) (i:=i) (o:=o) q o' r rs u k hq eu hu hw g0 (g1 hw);unfold Ml at this;rw [i6] at this;exact b8 this
   ·obtain ⟨p,hp,_⟩:=nR (xs:=k.Fn.Rs) g0 (g2 hw);rw [hp];simp only [zbs];rw [e6,xb (m:=h.Ri.length+_) (b:=176) (by grind)];have:=SMv.item (fu:=fu) (h:=h) (i:=i) (o:=o) t q o' r rs u k ht hq eu hu hw g0 (g2 hw);unfold Ml Pb at this;rw [hq.to,hq.tag,eu] at this;exact b8 this
  ·have hjl:j<h.LT.length:=hj;have hg:=zeg hjl;refine m9 (by grind) ?_;have e7:w64 (r.RT-(h.or.length:Int))=(j:Int):=by grind [qr]
   rw [e7,zT hg];simp only [zbs,k6];unfold xo;simp only [zbs];rw [xb (m:=h.Ri.length+_) (b:=176) (by grind)];have:=SMv.crew (fu:=fu) (h:=h) (i:=i) (o:=o) t q o' r rs j h.LT[j] ht hq ej hg;unfold Ml Pb at this;rw [hq.to,hq.tag] at this;exact b8 this
theorem ui.set{c:zR}{b:Nat}{os:List zc}(h:ui c b os){i:Nat}{o o':zc}(ho:os[i]? =some o)(h1:iw o')(h2:Fj o')(h3:o'.Si=o.Si/\o'.RL=o.RL/\o'.maps.length=o.maps.length)(h4:o'.QO.length<=b):ui c b (os.set i o'):=by
 refine ⟨by rw [j5];exact h.len,λj p hp=> ?_⟩
 rcases iv hp with ⟨rfl,rfl,_⟩|⟨_,hp⟩
 ·obtain ⟨a1,a2,a3,a4,a5,a6⟩:=h.all _ _ ho
  grind
 ·exact h.all j p hp
theorem CJ(hS:cU c ss)(hI:HI c ss n h)(hn:n+1<=100000000)(ho:h.Id[i]? =some o){fu:Nat}{q:cZ}{o':zc}{x:zr}{xs:List zr}(hq:AD fu o q o' x xs)
  {cs:List ze} {ws:List zJ} {es:List zd} (he:es.length<=2) (hcl:cs.length=h.or.length) (hwl:ws.length=h.LT.length) (hw:∀w∈ws,AB c.QY.toNat c.Maps.length w) (hwe:∀w∈ws,∃w'∈h.LT,w.QV=w'.QV)
  (hc:∀(t:Nat) k',cs[t]? =some k'->∃k,h.or[t]? =some k/\k'.parts.length=k.parts.length/\k'.Fn.Rs.length=k.Fn.Rs.length/\k'.QT=k.QT-(if x.RT=t then 1 else 0)/\∀s,ss[t]? =some s->oV s k->oV s k'):HI c ss (n+1) (Ml h cs ws (h.Id.set i o') es):=by
 obtain ⟨a1,a2,a3,a4,a5,a6⟩:=hI.own.all i o ho
 have hcn:∀f:Int,gT (h.Id.set i o') f+(if x.RT=f then 1 else 0)=gT h.Id f:=λf=>by
  have h1:=wa ho o' f;rw [hq.QO,hq.Tk,G9] at h1;omega
 have hend:(h.closed=true/\∀w∈h.LT,w.QV=true)->h.closed=true/\∀w∈ws,w.QV=true:=λe=>⟨e.1,λw hw2=>by
  grind⟩
 have hlen:o'.QO.length+1=o.QO.length:=by rw [hq.QO,hq.Tk];rfl
 have hback:∀(t:Nat) k,h.or[t]? =some k->∃k',cs[t]? =some k'/\k'.parts.length=k.parts.length/\k'.Fn.Rs.length=k.Fn.Rs.length:=λt k hk=>by
  grind
 exact
 {RP:=hn
  QZ:=hI.QZ
  cl:=hcl.trans hI.cl
  cr:=by show (ws.length:Int)=_;rw [hwl];exact hI.cr
  rg:=hI.rg
  Sm:=hI.Sm.mono (by omega) (by omega)
  RZ:=hI.RZ
  Tc:=λt k' s hk' hs=>by
   obtain ⟨k,e1,_,_,_,e5⟩:=hc t k' hk';exact e5 s hs (hI.Tc t k s e1 hs)
  crew:=hw
  own:=(hI.own.set ho hq.ok hq.ou ⟨hq.sh.1,hq.sh.2.1,hq.sh.2.2.2⟩ (by omega)).mono (by omega)
  Tf:=λp hp r hr=>by
   have hr2:∃p'∈h.Id,r∈p'.QO:=by
    rcases r6 (show p∈h.Id.set i o' from hp) with hp|rfl
    ·exact ⟨p,hp,hr⟩
    ·exact ⟨o,zmg ho,by rw [hq.QO];rw [hq.Tk] at hr;exact zcm _ hr⟩
   obtain ⟨p',hp',hr'⟩:=hr2;show wd cs ws.length r;rw [hwl];exact (hI.Tf p' hp' r hr').same hcl hback
  Sr:=λt k' hk'=>by
   obtain ⟨k,e1,_,_,e4,_⟩:=hc t k' hk';have h1:=hI.Sr t k e1;have h2:=hcn t;show k'.QT=((gT (h.Id.set i o') t+kO h t:Nat):Int)
   grind
  SB:=λt=>by
   have h1:=hI.SB t;have h2:=hcn t;show kO h t=0\/kO h t=1/\gT (h.Id.set i o') t=0
   grind
  call:=hI.call
  QQ:=hI.QQ
  SC:=hI.SC
  Sy:=λp hp e=>by
   rcases r6 (show p∈h.Id.set i o' from hp) with hp|rfl
   ·exact hend (hI.Sy p hp e)
   ·exact hend (hI.Sy o (zmg ho) (by rw [<- hq.sh.2.2.1];exact e))
  SF:=λw hw2 e=>by
   obtain ⟨w',h1,h2⟩:=hwe w hw2;exact hI.SF w' h1 (by rw [<- h2];exact e)
  SA:=by
   show (h.Ri++es).length<=_;have:=hI.SA
   grind
  Ta:=by have:=hI.Ta;show h.QO.length<=_;omega
  hel:=by have:=hI.hel;show h.held.length<=_;omega}
theorem Mn(hS:cU c ss)(hI:HI c ss n h)(hn:n+1<=100000000){fu:Nat}(ho:h.Id[i]? =some o)(hcl:o.QO=[]->h.closed=true/\∀w∈h.LT,w.QV=true){h':za}(hv:SMv fu h i o h'):HI c ss (n+1) h':=by
 obtain ⟨a1,a2,a3,a4,a5,a6⟩:=hI.own.all i o ho;cases hv with
 |ends t x ht hl hk hm=>
  have hcn:∀f:Int,gT (h.Id.set i {o with QV:=true}) f=gT h.Id f:=λf=>by
   have h1:gT (h.Id.set i {o with QV:=true}) f+wV o.QO f=gT h.Id f+wV o.QO f:=wa ho {o with QV:=true} f;omega
  exact
  {RP:=hn
   QZ:=hI.QZ
   cl:=hI.cl
   cr:=hI.cr
   rg:=hI.rg
   Sm:=hI.Sm.mono (by omega) (by omega)
   RZ:=hI.RZ
   Tc:=hI.Tc
   crew:=hI.crew
   own:=(hI.own.set ho (o':={o with QV:=true}) ⟨a1.s1,a1.s4,a1.m4,a1.all,a1.SL⟩ ⟨a2.maps,a2.QO⟩ ⟨rfl,rfl,rfl⟩ a6).mono (by omega)
   Tf:=λp hp r hr=>by
    rcases r6 (show p∈h.Id.set i _ from hp) with hp|rfl
    ·exact hI.Tf p hp r hr
    grind
   Sr:=λu k hk=>by
    show k.QT=((gT (h.Id.set i _) u+kO h u:Nat):Int)
    rw [hcn];exact hI.Sr u k hk
   SB:=λu=>by
    show kO h u=0\/kO h u=1/\gT (h.Id.set i _) u=0;rw [hcn];exact hI.SB u
   call:=hI.call
   QQ:=hI.QQ
   SC:=by show (h.QX.QN.set t _).length=_;rw [j5];exact hI.SC
   Sy:=λp hp e=>hcl hl
   SF:=hI.SF
   SA:=by
    show (h.Ri++[Oj t]).length<=_;have:=hI.SA
    grind
   Ta:=by have:=hI.Ta;show h.QO.length<=_;omega
   hel:=by have:=hI.hel;show h.held.length<=_;omega}
 |crew t q o' x xs j w ht hq hf hw=>
  refine CJ hS hI hn ho hq (by simp) rfl (by grind) (λv hv=> ?_) (λv hv=> ?_) (λu k hk=>⟨k,hk,rfl,rfl,?_,λs _ e=>e⟩)
  ·rcases r6 hv with hv|rfl
   ·exact hI.crew v hv
   ·have hw1:=hI.crew w (zmg hw);exact ⟨hw1.Ru,hw1.cur,λr e=>by cases e;exact hq.val,hw1.over⟩
  ·rcases r6 hv with hv|rfl
   ·exact ⟨v,hv,rfl⟩
   ·exact ⟨w,zmg hw,rfl⟩
  grind
 |walk q o' x xs u k hq hf hu hw g0 g1=>
  refine CJ hS hI hn ho hq (by simp) (by grind) rfl hI.crew (λw hw=>⟨w,hw,rfl⟩) (λv k' hk'=> ?_);rcases iv hk' with ⟨rfl,rfl,_⟩|⟨hne,hk'⟩
  ·refine ⟨k,hu,by show (k.parts.set _ _).length=_;rw [j5],rfl,by rw [d6 hf];rfl,λs hs e=>⟨e.Ro,e.Ts,e.Tq,e.TB,e.Tl,e.done,e.res,e.Tt,by show (k.parts.set _ _).length<=4;rw [j5];exact e.Td,λp hp=> ?_,λew=> ?_⟩⟩
   ·rcases r6 (show p∈k.parts.set _ _ from hp) with hp|rfl
    ·exact e.part p hp
    ·exact hq.QK
   ·have h0:=e.SY ew;have h1:=hI.Sr v k hu;have h2:=rJ (zmg ho) (r:=x) (by rw [hq.QO];exact zcs)
    rw [hf] at h2;omega
  grind
 |item t q o' x xs u k ht hq hf hu hw g0 g1=>
  refine CJ hS hI hn ho hq (by simp) (by grind) rfl hI.crew (λw hw=>⟨w,hw,rfl⟩) (λv k' hk'=> ?_);rcases iv hk' with ⟨rfl,rfl,_⟩|⟨hne,hk'⟩
  ·refine ⟨k,hu,rfl,by show (k.Fn.Rs.set _ _).length=_;rw [j5],by rw [d6 hf];rfl,λs hs e=>⟨e.Ro,e.Ts,e.Tq,e.TB,e.Tl,e.done,by show (k.Fn.Rs.set _ _).length<=16;rw [j5];exact e.res,e.Tt,e.Td,e.part,λew=> ?_⟩⟩
   have h0:=e.SY ew;have h1:=hI.Sr v k hu;have h2:=rJ (zmg ho) (r:=x) (by rw [hq.QO];exact zcs)
   rw [hf] at h2;omega
  grind
end
open Go.Sx
variable {c:zR} {ss:List (List zI)} {n:Nat} {h:za}
def Hf(h:za)(rg:zb)(k:zo)(ws:List zJ)(os:List zc)(rs:List zw)(e:zd):za:=
 {h with Fd:=rg,QX:=k,LT:=ws,Id:=os,QI:=rs,Ri:=h.Ri++[e]}
def P0(r:zb)(k:zC):zb:={r with Rb:=k}
def inW(w:zJ)(W:zn):zJ:={w with QL:=W}
def K2(what t:Int)(ev hook prog ver pc:Int)(i:zh)(r:zk)(v:Int):zd:=⟨what,t,0,0,0,ev,hook,prog,ver,pc,i,r,v,0⟩
inductive WMv (h:za) (j:Nat) (w:zJ) (t:Nat):za->Prop
 | ends (x : qq) : w.QL.QU = 0 -> h.closed = true -> h.QX.QN[t]? = some x -> x.QU ≠ 2 ->
   WMv h j w t (Hf h h.Fd (Ny h.QX t x) (h.LT.set j {w with QV:=true}) h.Id h.QI (Oj t))
 | take (i : Nat) (r r' : zw) (q : zZ) (qs : List zZ) (cur : Int) : w.QL.QU = 0 -> h.closed = false -> h.QI[i]? = some r -> r.waiting = q :: qs -> bp r h.Rx = some (q, true, r') -> 0 <= cur -> cur < h.QI.length ->
   WMv h j w t (Hf h h.Fd h.QX (h.LT.set j ⟨⟨w.QL.RG,w.QL.Su,1,⟨i,q,0,0,0,none⟩⟩,cur,w.pc,w.Sg,w.QV⟩) h.Id (h.QI.set i r') (K2 5 t q.N i 0 0 0 oU CD 0))
 | skip (st : zW) (v p : Int) : w.QL.QU = 1 -> jQ h.Fd.Rg w.QL.Ru.hook = some (v, p, false) -> xF w.QL = some (0, ⟨w.QL.RG, st, 0, ⟨0, ⟨0, ⟨0, 0⟩⟩, 0, 0, 0, none⟩⟩) ->
   WMv h j w t (Hf h h.Fd h.QX (h.LT.set j (inW w ⟨w.QL.RG,st,0,⟨0,⟨0,⟨0,0⟩⟩,0,0,0,none⟩⟩)) h.Id h.QI (K2 9 t w.QL.Ru.RB.N w.QL.Ru.hook 0 0 0 oU CD 0))
 | enter (v p : Int) (m : zH) (b : Bool) (e1 e2 : Int) (ck : zC) (e : Int) (W' : zn) : w.QL.QU = 1 -> jQ h.Fd.Rg w.QL.Ru.hook = some (v, p, true) -> ja h.Fd p = some (m, b) ->
   vh h.Fd.Rb j=some (e1,e2,ck)->jR 2199023255552 w.QL v p m=some (e,W')->
   WMv h j w t (Hf h (P0 h.Fd ck) h.QX (h.LT.set j (inW w W')) h.Id h.QI (K2 6 t w.QL.Ru.RB.N w.QL.Ru.hook p v 0 oU CD 0))
 | note (a : qU) (W' : zn) : w.QL.QU = 2 -> jd 2199023255552 w.QL = some (a, true, W') -> a.QJ = 3 ->
   WMv h j w t (Hf h h.Fd h.QX (h.LT.set j (inW w W')) h.Id h.QI (K2 8 t w.QL.Ru.RB.N 0 w.QL.Ru.prog w.QL.Ru.Rt a.Pc oU CD a.Rz))
 | ask (a : qU) (W' : zn) : w.QL.QU = 2 -> jd 2199023255552 w.QL = some (a, true, W') -> a.QJ = 2 ->
   WMv h j w t (Hf h h.Fd h.QX (h.LT.set j {w with QL:=W',pc:=a.Pc}) (tN h.Id (kJ a.Item.RH h.Id.length,⟨t,0,false,a.Item⟩)) h.QI (K2 16 t w.QL.Ru.RB.N 0 w.QL.Ru.prog w.QL.Ru.Rt a.Pc a.Item CD a.Rz))
 | done (a : qU) (W' : zn) (e1 : Int) (ck : zC) : w.QL.QU = 2 -> jd 2199023255552 w.QL = some (a, true, W') -> a.QJ = 4 -> vi h.Fd.Rb [(j : Int)] = some (e1, ck) ->
   WMv h j w t (Hf h (P0 h.Fd ck) h.QX (h.LT.set j (inW w W')) h.Id h.QI (K2 9 t w.QL.Ru.RB.N w.QL.Ru.hook w.QL.Ru.prog w.QL.Ru.Rt a.Pc oU CD a.Rz))
 | ran (a : qU) (W' : zn) : w.QL.QU = 2 -> jd 2199023255552 w.QL = some (a, true, W') -> a.QJ = 1 ->
   WMv h j w t (Hf h h.Fd h.QX (h.LT.set j (inW w W')) h.Id h.QI (K2 7 t w.QL.Ru.RB.N 0 w.QL.Ru.prog w.QL.Ru.Rt a.Pc oU CD a.Rz))
 | back (r : zk) (W' : zn) : w.QL.QU = 3 -> w.Sg = some r -> xi w.QL r = some (0, W') ->
   WMv h j w t (Hf h h.Fd h.QX (h.LT.set j {w with QL:=W',Sg:=none}) h.Id h.QI (K2 17 t w.QL.Ru.RB.N 0 w.QL.Ru.prog w.QL.Ru.Rt w.pc oU r 0))
theorem Mo{h:za}{H:Nat}(hl:h.QI.length=H)(hH:1<=H/\H<=4){w:zJ}(h0:0<=w.Rw)(h1:w.Rw<H){i0:Nat}{r0:zw}(hi:h.QI[i0]? =some r0)(hw:r0.waiting≠ []):
  ∃(i:Nat)(r:zw),loop (cx h) 2199023255552 w=some {w with Rw:=(i:Int)}/\h.QI[i]? =some r/\r.waiting≠ []:=by
 have hil:=(zes.1 hi).1
 obtain ⟨s,e,i,r,rfl,e2,e3⟩:=hY (body:=cx h) (λm s=>∃cur:Nat,s={w with Rw:=(cur:Int)}/\cur<H/\m=if cur<=i0 then i0-cur else i0+H-cur) (λs=>∃(i:Nat)(r:zw),s={w with Rw:=(i:Int)}/\h.QI[i]? =some r/\r.waiting≠ []) (λm s again hI ha=>by
  obtain ⟨cur,rfl,hc,hm⟩:=hI;unfold cx;have hcl:cur<h.QI.length:=by omega
  have hg:=zeg hcl;rw [zT hg];simp only [zbs];obtain ⟨cn,hcn,hq⟩:=mD h.QI[cur];rw [hcn];simp only [zbs];by_cases he:cn.Sl=0
  ·rw [d6 (by simp [he])]
   have hne:cur≠i0:=λe=>by
    subst e;rw [hg] at hi;obtain rfl:=i8 hi;rw [hq] at he;exact hw (List.length_eq_zero_iff.1 (by omega))
   have hz:nz (h.QI.length:Int)=some ():=by grind [nz]
   rw [hz,zbs,qr (by omega) (by omega)];by_cases hx:cur+1<H
   ·rw [Int.tmod_eq_of_lt (by omega) (by omega)];refine ha (if cur+1<=i0 then i0-(cur+1) else i0+H-(cur+1)) _ ?_ ⟨cur+1,rfl,hx,rfl⟩
    grind
   ·have:cur+1=H:=by omega
    have e5:(cur:Int)+1=(h.QI.length:Int):=by omega
    rw [e5,Int.tmod_self];refine ha i0 _ ?_ ⟨0,rfl,by omega,by grind⟩
    grind
  grind) 2199023255552 (if w.Rw.toNat<=i0 then i0-w.Rw.toNat else i0+H-w.Rw.toNat) w (by split<;>omega) ⟨w.Rw.toNat,by rw [show ((w.Rw.toNat:Nat):Int)=w.Rw by omega],by omega,rfl⟩
 grind
theorem E6{t:zz}{k:Int}(h0:0<=k)(h1:k<t.QS.length):∃v p b,jQ t k=some (v,p,b):=by
 obtain ⟨x,hx,_⟩:=nR (xs:=t.QS) h0 h1;unfold jQ jl jn;have e1:(decide (k>=0)&&decide (k<(t.QS.length:Int)))=true:=by grind
 rw [e1,hx];simp only [zbs,Bool.not_true,zfe,if_false];cases decide (x.Rt>0) with
 |true=>exact ⟨_,_,_,rfl⟩
 |false=>exact ⟨_,_,_,rfl⟩
theorem HI.hooks4(hS:cU c ss)(hI:HI c ss n h):h.QI.length=c.QY.toNat/\1<=c.QY.toNat/\c.QY.toNat<=4:=by
 have h1:=hI.rg;have h2:=hS.hk;omega
theorem HI.module(hI:HI c ss n h)(p:Int):∃m b,ja h.Fd p=some (m,b)/\m.Maps.length*8<=140737488355328/\m.Code.length*40<=140737488355328/\∀x∈m.Maps,x<(c.Maps.length:Int):=by
 have h1:=HT hI.Sm p;cases hg:jM h.Fd.Re p with
 |none=>
  grind
 |some x=>
  rw [hg] at h1;obtain ⟨_,_,a,b,d,_⟩:=hI.Sm.prog p x hg;have a2:=a.2.2
  grind
theorem Mp(hS:cU c ss)(hI:HI c ss n h){j t:Nat}{w:zJ}(hw:h.LT[j]? =some w)(ht:t=h.or.length+j)
  (hr0:w.QL.QU=0->w.QV=false/\(h.closed=true\/∃r∈h.QI,r.waiting≠ [])) (hr3:w.QL.QU=3->w.Sg.isSome=true) {x:qq} (hk:h.QX.QN[t]? =some x) (hm:x.QU≠2):
  OK (dc 2199023255552 h (t:Int)) (WMv h j w t):=by
 have hjl:=(zes.1 hw).1;have hcl:=hI.cl;have hcr:=hI.crn hS;have hSc:=hS.cl;have hSw:=hS.wk;have hlog:=hI.logb;obtain ⟨hr1,hr2,hr4⟩:=hI.hooks4 hS;have hC:=hI.crew w (zmg hw);have hJ:=hC.Ru;have hrm:∀e:zd,room (h.Ri.length+[e].length) 176=some ():=λe=>xb (by grind)
 unfold dc zS xo jJ vK;simp only [zbs];have e2:w64 ((t:Int)-(h.or.length:Int))=(j:Int):=by grind [qr]
 rw [e2,zT hw];simp only [zbs,k6];rcases hJ.is with m0|m1|⟨m2,_⟩|⟨m3,_⟩
 ·refine m9 (by simp [m0]) ?_;refine b9 (λhcd=> ?_) (λhcd=> ?_)
  ·rw [hrm];simp only [zbs];rw [mU hk hm];simp only [zbs];exact b8 (.ends x m0 hcd hk hm)
  ·obtain ⟨_,hr⟩:=hr0 m0;rcases hr with hr|⟨r0,hr,hne⟩
   ·grind
   obtain ⟨i0,hi0⟩:=w7 hr;obtain ⟨i,r,e3,e4,e5⟩:=Mo hr1 ⟨hr2,hr4⟩ hC.cur.1 hC.cur.2 hi0 hne;have hil:=(zes.1 e4).1;rw [e3];simp only [zbs];rw [zT e4];simp only [zbs];have hri:=hI.RZ r (zmg e4);cases hwt:r.waiting with
   |nil=>exact absurd hwt e5
   |cons q qs=>
    obtain ⟨r',t1,t2,t3,t4⟩:=pJ hri.1 h.Rx hwt;rw [t1];have hz:nz (h.QI.length:Int)=some ():=by grind [nz]
    simp only [zbs];rw [hz];simp only [zbs];rw [(Ov hJ hr4 m0 (k:=(i:Int)) (by omega) (by omega) (hri.2 q (by grind))).1];simp only [zbs];rw [hrm];simp only [zbs,k6]
    have h5:0<=(w64 ((i:Int)+1)).tmod (h.QI.length:Int)/\(w64 ((i:Int)+1)).tmod (h.QI.length:Int)<h.QI.length:=by
     rw [qr (by omega) (by omega)];exact ⟨Int.tmod_nonneg _ (by omega),Int.tmod_lt_of_pos _ (by omega)⟩
    exact b8 (.take i r r' q qs _ m0 hcd e4 hwt t1 h5.1 h5.2)
 ·refine j4 (by simp [m1]) ?_;refine m9 (by simp [m1]) ?_;have hhl:=hI.Sm.hl;obtain ⟨v,p,b,hcu⟩:=E6 (t:=h.Fd.Rg) hJ.hook.1 (by have:=hJ.hook.2;omega);rw [hcu];simp only [zbs];cases b with
  |false=>
   refine m9 rfl ?_;obtain ⟨st,s1,s2⟩:=Ow hJ hr2 hr4 m1;rw [s1];simp only [zbs];rw [hrm];simp only [zbs];exact b8 (.skip st v p m1 hcu s1)
  |true=>
   refine j4 rfl ?_;obtain ⟨m,b,hm1,hm2,hm3,hm4⟩:=hI.module p;rw [hm1];simp only [zbs];obtain ⟨⟨e1,e2,ck⟩,he,_⟩:=Em hI.Sm (j:Int);rw [he];simp only [zbs];obtain ⟨e,W',hE,_⟩:=Lb hJ m1 hm2 hm3 hm4 v p;rw [hE];simp only [zbs];rw [hrm];simp only [zbs];exact b8 (.enter v p m b e1 e2 ck e W' m1 hcu hm1 he hE)
 ·refine j4 (by simp [m2]) ?_;refine j4 (by simp [m2]) ?_;refine m9 (by simp [m2]) ?_;obtain ⟨a,W',hst,hWJ,hWS⟩:=Ox hr2 hr4 hJ m2;rw [hst];simp only [zbs];have hown:=hI.own;have hb:=hI.RP;rcases hWS with ⟨k4,_⟩|⟨k2,_,_,_,_,_,⟨g1,g2,g3,g4,g5,g6⟩,_⟩|⟨k13,_⟩
  ·refine j4 (by simp [k4]) ?_;refine j4 (by simp [k4]) ?_;refine m9 (by simp [k4]) ?_;obtain ⟨⟨e1,ck⟩,he,_⟩:=Eo hI.Sm (j:Int);rw [he];simp only [zbs];rw [hrm];simp only [zbs];exact b8 (.done a W' e1 ck m2 hst k4 he)
  ·refine j4 (by simp [k2]) ?_;refine m9 (by simp [k2]) ?_
   have hne:∀o∈h.Id,o.QV=false:=λo ho=>by
    cases he:o.QV with
    |false=>rfl
    |true=>
     have:=hC.over ((hI.Sy o ho he).2 w (zmg hw));omega
   obtain ⟨p,o,q1,q2,q3,q4,q5,q6⟩:=Ha hown hS.sh hne (r:=⟨(t:Int),0,false,a.Item⟩) g1 g2 ⟨g3,g4⟩ (by omega);have q2:ak a.Item.RH (h.Id.length:Int)=some (p:Int):=q2;rw [q2];simp only [zbs];rw [q4];simp only [zbs];rw [q6];simp only [zbs];rw [hrm];simp only [zbs,k6];have:=WMv.ask (h:=h) (j:=j) (w:=w) (t:=t) a W' m2 hst k2;have q1:kJ a.Item.RH h.Id.length=p:=q1
   have e7:tN h.Id (p,⟨(t:Int),0,false,a.Item⟩)=h.Id.set p (Oi o ⟨(t:Int),0,false,a.Item⟩):=by
    grind [tN]
   rw [q1,e7] at this;exact b8 this
  ·rcases k13 with k1|k3
   ·refine j4 (by simp [k1]) ?_;refine j4 (by simp [k1]) ?_;refine j4 (by simp [k1]) ?_;rw [hrm];simp only [zbs];exact b8 (.ran a W' m2 hst k1)
   ·refine m9 (by simp [k3]) ?_;rw [hrm];simp only [zbs];exact b8 (.note a W' m2 hst k3)
 ·refine j4 (by simp [m3]) ?_;refine j4 (by simp [m3]) ?_;refine j4 (by simp [m3]) ?_;refine m9 (by simp [m3]) ?_;cases hrp:w.Sg with
  |none=>have:=hr3 m3;rw [hrp] at this;cases this
  |some r=>
   simp only [zbs];rw [hrm];simp only [zbs];obtain ⟨W',hA,_⟩:=uq hJ m3 (hC.rep r hrp);rw [hA];simp only [zbs];exact b8 (.back r W' m3 hrp hA)
end
open Go.Sx
variable {c:zR} {ss:List (List zI)} {n:Nat} {h:za}
theorem Hg{l:List zE}{f:Int}(h:∀x∈l,x.Rn≠f):gp l f=0:=by
 grind [gp]
theorem HI.reg0(hI:HI c ss n h){t:Nat}(ht:ss.length<=t):kO h t=0:=by
 have h1:∀x∈h.QO++h.held,x.Rn≠t:=λx hx e=>by
  obtain ⟨⟨u,e1,e2⟩,_⟩:=hI.call x hx;omega
 obtain ⟨u,e1,e2⟩:=hI.QQ
 grind [kO,Hg]
theorem wh(hI:HI c ss n h)(hn:n+1<=100000000){j:Nat}{w w':zJ}(hw:h.LT[j]? =some w){rg:zb}(hrg:fV c.QY.toNat c.Maps.length c.QM.toNat (n+1) rg){k:zo}(hk:k.QN.length=h.QX.QN.length)
  (hw':AB c.QY.toNat c.Maps.length w') (he1:w.QV=true->w'.QV=true) (he2:w'.QV=true->h.closed=true)
  {os:List zc} (hos:ui c (16*n+16) os) (hoe:∀(i:Nat) o,os[i]? =some o->∃o',h.Id[i]? =some o'/\o'.QV=o.QV) (hreq:∀o∈os,∀r∈o.QO,(∃o'∈h.Id,r∈o'.QO)\/(∃j:Nat,r.RT=(h.or.length:Int)+j/\j<h.LT.length/\r.Sj=false))
  (hcnt:∀u:Nat,u<h.or.length->gT os u=gT h.Id u) {rs:List zw} (hrs:we c rs) (e:zd):HI c ss (n+1) (Hf h rg k (h.LT.set j w') os rs e):=by
 have hend:(∀w∈h.LT,w.QV=true)->∀v∈h.LT.set j w',v.QV=true:=λa v hv=>by
  grind
 exact
 {RP:=hn
  QZ:=hI.QZ
  cl:=hI.cl
  cr:=by show ((h.LT.set j w').length:Int)=_;rw [j5];exact hI.cr
  rg:=hrs.1
  Sm:=hrg
  RZ:=hrs.2
  Tc:=hI.Tc
  crew:=λv hv=>by
   rcases r6 (show v∈h.LT.set j w' from hv) with hv|rfl
   ·exact hI.crew v hv
   ·exact hw'
  own:=hos.mono (by omega)
  Tf:=λo ho r hr=>by
   show wd h.or (h.LT.set j w').length r;rw [j5];rcases hreq o ho r hr with ⟨o',h1,h2⟩|h1
   ·exact hI.Tf o' h1 r h2
   ·exact .inr h1
  Sr:=λu k2 hu=>by
   show k2.QT=((gT os u+kO h u:Nat):Int)
   rw [hcnt u (zes.1 hu).1];exact hI.Sr u k2 hu
  SB:=λu=>by
   show kO h u=0\/kO h u=1/\gT os u=0;by_cases hu:u<h.or.length
   ·rw [hcnt u hu];exact hI.SB u
   ·exact .inl (hI.reg0 (by have:=hI.cl;omega))
  call:=hI.call
  QQ:=hI.QQ
  SC:=by show k.QN.length=_;rw [hk];exact hI.SC
  Sy:=λo ho e=>by
   obtain ⟨i,hi⟩:=w7 (show o∈os from ho);obtain ⟨o',h1,h2⟩:=hoe i o hi;obtain ⟨a,b⟩:=hI.Sy o' (zmg h1) (by rw [h2];exact e)
   exact ⟨a,hend b⟩
  SF:=λv hv e=>by
   rcases r6 (show v∈h.LT.set j w' from hv) with hv|rfl
   ·exact hI.SF v hv e
   ·exact he2 e
  SA:=by
   show (h.Ri++[e]).length<=_;have:=hI.SA
   grind
  Ta:=by have:=hI.Ta;show h.QO.length<=_;omega
  hel:=by have:=hI.hel;show h.held.length<=_;omega}
theorem Mq(hS:cU c ss)(hI:HI c ss n h)(hn:n+1<=100000000){j t:Nat}{w:zJ}(hw:h.LT[j]? =some w)(ht:t=h.or.length+j)(hr0:w.QL.QU=0->w.QV=false){h':za}(hv:WMv h j w t h'):HI c ss (n+1) h':=by
 have hjl:=(zes.1 hw).1;obtain ⟨hr1,hr2,hr4⟩:=hI.hooks4 hS;have hC:=hI.crew w (zmg hw);have hJ:=hC.Ru;have hregm:=hI.Sm.mono (show n<=n+1 by omega) (by omega)
 have hne:w.QV=false:=by
  cases he:w.QV with
  |false=>rfl
  |true=>rw [hr0 (hC.over he)] at he;cases he
 have hcf:∀{p:Prop},w.QV=true->p:=λe=>by grind
 have hown:=hI.own.mono (show 16*n<=16*n+16 by omega);have hsame:∀o∈h.Id,∀r∈o.QO,(∃o'∈h.Id,r∈o'.QO)\/(∃j:Nat,r.RT=(h.or.length:Int)+j/\j<h.LT.length/\r.Sj=false):=λo ho r hr=>.inl ⟨o,ho,hr⟩
 have keep:∀{w':zJ},AB c.QY.toNat c.Maps.length w'->w'.QV=w.QV->∀{rg:zb},fV c.QY.toNat c.Maps.length c.QM.toNat (n+1) rg->∀e,HI c ss (n+1) (Hf h rg h.QX (h.LT.set j w') h.Id h.QI e):=λhw' he rg hrg e=>
  wh hI hn hw hrg rfl hw' (λz=>by rw [he];exact z) (λz=>hcf (by rw [<- he];exact z)) hown (λi o ho=>⟨o,ho,rfl⟩) hsame (λ_ _=>rfl) ⟨hI.rg,hI.RZ⟩ e
 have crw:∀{W':zn},WJ c.QY.toNat c.Maps.length W'->AB c.QY.toNat c.Maps.length (inW w W'):=λhW=>⟨hW,hC.cur,hC.rep,hcf⟩
 have stp:∀{a:qU} {W':zn},w.QL.QU=2->jd 2199023255552 w.QL=some (a,true,W')->WJ c.QY.toNat c.Maps.length W'/\Ht c.QY.toNat c.Maps.length w.QL a W':=λm2 hst=>by
  grind [Ox]
 cases hv with
 |ends x m0 hcl hk hm=>
  exact wh hI hn hw (k:=Ny h.QX t x) (w':={w with QV:=true}) hregm (by show (h.QX.QN.set t _).length=_;rw [j5]) ⟨hJ,hC.cur,hC.rep,λ_=>m0⟩ (λ_=>rfl) (λ_=>hcl) hown (λi o ho=>⟨o,ho,rfl⟩) hsame (λ_ _=>rfl) ⟨hI.rg,hI.RZ⟩ _
 |take i r r' q qs cur m0 hcl hi hwt htk c0 c1=>
  have hri:=hI.RZ r (zmg hi);have hil:=(zes.1 hi).1;obtain ⟨r2,t1,t2,t3,t4⟩:=pJ hri.1 h.Rx hwt;rw [htk] at t1;cases t1;have hq:=Ov hJ hr4 m0 (k:=(i:Int)) (by omega) (by omega) (hri.2 q (by grind));refine wh hI hn hw (k:=h.QX) (w':=⟨⟨w.QL.RG,w.QL.Su,1,⟨i,q,0,0,0,none⟩⟩,cur,w.pc,w.Sg,w.QV⟩) (rs:=h.QI.set i r') hregm rfl ⟨hq.2,⟨c0,by grind⟩,hC.rep,hcf⟩ hcf hcf hown (λi o ho=>⟨o,ho,rfl⟩) hsame (λ_ _=>rfl) ⟨by grind,λy hy=> ?_⟩ _;rcases r6 hy with hy|rfl
  ·exact hI.RZ y hy
  grind
 |skip st v p m1 hcu hsk=>
  obtain ⟨st2,s1,s2⟩:=Ow hJ hr2 hr4 m1;rw [hsk] at s1;cases s1;exact keep (crw s2) rfl hregm _
 |enter v p m b e1 e2 ck e W' m1 hcu hmo he hE=>
  obtain ⟨m2,b2,hm1,hm2,hm3,hm4⟩:=hI.module p;rw [hmo] at hm1;cases hm1;obtain ⟨e3,W2,hE2,hW2,_⟩:=Lb hJ m1 hm2 hm3 hm4 v p;rw [hE] at hE2;cases hE2;refine keep (crw hW2) rfl ?_ _;obtain ⟨⟨q1,q2,q3⟩,hq,hq2⟩:=Em hI.Sm (j:Int);rw [he] at hq;cases hq;rcases hq2 with ⟨_,_,e5⟩|⟨_,_,_,_,_,e5⟩
  ·have e5:ck=h.Fd.Rb:=e5;subst e5;exact hregm
  ·have e5:ck=⟨h.Fd.Rb.Sk,h.Fd.Rb.in_.set ((j:Int)).toNat h.Fd.Rb.Sk⟩:=e5;subst e5;exact HM hI.Sm (by omega) _
 |note a W' m2 hst k3=>exact keep (crw (stp m2 hst).1) rfl hregm _
 |ran a W' m2 hst k1=>exact keep (crw (stp m2 hst).1) rfl hregm _
 |done a W' e1 ck m2 hst k4 hlv=>
  refine keep (crw (stp m2 hst).1) rfl ?_ _;obtain ⟨⟨q1,q2⟩,hq,hq2⟩:=Eo hI.Sm (j:Int);rw [hlv] at hq;cases hq;rcases hq2 with ⟨_,e5,_⟩|⟨_,_,_,e5⟩
  ·have e5:ck=h.Fd.Rb:=e5;subst e5;exact hregm
  ·have e5:ck=⟨h.Fd.Rb.Sk,h.Fd.Rb.in_.set ((j:Int)).toNat 0⟩:=e5;subst e5;exact HN hI.Sm (by omega) _
 |ask a W' m2 hst k2=>
  obtain ⟨hW,hWS⟩:=stp m2 hst;rcases hWS with ⟨k4,_⟩|⟨_,_,_,_,_,_,⟨g1,g2,g3,g4,g5,g6⟩,_⟩|⟨k13,_⟩
  ·grind
  ·refine wh hI hn hw (k:=h.QX) (w':={w with QL:=W',pc:=a.Pc}) (os:=tN h.Id (kJ a.Item.RH h.Id.length,⟨t,0,false,a.Item⟩)) hregm rfl ⟨hW,hC.cur,hC.rep,hcf⟩ (λz=>z) hcf ((hI.own.put g1 g2 (.inr ⟨g3,g4⟩) g6).mono (by omega)) (λi o ho=>Az ho) (λo ho r hr=> ?_) (λu hu=> ?_) ⟨hI.rg,hI.RZ⟩ _
   ·rcases wc (l:=[(kJ a.Item.RH h.Id.length,⟨(t:Int),0,false,a.Item⟩)]) (os:=h.Id) ho hr with h6|⟨x,hx,rfl⟩
    ·exact .inl h6
    grind
   ·obtain ⟨p,hp,hlt⟩:=uY (k:=a.Item.RH) (n:=(h.Id.length:Int)) (by rw [hI.own.len];exact hS.sh.1) (by rw [hI.own.len];exact hS.sh.2)
    grind [Ax,kJ]
  ·omega
 |back r W' m3 hr hA=>
  obtain ⟨W2,hA2,hW2,_⟩:=uq hJ m3 (hC.rep r hr);rw [hA] at hA2;cases hA2;exact keep (w':={w with QL:=W',Sg:=none}) ⟨hW2,hC.cur,λr e=>(by cases e),hcf⟩ rfl hregm _
end
open Go.Sx
variable {c:zR} {ss:List (List zI)} {n:Nat} {h:za}
theorem uk(hl:h.QI.length<=4):∃b,vd h=some b/\(b=true↔∃r∈h.QI,r.waiting≠ []):=by
 unfold vd;rw [xb (by omega),zbs]
 obtain ⟨o,h1,h2⟩:OK (jI (cJ h) (λ(s185:Unit)=>(.inl ())) (h.QI).length 0 ()) (λo=>match o with|.inl _=>∀r∈h.QI,r.waiting=[]|.inr b=>b=true/\∃r∈h.QI,r.waiting≠ []):=by
  refine f9 (λi _=>∀r∈h.QI.take i,r.waiting=[]) (by simp) (λi s again hi hI ha=> ?_) (λs hs=>by grind);unfold cJ;refine f8 (i5 hi λr hr=> ?_);obtain ⟨cn,e1,e2⟩:=mD r;rw [e1];simp only [zbs];refine b9 (λe=>b8 ⟨rfl,r,zmg hr,λz=> ?_⟩) (λe=>ha _ λq hq=> ?_)
  ·grind
  ·rw [mf hr] at hq;rcases f7.1 hq with hq|hq
   ·exact hI q hq
   ·rw [g9.1 hq];have e:=yx e;exact List.length_eq_zero_iff.1 (by omega)
 rw [h1];cases o with
 |inl _=>exact ⟨false,rfl,λz=>(by cases z),λ⟨r,hr,hn⟩=>absurd (h2 r hr) hn⟩
 |inr b=>exact ⟨b,rfl,λ_=>h2.2,λ_=>h2.1⟩
theorem E7(hl:h.LT.length<=4):∃b,ax h=some b/\(b=true↔∀w∈h.LT,w.QL.QU=0):=by
 unfold ax;rw [xb (by omega),zbs]
 obtain ⟨o,h1,h2⟩:OK (jI (cL h) (λ(s210:Unit)=>(.inl ())) (h.LT).length 0 ()) (λo=>match o with|.inl _=>∀w∈h.LT,w.QL.QU=0|.inr b=>b=false/\∃w∈h.LT,w.QL.QU≠0):=by
  refine f9 (λi _=>∀w∈h.LT.take i,w.QL.QU=0) (by simp) (λi s again hi hI ha=> ?_) (λs hs=>by grind);unfold cL jJ;refine f8 (i5 hi λw hw=> ?_);simp only [zbs];refine b9 (λe=>b8 ⟨rfl,w,zmg hw,by simpa using e⟩) (λe=>ha _ λq hq=> ?_);rw [mf hw] at hq
  grind
 rw [h1];cases o with
 |inl _=>exact ⟨true,rfl,λ_=>h2,λ_=>rfl⟩
 |inr b=>
  obtain ⟨e,w,hw,hn⟩:=h2;exact ⟨b,rfl,λz=>(by grind),λz=>absurd (z w hw) hn⟩
theorem sI(hl:h.LT.length<=4)(ho:h.Id.length<=4)(g:Bool):∃b,xE h g=some b/\(b=true↔(∀w∈h.LT,w.QV=true)/\(g=true->∀o∈h.Id,o.QV=true)):=by
 unfold xE;rw [xb (by omega),zbs]
 obtain ⟨o,h1,h2⟩:OK (jI (bL h) (λ(s170:Unit)=>(.inl ())) (h.LT).length 0 ()) (λo=>match o with|.inl _=>∀w∈h.LT,w.QV=true|.inr b=>b=false/\∃w∈h.LT,w.QV=false):=by
  refine f9 (λi _=>∀w∈h.LT.take i,w.QV=true) (by simp) (λi s again hi hI ha=> ?_) (λs hs=>by grind);unfold bL;refine f8 (i5 hi λw hw=>b9 (λe=>b8 ⟨rfl,w,zmg hw,by simpa using e⟩) (λe=>ha _ λq hq=> ?_));rw [mf hw] at hq
  grind
 rw [h1];cases o with
 |inr b=>
  obtain ⟨e,w,hw,hn⟩:=h2;exact ⟨b,rfl,λz=>(by grind),λz=>(by grind)⟩
 |inl _=>
  simp only [zbs];rw [xb (by omega),zbs]
  obtain ⟨o,h3,h4⟩:OK (jI (bM h g) (λ(s374:Unit)=>(.inl ())) (h.Id).length 0 ()) (λo=>match o with|.inl _=>g=true->∀o∈h.Id,o.QV=true|.inr b=>b=false/\g=true/\∃o∈h.Id,o.QV=false):=by
   refine f9 (λi _=>g=true->∀w∈h.Id.take i,w.QV=true) (by simp) (λi s again hi hI ha=> ?_) (λs hs=>by grind);unfold bM ve;refine f8 (i5 hi λw hw=> ?_);simp only [zbs];refine d5 (R:=λb=>b=(g&& !w.QV)) (b9 (λe=>b8 (by simp [e])) (λe=>b8 (by simp [e]))) (λb hb=> ?_);subst hb;refine b9 (λe=>b8 ?_) (λe=>ha _ λhg q hq=> ?_)
   ·grind
   ·rw [mf hw] at hq
    grind
  rw [h3];cases o with
  |inl _=>exact ⟨true,rfl,λ_=>⟨h2,h4⟩,λ_=>rfl⟩
  |inr b=>
   obtain ⟨e,hg,w,hw,hn⟩:=h4;exact ⟨b,rfl,λz=>(by grind),λz=>(by grind)⟩
def Fin(h:za)(x:zE):Prop:=(x.cmd.QJ=8/\∀e∈h.Fd.Rb.in_,e=0\/x.Sv<=e)\/(x.cmd.QJ≠8/\(∀r∈h.QI,r.waiting=[])/\∀w∈h.LT,w.QL.QU=0)
theorem Ol(hr:h.QI.length<=4)(hw:h.LT.length<=4)(hc:h.Fd.Rb.in_.length<=4)(x:zE):∃b,xm x h=some b/\(b=true↔Fin h x):=by
 unfold xm;by_cases hk:x.cmd.QJ=8
 ·rw [d6 (by simp [hk]),HO _ _ (by omega),zbs];refine ⟨_,rfl,λe=>.inl ⟨hk,yd e⟩,λe=> ?_⟩;rcases e with e|e
  ·grind
  grind
 ·rw [d8 (by simp [hk])];obtain ⟨b1,e1,e2⟩:=uk hr;obtain ⟨b2,e3,e4⟩:=E7 hw;rw [e1,e3];simp only [zbs];cases hb1:b1 with
  |true=>
   simp only [Bool.not_true,zfe,if_false,zbs];refine ⟨_,rfl,λe=>(by cases e),λe=> ?_⟩;rcases e with e|e
   ·exact absurd e.1 hk
   grind
  |false=>
   simp only [Bool.not_false,s9,zbs];refine ⟨_,rfl,λe=>.inr ⟨hk,λr hr=> ?_,e4.1 e⟩,λe=> ?_⟩
   ·grind
   ·rcases e with e|e
    ·exact absurd e.1 hk
    ·exact e4.2 e.2.2
theorem nT(hr:h.QI.length<=4)(hw:h.LT.length<=4)(hc:h.Fd.Rb.in_.length<=4):∃i,xh h=some i/\((i= -1/\∀x∈h.held,¬ Fin h x)\/∃(a:Nat)(x:zE),i=(a:Int)/\h.held[a]? =some x/\Fin h x):=by
 unfold xh qe
 obtain ⟨o,h1,h2⟩:OK (jI (qt h.held h) (λ(s216:Unit)=>(.inl ())) h.held.length 0 ()) (λo=>match o with|.inl _=>∀x∈h.held,¬ Fin h x|.inr i=>∃(a:Nat)(x:zE),i=(a:Int)/\h.held[a]? =some x/\Fin h x):=by
  refine f9 (λi _=>∀x∈h.held.take i,¬ Fin h x) (by simp) (λi s again hi hI ha=> ?_) (λs hs=>by grind);unfold qt;refine f8 (i5 hi λx hx=> ?_);obtain ⟨b,e1,e2⟩:=Ol hr hw hc x;rw [e1,zbs];refine b9 (λe=>b8 ⟨i,x,rfl,hx,e2.1 e⟩) (λe=>ha _ λq hq=> ?_);rw [mf hx] at hq
  grind
 grind
def CK(k:ze)(N E:Int):ze:={k with QT:=0,Fn:=⟨E,N,k.Fn.Rs,k.Fn.Pairs⟩}
def BS(what t:Int)(hook prog ver:Int):zd:=⟨what,t,0,0,0,0,hook,prog,ver,0,oU,CD,0,0⟩
def CL(h:za)(rg:zb)(cs:List ze)(l hd:List zE)(es:List zd):za:=
 {h with Fd:=rg,or:=cs,QO:=l,held:=hd,Ri:=h.Ri++es}
def sJ(t:Int)(hook:Int)(q:zZ):zd:=⟨10,t,0,0,0,q.N,hook,0,0,0,oU,CD,0,0⟩
def wi(r:zw):zw:=⟨r.room,true,[],⟨r.counts.Sf,r.counts.Sn,r.counts.SP,w64 (r.counts.Sq+(r.waiting.length:Int)),r.counts.Sl⟩⟩
def tO(t:Int)(rs:List zw):List zd:=(rs.mapIdx (λi r=>r.waiting.map (sJ t (i:Int)))).flatten
inductive K3 (t:Int) (r:zb) (x:zE):zb->Int->Int->List zd->Prop
 |load (n e:Int) (r':zb):x.cmd.QJ=4->jo 2199023255552 r x.cmd.Rf=some (n,e,r')->K3 t r x r' n e (if e=0 then [BS 12 t 0 n 0] else [])
 |attach (v e:Int) (r':zb):x.cmd.QJ=5->jy r x.cmd.Ry x.cmd.RM=some (v,e,r')->K3 t r x r' v e (if e=0 then [BS 11 t x.cmd.Ry x.cmd.RM v] else [])
 |swap (v e:Int) (r':zb):x.cmd.QJ=6->jL r x.cmd.Ry x.cmd.RM=some (v,e,r')->K3 t r x r' v e (if e=0 then [BS 11 t x.cmd.Ry x.cmd.RM v] else [])
 |detach (e:Int) (tb:zz):x.cmd.QJ=7->xI r.Rg [x.cmd.Ry]=some (e,tb)->K3 t r x (Fu r tb) 0 e (if e=0 then [BS 11 t x.cmd.Ry 0 0] else [])
 |retire (v e:Int) (r':zb):x.cmd.QJ=8->jc r x.cmd.RM=some (v,e,r')->e≠0->K3 t r x r' 0 e []
inductive RMv (h:za) (t:Nat):za->Prop
 |fin (a:Nat) (x:zE) (u:Nat) (k:ze):h.held[a]? =some x->Fin h x->x.Rn=(u:Int)->h.or[u]? =some k->x.cmd.QJ≠8->RMv h t (CL h h.Fd (h.or.set u (CK k 0 0)) h.QO (h.held.eraseIdx a) [])
 | retired (a : Nat) (x : zE) (u : Nat) (k : ze) : h.held[a]? = some x -> Fin h x -> x.Rn = (u : Int) -> h.or[u]? = some k -> x.cmd.QJ = 8 ->
   RMv h t (CL h (gJ h.Fd (mE h.Fd 1)) (h.or.set u (CK k 0 0)) h.QO (h.held.eraseIdx a) [BS 13 t 0 x.cmd.RM 0])
 | over (u : Nat) (k : ze) (x : qq) : (∀ x ∈ h.held, ¬ Fin h x) -> h.QO = [] -> h.QQ = (u : Int) -> h.or[u]? = some k -> h.QX.QN[t]? = some x -> x.QU ≠ 2 ->
   RMv h t {h with QX:=Ny h.QX t x,or:=h.or.set u (CK k 0 0),over:=true,Ri:=h.Ri++[Oj t]}
 |refuse (x:zE) (xs:List zE) (u:Nat) (k:ze):(∀x∈h.held,¬ Fin h x)->h.QO=x::xs->h.closed=true->x.Rn=(u:Int)->h.or[u]? =some k->RMv h t (CL h h.Fd (h.or.set u (CK k 0 43)) xs h.held [])
 | cmd (x : zE) (xs : List zE) (u : Nat) (k : ze) (r' : zb) (N E : Int) (es : List zd) : (∀ x ∈ h.held, ¬ Fin h x) -> h.QO = x :: xs -> h.closed = false -> x.Rn = (u : Int) -> h.or[u]? = some k -> K3 t h.Fd x r' N E es ->
   RMv h t (CL h r' (h.or.set u (CK k N E)) xs h.held es)
 | hold (x : zE) (xs : List zE) (v : Int) (r' : zb) : (∀ x ∈ h.held, ¬ Fin h x) -> h.QO = x :: xs -> h.closed = false -> x.cmd.QJ = 8 -> jc h.Fd x.cmd.RM = some (v, 0, r') ->
   RMv h t (CL h r' h.or xs (h.held++[{x with Sv:=v}]) [])
 |drain (x:zE) (xs:List zE):(∀x∈h.held,¬ Fin h x)->h.QO=x::xs->h.closed=false->x.cmd.QJ=9->RMv h t (CL h h.Fd h.or xs (h.held++[x]) [])
 | close (x : zE) (xs : List zE) : (∀ x ∈ h.held, ¬ Fin h x) -> h.QO = x :: xs -> h.closed = false -> x.cmd.QJ = 10 ->
   RMv h t {h with QI:=h.QI.map wi,QO:=xs,QQ:=x.Rn,closed:=true,Ri:=h.Ri++tO t h.QI++[BS 14 t 0 0 0]}
end Go.Proofs.YtplmgfkghomelaaGreatDoor.KH
