/- Lemmas. -/
import Derived.Test.YtplmgfkghomelaaGreatDoorKH20
import Derived.Test.YtplmgfkghomelaaGreatDoorD1
set_option linter.unusedVariables false
set_option linter.unusedSimpArgs false
namespace Go.Proofs.YtplmgfkghomelaaGreatDoor.KH
section
open Go.Sx
variable {c:zR} {ss:List (List zI)} {n:Nat} {h:za}
theorem Oh.shape(hb:Oh c ss h)(hf:∀s∈ss,∀c∈s,Fit c):cU c ss:=⟨hb.hk,hb.wk,hb.sh,hb.mp,hb.cl,hb.sl,hf⟩
theorem JB(hb:Oh c ss h):HI c ss 0 h/\h.Ri=[]/\mg h.or=0:=by
 obtain ⟨r,os,rs,w0,hw0,hr,r1,r2,r3,r4,r5,⟨ho1,ho2⟩,⟨hr1,hr2⟩,rfl⟩:=hb.is;have b1:=hb.hk;have b2:=hb.wk;have b3:=hb.sh;obtain ⟨w1,e1,hJ,m0,k0⟩:=WJ.new (H:=c.QY.toNat) (K:=c.Maps.length) (by omega);rw [hw0] at e1;obtain rfl:=i8 e1
 have hcnt:∀f:Int,gT os f=0:=λf=>by
  unfold gT
  have:os.map (λo=>wV o.QO f)=List.replicate os.length 0:=by
   refine l8 λi=> ?_
   grind [wV]
  rw [this];simp
 refine ⟨?_,rfl,?_⟩
 ·exact
  {RP:=by omega
   QZ:=rfl
   cl:=p5 _
   cr:=by grind
   rg:=hr1
   Sm:=hr
   RZ:=λq hq=>⟨(hr2 q hq).1,λx hx=>by grind⟩
   Tc:=λt k s hk hs=>by
    rw [p9,hs] at hk;obtain rfl:=i8 hk;exact ⟨rfl,x5 0,Int.natCast_nonneg _,(λe=>by cases e),rfl,(λa ha=>by cases ha),by simp [E1,O9],rfl,by simp [E1],(λp hp=>by cases hp),λ_=>rfl⟩
   crew:=λw hw=>by
    rw [List.eq_of_mem_replicate (show w∈List.replicate _ _ from hw)];exact ⟨hJ,⟨x5 0,by show (0:Int)<_;omega⟩,(λr e=>by cases e),λe=>by cases e⟩
   own:=⟨ho1,λi o ho=>by
    grind⟩
   Tf:=λo ho r hr=>by
    obtain ⟨i,hi⟩:=w7 (show o∈os from ho)
    grind
   Sr:=λt k hk=>by
    show k.QT=((gT os t+(0+0+(if false=true/\false=false/\(0:Int)=t then 1 else 0)):Nat):Int)
    grind [E1]
   SB:=λt=>.inl (by
    show 0+0+(if false=true/\false=false/\(0:Int)=t then 1 else 0)=0
    grind)
   call:=λx hx=>by cases hx
   QQ:=⟨0,rfl,hb.cl.1⟩
   SC:=QG
   Sy:=λo ho e=>by
    obtain ⟨i,hi⟩:=w7 (show o∈os from ho)
    grind
   SF:=λw hw e=>by
    rw [List.eq_of_mem_replicate (show w∈List.replicate _ _ from hw)] at e;cases e
   SA:=Nat.zero_le _
   Ta:=Nat.zero_le _
   hel:=Nat.zero_le _}
 ·show mg (ss.map E1)=0;unfold mg;rw [List.map_map]
  have:ss.map ((λk:ze=>k.QR.length)∘E1)=List.replicate ss.length 0:=by
   refine l8 λi=> ?_
   rw [p9,List.getElem?_replicate];cases hg:ss[i]? with
   |none=>rw [d8 (λz=>by grind)];rfl
   |some s=>rw [d6 (zes.1 hg).1];rfl
  rw [this];simp
theorem JD(hm:c.Maps.length*16<=140737488355328):aD c=some c:=by
 unfold aD;rw [xb (by simpa using hm)];rfl
theorem Fc{x:List zI}{i:Nat}(hi:ss[i]? =some x)(hx:x.length<=1099511627776)(hf:∀c∈x,Fit c){fu:Nat}(hfu:x.length<fu):loop (vM ss i) fu ([],0)=some x:=by
 obtain ⟨r,h1,rfl⟩:=hY (body:=vM ss i) (λm s=>∃k:Nat,s.2=(k:Int)/\s.1=x.take k/\k+m=x.length) (λr=>r=x) (λm s again hI ha=>by
  obtain ⟨l,q⟩:=s;obtain ⟨k,e1,e2,e3⟩:=hI;have e1:q=(k:Int):=e1;have e2:l=x.take k:=e2;subst e1 e2;unfold vM;rw [zT hi];simp only [zbs];by_cases hk:k<x.length
  ·rw [d6 (by simpa using hk)];have hg:=zeg hk;have hc:=hf _ (yg hk);rw [zT hg];simp only [zbs];rw [xb (by simpa using hc.items)];simp only [zbs];rw [xb (by simpa using hc.SU)];simp only [zbs];rw [xb (by grind)];simp only [zbs];rw [qr (by omega) (by omega)];exact ha (m-1) _ (by omega) ⟨k+1,by grind,by rw [mf hg];rfl,by omega⟩
  ·rw [d8 (by simpa using hk)];exact ⟨_,rfl,p8 (by omega)⟩) fu x.length ([],0) hfu ⟨0,rfl,rfl,by omega⟩
 exact h1
theorem Fe(hn:ss.length<=1099511627776)(hx:∀x∈ss,x.length<=1099511627776)(hf:∀s∈ss,∀c∈s,Fit c){fu:Nat}(hfu:∀x∈ss,x.length<fu):vN fu ss=some ss:=by
 unfold vN
 have:jI (bV fu ss) (λ(s4350:(List (List zI)))=>s4350) ss.length 0 ([]:List (List zI))=some ss:=by
  refine OK.is (f9 (λi s=>s=ss.take i) rfl (λi s again hi hI ha=> ?_) (λs hs=>by grind));subst hI;unfold bV;have hg:=zeg hi
  grind [Fc,xb,mf]
 rw [this];rfl
theorem K5(hI:HI c ss n h):cC h=some h.Ri:=by
 have:=hI.logb
 grind [cC,qv,xb]
theorem D9(hS:cU c ss)(hI:HI c ss n h):xC h=some (kin h.QX 2 h.QX.QN.length):=by
 obtain ⟨s1,s2,s3,s4,s5,s6⟩:=hI.sizes hS
 grind [xC,wl]
theorem AK(l:List zA)(h:∀a∈l,a.Rs.length<=16/\a.Pairs.length<=64):(l.foldlM (λ(_:Unit)a=>(zK a.Rs).bind λ_=>(zy a.Pairs).bind λ_=>some ()) ())=some ():=by
 induction l with
 |nil=>rfl
 |cons a l ih=>
  have ha:=h a zcs;rw [List.foldlM_cons];unfold zK zy;rw [xb (m:=([]:List zk).length+a.Rs.length) (by simp;omega),xb (m:=([]:List zq).length+a.Pairs.length) (by simp;omega)];exact ih λx hx=>h x (zcm _ hx)
theorem Fg(hS:cU c ss)(hI:HI c ss n h){t:Nat}{k:ze}(ht:h.or[t]? =some k):jU h (t:Int)=some k.QR:=by
 have hl:=(zes.1 ht).1;obtain ⟨s,hs,hk⟩:=hI.at ht;have h1:=hk.Tl;have h2:=hk.Tq;have h3:=hS.sl s (zmg hs);unfold jU;rw [d8 (by simp;omega),zT ht];simp only [zbs];rw [xb (by omega)];simp only [zbs];show ((k.QR.foldlM (λ(_:Unit)a=>(zK a.Rs).bind λ_=>(zy a.Pairs).bind λ_=>some ()) ()).bind λ_=>some k.QR)=_;rw [AK _ hk.done];rfl
structure P3 (h:za) (r:Int×Bool×za):Prop where
 Ri:∃es:List zd,r.2.2.Ri=h.Ri++es/\(∀e∈es,e.Te=r.1)/\(r.2.1=false->es=[])
 TD:r.2.2.QX.QN.length=h.QX.QN.length
 QV:∀(i:Nat)(x:qq),h.QX.QN[i]? =some x->x.QU=2->∃y,r.2.2.QX.QN[i]? =some y/\y.QU=2
 over:r.2.1=true->∃(t:Nat)(x:qq),r.1=t/\h.QX.QN[t]? =some x/\x.QU≠2
 sum:mg r.2.2.or=mg h.or\/mg r.2.2.or=mg h.or+1
theorem pW{r:Int×Bool×za}(hr:Stp h r):P3 h r:=by
 cases hr with
 |none k hno hst e=>
  subst e;refine ⟨⟨[],by show h.Ri=_;rw [i6],(λe he=>by cases he),λ_=>rfl⟩,hst.1,λi x hx hm=> ?_,(λe=>by cases e),.inl rfl⟩;obtain ⟨y,hy,e⟩:=hst.2 i x hx;exact ⟨y,hy,e.1 hm⟩
 |one k t x h' hrd hst hx hm hv e=>
  subst e;obtain ⟨⟨es,e1,e2⟩,e3,e4,e5⟩:=On hv;refine ⟨⟨es,e1,e2,λz=>by cases z⟩,e4.trans hst.1,λi y hy hm2=> ?_,λ_=>⟨t,x,rfl,hx,hm⟩,e5⟩;obtain ⟨y2,hy2,e6⟩:=hst.2 i y hy;obtain ⟨y3,hy3,e7⟩:=e3 i y2 hy2
  grind
theorem JE{a b:zo}(h:∀(i:Nat)(x:qq),a.QN[i]? =some x->x.QU=2->∃y,b.QN[i]? =some y/\y.QU=2)(m:Nat):(kin a 2 m).length<=(kin b 2 m).length:=by
 unfold kin;rw [p5,p5,<- List.countP_eq_length_filter,<- List.countP_eq_length_filter];refine List.countP_mono_left λi hi e=> ?_
 grind
theorem Hm(l:List zd):aY l l=some true:=by
 unfold aY;rw [d8 (by simp)]
 obtain ⟨o,h1,h2⟩:OK (jI (dD l l) (λ(s170:Unit)=>(.inl ())) l.length 0 ()) (λo=>o=Sum.inl ()):=by
  refine f9 (λi _=>True) trivial (λi s again hi hI ha=> ?_) (λs hs=>rfl);unfold dD;refine f8 (i5 hi λx hx=> ?_);rw [zT hx]
  grind
 rw [h1,h2];rfl
end
open Go.Sx
variable {c:zR} {ss:List (List zI)} {n:Nat} {h:za}
theorem JF(hS:cU c ss){n':Nat}(hI:HI c ss n h){r:Int×Bool×za}(hI':HI c ss n' r.2.2)(hs:P3 h r):
  OK (jI (aE (kin h.QX 2 h.QX.QN.length) r) (λ(s4201:Unit)=>(.inl ())) (kin h.QX 2 h.QX.QN.length).length 0 ()) (λo=>o=Sum.inl ()):=by
 have hlen:(kin h.QX 2 h.QX.QN.length).length<=(kin r.2.2.QX 2 r.2.2.QX.QN.length).length:=by
  rw [hs.TD];exact JE hs.QV _
 refine f9 (λi _=>True) trivial (λi s again hi _ ha=> ?_) (λs _=>rfl);unfold aE;have hg:=zeg hi;rw [zT hg];simp only [zbs];have hno:decide ((i:Int)>=((kin r.2.2.QX 2 r.2.2.QX.QN.length).length:Int))=false:=decide_eq_false (by omega);refine d5 (R:=λb=>b=false) ?_ (λb hb=>j4 hb (ha _ trivial));rw [D9 hS hI'];simp only [zbs];refine b9 (λe=> ?_) (λe=>b8 hno);have e:(kin h.QX 2 h.QX.QN.length)[i]=r.1:=by simpa using e
 refine b9 (λeo=> ?_) (λeo=>b8 hno);obtain ⟨t,x,ht,hx,hm⟩:=hs.over eo;obtain ⟨j,y,hj,_,hy,hm2⟩:=G3 (yg hi)
 grind
theorem AL{cs:List ze}{i:Nat}{k:ze}(h:cs[i]? =some k):mg (cs.take (i+1))=mg (cs.take i)+k.QR.length:=by
 unfold mg;rw [mf h,t7,List.sum_append];simp
theorem Hn(hS:cU c ss)(hI:HI c ss n h)(i:Nat):mg (h.or.take i)<=64*i:=by
 induction i with
 |zero=>simp [mg]
 |succ i ih=>
  cases hk:h.or[i]? with
  |none=>
   have:h.or.length<=i:=by
    grind
   rw [p8 (by omega)] at ih |-;omega
  |some k=>
   obtain ⟨s,hs,hc⟩:=hI.at hk;have h1:=hc.Tl;have h2:=hc.Tq;have h3:=hS.sl s (zmg hs)
   grind [AL]
theorem JH(hS:cU c ss){r:Int×Bool×za}(hI:HI c ss n r.2.2):jI (aF r) (λ(s4367:Int)=>s4367) ss.length 0 0=some (mg r.2.2.or:Int):=by
 refine OK.is (f9 (λi s=>s=(mg (r.2.2.or.take i):Int)) (by simp [mg]) (λi s again hi hI2 ha=> ?_) (λs hs=> ?_))
 ·subst hI2;unfold aF;have hg:=zeg (show i<r.2.2.or.length by rw [hI.cl];exact hi)
  rw [Fg hS hI hg];simp only [zbs];refine ha _ ?_;have h1:=Hn hS hI (i+1);have h2:=AL hg;have h3:=hS.cl
  grind [qr]
 ·rw [hs,p8 (by rw [hI.cl];omega)]
theorem JJ{r:Int×Bool×za}{was es:List zd}(he:∀e∈es,e.Te=r.1)(hl:(was++es).length<=1099511627776){fu:Nat}(hfu:es.length<fu):
  loop (xJ r (was++es)) fu (was.length:Int)=some (.inl ()):=by
 obtain ⟨o,h1,rfl⟩:=hY (body:=xJ r (was++es)) (λm s=>∃k:Nat,s=((was.length+k:Nat):Int)/\k+m=es.length) (λo=>o=Sum.inl ()) (λm s again hI ha=>by
  obtain ⟨k,rfl,e2⟩:=hI;unfold xJ;rw [k7] at hl |-;by_cases hk:k<es.length
  ·rw [d6 (by simp;omega)]
   have hg:(was++es)[was.length+k]? =some es[k]:=by
    grind
   rw [zT hg];simp only [zbs];rw [d8 (by grind),qr (by omega) (by omega)];exact ha (m-1) _ (by omega) ⟨k+1,by omega,by omega⟩
  grind) fu es.length (was.length:Int) hfu ⟨0,rfl,by omega⟩
 exact h1
theorem Fh{p0:jk}(hss:p0.RK=ss)(hS:cU c ss):
  ∀(m:Nat)(s:za×(List zd)×Int×Int)(again:(za×(List zd)×Int×Int)->Option (Unit⊕Bool)),
  (∃n i:Nat,HI c ss n s.1/\n<=i/\s.2.1=s.1.Ri/\s.2.2.1=(mg s.1.or:Int)/\s.2.2.2=(i:Int)/\i+m=400)->
  (∀m' s',m'<m->(∃n i:Nat,HI c ss n s'.1/\n<=i/\s'.2.1=s'.1.Ri/\s'.2.2.1=(mg s'.1.or:Int)/\s'.2.2.2=(i:Int)/\i+m'=400)->∃r,again s'=some r/\r=Sum.inl ())->
  ∃r,xK 2199023255552 p0 again s=some r/\r=Sum.inl ():=by
 intro m s again hI ha;obtain ⟨h,was,done,ci⟩:=s;obtain ⟨n,i,hI,hni,e1,e2,e3,e4⟩:=hI;simp only at hI e1 e2 e3;subst e1 e2 e3;unfold xK;show OK _ _;refine b9 (λhc=> ?_) (λ_=>b8 rfl);simp only [zae,zdq] at hc;obtain ⟨hc1,hc2⟩:=hc;have hc2:i<400:=by omega
 rw [D9 hS hI];simp only [zbs];refine f8 (i5 (by omega) λx hx=> ?_);obtain ⟨r,hr1,hr2⟩:=CP hS hI x;rw [hr1];simp only [zbs];have hs:=pW hr2;have hI1:=Mz hS hI (by omega) hr2;obtain ⟨n',hn',hI2⟩:∃n',n'<=i+1/\HI c ss n' r.2.2:=⟨_,by split<;>omega,hI1⟩
 obtain ⟨es,l1,l2,l3⟩:=hs.Ri;have hlb:=hI2.logb;have hlb0:=hI.SA;have hlb1:=hI2.SA;rw [K5 hI2];simp only [zbs]
 have hcut:cut r.2.2.Ri 0 (h.Ri.length:Int)=some h.Ri:=by
  rw [l1];unfold cut;rw [d6 (by grind)];simp
 refine d5 (R:=λb=>b=false) ?_ (λb hb=> ?_)
 ·refine j4 (decide_eq_false (by grind)) ?_;rw [hcut];simp only [zbs];rw [Hm];simp only [zbs];refine j4 rfl (b9 (λe=>b8 ?_) (λe=>b8 rfl))
  grind
 refine j4 hb ?_;rw [l1];rw [JJ l2 (by rw [<- l1];omega) (by grind)];simp only [zbs];obtain ⟨o,h3,rfl⟩:=JF hS hI hI2 hs;rw [h3];simp only [zbs];rw [hss,JH hS hI2];simp only [zbs];have hsl:=Hn hS hI h.or.length;rw [List.take_length,hI.cl] at hsl;have hcl:=hS.cl;have hsum:=hs.sum;refine j4 ?_ ?_
 ·grind [qr]
 ·obtain ⟨q,hq1,hq2⟩:=ha (m-1) (r.2.2,h.Ri++es,(mg r.2.2.or:Int),w64 ((i:Int)+1)) (by omega) ⟨n',i+1,hI2,hn',l1.symm,rfl,by grind [w64,qr],by omega⟩;exact ⟨q,hq1,hq2⟩
theorem hostGrows_law(p0:jk)(h1:p0.C.Maps.length*16<=140737488355328)(h2:p0.RK.length<=1099511627776)(h3:∀x∈p0.RK,x.length<=1099511627776)(hf:∀s∈p0.RK,∀c∈s,Fit c):jV 2199023255552 p0=some true:=by
 refine OK.is ?_;unfold jV;rw [JT];simp only [zbs];refine j4 rfl ?_;rw [JD h1];simp only [zbs];rw [Fe h2 h3 hf (λx hx=>by grind)];simp only [zbs];rcases CC (fu:=2199023255552) (by omega) p0.C p0.RK hf with ⟨e,hn,he⟩|⟨h,hn,hb⟩
 ·grind [ae,b8]
 ·rw [hn];simp only [zbs,ae];refine j4 rfl ?_;have hS:=hb.shape hf;obtain ⟨hI,hl0,hs0⟩:=JB hb;rw [K5 hI];simp only [zbs];obtain ⟨o,ho1,rfl⟩:=hY (body:=xK 2199023255552 p0) _ (λr=>r=Sum.inl ()) (Fh (c:=p0.C) (ss:=p0.RK) (p0:=p0) rfl hS) 2199023255552 400 (h,h.Ri,0,0) (by omega) ⟨0,0,hI,r7 0,rfl,by grind,rfl,rfl⟩
  grind [b8]
end Go.Proofs.YtplmgfkghomelaaGreatDoor.KH
namespace Go.Proofs.YtplmgfkghomelaaGreatDoor
open Go.Sx
theorem KH.lit_u64{n:Int}(h:(Lit.int .u64 n).wf=true):u64 n:=by
 simp only [Lit.wf,zae,zdq] at h;exact ⟨h.1,Int.lt_of_le_of_lt h.2 (by decide)⟩
theorem KH.fitU{x:zI}(h:oJ x):KH.Fit x:=by
 have h2:reachBytes<=140737488355328:=by decide
 obtain ⟨_,gi,⟨⟨gl,gm⟩,_⟩,_,_,_,ge,⟨gb,_⟩,_⟩:=h;exact ⟨by omega,by omega,⟨KH.lit_u64 ge.1,KH.lit_u64 ge.2⟩,KH.lit_u64 gi.2.2.2,λi hi=>KH.lit_u64 (gm i hi).2.2.2⟩
theorem nM(p0:jk)(g0:fH p0):∃fu,jV fu p0=some true:=by
 have h2:reachBytes<=140737488355328:=by decide
 obtain ⟨gc,⟨⟨gs,gx⟩,gn⟩,_⟩:=g0;have gm:=gc.2.2.2.2.1.1;exact ⟨2199023255552,KH.hostGrows_law p0 (by omega) (by omega) (λx hx=>by have:=(gx x hx).2;omega) (λs hs c hc=>KH.fitU ((gx s hs).1.2 c hc))⟩
end Go.Proofs.YtplmgfkghomelaaGreatDoor
