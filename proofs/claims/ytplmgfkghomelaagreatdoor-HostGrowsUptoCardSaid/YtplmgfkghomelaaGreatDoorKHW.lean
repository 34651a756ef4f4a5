/- Lemmas. -/
import Derived.Test.YtplmgfkghomelaaGreatDoorKRefs
set_option linter.unusedVariables false
set_option linter.unusedSimpArgs false
namespace Go.Proofs.YtplmgfkghomelaaGreatDoor
open Go.Sx
def Pg(K:Nat)(w:zn)(st:Int):Prop:=∃m j M p i,w.Ru.SR=some M/\Au m j/\(∀x∈m.Maps,x<(K:Int))/\Run m j (pk M w.RG) p/\M.state=st/\m.Code[p]? =some i/\(st=1->i.Op=21/\i.RA<=4)
structure WJ (H K:Nat) (w:zn):Prop where
 told:Pm w.Su
 hook:0<=w.Ru.hook/\w.Ru.hook<H
 ev:u64 w.Ru.RB.Ra.A/\u64 w.Ru.RB.Ra.B
 is:w.QU=0\/w.QU=1\/(w.QU=2/\Pg K w 0)\/(w.QU=3/\Pg K w 1)
theorem uz5:U5 ⟨0,0,0,0,0⟩:=⟨⟨by decide,by decide⟩,⟨by decide,by decide⟩,⟨by decide,by decide⟩,⟨by decide,by decide⟩,by decide,by decide⟩
theorem JU:u64 0/\u64 0:=⟨⟨by decide,by decide⟩,by decide,by decide⟩
theorem WJ.new{H K:Nat}(hH:1<=H):∃w,eI=some w/\WJ H K w/\w.QU=0/\w.Ru.hook=0:=by
 refine ⟨_,rfl,⟨λi=>uz5,⟨x5 0,by grind⟩,JU,.inl rfl⟩,rfl,rfl⟩
theorem Ov{H K:Nat}{w:zn}(h:WJ H K w)(hH:H<=4)(h0:w.QU=0){k:Int}(hk0:0<=k)(hk:k<H){q:zZ}(hq:u64 q.Ra.A/\u64 q.Ra.B):
  vF w k q=some (0,{w with QU:=1,Ru:=⟨k,q,0,0,0,none⟩})/\WJ H K {w with QU:=1,Ru:=⟨k,q,0,0,0,none⟩}:=by
 refine ⟨?_,⟨h.told,⟨hk0,hk⟩,hq,.inr (.inl rfl)⟩⟩
 grind [vF]
theorem Ow{H K:Nat}{w:zn}(h:WJ H K w)(hH1:1<=H)(hH:H<=4)(h1:w.QU=1):
  ∃st,xF w=some (0,⟨w.RG,st,0,⟨0,⟨0,⟨0,0⟩⟩,0,0,0,none⟩⟩)/\WJ H K ⟨w.RG,st,0,⟨0,⟨0,⟨0,0⟩⟩,0,0,0,none⟩⟩:=by
 refine ⟨⟨aset w.Su.QS w.Ru.hook.toNat (Ey (w.Su.QS w.Ru.hook.toNat))⟩,?_,⟨h.told.aset _ (H8 (h.told _)),⟨x5 0,by grind⟩,JU,.inl rfl⟩⟩;unfold xF;have:=h.hook;rw [d8 (by simp [h1]),H7 this.1 (by omega)];rfl
theorem Lb{H K:Nat}{w:zn}(h:WJ H K w)(h1:w.QU=1){m:zH}(hm1:m.Maps.length*8<=140737488355328)(hm2:m.Code.length*40<=140737488355328)(hK:∀x∈m.Maps,x<(K:Int))(v p:Int):
  ∃e w',jR 2199023255552 w v p m=some (e,w')/\WJ H K w'/\((e≠0/\w'=w/\∃o q,xj 2199023255552 m=some (o,q,e))\/
   (e=0/\w'=⟨⟨⟨λ_=>0⟩,w.RG.Rl⟩,w.Su,2,⟨w.Ru.hook,w.Ru.RB,v,p,w.Ru.calls,some (Pk m w.Ru.RB.Ra)⟩⟩/\True)):=by
 obtain ⟨o,q,e,hj,hc⟩:=Av m;rcases hc with ⟨he,ho⟩|⟨he,hq,j,ho,hS⟩
 ·refine ⟨e,w,?_,h,.inl ⟨he,rfl,o,q,hj⟩⟩;unfold jR;rw [d8 (by simp [h1]),Kf hj he];simp only [zbs];show (if (e !=0)=true then _ else _)=_;rw [d6 (by simpa using he)]
 ·subst he hq;have hR:Run m j (pk (Pk m w.Ru.RB.Ra) ⟨⟨λ_=>0⟩,w.RG.Rl⟩) 0:=Qc hS h.ev w.RG.Rl;obtain ⟨i,hi,_⟩:=aG hR.lt;refine ⟨0,_,?_,?_,.inr ⟨rfl,rfl,?_⟩⟩
  ·unfold jR;rw [d8 (by simp [h1]),H6 hm1 hm2 hj];rfl
  ·exact ⟨h.told,h.hook,h.ev,.inr (.inr (.inl ⟨rfl,m,j,Pk m w.Ru.RB.Ra,0,i,rfl,hS,hK,hR,rfl,hi,λe=>by cases e⟩))⟩
  ·trivial
theorem Fl{M:zp}{k:Int}{S:zl}(hu:sX M.regs):Pst (jS 2199023255552 M k S) (λr=>u64 r.1.Item.RH/\u64 r.1.Item.Rz):=by
 unfold jS;refine i7 λ_=>j8 (i7 λ_=>i7 λ_=>m8 (R:=λo=>u64 o) (j8 (g8 (hu 3 (by decide))) (g8 ⟨by decide,by decide⟩)) λo ho=>g8 ⟨hu 2 (by decide),ho⟩) ?_
 exact m8 (R:=λo:zp×zl×qU=>u64 o.2.2.Item.RH/\u64 o.2.2.Item.Rz) (j8 (i7 λ_=>g8 JU) (g8 JU)) (λo ho=>g8 ho)
theorem Fm{M:zp}{S:zl}(hu:sX M.regs):Pst (qI 2199023255552 M S) (λr=>u64 r.1.Item.RH/\u64 r.1.Item.Rz):=by
 unfold qI;refine j8 (g8 JU) (j8 (i7 λ_=>i7 λ_=>g8 JU) (i7 λ_=>j8 ?_ (j8 (i7 λ_=>g8 JU) (i7 λ_=>g8 JU))))
 grind [m8,u64,Fl,w64,g8]
inductive Ht (H K:Nat) (w:zn) (a:qU) (w':zn):Prop
 |ends:a.QJ=4->w'.QU=0->w'.Ru=⟨0,⟨0,⟨0,0⟩⟩,0,0,0,none⟩->Ht H K w a w'
 |asks:a.QJ=2->w'.QU=3->w'.Ru.hook=w.Ru.hook->w'.Ru.RB=w.Ru.RB->w'.Ru.prog=w.Ru.prog->w'.Ru.Rt=w.Ru.Rt->(0<=a.Item.Rv/\a.Item.Rv<K/\0<=a.Item.Op/\a.Item.Op<5/\u64 a.Item.RH/\u64 a.Item.Rz)->True->Ht H K w a w'
 |goes:a.QJ=1\/a.QJ=3->w'.QU=2->w'.Ru.hook=w.Ru.hook->w'.Ru.RB=w.Ru.RB->w'.Ru.prog=w.Ru.prog->w'.Ru.Rt=w.Ru.Rt->True->Ht H K w a w'
theorem Ox{H K:Nat}{w:zn}(hH1:1<=H)(hH:H<=4)(h:WJ H K w)(h2:w.QU=2):∃a w',jd 2199023255552 w=some (a,true,w')/\WJ H K w'/\Ht H K w a w':=by
 obtain ⟨m,j,M,p,i,hM,hS,hK,hR,h0,hi,_⟩:Pg K w 0:=by
  rcases h.is with e|e|e|e
  ·omega
  ·omega
  ·exact e.2
  ·omega
 obtain ⟨⟨a,M1'⟩,h1,hst,hpc⟩:=Jo hS hR h0 hi;obtain ⟨M1,S1,g1,rfl⟩:=Ke h1;simp only at g1;have hit:u64 a.Item.RH/\u64 a.Item.Rz:=Fm hR.u _ g1;have hk4:w.Ru.hook<4:=by have:=h.hook.2;omega
 unfold jd;rw [d8 (by simp [h2]),hM];simp only [zbs,g1];cases hst with
 |ends e1 e2 e3 e4=>
  simp only at e2;rw [d8 (by simp [e2]),d6 (by simp [e2])];unfold am;simp only [zbs];rw [OP h.hook.1 hk4 (h.told _)];simp only [zbs];exact ⟨a,_,rfl,⟨h.told.aset _ (Kg _ _),⟨x5 0,by grind⟩,JU,.inl rfl⟩,.ends e2 rfl rfl⟩
 |asks e1 e2 e3 e4 e5 e6 e7=>
  simp only at e3 e4 e5 e6 e7;rw [d6 (by simp [e3])];refine ⟨a,_,rfl,{h with is:=.inr (.inr (.inr ⟨rfl,m,j,M1,p,i,rfl,hS,hK,e5,e4,hi,λ_=>⟨e1,e2⟩⟩))},.asks e3 rfl rfl rfl rfl rfl ⟨?_,hK _ e7.1,e7.2.1,e7.2.2,hit.1,hit.2⟩ ?_⟩
  ·exact (hS.goodM.1 _ e7.1).1
  ·trivial
 |goes e1 e2 e3=>
  simp only at e1 e2 e3;obtain ⟨q,hR2,hp2,_⟩:=e3;obtain ⟨i2,hi2,_⟩:=aG hR2.lt;rw [d8 (by simp;omega),d8 (by simp;omega)];refine ⟨a,_,rfl,⟨h.told,h.hook,h.ev,.inr (.inr (.inl ⟨h2,m,j,M1,q,i2,rfl,hS,hK,hR2,e2,hi2,λe=>by cases e⟩))⟩,.goes e1 h2 rfl rfl rfl rfl ?_⟩;trivial
theorem uq{H K:Nat}{w:zn}(h:WJ H K w)(h3:w.QU=3){c:zk}(hc:u64 c.Rz):∃w',xi w c=some (0,w')/\WJ H K w'/\w'.QU=2/\w'.Ru.hook=w.Ru.hook/\w'.Ru.RB=w.Ru.RB/\w'.Ru.prog=w.Ru.prog/\w'.Ru.Rt=w.Ru.Rt/\True:=by
 obtain ⟨m,j,M,p,i,hM,hS,hK,hR,h0,hi,ho⟩:Pg K w 1:=by
  rcases h.is with e|e|e|e
  ·omega
  ·omega
  ·omega
  ·exact e.2
 obtain ⟨ho,h4⟩:=ho rfl;obtain ⟨⟨e,M1'⟩,h1,he,s0,q,hR2,hp2,_⟩:=GW hS hR h0 hi ho h4 hc;obtain ⟨M1,g1,rfl⟩:=FF h1;simp only at g1 he s0 hR2 hp2;have s0:M1.state=0:=s0;subst he;obtain ⟨i2,hi2,_⟩:=aG hR2.lt;unfold xi;rw [d8 (by simp [h3]),hM];simp only [zbs,g1];refine ⟨_,rfl,⟨h.told,h.hook,h.ev,.inr (.inr (.inl ⟨rfl,m,j,M1,q,i2,rfl,hS,hK,hR2,s0,hi2,λe=>by cases e⟩))⟩,rfl,rfl,rfl,rfl,rfl,?_⟩;trivial
end Go.Proofs.YtplmgfkghomelaaGreatDoor
namespace Go.Proofs.YtplmgfkghomelaaGreatDoor.KH
section
section
section
open Go.Sx
theorem mf{α:Type}{l:List α}{i:Nat}{x:α}(h:l[i]? =some x):l.take (i+1)=l.take i++[x]:=by
 rw [ye,h];rfl
def tM(w:zn):zJ:=⟨w,0,0,none,false⟩
def O9:zA:=⟨0,0,[],[]⟩
def E1(s:List zI):ze:=⟨s,0,false,0,O9,[],[]⟩
theorem G4{c:zR}{fu:Nat}{w0:zn}(hw:eI=some w0)(h0:0<=c.QM)(h4:c.QM<=4)(hfu:10<fu):
  loop (ko c) fu ([],0)=some (List.replicate c.QM.toNat (tM w0)):=by
 obtain ⟨r,h1,rfl⟩:=hY (body:=ko c) (λm s=>∃n:Nat,s.2=(n:Int)/\s.1=List.replicate n (tM w0)/\(n:Int)+m=c.QM) (λr=>r=List.replicate c.QM.toNat (tM w0)) (λm s again hI ha=>by
  obtain ⟨l,i⟩:=s;obtain ⟨n,e1,e2,e3⟩:=hI;have e1:i=(n:Int):=e1;have e2:l=List.replicate n (tM w0):=e2;subst e1 e2;unfold ko;show ∃r,(if decide ((n:Int)<c.QM)=true then _ else _)=some r/\_;by_cases hc:(n:Int)<c.QM
  ·rw [d6 (by simpa using hc),hw,zbs];obtain ⟨u,hu⟩:=cD (m:=(List.replicate n (tM w0)).length+[tM w0].length) (b:=8) (by grind);rw [show room ((List.replicate n (tM w0),(n:Int)).1.length+[zJ.mk w0 0 0 none false].length) 8=some u from hu,zbs,qr (by omega) (by omega)];refine ha (m-1) _ (by omega) ⟨n+1,by grind,?_,by omega⟩;show List.replicate n (tM w0)++[tM w0]=_;rw [List.replicate_succ']
  grind) fu c.QM.toNat ([],0) (by omega) ⟨0,rfl,rfl,by omega⟩
 exact h1
structure Fit (c:zI):Prop where
 items:c.Rk.length*32<=140737488355328
 SU:c.Rf.length<=140737488355328
 ev:u64 c.Ra.A/\u64 c.Ra.B
 it:u64 c.Item.Rz
 its:∀i∈c.Rk,u64 i.Rz
theorem CA(l:List zI)(h:∀c∈l,Fit c):(l.foldlM (λ(_:Unit)c=>(zG c.Rk).bind λ_=>(qM c.Rf).bind λ_=>some ()) ())=some ():=by
 induction l with
 |nil=>rfl
 |cons c l ih=>
  have hc:=h c zcs;obtain ⟨u,hu⟩:=cD (m:=([]:List zh).length+c.Rk.length) (b:=32) (by have:=hc.items;simpa using this);obtain ⟨v,hv⟩:=cD (m:=([]:List Int).length+c.Rf.length) (b:=1) (by have:=hc.SU;simpa using this);rw [List.foldlM_cons];unfold zG qM;rw [hu,hv];exact ih λx hx=>h x (zcm _ hx)
theorem G5{l:List zI}(hl:l.length<=64)(h:∀c∈l,Fit c):bJ l=some l:=by
 unfold bJ;obtain ⟨u,hu⟩:=cD (m:=0+l.length) (b:=128) (by omega)
 grind [zG,qM,CA]
theorem CB{ss:List (List zI)}(hn:ss.length<=4)(hf:∀s∈ss,∀c∈s,Fit c):
  ∃o,jI (mM ss) (λ(s:List ze)=>(.inl s)) ss.length 0 ([]:List ze)=some o/\match o with
   |.inl l=>l=ss.map E1/\∀s∈ss,s.length<=64
   |.inr z=>z.1=none/\z.2≠0:=by
 refine nQ (N:=ss.length) (λi l=>l=(ss.take i).map E1/\∀s∈ss.take i,s.length<=64) _ (λi s again hi hI ha=> ?_) (λs hs=> ?_) ss.length 0 [] (by omega) ⟨rfl,λs hs=>by simp at hs⟩
 ·obtain ⟨rfl,hI⟩:=hI;unfold mM;rw [pI hi,zbs];have hx:ss[i]? =some ss[i]:=zeg hi;by_cases hc:((ss[i].length:Nat):Int)>64
  ·rw [d6 (by simpa using hc)]
   grind
  ·rw [d8 (by simpa using hc),G5 (by omega) (hf _ (yg hi)),zbs];obtain ⟨u,hu⟩:=cD (m:=((ss.take i).map E1).length+[E1 ss[i]].length) (b:=8) (by grind);rw [show room (((ss.take i).map E1).length+[ze.mk ss[i] 0 false 0 (zA.mk 0 0 ([]:List zk) ([]:List zq)) ([]:List (List zq)) ([]:List zA)].length) 8=some u from hu,zbs];refine ha _ ⟨?_,λs hs=> ?_⟩
   ·show (ss.take i).map E1++[E1 ss[i]]=_;rw [mf hx,t7];rfl
   ·rw [mf hx] at hs
    grind
 grind
structure Oh (c:zR) (ss:List (List zI)) (h:za):Prop where
 hk:1<=c.QY/\c.QY<=4
 wk:1<=c.QM/\c.QM<=4
 sh:1<=c.QP/\c.QP<=4
 mp:c.Maps.length<=4
 cl:1<=ss.length/\ss.length<=4
 sl:∀s∈ss,s.length<=64
 is:∃r os rs w0,eI=some w0/\fV c.QY.toNat c.Maps.length c.QM.toNat 0 r/\r.given=0/\r.Rg.Rq.last=0/\r.Re=[]/\r.waiting=[]/\r.Rb.in_=List.replicate c.QM.toNat 0/\
  ((os.length:Int)=c.QP/\∀(i:Nat)(x:zc),os[i]? =some x->iw x/\x.QO=[]/\x.QV=false/\x.RL=c.QP/\x.Si=i/\x.maps.length=c.Maps.length/\Fj x)/\
  ((rs.length:Int)=c.QY/\∀r∈rs,iU r/\r.waiting=[]/\r.SO=false)/\
  h=⟨r,⟨List.replicate (ss.length+c.QM.toNat+c.QP.toNat+1) ⟨0,0⟩,0⟩,c,ss.map E1,List.replicate c.QM.toNat (tM w0),os,rs,[],[],0,false,false,[],⟨0⟩⟩
theorem CC{fu:Nat}(hfu:10<fu)(c:zR)(ss:List (List zI))(hf:∀s∈ss,∀c∈s,Fit c):
  (∃e,dV fu c ss=some (none,e)/\e≠0)\/∃h,dV fu c ss=some (some h,0)/\Oh c ss h:=by
 by_cases hb:¬ (1<=c.QY/\c.QY<=4/\0<=(c.Maps.length:Int)/\(c.Maps.length:Int)<=4/\1<=c.QM/\c.QM<=4)
 ·refine .inl ⟨2,?_,by decide⟩;unfold dV;rw [ML hb];rfl
 obtain ⟨b1,b2,b3,b4,b5,b6⟩:=Classical.not_not.1 hb;obtain ⟨r,hr,r0,r1,r2,r3,r4,r5⟩:=OD (H:=c.QY.toNat) (M:=c.Maps.length) (W:=c.QM.toNat) (by omega) (by omega) (by omega) (by omega) (by omega);rw [show ((c.QY.toNat:Nat):Int)=c.QY by omega,show ((c.QM.toNat:Nat):Int)=c.QM by omega] at hr;by_cases hc:c.QP<1\/c.QP>4\/(ss.length:Int)<1\/(ss.length:Int)>4
 ·refine .inl ⟨2,?_,by decide⟩
  grind [dV,ae]
 have hcl:(1<=c.QP/\c.QP<=4)/\1<=ss.length/\ss.length<=4:=by omega
 have key:(∃e,dV fu c ss=some (none,e)/\e≠0)\/∃h,dV fu c ss=some (some h,0)/\Oh c ss h:=by
  unfold dV;rw [hr,zbs];simp only [ae];rw [d8 (by grind)];obtain ⟨o1,ho1,h1⟩:=Hs (c:=c) (fu:=fu) (by omega) b2 hfu;rw [ho1,zbs];cases o1 with
  |inr z=>obtain ⟨z1,z2⟩:=z;obtain ⟨e1,e2⟩:=h1;exact .inl ⟨z2,by grind,e2⟩
  |inl rs=>
   simp only;obtain ⟨o2,ho2,h2⟩:=Fk (c:=c) (fu:=fu) (by omega) hcl.1.2 hfu;rw [ho2,zbs];cases o2 with
   |inr z=>obtain ⟨z1,z2⟩:=z;obtain ⟨e1,e2⟩:=h2;exact .inl ⟨z2,by grind,e2⟩
   |inl os=>
    simp only;obtain ⟨w0,hw0,_⟩:=WJ.new (H:=1) (K:=0) (r7 1);rw [G4 hw0 (by omega) b6 hfu,zbs];obtain ⟨o3,ho3,h3⟩:=CB hcl.2.2 hf;rw [ho3,zbs];cases o3 with
    |inr z=>obtain ⟨z1,z2⟩:=z;obtain ⟨e1,e2⟩:=h3;exact .inl ⟨z2,by grind,e2⟩
    |inl l=>
     obtain ⟨rfl,h3⟩:=h3;simp only
     have hk:lU (w64 ((w64 ((w64 (((ss).length:Int)+c.QM))+c.QP))+1))=some (some ⟨List.replicate (ss.length+c.QM.toNat+c.QP.toNat+1) ⟨0,0⟩,0⟩,0):=by
      grind [qr,lU,mkLen]
     rw [hk,zbs];exact .inr ⟨_,rfl,⟨b1,b2⟩,⟨b5,b6⟩,hcl.1,by omega,hcl.2,h3,r,os,rs,w0,hw0,r0,r1,r2,r3,r4,r5,h2,h1,rfl⟩
 exact key
open Go.Sx
theorem uY{k n:Int}(h1:1<=n)(h4:n<=4):∃i:Nat,ak k n=some (i:Int)/\(i:Int)<n:=by
 unfold ak;rw [d8 (by simp;omega)];have hz:nz (xX n)=some ():=by grind [nz,wq]
 rw [hz,zbs,wq (x:=n) (by omega) (by omega)];generalize hb:ic .u64 (xX (k*11400714819323198485)) 32=b
 have hb0:0<=b:=by
  have h2:=(jY (k*11400714819323198485)).1;rw [<- hb];show 0<=(xX (k*11400714819323198485)).fdiv (2^(min (Int.toNat 32) IntKind.u64.bits));rw [Int.fdiv_eq_ediv_of_nonneg _ (by grind)];exact Int.ediv_nonneg h2 (Int.le_of_lt (Int.pow_pos (by decide)))
 have e1:=Int.tmod_lt_of_pos b (show 0<n by omega);have e2:=Int.tmod_nonneg n hb0;rw [qr (by omega) (by omega)];exact ⟨(b.tmod n).toNat,by grind,by omega⟩
theorem G6{o:zc}(he:o.QV=false){r:zr}(hm0:0<=r.Item.Rv)(hm1:r.Item.Rv<o.maps.length)(hw:r.Sj=true\/(0<=r.Item.Op/\r.Item.Op<5/\ak r.Item.RH o.RL=some o.Si))
  (hb:(o.QO.length+1)*56<=140737488355328):jE o [r]=some (0,{o with QO:=o.QO++[r]}):=by
 have hf:xN o r=some true:=by
  grind [xN]
 have e1:Go.Sx.idx [r] ((0:Nat):Int)=some r:=rfl;unfold jE;rw [d8 (by simp [he])];simp only [t6,yu,jI,gz,e1,zbs,hf];obtain ⟨u,hu⟩:=cD (m:=o.QO.length+1) (b:=56) hb
 grind
open Go.Sx
variable {i:Nat} {o:zc} {x:Nat×zr} {l:List (Nat×zr)} {r:zr} {c:zR}
def Oi(o:zc)(r:zr):zc:={o with QO:=o.QO++[r]}
def tN(os:List zc)(x:Nat×zr):List zc:=match os[x.1]? with
 |some o=>os.set x.1 (Oi o x.2)
 |none=>os
def puts(os:List zc)(l:List (Nat×zr)):List zc:=l.foldl tN os
theorem uZ(os:List zc)(x:Nat×zr):(tN os x).length=os.length:=by
 grind [tN]
theorem D6(l:List (Nat×zr)):∀os:List zc,(puts os l).length=os.length:=by
 induction l with
 |nil=>exact λos=>rfl
 |cons x l ih=>exact λos=>(ih (tN os x)).trans (uZ os x)
def wV(l:List zr)(f:Int):Nat:=l.countP (λr=>r.RT==f)
def gT(os:List zc)(f:Int):Nat:=(os.map (λo=>wV o.QO f)).sum
def gp(l:List zE)(t:Int):Nat:=l.countP (λx=>x.Rn==t)
theorem G7{l:List Nat}{a:Nat}(h:l[i]? =some a)(b:Nat):(l.set i b).sum+a=l.sum+b:=by
 induction l generalizing i with
 |nil=>simp at h
 |cons x l ih=>
  cases i with
  |zero=>simp at h;subst h;simp;omega
  |succ i=>
   grind
theorem wa{os:List zc}(h:os[i]? =some o)(o':zc)(f:Int):gT (os.set i o') f+wV o.QO f=gT os f+wV o'.QO f:=by
 unfold gT;rw [ym];exact G7 (by grind) _
theorem G8(l:List zr)(r:zr)(f:Int):wV (l++[r]) f=wV l f+if r.RT=f then 1 else 0:=by
 grind [wV]
theorem G9(l:List zr)(r:zr)(f:Int):wV (r::l) f=wV l f+if r.RT=f then 1 else 0:=by
 grind [wV]
theorem sF(l:List zE)(x:zE)(f:Int):gp (x::l) f=gp l f+if x.Rn=f then 1 else 0:=by
 grind [gp]
theorem lV(l l':List zE)(f:Int):gp (l++l') f=gp l f+gp l' f:=by
 grind [gp]
theorem rH(x:zE)(f:Int):gp [x] f=if x.Rn=f then 1 else 0:=by
 grind [sF,gp]
theorem Ax{os:List zc}(h:x.1<os.length)(f:Int):gT (tN os x) f=gT os f+if x.2.RT=f then 1 else 0:=by
 unfold tN;rw [zeg h];have:=wa (zeg h) (Oi os[x.1] x.2) f
 grind [wV,Oi,G8,gT]
theorem Ay{f:Int}(hf:∀x∈l,x.2.RT=f):∀os:List zc,(∀x∈l,x.1<os.length)->∀g,gT (puts os l) g=gT os g+if f=g then l.length else 0:=by
 induction l with
 |nil=>intro os h g;simp [puts]
 |cons x l ih=>
  intro os h g;have h1:=Ax (h x zcs) g
  grind [tN,uZ,gT,puts]
theorem E3{l:List Nat}{a:Nat}(h:a∈l):a<=l.sum:=by
 induction l with
 |nil=>cases h
 |cons x l ih=>
  grind
theorem Js{l:List zr}(h:r∈l):1<=wV l r.RT:=by
 grind [wV]
theorem rJ{os:List zc}(ho:o∈os)(h:r∈o.QO):1<=gT os r.RT:=by
 have h1:=Js h
 have h2:wV o.QO r.RT<=gT os r.RT:=by
  unfold gT;exact E3 (yn.2 ⟨o,ho,rfl⟩)
 omega
structure ui (c:zR) (b:Nat) (os:List zc):Prop where
 len:(os.length:Int)=c.QP
 all:∀(i:Nat)(o:zc),os[i]? =some o->iw o/\Fj o/\o.Si=i/\o.RL=c.QP/\o.maps.length=c.Maps.length/\o.QO.length<=b
theorem ui.mono{b b':Nat}{os:List zc}(h:ui c b os)(hb:b<=b'):ui c b' os:=
 ⟨h.len,λi o ho=>by obtain ⟨h1,h2,h3,h4,h5,h6⟩:=h.all i o ho;exact ⟨h1,h2,h3,h4,h5,by omega⟩⟩
theorem ui.put{b:Nat}{os:List zc}(h:ui c b os)(hm0:0<=x.2.Item.Rv)(hm1:x.2.Item.Rv<c.Maps.length)(hw:x.2.Sj=true\/(0<=x.2.Item.Op/\x.2.Item.Op<5))(hv:u64 x.2.Item.Rz):ui c (b+1) (tN os x):=by
 refine ⟨by rw [uZ];exact h.len,λi o ho=> ?_⟩
 unfold tN at ho;split at ho
 ·rename_i o1 h1
  rw [y8] at ho;split at ho
  ·rename_i e
   subst e;split at ho
   ·obtain rfl:=i8 ho;obtain ⟨a1,a2,a3,a4,a5,a6⟩:=h.all _ _ h1;refine ⟨{a1 with SL:=λr hr=> ?_},⟨a2.maps,λr hr=> ?_⟩,a3,a4,a5,?_⟩
    ·rcases f7.1 hr with hr|hr
     ·exact a1.SL r hr
     ·rw [g9.1 hr];exact ⟨hm0,by show _<((o1.maps.length:Nat):Int);rw [a5];exact hm1,hw⟩
    ·rcases f7.1 hr with hr|hr
     ·exact a2.QO r hr
     grind
    ·show (o1.QO++[x.2]).length<=_
     grind
   ·cases ho
  ·obtain ⟨a1,a2,a3,a4,a5,a6⟩:=h.all _ _ ho
   grind
 ·obtain ⟨a1,a2,a3,a4,a5,a6⟩:=h.all _ _ ho
  grind
theorem ui.puts{c:zR}{l:List (Nat×zr)}:∀{b:Nat} {os:List zc} (h:ui c b os) (hl:∀x∈l,0<=x.2.Item.Rv/\x.2.Item.Rv<c.Maps.length/\(x.2.Sj=true\/(0<=x.2.Item.Op/\x.2.Item.Op<5))/\u64 x.2.Item.Rz),ui c (b+l.length) (KH.puts os l):=by
 induction l with
 |nil=>exact λh _=>h
 |cons x l ih=>
  intro b os h hl;obtain ⟨a1,a2,a3,a4⟩:=hl x zcs;have:=ih (h.put a1 a2 a3 a4) (λy hy=>hl y (zcm _ hy));exact this.mono (by grind)
theorem wc:∀{os:List zc} {o:zc} {r:zr},o∈KH.puts os l->r∈o.QO->(∃o'∈os,r∈o'.QO)\/∃x∈l,x.2=r:=by
 induction l with
 |nil=>exact λho hr=>.inl ⟨_,ho,hr⟩
 |cons x l ih=>
  intro os o r ho hr;rcases ih (os:=tN os x) ho hr with ⟨o',h1,h2⟩|⟨y,h1,h2⟩
  ·unfold tN at h1;split at h1
   ·rename_i o1 e1
    rcases r6 h1 with h1|rfl
    ·grind
    ·rcases f7.1 (show r∈o1.QO++[x.2] from h2) with h2|h2
     ·grind
     grind
   grind
  grind
theorem Az{os:List zc}(h:(tN os x)[i]? =some o):∃o',os[i]? =some o'/\o'.QV=o.QV:=by
 unfold tN at h;split at h
 ·rename_i o1 h1
  rw [y8] at h;split at h
  ·rename_i e
   subst e;split at h
   ·obtain rfl:=i8 h;exact ⟨o1,h1,rfl⟩
   ·cases h
  ·exact ⟨o,h,rfl⟩
 ·exact ⟨o,h,rfl⟩
theorem oT:∀{os:List zc} {i:Nat} {o:zc},(KH.puts os l)[i]? =some o->∃o',os[i]? =some o'/\o'.QV=o.QV:=by
 induction l with
 |nil=>exact λh=>⟨_,h,rfl⟩
 |cons x l ih=>
  intro os i o h;obtain ⟨o1,h1,e1⟩:=ih (os:=tN os x) h
  grind [Az]
def kJ(k:Int)(n:Nat):Nat:=((ak k (n:Int)).getD 0).toNat
theorem Ha{b:Nat}{os:List zc}(h:ui c b os)(hs:1<=c.QP/\c.QP<=4)(hne:∀o∈os,o.QV=false)(hm0:0<=r.Item.Rv)(hm1:r.Item.Rv<c.Maps.length)(hop:0<=r.Item.Op/\r.Item.Op<5)(hb:(b+1)*56<=140737488355328):
  ∃(p:Nat)(o:zc),kJ r.Item.RH os.length=p/\ak r.Item.RH (os.length:Int)=some (p:Int)/\p<os.length/\Go.Sx.idx os (p:Int)=some o/\os[p]? =some o/\jE o [r]=some (0,Oi o r):=by
 obtain ⟨p,hp,hlt⟩:=uY (k:=r.Item.RH) (n:=(os.length:Int)) (by rw [h.len];exact hs.1) (by rw [h.len];exact hs.2)
 have hpl:p<os.length:=by omega
 have hg:=zeg hpl;obtain ⟨a1,a2,a3,a4,a5,a6⟩:=h.all _ _ hg;refine ⟨p,os[p],by grind [kJ],hp,hpl,pI hpl,hg,?_⟩;rw [h.len] at hp;exact G6 (hne _ (yg hpl)) hm0 (by rw [a5];exact hm1) (.inr ⟨hop.1,hop.2,by grind⟩) (by omega)
def oU:zh:=⟨0,0,0,0⟩
def CD:zk:=⟨0,false,0,false,0,0⟩
def Nw(k:ze):zA:=⟨k.Fn.E,k.Fn.N,k.Fn.Rs,k.Fn.Pairs++k.parts.flatten⟩
def Jt(k:ze):ze:=⟨k.Ro,w64 (k.Rj+1),false,k.QT,O9,[],k.QR++[Nw k]⟩
def PI(t:Int)(k:ze):zd:=⟨2,t,0,k.Rj,0,0,0,0,0,0,oU,CD,xX k.Fn.N,k.Fn.E⟩
def pV(t:Int)(k:ze):zd:=⟨1,t,0,k.Rj,0,0,0,0,0,0,oU,CD,0,0⟩
def PJ(t:Int)(k:ze)(n hook:Int):zd:=⟨4,t,0,k.Rj,0,n,hook,0,0,0,oU,CD,0,0⟩
def withA(k:ze)(a:zA):ze:={k with Fn:=a}
def F9(h:za)(t:Nat)(k:ze)(es:List zd)(rs:List zw)(g:zO):za:=
 {h with or:=h.or.set t (Jt k),QI:=rs,Ri:=h.Ri++es++[PI t k],Rx:=g}
def bz(cmd:zI):List zh:=if cmd.QJ=0 then [cmd.Item] else cmd.Rk
def vO(t:Int)(n:Nat)(l:List zh):List (Nat×zr):=l.mapIdx (λi x=>(kJ x.RH n,⟨t,(i:Int),false,x⟩))
def aR(t:Int)(n:Nat)(m:Int):List (Nat×zr):=(List.range n).map (λs=>(s,⟨t,(s:Int),true,⟨m,0,0,0⟩⟩))
def E4(k:ze)(n:Int)(res:List zk)(ps:List (List zq)):ze:=⟨k.Ro,k.Rj,true,n,⟨0,k.Fn.N,res,k.Fn.Pairs⟩,ps,k.QR⟩
def Nx(h:za)(t:Nat)(k k':ze)(os:List zc)(l:List zE):za:=
 {h with or:=h.or.set t k',Id:=os,QO:=l,Ri:=h.Ri++[pV t k]}
def AA(c:zR)(i:zh):Prop:=0<=i.Rv/\i.Rv<c.Maps.length/\0<=i.Op/\i.Op<5
inductive CMv (h:za) (t:Nat) (k:ze) (cmd:zI):za->Prop
 |told (E:Int):E≠0->CMv h t k cmd (F9 h t (withA k ⟨E,k.Fn.N,k.Fn.Rs,k.Fn.Pairs⟩) [pV t k] h.QI h.Rx)
 | fire (i : Nat) (r r' : zw) (n E : Int) (g : zO) : h.closed = false -> cmd.QJ = 3 -> cmd.Ry = i -> h.QI[i]? = some r -> vy r cmd.Ra h.Rx = some (n, E, r', g) ->
   CMv h t k cmd (F9 h t (withA k ⟨E,if E=0 then n else k.Fn.N,k.Fn.Rs,k.Fn.Pairs⟩) ([pV t k]++if E=0 then [PJ t k n i] else []) (h.QI.set i r') g)
 | items : h.closed = false -> (cmd.QJ = 0 \/ cmd.QJ = 1) -> 1 <= (bz cmd).length -> (bz cmd).length <= 16 -> (∀ i ∈ bz cmd, AA h.QZ i) ->
   CMv h t k cmd (Nx h t k (E4 k (bz cmd).length (List.replicate (bz cmd).length CD) k.parts) (puts h.Id (vO t h.Id.length (bz cmd))) h.QO)
 | walk : h.closed = false -> cmd.QJ = 2 -> 0 <= cmd.Rv -> cmd.Rv < h.QZ.Maps.length ->
   CMv h t k cmd (Nx h t k (E4 k h.Id.length k.Fn.Rs (List.replicate h.Id.length [])) (puts h.Id (aR t h.Id.length cmd.Rv)) h.QO)
 |call:h.closed=false->4<=cmd.QJ->cmd.QJ<=10->CMv h t k cmd (Nx h t k (E4 k 1 k.Fn.Rs k.parts) h.Id (h.QO++[⟨t,cmd,0⟩]))
end
open Go.Sx
variable {i:Nat} {h:za} {c:zR} {n:Nat} {l:List zh} {m:Int}
theorem zT{α:Type}{xs:List α}{x:α}(h:xs[i]? =some x):Go.Sx.idx xs (i:Int)=some x:=by
 grind [pI]
theorem xb{m b:Nat}(h:m*b<=140737488355328):room m b=some ():=by
 grind [room]
structure oV (s:List zI) (k:ze):Prop where
 Ro:k.Ro=s
 Ts:0<=k.Rj
 Tq:k.Rj<=s.length
 TB:k.waits=true->k.Rj<s.length
 Tl:(k.QR.length:Int)=k.Rj
 done:∀a∈k.QR,a.Rs.length<=16/\a.Pairs.length<=64
 res:k.Fn.Rs.length<=16
 Tt:k.Fn.Pairs=[]
 Td:k.parts.length<=4
 part:∀p∈k.parts,p.length<=16
 SY:k.waits=false->k.QT=0
structure AB (H K:Nat) (w:zJ):Prop where
 Ru:WJ H K w.QL
 cur:0<=w.Rw/\w.Rw<H
 rep:∀r,w.Sg=some r->u64 r.Rz
 over:w.QV=true->w.QL.QU=0
def wd(cs:List ze)(W:Nat)(r:zr):Prop:=
 (∃(t:Nat)(k:ze),r.RT=t/\cs[t]? =some k/\0<=r.SD/\(r.Sj=true->r.SD<k.parts.length)/\(r.Sj=false->r.SD<k.Fn.Rs.length))\/
 ∃j:Nat,r.RT=(cs.length:Int)+j/\j<W/\r.Sj=false
def kO(h:za)(t:Int):Nat:=gp h.QO t+gp h.held t+(if h.closed=true/\h.over=false/\h.QQ=t then 1 else 0)
structure cU (c:zR) (ss:List (List zI)):Prop where
 hk:1<=c.QY/\c.QY<=4
 wk:1<=c.QM/\c.QM<=4
 sh:1<=c.QP/\c.QP<=4
 mp:c.Maps.length<=4
 cl:1<=ss.length/\ss.length<=4
 sl:∀s∈ss,s.length<=64
 fit:∀s∈ss,∀c∈s,Fit c
structure HI (c:zR) (ss:List (List zI)) (n:Nat) (h:za):Prop where
 RP:n<=100000000
 QZ:h.QZ=c
 cl:h.or.length=ss.length
 cr:(h.LT.length:Int)=c.QM
 rg:(h.QI.length:Int)=c.QY
 Sm:fV c.QY.toNat c.Maps.length c.QM.toNat n h.Fd
 RZ:∀r∈h.QI,iU r/\∀q∈r.waiting,u64 q.Ra.A/\u64 q.Ra.B
 Tc:∀(t:Nat) k s,h.or[t]? =some k->ss[t]? =some s->oV s k
 crew:∀w∈h.LT,AB c.QY.toNat c.Maps.length w
 own:ui c (16*n) h.Id
 Tf:∀o∈h.Id,∀r∈o.QO,wd h.or h.LT.length r
 Sr:∀(t:Nat) k,h.or[t]? =some k->k.QT=((gT h.Id t+kO h t:Nat):Int)
 SB:∀t:Nat,kO h t=0\/(kO h t=1/\gT h.Id t=0)
 call:∀x∈h.QO++h.held,(∃t:Nat,x.Rn=t/\t<ss.length)/\x.cmd.Rf.length<=140737488355328/\4<=x.cmd.QJ/\x.cmd.QJ<=10
 QQ:∃t:Nat,h.QQ=t/\t<ss.length
 SC:h.QX.QN.length=ss.length+c.QM.toNat+c.QP.toNat+1
 Sy:∀o∈h.Id,o.QV=true->h.closed=true/\∀w∈h.LT,w.QV=true
 SF:∀w∈h.LT,w.QV=true->h.closed=true
 SA:h.Ri.length<=200*n
 Ta:h.QO.length<=n
 hel:h.held.length<=n
theorem D7{l:List (List zq)}{b:Nat}(h:∀p∈l,p.length<=b):l.flatten.length<=l.length*b:=by
 induction l with
 |nil=>simp
 |cons p l ih=>
  have h1:=h p zcs;have h2:=ih λq hq=>h q (zcm _ hq)
  rw [yo,k7,t6,w6];omega
theorem Ju{s:List zI}{k:ze}(hk:oV s k):(Nw k).Rs.length<=16/\(Nw k).Pairs.length<=64:=by
 refine ⟨hk.res,?_⟩;show (k.Fn.Pairs++k.parts.flatten).length<=64;have h1:=D7 hk.part;have h2:=hk.Td;rw [hk.Tt,List.nil_append];omega
theorem Hb{t:Nat}{k:ze}{s:List zI}(ht:h.or[t]? =some k)(hk:oV s k)(hs:s.length<=64)(hl:h.Ri.length<=500000000000):qV h (t:Int)=some (F9 h t k [] h.QI h.Rx):=by
 unfold qV;rw [zT ht,zbs]
 have hloop:jI (eJ k) (λ(s377:(List zq))=>{k with Fn:=(zA.mk k.Fn.E k.Fn.N k.Fn.Rs s377)}) (k.parts).length 0 k.Fn.Pairs=some {k with Fn:=(Nw k)}:=by
  refine OK.is (f9 (λi l=>l=k.Fn.Pairs++(k.parts.take i).flatten) (by simp) (λi l again hi hI ha=> ?_) (λl hl=> ?_))
  ·subst hI;unfold eJ;refine f8 (i5 hi λp hp=>f8 (OK.hasRoom ?_ (ha _ ?_)))
   ·have h1:=D7 (l:=k.parts.take i) (b:=16) λq hq=>hk.part q (Qw hq)
    have h2:=hk.part p (zmg hp);have h3:=hk.Td;rw [yj] at h1;rw [hk.Tt,List.nil_append];omega
   ·rw [mf hp,yf,m6];simp
  ·subst hl;rw [List.take_length];rfl
 rw [hloop];simp only [zbs];have h1:=hk.Tl;have h2:=hk.Tq;rw [xb (m:=h.Ri.length+_) (b:=176) (by grind)];simp only [zbs];rw [xb (m:=k.QR.length+_) (b:=64) (by grind)];simp only [zbs,k6,i4];unfold F9;rw [i6];rfl
theorem Hc{t:Nat}{k:ze}{s:List zI}(ht:h.or[t]? =some k)(hk:oV s k)(hs:s.length<=64)(hl:h.Ri.length<=400000000000)(E N:Int){es:List zd}(he:es.length<=2)(rs:List zw)(g:zO):
  qV {h with or:=h.or.set t (withA k ⟨E,N,k.Fn.Rs,k.Fn.Pairs⟩),QI:=rs,Ri:=h.Ri++es,Rx:=g} (t:Int)=some (F9 h t (withA k ⟨E,N,k.Fn.Rs,k.Fn.Pairs⟩) es rs g):=by
 have hlt:=(zes.1 ht).1;rw [Hb (k:=withA k ⟨E,N,k.Fn.Rs,k.Fn.Pairs⟩) (s:=s) (by grind) ⟨hk.Ro,hk.Ts,hk.Tq,hk.TB,hk.Tl,hk.done,hk.res,hk.Tt,hk.Td,hk.part,hk.SY⟩ hs (by grind)];unfold F9;simp only [y9,i6]
theorem D8(hc:h.QZ=c)(l:List zh):∃b,xA h l=some b/\(b=false->∀i∈l,AA c i):=by
 subst hc;unfold xA qd qi
 obtain ⟨o,h1,h2⟩:OK (jI (qz l h) (λ(s126:Unit)=>(.inl ())) l.length 0 ()) (λo=>match o with|.inl _=>∀i∈l,AA h.QZ i|.inr r=>0<=r):=by
  refine f9 (λi _=>∀x∈l.take i,AA h.QZ x) (by simp) (λi s again hi hI ha=> ?_) (λs hs=>by grind);unfold qz;refine f8 (i5 hi λx hx=> ?_);refine d5 (R:=λb=>b=false->AA h.QZ x) ?_ (λb hb=>b9 (λe=>b8 (by grind)) (λe=>ha _ (λy hy=> ?_)))
  ·unfold cj;refine d5 (R:=λb=>b=false->AA h.QZ x) ?_ (λb hb=>b8 hb);refine b9 (λe=>b8 λz=>by cases z) (λe1=>b9 (λe=>b8 λz=>by cases z) (λe2=>b9 (λe=>b8 λz=>by cases z) (λe3=>b8 λe4=> ?_)));simp only [decide_eq_false_iff_not] at e1 e2 e3 e4;exact ⟨by omega,by omega,by omega,by omega⟩
  ·rw [mf hx] at hy
   grind
 rw [h1];cases o with
 |inl _=>exact ⟨_,rfl,λ_=>h2⟩
 |inr r=>
  refine ⟨_,rfl,λe=> ?_⟩
  grind
theorem sH{t:Int}{x:zh}(h:l[i]? =some x):(vO t n l)[i]? =some (kJ x.RH n,⟨t,(i:Int),false,x⟩):=by
 grind [vO]
theorem hU{t:Int}:(vO t n l).length=l.length:=by
 grind [vO]
theorem AC(os:List zc)(l:List (Nat×zr))(x:Nat×zr):puts os (l++[x])=tN (puts os l) x:=by
 grind [puts]
theorem fz{t:Int}{x:Nat×zr}(h:x∈vO t n l):∃(i:Nat)(y:zh),l[i]? =some y/\x=(kJ y.RH n,⟨t,(i:Int),false,y⟩):=by
 obtain ⟨i,hi⟩:=w7 h;have hl:=(zes.1 hi).1;rw [hU] at hl;rw [sH (zeg hl)] at hi
 grind
theorem uj{b:Nat}{os:List zc}(h:ui c b os)(hs:1<=c.QP/\c.QP<=4)(hne:∀o∈os,o.QV=false){t:Int}(hg:∀i∈l,AA c i/\u64 i.Rz)(hb:(b+l.length+1)*56<=140737488355328)
  {body:Nat->(List zc->Option (List zc))->List zc->Option (List zc)}
  (hbody:∀i again (s:List zc),body i again s=(Go.Sx.idx l (i:Int)).bind λx=>(ak x.RH (s.length:Int)).bind λp=>(Go.Sx.idx s p).bind λo=>(jE o [⟨t,(i:Int),false,x⟩]).bind λr=>again (s.set (Int.toNat p) r.2)):
  jI body (λs=>s) l.length 0 os=some (puts os (vO t os.length l)):=by
 refine OK.is (f9 (λi s=>s=puts os ((vO t os.length l).take i)) rfl (λi s again hi hI ha=> ?_) (λs hs=>by grind [hU]));subst hI;rw [hbody];refine f8 (i5 hi λx hx=> ?_);have hr:=sH (t:=t) (n:=os.length) hx;have hlen:(puts os ((vO t os.length l).take i)).length=os.length:=D6 _ _;have hx2:=hg x (zmg hx)
 have hO:ui c (b+l.length) (puts os ((vO t os.length l).take i)):=by
  refine (h.puts (l:=(vO t os.length l).take i) (λy hy=> ?_)).mono (by grind);obtain ⟨j,z,hz,rfl⟩:=fz (Qw hy);obtain ⟨g1,g2⟩:=hg z (zmg hz);exact ⟨g1.1,g1.2.1,.inr g1.2.2,g2⟩
 obtain ⟨p,o,h1,h2,h3,h4,h5,h6⟩:=Ha hO hs (λo ho=>by
  obtain ⟨j,hj⟩:=w7 ho
  grind [oT]) (r:=⟨t,(i:Int),false,x⟩) hx2.1.1 hx2.1.2.1 hx2.1.2.2 (by omega)
 have h1:kJ x.RH (puts os ((vO t os.length l).take i)).length=p:=h1;rw [show ak x.RH ((puts os ((vO t os.length l).take i)).length:Int)=some (p:Int) from h2];simp only [zbs];rw [h4];simp only [zbs];rw [h6];simp only [zbs,k6];refine ha _ ?_;rw [mf hr,AC]
 grind [tN]
theorem CE{t:Int}(h:i<n):(aR t n m)[i]? =some (i,⟨t,(i:Int),true,⟨m,0,0,0⟩⟩):=by
 grind [aR]
theorem lw{t:Int}:(aR t n m).length=n:=by
 grind [aR]
theorem fA{t:Int}{x:Nat×zr}(h:x∈aR t n m):∃i:Nat,i<n/\x=(i,⟨t,(i:Int),true,⟨m,0,0,0⟩⟩):=by
 grind [aR]
theorem He{b:Nat}{os:List zc}(h:ui c b os)(hs:1<=c.QP/\c.QP<=4)(hne:∀o∈os,o.QV=false){t:Int}{x:zI}(h0:0<=x.Rv)(h1:x.Rv<c.Maps.length)(hb:(b+6)*56<=140737488355328):
  jI (dw t x) (λs=>s) os.length 0 os=some (puts os (aR t os.length x.Rv)):=by
 refine OK.is (f9 (λi s=>s=puts os ((aR t os.length x.Rv).take i)) rfl (λi s again hi hI ha=> ?_) (λs hs=>by grind [lw]));subst hI;unfold dw;have hlen:(puts os ((aR t os.length x.Rv).take i)).length=os.length:=D6 _ _;have ho4:os.length<=4:=by have:=h.len;omega
 have hO:ui c (b+4) (puts os ((aR t os.length x.Rv).take i)):=by
  refine (h.puts (l:=(aR t os.length x.Rv).take i) (λy hy=> ?_)).mono (by grind)
  grind [fA,z64]
 refine f8 (i5 (by rw [hlen];exact hi) λo ho=> ?_)
 obtain ⟨a1,a2,a3,a4,a5,a6⟩:=hO.all _ _ ho
 have hne2:o.QV=false:=by
  grind [oT]
 rw [G6 hne2 (r:=⟨t,(i:Int),true,⟨x.Rv,0,0,0⟩⟩) h0 (by rw [a5];exact h1) (.inl rfl) (by omega)]
 simp only [zbs,k6];refine ha _ ?_;rw [mf (CE (t:=t) (m:=x.Rv) hi),AC];unfold tN;simp only [ho];rfl
end
open Go.Sx
variable {c:zR} {ss:List (List zI)} {n:Nat} {h:za}
theorem HI.logb(hI:HI c ss n h):h.Ri.length<=20000000000:=by
 have:=hI.SA;have:=hI.RP;omega
theorem HI.at{c:zR}{ss:List (List zI)}{n:Nat}{h:za}(hI:HI c ss n h){t:Nat}{k:ze}(ht:h.or[t]? =some k):∃s,ss[t]? =some s/\oV s k:=by
 have h1:=(zes.1 ht).1;rw [hI.cl] at h1;exact ⟨_,zeg h1,hI.Tc t k _ ht (zeg h1)⟩
theorem CG(hS:cU c ss)(hI:HI c ss n h){t:Nat}{k:ze}(ht:h.or[t]? =some k)(hw:k.waits=true):
  xO h (t:Int)=some (F9 h t k [] h.QI h.Rx):=by
 obtain ⟨s,hs,hk⟩:=hI.at ht;unfold xO;rw [zT ht,zbs,d6 hw,Hb ht hk (hS.sl s (zmg hs)) (by have:=hI.logb;omega)];rfl
theorem E5(hS:cU c ss)(hI:HI c ss n h){t:Nat}{k:ze}(ht:h.or[t]? =some k)(hw:k.waits=false)(hat:k.Rj<k.Ro.length):
  ∃cmd,k.Ro[k.Rj.toNat]? =some cmd/\OK (xO h (t:Int)) (CMv h t k cmd):=by
 obtain ⟨s,hs,hk⟩:=hI.at ht;have hs64:=hS.sl s (zmg hs);have hlog:=hI.logb;have hc:=hI.QZ;have hown:=hI.own;have ha0:=hk.Ts;obtain ⟨cmd,hx,hg⟩:=nR (xs:=k.Ro) ha0 hat;have hfit:Fit cmd:=hS.fit s (zmg hs) cmd (by rw [<- hk.Ro];exact zmg hg)
 refine ⟨cmd,hg,?_⟩;have hb:=hI.RP;have hln:=hI.Ta;unfold xO;rw [zT ht,zbs,d8 (by simp [hw])];rw [xb (m:=h.Ri.length+_) (b:=176) (by grind)];simp only [zbs];rw [hx];simp only [zbs,k6]
 have told:∀E:Int,E≠0->OK (qV {h with or:=h.or.set t (withA k ⟨E,k.Fn.N,k.Fn.Rs,k.Fn.Pairs⟩),Ri:=h.Ri++[pV t k]} (t:Int)) (CMv h t k cmd):=λE hE=>
  OK.eq (Hc ht hk hs64 (by omega) E k.Fn.N (by simp) h.QI h.Rx) (.told E hE)
 refine b9 (λhcl=>d5 (told 43 (by decide)) λr hr=>b8 hr) (λhcl=> ?_)
 have hne:∀o∈h.Id,o.QV=false:=λo ho=>by
  cases he:o.QV with
  |false=>rfl
  |true=>rw [(hI.Sy o ho he).1] at hcl;cases hcl
 have hO4:h.Id.length<=4:=by have:=hown.len;have:=hS.sh;omega
 refine d5 (R:=λo=>match o with
  |.inl q=>CMv h t k cmd {h with or:=h.or.set t ⟨q.1.Ro,q.1.Rj,true,q.1.QT,⟨0,q.1.Fn.N,q.1.Fn.Rs,q.1.Fn.Pairs⟩,q.1.parts,q.1.QR⟩,Id:=q.2.1,QO:=q.2.2,Ri:=h.Ri++[pV t k]}
  |.inr r=>CMv h t k cmd r) ?_ (λo ho=> ?_)
 rotate_left
 ·cases o with
  |inl q=>exact b8 ho
  |inr r=>exact b8 ho
 refine d5 (R:=λb=>b=decide (cmd.QJ=0\/cmd.QJ=1)) (b9 (λe=>b8 (by grind)) (λe=>b8 (by grind))) (λb hb1=> ?_);subst hb1;refine b9 (λh01=> ?_) (λh01=> ?_)
 ·have h01:=yd h01;refine b9 (λh0=> ?_) (λh0=> ?_)
  ·have h0:cmd.QJ=0:=by simpa using h0
   obtain ⟨b,hb2,hb3⟩:=D8 (h:=za.mk h.Fd h.QX h.QZ h.or h.LT h.Id h.QI h.QO h.held h.QQ h.closed h.over (h.Ri++[pV t k]) h.Rx) (c:=c) hc [cmd.Item];rw [show xA {h with Ri:=(h.Ri++[(zd.mk 1 (t:Int) 0 k.Rj 0 0 0 0 0 0 (zh.mk 0 0 0 0) (zk.mk 0 false 0 false 0 0) 0 0)])} ([cmd.Item])=some b from hb2,zbs];refine b9 (λ_=>d5 (told 2 (by decide)) λr hr=>b8 hr) (λhbf=> ?_);have hgood:=hb3 hbf;have hm:mkLen 1 48=some 1:=by grind [mkLen]
   have hit:bz cmd=[cmd.Item]:=by grind [bz]
   have hl:=uj hown hS.sh hne (t:=(t:Int)) (l:=[cmd.Item]) (λi hi=>⟨hgood i hi,by rw [g9.1 hi];exact hfit.it⟩) (by grind) (body:=dv (t:Int) cmd) (λi again s=>rfl)
   rw [hm,zbs,show jI (dv (t:Int) cmd) (λ(s9182:(List zc))=>s9182) 1 0 h.Id=_ from hl,zbs];have:=CMv.items (h:=h) (t:=t) (k:=k) (cmd:=cmd) hcl h01 (by rw [hit];simp) (by rw [hit];simp) (λi hi=>by grind);rw [hit] at this;exact b8 this
  ·have h0:cmd.QJ≠0:=by simpa using h0
   have h1:cmd.QJ=1:=by omega
   have hit:bz cmd=cmd.Rk:=by grind [bz]
   refine d5 (R:=λb=>b=false->1<=cmd.Rk.length/\cmd.Rk.length<=16/\∀i∈cmd.Rk,AA c i) ?_ (λb hb3=> ?_)
   ·refine b9 (λ_=>b8 λz=>by cases z) (λe1=>b9 (λ_=>b8 λz=>by cases z) (λe2=> ?_));obtain ⟨b,hb2,hb3⟩:=D8 (h:=za.mk h.Fd h.QX h.QZ h.or h.LT h.Id h.QI h.QO h.held h.QQ h.closed h.over (h.Ri++[pV t k]) h.Rx) (c:=c) hc cmd.Rk;rw [show xA {h with Ri:=(h.Ri++[(zd.mk 1 (t:Int) 0 k.Rj 0 0 0 0 0 0 (zh.mk 0 0 0 0) (zk.mk 0 false 0 false 0 0) 0 0)])} cmd.Rk=some b from hb2,zbs]
    grind [b8]
   refine b9 (λ_=>d5 (told 2 (by decide)) λr hr=>b8 hr) (λhbf=> ?_);obtain ⟨l1,l16,hgood⟩:=hb3 hbf;have hm:mkLen (cmd.Rk.length:Int) 48=some cmd.Rk.length:=by grind [mkLen]
   have hl:=uj hown hS.sh hne (t:=(t:Int)) (l:=cmd.Rk) (λi hi=>⟨hgood i hi,hfit.its i hi⟩) (by omega) (body:=gA (t:Int) cmd) (λi again s=>rfl);rw [hm,zbs,xb (by omega),zbs,hl,zbs];have:=CMv.items (h:=h) (t:=t) (k:=k) (cmd:=cmd) hcl h01 (by rw [hit];exact l1) (by rw [hit];exact l16) (λi hi=>by grind)
   rw [hit] at this;exact b8 this
 have h01:=yx h01;refine b9 (λh2=> ?_) (λh2=> ?_)
 ·have h2:cmd.QJ=2:=by simpa using h2
  refine b9 (λ_=>d5 (told 2 (by decide)) λr hr=>b8 hr) (λhm=> ?_);simp only [Bool.or_eq_false_iff,decide_eq_false_iff_not] at hm;have hm1:mkLen (h.Id.length:Int) 24=some h.Id.length:=by grind [mkLen]
  rw [hm1,zbs,He hown hS.sh hne (by omega) (by rw [<- hc];omega) (by omega),zbs];exact b8 (.walk hcl h2 (by omega) (by omega))
 refine b9 (λh3=> ?_) (λh3=> ?_)
 ·have h3:cmd.QJ=3:=by simpa using h3
  refine b9 (λ_=>d5 (told 2 (by decide)) λr hr=>b8 hr) (λhm=> ?_);simp only [Bool.or_eq_false_iff,decide_eq_false_iff_not] at hm;obtain ⟨r,hr,hr2⟩:=nR (xs:=h.QI) (t:=cmd.Ry) (by omega) (by omega);rw [hr,zbs];obtain ⟨q1,q2,q3,q4,hq,_⟩:=mC (hI.RZ r (zmg hr2)).1 cmd.Ra h.Rx;rw [hq,zbs];have hk3:(cmd.Ry.toNat:Int)=cmd.Ry:=by omega
  have hmv:=CMv.fire (h:=h) (t:=t) (k:=k) (cmd:=cmd) cmd.Ry.toNat r q3 q1 q2 q4 hcl h3 hk3.symm hr2 hq;simp only;refine b9 (λhe=> ?_) (λhe=> ?_)
  ·have he:q2=0:=by simpa using he
   subst he;rw [xb (m:=(h.Ri++_).length+_) (b:=176) (by grind)];simp only [zbs];rw [d6 (by simp [hw])];rw [d6 rfl,d6 rfl,hk3] at hmv;have:=Hc ht hk hs64 (by omega) 0 q1 (es:=[pV t k]++[PJ t k q1 cmd.Ry]) (by simp) (h.QI.set cmd.Ry.toNat q3) q4;rw [<- m6] at this;refine d5 (OK.eq this hmv) (λr hr=>b8 hr)
  ·have he:q2≠0:=by simpa using he
   rw [d6 (by simp [he])];rw [d8 he,d8 he,i6] at hmv;exact d5 (OK.eq (Hc ht hk hs64 (by omega) q2 k.Fn.N (es:=[pV t k]) (by simp) (h.QI.set cmd.Ry.toNat q3) q4) hmv) (λr hr=>b8 hr)
 refine d5 (R:=λb=>b=true->4<=cmd.QJ/\cmd.QJ<=10) ?_ (λb hb2=> ?_)
 ·refine b9 (λe=>b8 λz=> ?_) (λ_=>b9 (λe=>b8 λz=> ?_) (λ_=>b9 (λe=>b8 λz=> ?_) (λ_=>b9 (λe=>b8 λz=> ?_) (λ_=>b9 (λe=>b8 λz=> ?_) (λ_=>b9 (λe=>b8 λz=> ?_) (λ_=>b8 λz=> ?_))))))
  all_goals (have z:=eq_of_beq z;omega)
 refine b9 (λe=> ?_) (λ_=>d5 (told 2 (by decide)) λr hr=>b8 hr);obtain ⟨k4,k10⟩:=hb2 e;rw [xb (m:=h.QO.length+_) (b:=144) (by grind)];exact b8 (.call hcl k4 k10)
end
open Go.Sx
variable {α:Type} {i:Nat} {l:List α} {x y:α}
theorem iv{j:Nat}(h:(l.set i x)[j]? =some y):(j=i/\y=x/\i<l.length)\/(j≠i/\l[j]? =some y):=by
 rw [y8] at h;split at h
 ·rename_i e
  split at h
  ·exact .inl ⟨e.symm,(i8 h).symm,by assumption⟩
  ·cases h
 ·exact .inr ⟨λe=> ‹¬_› e.symm,h⟩
theorem vr{j:Nat}(h:l[j]? =some y)(hn:j≠i):(l.set i x)[j]? =some y:=by
 grind
theorem nS(h:l[i]? =some y):(l.set i x)[i]? =some x:=by
 grind
variable {c:zR} {ss:List (List zI)} {n:Nat} {h:za}
theorem HI.idle(hI:HI c ss n h){t:Nat}{k:ze}(ht:h.or[t]? =some k)(hm:k.QT=0):gT h.Id t=0/\kO h t=0:=by
 have:=hI.Sr t k ht;omega
theorem wd.keep{cs:List ze}{W:Nat}{r:zr}(hr:wd cs W r){t:Nat}(ht:r.RT≠t)(k':ze):wd (cs.set t k') W r:=by
 rcases hr with ⟨u,k,e,hu,a⟩|⟨j,e,b⟩
 ·refine .inl ⟨u,k,e,vr hu (λz=>ht (by rw [e,z])),a⟩
 ·exact .inr ⟨j,by grind,b⟩
theorem wd.same{cs cs':List ze}{W:Nat}{r:zr}(hr:wd cs W r)(hl:cs'.length=cs.length)(hk:∀(t:Nat) k,cs[t]? =some k->∃k',cs'[t]? =some k'/\k'.parts.length=k.parts.length/\k'.Fn.Rs.length=k.Fn.Rs.length):wd cs' W r:=by
 rcases hr with ⟨u,k,e,hu,a1,a2,a3⟩|⟨j,e,b⟩
 ·obtain ⟨k',h1,h2,h3⟩:=hk u k hu;exact .inl ⟨u,k',e,h1,a1,by rw [h2];exact a2,by rw [h3];exact a3⟩
 ·exact .inr ⟨j,by rw [hl];exact e,b⟩
def we(c:zR)(rs:List zw):Prop:=(rs.length:Int)=c.QY/\∀r∈rs,iU r/\∀q∈r.waiting,u64 q.Ra.A/\u64 q.Ra.B
theorem CH(hI:HI c ss n h)(hn:n+1<=100000000){t:Nat}{k k':ze}{s:List zI}(ht:h.or[t]? =some k)(hs:ss[t]? =some s)(hm:k.QT=0)(hk:oV s k')(hkm:k'.QT=0)(hat:k'.Rj<s.length)(hs64:s.length<=64){es:List zd}(he:es.length<=2){rs:List zw}(hr:we c rs)(g:zO):
  HI c ss (n+1) (F9 h t k' es rs g):=by
 obtain ⟨i1,i2⟩:=hI.idle ht hm;exact
 {RP:=hn
  QZ:=hI.QZ
  cl:=by show (h.or.set t _).length=_;rw [j5];exact hI.cl
  cr:=hI.cr
  rg:=hr.1
  Sm:=hI.Sm.mono (by omega) (by omega)
  RZ:=hr.2
  Tc:=λu k2 s2 hu hs2=>by
   rcases iv hu with ⟨rfl,rfl,_⟩|⟨_,hu⟩
   ·rw [hs] at hs2;obtain rfl:=i8 hs2;have h0:=hk.Ts;have h1:=hk.Tl;refine ⟨hk.Ro,?_,?_,(λe=>by cases e),?_,λa ha=> ?_,by simp [Jt,O9],rfl,by simp [Jt],(λp hp=>by simp [Jt] at hp),λ_=>hkm⟩
    ·show 0<=w64 (k'.Rj+1);rw [qr (by omega) (by omega)];omega
    ·show w64 (k'.Rj+1)<=_;rw [qr (by omega) (by omega)];omega
    ·show ((k'.QR++[Nw k']).length:Int)=w64 (k'.Rj+1)
     grind [qr]
    ·rcases f7.1 ha with ha|ha
     ·exact hk.done a ha
     grind [Ju]
   ·exact hI.Tc u k2 s2 hu hs2
  crew:=hI.crew
  own:=hI.own.mono (by omega)
  Tf:=λo ho r hr=>(hI.Tf o ho r hr).keep (λe=>by have:=rJ (show o∈h.Id from ho) hr;rw [e,i1] at this;omega) _
  Sr:=λu k2 hu=>by
   rcases iv hu with ⟨rfl,rfl,_⟩|⟨_,hu⟩
   ·show k'.QT=((gT h.Id u+kO h u:Nat):Int)
    grind
   ·exact hI.Sr u k2 hu
  SB:=hI.SB
  call:=hI.call
  QQ:=hI.QQ
  SC:=hI.SC
  Sy:=hI.Sy
  SF:=hI.SF
  SA:=by
   show (h.Ri++es++[PI t k']).length<=_;have:=hI.SA
   grind
  Ta:=by have:=hI.Ta;show h.QO.length<=_;omega
  hel:=by have:=hI.hel;show h.held.length<=_;omega}
theorem CI(hI:HI c ss n h)(hn:n+1<=100000000){t:Nat}{k k':ze}{s:List zI}(ht:h.or[t]? =some k)(hs:ss[t]? =some s)(hm:k.QT=0)(hk:oV s k'){os:List zc}{l:List zE}
  (ho:ui c (16*n+16) os) (hend:∀o∈os,o.QV=true->h.closed=true/\∀w∈h.LT,w.QV=true) (hreq:∀o∈os,∀r∈o.QO,(∃o'∈h.Id,r∈o'.QO)\/(r.RT=t/\0<=r.SD/\(r.Sj=true->r.SD<k'.parts.length)/\(r.Sj=false->r.SD<k'.Fn.Rs.length)))
  (hcnt:∀u:Int,gT os u=gT h.Id u+(if u=t then gT os t else 0)) (hreg:∀u:Int,gp l u=gp h.QO u+(if u=t then gp l t else 0)) (hmis:k'.QT=((gT os t+gp l t:Nat):Int)) (hex:gp l t=0\/(gp l t=1/\gT os t=0))
  (hcall:∀x∈l,(∃t:Nat,x.Rn=t/\t<ss.length)/\x.cmd.Rf.length<=140737488355328/\4<=x.cmd.QJ/\x.cmd.QJ<=10) (hl:l.length<=n+1):HI c ss (n+1) (Nx h t k k' os l):=by
 obtain ⟨i1,i2⟩:=hI.idle ht hm
 have hr0:gp h.held t+(if h.closed=true/\h.over=false/\h.QQ=t then 1 else 0)=0:=by
  grind [kO]
 have hreg2:∀u:Nat,kO (Nx h t k k' os l) u=if u=t then gp l t else kO h u:=by
  intro u;have h1:=hreg u;unfold kO;show gp l u+gp h.held u+(if h.closed=true/\h.over=false/\h.QQ=u then 1 else 0)=_
  grind
 exact
 {RP:=hn
  QZ:=hI.QZ
  cl:=by show (h.or.set t _).length=_;rw [j5];exact hI.cl
  cr:=hI.cr
  rg:=hI.rg
  Sm:=hI.Sm.mono (by omega) (by omega)
  RZ:=hI.RZ
  Tc:=λu k2 s2 hu hs2=>by
   rcases iv hu with ⟨rfl,rfl,_⟩|⟨_,hu⟩
   ·grind
   ·exact hI.Tc u k2 s2 hu hs2
  crew:=hI.crew
  own:=ho.mono (by omega)
  Tf:=λo ho2 r hr=>by
   rcases hreq o ho2 r hr with ⟨o',h1,h2⟩|⟨e,h1,h2,h3⟩
   ·exact (hI.Tf o' h1 r h2).keep (λe=>by grind [rJ]) _
   ·exact .inl ⟨t,k',e,nS ht,h1,h2,h3⟩
  Sr:=λu k2 hu=>by
   rw [hreg2 u];rcases iv hu with ⟨rfl,rfl,_⟩|⟨hne,hu⟩
   ·rw [d6 rfl];exact hmis
   ·rw [d8 hne];show k2.QT=((gT os u+kO h u:Nat):Int)
    have:=hcnt u;rw [d8 (by omega)] at this;rw [this];exact hI.Sr u k2 hu
  SB:=λu=>by
   rw [hreg2 u];show _\/_/\gT os u=0;by_cases e:u=t
   ·grind
   ·rw [d8 e];have:=hcnt u;rw [d8 (by omega)] at this;rw [this];exact hI.SB u
  call:=λx hx=>by
   rcases f7.1 hx with hx|hx
   ·exact hcall x hx
   ·exact hI.call x (zar _ hx)
  QQ:=hI.QQ
  SC:=hI.SC
  Sy:=hend
  SF:=hI.SF
  SA:=by
   show (h.Ri++[pV t k]).length<=_;have:=hI.SA
   grind
  Ta:=hl
  hel:=by have:=hI.hel;show h.held.length<=_;omega}
theorem oV.withA{s:List zI}{k:ze}(hk:oV s k)(E N:Int):oV s (withA k ⟨E,N,k.Fn.Rs,k.Fn.Pairs⟩):=
 ⟨hk.Ro,hk.Ts,hk.Tq,hk.TB,hk.Tl,hk.done,hk.res,hk.Tt,hk.Td,hk.part,hk.SY⟩
theorem Jv(hS:cU c ss)(hI:HI c ss n h)(hn:n+1<=100000000){t:Nat}{k:ze}(ht:h.or[t]? =some k)(hw:k.waits=true)(hm:k.QT=0):HI c ss (n+1) (F9 h t k [] h.QI h.Rx):=by
 obtain ⟨s,hs,hk⟩:=hI.at ht;exact CH hI hn ht hs hm hk hm (hk.TB hw) (hS.sl s (zmg hs)) (by simp) ⟨hI.rg,hI.RZ⟩ _
theorem Mk(hS:cU c ss)(hI:HI c ss n h)(hn:n+1<=100000000){t:Nat}{k:ze}(ht:h.or[t]? =some k)(hw:k.waits=false)(hat:k.Rj<k.Ro.length){cmd:zI}(hc:k.Ro[k.Rj.toNat]? =some cmd){h':za}(hv:CMv h t k cmd h'):HI c ss (n+1) h':=by
 obtain ⟨s,hs,hk⟩:=hI.at ht;have hs64:=hS.sl s (zmg hs);have hm:=hk.SY hw;have hat2:k.Rj<s.length:=by rw [<- hk.Ro];exact hat
 have htl:t<ss.length:=(zes.1 hs).1;have hfit:Fit cmd:=hS.fit s (zmg hs) cmd (by rw [<- hk.Ro];exact zmg hc)
 obtain ⟨i1,i2⟩:=hI.idle ht hm;have hl0:gp h.QO t=0:=by grind [kO]
 have hO4:h.Id.length<=4:=by have:=hI.own.len;have:=hS.sh;omega
 have hendp:∀l,∀o∈puts h.Id l,o.QV=true->h.closed=true/\∀w∈h.LT,w.QV=true:=λl o ho e=>by
  obtain ⟨j,hj⟩:=w7 ho;obtain ⟨o2,h2,e2⟩:=oT hj;exact hI.Sy o2 (zmg h2) (by rw [e2];exact e)
 cases hv with
 |told E hE=>exact CH hI hn ht hs hm (hk.withA E k.Fn.N) hm hat2 hs64 (by simp) ⟨hI.rg,hI.RZ⟩ _
 |fire i r r' n2 E g h1 h2 h3 h4 h5=>
  refine CH hI hn ht hs hm (k':=withA k ⟨E,if E=0 then n2 else k.Fn.N,k.Fn.Rs,k.Fn.Pairs⟩) (hk.withA _ _) hm hat2 hs64 (rs:=h.QI.set i r') (es:=[pV t k]++if E=0 then [PJ t k n2 i] else []) (by grind) ⟨by rw [j5];exact hI.rg,λq hq=> ?_⟩ _
  rcases r6 hq with hq|rfl
  ·exact hI.RZ q hq
  ·obtain ⟨a1,a2⟩:=hI.RZ r (zmg h4);obtain ⟨q1,q2,q3,q4,hq,b1,b2,b3⟩:=mC a1 cmd.Ra h.Rx;rw [h5] at hq;cases hq;refine ⟨b1,λx hx=> ?_⟩;rcases b3 with ⟨_,_,e⟩|⟨_,e⟩
   ·rw [e] at hx;rcases f7.1 hx with hx|hx
    ·exact a2 x hx
    ·rw [g9.1 hx];exact hfit.ev
   grind
 |items h1 h2 h3 h4 h5=>
  have hlt:∀x∈vO (t:Int) h.Id.length (bz cmd),x.1<h.Id.length:=λx hx=>by
   obtain ⟨i,y,hy,rfl⟩:=fz hx;obtain ⟨p,hp,hlt⟩:=uY (k:=y.RH) (n:=(h.Id.length:Int)) (by rw [hI.own.len];exact hS.sh.1) (by grind)
   grind [kJ]
  have hcnt:=Ay (l:=vO (t:Int) h.Id.length (bz cmd)) (f:=(t:Int)) (λx hx=>by grind [fz]) h.Id hlt;rw [hU] at hcnt;have hct:=hcnt t;rw [d6 rfl,i1] at hct
  refine CI hI hn ht hs hm (k':=E4 k (bz cmd).length (List.replicate (bz cmd).length CD) k.parts) (os:=puts h.Id (vO t h.Id.length (bz cmd))) (l:=h.QO) ⟨hk.Ro,hk.Ts,hk.Tq,λ_=>hat2,hk.Tl,hk.done,by show (List.replicate _ _).length<=16;rw [QG];exact h4,hk.Tt,hk.Td,hk.part,λe=>by cases e⟩
   ((hI.own.puts (l:=vO (t:Int) h.Id.length (bz cmd)) (λx hx=> ?_)).mono (by grind [hU])) (hendp _) (λo ho r hr=> ?_) (λu=> ?_) (λu=> ?_) ?_ ?_ ?_ (by have:=hI.Ta;omega)
  ·obtain ⟨i,y,hy,rfl⟩:=fz hx;have hg:=h5 y (zmg hy);rw [hI.QZ] at hg;refine ⟨hg.1,hg.2.1,.inr hg.2.2,?_⟩;show u64 y.Rz;have hy2:=zmg hy;unfold bz at hy2;split at hy2
   ·rw [g9.1 hy2];exact hfit.it
   ·exact hfit.its y hy2
  ·rcases wc ho hr with h6|⟨x,hx,rfl⟩
   ·exact .inl h6
   ·obtain ⟨i,y,hy,rfl⟩:=fz hx;have hil:=(zes.1 hy).1;exact .inr ⟨rfl,by grind,(λe=>by cases e),λ_=>by show (i:Int)<(List.replicate _ _).length;rw [QG];omega⟩
  ·grind
  ·rw [hl0];simp
  ·rw [hct,hl0];show ((bz cmd).length:Int)=_;omega
  ·exact .inl hl0
  ·exact λx hx=>hI.call x (zal _ hx)
 |walk h1 h2 h3 h4=>
  have hcnt:=Ay (l:=aR (t:Int) h.Id.length cmd.Rv) (f:=(t:Int)) (λx hx=>by grind [fA]) h.Id (λx hx=>by grind [fA]);rw [lw] at hcnt;have hct:=hcnt t;rw [d6 rfl,i1] at hct
  refine CI hI hn ht hs hm (k':=E4 k h.Id.length k.Fn.Rs (List.replicate h.Id.length [])) (os:=puts h.Id (aR t h.Id.length cmd.Rv)) (l:=h.QO) ⟨hk.Ro,hk.Ts,hk.Tq,λ_=>hat2,hk.Tl,hk.done,hk.res,hk.Tt,by show (List.replicate _ _).length<=4;rw [QG];exact hO4,λp hp=>by rw [List.eq_of_mem_replicate (show p∈List.replicate _ _ from hp)];simp,λe=>by cases e⟩
   ((hI.own.puts (l:=aR (t:Int) h.Id.length cmd.Rv) (λx hx=> ?_)).mono (by grind [lw])) (hendp _) (λo ho r hr=> ?_) (λu=> ?_) (λu=> ?_) ?_ ?_ ?_ (by have:=hI.Ta;omega)
  ·obtain ⟨i,hi,rfl⟩:=fA hx;rw [hI.QZ] at h4
   grind [z64]
  ·rcases wc ho hr with h6|⟨x,hx,rfl⟩
   ·exact .inl h6
   ·obtain ⟨i,hi,rfl⟩:=fA hx;exact .inr ⟨rfl,by grind,λ_=>(by show (i:Int)<(List.replicate _ _).length;rw [QG];omega),λe=>by cases e⟩
  ·grind
  ·rw [hl0];simp
  ·rw [hct,hl0];show (h.Id.length:Int)=_;omega
  ·exact .inl hl0
  ·exact λx hx=>hI.call x (zal _ hx)
 |call h1 h2 h3=>
  have hct:gp (h.QO++[⟨t,cmd,0⟩]) t=1:=by grind [lV,rH]
  refine CI hI hn ht hs hm (k':=E4 k 1 k.Fn.Rs k.parts) (os:=h.Id) (l:=h.QO++[⟨t,cmd,0⟩]) ⟨hk.Ro,hk.Ts,hk.Tq,λ_=>hat2,hk.Tl,hk.done,hk.res,hk.Tt,hk.Td,hk.part,λe=>by cases e⟩
   (hI.own.mono (by omega)) hI.Sy (λo ho r hr=>.inl ⟨o,ho,hr⟩) (λu=> ?_) (λu=> ?_) ?_ ?_ ?_ (by have:=hI.Ta;rw [k7];simp only [t6,yu];omega)
  ·rw [i1];simp
  ·grind [lV,rH,gp]
  ·rw [hct,i1];rfl
  ·grind
  ·intro x hx;rcases f7.1 hx with hx|hx
   ·exact hI.call x (zal _ hx)
   ·rw [g9.1 hx];exact ⟨⟨t,rfl,htl⟩,hfit.SU,h2,h3⟩
end Go.Proofs.YtplmgfkghomelaaGreatDoor.KH
