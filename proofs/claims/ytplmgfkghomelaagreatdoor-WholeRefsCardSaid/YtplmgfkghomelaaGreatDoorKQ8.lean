/- Lemmas. -/
import Derived.Test.YtplmgfkghomelaaGreatDoorKT2
set_option linter.all false
namespace Go.Proofs.YtplmgfkghomelaaGreatDoor.KH
open Go.Sx
variable {h t:za}{a b d n i D:Nat}{c:zH}{Q:List (List zF)}{es:List ze}{M:zb}{ws:List zA}{l O:List zx}{g z:zd}{x:zF}{P:zn}{f:List zc}{A:List zp}{e:ze}{o F:zc}{q:vw}{B:zq}{C:List zd}{j y:qn}{E:List Int×Int}{G:List zF}{m L:Int}{I:zx}{J l2:List Int}{K:List (Int×zS)}{v:zE×Int}
abbrev kH(r:zp):Nat:=r.waiting.length
theorem HE.wrk(c:HE a b d h)(r:∀u:Nat,u<h.or.length->bS f u=bS h.Fn u)(s:∀(i:Nat) o,f[i]? =some o->∃F,h.Fn[i]? =some F/\F.Ue=o.Ue)
  (l:∀(j:Nat) w x,ws[j]? =some w->P.Ub[a+j]? =some x->w.Ue=true->x.Ua=2) (m:∀(i:Nat) x,P.Ub[i]? =some x->x.Ua=2\/h.Um.Ub[i]? =some x)
  (E:wgt e+(vR kH h.rings:Int)+(vR iP h.LE:Int)=(vR kH A:Int)+(vR iP ws:Int)):HE a b d (wU h M P ws f A e):=by
 refine {c with Vq:=λu k n=> ?_,mW:=l,mO:=λi o x g t v=> ?_,mR:=λx g z=> ?_,Wf:= ?_}
 ·have hl:=(zes.1 (show h.or[u]? =some k from n)).1;exact (c.Vq u k n).mono (λx g e=>⟨x,g,e,rfl⟩) (λy B C=>.inl ⟨y,B,C⟩) (λz=>z) (λz=>by show bS f u=0;rw [r u hl];exact z) (λz=>.inl z)
 ·obtain ⟨F,p,D⟩:=s i o g;rcases m _ x t with z|z
  ·exact z
  ·exact c.mO i F x p z (by rw [D];exact v)
 ·rcases m _ x g with q|q
  ·exact q
  ·exact c.mR x q z
 ·show ((h.Un++[e]).map wgt).sum=(vR kH A:Int)+(vR iP ws:Int)
  have p:(h.Un.map wgt).sum=(vR kH h.rings:Int)+(vR iP h.LE:Int):=c.Wf;rw [k8,yv];simp only [p9,List.map_nil,y5,List.sum_nil];omega
theorem HE.srv(hI:HI c Q n h)(m:HE a b d h)(K:h.Fn[i]? =some o){Z:List zq}(G:pR 2199023255552 o q F B Z)(L:∀(j:Nat) w,ws[j]? =some w->∃v,h.LE[j]? =some v/\w.Ue=v.Ue)(M:vR iP ws=vR iP h.LE) (A:C=h.or\/∃(u:Nat)(k:zd)(t:List zk)(N:List (List zr)),h.or[u]? =some k/\B.Vf=u/\C=h.or.set u (Jf k t N)) (O:(es.map wgt).sum=0):HE a b d (Ep h C ws (h.Fn.set i F) es):=by
 have P:=G.sh
 have D:∀f:Int,bS (h.Fn.set i F) f<=bS h.Fn f:=λf=>by
  have I:=gL K F f;have h2:=uv Z B f;rw [G.TZ,G.Wc] at I;omega
 have mono:∀(u:Nat) k,h.or[u]? =some k->CE (Ep h C ws (h.Fn.set i F) es) u k:=λu k g=>(m.Vq u k g).mono (λB hx e=>⟨B,hx,e,rfl⟩) (λR S T=>.inl ⟨R,S,T⟩) (λz=>z) (λz=>by have:=D u;show bS (h.Fn.set i F) u=0;omega) (λz=>.inl z)
 have s:∀u:Nat,B.Vf=u->1<=bS h.Fn u:=λu g=>by
  have:=nU (zmg K) (r:=B) (by rw [G.TZ];simp);rw [g] at this;exact this
 refine {m with Vq:=λu k g=> ?_,conv:=λz=> ?_,mW:=λj w y hw J e=> ?_,mO:=λj p y U J e=> ?_,Wf:= ?_}
 ·rcases A with rfl|⟨v,V,t,N,x,W,rfl⟩
  ·exact mono u k g
  ·rcases jW g with ⟨rfl,rfl,_⟩|⟨_,g⟩
   ·have hm:=mono u V x;refine {hm with VE:=λl R S T=> ?_};have:=((m.Vq u V x).VE l R S T).1;have:=s u W;omega
   ·exact mono u k g
 ·obtain ⟨u,k,g,j,l,X,Y,E⟩:=m.conv z;rcases A with rfl|⟨v,V,t,N,x,W,rfl⟩
  ·exact ⟨u,k,g,j,l,X,Y,E⟩
  ·by_cases e:u=v
   ·subst e;rw [x] at g;cases g;refine ⟨u,_,kb x,j,l,X,Y,?_⟩;rcases E with E|⟨w1,w2,w3,w4⟩
    ·exact .inl E
    ·have:=(hI.idle x w3).1;have:=s u W;omega
   ·exact ⟨u,k,ve g e,j,l,X,Y,E⟩
 ·obtain ⟨v,I,h2⟩:=L j w hw;exact m.mW j v y I J (by rw [<- h2];exact e)
 ·rcases jW (show (h.Fn.set i F)[j]? =some p from U) with ⟨rfl,rfl,_⟩|⟨_,U⟩
  ·exact m.mO _ o y K J (by rw [<- P.2.2.1];exact e)
  ·exact m.mO j p y U J e
 ·show ((h.Un++es).map wgt).sum=(vR kH h.rings:Int)+(vR iP ws:Int)
  have I:(h.Un.map wgt).sum=(vR kH h.rings:Int)+(vR iP h.LE:Int):=m.Wf;rw [k8,yv,O,M];omega
theorem HE.rul(j:HE a b d h)(i:h.over=false)(r:(es.map wgt).sum=0)(s:∀x∈O,x.cmd.TY=8\/x.cmd.TY=9)(f:∀x∈l++O,∃y∈h.TZ++h.held,y.Ut=x.Ut/\y.cmd=x.cmd)
  (t:(C=h.or/\∀v:Nat,bX l v+bX O v=bX h.TZ v+bX h.held v)\/∃(u:Nat)(k:zd)(N E:Int),h.or[u]? =some k/\C=h.or.set u (rU k N E)/\(E≠0\/∀c,k.Uf[k.Uw.toNat]? =some c->c.TY≠10)/\∀v:Nat,v≠u->bX l v+bX O v=bX h.TZ v+bX h.held v):HE a b d (rV h M C l O es):=by
 have mono:∀(u:Nat) k,h.or[u]? =some k->bX l u+bX O u=bX h.TZ u+bX h.held u->CE (rV h M C l O es) u k:=λu k g m=>(j.Vq u k g).mono (λx w e=>by obtain ⟨y,n,A,B⟩:=f x w;exact ⟨y,n,A.trans e,B⟩) (λD o F=>.inl ⟨D,o,F⟩) (λz=>z) (λz=>z) (λz=>.inl (by
   have z:bX l u+bX O u+(if h.closed=true/\h.over=false/\h.Uh=(u:Int) then 1 else 0)=0:=z;unfold gr;omega))
 refine {j with Vq:=λu k g=> ?_,held:=s,conv:=λz=>(by rw [show h.over=true from z] at i;cases i),Wf:= ?_}
 ·rcases t with ⟨rfl,m⟩|⟨v,J,N,E,K,rfl,G,m⟩
  ·exact mono u k g (m u)
  ·rcases jW g with ⟨rfl,rfl,_⟩|⟨I,g⟩
   ·have p:=j.Vq u J K;refine ⟨λx w e=> ?_,p.clo,p.ans,λc D o F=>⟨(p.VE c D o F).1,λL _ z=> ?_⟩⟩
    ·obtain ⟨y,n,A,B⟩:=f x w;rw [<- B];exact p.call y n (A.trans e)
    ·rcases G with q|q
     ·exact absurd z q
     ·exact absurd L (q c o)
   ·exact mono u k g (m u I)
 ·show ((h.Un++es).map wgt).sum=(vR kH h.rings:Int)+(vR iP h.LE:Int)
  have n:(h.Un.map wgt).sum=(vR kH h.rings:Int)+(vR iP h.LE:Int):=j.Wf;rw [k8,yv,r];omega
open Go.Sx
theorem gk(h:(LK P a j).Ub[i]? =some y):(i=a/\y.Ua=2)\/(i≠a/\P.Ub[i]? =some y):=by
 rcases jW (show (P.Ub.set a ⟨2,j.Vo⟩)[i]? =some y from h) with ⟨b,rfl,_⟩|h
 ·exact .inl ⟨b,rfl⟩
 ·exact .inr h
theorem CK(t:Int):∀(a:List zp)(o:Nat),(((a.mapIdx (λi r=>r.waiting.map (oh t ((i+o:Nat):Int)))).flatten).map wgt).sum= -(vR kH a:Int)
 |[],o=>rfl
 |r::a,o=>by
  have e:(λ(i:Nat)(r:zp)=>r.waiting.map (oh t ((i+1+o:Nat):Int)))=λi r=>r.waiting.map (oh t ((i+(o+1):Nat):Int)):=by
   funext i r
   rw [show i+1+o=i+(o+1) by omega]
  have h:∀(z:Int)(l:List qa),((l.map (oh t z)).map wgt).sum= -(l.length:Int):=λz l=>by
   induction l with
   |nil=>rfl
   |cons q l c=>
    simp only [p9,y5,u4,show wgt (oh t z q)= -1 from rfl];omega
  have b:=CK t a (o+1);rw [List.mapIdx_cons,yb,e,k8,yv,h,b];simp only [vR,p9,y5,kH];omega
theorem Su(hS:aQ c Q)(T:HI c Q n h)(ha:h.or.length=a)(hb:h.LE.length=b)(O:h.Fn.length=d)(hJ:HJ a b d h)(B:HE a b d h)(L:Mv h D t):HE a b d t:=by
 have I:∀(i:Nat) o,h.Fn[i]? =some o->∃F,h.Fn[i]? =some F/\F.Ue=o.Ue:=λi o W=>⟨o,W,rfl⟩
 cases L with
 |back D k X P hm=>
  refine B.fin T X hm k.Id (.inl rfl) (λcmd h1 h2 h3=>((B.Vq D k X).VE cmd P h1 (by omega)).2 h2 (T.idle X hm).2 h3) ?_;simp
 |ask D k cmd t X P hat U L=>
  obtain ⟨s,hs,C⟩:=T.at X;have hm:=C.VO P;cases L with
  |told E hT=>
   refine B.fin T X hm _ (.inr P) (λcmd h1 h2 h3=>absurd h3 hT.1) ?_;simp [show wgt (iO (D:Int) k)=0 from rfl]
  |fire i r r' n E g J h3 _ hi hA=>
   refine B.fin T X hm _ (.inr P) (λcmd2 h1 h2 _=>by rw [U] at h1;cases h1;omega) ?_;have hs:vR (λr:zp=>r.waiting.length) (h.rings.set i r')+r.waiting.length=vR (λr:zp=>r.waiting.length) h.rings+r'.waiting.length:=cZ _ hi r';rcases JE hA with ⟨_,rfl,rfl,_⟩|⟨_,rfl,_,rfl,_⟩|⟨_,rfl,_,rfl,_⟩
   ·simp [show wgt (iO (D:Int) k)=0 from rfl];omega
   ·simp only at hs;simp [show wgt (iO (D:Int) k)=0 from rfl];omega
   ·rw [l8,List.length_singleton] at hs;simp [show wgt (iO (D:Int) k)=0 from rfl,show wgt (P7 (D:Int) k n i)=1 from rfl];omega
  |items J C _ _ _=>exact B.ask T hJ X P U J _ _ _ (λu K=>kh _ _ (λx G=>by obtain ⟨j,z,_,rfl⟩:=eB G;show (D:Int)≠u;omega)) (λi o W=>eA W) (.inl ⟨rfl,by omega⟩)
  |walk J C _ _=>exact B.ask T hJ X P U J _ _ _ (λu K=>kh _ _ (λx G=>by obtain ⟨j,_,rfl⟩:=eC G;show (D:Int)≠u;omega)) (λi o W=>eA W) (.inl ⟨rfl,by omega⟩)
  |call J _ _=>exact B.ask T hJ X P U J _ _ _ (λu K=>rfl) I (.inr ⟨rfl,rfl⟩)
 |work j w t P hrd L=>
  have hjl:=(zes.1 P).1;have hC:=T.crew w (zmg P);have hJw:=hC.UE;obtain ⟨hr1,hr2,hr4⟩:=T.hooks4 hS
  have stp:∀{a:qT} {Y:zl},w.TX.Ua=2->qA 2199023255552 w.TX=some (a,true,Y)->Cx c.Up.toNat c.Maps.length w.TX a Y:=λm2 R=>by
   grind [Jr]
  have go:∀{M:zb} {w':zA} {os:List zc} {rs:List zp} {e:ze},w'.Ue=w.Ue->(∀u:Nat,u<h.or.length->bS os u=bS h.Fn u)->(∀(i:Nat) o,os[i]? =some o->∃F,h.Fn[i]? =some F/\F.Ue=o.Ue)->
    wgt e+(vR kH h.rings:Int)+(iP w:Int)=(vR kH rs:Int)+(iP w':Int)->HE a b d (wU h M h.Um (h.LE.set j w') os rs e):=λ{M w' os rs e}he h1 h2 h3=>
   B.wrk h1 h2 (λi v x L G z=>by
    rcases jW L with ⟨rfl,rfl,_⟩|⟨_,L⟩
    ·exact B.mW _ w x P G (by rw [<- he];exact z)
    ·exact B.mW i v x L G z) (λi x G=>.inr G) (by have:=cZ iP P w';omega)
  have b0:∀{w:zA},w.TX.Ua=0->iP w=0:=λe=>d7 e
  have Z:∀{w:zA},w.TX.Ua≠0->iP w=1:=λe=>d8 e
  cases L with
  |ends x m0 J C hm=>
   refine B.wrk (λ_ _=>rfl) I (λi v y L A z=> ?_) (λi y A=> ?_) ?_
   ·rcases gk A with ⟨_,e⟩|⟨hn,A⟩
    ·exact e
    ·rcases jW L with ⟨rfl,rfl,_⟩|⟨_,L⟩
     ·omega
     ·exact B.mW i v y L A z
   ·rcases gk A with ⟨_,e⟩|⟨hn,A⟩
    ·exact .inl e
    ·exact .inr A
   ·rw [ry iP (y:={w with Ue:=true}) P rfl,show ∀D,wgt (AM D)=0 from λ_=>rfl];omega
  |take i r r' q qs cur m0 J hi hwt htk c0 c1=>
   obtain rfl:=O4 hwt htk;refine go rfl (λ_ _=>rfl) I ?_;have hs:=cZ kH hi ⟨r.room,r.Vj,qs,⟨r.counts.US,r.counts.Ve,w64 (r.counts.Vz+1),r.counts.Vb,r.counts.Vi⟩⟩;rw [show kH r=qs.length+1 by show r.waiting.length=_;rw [hwt];rfl,show kH ⟨r.room,r.Vj,qs,⟨r.counts.US,r.counts.Ve,w64 (r.counts.Vz+1),r.counts.Vb,r.counts.Vi⟩⟩=qs.length from rfl] at hs;rw [b0 m0,Z (show (1:Int)≠0 by decide)];simp only [show wgt (AO 5 ((h.or.length+j:Nat):Int) q.N i 0 0 0 kE uz 0)=0 from rfl];omega
  |skip st v p m1 hcu hsk=>
   refine go rfl (λ_ _=>rfl) I ?_;rw [Z (show w.TX.Ua≠0 by omega),b0 (show (0:Int)=0 from rfl),show ∀D ev C,wgt (AO 9 D ev C 0 0 0 kE uz 0)= -1 from λ_ _ _=>rfl];omega
  |enter v p m b e1 e2 ck e Y m1 hcu hmo he hE2=>
   obtain ⟨m3,b3,hm3,h1,h2,h3⟩:=T.module p;rw [hmo] at hm3;cases hm3;obtain ⟨e3,W2,hE3,_,hW⟩:=Cw hJw m1 h1 h2 h3 v p;rw [hE2] at hE3;cases hE3;refine go rfl (λ_ _=>rfl) I ?_;rw [Z (show w.TX.Ua≠0 by omega),Z (show Y.Ua≠0 by grind),show ∀D ev C p v,wgt (AO 6 D ev C p v 0 kE uz 0)=0 from λ_ _ _ _ _=>rfl];omega
  |note x Y m2 R k3=>
   rcases stp m2 R with ⟨z,_⟩|⟨z,_⟩|⟨_,m,g,_⟩
   ·omega
   ·omega
   ·refine go rfl (λ_ _=>rfl) I ?_;rw [Z (show w.TX.Ua≠0 by omega),Z (show Y.Ua≠0 by omega),show ∀D ev p v pc y,wgt (AO 8 D ev 0 p v pc kE uz y)=0 from λ_ _ _ _ _ _=>rfl];omega
  |ran x Y m2 R k1=>
   rcases stp m2 R with ⟨z,_⟩|⟨z,_⟩|⟨_,m,g,_⟩
   ·omega
   ·omega
   ·refine go rfl (λ_ _=>rfl) I ?_;rw [Z (show w.TX.Ua≠0 by omega),Z (show Y.Ua≠0 by omega),show ∀D ev p v pc y,wgt (AO 7 D ev 0 p v pc kE uz y)=0 from λ_ _ _ _ _ _=>rfl];omega
  |done x Y e1 ck m2 R k4 hlv=>
   rcases stp m2 R with ⟨_,m,_⟩|⟨z,_⟩|⟨z,_⟩
   ·refine go rfl (λ_ _=>rfl) I ?_;rw [Z (show w.TX.Ua≠0 by omega),b0 m,show ∀D ev C p v pc y,wgt (AO 9 D ev C p v pc kE uz y)= -1 from λ_ _ _ _ _ _ _=>rfl];omega
   ·omega
   ·omega
  |ask x Y m2 R k2=>
   rcases stp m2 R with ⟨z,_⟩|⟨_,m,g,_⟩|⟨z,_⟩
   ·omega
   ·refine go rfl (λu K=>kh [_] _ (λx G=>by rw [g8.1 G];show ((h.or.length+j:Nat):Int)≠u;omega)) (λi o W=>pP W) ?_;rw [Z (show w.TX.Ua≠0 by omega),Z (show Y.Ua≠0 by omega),show ∀D ev p v pc i y,wgt (AO 16 D ev 0 p v pc i uz y)=0 from λ_ _ _ _ _ _ _=>rfl];omega
   ·omega
  |back r Y m3 hr hA=>
   obtain ⟨W2,hW2,_,hm,g,_⟩:=lD hJw m3 (hC.rep r hr);rw [hA] at hW2;cases hW2;refine go rfl (λ_ _=>rfl) I ?_;rw [Z (show w.TX.Ua≠0 by omega),Z (show Y.Ua≠0 by omega),show ∀D ev p v pc r,wgt (AO 17 D ev 0 p v pc kE r 0)=0 from λ_ _ _ _ _ _=>rfl];omega
 |serve i o t W hrd L=>
  have hil:=(zes.1 W).1;have sw:∀(j:Nat) w,h.LE[j]? =some w->∃v,h.LE[j]? =some v/\w.Ue=v.Ue:=λj w P=>⟨w,P,rfl⟩
  cases L with
  |ends D x X hl C hm=>
   have hcnt:∀f:Int,bS (h.Fn.set i {o with Ue:=true}) f=bS h.Fn f:=λf=>by
    have h2:_+th o.TZ f=_+th o.TZ f:=gL W {o with Ue:=true} f;omega
   refine {B with Vq:=λu k K=>(B.Vq u k K).mono (λx G e=>⟨x,G,e,rfl⟩) (λz1 z2 z3=>.inl ⟨z1,z2,z3⟩) (λz=>z) (λz=>(hcnt u).trans z) (λz=>.inl z),mW:=λj w y P A e=> ?_,mO:=λj p y hp A e=> ?_,mR:=λy A z=> ?_,Wf:= ?_}
   ·rcases gk A with ⟨_,q⟩|⟨hn,A⟩
    ·exact q
    ·exact B.mW j w y P A e
   ·rcases gk A with ⟨_,q⟩|⟨hn,A⟩
    ·exact q
    ·rcases jW (show (h.Fn.set i _)[j]? =some p from hp) with ⟨rfl,rfl,_⟩|⟨_,hp⟩
     ·omega
     ·exact B.mO j p y hp A e
   ·rcases gk A with ⟨_,q⟩|⟨hn,A⟩
    ·exact q
    ·exact B.mR y A z
   ·show ((h.Un++[AM D]).map wgt).sum=_;rw [k8,yv];have:=B.Wf;simp only [p9,List.map_nil,y5,List.sum_nil,show wgt (AM (D:Int))=0 from rfl];exact this ▸ (by omega)
  |crew D q F x V j w X hq hf P=>
   refine B.srv T W hq (ws:=h.LE.set j (Sm w q.UJ)) (es:=[Np D q 0 w.TX.UE.UK.N]) (λk v L=> ?_) (ry _ P rfl) (.inl rfl) rfl;rcases jW L with ⟨rfl,rfl,_⟩|⟨hn,L⟩
   ·exact ⟨w,P,rfl⟩
   ·exact ⟨v,L,rfl⟩
  |walk q F x V u k hq hf C _ _ _=>exact B.srv T W hq sw rfl (.inr ⟨u,k,_,_,C,hf,rfl⟩) rfl
  |item D q F x V u k X hq hf C _ _ _=>exact B.srv T W hq sw rfl (.inr ⟨u,k,_,_,C,hf,rfl⟩) rfl
 |rule t hrd L=>
  have S:=hrd.1
  have cur:∀{x:zx} {u:Nat} {k:zd},x∈h.TZ++h.held->x.Ut=u->h.or[u]? =some k->∀cmd,k.Uf[k.Uw.toNat]? =some cmd->cmd=x.cmd:=λ{x u k}G K C cmd U=>by
   rw [(B.Vq u k C).call x G K] at U;exact (i8 U).symm
  have lsub:∀{x V},h.TZ=x::V->∀y∈V++h.held,∃z∈h.TZ++h.held,z.Ut=y.Ut/\z.cmd=y.cmd:=λe y A=>⟨y,by rw [e];rcases f8.1 A with A|A<;>simp [A],rfl,rfl⟩
  have lcnt:∀{x V} {u:Nat},h.TZ=x::V->x.Ut=u->∀v:Nat,v≠u->bX V v+bX h.held v=bX h.TZ v+bX h.held v:=λe K v hne=>by
   rw [e,iC,d8 (by omega)];rfl
  have hmem:∀{x:zx} {i:Nat},h.held[i]? =some x->x∈h.TZ++h.held:=λG=>zar _ (zmg G)
  have hera:∀{x:zx} {i:Nat} {es:List ze} {M:zb} {u:Nat} {k:zd},h.held[i]? =some x->x.Ut=u->h.or[u]? =some k->(es.map wgt).sum=0->HE a b d (rV h M (h.or.set u (rU k 0 0)) h.TZ (h.held.eraseIdx i) es):=λ{x i es M u k}G K C hes=>
   B.rul S hes (λy A=>B.held y (TV A)) (λy A=>⟨y,(f8.1 A).elim (λA=>zal _ A) (λA=>zar _ (TV A)),rfl,rfl⟩)
    (.inr ⟨u,k,0,0,C,rfl,.inr λcmd U=>by rw [cur (hmem G) K C cmd U];have:=B.held x (zmg G);omega,λv hne=>by have:=rY G (v:Int);rw [d8 (by omega)] at this;omega⟩)
  cases L with
  |fin i x u k G _ K C _=>exact hera G K C rfl
  |retired i x u k G _ K C _=>exact hera G K C rfl
  |over u k x hnf hl U K C hm=>
   have J:=hrd.hyp hnf hl;have hmiss:=T.Vv u k K;obtain ⟨s,hs,hk2⟩:=T.at K;have hreg:1<=gr h u:=by unfold gr;rw [d7 ⟨J,S,U⟩];omega
   have hwt:k.waits=true:=by
    cases P:k.waits with
    |true=>rfl
    |false=>have:=hk2.VO P;omega
   obtain ⟨cmd,hcm,h10⟩:=(B.Vq u k K).clo J S U;have h0:=hk2.Wi;refine {B with Vq:=λv k2 L=> ?_,conv:=λ_=>⟨u,_,kb K,k.Uw.toNat,cmd,hcm,h10,.inr ⟨hwt,by show k.Uw=_;omega,rfl,rfl⟩⟩,mW:=λj w y P A e=> ?_,mO:=λj p y hp A e=> ?_,mR:=λy A z=> ?_,Wf:= ?_}
   ·have mono:∀(v:Nat) k2,h.or[v]? =some k2->CE {h with Um:=LK h.Um (h.or.length+h.LE.length+h.Fn.length) x,or:=h.or.set u (rU k 0 0),over:=true,Un:=h.Un++[AM ((h.or.length+h.LE.length+h.Fn.length:Nat):Int)]} v k2:=λv k2 L=>
     (B.Vq v k2 L).mono (λx G e=>⟨x,G,e,rfl⟩) (λ_ z=>by cases z) (λ_=>rfl) (λz=>z) (λ_=>.inr rfl)
    rcases jW L with ⟨rfl,rfl,_⟩|⟨hne,L⟩
    ·have hm:=mono v k K;exact {hm with VE:=λcmd z1 z2 z3=>⟨(hm.VE cmd z1 z2 z3).1,λ_ _ _=>rfl⟩}
    ·exact mono v k2 L
   ·rcases gk A with ⟨_,q⟩|⟨hn,A⟩
    ·exact q
    ·exact B.mW j w y P A e
   ·rcases gk A with ⟨_,q⟩|⟨hn,A⟩
    ·exact q
    ·exact B.mO j p y hp A e
   ·rcases gk A with ⟨_,q⟩|⟨hn,A⟩
    ·exact q
    ·omega
   ·show ((h.Un++[AM ((h.or.length+h.LE.length+h.Fn.length:Nat):Int)]).map wgt).sum=_;rw [k8,yv];have:=B.Wf;simp only [p9,List.map_nil,y5,List.sum_nil,show ∀D,wgt (AM D)=0 from λ_=>rfl];exact this ▸ (by omega)
  |refuse x V u k _ hl _ K C=>exact B.rul S rfl B.held (lsub hl) (.inr ⟨u,k,0,43,C,rfl,.inl (by decide),lcnt hl K⟩)
  |cmd x V u k r' N E es _ hl _ K C U=>
   have G:x∈h.TZ++h.held:=by rw [hl];simp
   have hes:(es.map wgt).sum=0/\x.cmd.TY≠10:=by
    have w0:∀m D C p v,m=11\/m=12->wgt (oW m D C p v)=0:=λm D C p v e=>by rcases e with rfl|rfl<;>rfl
    cases U<;>refine ⟨?_,by omega⟩<;>(try split)<;>simp [w0]
   exact B.rul S hes.1 B.held (lsub hl) (.inr ⟨u,k,N,E,C,rfl,.inr λcmd U=>by rw [cur G K C cmd U];exact hes.2,lcnt hl K⟩)
  |hold x V v r' _ hl _ h8 hr=>
   refine B.rul S rfl (λy A=> ?_) (λy A=> ?_) (.inl ⟨rfl,λv=> ?_⟩)
   ·rcases f8.1 A with A|A
    ·exact B.held y A
    ·rw [g8.1 A];show x.cmd.TY=8\/x.cmd.TY=9;omega
   ·rcases f8.1 A with A|A
    ·exact ⟨y,by rw [hl];simp [A],rfl,rfl⟩
    ·rcases f8.1 A with A|A
     ·exact ⟨y,by simp [A],rfl,rfl⟩
     ·rw [g8.1 A];exact ⟨x,by rw [hl];simp,rfl,rfl⟩
   ·rw [hl,gM,iC V x,nT];show _+(_+if x.Ut=(v:Int) then 1 else 0)=_;omega
  |drain x V _ hl _ h9=>
   refine B.rul S rfl (λy A=> ?_) (λy A=> ?_) (.inl ⟨rfl,λv=> ?_⟩)
   ·rcases f8.1 A with A|A
    ·exact B.held y A
    ·rw [g8.1 A];omega
   ·rcases f8.1 A with A|A
    ·exact ⟨y,by rw [hl];simp [A],rfl,rfl⟩
    ·rcases f8.1 A with A|A
     ·exact ⟨y,by simp [A],rfl,rfl⟩
     ·rw [g8.1 A];exact ⟨x,by rw [hl];simp,rfl,rfl⟩
   ·rw [hl,gM,iC V x,nT];show _+(_+if x.Ut=(v:Int) then 1 else 0)=_;omega
  |close x V _ hl J h10=>
   have G:x∈h.TZ++h.held:=by rw [hl];simp
   refine {B with Vq:=λu k K=>(B.Vq u k K).mono (λy A e=>⟨y,by rw [hl];rcases f8.1 A with A|A<;>simp [A],e,rfl⟩) (λ_ _ z3=>.inr ⟨x.cmd,(B.Vq u k K).call x G z3,h10⟩) (λz=>z) (λz=>z) (λz=>.inl ?_),Wf:= ?_}
   ·have z:bX V u+bX h.held u+(if true=true/\h.over=false/\x.Ut=(u:Int) then 1 else 0)=0:=z;unfold gr;rw [hl,iC,d8 (c:=h.closed=true/\_) (λq=>by rw [q.1] at J;cases J)];by_cases e:x.Ut=u
    ·rw [d7 ⟨rfl,S,e⟩] at z;omega
    ·rw [d8 e];omega
   ·show ((h.Un++pT _ h.rings++[oW 14 _ 0 0 0]).map wgt).sum=(vR kH (h.rings.map rW):Int)+(vR iP h.LE:Int)
    have h1:(h.Un.map wgt).sum=(vR kH h.rings:Int)+(vR iP h.LE:Int):=B.Wf;have h2:=CK ((h.or.length+h.LE.length+h.Fn.length:Nat):Int) h.rings 0;have h3:((pT ((h.or.length+h.LE.length+h.Fn.length:Nat):Int) h.rings).map wgt).sum= -(vR kH h.rings:Int):=h2;rw [k8,k8,yv,yv,h3,nB (f:=kH) (l:=h.rings.map rW) (λr hr=>by obtain ⟨r0,_,rfl⟩:=x2.1 hr;rfl)];simp only [p9,List.map_nil,y5,List.sum_nil,show ∀D,wgt (oW 14 D 0 0 0)=0 from λ_=>rfl];omega
open Go.Sx
theorem O3(n:KG c Q h):HE Q.length c.Uc.toNat c.Ui.toNat h:=by
 obtain ⟨r,os,p,q,b,u,G,I,J,L,M,⟨y,d⟩,⟨B,f⟩,rfl⟩:=n.is;obtain ⟨N,v,O,C,P⟩:=WJ.new (H:=c.Up.toNat) (K:=c.Maps.length) (by have:=n.hk;omega);rw [b] at v;obtain rfl:=i8 v;refine ⟨λt k a=> ?_,(λx g=>by cases g),(λz=>by cases z),λj w x l _ e=> ?_,λi o x D _ e=> ?_,(λx _ z=>by cases z),?_⟩
 ·have a:(Q.map tg)[t]? =some k:=a;rw [o8] at a;obtain ⟨s,_,rfl⟩:=yp.1 a;exact ⟨(λx g=>by cases g),(λz=>by cases z),(λi m A _ _ z=>by simp [tg] at z),λm z=>by cases z⟩
 ·rw [TB (zmg l)] at e;cases e
 ·rw [(d i o D).2.2.1] at e;cases e
 ·have E:vR kH p=0:=nB λr u=>by show r.waiting.length=0;rw [(f r u).2.1];rfl
  have F:vR iP (List.replicate c.Uc.toNat (nj q))=0:=nB λw l=>by rw [TB l];exact d7 C
  show (0:Int)=(vR kH p:Int)+(vR iP (List.replicate c.Uc.toNat (nj q)):Int)
  rw [E,F];rfl
open Go.Sx
def told(m:Int)(l:List ze):List Int:=(l.filter (λe=>e.UW==m)).map (·.UA)
theorem dP(m:Int)(l a:List ze):told m (l++a)=told m l++told m a:=by simp [told]
def ldA(k:zd):List (List Int×Int):=((k.Uf.zip k.Ud).filter (λp=>p.1.TY==4&&p.2.E==0)).map (λp=>(p.1.Uq,p.2.N))
def ldP(k:zd):List (List Int×Int):=if k.waits=true/\k.Ul=0 then (k.Uf[k.Uw.toNat]?).toList.filterMap (λx=>if x.TY=4/\k.Id.E=0 then some (x.Uq,k.Id.N) else none) else []
def ld(k:zd):List (List Int×Int):=ldA k++ldP k
def LD(c:List zd):List (List Int×Int):=(c.map ld).flatten
theorem CU(h:C[a]? =some z)(e:ld g=ld z):LD (C.set a g)=LD C:=by
 unfold LD
 congr 1
 refine o4 λi=> ?_
 grind
theorem Rn(h:C[a]? =some z)(e:ld g=ld z++[E]):(LD (C.set a g)).Perm (LD C++[E]):=by
 unfold LD
 induction C generalizing a with
 |nil=>cases h
 |cons x C i=>
  cases a with
  |zero=>
   obtain rfl:=i8 h;simp only [List.set_cons_zero,p9,yb,e,u6];exact List.Perm.append_left _ List.perm_append_comm
  |succ a=>
   simp only [List.set_cons_succ,p9,yb,u6];exact List.Perm.append_left _ (i h)
def eR(l:List zx):List (Int×Int):=(l.filter (λx=>x.cmd.TY==8)).map (λx=>(x.cmd.UA,x.Vt))
structure HV (h:za):Prop where
 came:told 12 h.Un=(List.range h.Fd.given.toNat).map (λi:Nat=>((i+1:Nat):Int))
 Wl:((LD h.or).map (·.2)).Perm (told 12 h.Un)
 Wm:∀p∈LD h.or,∃m q,xa 2199023255552 p.1=some (m,q,0)/\pg m.Maps/\(∀x∈m.Maps,x<h.Fd.maps)/\(p.2∈told 13 h.Un\/∃x,ja h.Fd.Uj p.2=some x/\x.module.Maps=m.Maps)
 Wj:∀p∈told 13 h.Un,p<=h.Fd.given/\ja h.Fd.Uj p=none
 held:eR h.held=h.Fd.waiting.map (λp=>(p,((ja h.Fd.Uj p).map (·.UD)).getD 0))
theorem HV.same(a:HV h)(c:told 12 t.Un=told 12 h.Un)(d:told 13 t.Un=told 13 h.Un)(e:LD t.or=LD h.or)(f:t.Fd.given=h.Fd.given)(b:t.Fd.Uj=h.Fd.Uj)(g:t.Fd.waiting=h.Fd.waiting)(i:t.Fd.maps=h.Fd.maps)(j:eR t.held=eR h.held):HV t:=by
 constructor
 ·rw [c,f];exact a.came
 ·rw [c,e];exact a.Wl
 ·rw [d,e,b,i];exact a.Wm
 ·rw [d,f,b];exact a.Wj
 ·rw [b,g,j];exact a.held
theorem Gl{c d:Type}:∀(l:List c)(m:List d)(x:c)(y:d),l[m.length]? =some x->l.zip (m++[y])=l.zip m++[(x,y)]
 |[],_,_,_,h=>by simp at h
 |a::l,[],x,y,h=>by simp at h;simp [h]
 |a::l,b::m,x,y,h=>by simp [Gl l m x y (by simpa using h)]
def one(x:zF)(A:zy):List (List Int×Int):=if x.TY=4/\A.E=0 then [(x.Uq,A.N)] else []
theorem J8{k:zd}(h:k.Uf[k.Uw.toNat]? =some x)(a:k.waits=true)(b:k.Ul=0):ldP k=one x k.Id:=by
 unfold ldP one;rw [d7 ⟨a,b⟩,h];by_cases e:x.TY=4/\k.Id.E=0
 ·simp [e]
 ·simp [e]
theorem uR{k:zd}(h:k.waits=false\/k.Ul≠0):ldP k=[]:=by
 unfold ldP;refine d8 λz=> ?_
 rcases h with h|h
 ·rw [h] at z;cases z.1
 ·exact h z.2
theorem Ro(h:pQ G g)(a:g.Uf[g.Uw.toNat]? =some x)(A:zy):ld (DB (withA g A))=ldA g++one x A:=by
 have b:=h.ans;unfold ld;rw [uR (k:=DB (withA g A)) (.inl rfl),i4];show ((g.Uf.zip (g.Ud++[H6 (withA g A)])).filter (λp=>p.1.TY==4&&p.2.E==0)).map (λp=>(p.1.Uq,p.2.N))=_;rw [Gl _ _ x _ (by rw [<- a];congr 1;omega),yt,k8];show ldA g++_=_
 congr 1
 unfold one;by_cases e:x.TY=4/\A.E=0
 ·simp [e,H6,withA]
 ·simp [e,H6,withA]
theorem rz{l:List ze}(h:∀e∈l,e.UW≠m):told m l=[]:=by
 unfold told;rw [List.filter_eq_nil_iff.2 λe a=>by simpa using h e a];rfl
theorem HV.plain(b:HV h)(hl:t.Un=h.Un++es)(a:∀e∈es,e.UW≠12/\e.UW≠13)(c:LD t.or=LD h.or)(d:t.Fd.given=h.Fd.given)(f:t.Fd.Uj=h.Fd.Uj)(g:t.Fd.waiting=h.Fd.waiting)(i:t.Fd.maps=h.Fd.maps)(j:eR t.held=eR h.held):HV t:=
 b.same (by rw [hl,dP,rz λe h=>(a e h).1,i4]) (by rw [hl,dP,rz λe h=>(a e h).2,i4]) c d f g i j
theorem nC(l a:List zx):eR (l++a)=eR l++eR a:=by simp [eR]
theorem Gm(h:l[a]? =some I):eR l=eR (l.take a)++(eR [I]++eR (l.drop (a+1)))/\eR (l.eraseIdx a)=eR (l.take a)++eR (l.drop (a+1)):=by
 obtain ⟨hl,rfl⟩:=zes.1 h;refine ⟨?_,?_⟩
 ·rw [<- nC,<- nC,List.singleton_append,List.getElem_cons_drop,x9]
 ·rw [TW,nC]
theorem Ht(t:Int)(r:List zp):∀e∈pT t r,e.UW=10:=λe h=>by
 obtain ⟨l,hl,h⟩:=j9.1 h;obtain ⟨i,a,rfl⟩:=List.mem_mapIdx.1 hl;obtain ⟨q,_,rfl⟩:=x2.1 h;rfl
theorem Mt(h:M.waiting=J++m::l2)(a:∀x∈J,ol M x=false)(b:ol M m=true):gn M 1=[m]:=by
 unfold gn;rw [h];clear h
 induction J with
 |nil=>
  rw [Tr];unfold iQ;rw [d7 ⟨by decide,b⟩]
  have:∀l:List Int,iQ (ol M) (1-1) l=[]:=λl=>by
   induction l with
   |nil=>rfl
   |cons x l i=>unfold iQ;rw [d8 λz=>absurd z.1 (by decide)];exact i
  rw [this]
 |cons x l i=>
  rw [Ts];unfold iQ;rw [d8 λz=>by rw [a x zcs] at z;cases z.2];exact i λy c=>a y (zcm _ c)
theorem Mu{x:zS}(h:ja K L=none)(q:Int):ja (mput K L x) q=if L=q then some x else ja K q:=rk ..
theorem E1(h:mg L J=some v)(b:v.2=0):∃q,xa 2199023255552 J=some (v.1,q,0):=by
 unfold mg at h;obtain ⟨⟨m,q,e⟩,c,h⟩:=z7.1 h;by_cases a:e=0
 ·subst a;rw [d8 (by simp)] at h;obtain ⟨j,_,h⟩:=z7.1 h;refine ⟨q,?_⟩;split at h<;>(cases h;exact c)
 ·rw [d7 (by simpa using a)] at h;cases h;exact absurd b a
theorem Sz(hS:aQ c Q)(W:HI c Q n h)(hE:HE a b d h)(L:HV h)(Y:Mv h D t):HV t:=by
 have fin:∀{D:Nat} {k:zd} {x:zF} (A:zy) {es:List ze} {rs:List zp} {g:zL},h.or[D]? =some k->k.Uf[k.Uw.toNat]? =some x->(∀e∈es,e.UW≠12/\e.UW≠13)->ldP k=one x A->HV (Cf h D (withA k A) es rs g):=λ{D k x}A {es rs g} ht Z he U=>by
  obtain ⟨s,hs,B⟩:=W.at ht;refine L.plain (es:=es++[Nn D (withA k A)]) (u6 ..) (λe z=> ?_) (CU ht ?_) rfl rfl rfl rfl rfl
  ·rcases f8.1 z with z|z
   ·exact he e z
   ·rw [g8.1 z];exact ⟨by simp [Nn],by simp [Nn]⟩
  ·rw [Ro B Z A];show _=ldA k++ldP k;rw [U]
 have cl1:∀{D:Int} {k:zd},∀e∈ [iO D k],e.UW≠12/\e.UW≠13:=λe z=>by rw [g8.1 z];exact ⟨by simp [iO],by simp [iO]⟩
 cases Y with
 |back D k ht hw hm=>
  obtain ⟨s,hs,B⟩:=W.at ht;obtain ⟨x,Z⟩:∃x,k.Uf[k.Uw.toNat]? =some x:=⟨_,zeg (show k.Uw.toNat<k.Uf.length by have:=B.WD hw;have:=B.Wi;rw [B.Uf];omega)⟩
  exact fin k.Id ht Z (λe z=>by cases z) (J8 Z hw hm)
 |ask D k cmd t ht hw hat Z Y=>
  have h0:ldP k=[]:=uR (.inl hw)
  have ask:∀{m:Int} {R:List zk} {ps:List (List zr)} {os:List zc} {l:List zx},m≠0->HV (Ja h D k (uA k m R ps) os l):=λ{m R ps os l}hm=>
   L.plain (es:=[iO D k]) rfl cl1 (CU ht (by show ldA k++_=ldA k++_;rw [h0,uR (k:=uA k m R ps) (.inr hm)])) rfl rfl rfl rfl rfl
  cases Y with
  |told E hT=>exact fin _ ht Z cl1 (by rw [h0];exact (d8 λz=>hT.1 z.2).symm)
  |fire i r S n E g _ h3 _ _ _=>
   refine fin _ ht Z (λe z=> ?_) (by rw [h0];exact (d8 λz=>by have:=z.1;omega).symm);rcases f8.1 z with z|z
   ·exact cl1 e z
   ·split at z
    ·rw [g8.1 z];exact ⟨by simp [P7],by simp [P7]⟩
    ·cases z
  |items _ _ U _ _=>exact ask (by omega)
  |walk _ _ _ _=>exact ask (by have:=W.own.len;have:=hS.sh;omega)
  |call _ _ _=>exact ask (by decide)
 |work j w t hw hrd Y=>
  have go:∀{M:zb} {P:zn} {ws:List zA} {os:List zc} {rs:List zp} {e:ze},e.UW≠12/\e.UW≠13->M.given=h.Fd.given->M.Uj=h.Fd.Uj->M.waiting=h.Fd.waiting->M.maps=h.Fd.maps->HV (wU h M P ws os rs e):=λ{M P ws os rs e}he U J h3 h4=>
   L.plain (es:=[e]) rfl (λe2 z=>by rw [g8.1 z];exact he) rfl U J h3 h4 rfl
  cases Y<;>exact go ⟨by simp [AO,AM],by simp [AO,AM]⟩ rfl rfl rfl rfl
 |serve i o t ho hrd Y=>
  have get:∀{q:vw} {F:zc} {x:zq} {xs:List zq} {u:Nat} {k:zd} {R:List zk} {ps:List (List zr)} {es:List ze},pR 2199023255552 o q F x xs->x.Vf=(u:Int)->h.or[u]? =some k->(∀e∈es,e.UW≠12/\e.UW≠13)->HV (Ep h (h.or.set u (Jf k R ps)) h.LE (h.Fn.set i F) es):=λ{q F x xs u k R ps es}C hf B he=>by
   have U:=nU (zmg ho) (r:=x) (by rw [C.TZ];simp);rw [hf] at U;have J:=W.Vv u k B;refine L.plain (es:=es) rfl he (CU B ?_) rfl rfl rfl rfl rfl;show ldA k++ldP (Jf k R ps)=ldA k++ldP k;rw [uR (k:=k) (.inr (by omega))];by_cases e:k.waits=true/\(Jf k R ps).Ul=0
   ·cases G:k.Uf[k.Uw.toNat]? with
    |none=>unfold ldP;rw [show (Jf k R ps).Uf[(Jf k R ps).Uw.toNat]? =none from G];simp
    |some y=>
     rw [J8 (k:=Jf k R ps) G e.1 e.2];refine congrArg _ (d8 λz=> ?_);have:=((hE.Vq u k B).VE y e.1 G (by omega)).1;omega
   ·rw [show ldP (Jf k R ps)=[] from d8 e]
  have ap:∀{D:Int} {q:vw} {x y:Int},∀e∈ [Np D q x y],e.UW≠12/\e.UW≠13:=λe z=>by rw [g8.1 z];exact ⟨by simp [Np],by simp [Np]⟩
  cases Y with
  |ends D x ht hl B hm=>exact L.plain (es:=[AM D]) rfl (λe z=>by rw [g8.1 z];exact ⟨by simp [AM],by simp [AM]⟩) rfl rfl rfl rfl rfl rfl
  |crew D q F x xs j w ht C hf hw=>exact L.plain rfl ap rfl rfl rfl rfl rfl rfl
  |walk q F x xs u k C hf B _ _ _=>exact get C hf B (λe z=>by cases z)
  |item D q F x xs u k ht C hf B _ _ _=>exact get C hf B ap
 |rule t hrd Y=>
  have ans:∀{u:Nat} {k:zd} {cmd:zF} (N E:Int),h.or[u]? =some k->1<=gr h u->(∀y,k.Uf[k.Uw.toNat]? =some y->y=cmd)->ld (rU k N E)=ld k++one cmd ⟨E,N,[],[]⟩:=λ{u k cmd}N E K hr Z=>by
   have J:=W.Vv u k K;obtain ⟨s,hs,B⟩:=W.at K
   have hw:k.waits=true:=by
    cases hw:k.waits with
    |true=>rfl
    |false=>have:=B.VO hw;omega
   obtain ⟨x,G⟩:∃x,k.Uf[k.Uw.toNat]? =some x:=⟨_,zeg (show k.Uw.toNat<k.Uf.length by have:=B.WD hw;have:=B.Wi;rw [B.Uf];omega)⟩
   obtain rfl:=Z x G;show ldA k++ldP (rU k N E)=(ldA k++ldP k)++_;rw [uR (k:=k) (.inr (by omega)),J8 (k:=rU k N E) G hw rfl,i4];rfl
  have call:∀{x:zx} {u:Nat} {k:zd} (N E:Int),x∈h.TZ++h.held->x.Ut=(u:Int)->h.or[u]? =some k->ld (rU k N E)=ld k++one x.cmd ⟨E,N,[],[]⟩:=λ{x u k}N E G K B=>by
   refine ans N E B ?_ (λy hy=> ?_)
   ·unfold gr;rcases f8.1 G with G|G
    ·have:=tK G;rw [K] at this;omega
    ·have:=tK G;rw [K] at this;omega
   ·rw [(hE.Vq u k B).call x G K] at hy;exact (i8 hy).symm
  have no4:∀{x:zF} {E N:Int},x.TY≠4\/E≠0->one x ⟨E,N,[],[]⟩=[]:=λG=>d8 λz=>by rcases G with q|q;exact q z.1;exact q z.2
  have M:∀{B D p v},∀e∈ [oW 11 D B p v],e.UW≠12/\e.UW≠13:=λe z=>by rw [g8.1 z];exact ⟨by simp [oW],by simp [oW]⟩
  have hmem:∀{x:zx} {i:Nat},h.held[i]? =some x->x∈h.TZ++h.held:=λG=>zar _ (zmg G)
  have hov:=hrd.1
  have wget:∀{p:Int},p∈h.Fd.waiting->∃y,ja h.Fd.Uj p=some y/\0<y.UD/\p<=h.Fd.given:=λ{p}hp=>by
   obtain ⟨y,U,J⟩:=(W.UO.VX p).1 hp;exact ⟨y,U,J,(W.UO.prog p y U).2.1⟩
  have I:∀{S:zb} {cs:List zd} {l O:List zx} {es:List ze},S.given=h.Fd.given->S.Uj=h.Fd.Uj->S.waiting=h.Fd.waiting->S.maps=h.Fd.maps->(∀e∈es,e.UW≠12/\e.UW≠13)->LD cs=LD h.or->eR O=eR h.held->HV (rV h S cs l O es):=λ{S cs l O es}U J h3 h4 he Z hh=>
   L.plain (es:=es) rfl he Z U J h3 h4 hh
  have nil:∀e∈([]:List ze),e.UW≠12/\e.UW≠13:=λe z=>by cases z
  have X:∀{x:zx} {u:Nat} {k:zd} {N E:Int},x∈h.TZ++h.held->x.Ut=(u:Int)->h.or[u]? =some k->x.cmd.TY≠4\/E≠0->LD (h.or.set u (rU k N E))=LD h.or:=λ{x u k N E}G K B h4=>CU B (by rw [call N E G K B,no4 h4,i4])
  cases Y with
  |fin i x u k G _ K B h8=>
   have h9:=hE.held x (zmg G);refine I rfl rfl rfl rfl nil (X (hmem G) K B (.inl (by omega))) ?_;obtain ⟨e1,e2⟩:=Gm G;rw [e1,e2,show eR [x]=[] by simp [eR,h8],Tr]
  |retired i x u k G hf K B h8=>
   have hld:=X (N:=0) (E:=0) (hmem G) K B (.inl (by omega));obtain ⟨e1,e2⟩:=Gm G;rw [L.held,show eR [x]=[(x.cmd.UA,x.Vt)] by simp [eR,h8],List.singleton_append] at e1;obtain ⟨l1,l3,w1,w2,w3⟩:=List.map_eq_append_iff.1 e1;obtain ⟨p,l2,rfl,w4,w5⟩:=List.map_eq_cons_iff.1 w3;have hp:p=x.cmd.UA:=(Prod.mk.inj w4).1;subst hp;obtain ⟨y,hy,y0,yg⟩:=wget (p:=x.cmd.UA) (by rw [w1];simp);have hep:y.UD=x.Vt:=by have:=(Prod.mk.inj w4).2;rw [hy] at this;exact this
   have hg:gn h.Fd 1=[x.cmd.UA]:=Mt w1 (λp hp=>by
    have hm:(p,((ja h.Fd.Uj p).map (·.UD)).getD 0)∈eR (h.held.take i):=by rw [<- w2];exact List.mem_map_of_mem (f:=λp=>(p,((ja h.Fd.Uj p).map (λy:zS=>y.UD)).getD 0)) hp
    obtain ⟨z,hz,hz2⟩:=x2.1 hm;obtain ⟨hz,hz8⟩:=List.mem_filter.1 hz;obtain ⟨v,Y,_⟩:=wget (p:=p) (by rw [w1];simp [hp]);rw [Y] at hz2;unfold ol;rw [Y];refine decide_eq_false λq=>hf.2 z hz (.inl ⟨by simpa using hz8,λe he=> ?_⟩)
    rcases q e he with q|q
    ·exact .inl q
    ·have:=(Prod.mk.inj hz2).2;simp at this;exact .inr (by omega)) (by
    unfold ol;rw [hy];refine decide_eq_true λe he=> ?_
    rcases hf.1 with ⟨_,q⟩|⟨q,_⟩
    ·rw [hep];exact q e he
    ·exact absurd h8 q)
   rw [hg];have V:=mi W.UO [x.cmd.UA];have hnd:=W.UO.Wx;rw [w1] at hnd
   have hne:∀q∈l1++l2,q≠x.cmd.UA:=λq C e=>by
    subst e;have:=k6.1 hnd;have h3:=q7.1 this.2.1;rcases f8.1 C with z|z
    ·exact this.2.2 _ z _ zcs rfl
    ·exact h3.1 z
   have t12:told 12 (h.Un++[oW 13 (h.or.length+h.LE.length+h.Fn.length:Nat) 0 x.cmd.UA 0])=told 12 h.Un:=by rw [dP];exact i4 _
   have t13:told 13 (h.Un++[oW 13 (h.or.length+h.LE.length+h.Fn.length:Nat) 0 x.cmd.UA 0])=told 13 h.Un++[x.cmd.UA]:=by rw [dP];rfl
   refine ⟨?_,?_,λq C=> ?_,λq C=> ?_,?_⟩
   ·show told 12 (h.Un++_)=_;rw [t12];exact L.came
   ·show List.Perm _ (told 12 (h.Un++_));rw [t12];show ((LD (h.or.set u (rU k 0 0))).map (·.2)).Perm _;rw [hld];exact L.Wl
   ·have C:q∈LD (h.or.set u (rU k 0 0)):=C;rw [hld] at C;obtain ⟨m,j,q1,q2,q3,q4⟩:=L.Wm q C;refine ⟨m,j,q1,q2,q3,?_⟩;show q.2∈told 13 (h.Un++_)\/∃x1,ja (settled h.Fd [x.cmd.UA]).Uj q.2=some x1/\_;rw [t13,V];by_cases e:q.2=x.cmd.UA
    ·exact .inl (by simp [e])
    ·rw [d8 (by simpa using e)];rcases q4 with z|z
     ·exact .inl (by simp [z])
     ·exact .inr z
   ·have C:q∈told 13 (h.Un++[oW 13 (h.or.length+h.LE.length+h.Fn.length:Nat) 0 x.cmd.UA 0]):=C;rw [t13] at C;show q<=h.Fd.given/\ja (settled h.Fd [x.cmd.UA]).Uj q=none;rw [V];rcases f8.1 C with z|z
    ·refine ⟨(L.Wj q z).1,?_⟩;split
     ·rfl
     ·exact (L.Wj q z).2
    ·obtain rfl:=g8.1 z;exact ⟨yg,d7 (by simp)⟩
   ·show eR (h.held.eraseIdx i)=(h.Fd.waiting.filter (λz=>decide (z∉ [x.cmd.UA]))).map (λp=>(p,((ja (settled h.Fd [x.cmd.UA]).Uj p).map (·.UD)).getD 0));rw [e2,<- w2,<- w5,<- k8,w1,yt,List.filter_cons_of_neg (by simp),<- yt,List.filter_eq_self.2 λq C=>by simpa using hne q C];refine Tv λq C=> ?_
    rw [V,d8 (by simpa using hne q C)]
  |over u k x hnf hl Z K B hm=>
   have hcl:=hrd.hyp hnf hl;obtain ⟨cmd,hcm,h10⟩:=(hE.Vq u k K).clo hcl hov Z;refine L.plain (es:=[AM _]) rfl (λe z=>by rw [g8.1 z];exact ⟨by simp [AM],by simp [AM]⟩) (CU K ?_) rfl rfl rfl rfl rfl
   rw [ans (cmd:=cmd) 0 0 K (by unfold gr;rw [d7 ⟨hcl,hov,Z⟩];omega) (λy hy=>by rw [hcm] at hy;exact (i8 hy).symm),no4 (.inl (by omega)),i4]
  |refuse x xs u k _ hl _ K B=>exact I rfl rfl rfl rfl nil (X (by rw [hl];simp) K B (.inr (by decide))) rfl
  |cmd x xs u k S N E es _ hl _ K B Z=>
   have G:x∈h.TZ++h.held:=by rw [hl];simp
   cases Z with
   |load n e S h4 T=>
    obtain ⟨v,e1,e2,e3⟩:=nV W (W.call x G).2.1;rw [e1] at T;split at T
    ·rename_i hv0
     cases T
     rw [d8 hv0];exact I rfl rfl rfl rfl nil (X G K B (.inr hv0)) rfl
    ·rename_i hv0
     split at T
     ·cases T
      exact I rfl rfl rfl rfl nil (X G K B (.inr (by decide))) rfl
     ·cases T
      have hv0:v.2=0:=by omega
      obtain ⟨g1,g2,g3⟩:=e3 hv0;obtain ⟨j,hj⟩:=E1 e2 hv0;have hf:=rl W.UO;have V:=λq=>Mu (x:=⟨v.1,0⟩) hf q
      have hg0:=W.UO.VJ;have hld:ld (rU k (h.Fd.given+1) 0)=ld k++[(x.cmd.Uq,h.Fd.given+1)]:=by rw [call _ 0 G K B];exact congrArg _ (d7 ⟨h4,rfl⟩)
      rw [d7 rfl];have t12:told 12 (h.Un++[oW 12 (h.or.length+h.LE.length+h.Fn.length:Nat) 0 (h.Fd.given+1) 0])=told 12 h.Un++[h.Fd.given+1]:=by rw [dP];rfl
      have t13:told 13 (h.Un++[oW 12 (h.or.length+h.LE.length+h.Fn.length:Nat) 0 (h.Fd.given+1) 0])=told 13 h.Un:=by rw [dP];exact i4 _
      have hp:=Rn B hld;refine ⟨?_,?_,λq C=> ?_,λq C=> ?_,?_⟩
      ·show told 12 (h.Un++_)=(List.range (h.Fd.given+1).toNat).map _;rw [t12,L.came,show (h.Fd.given+1).toNat=h.Fd.given.toNat+1 by omega,List.range_succ,k8];simp;omega
      ·show ((LD (h.or.set u _)).map (·.2)).Perm (told 12 (h.Un++_));rw [t12];refine (hp.map _).trans ?_;rw [k8];exact L.Wl.append (List.Perm.refl _)
      ·show ∃m j,_/\_/\_/\(q.2∈told 13 (h.Un++_)\/∃x1,ja (mput h.Fd.Uj (h.Fd.given+1) ⟨v.1,0⟩) q.2=some x1/\_)
       rw [t13,V];rcases f8.1 (hp.mem_iff.1 (show q∈LD (h.or.set u _) from C)) with z|z
       ·obtain ⟨m,j,q1,q2,q3,q4⟩:=L.Wm q z;refine ⟨m,j,q1,q2,q3,q4.imp id λ⟨y,y1,y2⟩=>⟨y,?_,y2⟩⟩;have:=(W.UO.prog _ _ y1).2.1;rw [d8 (by omega)];exact y1
       ·obtain rfl:=g8.1 z;exact ⟨v.1,j,hj,g1,g2,.inr ⟨_,d7 rfl,rfl⟩⟩
      ·have C:q∈told 13 (h.Un++[oW 12 (h.or.length+h.LE.length+h.Fn.length:Nat) 0 (h.Fd.given+1) 0]):=C;rw [t13] at C;have:=L.Wj q C;show q<=h.Fd.given+1/\ja (mput h.Fd.Uj (h.Fd.given+1) ⟨v.1,0⟩) q=none;rw [V,d8 (by omega)];exact ⟨by omega,this.2⟩
      ·show eR h.held=h.Fd.waiting.map (λp=>(p,((ja (mput h.Fd.Uj (h.Fd.given+1) ⟨v.1,0⟩) p).map (·.UD)).getD 0));rw [L.held];refine Tv λq C=> ?_
       obtain ⟨_,_,_,C⟩:=wget C;rw [V,d8 (by omega)]
   |attach v e S h5 ha=>
    obtain ⟨q,U,J⟩:=rm W.UO x.cmd.UF x.cmd.UA;rw [ha] at U;cases U;have T:=X (N:=N) (E:=E) G K B (.inl (by omega));by_cases e0:E=0
    ·obtain ⟨_,_,l,_,e2⟩:=J.yes e0;rw [d7 e0];exact I (by rw [show S=_ from e2];rfl) (by rw [show S=_ from e2];rfl) (by rw [show S=_ from e2];rfl) (by rw [show S=_ from e2];rfl) M T rfl
    ·rw [d8 e0,show S=_ from (J.no e0).2];exact I rfl rfl rfl rfl nil T rfl
   |swap v e S h6 ha=>
    obtain ⟨q,U,J⟩:=A8 W.UO x.cmd.UF x.cmd.UA;rw [ha] at U;cases U;have T:=X (N:=N) (E:=E) G K B (.inl (by omega));by_cases e0:E=0
    ·obtain ⟨_,_,l,_,e2⟩:=J.yes e0;rw [d7 e0];exact I (by rw [show S=_ from e2];rfl) (by rw [show S=_ from e2];rfl) (by rw [show S=_ from e2];rfl) (by rw [show S=_ from e2];rfl) M T rfl
    ·rw [d8 e0,show S=_ from (J.no e0).2];exact I rfl rfl rfl rfl nil T rfl
   |detach e tb h7 O=>
    refine I rfl rfl rfl rfl ?_ (X G K B (.inl (by omega))) rfl;split
    ·exact M
    ·exact nil
   |retire v e S h8 hr he=>
    obtain ⟨q,U,J⟩:=iF W.UO x.cmd.UA;rw [hr] at U;cases U;rcases J with ⟨_,_,J⟩|⟨J,_⟩
    ·rw [show S=_ from J];exact I rfl rfl rfl rfl nil (X G K B (.inr he)) rfl
    ·exact absurd J he
  |hold x xs v S _ hl _ h8 hr=>
   obtain ⟨q,U,J⟩:=iF W.UO x.cmd.UA;rw [hr] at U;cases U;rcases J with ⟨J,_⟩|⟨_,Y,y,hy,hy0,_,J⟩
   ·exact absurd rfl J
   have Y:v=h.Fd.Uo.Vs+1:=Y;have J:S=retired h.Fd x.cmd.UA y:=J;subst J
   have hg:∀q,ja (retired h.Fd x.cmd.UA y).Uj q=if x.cmd.UA=q then some ⟨y.module,h.Fd.Uo.Vs+1⟩ else ja h.Fd.Uj q:=by
    grind [Go.Proofs.YtplmgfkghomelaaGreatDoor.retired,uJ]
   have D:∀m,told m (h.Un++[])=told m h.Un:=λm=>by rw [i4]
   refine ⟨?_,?_,λq C=> ?_,λq C=> ?_,?_⟩
   ·exact (D 12).trans L.came
   ·show List.Perm _ (told 12 (h.Un++[]));rw [D];exact L.Wl
   ·obtain ⟨m,j,q1,q2,q3,q4⟩:=L.Wm q C;refine ⟨m,j,q1,q2,q3,?_⟩;show q.2∈told 13 (h.Un++[])\/∃z,ja (retired h.Fd x.cmd.UA y).Uj q.2=some z/\_;rw [D,hg];refine q4.imp id λ⟨z,z1,z2⟩=> ?_
    split
    ·rename_i e;rw [<- e,hy] at z1;cases z1;exact ⟨_,rfl,z2⟩
    ·exact ⟨z,z1,z2⟩
   ·have C:q∈told 13 (h.Un++[]):=C;rw [D] at C;have:=L.Wj q C;show q<=h.Fd.given/\ja (retired h.Fd x.cmd.UA y).Uj q=none;rw [hg,d8 (λe=>by rw [e,this.2] at hy;cases hy)];exact this
   ·show eR (h.held++[{x with Vt:=v}])=(h.Fd.waiting++[x.cmd.UA]).map (λp=>(p,((ja (retired h.Fd x.cmd.UA y).Uj p).map (·.UD)).getD 0));rw [nC,L.held,k8]
    congr 1
    ·refine Tv λq C=> ?_
     obtain ⟨z,z1,z2,_⟩:=wget C;rw [hg,d8 (λe=>by rw [e,z1] at hy;cases hy;omega)]
    ·rw [List.map_singleton,hg,d7 rfl];simp [eR,h8];exact Y
  |drain x xs _ hl _ h9=>exact I rfl rfl rfl rfl nil rfl (by rw [nC,show eR [x]=[] by simp [eR,h9],i4])
  |close x xs _ hl _ h10=>
   refine L.plain (es:=pT _ h.rings++[oW 14 _ 0 0 0]) (u6 ..) (λe z=> ?_) rfl rfl rfl rfl rfl rfl;rcases f8.1 z with z|z
   ·rw [Ht _ _ e z];decide
   ·rw [g8.1 z];exact ⟨by simp [oW],by simp [oW]⟩
end Go.Proofs.YtplmgfkghomelaaGreatDoor.KH
