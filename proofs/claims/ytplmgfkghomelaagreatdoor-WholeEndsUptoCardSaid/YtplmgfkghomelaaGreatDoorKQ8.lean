/- Lemmas. -/
import Derived.Test.YtplmgfkghomelaaGreatDoorKT2
import Derived.Test.YtplmgfkghomelaaGreatDoorD1
set_option linter.all false
namespace Go.Proofs.YtplmgfkghomelaaGreatDoor.KH
open Go.Sx
variable {h I:za}{c:zG}{D:List (List zJ)}{a b d n i C A:Nat}{F:zb}{ws:List zB}{es:List ze}{g:zn}{f:List zc}{m:List zp}{e:ze}{o t:zc}{q:aH}{x:zq}{B:List zd}{l G:List zx}{j y:ql}{p0:qt}
abbrev kt(r:zp):Nat:=r.waiting.length
theorem HE.wrk(c:HE a b d h)(v:∀u:Nat,u<h.or.length->bQ f u=bQ h.Fd u)(y:∀(i:Nat) o,f[i]? =some o->∃t,h.Fd[i]? =some t/\t.SZ=o.SZ)
  (n:∀(j:Nat) w x,ws[j]? =some w->g.SU[a+j]? =some x->w.SZ=true->x.SY=2) (p:∀(i:Nat) x,g.SU[i]? =some x->x.SY=2\/h.Td.SU[i]? =some x)
  (I:wgt e+(jV kt h.rings:Int)+(jV ir h.LE:Int)=(jV kt m:Int)+(jV ir ws:Int)):HE a b d (BA h F g ws f m e):=by
 refine {c with Um:=λu k r=> ?_,mW:=n,mO:=λi o x l A B=> ?_,mR:=λx l z=> ?_,Vb:= ?_}
 ·have hl:=(zes.1 (show h.or[u]? =some k from r)).1;exact (c.Um u k r).mono (λx l e=>⟨x,l,e,rfl⟩) (λC D E=>.inl ⟨C,D,E⟩) (λz=>z) (λz=>by show bQ f u=0;rw [v u hl];exact z) (λz=>.inl z)
 ·obtain ⟨t,s,G⟩:=y i o l;rcases p _ x A with z|z
  ·exact z
  ·exact c.mO i t x s z (by rw [G];exact B)
 ·rcases p _ x l with q|q
  ·exact q
  ·exact c.mR x q z
 ·show ((h.Tr++[e]).map wgt).sum=(jV kt m:Int)+(jV ir ws:Int)
  have s:(h.Tr.map wgt).sum=(jV kt h.rings:Int)+(jV ir h.LE:Int):=c.Vb;rw [o7,yh];simp only [t6,List.map_nil,ym,List.sum_nil];omega
theorem HE.srv(hI:HI c D n h)(m:HE a b d h)(L:h.Fd[i]? =some o){Z:List zq}(I:sj 2199023255552 o q t x Z)(M:∀(j:Nat) w,ws[j]? =some w->∃v,h.LE[j]? =some v/\w.SZ=v.SZ)(N:jV ir ws=jV ir h.LE) (E:B=h.or\/∃(u:Nat)(k:zd)(A:List zk)(O:List (List zt)),h.or[u]? =some k/\x.Ud=u/\B=h.or.set u (QY k A O)) (P:(es.map wgt).sum=0):HE a b d (FC h B ws (h.Fd.set i t) es):=by
 have Q:=I.sh
 have F:∀f:Int,bQ (h.Fd.set i t) f<=bQ h.Fd f:=λf=>by
  have J:=gC L t f;have h2:=ui Z x f;rw [I.SX,I.UY] at J;omega
 have mono:∀(u:Nat) k,h.or[u]? =some k->CE (FC h B ws (h.Fd.set i t) es) u k:=λu k g=>(m.Um u k g).mono (λx hx e=>⟨x,hx,e,rfl⟩) (λR S T=>.inl ⟨R,S,T⟩) (λz=>z) (λz=>by have:=F u;show bQ (h.Fd.set i t) u=0;omega) (λz=>.inl z)
 have s:∀u:Nat,x.Ud=u->1<=bQ h.Fd u:=λu g=>by
  have:=pD (zmg L) (r:=x) (by rw [I.SX];simp);rw [g] at this;exact this
 refine {m with Um:=λu k g=> ?_,conv:=λz=> ?_,mW:=λj w y hw K e=> ?_,mO:=λj p y U K e=> ?_,Vb:= ?_}
 ·rcases E with rfl|⟨v,V,A,O,C,W,rfl⟩
  ·exact mono u k g
  ·rcases jS g with ⟨rfl,rfl,_⟩|⟨_,g⟩
   ·have hm:=mono u V C;refine {hm with UH:=λl R S T=> ?_};have:=((m.Um u V C).UH l R S T).1;have:=s u W;omega
   ·exact mono u k g
 ·obtain ⟨u,k,g,j,l,X,Y,G⟩:=m.conv z;rcases E with rfl|⟨v,V,A,O,C,W,rfl⟩
  ·exact ⟨u,k,g,j,l,X,Y,G⟩
  ·by_cases e:u=v
   ·subst e;rw [C] at g;cases g;refine ⟨u,_,iN C,j,l,X,Y,?_⟩;rcases G with G|⟨w1,w2,w3,w4⟩
    ·exact .inl G
    ·have:=(hI.idle C w3).1;have:=s u W;omega
   ·exact ⟨u,k,vc g e,j,l,X,Y,G⟩
 ·obtain ⟨v,J,h2⟩:=M j w hw;exact m.mW j v y J K (by rw [<- h2];exact e)
 ·rcases jS (show (h.Fd.set i t)[j]? =some p from U) with ⟨rfl,rfl,_⟩|⟨_,U⟩
  ·exact m.mO _ o y L K (by rw [<- Q.2.2.1];exact e)
  ·exact m.mO j p y U K e
 ·show ((h.Tr++es).map wgt).sum=(jV kt h.rings:Int)+(jV ir ws:Int)
  have J:(h.Tr.map wgt).sum=(jV kt h.rings:Int)+(jV ir h.LE:Int):=m.Vb;rw [o7,yh,P,N];omega
theorem HE.rul(j:HE a b d h)(i:h.over=false)(r:(es.map wgt).sum=0)(s:∀x∈G,x.cmd.SV=8\/x.cmd.SV=9)(f:∀x∈l++G,∃y∈h.SX++h.held,y.Tn=x.Tn/\y.cmd=x.cmd)
  (t:(B=h.or/\∀v:Nat,bV l v+bV G v=bV h.SX v+bV h.held v)\/∃(u:Nat)(k:zd)(N E:Int),h.or[u]? =some k/\B=h.or.set u (AC k N E)/\(E≠0\/∀c,k.Tj[k.Tt.toNat]? =some c->c.SV≠10)/\∀v:Nat,v≠u->bV l v+bV G v=bV h.SX v+bV h.held v):HE a b d (sk h F B l G es):=by
 have mono:∀(u:Nat) k,h.or[u]? =some k->bV l u+bV G u=bV h.SX u+bV h.held u->CE (sk h F B l G es) u k:=λu k g m=>(j.Um u k g).mono (λx w e=>by obtain ⟨y,n,A,C⟩:=f x w;exact ⟨y,n,A.trans e,C⟩) (λD o I=>.inl ⟨D,o,I⟩) (λz=>z) (λz=>z) (λz=>.inl (by
   have z:bV l u+bV G u+(if h.closed=true/\h.over=false/\h.Tb=(u:Int) then 1 else 0)=0:=z;unfold gE;omega))
 refine {j with Um:=λu k g=> ?_,held:=s,conv:=λz=>(by rw [show h.over=true from z] at i;cases i),Vb:= ?_}
 ·rcases t with ⟨rfl,m⟩|⟨v,L,N,E,M,rfl,J,m⟩
  ·exact mono u k g (m u)
  ·rcases jS g with ⟨rfl,rfl,_⟩|⟨K,g⟩
   ·have p:=j.Um u L M;refine ⟨λx w e=> ?_,p.clo,p.UX,λc D o I=>⟨(p.UH c D o I).1,λO _ z=> ?_⟩⟩
    ·obtain ⟨y,n,A,C⟩:=f x w;rw [<- C];exact p.call y n (A.trans e)
    ·rcases J with q|q
     ·exact absurd z q
     ·exact absurd O (q c o)
   ·exact mono u k g (m u K)
 ·show ((h.Tr++es).map wgt).sum=(jV kt h.rings:Int)+(jV ir h.LE:Int)
  have n:(h.Tr.map wgt).sum=(jV kt h.rings:Int)+(jV ir h.LE:Int):=j.Vb;rw [o7,yh,r];omega
open Go.Sx
theorem fX(h:(K5 g a j).SU[i]? =some y):(i=a/\y.SY=2)\/(i≠a/\g.SU[i]? =some y):=by
 rcases jS (show (g.SU.set a ⟨2,j.Uk⟩)[i]? =some y from h) with ⟨b,rfl,_⟩|h
 ·exact .inl ⟨b,rfl⟩
 ·exact .inr h
theorem CB(t:Int):∀(a:List zp)(o:Nat),(((a.mapIdx (λi r=>r.waiting.map (nQ t ((i+o:Nat):Int)))).flatten).map wgt).sum= -(jV kt a:Int)
 |[],o=>rfl
 |r::a,o=>by
  have e:(λ(i:Nat)(r:zp)=>r.waiting.map (nQ t ((i+1+o:Nat):Int)))=λi r=>r.waiting.map (nQ t ((i+(o+1):Nat):Int)):=by
   funext i r
   rw [show i+1+o=i+(o+1) by omega]
  have h:∀(z:Int)(l:List zY),((l.map (nQ t z)).map wgt).sum= -(l.length:Int):=λz l=>by
   induction l with
   |nil=>rfl
   |cons q l c=>
    simp only [t6,ym,u5,show wgt (nQ t z q)= -1 from rfl];omega
  have b:=CB t a (o+1);rw [List.mapIdx_cons,yl,e,o7,yh,h,b];simp only [jV,t6,ym,kt];omega
theorem Rw(hS:aq c D)(T:HI c D n h)(ha:h.or.length=a)(hb:h.LE.length=b)(G:h.Fd.length=d)(hJ:HJ a b d h)(B:HE a b d h)(P:Mv h C I):HE a b d I:=by
 have L:∀(i:Nat) o,h.Fd[i]? =some o->∃t,h.Fd[i]? =some t/\t.SZ=o.SZ:=λi o W=>⟨o,W,rfl⟩
 cases P with
 |back C k X Q hm=>
  refine B.fin T X hm k.Id (.inl rfl) (λcmd h1 h2 h3=>((B.Um C k X).UH cmd Q h1 (by omega)).2 h2 (T.idle X hm).2 h3) ?_;simp
 |ask C k cmd I X Q hat U P=>
  obtain ⟨s,hs,J⟩:=T.at X;have hm:=J.UM Q;cases P with
  |told E hT=>
   refine B.fin T X hm _ (.inr Q) (λcmd h1 h2 h3=>absurd h3 hT.1) ?_;simp [show wgt (mf (C:Int) k)=0 from rfl]
  |fire i r r' n E g M h3 _ hi hA=>
   refine B.fin T X hm _ (.inr Q) (λcmd2 h1 h2 _=>by rw [U] at h1;cases h1;omega) ?_;have hs:jV (λr:zp=>r.waiting.length) (h.rings.set i r')+r.waiting.length=jV (λr:zp=>r.waiting.length) h.rings+r'.waiting.length:=dK _ hi r';rcases I8 hA with ⟨_,rfl,rfl,_⟩|⟨_,rfl,_,rfl,_⟩|⟨_,rfl,_,rfl,_⟩
   ·simp [show wgt (mf (C:Int) k)=0 from rfl];omega
   ·simp only at hs;simp [show wgt (mf (C:Int) k)=0 from rfl];omega
   ·rw [q7,List.length_singleton] at hs;simp [show wgt (mf (C:Int) k)=0 from rfl,show wgt (QX (C:Int) k n i)=1 from rfl];omega
  |items M J _ _ _=>exact B.ask T hJ X Q U M _ _ _ (λu O=>iP _ _ (λx K=>by obtain ⟨j,z,_,rfl⟩:=et K;show (C:Int)≠u;omega)) (λi o W=>ep W) (.inl ⟨rfl,by omega⟩)
  |walk M J _ _=>exact B.ask T hJ X Q U M _ _ _ (λu O=>iP _ _ (λx K=>by obtain ⟨j,_,rfl⟩:=ez K;show (C:Int)≠u;omega)) (λi o W=>ep W) (.inl ⟨rfl,by omega⟩)
  |call M _ _=>exact B.ask T hJ X Q U M _ _ _ (λu O=>rfl) L (.inr ⟨rfl,rfl⟩)
 |work j w I Q hrd P=>
  have hjl:=(zes.1 Q).1;have hC:=T.crew w (zmg Q);have hJw:=hC.Tz;obtain ⟨hr1,hr2,hr4⟩:=T.hooks4 hS
  have stp:∀{a:qT} {Y:zl},w.SQ.SY=2->qz 2199023255552 w.SQ=some (a,true,Y)->Cn c.Ti.toNat c.Maps.length w.SQ a Y:=λm2 R=>by
   grind [IW]
  have go:∀{F:zb} {w':zB} {os:List zc} {rs:List zp} {e:ze},w'.SZ=w.SZ->(∀u:Nat,u<h.or.length->bQ os u=bQ h.Fd u)->(∀(i:Nat) o,os[i]? =some o->∃t,h.Fd[i]? =some t/\t.SZ=o.SZ)->
    wgt e+(jV kt h.rings:Int)+(ir w:Int)=(jV kt rs:Int)+(ir w':Int)->HE a b d (BA h F h.Td (h.LE.set j w') os rs e):=λ{F w' os rs e}he h1 h2 h3=>
   B.wrk h1 h2 (λi v x P K z=>by
    rcases jS P with ⟨rfl,rfl,_⟩|⟨_,P⟩
    ·exact B.mW _ w x Q K (by rw [<- he];exact z)
    ·exact B.mW i v x P K z) (λi x K=>.inr K) (by have:=dK ir Q w';omega)
  have b0:∀{w:zB},w.SQ.SY=0->ir w=0:=λe=>d7 e
  have Z:∀{w:zB},w.SQ.SY≠0->ir w=1:=λe=>d8 e
  cases P with
  |ends x m0 M J hm=>
   refine B.wrk (λ_ _=>rfl) L (λi v y P A z=> ?_) (λi y A=> ?_) ?_
   ·rcases fX A with ⟨_,e⟩|⟨hn,A⟩
    ·exact e
    ·rcases jS P with ⟨rfl,rfl,_⟩|⟨_,P⟩
     ·omega
     ·exact B.mW i v y P A z
   ·rcases fX A with ⟨_,e⟩|⟨hn,A⟩
    ·exact .inl e
    ·exact .inr A
   ·rw [pP ir (y:={w with SZ:=true}) Q rfl,show ∀C,wgt (IG C)=0 from λ_=>rfl];omega
  |take i r r' q qs cur m0 M hi hwt htk c0 c1=>
   obtain rfl:=Oh hwt htk;refine go rfl (λ_ _=>rfl) L ?_;have hs:=dK kt hi ⟨r.room,r.Uf,qs,⟨r.counts.TO,r.counts.TY,w64 (r.counts.Uw+1),r.counts.TW,r.counts.Uc⟩⟩;rw [show kt r=qs.length+1 by show r.waiting.length=_;rw [hwt];rfl,show kt ⟨r.room,r.Uf,qs,⟨r.counts.TO,r.counts.TY,w64 (r.counts.Uw+1),r.counts.TW,r.counts.Uc⟩⟩=qs.length from rfl] at hs;rw [b0 m0,Z (show (1:Int)≠0 by decide)];simp only [show wgt (Cc 5 ((h.or.length+j:Nat):Int) q.N i 0 0 0 kj uk 0)=0 from rfl];omega
  |skip st v p m1 hcu hsk=>
   refine go rfl (λ_ _=>rfl) L ?_;rw [Z (show w.SQ.SY≠0 by omega),b0 (show (0:Int)=0 from rfl),show ∀C ev J,wgt (Cc 9 C ev J 0 0 0 kj uk 0)= -1 from λ_ _ _=>rfl];omega
  |enter v p m b e1 e2 ck e Y m1 hcu hmo he hE2=>
   obtain ⟨m3,b3,hm3,h1,h2,h3⟩:=T.module p;rw [hmo] at hm3;cases hm3;obtain ⟨e3,W2,hE3,_,hW⟩:=Cm hJw m1 h1 h2 h3 v p;rw [hE2] at hE3;cases hE3;refine go rfl (λ_ _=>rfl) L ?_;rw [Z (show w.SQ.SY≠0 by omega),Z (show Y.SY≠0 by grind),show ∀C ev J p v,wgt (Cc 6 C ev J p v 0 kj uk 0)=0 from λ_ _ _ _ _=>rfl];omega
  |note x Y m2 R k3=>
   rcases stp m2 R with ⟨z,_⟩|⟨z,_⟩|⟨_,m,g,_⟩
   ·omega
   ·omega
   ·refine go rfl (λ_ _=>rfl) L ?_;rw [Z (show w.SQ.SY≠0 by omega),Z (show Y.SY≠0 by omega),show ∀C ev p v pc y,wgt (Cc 8 C ev 0 p v pc kj uk y)=0 from λ_ _ _ _ _ _=>rfl];omega
  |ran x Y m2 R k1=>
   rcases stp m2 R with ⟨z,_⟩|⟨z,_⟩|⟨_,m,g,_⟩
   ·omega
   ·omega
   ·refine go rfl (λ_ _=>rfl) L ?_;rw [Z (show w.SQ.SY≠0 by omega),Z (show Y.SY≠0 by omega),show ∀C ev p v pc y,wgt (Cc 7 C ev 0 p v pc kj uk y)=0 from λ_ _ _ _ _ _=>rfl];omega
  |done x Y e1 ck m2 R k4 hlv=>
   rcases stp m2 R with ⟨_,m,_⟩|⟨z,_⟩|⟨z,_⟩
   ·refine go rfl (λ_ _=>rfl) L ?_;rw [Z (show w.SQ.SY≠0 by omega),b0 m,show ∀C ev J p v pc y,wgt (Cc 9 C ev J p v pc kj uk y)= -1 from λ_ _ _ _ _ _ _=>rfl];omega
   ·omega
   ·omega
  |ask x Y m2 R k2=>
   rcases stp m2 R with ⟨z,_⟩|⟨_,m,g,_⟩|⟨z,_⟩
   ·omega
   ·refine go rfl (λu O=>iP [_] _ (λx K=>by rw [i6.1 K];show ((h.or.length+j:Nat):Int)≠u;omega)) (λi o W=>pE W) ?_;rw [Z (show w.SQ.SY≠0 by omega),Z (show Y.SY≠0 by omega),show ∀C ev p v pc i y,wgt (Cc 16 C ev 0 p v pc i uk y)=0 from λ_ _ _ _ _ _ _=>rfl];omega
   ·omega
  |back r Y m3 hr hA=>
   obtain ⟨W2,hW2,_,hm,g,_⟩:=kX hJw m3 (hC.rep r hr);rw [hA] at hW2;cases hW2;refine go rfl (λ_ _=>rfl) L ?_;rw [Z (show w.SQ.SY≠0 by omega),Z (show Y.SY≠0 by omega),show ∀C ev p v pc r,wgt (Cc 17 C ev 0 p v pc kj r 0)=0 from λ_ _ _ _ _ _=>rfl];omega
 |serve i o I W hrd P=>
  have hil:=(zes.1 W).1;have sw:∀(j:Nat) w,h.LE[j]? =some w->∃v,h.LE[j]? =some v/\w.SZ=v.SZ:=λj w Q=>⟨w,Q,rfl⟩
  cases P with
  |ends C x X hl J hm=>
   have hcnt:∀f:Int,bQ (h.Fd.set i {o with SZ:=true}) f=bQ h.Fd f:=λf=>by
    have h2:_+sL o.SX f=_+sL o.SX f:=gC W {o with SZ:=true} f;omega
   refine {B with Um:=λu k O=>(B.Um u k O).mono (λx K e=>⟨x,K,e,rfl⟩) (λz1 z2 z3=>.inl ⟨z1,z2,z3⟩) (λz=>z) (λz=>(hcnt u).trans z) (λz=>.inl z),mW:=λj w y Q A e=> ?_,mO:=λj p y hp A e=> ?_,mR:=λy A z=> ?_,Vb:= ?_}
   ·rcases fX A with ⟨_,q⟩|⟨hn,A⟩
    ·exact q
    ·exact B.mW j w y Q A e
   ·rcases fX A with ⟨_,q⟩|⟨hn,A⟩
    ·exact q
    ·rcases jS (show (h.Fd.set i _)[j]? =some p from hp) with ⟨rfl,rfl,_⟩|⟨_,hp⟩
     ·omega
     ·exact B.mO j p y hp A e
   ·rcases fX A with ⟨_,q⟩|⟨hn,A⟩
    ·exact q
    ·exact B.mR y A z
   ·show ((h.Tr++[IG C]).map wgt).sum=_;rw [o7,yh];have:=B.Vb;simp only [t6,List.map_nil,ym,List.sum_nil,show wgt (IG (C:Int))=0 from rfl];exact this ▸ (by omega)
  |crew C q t x V j w X hq hf Q=>
   refine B.srv T W hq (ws:=h.LE.set j (Rq w q.TD)) (es:=[Qc C q 0 w.SQ.Tz.TE.N]) (λk v P=> ?_) (pP _ Q rfl) (.inl rfl) rfl;rcases jS P with ⟨rfl,rfl,_⟩|⟨hn,P⟩
   ·exact ⟨w,Q,rfl⟩
   ·exact ⟨v,P,rfl⟩
  |walk q t x V u k hq hf J _ _ _=>exact B.srv T W hq sw rfl (.inr ⟨u,k,_,_,J,hf,rfl⟩) rfl
  |item C q t x V u k X hq hf J _ _ _=>exact B.srv T W hq sw rfl (.inr ⟨u,k,_,_,J,hf,rfl⟩) rfl
 |rule I hrd P=>
  have S:=hrd.1
  have cur:∀{x:zx} {u:Nat} {k:zd},x∈h.SX++h.held->x.Tn=u->h.or[u]? =some k->∀cmd,k.Tj[k.Tt.toNat]? =some cmd->cmd=x.cmd:=λ{x u k}K O J cmd U=>by
   rw [(B.Um u k J).call x K O] at U;exact (j6 U).symm
  have lsub:∀{x V},h.SX=x::V->∀y∈V++h.held,∃z∈h.SX++h.held,z.Tn=y.Tn/\z.cmd=y.cmd:=λe y A=>⟨y,by rw [e];rcases g8.1 A with A|A<;>simp [A],rfl,rfl⟩
  have lcnt:∀{x V} {u:Nat},h.SX=x::V->x.Tn=u->∀v:Nat,v≠u->bV V v+bV h.held v=bV h.SX v+bV h.held v:=λe O v hne=>by
   rw [e,ij,d8 (by omega)];rfl
  have hmem:∀{x:zx} {i:Nat},h.held[i]? =some x->x∈h.SX++h.held:=λK=>zar _ (zmg K)
  have hera:∀{x:zx} {i:Nat} {es:List ze} {F:zb} {u:Nat} {k:zd},h.held[i]? =some x->x.Tn=u->h.or[u]? =some k->(es.map wgt).sum=0->HE a b d (sk h F (h.or.set u (AC k 0 0)) h.SX (h.held.eraseIdx i) es):=λ{x i es F u k}K O J hes=>
   B.rul S hes (λy A=>B.held y (SO A)) (λy A=>⟨y,(g8.1 A).elim (λA=>zal _ A) (λA=>zar _ (SO A)),rfl,rfl⟩)
    (.inr ⟨u,k,0,0,J,rfl,.inr λcmd U=>by rw [cur (hmem K) O J cmd U];have:=B.held x (zmg K);omega,λv hne=>by have:=rF K (v:Int);rw [d8 (by omega)] at this;omega⟩)
  cases P with
  |fin i x u k K _ O J _=>exact hera K O J rfl
  |retired i x u k K _ O J _=>exact hera K O J rfl
  |over u k x hnf hl U O J hm=>
   have M:=hrd.hyp hnf hl;have hmiss:=T.Ut u k O;obtain ⟨s,hs,hk2⟩:=T.at O;have hreg:1<=gE h u:=by unfold gE;rw [d7 ⟨M,S,U⟩];omega
   have hwt:k.waits=true:=by
    cases Q:k.waits with
    |true=>rfl
    |false=>have:=hk2.UM Q;omega
   obtain ⟨cmd,hcm,h10⟩:=(B.Um u k O).clo M S U;have h0:=hk2.Ve;refine {B with Um:=λv k2 P=> ?_,conv:=λ_=>⟨u,_,iN O,k.Tt.toNat,cmd,hcm,h10,.inr ⟨hwt,by show k.Tt=_;omega,rfl,rfl⟩⟩,mW:=λj w y Q A e=> ?_,mO:=λj p y hp A e=> ?_,mR:=λy A z=> ?_,Vb:= ?_}
   ·have mono:∀(v:Nat) k2,h.or[v]? =some k2->CE {h with Td:=K5 h.Td (h.or.length+h.LE.length+h.Fd.length) x,or:=h.or.set u (AC k 0 0),over:=true,Tr:=h.Tr++[IG ((h.or.length+h.LE.length+h.Fd.length:Nat):Int)]} v k2:=λv k2 P=>
     (B.Um v k2 P).mono (λx K e=>⟨x,K,e,rfl⟩) (λ_ z=>by cases z) (λ_=>rfl) (λz=>z) (λ_=>.inr rfl)
    rcases jS P with ⟨rfl,rfl,_⟩|⟨hne,P⟩
    ·have hm:=mono v k O;exact {hm with UH:=λcmd z1 z2 z3=>⟨(hm.UH cmd z1 z2 z3).1,λ_ _ _=>rfl⟩}
    ·exact mono v k2 P
   ·rcases fX A with ⟨_,q⟩|⟨hn,A⟩
    ·exact q
    ·exact B.mW j w y Q A e
   ·rcases fX A with ⟨_,q⟩|⟨hn,A⟩
    ·exact q
    ·exact B.mO j p y hp A e
   ·rcases fX A with ⟨_,q⟩|⟨hn,A⟩
    ·exact q
    ·omega
   ·show ((h.Tr++[IG ((h.or.length+h.LE.length+h.Fd.length:Nat):Int)]).map wgt).sum=_;rw [o7,yh];have:=B.Vb;simp only [t6,List.map_nil,ym,List.sum_nil,show ∀C,wgt (IG C)=0 from λ_=>rfl];exact this ▸ (by omega)
  |refuse x V u k _ hl _ O J=>exact B.rul S rfl B.held (lsub hl) (.inr ⟨u,k,0,43,J,rfl,.inl (by decide),lcnt hl O⟩)
  |cmd x V u k r' N E es _ hl _ O J U=>
   have K:x∈h.SX++h.held:=by rw [hl];simp
   have hes:(es.map wgt).sum=0/\x.cmd.SV≠10:=by
    have w0:∀m C J p v,m=11\/m=12->wgt (AD m C J p v)=0:=λm C J p v e=>by rcases e with rfl|rfl<;>rfl
    cases U<;>refine ⟨?_,by omega⟩<;>(try split)<;>simp [w0]
   exact B.rul S hes.1 B.held (lsub hl) (.inr ⟨u,k,N,E,J,rfl,.inr λcmd U=>by rw [cur K O J cmd U];exact hes.2,lcnt hl O⟩)
  |hold x V v r' _ hl _ h8 hr=>
   refine B.rul S rfl (λy A=> ?_) (λy A=> ?_) (.inl ⟨rfl,λv=> ?_⟩)
   ·rcases g8.1 A with A|A
    ·exact B.held y A
    ·rw [i6.1 A];show x.cmd.SV=8\/x.cmd.SV=9;omega
   ·rcases g8.1 A with A|A
    ·exact ⟨y,by rw [hl];simp [A],rfl,rfl⟩
    ·rcases g8.1 A with A|A
     ·exact ⟨y,by simp [A],rfl,rfl⟩
     ·rw [i6.1 A];exact ⟨x,by rw [hl];simp,rfl,rfl⟩
   ·rw [hl,gD,ij V x,nC];show _+(_+if x.Tn=(v:Int) then 1 else 0)=_;omega
  |drain x V _ hl _ h9=>
   refine B.rul S rfl (λy A=> ?_) (λy A=> ?_) (.inl ⟨rfl,λv=> ?_⟩)
   ·rcases g8.1 A with A|A
    ·exact B.held y A
    ·rw [i6.1 A];omega
   ·rcases g8.1 A with A|A
    ·exact ⟨y,by rw [hl];simp [A],rfl,rfl⟩
    ·rcases g8.1 A with A|A
     ·exact ⟨y,by simp [A],rfl,rfl⟩
     ·rw [i6.1 A];exact ⟨x,by rw [hl];simp,rfl,rfl⟩
   ·rw [hl,gD,ij V x,nC];show _+(_+if x.Tn=(v:Int) then 1 else 0)=_;omega
  |close x V _ hl M h10=>
   have K:x∈h.SX++h.held:=by rw [hl];simp
   refine {B with Um:=λu k O=>(B.Um u k O).mono (λy A e=>⟨y,by rw [hl];rcases g8.1 A with A|A<;>simp [A],e,rfl⟩) (λ_ _ z3=>.inr ⟨x.cmd,(B.Um u k O).call x K z3,h10⟩) (λz=>z) (λz=>z) (λz=>.inl ?_),Vb:= ?_}
   ·have z:bV V u+bV h.held u+(if true=true/\h.over=false/\x.Tn=(u:Int) then 1 else 0)=0:=z;unfold gE;rw [hl,ij,d8 (c:=h.closed=true/\_) (λq=>by rw [q.1] at M;cases M)];by_cases e:x.Tn=u
    ·rw [d7 ⟨rfl,S,e⟩] at z;omega
    ·rw [d8 e];omega
   ·show ((h.Tr++sM _ h.rings++[AD 14 _ 0 0 0]).map wgt).sum=(jV kt (h.rings.map rC):Int)+(jV ir h.LE:Int)
    have h1:(h.Tr.map wgt).sum=(jV kt h.rings:Int)+(jV ir h.LE:Int):=B.Vb;have h2:=CB ((h.or.length+h.LE.length+h.Fd.length:Nat):Int) h.rings 0;have h3:((sM ((h.or.length+h.LE.length+h.Fd.length:Nat):Int) h.rings).map wgt).sum= -(jV kt h.rings:Int):=h2;rw [o7,o7,yh,yh,h3,fY (f:=kt) (l:=h.rings.map rC) (λr hr=>by obtain ⟨r0,_,rfl⟩:=x8.1 hr;rfl)];simp only [t6,List.map_nil,ym,List.sum_nil,show ∀C,wgt (AD 14 C 0 0 0)=0 from λ_=>rfl];omega
open Go.Sx
def uz(S:Int)(x:zJ):Nat:=4+max 1 x.Tw.length+S.toNat+if x.SV=3 then 770 else 0
theorem Of(P:0<=p0.C.SR/\p0.C.SR<=4)(hl:p0.Tg.length<=4)(g:∀s∈p0.Tg,s.length<=64)(K:∀s∈p0.Tg,∀c∈s,Fit c)(Q:A<=100):
  jM (bM 2199023255552 p0) (λ(j:Int)=>j) (p0.Tg).length 0 (A:Int)=some ((A+jV (jV (uz p0.C.SR)) p0.Tg:Nat):Int):=by
 have b:∀s∈p0.Tg,∀c∈s,uz p0.C.SR c<=4398046512000:=λs g c u=>by
  have:=(K s g c u).items;unfold uz;split<;>omega
 have w:∀s∈p0.Tg,∀k,jV (uz p0.C.SR) (s.take k)<=64*4398046512000:=λs h k=>by
  have v:=lU (f:=uz p0.C.SR) (k:=4398046512000) (l:=s.take k) λx n=>b s h x (y7 n)
  have N:=g s h;have D:(s.take k).length<=s.length:=by simp;omega
  exact p9 v (p7 _ (by omega))
 have y:∀k,jV (jV (uz p0.C.SR)) (p0.Tg.take k)<=4*(64*4398046512000):=λk=>by
  have v:=lU (f:=jV (uz p0.C.SR)) (k:=64*4398046512000) (l:=p0.Tg.take k) λx n=>by
   have:=w x (y7 n) x.length;rw [z9] at this;exact this
  have D:(p0.Tg.take k).length<=p0.Tg.length:=by simp;omega
  exact p9 v (p7 _ (by omega))
 have d:∀{F:Type} (f:F->Nat) (l:List F) (x:F),jV f (l++[x])=jV f l+f x:=λf l x=>by simp [jV]
 refine OK.is (i7 (λi s=>s=((A+jV (jV (uz p0.C.SR)) (p0.Tg.take i):Nat):Int)) (by simp [jV]) (λi s p O G E=> ?_) (λs g=>by rw [g,z9]));subst G;have n:=zeg O;have a:=zmg n;have R:=y i;unfold bM;generalize I:A+jV (jV (uz p0.C.SR)) (p0.Tg.take i)=B
 obtain ⟨o,v,rfl⟩:=lQ (body:=bL p0 i) (λm s=>∃k:Nat,s=(((B+jV (uz p0.C.SR) (p0.Tg[i].take k):Nat):Int),(k:Int))/\k+m=p0.Tg[i].length) (λo=>o=((B+jV (uz p0.C.SR) p0.Tg[i]:Nat):Int)) (λm s p G E=>by
  obtain ⟨k,rfl,e⟩:=G;unfold bL;rw [zV n,zbs];by_cases q:k<p0.Tg[i].length
  ·have u:=zeg q;refine o8 (by simpa using q) ?_;show OK ((Go.Sx.idx p0.Tg[i] (k:Int)).bind _) _;rw [zV u,zbs];have v:=w _ a k;have L:=g _ a;have N:=b _ a _ (zmg u);have D:jV (uz p0.C.SR) (p0.Tg[i].take (k+1))=jV (uz p0.C.SR) (p0.Tg[i].take k)+uz p0.C.SR p0.Tg[i][k]:=by rw [mP u,d]
   have J:oT 1 ((p0.Tg[i][k].Tw).length:Int)=((max 1 p0.Tg[i][k].Tw.length:Nat):Int):=by
    unfold oT;split<;>omega
   have hit:=(K _ a _ (zmg u)).items;rw [J];generalize z:max 1 p0.Tg[i][k].Tw.length=M at*
   have S:M<=4398046511104:=by omega
   refine d5 (λr=> ?_) (λr=> ?_)
   ·have r:p0.Tg[i][k].SV=3:=by simpa using r
    have t:uz p0.C.SR p0.Tg[i][k]=4+M+p0.C.SR.toNat+770:=by unfold uz;rw [d7 r,z]
    refine E (m-1) _ (by omega) ⟨k+1,?_,by omega⟩;rw [qe (x:=4+(M:Int)) (by omega) (by omega),qe (x:=4+(M:Int)+_) (by omega) (by omega),qe (x:=((B+jV (uz p0.C.SR) (p0.Tg[i].take k):Nat):Int)+_) (by omega) (by omega),qe (by omega) (by omega),qe (by omega) (by omega),D,t];refine Prod.ext ?_ rfl;show _=((_:Nat):Int)
    omega
   ·have r:p0.Tg[i][k].SV≠3:=by simpa using r
    have t:uz p0.C.SR p0.Tg[i][k]=4+M+p0.C.SR.toNat:=by unfold uz;rw [d8 r,z];rfl
    refine E (m-1) _ (by omega) ⟨k+1,?_,by omega⟩;rw [qe (x:=4+(M:Int)) (by omega) (by omega),qe (x:=4+(M:Int)+_) (by omega) (by omega),qe (x:=((B+jV (uz p0.C.SR) (p0.Tg[i].take k):Nat):Int)+_) (by omega) (by omega),qe (by omega) (by omega),D,t];refine Prod.ext ?_ rfl;show _=((_:Nat):Int)
    omega
  ·refine j8 (by simpa using q) ?_;obtain rfl:k=p0.Tg[i].length:=by omega
   exact b9 (by rw [z9])) 2199023255552 p0.Tg[i].length ((B:Int),0) (by have:=g _ a;omega) ⟨0,by simp [jV],by omega⟩
 rw [v,zbs];refine E _ ?_;rw [mP n,d,<- I,yq]
theorem Og(n:Ka c D h):HE D.length c.SS.toNat c.SR.toNat h:=by
 obtain ⟨r,os,p,q,b,u,I,J,L,M,N,⟨y,d⟩,⟨B,f⟩,rfl⟩:=n.is;obtain ⟨O,v,P,C,Q⟩:=WJ.new (H:=c.Ti.toNat) (K:=c.Maps.length) (by have:=n.hk;omega);rw [b] at v;obtain rfl:=j6 v;refine ⟨λt k a=> ?_,(λx g=>by cases g),(λz=>by cases z),λj w x l _ e=> ?_,λi o x E _ e=> ?_,(λx _ z=>by cases z),?_⟩
 ·have a:(D.map wu)[t]? =some k:=a;rw [u7] at a;obtain ⟨s,_,rfl⟩:=yn.1 a;exact ⟨(λx g=>by cases g),(λz=>by cases z),(λi m A _ _ z=>by simp [wu] at z),λm z=>by cases z⟩
 ·rw [z8 (zmg l)] at e;cases e
 ·rw [(d i o E).2.2.1] at e;cases e
 ·have F:jV kt p=0:=fY λr u=>by show r.waiting.length=0;rw [(f r u).2.1];rfl
  have G:jV ir (List.replicate c.SS.toNat (ki q))=0:=fY λw l=>by rw [z8 l];exact d7 C
  show (0:Int)=(jV kt p:Int)+(jV ir (List.replicate c.SS.toNat (ki q)):Int)
  rw [F,G];rfl
theorem Lu(m:Ka c D h):phi h<=c.SS.toNat+c.SR.toNat+1+jV (jV (uz c.SR)) D:=by
 obtain ⟨r,os,n,b,d,p,L,M,N,O,P,⟨v,e⟩,⟨z,j⟩,rfl⟩:=m.is;obtain ⟨Q,q,R,A,S⟩:=WJ.new (H:=c.Ti.toNat) (K:=c.Maps.length) (by have:=m.hk;omega);rw [d] at q;obtain rfl:=j6 q
 have a:∀{t:Type} (f g:t->Nat) (l:List t),(∀x∈l,f x<=g x)->jV f l<=jV g l:=λf g l hl=>by
  induction l with
  |nil=>exact m6 _
  |cons x l B=>
   have C:=hl x zcs;have E:=B λy F=>hl y (zcm _ F)
   simp only [jV,t6,ym] at*
   omega
 have C:jV (uL os.length) (D.map wu)=jV (jV (wT os.length)) D:=by
  simp [jV,List.map_map,Function.comp_def,uL,wu];rfl
 have E:jV (jV (wT os.length)) D<=jV (jV (uz c.SR)) D:=a _ _ _ λs _=>a _ _ _ λx _=>by
  unfold wT uz;split<;>omega
 have G:jV Bb (List.replicate c.SS.toNat (ki b))<=(List.replicate c.SS.toNat (ki b)).length*1:=lU λw k=>by
  rw [z8 k];simp [Bb,ki,A]
 have T:jV sO os<=os.length*1:=lU λo I=>by
  obtain ⟨i,J⟩:=p6 I;have u:=e i o J;simp [sO,u.2.1];split<;>omega
 have u:jV (λr:zp=>770*r.waiting.length) n=0:=fY λr p=>by rw [(j r p).2.1];rfl
 show jV (uL os.length) (D.map wu)+jV Bb (List.replicate c.SS.toNat (ki b))+jV sO os+jV (λr:zp=>770*r.waiting.length) n+2*0+0+1<=_;rw [SH] at G;omega
open Go.Sx
theorem uA(x:aq c D)(r:HI c D n h)(m:HJ h.or.length h.LE.length h.Fd.length h)(s:HE h.or.length h.LE.length h.Fd.length h)(g:AP h):
  kin h.Td 2 h.Td.SU.length=if h.over=true then (List.range (h.LE.length+h.Fd.length+1)).map (λi:Nat=>((h.or.length+i:Nat):Int)) else []:=by
 obtain ⟨E,F,G,I,J,K⟩:=r.sizes x;have p:h.Td.SU.length=h.or.length+(h.LE.length+h.Fd.length+1):=by omega
 have y:∀i,i<h.Td.SU.length->((h.Td.SU[i]?).map (λt:ql=>t.SY)=some 2↔(h.over=true/\h.or.length<=i)):=λi d=>by
  have e:=zeg d;rw [e,t8,i8];by_cases A:i<h.or.length
  ·exact ⟨λz=>absurd z (m.kC i _ A e),λz=>by omega⟩
  by_cases L:i<h.or.length+h.LE.length
  ·obtain ⟨j,rfl⟩:∃j,i=h.or.length+j:=⟨i-h.or.length,by omega⟩
   have l:=zeg (show j<h.LE.length by omega);have a:=zmg l;refine ⟨λz=>⟨g.over (r.UB _ a (m.kW j _ _ l e z)),by omega⟩,λz=>s.mW j _ _ l e ?_⟩;have b:=(m.fin z.1).1;cases u:h.LE[j].SZ with
   |true=>rfl
   |false=>exact absurd (.w j _ l ⟨λ_=>⟨u,.inl b⟩,λz=>by have:=g.crew _ a;omega⟩) (g.no _)
  by_cases M:i<h.or.length+h.LE.length+h.Fd.length
  ·obtain ⟨j,rfl⟩:∃j,i=h.or.length+h.LE.length+j:=⟨i-(h.or.length+h.LE.length),by omega⟩
   have f:=zeg (show j<h.Fd.length by omega);have a:=zmg f;refine ⟨λz=>⟨g.over (r.Uu _ a (m.kO j _ _ f e z)).1,by omega⟩,λz=>s.mO j _ _ f e ?_⟩;have b:=(m.fin z.1).1;cases u:h.Fd[j].SZ with
   |true=>rfl
   |false=>
    refine absurd (.o j _ f (.inr ⟨b,λw l=> ?_,u⟩)) (g.no _);obtain ⟨k,B⟩:=p6 l;cases v:w.SZ with
    |true=>rfl
    |false=>exact absurd (.w k _ B ⟨λ_=>⟨v,.inl b⟩,λz=>by have:=g.crew _ l;omega⟩) (g.no _)
  ·obtain rfl:i=h.or.length+h.LE.length+h.Fd.length:=by omega
   exact ⟨λz=>⟨m.kR _ e z,by omega⟩,λz=>s.mR _ e z.1⟩
 unfold kin
 rw [List.filter_congr (q:=λi=>decide (h.over=true/\h.or.length<=i)) (λi d=>by
  have:=y i (List.mem_range.1 d);exact decide_eq_decide.2 this),p,List.range_add,z6]
 have C:(List.range h.or.length).filter (λi=>decide (h.over=true/\h.or.length<=i))=[]:=List.filter_eq_nil_iff.2 λi d=>by
  have:=List.mem_range.1 d;simp;omega
 rw [C,List.nil_append];split
 ·rename_i f
  rw [List.filter_eq_self.2 (λi d=>by obtain ⟨j,_,rfl⟩:=x8.1 d;simp [f]),List.map_map];rfl
 ·rename_i f
  rw [List.filter_eq_nil_iff.2 (λi d=>by simp [f])];rfl
theorem wholeEnds_law(p0:qt)(hf:∀s∈p0.Tg,∀c∈s,Fit c):xw 2199023255552 p0=some true:=by
 refine OK.is ?_;unfold xw;rw [Lx,zbs];refine j8 rfl ?_;rcases Ok hf with e|⟨h,e,hb⟩
 ·rw [e];exact b9 rfl
 rw [e,zbs];simp only [vW];refine j8 rfl ?_;have u:=hb.shape hf;have S:=(FE hb).1;have hW:=u.wk;have hSh:=u.sh;have hCl:=u.cl;have hl1:h.or.length=p0.Tg.length:=S.cl
 have hK:=(Lv u).and (J:=λg=>HE g.or.length g.LE.length g.Fd.length g) (λhst L=>L.withK hst) (λ{n h t I}O hJ L hv=>by
  obtain ⟨l1,l2,l3⟩:=Jx hv;rw [l1,l2,l3];exact Rw u O rfl rfl rfl hJ L hv)
 have hE0:HE h.or.length h.LE.length h.Fd.length h:=by
  have h1:=S.cr;have h2:=S.own.len;rw [hl1,show h.LE.length=p0.C.SS.toNat by omega,show h.Fd.length=p0.C.SR.toNat by omega];exact Og hb
 obtain ⟨n',g,v,⟨b,L⟩,y,hrun⟩:=Oi u hK (Oj hb) ⟨(Jy hb).more,hE0⟩ p0.TZ;have y:=y.done u v.inv b;obtain ⟨s1,s2,s3,s4,s5,s6⟩:=v.inv.sizes u;have hcr:=v.inv.cr;have hol:=v.inv.own.len;have T:=Of (p0:=p0) (A:=p0.C.SS.toNat+p0.C.SR.toNat+1) (by omega) (by omega) u.sl hf (by omega);rw [show (w64 ((w64 (p0.C.SS+p0.C.SR))+1))=((p0.C.SS.toNat+p0.C.SR.toNat+1:Nat):Int) by rw [qe (x:=p0.C.SS+p0.C.SR) (by omega) (by omega),qe (by omega) (by omega)];omega,T,zbs,hrun];simp only [zbs];have hphi:=Lu hb;have hleft:=v.left;obtain ⟨k,rs,r,c1,_,_,c4,_,c6,c7,c8⟩:=G3 u v.inv 0;obtain ⟨k1,rfl⟩:=c4.idle y.no;obtain rfl:rs=[]:=c6;have N:HI p0.C p0.Tg n' (withK g k):=v.inv.withK c7.1;obtain ⟨q,hq,hq2⟩:=Ly (h:=withK g k) s1.2 s2.2;have hqt:q=true:=hq2.2 ⟨λk hk=>(y.Um k hk).1,y.crew⟩;subst hqt;rw [d8 (by simp;omega),c1];simp only [zbs];rw [d8 (by simp),hq];simp only [zbs];refine j8 rfl ?_
 obtain ⟨o,h1,f,rfl,hf2⟩:OK (jM (bN p0 (withK g k,!true)) (λ(U:Bool)=>(.inl U)) (p0.Tg).length 0 false) (λo=>∃f:Bool,o=.inl f/\f=g.over):=by
  refine i7 (λi f=>(f=true->g.over=true)/\∀(t:Nat) k (j:Nat) a A,t<i->g.or[t]? =some k->k.Tj[j]? =some a->a.SV=10->k.Tc[j]? =some A->A.E=0->f=true) ⟨(λz=>by cases z),λt k j a A z=>by omega⟩ (λi f B hi O V=> ?_) (λf W=>⟨f,rfl,?_⟩)
  ·obtain ⟨P,hg⟩:∃P,g.or[i]? =some P:=⟨_,zeg (show i<g.or.length by rw [v.inv.cl];exact hi)⟩
   obtain ⟨s,W,hc⟩:=v.inv.at hg;obtain ⟨_,e1⟩:=y.Um _ (zmg hg);have e2:=hc.UX;have e3:=hc.Tj;unfold bN;rw [show jL (withK g k,!true).1 (i:Int)=_ from GD u N hg];simp only [zbs];rw [zV W];simp only [zbs];refine j8 (by simp;rw [<- e3];omega) ?_;refine g9 (i7 (λj f2=>(f2=true->g.over=true)/\(f=true->f2=true)/\∀(d:Nat) a A,d<j->P.Tj[d]? =some a->a.SV=10->P.Tc[d]? =some A->A.E=0->f2=true) ⟨O.1,λz=>z,λd a A z=>by omega⟩ (λj f2 again2 hj D X=> ?_) (λf2 Y=>V _ ⟨Y.1,λt k2 d a A ht hk F h10 Z hA0=> ?_⟩))
   ·obtain ⟨A0,Z⟩:∃A,P.Tc[j]? =some A:=⟨_,zeg hj⟩
    obtain ⟨x0,F⟩:∃x,s[j]? =some x:=⟨_,zeg (show j<s.length by rw [<- e3];omega)⟩
    unfold fc;rw [zV W];simp only [zbs];rw [zV F];simp only [zbs];rw [zV Z];simp only [zbs];have Q:P.Tj[j]? =some x0:=by rw [e3];exact F
    have hans:=(L.Um i _ hg).UX j _ A0 Q
    have step:∀(d:Nat) a A,d<j+1->P.Tj[d]? =some a->a.SV=10->P.Tc[d]? =some A->A.E=0->(d<j\/(x0.SV=10/\A0.E=0)):=λd a A z1 M z3 R z5=>by
     by_cases e:d<j
     ·exact .inl e
     ·obtain rfl:d=j:=by omega
      rw [Q] at M;rw [Z] at R;cases M;cases R;exact .inr ⟨z3,z5⟩
    refine d5 (λe=>X _ ⟨λ_=>D.1 e,λ_=>rfl,λ_ _ _ _ _ _ _ _=>rfl⟩) (λe=> ?_);refine d5 (λe10=>X _ ⟨λz=>hans (by simpa using e10) Z (by simpa using z),λz=>absurd (D.2.1 z) (by rw [e];decide),λd a A z1 M z3 R z5=> ?_⟩) (λe10=>X _ ⟨(λz=>by cases z),λz=>absurd (D.2.1 z) (by rw [e];decide),λd a A z1 M z3 R z5=> ?_⟩)
    ·rcases step d a A z1 M z3 R z5 with q|q
     ·have:=D.2.2 d a A q M z3 R z5;rw [e] at this;cases this
     ·simpa using q.2
    ·rcases step d a A z1 M z3 R z5 with q|q
     ·have:=D.2.2 d a A q M z3 R z5;rw [e] at this;cases this
     ·simp [q.1] at e10
   ·by_cases e:t<i
    ·exact Y.2.1 (O.2 t k2 d a A e hk F h10 Z hA0)
    ·obtain rfl:t=i:=by omega
     rw [hg] at hk;cases hk;exact Y.2.2 d a A (zes.1 Z).1 F h10 Z hA0
  ·cases ho:g.over with
   |true=>
    obtain ⟨t,k2,ht,j,a,q1,q2,q3⟩:=L.conv ho;have hw:=(y.Um _ (zmg ht)).1;rcases q3 with ⟨A,q4,q5⟩|⟨q4,_⟩
    ·exact W.2 t k2 j a A (by have:=(zes.1 ht).1;have:=v.inv.cl;omega) ht q1 q2 q4 q5
    ·rw [hw] at q4;cases q4
   |false=>
    cases hfv:f with
    |false=>rfl
    |true=>have:=W.1 hfv;rw [ho] at this;cases this
 rw [h1,zbs];simp only;rw [show cV (withK g k,!true).1=some g.Tr from Qi N,zbs];have hlb:g.Tr.length<=20000000000:=by have:=v.inv.UE;have:=v.inv.TU;omega
 have hbal:(g.Tr.map wgt).sum=0:=by
  have q1:=L.Vb;rw [fY (l:=g.rings) (λr hr=>by rw [y.rings v.inv u b r hr];rfl),fY (f:=ir) (λw hw=>d7 (y.crew w hw))] at q1;exact q1
 obtain ⟨o,h2,ac,ov,rfl,hao⟩:OK (jM (bO g.Tr) (λ(G:Int×Int)=>(G.1,G.2)) (g.Tr).length 0 (0,0)) (λo=>∃ac ov:Int,o=(ac,ov)/\ac=ov):=by
  refine i7 (λi s=>0<=s.1/\s.1<=(i:Int)/\0<=s.2/\s.2<=(i:Int)/\s.1-s.2=((g.Tr.take i).map wgt).sum) ⟨by decide,by decide,by decide,by decide,rfl⟩ (λi s B hi O V=> ?_) (λs W=>⟨s.1,s.2,rfl,?_⟩)
  ·obtain ⟨i1,i2,i3,i4,i5⟩:=O;unfold bO;refine g9 (j4 hi λx hx=> ?_)
   have K:((g.Tr.take (i+1)).map wgt).sum=((g.Tr.take i).map wgt).sum+wgt x:=by
    rw [mP hx,o7,yh];simp
   refine d5 (λe=>V _ ?_) (λe=> ?_)
   ·have e:x.Uv=4:=by simpa using e
    rw [K,show wgt x=1 from d7 e];show 0<=w64 (s.1+1)/\w64 (s.1+1)<=_/\_;rw [qe (by omega) (by omega)];refine ⟨by omega,by omega,i3,by show s.2<=_;omega,by show s.1+1-s.2=_;omega⟩
   ·have e:x.Uv≠4:=by simpa using e
    have hv:(if (x.Uv==9)=true then some (x.Uv==9) else some (x.Uv==10))=some (decide (x.Uv=9\/x.Uv=10)):=by
     by_cases z:x.Uv=9
     ·simp [z]
     ·have M:(x.Uv==9)=false:=by simpa using z
      rw [M];simp [z];rfl
    rw [hv,zbs];refine d5 (λe2=>V _ ?_) (λe2=>V _ ?_)
    ·rw [K,show wgt x= -1 by unfold wgt;rw [d8 e,d7 (yd e2)]];show 0<=s.1/\s.1<=_/\0<=w64 (s.2+1)/\w64 (s.2+1)<=_/\_;rw [qe (by omega) (by omega)];refine ⟨i1,by omega,by omega,by omega,by show s.1-(s.2+1)=_;omega⟩
    ·rw [K,show wgt x=0 by unfold wgt;rw [d8 e,d8 (yv e2)]];exact ⟨i1,by show s.1<=_;omega,i3,by show s.2<=_;omega,by show s.1-s.2=_;omega⟩
  ·have:=W.2.2.2.2;rw [z9,hbal] at this;omega
 rw [h2,zbs]
 have hk3:kin (withK g k).Td 2 (withK g k).Td.SU.length=kin g.Td 2 g.Td.SU.length:=by
  have hRk:HJ g.or.length g.LE.length g.Fd.length (withK g k):=b.withK c7;have q1:=uA u N hRk (L.withK c7) {y with no:=λt z=>y.no t (z.withK g.Td)};have q2:=uA u v.inv b L y;exact q1.trans q2.symm
 rw [show vD (withK g k,!true).1=some (kin g.Td 2 g.Td.SU.length) from (Lc u N).trans (by rw [hk3]),zbs,uA u v.inv b L y];subst hf2 hao;generalize hel:(if g.over=true then (List.range (g.LE.length+g.Fd.length+1)).map (λi:Nat=>((g.or.length+i:Nat):Int)) else [])=el;have p:el.length=if g.over=true then g.LE.length+g.Fd.length+1 else 0:=by rw [<- hel];split<;>simp
 have hdec:decide ((el.length:Int)>0)=g.over:=by
  cases ho:g.over with
  |true=>rw [ho,d7 rfl] at p;exact decide_eq_true (by omega)
  |false=>rw [ho,d8 (by decide)] at p;exact decide_eq_false (by omega)
 refine j8 (by rw [hdec];simp) ?_
 obtain ⟨o,h3,rfl⟩:=lQ (body:=bP p0 g.over el) (λm s=>∃i:Nat,s=(i:Int)/\i+m=100/\i<=el.length) (λo=>o=.inl ()) (λm s B O V=>by
  obtain ⟨i,rfl,e1,e2⟩:=O;unfold bP;have hlen:el.length<=9:=by rw [p];split<;>omega
  refine d5 (λe=> ?_) (λ_=>b9 rfl);simp only [zae,zdq] at e;have hi:i<el.length:=by omega
  have hx:el[i]? =some ((g.or.length+i:Nat):Int):=by
   rw [<- hel,d7 e.1,u7,List.getElem?_range (by rw [p,d7 e.1] at hi;exact hi)]
   rfl
  rw [zV hx,zbs,qe (x:=(p0.Tg.length:Int)+_) (by omega) (by omega),qe (by omega) (by omega)];have hcl2:=v.inv.cl;refine j8 (by simp;omega) ?_;exact V (m-1) _ (by omega) ⟨i+1,by omega,by omega,by omega⟩) 2199023255552 100 0 (by omega) ⟨0,rfl,rfl,by omega⟩
 rw [h3,zbs];refine b9 ?_;cases ho:g.over with
 |false=>rfl
 |true=>
  rw [ho,d7 rfl] at p;simp [p];omega
end Go.Proofs.YtplmgfkghomelaaGreatDoor.KH
namespace Go.Proofs.YtplmgfkghomelaaGreatDoor
open Go.Sx
variable {n:Int}{x:zJ}
theorem KH.lit_u64(h:(Lit.int .u64 n).wf=true):u64 n:=by
 simp only [Lit.wf,zae,zdq] at h;exact ⟨h.1,Int.lt_of_le_of_lt h.2 (by decide)⟩
theorem KH.fitU(h:rm x):KH.Fit x:=by
 have c:reachBytes<=140737488355328:=by decide
 obtain ⟨_,g,⟨⟨d,a⟩,_⟩,_,_,_,ge,⟨e,_⟩,_⟩:=h;exact ⟨by omega,by omega,⟨KH.lit_u64 ge.1,KH.lit_u64 ge.2⟩,KH.lit_u64 g.2.2.2,λi b=>KH.lit_u64 (a i b).2.2.2⟩
theorem px(p:qt)(g:iF p):∃f,xw f p=some true:=by
 obtain ⟨gc,⟨⟨d,a⟩,e⟩,_⟩:=g;exact ⟨2199023255552,KH.wholeEnds_law p (λs h c b=>KH.fitU ((a s h).1.2 c b))⟩
end Go.Proofs.YtplmgfkghomelaaGreatDoor
