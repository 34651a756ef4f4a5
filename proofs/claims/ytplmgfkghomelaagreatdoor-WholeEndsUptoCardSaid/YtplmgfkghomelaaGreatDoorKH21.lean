/- Lemmas. -/
import Derived.Test.YtplmgfkghomelaaGreatDoorKH17
set_option linter.all false
namespace Go.Proofs.YtplmgfkghomelaaGreatDoor.KH
open Go.Sx
variable {c:zG}{h h':za}{n H M W:Nat}{g:List (List zJ)}{r s rg:zb}{es:List ze}{i y:zd}{a z A d:zn}{l hd:List zx}{x:zx}{j:List Bool}{m:zE}{v clo N E:Int}{cld ov:Bool}{e:zB}{o:zc}{f:List zd}{B:Option (Int×Bool×zn)}{C:Int×Bool×za}{D:List Int}{G:zE×Int}{q:Int×Int×zb}{I:zU}
def N2(h:za)(rg:zb)(k:zn)(c:List zd)(r:List zp)(l hd:List zx)(clo:Int)(cld ov:Bool)(es:List ze):za:=
 ⟨rg,k,h.Tm,c,h.LE,h.Fd,r,l,hd,clo,cld,ov,h.Tr++es,h.TF⟩
theorem mQ(b:HI c g n h)(M:n+1<=100000000){k:zn}{cs:List zd}{rs:List zp}
  (G:fJ c.Ti.toNat c.Maps.length c.SS.toNat (n+1) rg) (O:k.SU.length=h.Td.SU.length)
  (d:(cs=h.or/\∀t:Nat,gE (N2 h rg k cs rs l hd clo cld ov es) t=gE h t)\/∃(u:Nat)(p:zd)(N E:Int),h.or[u]? =some p/\cs=h.or.set u (AC p N E)/\∀t:Nat,gE (N2 h rg k cs rs l hd clo cld ov es) t+(if t=u then 1 else 0)=gE h t)
  (z:Az c rs) (q:∀x∈l++hd,(∃t:Nat,x.Tn=t/\t<g.length)/\x.cmd.Tu.length<=140737488355328/\4<=x.cmd.SV/\x.cmd.SV<=10) (A:∃t:Nat,clo=t/\t<g.length) (j:h.closed=true->cld=true) (P:es.length<=100) (hl:l.length<=n+1) (I:hd.length<=n+1):
  HI c g (n+1) (N2 h rg k cs rs l hd clo cld ov es):=by
 have m:cs.length=h.or.length:=by
  rcases d with ⟨e,_⟩|⟨u,p,N,E,_,e,_⟩
  ·rw [e]
  ·rw [e,k7]
 have B:∀(t:Nat) i,cs[t]? =some i->i.Tf=((bQ h.Fd t+gE (N2 h rg k cs rs l hd clo cld ov es) t:Nat):Int)/\∀s,g[t]? =some s->rB s i:=λt i a=>by
  rcases d with ⟨rfl,e⟩|⟨u,p,N,E,D,rfl,e⟩
  ·exact ⟨by rw [e t];exact b.Ut t i a,λs v=>b.Um t i s a v⟩
  ·have C:=e t;rcases jS a with ⟨rfl,rfl,_⟩|⟨J,a⟩
   ·rw [d7 rfl] at C;have K:=b.UC t;refine ⟨?_,λs v=> ?_⟩
    ·show (0:Int)=_;omega
    ·have Q:=b.Um t p s D v;exact {Q with UM:=λ_=>rfl}
   ·rw [d8 J] at C;exact ⟨by rw [b.Ut t i a];rw [<- C];rfl,λs v=>b.Um t i s a v⟩
 have y:∀(t:Nat) k,h.or[t]? =some k->∃i,cs[t]? =some i/\i.parts.length=k.parts.length/\i.Id.TD.length=k.Id.TD.length:=λt L f=>by
  rcases d with ⟨rfl,e⟩|⟨u,p,N,E,D,rfl,e⟩
  ·exact ⟨L,f,rfl,rfl⟩
  ·by_cases e:t=u
   ·subst e;rw [D] at f;obtain rfl:=j6 f;exact ⟨_,iN D,rfl,rfl⟩
   ·exact ⟨L,vc f e,rfl,rfl⟩
 exact
 {TU:=M
  Tm:=b.Tm
  cl:=m.trans b.cl
  cr:=b.cr
  rg:=z.1
  TT:=G
  Uj:=z.2
  Um:=λt i s a v=>(B t i a).2 s v
  crew:=b.crew
  own:=b.own.mono (by omega)
  Vd:=λo F r R=>(b.Vd o F r R).same m y
  Ut:=λt i a=>(B t i a).1
  UC:=λt=>by
   have C:=b.UC t;show gE (N2 h rg k cs rs l hd clo cld ov es) t=0\/gE (N2 h rg k cs rs l hd clo cld ov es) t=1/\bQ h.Fd t=0;rcases d with ⟨_,e⟩|⟨u,p,N,E,_,_,e⟩
   ·rw [e t];exact C
   ·have K:=e t;split at K<;>omega
  call:=q
  Tb:=A
  UD:=by show k.SU.length=_;rw [O];exact b.UD
  Uu:=λo F e=>⟨j (b.Uu o F e).1,(b.Uu o F e).2⟩
  UB:=λw S e=>j (b.UB w S e)
  UE:=by
   show (h.Tr++es).length<=_;have:=b.UE;rw [q7];omega
  Va:=hl
  hel:=I}
theorem rF(h:l[n]? =some x)(f:Int):bV (l.eraseIdx n) f+(if x.Tn=f then 1 else 0)=bV l f:=by
 have a:=(zes.1 h).1
 have c:l=l.take n++x::l.drop (n+1):=by
  have b:=yp n l;rw [SK a] at b;have d:l[n]=x:=(zes.1 h).2;rw [d] at b;exact b.symm
 rw [List.eraseIdx_eq_take_drop_succ]
 conv=>rhs;rw [c]
 rw [gD,gD,ij];omega
theorem N3(hS:aq c g)(i:HI c g n h)(O:n+1<=100000000)(Z:h.over=false)(Q:(∀x∈h.held,¬ Fin h x)->h.SX=[]->h.closed=true)(hv:RMv h H h'):HI c g (n+1) h':=by
 have m:=i.TT.mono (show n<=n+1 by omega) (by omega);have S:=i.Va;have hhl:=i.hel;have D:Az c h.rings:=⟨i.rg,i.Uj⟩
 have C:∀{x o},h.SX=x::o->∀f:Int,bV o f+(if x.Tn=f then 1 else 0)=bV h.SX f:=λe f=>by rw [e,ij]
 have p:∀{x o},h.SX=x::o->∀y∈o++h.held,(∃H:Nat,y.Tn=H/\H<g.length)/\y.cmd.Tu.length<=140737488355328/\4<=y.cmd.SV/\y.cmd.SV<=10:=λe y j=>i.call y (by
  rcases g8.1 j with j|j
  ·exact zal _ (by rw [e];exact zcm _ j)
  ·exact zar _ j)
 have B:∀{x o},h.SX=x::o->(∃H:Nat,x.Tn=H/\H<g.length)/\x.cmd.Tu.length<=140737488355328/\4<=x.cmd.SV/\x.cmd.SV<=10:=λe=>i.call _ (zal _ (by rw [e];exact zcs))
 have lens:∀{x o},h.SX=x::o->o.length<=n+1:=λe=>by rw [e,u5] at S;omega
 cases hv with
 |fin a x u k T hf I J h8=>
  refine mQ i O (rg:=h.Fn) (k:=h.Td) (cs:=h.or.set u (AC k 0 0)) (rs:=h.rings) (l:=h.SX) (hd:=h.held.eraseIdx a) (clo:=h.Tb) (cld:=h.closed) (ov:=h.over) (es:=[]) m rfl (.inr ⟨u,k,0,0,J,rfl,λv=> ?_⟩) D (λy j=>i.call y ?_) i.Tb (λe=>e) (by simp) (by omega) (p9 (List.length_eraseIdx_le _ _) (by omega))
  ·have A:=rF T (v:Int);unfold gE;show bV h.SX v+bV (h.held.eraseIdx a) v+_+_=_;rw [I] at A;by_cases e:v=u
   ·subst e;rw [d7 rfl] at A |-;show _+(if h.closed=true/\h.over=false/\h.Tb=(v:Int) then 1 else 0)+1=_;omega
   ·rw [d8 (by omega)] at A;rw [d8 e];show _+(if h.closed=true/\h.over=false/\h.Tb=(v:Int) then 1 else 0)+0=_;omega
  ·rcases g8.1 j with j|j
   ·exact zal _ j
   ·exact zar _ (SO j)
 |retired a x u k T hf I J h8=>
  refine mQ i O (rg:=settled h.Fn (iQ h.Fn 1)) (k:=h.Td) (cs:=h.or.set u (AC k 0 0)) (rs:=h.rings) (l:=h.SX) (hd:=h.held.eraseIdx a) (clo:=h.Tb) (cld:=h.closed) (ov:=h.over) (es:=[AD 13 H 0 x.cmd.TS 0]) (Eu i.TT (by omega) 1) rfl (.inr ⟨u,k,0,0,J,rfl,λv=> ?_⟩) D (λy j=>i.call y ?_) i.Tb (λe=>e) (by simp) (by omega) (p9 (List.length_eraseIdx_le _ _) (by omega))
  ·have A:=rF T (v:Int);unfold gE;show bV h.SX v+bV (h.held.eraseIdx a) v+_+_=_;rw [I] at A;by_cases e:v=u
   ·subst e;rw [d7 rfl] at A |-;show _+(if h.closed=true/\h.over=false/\h.Tb=(v:Int) then 1 else 0)+1=_;omega
   ·rw [d8 (by omega)] at A;rw [d8 e];show _+(if h.closed=true/\h.over=false/\h.Tb=(v:Int) then 1 else 0)+0=_;omega
  ·rcases g8.1 j with j|j
   ·exact zal _ j
   ·exact zar _ (SO j)
 |over u k x G hl I J hkt hm=>
  have P:=Q G hl;refine mQ i O (rg:=h.Fn) (k:=K5 h.Td H x) (cs:=h.or.set u (AC k 0 0)) (rs:=h.rings) (l:=h.SX) (hd:=h.held) (clo:=h.Tb) (cld:=h.closed) (ov:=true) (es:=[IG H]) m (by show (h.Td.SU.set H _).length=_;rw [k7]) (.inr ⟨u,k,0,0,J,rfl,λv=> ?_⟩) D i.call i.Tb (λe=>e) (by simp) (by omega) (by omega);unfold gE;show bV h.SX v+bV h.held v+(if h.closed=true/\true=false/\h.Tb=(v:Int) then 1 else 0)+_=_;rw [d8 (λz=>by cases z.2.1),P,Z,I];by_cases e:v=u
  ·subst e;rw [d7 rfl,d7 ⟨rfl,rfl,rfl⟩]
  ·rw [d8 e,d8 (λz=>e (by have:=z.2.2;omega))]
 |refuse x o u k G hl P I J=>
  refine mQ i O (rg:=h.Fn) (k:=h.Td) (cs:=h.or.set u (AC k 0 43)) (rs:=h.rings) (l:=o) (hd:=h.held) (clo:=h.Tb) (cld:=h.closed) (ov:=h.over) (es:=[]) m rfl (.inr ⟨u,k,0,43,J,rfl,λv=> ?_⟩) D (p hl) i.Tb (λe=>e) (by simp) (lens hl) (by omega);have A:=C hl (v:Int);rw [I] at A;unfold gE;show bV o v+bV h.held v+(if h.closed=true/\h.over=false/\h.Tb=(v:Int) then 1 else 0)+_=_;by_cases e:v=u
  ·subst e;rw [d7 rfl] at A |-;omega
  ·rw [d8 (by omega)] at A;rw [d8 e];omega
 |cmd x o u k s N E es G hl P I J U=>
  have K:fJ c.Ti.toNat c.Maps.length c.SS.toNat (n+1) s/\es.length<=1:=by
   cases U with
   |load n2 e s hk4 V=>
    refine ⟨?_,by split<;>simp⟩;obtain ⟨v,v1,v2,v3⟩:=rE i (B hl).2.1;rw [V] at v1;have v1:=j6 v1;split at v1
    ·cases v1;exact m
    ·rename_i h0
     split at v1
     ·cases v1;exact m
     ·rename_i W
      cases v1
      have X:=v3 (Classical.not_not.1 h0);exact Jg i.TT (by omega) W ⟨X.1,by rw [<- i.TT.maps];exact X.2.1,X.2.2⟩
   |attach v e s hk5 L=>
    refine ⟨?_,by split<;>simp⟩;obtain ⟨q,F,M⟩:=uD i.TT x.cmd.TC x.cmd.TS;rw [L] at F;cases F;exact M.inv i.TT (by omega)
   |swap v e s hk6 L=>
    refine ⟨?_,by split<;>simp⟩;obtain ⟨q,F,M⟩:=Er i.TT x.cmd.TC x.cmd.TS;rw [L] at F;cases F;exact M.inv i.TT (by omega)
   |detach e tb hk7 L=>
    refine ⟨?_,by split<;>simp⟩;obtain ⟨q,F,M⟩:=uE i.TT x.cmd.TC;rw [L] at F;cases F;exact GT i.TT (by omega) M
   |retire v e s hk8 L he=>
    refine ⟨?_,by simp⟩;obtain ⟨q,F,M⟩:=mZ i.TT x.cmd.TS;rw [L] at F;cases F;rcases M with ⟨_,_,R⟩|⟨R,_⟩
    ·rw [show s=h.Fn from R];exact m
    ·exact absurd R he
  refine mQ i O (rg:=s) (k:=h.Td) (cs:=h.or.set u (AC k N E)) (rs:=h.rings) (l:=o) (hd:=h.held) (clo:=h.Tb) (cld:=h.closed) (ov:=h.over) (es:=es) K.1 rfl (.inr ⟨u,k,N,E,J,rfl,λv=> ?_⟩) D (p hl) i.Tb (λe=>e) (by have:=K.2;omega) (lens hl) (by omega);have A:=C hl (v:Int);rw [I] at A;unfold gE;show bV o v+bV h.held v+(if h.closed=true/\h.over=false/\h.Tb=(v:Int) then 1 else 0)+_=_;by_cases e:v=u
  ·subst e;rw [d7 rfl] at A |-;omega
  ·rw [d8 (by omega)] at A;rw [d8 e];omega
 |hold x o v s G hl P h8 L=>
  have K:fJ c.Ti.toNat c.Maps.length c.SS.toNat (n+1) s:=by
   obtain ⟨q,F,M⟩:=mZ i.TT x.cmd.TS;rw [L] at F;cases F;rcases M with ⟨R,_⟩|⟨_,_,y,y1,y2,_,y3⟩
   ·exact absurd rfl R
   ·rw [show s=_ from y3];exact Es i.TT (by omega) y1 y2
  refine mQ i O (rg:=s) (k:=h.Td) (cs:=h.or) (rs:=h.rings) (l:=o) (hd:=h.held++[{x with Uy:=v}]) (clo:=h.Tb) (cld:=h.closed) (ov:=h.over) (es:=[]) K rfl (.inl ⟨rfl,λw=> ?_⟩) D (λy j=> ?_) i.Tb (λe=>e) (by simp) (lens hl) (by rw [q7];simp only [u5,y9];omega)
  ·have A:=C hl (w:Int);unfold gE;show bV o w+bV (h.held++[{x with Uy:=v}]) w+(if h.closed=true/\h.over=false/\h.Tb=(w:Int) then 1 else 0)=_;rw [gD,nC];show bV o w+(bV h.held w+(if x.Tn=(w:Int) then 1 else 0))+_=_;omega
  ·rcases g8.1 j with j|j
   ·exact p hl y (zal _ j)
   ·rcases g8.1 j with j|j
    ·exact i.call y (zar _ j)
    ·rw [i6.1 j];exact B (x:=x) hl
 |drain x o G hl P h9=>
  refine mQ i O (rg:=h.Fn) (k:=h.Td) (cs:=h.or) (rs:=h.rings) (l:=o) (hd:=h.held++[x]) (clo:=h.Tb) (cld:=h.closed) (ov:=h.over) (es:=[]) m rfl (.inl ⟨rfl,λw=> ?_⟩) D (λy j=> ?_) i.Tb (λe=>e) (by simp) (lens hl) (by rw [q7];simp only [u5,y9];omega)
  ·have A:=C hl (w:Int);unfold gE;show bV o w+bV (h.held++[x]) w+(if h.closed=true/\h.over=false/\h.Tb=(w:Int) then 1 else 0)=_;rw [gD,nC];omega
  ·rcases g8.1 j with j|j
   ·exact p hl y (zal _ j)
   ·rcases g8.1 j with j|j
    ·exact i.call y (zar _ j)
    ·rw [i6.1 j];exact B hl
 |close x o G hl P h10=>
  have hd:=Cg (t:=(H:Int)) (λr Q=>(i.Uj r Q).1);have hr4:=(i.hooks4 hS)
  have:=mQ i O (rg:=h.Fn) (k:=h.Td) (cs:=h.or) (rs:=h.rings.map rC) (l:=o) (hd:=h.held) (clo:=x.Tn) (cld:=true) (ov:=h.over) (es:=sM H h.rings++[AD 14 H 0 0 0]) m rfl (.inl ⟨rfl,λw=> ?_⟩) ⟨by rw [r9];exact i.rg,λr Q=> ?_⟩ (p hl) (B hl).1 (λ_=>rfl) (by rw [q7];simp only [u5,y9];omega) (lens hl) (by omega)
  ·unfold N2 at this;rw [<- x4] at this;exact this
  ·have A:=C hl (w:Int);unfold gE;show bV o w+bV h.held w+(if true=true/\h.over=false/\x.Tn=(w:Int) then 1 else 0)=_;rw [Z,P,d8 (show ¬ (false=true/\false=false/\h.Tb=(w:Int)) from λz=>by cases z.1)];by_cases e:x.Tn=(w:Int)
   ·rw [d7 e] at A;rw [d7 ⟨rfl,rfl,e⟩];omega
   ·rw [d8 e] at A;rw [d8 (λz=>e z.2.2)];omega
  ·obtain ⟨r0,Y,rfl⟩:=x8.1 Q;obtain ⟨⟨a,b,d⟩,_⟩:=i.Uj r0 Y;refine ⟨⟨a,b,?_⟩,λq hq=>by cases hq⟩;show ((0:Nat):Int)<=r0.room;omega
open Go.Sx
def Qf(k:zd):Prop:=(k.waits=true/\k.Tf=0)\/(k.waits=false/\k.Tt<k.Tj.length)
def Po(h:za)(w:zB):Prop:=(w.SQ.SY=0->w.SZ=false/\(h.closed=true\/∃r∈h.rings,r.waiting≠ []))/\(w.SQ.SY=3->w.TV.isSome=true)
def Pp(h:za)(o:zc):Prop:=o.SX≠ []\/(h.closed=true/\(∀w∈h.LE,w.SZ=true)/\o.SZ=false)
def MN(h:za):Prop:=h.over=false/\(h.SX≠ []\/(∃x∈h.held,Fin h x)\/(h.closed=true/\((∀w∈h.LE,w.SZ=true)/\∀o∈h.Fd,o.SZ=true)/\h.held=[]))
theorem HI.sizes(a:aq c g)(b:HI c g n h):(1<=h.or.length/\h.or.length<=4)/\(1<=h.LE.length/\h.LE.length<=4)/\(1<=h.Fd.length/\h.Fd.length<=4)/\(1<=h.rings.length/\h.rings.length<=4)/\h.Fn.Th.in_.length<=4/\h.Td.SU.length=h.or.length+h.LE.length+h.Fd.length+1:=by
 have d:=b.cl;have e:=b.crn a;have f:=b.own4 a;have i:=b.hooks4 a;have j:=b.TT.wk;have k:=b.UD;have l:=a.cl;have m:=a.wk;have o:=a.sh
 grind
theorem II(a:h.or[n]? =some i):∃b,qX h (n:Int)=some b/\(b=true↔Qf i):=by
 have hl:=(zes.1 a).1;unfold qX zW;simp only [zbs];rw [d7 (by simpa using hl),zV a];simp only [zbs];unfold Qf;cases c:i.waits with
 |true=>
  grind
 |false=>
  grind
theorem IJ(f:aq c g)(a:HI c g n h)(d:h.LE[H]? =some e):∃b,qX h ((h.or.length+H:Nat):Int)=some b/\(b=true↔Po h e):=by
 have hl:=(zes.1 d).1;obtain ⟨s,i,j,k,l,m⟩:=a.sizes f;have o:=(a.crew e (zmg d)).Tz;unfold qX zW qE jN
 grind [qe,zV,Po,wL]
theorem IK(k:aq c g)(f:HI c g n h)(i:h.Fd[H]? =some o):∃b,qX h ((h.or.length+h.LE.length+H:Nat):Int)=some b/\(b=true↔Pp h o):=by
 have hl:=(zes.1 i).1;obtain ⟨q,s,l,r,t,u⟩:=f.sizes k;have v:=f.TU;have m:=(f.own.all H o i).2.2.2.2.2;unfold qX zW qE;simp only [zbs];rw [d8 (by simp;omega),qe (x:=(h.or.length:Int)+h.LE.length) (by omega) (by omega),d8 (by simp;omega)];rw [rD rfl rfl rfl (by omega) (by omega) (by omega)];simp only [zbs];rw [d7 (by simp;omega),qe (by omega) (by omega)];rw [show ((h.or.length+h.LE.length+H:Nat):Int)-((h.or.length:Int)+h.LE.length)=(H:Int) by omega,zV i];simp only [zbs];rw [sN (by omega)];simp only [zbs];unfold Pp;by_cases d:o.SX=[]
 ·rw [d8 (by rw [d];simp)];cases w:h.closed with
  |false=>
   refine ⟨false,rfl,λe=>(by cases e),λe=> ?_⟩
   grind
  |true=>
   obtain ⟨b,p,j⟩:=un (h:=h) s.2 l.2 false;rw [p];simp only [zbs,s7];cases a:b with
   |false=>
    refine ⟨false,rfl,λe=>(by cases e),λe=> ?_⟩;rcases e with e|e
    ·exact absurd d e
    ·rw [j.2 ⟨e.2.1,λz=>by cases z⟩] at a;cases a
   |true=>
    unfold vk;refine ⟨_,rfl,λe=>.inr ⟨by trivial,(j.1 a).1,by simpa using e⟩,λe=> ?_⟩;rcases e with e|e
    ·exact absurd d e
    ·simp [e.2.2]
 ·have:0<o.SX.length:=List.length_pos_iff.2 d;rw [d7 (by simp;omega)];exact ⟨true,rfl,λ_=>.inl d,λ_=>rfl⟩
theorem Gz(s:h.LE.length<=4)(d:h.Fd.length<=4):∃b,aI h=some b/\(b=true↔h.closed=true/\((∀w∈h.LE,w.SZ=true)/\∀o∈h.Fd,o.SZ=true)/\h.held=[]):=by
 unfold aI;cases g:h.closed with
 |false=>exact ⟨false,rfl,λe=>(by cases e),λe=>(by cases e.1)⟩
 |true=>
  obtain ⟨b,f,c⟩:=un (h:=h) s d true;rw [f];simp only [zbs,s7];cases a:b with
  |false=>exact ⟨false,rfl,λe=>(by cases e),λe=>(by rw [c.2 ⟨e.2.1.1,λ_=>e.2.1.2⟩] at a;cases a)⟩
  |true=>
   have:=c.1 a;exact ⟨_,rfl,λe=>⟨by trivial,⟨this.1,this.2 rfl⟩,SN.1 (by simpa using e)⟩,λe=>(by simp [e.2.2])⟩
theorem IL(a:aq c g)(d:HI c g n h):∃b,qX h ((h.or.length+h.LE.length+h.Fd.length:Nat):Int)=some b/\(b=true↔MN h):=by
 obtain ⟨s,i,j,k,l,m⟩:=d.sizes a;unfold qX zW qE;simp only [zbs];rw [d8 (by simp;omega),qe (x:=(h.or.length:Int)+h.LE.length) (by omega) (by omega),d8 (by simp;omega)];rw [rD rfl rfl rfl (by omega) (by omega) (by omega)];simp only [zbs];rw [d8 (by simp)];unfold MN;cases f:h.over with
 |true=>exact ⟨false,rfl,λe=>(by cases e),λe=>(by cases e.1)⟩
 |false=>
  simp only [Bool.not_false,s7];by_cases hl:h.SX=[]
  ·rw [d8 (by rw [hl];simp)]
   grind [pF,Gz,hl]
  ·have:0<h.SX.length:=List.length_pos_iff.2 hl;rw [d7 (by simp;omega)];exact ⟨true,rfl,λ_=>⟨by trivial,.inl hl⟩,λ_=>rfl⟩
inductive Rdy (h:za):Nat->Prop
 |c (t:Nat) (k:zd):h.or[t]? =some k->Qf k->Rdy h t
 |w (j:Nat) (w:zB):h.LE[j]? =some w->Po h w->Rdy h (h.or.length+j)
 |o (i:Nat) (o:zc):h.Fd[i]? =some o->Pp h o->Rdy h (h.or.length+h.LE.length+i)
 |r:MN h->Rdy h (h.or.length+h.LE.length+h.Fd.length)
theorem GA(s:aq c g)(u:HI c g n h){t:Nat}(v:t<h.or.length+h.LE.length+h.Fd.length+1):∃b,qX h (t:Int)=some b/\(b=true↔Rdy h t):=by
 by_cases z:t<h.or.length
 ·have f:=zeg z;obtain ⟨b,m,d⟩:=II f;refine ⟨b,m,λe=>.c t _ f (d.1 e),λe=>d.2 ?_⟩;cases e with
  |c _ k l a=>rw [f] at l;cases l;exact a
  |w j w q a=>omega
  |o i o p a=>omega
  |r a=>omega
 by_cases A:t<h.or.length+h.LE.length
 ·obtain ⟨j,rfl⟩:∃j,t=h.or.length+j:=⟨t-h.or.length,by omega⟩
  have f:=zeg (show j<h.LE.length by omega);obtain ⟨b,m,d⟩:=IJ s u f;refine ⟨b,m,λe=>.w j _ f (d.1 e),λe=>d.2 ?_⟩;generalize v:h.or.length+j=t at e;cases e with
  |c _ k l a=>have:=(zes.1 l).1;omega
  |w x w q a=>
   grind
  |o i o p a=>omega
  |r a=>omega
 by_cases B:t<h.or.length+h.LE.length+h.Fd.length
 ·obtain ⟨i,rfl⟩:∃i,t=h.or.length+h.LE.length+i:=⟨t-(h.or.length+h.LE.length),by omega⟩
  have f:=zeg (show i<h.Fd.length by omega);obtain ⟨b,m,d⟩:=IK s u f;refine ⟨b,m,λe=>.o i _ f (d.1 e),λe=>d.2 ?_⟩;generalize v:h.or.length+h.LE.length+i=t at e;cases e with
  |c _ k l a=>have:=(zes.1 l).1;omega
  |w x w q a=>have:=(zes.1 q).1;omega
  |o y o p a=>
   obtain rfl:i=y:=by omega
   rw [f] at p;cases p;exact a
  |r a=>omega
 ·obtain rfl:t=h.or.length+h.LE.length+h.Fd.length:=by omega
  obtain ⟨b,m,d⟩:=IL s u;refine ⟨b,m,λe=>.r (d.1 e),λe=>d.2 ?_⟩;generalize v:h.or.length+h.LE.length+h.Fd.length=t at e;cases e with
  |c _ k l a=>have:=(zes.1 l).1;omega
  |w x w q a=>have:=(zes.1 q).1;omega
  |o y o p a=>have:=(zes.1 p).1;omega
  |r a=>exact a
def withK(h:za)(k:zn):za:={h with Td:=k}
theorem nD(l:aq c g)(m:HI c g n h):∃k j,xp h=some (withK h k)/\j.length=h.Td.SU.length/\(∀(t:Nat) b,j[t]? =some b->(b=true↔Rdy h t))/\Laid h.Td k j j.length:=by
 obtain ⟨x,y,A,B,C,D⟩:=m.sizes l;unfold xp;rw [rD rfl rfl rfl (by omega) (by omega) (by omega)];simp only [zbs]
 have r:mkLen (w64 (((h.or.length+h.LE.length+h.Fd.length:Nat):Int)+1)) 1=some h.Td.SU.length:=by
  grind [qe,mkLen]
 rw [r];simp only [zbs];rw [xJ (by omega)];simp only [zbs]
 obtain ⟨j,u,o,v⟩:OK (jM (dh h) (λ(a:(List Bool))=>a) h.Td.SU.length 0 (List.replicate h.Td.SU.length false)) (λj=>j.length=h.Td.SU.length/\∀(t:Nat) b,j[t]? =some b->(b=true↔Rdy h t)):=by
  refine i7 (λi s=>s.length=h.Td.SU.length/\∀(t:Nat) b,t<i->s[t]? =some b->(b=true↔Rdy h t)) ⟨by simp,λt b z=>by omega⟩ (λi s d E e F=> ?_) (λs p=>⟨p.1,λt b w=>p.2 t b (by grind) w⟩);obtain ⟨G,I⟩:=e;unfold dh;obtain ⟨b,f,q⟩:=GA l m (t:=i) (by omega);rw [f];simp only [zbs]
  grind [zV,jS]
 rw [u];simp only [zbs];obtain ⟨k,f,q⟩:=DS (k:=h.Td) o;rw [f];exact ⟨k,j,rfl,o,v,q⟩
theorem HI.withK(b:HI c g n h)(d:a.SU.length=h.Td.SU.length):HI c g n (withK h a):=
 {TU:=b.TU,Tm:=b.Tm,cl:=b.cl,cr:=b.cr,rg:=b.rg,TT:=b.TT,Uj:=b.Uj,Um:=b.Um,crew:=b.crew,own:=b.own,Vd:=b.Vd,Ut:=b.Ut,UC:=b.UC,call:=b.call,Tb:=b.Tb,UD:=d.trans b.UD,Uu:=b.Uu,UB:=b.UB,UE:=b.UE,Va:=b.Va,hel:=b.hel}
inductive Mv (h:za):Nat->za->Prop
 |back (t:Nat) (k:zd):h.or[t]? =some k->k.waits=true->k.Tf=0->Mv h t (Dh h t k [] h.rings h.TF)
 |ask (t:Nat) (k:zd) (cmd:zJ) (h':za):h.or[t]? =some k->k.waits=false->k.Tt<k.Tj.length->k.Tj[k.Tt.toNat]? =some cmd->CMv h t k cmd h'->Mv h t h'
 |work (j:Nat) (w:zB) (h':za):h.LE[j]? =some w->Po h w->WMv h j w (h.or.length+j) h'->Mv h (h.or.length+j) h'
 |serve (i:Nat) (o:zc) (h':za):h.Fd[i]? =some o->Pp h o->SMv 2199023255552 h i o h'->Mv h (h.or.length+h.LE.length+i) h'
 |rule (h':za):MN h->RMv h (h.or.length+h.LE.length+h.Fd.length) h'->Mv h (h.or.length+h.LE.length+h.Fd.length) h'
theorem MN.hyp(a:MN h)(c:∀x∈h.held,¬ Fin h x)(b:h.SX=[]):h.closed=true:=by
 rcases a.2 with z|⟨x,d,e⟩|z
 ·exact absurd b z
 ·grind
 ·exact z.1
theorem N4(e:aq c g)(f:HI c g n h)(b:Rdy h H){x:ql}(p:h.Td.SU[H]? =some x)(q:x.SY≠2):OK (ae 2199023255552 h (H:Int) true) (λr=>r.1=(H:Int)/\r.2.1=true/\Mv h H r.2.2):=by
 obtain ⟨z,A,B,C,D,E⟩:=f.sizes e;unfold ae zW qE;simp only [zbs];refine j8 rfl ?_;rw [qe (x:=(h.or.length:Int)+h.LE.length) (by omega) (by omega)];cases b with
 |c _ k l a=>
  have hl:=(zes.1 l).1;refine o8 (by simpa using hl) ?_;rcases a with ⟨d,s⟩|⟨d,m⟩
  ·rw [D0 e f l d];exact b9 ⟨rfl,rfl,.back H k l d s⟩
  ·obtain ⟨t,y,u⟩:=Gx e f l d m;exact d6 u λr b=>b9 ⟨rfl,rfl,.ask H k t _ l d m y b⟩
 |w j w d a=>
  have hl:=(zes.1 d).1;refine j8 (by simp;omega) ?_;refine o8 (by simp;omega) ?_;exact d6 (NY e f d rfl a.1 a.2 p q) λr b=>b9 ⟨rfl,rfl,.work j w _ d a b⟩
 |o i o v a=>
  have hl:=(zes.1 v).1;refine j8 (by simp;omega) ?_;refine j8 (by simp;omega) ?_;rw [rD rfl rfl rfl (by omega) (by omega) (by omega)];simp only [zbs];refine o8 (by simp;omega) ?_;exact d6 (K6 (by decide) e f v rfl p q) λr b=>b9 ⟨rfl,rfl,.serve i o _ v a b⟩
 |r a=>
  refine j8 (by simp;omega) ?_;refine j8 (by simp;omega) ?_;rw [rD rfl rfl rfl (by omega) (by omega) (by omega)];simp only [zbs];refine j8 (by simp) ?_;exact d6 (N1 e f rfl a.hyp p q) λr b=>b9 ⟨rfl,rfl,.rule _ a b⟩
theorem Qg(d:aq c g)(f:HI c g n h)(l:n+1<=100000000)(b:Mv h H h'):HI c g (n+1) h':=by
 cases b with
 |back H k p m r=>exact K4 d f l p m r
 |ask H k s h' p m q t b=>exact NU d f l p m q t b
 |work j w h' m a b=>exact NZ d f l m rfl (λz=>(a.1 z).1) b
 |serve i o h' u a b=>
  refine NW d f l u (λz=> ?_) b;rcases a with e|e
  ·exact absurd z e
  grind
 |rule h' a b=>exact N3 d f l a.1 a.hyp b
open Go.Sx
def wa(c:List zd):Nat:=(c.map (λk=>k.Tc.length)).sum
theorem AF(h:f[n]? =some y)(i:zd):wa (f.set n i)+y.Tc.length=wa f+i.Tc.length:=by
 unfold wa;rw [yg];exact DX (by grind) _
structure Eff (h:za) (t:Nat) (h':za):Prop where
 Tr:∃es:List ze,h'.Tr=h.Tr++es/\∀e∈es,e.Vq=(t:Int)
 UD:∀(i:Nat)(x:ql),h.Td.SU[i]? =some x->∃y,h'.Td.SU[i]? =some y/\(x.SY=2->y.SY=2)
 VC:h'.Td.SU.length=h.Td.SU.length
 sum:wa h'.or=wa h.or\/wa h'.or=wa h.or+1
theorem xc(k:zn):∀(i:Nat)(x:ql),k.SU[i]? =some x->∃y,k.SU[i]? =some y/\(x.SY=2->y.SY=2):=λi x h=>⟨x,h,λe=>e⟩
theorem AG(k:zn)(t:Nat)(z:ql):∀(i:Nat)(x:ql),k.SU[i]? =some x->∃y,(K5 k t z).SU[i]? =some y/\(x.SY=2->y.SY=2):=λi x h=>by
 by_cases e:i=t
 ·subst e;exact ⟨⟨2,z.Uk⟩,iN h,λ_=>rfl⟩
 ·exact ⟨x,vc h e,λz=>z⟩
theorem D5(b:h.or[n]? =some y)(d:i.Tc=y.Tc)(c:∀e∈es,e.Vq=(n:Int))(r:List zp)(g:zM):Eff h n (Dh h n i es r g):=by
 refine ⟨⟨es++[Qb n i],by grind [Dh],λe a=> ?_⟩,xc _,rfl,.inr ?_⟩
 ·rcases g8.1 a with a|a
  ·exact c e a
  ·rw [i6.1 a];rfl
 ·have f:wa (h.or.set n (Fz i))+y.Tc.length=wa h.or+(Fz i).Tc.length:=AF b (Fz i)
  have j:(Fz i).Tc.length=y.Tc.length+1:=by
   show (i.Tc++[K2 i]).length=_
   grind
  show wa (h.or.set n (Fz i))=_;omega
theorem D6(a:h.or[n]? =some y)(b:i.Tc=y.Tc)(os:List zc)(l:List zx):Eff h n (Kc h n y i os l):=by
 refine ⟨⟨[mf n y],rfl,λe c=>by rw [i6.1 c];rfl⟩,xc _,rfl,.inl ?_⟩;have d:wa (h.or.set n i)+y.Tc.length=wa h.or+i.Tc.length:=AF a i;show wa (h.or.set n i)=_;rw [b] at d;omega
theorem dH(a:h.or[n]? =some y)(b:i.Tc=y.Tc):wa (h.or.set n i)=wa h.or:=by
 grind [AF]
theorem Qh(y:Mv h n h'):Eff h n h':=by
 cases y with
 |back n k d C K=>exact D5 d (by rfl) (λe c=>by cases c) _ _
 |ask n k cmd h' d C hat D y=>
  cases y with
  |told E hE=>exact D5 d (by rfl) (λe c=>by rw [i6.1 c];rfl) _ _
  |fire i r s n2 E g L M O Y h5=>
   refine D5 d (by rfl) (λe c=> ?_) _ _;rcases g8.1 c with c|c
   ·rw [i6.1 c];rfl
   ·split at c
    ·rw [i6.1 c];rfl
    ·cases c
  |items L M O Y h5=>exact D6 d (by rfl) _ _
  |walk L M O Y=>exact D6 d (by rfl) _ _
  |call L M O=>exact D6 d (by rfl) _ _
 |work j w h' C F y=>
  cases y with
  |ends x m0 P f K=>exact ⟨⟨_,rfl,λe c=>by rw [i6.1 c];rfl⟩,AG _ _ _,by show (h.Td.SU.set _ _).length=_;rw [k7],.inl rfl⟩
  |take i r s q qs cur m0 P Q hwt htk c0 c1=>exact ⟨⟨_,rfl,λe c=>by rw [i6.1 c];rfl⟩,xc _,rfl,.inl rfl⟩
  |skip st v p m1 R hsk=>exact ⟨⟨_,rfl,λe c=>by rw [i6.1 c];rfl⟩,xc _,rfl,.inl rfl⟩
  |enter v p m b e1 G ck e W m1 R hmo c hE=>exact ⟨⟨_,rfl,λe c=>by rw [i6.1 c];rfl⟩,xc _,rfl,.inl rfl⟩
  |note a W S A k3=>exact ⟨⟨_,rfl,λe c=>by rw [i6.1 c];rfl⟩,xc _,rfl,.inl rfl⟩
  |ask a W S A k2=>exact ⟨⟨_,rfl,λe c=>by rw [i6.1 c];rfl⟩,xc _,rfl,.inl rfl⟩
  |done a W e1 ck S A k4 hlv=>exact ⟨⟨_,rfl,λe c=>by rw [i6.1 c];rfl⟩,xc _,rfl,.inl rfl⟩
  |ran a W S A k1=>exact ⟨⟨_,rfl,λe c=>by rw [i6.1 c];rfl⟩,xc _,rfl,.inl rfl⟩
  |back r W m3 hr hA=>exact ⟨⟨_,rfl,λe c=>by rw [i6.1 c];rfl⟩,xc _,rfl,.inl rfl⟩
 |serve i o h' ho F y=>
  cases y with
  |ends n x d hl f K=>subst d;exact ⟨⟨_,rfl,λe c=>by rw [i6.1 c];rfl⟩,AG _ _ _,by show (h.Td.SU.set _ _).length=_;rw [k7],.inl rfl⟩
  |crew n q Z x B j w d T I C=>subst d;exact ⟨⟨_,rfl,λe c=>by rw [i6.1 c];rfl⟩,xc _,rfl,.inl rfl⟩
  |walk q Z x B u k T I z C g0 g1=>exact ⟨⟨[],rfl,λe c=>by cases c⟩,xc _,rfl,.inl (dH z rfl)⟩
  |item n q Z x B u k d T I z C g0 g1=>subst d;exact ⟨⟨_,rfl,λe c=>by rw [i6.1 c];rfl⟩,xc _,rfl,.inl (dH z rfl)⟩
 |rule h' F y=>
  generalize h.or.length+h.LE.length+h.Fd.length=n at y;cases y with
  |fin a x u k hx I z f h8=>exact ⟨⟨[],rfl,λe c=>by cases c⟩,xc _,rfl,.inl (dH f rfl)⟩
  |retired a x u k hx I z f h8=>exact ⟨⟨_,rfl,λe c=>by rw [i6.1 c];rfl⟩,xc _,rfl,.inl (dH f rfl)⟩
  |over u k x t hl z f hkt K=>exact ⟨⟨_,rfl,λe c=>by rw [i6.1 c];rfl⟩,AG _ _ _,by show (h.Td.SU.set _ _).length=_;rw [k7],.inl (dH f rfl)⟩
  |refuse x B u k t hl D z f=>exact ⟨⟨[],rfl,λe c=>by cases c⟩,xc _,rfl,.inl (dH f rfl)⟩
  |cmd x B u k s N E es t hl D z f U=>
   refine ⟨⟨es,rfl,λe c=> ?_⟩,xc _,rfl,.inl (dH f rfl)⟩;cases U with
   |load n2 G s hk4 hld=>
    split at c
    ·rw [i6.1 c];rfl
    ·cases c
   |attach v G s hk5 J=>
    split at c
    ·rw [i6.1 c];rfl
    ·cases c
   |swap v G s hk6 J=>
    split at c
    ·rw [i6.1 c];rfl
    ·cases c
   |detach G tb hk7 J=>
    split at c
    ·rw [i6.1 c];rfl
    ·cases c
   |retire v G s hk8 J he2=>cases c
  |hold x B v s t hl D h8 J=>exact ⟨⟨[],rfl,λe c=>by cases c⟩,xc _,rfl,.inl rfl⟩
  |drain x B t hl D h9=>exact ⟨⟨[],rfl,λe c=>by cases c⟩,xc _,rfl,.inl rfl⟩
  |close x B t hl D h10=>
   refine ⟨⟨sM n h.rings++[AD 14 n 0 0 0],x4 _ _ _,λe c=> ?_⟩,xc _,rfl,.inl rfl⟩;rcases g8.1 c with c|c
   ·unfold sM at c;obtain ⟨l,V,X⟩:=k9.1 c;obtain ⟨i,Q⟩:=p6 V;rw [List.getElem?_mapIdx] at Q;obtain ⟨r,hr,rfl⟩:=yn.1 Q;obtain ⟨q,T,rfl⟩:=x8.1 X;rfl
   ·rw [i6.1 c];rfl
def GB(a b:zn):Prop:=b.SU.length=a.SU.length/\∀(i:Nat)(x:ql),a.SU[i]? =some x->∃y,b.SU[i]? =some y/\(x.SY=2↔y.SY=2)
theorem Laid.stay(h:Laid a z j j.length)(hl:j.length=a.SU.length):GB a z:=by
 refine ⟨h.2.1,λi x b=> ?_⟩;obtain ⟨u,c,_,d⟩:=h.2.2 i x b
 grind
theorem K8.stay(h:K8 a z):GB a z:=by
 refine ⟨h.1,λi x b=> ?_⟩;have c:=h.2 i
 grind
theorem GB.trans(h:GB a A)(b:GB A d):GB a d:=by
 refine ⟨b.1.trans h.1,λi x c=> ?_⟩;obtain ⟨y,e,f⟩:=h.2 i x c;obtain ⟨z,g,j⟩:=b.2 i y e
 grind
inductive Stp (h:za) (r:Int×Bool×za):Prop
 |none (k:zn):(∀t,t<h.Td.SU.length->(∀x,h.Td.SU[t]? =some x->x.SY≠2)->¬ Rdy h t)->GB h.Td k->k.LT=h.Td.LT->r=(0,false,withK h k)->Stp h r
 |one (k:zn) (t:Nat) (x:ql) (h':za):Rdy h t->GB h.Td k->k.LT=w64 (h.Td.LT+1)->h.Td.SU[t]? =some x->x.SY≠2->Mv (withK h k) t h'->r=((t:Int),true,h')->Stp h r
theorem Rdy.withK(b:Rdy h n)(k:zn):Rdy (withK h k) n:=by
 cases b with
 |c _ q d a=>exact .c n q d a
 |w j w e a=>exact .w (h:=KH.withK h k) j w e a
 |o i o f a=>exact .o (h:=KH.withK h k) i o f a
 |r a=>exact .r (h:=KH.withK h k) a
theorem D7(N:aq c g)(O:HI c g n h)(hl:j.length=h.Td.SU.length)(A:∀(t:Nat) b,j[t]? =some b->(b=true↔Rdy h t))(f:Laid h.Td a j j.length)(P:K9 a B):
  OK (B.bind λm=>(ae 2199023255552 (withK h m.2.2) m.1 m.2.1).bind λo=>some (o.1,o.2.1,o.2.2)) (λr=>Stp h r/\if r.2.1 then r.1∈kin a 1 a.SU.length else kin a 1 a.SU.length=[]):=by
 have p:=f.stay hl;have J:=p.1;rcases P with ⟨K,rfl⟩|⟨x,i,L,rfl,E,F⟩
 ·refine b9 ⟨.none a (λt M G q=> ?_) p f.1 rfl,K⟩;have v:=zeg M;have k:=zeg (show t<j.length by omega);obtain ⟨u,D,_,d⟩:=f.2.2 t _ v;rw [d7 (by omega),d8 (G _ v),k,(A t _ k).2 q,d7 rfl] at d
  have:(t:Int)∈kin a 1 a.SU.length:=by
   unfold kin;refine x8.2 ⟨t,List.mem_filter.2 ⟨by simp;omega,?_⟩,rfl⟩;rw [D];simp [d]
  rw [K] at this;cases this
 ·obtain ⟨t,y,rfl,M,Q,G⟩:=Iz L;have I:t<h.Td.SU.length:=by omega
  have v:=zeg I;have k:=zeg (show t<j.length by omega);obtain ⟨u,D,_,d⟩:=f.2.2 t _ v;rw [Q] at D;obtain rfl:=j6 D;rw [d7 (by omega),G] at d;have s:h.Td.SU[t].SY≠2:=λe=>by rw [d7 e] at d;omega
  rw [d8 s,k] at d
  have C:Rdy h t:=(A t _ k).1 (by
   cases R:j[t] with
   |true=>rfl
   |false=>rw [R,d8 (by simp)] at d;omega)
  have l:=p.trans E.stay;obtain ⟨z,S,e⟩:=l.2 t _ v;simp only [zbs];refine d6 (N4 N (O.withK l.1) (C.withK i) (x:=z) S (λw=>s (e.2 w))) (λr q=>b9 ⟨.one i t _ r.2.2 C l (by rw [F,f.1]) v s q.2.2 ?_,?_⟩)
  ·rw [q.1,q.2.1]
  ·rw [q.2.1,q.1];exact L
theorem D8(a:aq c g)(b:HI c g n h)(d:Int):OK (xF 2199023255552 h d) (Stp h):=by
 obtain ⟨k,j,f,i,l,e⟩:=nD a b;obtain ⟨s,o,p,q,t,u⟩:=b.sizes a;unfold xF;rw [f];simp only [zbs];have:=e.2.1;exact (D7 a b i l e (su (k:=k) (by omega) d)).mono λr m=>m.1
theorem N5(a:aq c g)(b:HI c g n h):OK (dE 2199023255552 h) (Stp h):=by
 obtain ⟨k,j,d,f,i,e⟩:=nD a b;obtain ⟨s,m,o,p,q,t⟩:=b.sizes a;unfold dE;rw [d];simp only [zbs];have:=e.2.1;exact (D7 a b f i e (Ce (k:=k) (by omega))).mono λr l=>l.1
open Go.Sx
theorem Ka.shape(a:Ka c g h)(b:∀s∈g,∀c∈s,Fit c):aq c g:=⟨a.hk,a.wk,a.sh,a.mp,a.cl,a.sl,b⟩
theorem FE(b:Ka c g h):HI c g 0 h/\h.Tr=[]/\wa h.or=0:=by
 obtain ⟨r,os,N,O,j,y,P,Q,R,S,T,⟨l,D⟩,⟨m,n⟩,rfl⟩:=b.is;have U:=b.hk;have V:=b.wk;have W:=b.sh;obtain ⟨X,A,E,Y,Z⟩:=WJ.new (H:=c.Ti.toNat) (K:=c.Maps.length) (by omega);rw [j] at A;obtain rfl:=j6 A
 have B:∀f:Int,bQ os f=0:=λf=>by
  unfold bQ
  have:os.map (λo=>sL o.SX f)=List.replicate os.length 0:=by
   refine o5 λi=> ?_
   grind [sL]
  rw [this];simp
 refine ⟨?_,rfl,?_⟩
 ·exact
  {TU:=by omega
   Tm:=rfl
   cl:=r9 _
   cr:=by grind
   rg:=m
   TT:=y
   Uj:=λq F=>⟨(n q F).1,λx C=>by grind⟩
   Um:=λt k s u G=>by
    rw [u7,G] at u;obtain rfl:=j6 u;exact ⟨rfl,w8 0,Int.natCast_nonneg _,(λe=>by cases e),rfl,(λa I=>by cases I),by simp [wu,QV],rfl,by simp [wu],(λp J=>by cases J),λ_=>rfl⟩
   crew:=λw v=>by
    rw [z8 (show w∈List.replicate _ _ from v)];exact ⟨E,⟨w8 0,by show (0:Int)<_;omega⟩,(λr e=>by cases e),λe=>by cases e⟩
   own:=⟨l,λi o d=>by
    grind⟩
   Vd:=λo d r y=>by
    obtain ⟨i,L⟩:=p6 (show o∈os from d)
    grind
   Ut:=λt k u=>by
    show k.Tf=((bQ os t+(0+0+(if false=true/\false=false/\(0:Int)=t then 1 else 0)):Nat):Int)
    grind [wu]
   UC:=λt=>.inl (by
    show 0+0+(if false=true/\false=false/\(0:Int)=t then 1 else 0)=0
    grind)
   call:=λx C=>by cases C
   Tb:=⟨0,rfl,b.cl.1⟩
   UD:=SH
   Uu:=λo d e=>by
    obtain ⟨i,L⟩:=p6 (show o∈os from d)
    grind
   UB:=λw v e=>by
    rw [z8 (show w∈List.replicate _ _ from v)] at e;cases e
   UE:=Nat.zero_le _
   Va:=Nat.zero_le _
   hel:=Nat.zero_le _}
 ·show wa (g.map wu)=0;unfold wa;rw [List.map_map]
  have:g.map ((λk:zd=>k.Tc.length)∘wu)=List.replicate g.length 0:=by
   refine o5 λi=> ?_
   rw [u7,List.getElem?_replicate];cases M:g[i]? with
   |none=>rw [d8 (λz=>by grind)];rfl
   |some s=>rw [d7 (zes.1 M).1];rfl
  rw [this];simp
theorem Qi(a:HI c g n h):cV h=some h.Tr:=by
 have:=a.logb
 grind [cV,qx,xJ]
theorem Lc(a:aq c g)(b:HI c g n h):vD h=some (kin h.Td 2 h.Td.SU.length):=by
 obtain ⟨s,d,e,f,i,j⟩:=b.sizes a
 grind [vD,AE]
theorem Ch(l:List zA)(h:∀a∈l,a.TD.length<=16/\a.Pairs.length<=64):(l.foldlM (λ(_:Unit)a=>(zL a.TD).bind λ_=>(zy a.Pairs).bind λ_=>some ()) ())=some ():=by
 induction l with
 |nil=>rfl
 |cons a l i=>
  have c:=h a zcs;rw [List.foldlM_cons];unfold zL zy;rw [xJ (m:=([]:List zk).length+a.TD.length) (by simp;omega),xJ (m:=([]:List zt).length+a.Pairs.length) (by simp;omega)];exact i λx b=>h x (zcm _ b)
theorem GD(e:aq c g)(f:HI c g n h)(b:h.or[H]? =some i):jL h (H:Int)=some i.Tc:=by
 have hl:=(zes.1 b).1;obtain ⟨s,j,d⟩:=f.at b;have k:=d.UX;have l:=d.Vj;have m:=e.sl s (zmg j);unfold jL;rw [d8 (by simp;omega),zV b];simp only [zbs];rw [xJ (by omega)];simp only [zbs];show ((i.Tc.foldlM (λ(_:Unit)a=>(zL a.TD).bind λ_=>(zy a.Pairs).bind λ_=>some ()) ()).bind λ_=>some i.Tc)=_;rw [Ch _ d.done];rfl
structure R5 (h:za) (r:Int×Bool×za):Prop where
 Tr:∃es:List ze,r.2.2.Tr=h.Tr++es/\(∀e∈es,e.Vq=r.1)/\(r.2.1=false->es=[])
 VC:r.2.2.Td.SU.length=h.Td.SU.length
 SZ:∀(i:Nat)(x:ql),h.Td.SU[i]? =some x->x.SY=2->∃y,r.2.2.Td.SU[i]? =some y/\y.SY=2
 over:r.2.1=true->∃(t:Nat)(x:ql),r.1=t/\h.Td.SU[t]? =some x/\x.SY≠2
 sum:wa r.2.2.or=wa h.or\/wa r.2.2.or=wa h.or+1
theorem tv(j:Stp h C):R5 h C:=by
 cases j with
 |none k l a b e=>
  subst e;refine ⟨⟨[],by show h.Tr=_;rw [j7],(λe m=>by cases m),λ_=>rfl⟩,a.1,λi x c d=> ?_,(λe=>by cases e),.inl rfl⟩;obtain ⟨y,f,e⟩:=a.2 i x c;exact ⟨y,f,e.1 d⟩
 |one k t x h' n a b c d o e=>
  subst e;obtain ⟨⟨es,p,q⟩,r,s,u⟩:=Qh o;refine ⟨⟨es,p,q,λz=>by cases z⟩,s.trans a.1,λi y f v=> ?_,λ_=>⟨t,x,rfl,c,d⟩,u⟩;obtain ⟨w,g,B⟩:=a.2 i y f;obtain ⟨D,A,E⟩:=r i w g
  grind
open Go.Sx
open Go.Sx
def Jd(m:zE):Prop:=∃o,jZ 2199023255552 m=some (o,0,0)
structure RJ (r:zb):Prop where
 Ux:∀p x,jz r.Tl p=some x->Jd x.module
 hook:∀(i:Nat) u,r.Tk.Te[i]? =some u->0<u.Ts->∃x,jz r.Tl u.prog=some x/\x.TH=0
theorem Jd.of(h:vx 2199023255552 m=some (v,0)):Jd m:=by
 obtain ⟨o,q,e,a,b⟩:=mL m
 grind [Ao,Jd]
theorem G2(h:oL clo D=some G)(c:G.2=0):Jd G.1:=by
 unfold oL at h;obtain ⟨d,_,h⟩:=Sy.1 h;split at h
 ·grind
 ·obtain ⟨j,a,h⟩:=Sy.1 h;split at h
  ·grind
  ·rename_i b
   obtain ⟨p,e⟩:=j;have:e=0:=by simpa using b
   subst this;cases h;exact .of a
theorem RJ.added(b:fJ H M W n r)(a:RJ r)(c:Jd m):RJ (added r m):=by
 have g:=uC b;have d:∀p,jz (Go.Proofs.YtplmgfkghomelaaGreatDoor.added r m).Tl p=if r.given+1=p then some ⟨m,0⟩ else jz r.Tl p:=λp=>uB ..
 refine ⟨λp x h=> ?_,λi u e f=> ?_⟩
 ·rw [d] at h;split at h
  ·cases h;exact c
  ·exact a.Ux p x h
 ·obtain ⟨x,j,k⟩:=a.hook i u e f
  grind
theorem RJ.placed(h:RJ r)(b:CH r v clo q):RJ q.2.2/\q.2.2.Th=r.Th:=by
 by_cases e:q.2.1=0
 ·obtain ⟨_,c,l,hl,d⟩:=b.yes e;rw [d,hl];refine ⟨⟨h.Ux,λi u a f=> ?_⟩,rfl⟩;rcases jS (show (r.Tk.Te.set _ _)[i]? =some u from a) with ⟨_,rfl,_⟩|⟨_,a⟩
  ·exact c
  ·exact h.hook i u a f
 ·rw [(b.no e).2];exact ⟨h,rfl⟩
theorem RJ.retired(l:fJ H M W n r)(a:RJ r)(f:jz r.Tl v=some I)(g:∀(i:Nat) u,r.Tk.Te[i]? =some u->0<u.Ts->u.prog≠v):RJ (retired r v I):=by
 have b:∀q,jz (Go.Proofs.YtplmgfkghomelaaGreatDoor.retired r v I).Tl q=if v=q then some ⟨I.module,r.Th.Uq+1⟩ else jz r.Tl q:=by
  grind [Go.Proofs.YtplmgfkghomelaaGreatDoor.retired,CD]
 refine ⟨λq y h=> ?_,λi u c d=> ?_⟩
 ·rw [b] at h;split at h
  ·cases h;exact a.Ux v I f
  ·exact a.Ux q y h
 ·obtain ⟨y,j,k⟩:=a.hook i u c d;exact ⟨y,by rw [b,d8 (λe=>g i u c d e.symm)];exact j,k⟩
theorem RJ.settled(h:fJ H M W n r)(a:RJ r)(m:Int):RJ (settled r (iQ r m)):=by
 have d:=oO h (iQ r m);refine ⟨λq y e=> ?_,λi u b c=> ?_⟩
 ·grind [RJ]
 ·obtain ⟨y,f,g⟩:=a.hook i u b c
  grind [Ox]
theorem OI(d:HI c g n h)(f:RJ h.Fn)(m:x.cmd.Tu.length<=140737488355328)(o:K7 clo h.Fn x s N E es):RJ s/\s.Th.in_=h.Fn.Th.in_:=by
 cases o with
 |load n e s _ hl=>
  obtain ⟨v,p,r,w⟩:=rE d m;rw [p] at hl;split at hl
  ·grind
  ·split at hl
   ·grind
   ·cases hl;exact ⟨f.added d.TT (G2 r (by omega)),rfl⟩
 |attach v e s _ j=>
  obtain ⟨q,b,a⟩:=uD d.TT x.cmd.TC x.cmd.TS;rw [j] at b;cases b;have:=f.placed a
  grind
 |swap v e s _ j=>
  obtain ⟨q,b,a⟩:=Er d.TT x.cmd.TC x.cmd.TS;rw [j] at b;cases b;have:=f.placed a
  grind
 |detach e y _ hd=>
  obtain ⟨q,b,a⟩:=uE d.TT x.cmd.TC;rw [hd] at b;cases b;rcases a with ⟨_,a⟩|⟨_,l,⟨_,hl⟩,a⟩
  ·simp only at a;subst a;exact ⟨f,rfl⟩
  ·simp only at a;subst a;refine ⟨⟨f.Ux,λi u k t=> ?_⟩,rfl⟩;rcases hl i u k with e|k
   ·omega
   ·exact f.hook i u k t
 |retire v e s _ z A=>
  obtain ⟨q,b,a⟩:=mZ d.TT x.cmd.TS
  grind
theorem OJ(b:HI c g n h)(e:RJ h.Fn)(f:qS h.Fn clo=some (v,0,s)):RJ s/\s.Th.in_=h.Fn.Th.in_:=by
 obtain ⟨q,d,a⟩:=mZ b.TT clo;rw [f] at d;cases d;rcases a with ⟨a,_⟩|⟨_,_,x,i,_,j,a⟩
 ·exact absurd rfl a
 ·simp only at a;subst a;exact ⟨e.retired b.TT i j,rfl⟩
theorem RJ.cur(d:fJ H M W n r)(b:RJ r)(h:jl r.Tk clo=some (v,N,true)):∃m,qR r N=some (m,true)/\Jd m:=by
 unfold jl jf jg at h;simp only [zbs] at h;obtain ⟨o,e,h⟩:=Sy.1 h;split at h
 ·cases h
 ·rename_i f
  obtain ⟨u,g,h⟩:=Sy.1 h;cases h;have a:r.Tk.Te[clo.toNat]? =some u:=by grind [idx]
  have:0<u.Ts:=by grind
  obtain ⟨x,c,i⟩:=b.hook _ u a this;exact ⟨x.module,by rw [CJ d,c],b.Ux _ x c⟩
end Go.Proofs.YtplmgfkghomelaaGreatDoor.KH
