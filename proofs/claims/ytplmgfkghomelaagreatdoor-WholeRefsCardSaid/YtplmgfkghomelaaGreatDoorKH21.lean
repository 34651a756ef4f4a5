/- Lemmas. -/
import Derived.Test.YtplmgfkghomelaaGreatDoorKH17
set_option linter.all false
namespace Go.Proofs.YtplmgfkghomelaaGreatDoor.KH
open Go.Sx
variable {c:zH}{h h':za}{n H M W:Nat}{g:List (List zF)}{r s rg:zb}{es:List ze}{i y:zd}{a z A d:zn}{l hd:List zx}{x:zx}{j:List Bool}{m:zE}{v clo N E:Int}{cld ov:Bool}{e:zA}{o:zc}{f:List zd}{B:Option (Int×Bool×zn)}{C:Int×Bool×za}{D:List Int}{G:zE×Int}{q:Int×Int×zb}{I:zS}
def OM(h:za)(rg:zb)(k:zn)(c:List zd)(r:List zp)(l hd:List zx)(clo:Int)(cld ov:Bool)(es:List ze):za:=
 ⟨rg,k,h.Ur,c,h.LE,h.Fn,r,l,hd,clo,cld,ov,h.Un++es,h.UL⟩
theorem nk(b:HI c g n h)(M:n+1<=100000000){k:zn}{cs:List zd}{rs:List zp}
  (G:fK c.Up.toNat c.Maps.length c.Uc.toNat (n+1) rg) (O:k.Ub.length=h.Um.Ub.length)
  (d:(cs=h.or/\∀t:Nat,gr (OM h rg k cs rs l hd clo cld ov es) t=gr h t)\/∃(u:Nat)(p:zd)(N E:Int),h.or[u]? =some p/\cs=h.or.set u (rU p N E)/\∀t:Nat,gr (OM h rg k cs rs l hd clo cld ov es) t+(if t=u then 1 else 0)=gr h t)
  (z:AL c rs) (q:∀x∈l++hd,(∃t:Nat,x.Ut=t/\t<g.length)/\x.cmd.Uq.length<=140737488355328/\4<=x.cmd.TY/\x.cmd.TY<=10) (A:∃t:Nat,clo=t/\t<g.length) (j:h.closed=true->cld=true) (P:es.length<=100) (hl:l.length<=n+1) (I:hd.length<=n+1):
  HI c g (n+1) (OM h rg k cs rs l hd clo cld ov es):=by
 have m:cs.length=h.or.length:=by
  rcases d with ⟨e,_⟩|⟨u,p,N,E,_,e,_⟩
  ·rw [e]
  ·rw [e,j8]
 have B:∀(t:Nat) i,cs[t]? =some i->i.Ul=((bS h.Fn t+gr (OM h rg k cs rs l hd clo cld ov es) t:Nat):Int)/\∀s,g[t]? =some s->pQ s i:=λt i a=>by
  rcases d with ⟨rfl,e⟩|⟨u,p,N,E,D,rfl,e⟩
  ·exact ⟨by rw [e t];exact b.Vv t i a,λs v=>b.Vq t i s a v⟩
  ·have C:=e t;rcases jW a with ⟨rfl,rfl,_⟩|⟨J,a⟩
   ·rw [d7 rfl] at C;have K:=b.VF t;refine ⟨?_,λs v=> ?_⟩
    ·show (0:Int)=_;omega
    ·have Q:=b.Vq t p s D v;exact {Q with VO:=λ_=>rfl}
   ·rw [d8 J] at C;exact ⟨by rw [b.Vv t i a];rw [<- C];rfl,λs v=>b.Vq t i s a v⟩
 have y:∀(t:Nat) k,h.or[t]? =some k->∃i,cs[t]? =some i/\i.parts.length=k.parts.length/\i.Id.UJ.length=k.Id.UJ.length:=λt L f=>by
  rcases d with ⟨rfl,e⟩|⟨u,p,N,E,D,rfl,e⟩
  ·exact ⟨L,f,rfl,rfl⟩
  ·by_cases e:t=u
   ·subst e;rw [D] at f;obtain rfl:=i8 f;exact ⟨_,kb D,rfl,rfl⟩
   ·exact ⟨L,ve f e,rfl,rfl⟩
 exact
 {UZ:=M
  Ur:=b.Ur
  cl:=m.trans b.cl
  cr:=b.cr
  rg:=z.1
  UO:=G
  Vn:=z.2
  Vq:=λt i s a v=>(B t i a).2 s v
  crew:=b.crew
  own:=b.own.mono (by omega)
  Wg:=λo F r R=>(b.Wg o F r R).same m y
  Vv:=λt i a=>(B t i a).1
  VF:=λt=>by
   have C:=b.VF t;show gr (OM h rg k cs rs l hd clo cld ov es) t=0\/gr (OM h rg k cs rs l hd clo cld ov es) t=1/\bS h.Fn t=0;rcases d with ⟨_,e⟩|⟨u,p,N,E,_,_,e⟩
   ·rw [e t];exact C
   ·have K:=e t;split at K<;>omega
  call:=q
  Uh:=A
  VG:=by show k.Ub.length=_;rw [O];exact b.VG
  VB:=λo F e=>⟨j (b.VB o F e).1,(b.VB o F e).2⟩
  VH:=λw S e=>j (b.VH w S e)
  VI:=by
   show (h.Un++es).length<=_;have:=b.VI;rw [l8];omega
  Wd:=hl
  hel:=I}
theorem rY(h:l[n]? =some x)(f:Int):bX (l.eraseIdx n) f+(if x.Ut=f then 1 else 0)=bX l f:=by
 have a:=(zes.1 h).1
 have c:l=l.take n++x::l.drop (n+1):=by
  have b:=x9 n l;rw [TQ a] at b;have d:l[n]=x:=(zes.1 h).2;rw [d] at b;exact b.symm
 rw [TW]
 conv=>rhs;rw [c]
 rw [gM,gM,iC];omega
theorem ON(hS:aQ c g)(i:HI c g n h)(O:n+1<=100000000)(Z:h.over=false)(Q:(∀x∈h.held,¬ Fin h x)->h.TZ=[]->h.closed=true)(hv:RMv h H h'):HI c g (n+1) h':=by
 have m:=i.UO.mono (show n<=n+1 by omega) (by omega);have S:=i.Wd;have hhl:=i.hel;have D:AL c h.rings:=⟨i.rg,i.Vn⟩
 have C:∀{x o},h.TZ=x::o->∀f:Int,bX o f+(if x.Ut=f then 1 else 0)=bX h.TZ f:=λe f=>by rw [e,iC]
 have p:∀{x o},h.TZ=x::o->∀y∈o++h.held,(∃H:Nat,y.Ut=H/\H<g.length)/\y.cmd.Uq.length<=140737488355328/\4<=y.cmd.TY/\y.cmd.TY<=10:=λe y j=>i.call y (by
  rcases f8.1 j with j|j
  ·exact zal _ (by rw [e];exact zcm _ j)
  ·exact zar _ j)
 have B:∀{x o},h.TZ=x::o->(∃H:Nat,x.Ut=H/\H<g.length)/\x.cmd.Uq.length<=140737488355328/\4<=x.cmd.TY/\x.cmd.TY<=10:=λe=>i.call _ (zal _ (by rw [e];exact zcs))
 have lens:∀{x o},h.TZ=x::o->o.length<=n+1:=λe=>by rw [e,u4] at S;omega
 cases hv with
 |fin a x u k T hf I J h8=>
  refine nk i O (rg:=h.Fd) (k:=h.Um) (cs:=h.or.set u (rU k 0 0)) (rs:=h.rings) (l:=h.TZ) (hd:=h.held.eraseIdx a) (clo:=h.Uh) (cld:=h.closed) (ov:=h.over) (es:=[]) m rfl (.inr ⟨u,k,0,0,J,rfl,λv=> ?_⟩) D (λy j=>i.call y ?_) i.Uh (λe=>e) (by simp) (by omega) (t8 (List.length_eraseIdx_le _ _) (by omega))
  ·have A:=rY T (v:Int);unfold gr;show bX h.TZ v+bX (h.held.eraseIdx a) v+_+_=_;rw [I] at A;by_cases e:v=u
   ·subst e;rw [d7 rfl] at A |-;show _+(if h.closed=true/\h.over=false/\h.Uh=(v:Int) then 1 else 0)+1=_;omega
   ·rw [d8 (by omega)] at A;rw [d8 e];show _+(if h.closed=true/\h.over=false/\h.Uh=(v:Int) then 1 else 0)+0=_;omega
  ·rcases f8.1 j with j|j
   ·exact zal _ j
   ·exact zar _ (TV j)
 |retired a x u k T hf I J h8=>
  refine nk i O (rg:=settled h.Fd (gn h.Fd 1)) (k:=h.Um) (cs:=h.or.set u (rU k 0 0)) (rs:=h.rings) (l:=h.TZ) (hd:=h.held.eraseIdx a) (clo:=h.Uh) (cld:=h.closed) (ov:=h.over) (es:=[oW 13 H 0 x.cmd.UA 0]) (ER i.UO (by omega) 1) rfl (.inr ⟨u,k,0,0,J,rfl,λv=> ?_⟩) D (λy j=>i.call y ?_) i.Uh (λe=>e) (by simp) (by omega) (t8 (List.length_eraseIdx_le _ _) (by omega))
  ·have A:=rY T (v:Int);unfold gr;show bX h.TZ v+bX (h.held.eraseIdx a) v+_+_=_;rw [I] at A;by_cases e:v=u
   ·subst e;rw [d7 rfl] at A |-;show _+(if h.closed=true/\h.over=false/\h.Uh=(v:Int) then 1 else 0)+1=_;omega
   ·rw [d8 (by omega)] at A;rw [d8 e];show _+(if h.closed=true/\h.over=false/\h.Uh=(v:Int) then 1 else 0)+0=_;omega
  ·rcases f8.1 j with j|j
   ·exact zal _ j
   ·exact zar _ (TV j)
 |over u k x G hl I J hkt hm=>
  have P:=Q G hl;refine nk i O (rg:=h.Fd) (k:=LK h.Um H x) (cs:=h.or.set u (rU k 0 0)) (rs:=h.rings) (l:=h.TZ) (hd:=h.held) (clo:=h.Uh) (cld:=h.closed) (ov:=true) (es:=[AM H]) m (by show (h.Um.Ub.set H _).length=_;rw [j8]) (.inr ⟨u,k,0,0,J,rfl,λv=> ?_⟩) D i.call i.Uh (λe=>e) (by simp) (by omega) (by omega);unfold gr;show bX h.TZ v+bX h.held v+(if h.closed=true/\true=false/\h.Uh=(v:Int) then 1 else 0)+_=_;rw [d8 (λz=>by cases z.2.1),P,Z,I];by_cases e:v=u
  ·subst e;rw [d7 rfl,d7 ⟨rfl,rfl,rfl⟩]
  ·rw [d8 e,d8 (λz=>e (by have:=z.2.2;omega))]
 |refuse x o u k G hl P I J=>
  refine nk i O (rg:=h.Fd) (k:=h.Um) (cs:=h.or.set u (rU k 0 43)) (rs:=h.rings) (l:=o) (hd:=h.held) (clo:=h.Uh) (cld:=h.closed) (ov:=h.over) (es:=[]) m rfl (.inr ⟨u,k,0,43,J,rfl,λv=> ?_⟩) D (p hl) i.Uh (λe=>e) (by simp) (lens hl) (by omega);have A:=C hl (v:Int);rw [I] at A;unfold gr;show bX o v+bX h.held v+(if h.closed=true/\h.over=false/\h.Uh=(v:Int) then 1 else 0)+_=_;by_cases e:v=u
  ·subst e;rw [d7 rfl] at A |-;omega
  ·rw [d8 (by omega)] at A;rw [d8 e];omega
 |cmd x o u k s N E es G hl P I J U=>
  have K:fK c.Up.toNat c.Maps.length c.Uc.toNat (n+1) s/\es.length<=1:=by
   cases U with
   |load n2 e s hk4 V=>
    refine ⟨?_,by split<;>simp⟩;obtain ⟨v,v1,v2,v3⟩:=nV i (B hl).2.1;rw [V] at v1;have v1:=i8 v1;split at v1
    ·cases v1;exact m
    ·rename_i h0
     split at v1
     ·cases v1;exact m
     ·rename_i W
      cases v1
      have X:=v3 (Classical.not_not.1 h0);exact JO i.UO (by omega) W ⟨X.1,by rw [<- i.UO.maps];exact X.2.1,X.2.2⟩
   |attach v e s hk5 L=>
    refine ⟨?_,by split<;>simp⟩;obtain ⟨q,F,M⟩:=rm i.UO x.cmd.UF x.cmd.UA;rw [L] at F;cases F;exact M.inv i.UO (by omega)
   |swap v e s hk6 L=>
    refine ⟨?_,by split<;>simp⟩;obtain ⟨q,F,M⟩:=A8 i.UO x.cmd.UF x.cmd.UA;rw [L] at F;cases F;exact M.inv i.UO (by omega)
   |detach e tb hk7 L=>
    refine ⟨?_,by split<;>simp⟩;obtain ⟨q,F,M⟩:=uK i.UO x.cmd.UF;rw [L] at F;cases F;exact Hj i.UO (by omega) M
   |retire v e s hk8 L he=>
    refine ⟨?_,by simp⟩;obtain ⟨q,F,M⟩:=iF i.UO x.cmd.UA;rw [L] at F;cases F;rcases M with ⟨_,_,R⟩|⟨R,_⟩
    ·rw [show s=h.Fd from R];exact m
    ·exact absurd R he
  refine nk i O (rg:=s) (k:=h.Um) (cs:=h.or.set u (rU k N E)) (rs:=h.rings) (l:=o) (hd:=h.held) (clo:=h.Uh) (cld:=h.closed) (ov:=h.over) (es:=es) K.1 rfl (.inr ⟨u,k,N,E,J,rfl,λv=> ?_⟩) D (p hl) i.Uh (λe=>e) (by have:=K.2;omega) (lens hl) (by omega);have A:=C hl (v:Int);rw [I] at A;unfold gr;show bX o v+bX h.held v+(if h.closed=true/\h.over=false/\h.Uh=(v:Int) then 1 else 0)+_=_;by_cases e:v=u
  ·subst e;rw [d7 rfl] at A |-;omega
  ·rw [d8 (by omega)] at A;rw [d8 e];omega
 |hold x o v s G hl P h8 L=>
  have K:fK c.Up.toNat c.Maps.length c.Uc.toNat (n+1) s:=by
   obtain ⟨q,F,M⟩:=iF i.UO x.cmd.UA;rw [L] at F;cases F;rcases M with ⟨R,_⟩|⟨_,_,y,y1,y2,_,y3⟩
   ·exact absurd rfl R
   ·rw [show s=_ from y3];exact EP i.UO (by omega) y1 y2
  refine nk i O (rg:=s) (k:=h.Um) (cs:=h.or) (rs:=h.rings) (l:=o) (hd:=h.held++[{x with Vt:=v}]) (clo:=h.Uh) (cld:=h.closed) (ov:=h.over) (es:=[]) K rfl (.inl ⟨rfl,λw=> ?_⟩) D (λy j=> ?_) i.Uh (λe=>e) (by simp) (lens hl) (by rw [l8];simp only [u4,yj];omega)
  ·have A:=C hl (w:Int);unfold gr;show bX o w+bX (h.held++[{x with Vt:=v}]) w+(if h.closed=true/\h.over=false/\h.Uh=(w:Int) then 1 else 0)=_;rw [gM,nT];show bX o w+(bX h.held w+(if x.Ut=(w:Int) then 1 else 0))+_=_;omega
  ·rcases f8.1 j with j|j
   ·exact p hl y (zal _ j)
   ·rcases f8.1 j with j|j
    ·exact i.call y (zar _ j)
    ·rw [g8.1 j];exact B (x:=x) hl
 |drain x o G hl P h9=>
  refine nk i O (rg:=h.Fd) (k:=h.Um) (cs:=h.or) (rs:=h.rings) (l:=o) (hd:=h.held++[x]) (clo:=h.Uh) (cld:=h.closed) (ov:=h.over) (es:=[]) m rfl (.inl ⟨rfl,λw=> ?_⟩) D (λy j=> ?_) i.Uh (λe=>e) (by simp) (lens hl) (by rw [l8];simp only [u4,yj];omega)
  ·have A:=C hl (w:Int);unfold gr;show bX o w+bX (h.held++[x]) w+(if h.closed=true/\h.over=false/\h.Uh=(w:Int) then 1 else 0)=_;rw [gM,nT];omega
  ·rcases f8.1 j with j|j
   ·exact p hl y (zal _ j)
   ·rcases f8.1 j with j|j
    ·exact i.call y (zar _ j)
    ·rw [g8.1 j];exact B hl
 |close x o G hl P h10=>
  have hd:=Cn (t:=(H:Int)) (λr Q=>(i.Vn r Q).1);have hr4:=(i.hooks4 hS)
  have:=nk i O (rg:=h.Fd) (k:=h.Um) (cs:=h.or) (rs:=h.rings.map rW) (l:=o) (hd:=h.held) (clo:=x.Ut) (cld:=true) (ov:=h.over) (es:=pT H h.rings++[oW 14 H 0 0 0]) m rfl (.inl ⟨rfl,λw=> ?_⟩) ⟨by rw [m6];exact i.rg,λr Q=> ?_⟩ (p hl) (B hl).1 (λ_=>rfl) (by rw [l8];simp only [u4,yj];omega) (lens hl) (by omega)
  ·unfold OM at this;rw [<- u6] at this;exact this
  ·have A:=C hl (w:Int);unfold gr;show bX o w+bX h.held w+(if true=true/\h.over=false/\x.Ut=(w:Int) then 1 else 0)=_;rw [Z,P,d8 (show ¬ (false=true/\false=false/\h.Uh=(w:Int)) from λz=>by cases z.1)];by_cases e:x.Ut=(w:Int)
   ·rw [d7 e] at A;rw [d7 ⟨rfl,rfl,e⟩];omega
   ·rw [d8 e] at A;rw [d8 (λz=>e z.2.2)];omega
  ·obtain ⟨r0,Y,rfl⟩:=x2.1 Q;obtain ⟨⟨a,b,d⟩,_⟩:=i.Vn r0 Y;refine ⟨⟨a,b,?_⟩,λq hq=>by cases hq⟩;show ((0:Nat):Int)<=r0.room;omega
open Go.Sx
def QV(k:zd):Prop:=(k.waits=true/\k.Ul=0)\/(k.waits=false/\k.Uw<k.Uf.length)
def P8(h:za)(w:zA):Prop:=(w.TX.Ua=0->w.Ue=false/\(h.closed=true\/∃r∈h.rings,r.waiting≠ []))/\(w.TX.Ua=3->w.Va.isSome=true)
def P9(h:za)(o:zc):Prop:=o.TZ≠ []\/(h.closed=true/\(∀w∈h.LE,w.Ue=true)/\o.Ue=false)
def Nq(h:za):Prop:=h.over=false/\(h.TZ≠ []\/(∃x∈h.held,Fin h x)\/(h.closed=true/\((∀w∈h.LE,w.Ue=true)/\∀o∈h.Fn,o.Ue=true)/\h.held=[]))
theorem HI.sizes(a:aQ c g)(b:HI c g n h):(1<=h.or.length/\h.or.length<=4)/\(1<=h.LE.length/\h.LE.length<=4)/\(1<=h.Fn.length/\h.Fn.length<=4)/\(1<=h.rings.length/\h.rings.length<=4)/\h.Fd.Uo.in_.length<=4/\h.Um.Ub.length=h.or.length+h.LE.length+h.Fn.length+1:=by
 have d:=b.cl;have e:=b.crn a;have f:=b.own4 a;have i:=b.hooks4 a;have j:=b.UO.wk;have k:=b.VG;have l:=a.cl;have m:=a.wk;have o:=a.sh
 grind
theorem Jh(a:h.or[n]? =some i):∃b,qX h (n:Int)=some b/\(b=true↔QV i):=by
 have hl:=(zes.1 a).1;unfold qX zZ;simp only [zbs];rw [d7 (by simpa using hl),zX a];simp only [zbs];unfold QV;cases c:i.waits with
 |true=>
  grind
 |false=>
  grind
theorem Ji(f:aQ c g)(a:HI c g n h)(d:h.LE[H]? =some e):∃b,qX h ((h.or.length+H:Nat):Int)=some b/\(b=true↔P8 h e):=by
 have hl:=(zes.1 d).1;obtain ⟨s,i,j,k,l,m⟩:=a.sizes f;have o:=(a.crew e (zmg d)).UE;unfold qX zZ qF jQ
 grind [qq,zX,P8,wV]
theorem Jj(k:aQ c g)(f:HI c g n h)(i:h.Fn[H]? =some o):∃b,qX h ((h.or.length+h.LE.length+H:Nat):Int)=some b/\(b=true↔P9 h o):=by
 have hl:=(zes.1 i).1;obtain ⟨q,s,l,r,t,u⟩:=f.sizes k;have v:=f.UZ;have m:=(f.own.all H o i).2.2.2.2.2;unfold qX zZ qF;simp only [zbs];rw [d8 (by simp;omega),qq (x:=(h.or.length:Int)+h.LE.length) (by omega) (by omega),d8 (by simp;omega)];rw [rX rfl rfl rfl (by omega) (by omega) (by omega)];simp only [zbs];rw [d7 (by simp;omega),qq (by omega) (by omega)];rw [show ((h.or.length+h.LE.length+H:Nat):Int)-((h.or.length:Int)+h.LE.length)=(H:Int) by omega,zX i];simp only [zbs];rw [ti (by omega)];simp only [zbs];unfold P9;by_cases d:o.TZ=[]
 ·rw [d8 (by rw [d];simp)];cases w:h.closed with
  |false=>
   refine ⟨false,rfl,λe=>(by cases e),λe=> ?_⟩
   grind
  |true=>
   obtain ⟨b,p,j⟩:=uC (h:=h) s.2 l.2 false;rw [p];simp only [zbs,q9];cases a:b with
   |false=>
    refine ⟨false,rfl,λe=>(by cases e),λe=> ?_⟩;rcases e with e|e
    ·exact absurd d e
    ·rw [j.2 ⟨e.2.1,λz=>by cases z⟩] at a;cases a
   |true=>
    unfold vn;refine ⟨_,rfl,λe=>.inr ⟨by trivial,(j.1 a).1,by simpa using e⟩,λe=> ?_⟩;rcases e with e|e
    ·exact absurd d e
    ·simp [e.2.2]
 ·have:0<o.TZ.length:=List.length_pos_iff.2 d;rw [d7 (by simp;omega)];exact ⟨true,rfl,λ_=>.inl d,λ_=>rfl⟩
theorem G2(s:h.LE.length<=4)(d:h.Fn.length<=4):∃b,aJ h=some b/\(b=true↔h.closed=true/\((∀w∈h.LE,w.Ue=true)/\∀o∈h.Fn,o.Ue=true)/\h.held=[]):=by
 unfold aJ;cases g:h.closed with
 |false=>exact ⟨false,rfl,λe=>(by cases e),λe=>(by cases e.1)⟩
 |true=>
  obtain ⟨b,f,c⟩:=uC (h:=h) s d true;rw [f];simp only [zbs,q9];cases a:b with
  |false=>exact ⟨false,rfl,λe=>(by cases e),λe=>(by rw [c.2 ⟨e.2.1.1,λ_=>e.2.1.2⟩] at a;cases a)⟩
  |true=>
   have:=c.1 a;exact ⟨_,rfl,λe=>⟨by trivial,⟨this.1,this.2 rfl⟩,TK.1 (by simpa using e)⟩,λe=>(by simp [e.2.2])⟩
theorem Jk(a:aQ c g)(d:HI c g n h):∃b,qX h ((h.or.length+h.LE.length+h.Fn.length:Nat):Int)=some b/\(b=true↔Nq h):=by
 obtain ⟨s,i,j,k,l,m⟩:=d.sizes a;unfold qX zZ qF;simp only [zbs];rw [d8 (by simp;omega),qq (x:=(h.or.length:Int)+h.LE.length) (by omega) (by omega),d8 (by simp;omega)];rw [rX rfl rfl rfl (by omega) (by omega) (by omega)];simp only [zbs];rw [d8 (by simp)];unfold Nq;cases f:h.over with
 |true=>exact ⟨false,rfl,λe=>(by cases e),λe=>(by cases e.1)⟩
 |false=>
  simp only [Bool.not_false,q9];by_cases hl:h.TZ=[]
  ·rw [d8 (by rw [hl];simp)]
   grind [pS,G2,hl]
  ·have:0<h.TZ.length:=List.length_pos_iff.2 hl;rw [d7 (by simp;omega)];exact ⟨true,rfl,λ_=>⟨by trivial,.inl hl⟩,λ_=>rfl⟩
inductive Rdy (h:za):Nat->Prop
 |c (t:Nat) (k:zd):h.or[t]? =some k->QV k->Rdy h t
 |w (j:Nat) (w:zA):h.LE[j]? =some w->P8 h w->Rdy h (h.or.length+j)
 |o (i:Nat) (o:zc):h.Fn[i]? =some o->P9 h o->Rdy h (h.or.length+h.LE.length+i)
 |r:Nq h->Rdy h (h.or.length+h.LE.length+h.Fn.length)
theorem G3(s:aQ c g)(u:HI c g n h){t:Nat}(v:t<h.or.length+h.LE.length+h.Fn.length+1):∃b,qX h (t:Int)=some b/\(b=true↔Rdy h t):=by
 by_cases z:t<h.or.length
 ·have f:=zeg z;obtain ⟨b,m,d⟩:=Jh f;refine ⟨b,m,λe=>.c t _ f (d.1 e),λe=>d.2 ?_⟩;cases e with
  |c _ k l a=>rw [f] at l;cases l;exact a
  |w j w q a=>omega
  |o i o p a=>omega
  |r a=>omega
 by_cases A:t<h.or.length+h.LE.length
 ·obtain ⟨j,rfl⟩:∃j,t=h.or.length+j:=⟨t-h.or.length,by omega⟩
  have f:=zeg (show j<h.LE.length by omega);obtain ⟨b,m,d⟩:=Ji s u f;refine ⟨b,m,λe=>.w j _ f (d.1 e),λe=>d.2 ?_⟩;generalize v:h.or.length+j=t at e;cases e with
  |c _ k l a=>have:=(zes.1 l).1;omega
  |w x w q a=>
   grind
  |o i o p a=>omega
  |r a=>omega
 by_cases B:t<h.or.length+h.LE.length+h.Fn.length
 ·obtain ⟨i,rfl⟩:∃i,t=h.or.length+h.LE.length+i:=⟨t-(h.or.length+h.LE.length),by omega⟩
  have f:=zeg (show i<h.Fn.length by omega);obtain ⟨b,m,d⟩:=Jj s u f;refine ⟨b,m,λe=>.o i _ f (d.1 e),λe=>d.2 ?_⟩;generalize v:h.or.length+h.LE.length+i=t at e;cases e with
  |c _ k l a=>have:=(zes.1 l).1;omega
  |w x w q a=>have:=(zes.1 q).1;omega
  |o y o p a=>
   obtain rfl:i=y:=by omega
   rw [f] at p;cases p;exact a
  |r a=>omega
 ·obtain rfl:t=h.or.length+h.LE.length+h.Fn.length:=by omega
  obtain ⟨b,m,d⟩:=Jk s u;refine ⟨b,m,λe=>.r (d.1 e),λe=>d.2 ?_⟩;generalize v:h.or.length+h.LE.length+h.Fn.length=t at e;cases e with
  |c _ k l a=>have:=(zes.1 l).1;omega
  |w x w q a=>have:=(zes.1 q).1;omega
  |o y o p a=>have:=(zes.1 p).1;omega
  |r a=>exact a
def withK(h:za)(k:zn):za:={h with Um:=k}
theorem wW(l:aQ c g)(m:HI c g n h):∃k j,vo h=some (withK h k)/\j.length=h.Um.Ub.length/\(∀(t:Nat) b,j[t]? =some b->(b=true↔Rdy h t))/\Laid h.Um k j j.length:=by
 obtain ⟨x,y,A,B,C,D⟩:=m.sizes l;unfold vo;rw [rX rfl rfl rfl (by omega) (by omega) (by omega)];simp only [zbs]
 have r:mkLen (w64 (((h.or.length+h.LE.length+h.Fn.length:Nat):Int)+1)) 1=some h.Um.Ub.length:=by
  grind [qq,mkLen]
 rw [r];simp only [zbs];rw [xi (by omega)];simp only [zbs]
 obtain ⟨j,u,o,v⟩:OK (jN (dj h) (λ(a:(List Bool))=>a) h.Um.Ub.length 0 (List.replicate h.Um.Ub.length false)) (λj=>j.length=h.Um.Ub.length/\∀(t:Nat) b,j[t]? =some b->(b=true↔Rdy h t)):=by
  refine i5 (λi s=>s.length=h.Um.Ub.length/\∀(t:Nat) b,t<i->s[t]? =some b->(b=true↔Rdy h t)) ⟨by simp,λt b z=>by omega⟩ (λi s d E e F=> ?_) (λs p=>⟨p.1,λt b w=>p.2 t b (by grind) w⟩);obtain ⟨G,I⟩:=e;unfold dj;obtain ⟨b,f,q⟩:=G3 l m (t:=i) (by omega);rw [f];simp only [zbs]
  grind [zX,jW]
 rw [u];simp only [zbs];obtain ⟨k,f,q⟩:=Ed (k:=h.Um) o;rw [f];exact ⟨k,j,rfl,o,v,q⟩
theorem HI.withK(b:HI c g n h)(d:a.Ub.length=h.Um.Ub.length):HI c g n (withK h a):=
 {UZ:=b.UZ,Ur:=b.Ur,cl:=b.cl,cr:=b.cr,rg:=b.rg,UO:=b.UO,Vn:=b.Vn,Vq:=b.Vq,crew:=b.crew,own:=b.own,Wg:=b.Wg,Vv:=b.Vv,VF:=b.VF,call:=b.call,Uh:=b.Uh,VG:=d.trans b.VG,VB:=b.VB,VH:=b.VH,VI:=b.VI,Wd:=b.Wd,hel:=b.hel}
inductive Mv (h:za):Nat->za->Prop
 |back (t:Nat) (k:zd):h.or[t]? =some k->k.waits=true->k.Ul=0->Mv h t (Cf h t k [] h.rings h.UL)
 |ask (t:Nat) (k:zd) (cmd:zF) (h':za):h.or[t]? =some k->k.waits=false->k.Uw<k.Uf.length->k.Uf[k.Uw.toNat]? =some cmd->CMv h t k cmd h'->Mv h t h'
 |work (j:Nat) (w:zA) (h':za):h.LE[j]? =some w->P8 h w->WMv h j w (h.or.length+j) h'->Mv h (h.or.length+j) h'
 |serve (i:Nat) (o:zc) (h':za):h.Fn[i]? =some o->P9 h o->SMv 2199023255552 h i o h'->Mv h (h.or.length+h.LE.length+i) h'
 |rule (h':za):Nq h->RMv h (h.or.length+h.LE.length+h.Fn.length) h'->Mv h (h.or.length+h.LE.length+h.Fn.length) h'
theorem Nq.hyp(a:Nq h)(c:∀x∈h.held,¬ Fin h x)(b:h.TZ=[]):h.closed=true:=by
 rcases a.2 with z|⟨x,d,e⟩|z
 ·exact absurd b z
 ·grind
 ·exact z.1
theorem OO(e:aQ c g)(f:HI c g n h)(b:Rdy h H){x:qn}(p:h.Um.Ub[H]? =some x)(q:x.Ua≠2):OK (ak 2199023255552 h (H:Int) true) (λr=>r.1=(H:Int)/\r.2.1=true/\Mv h H r.2.2):=by
 obtain ⟨z,A,B,C,D,E⟩:=f.sizes e;unfold ak zZ qF;simp only [zbs];refine j7 rfl ?_;rw [qq (x:=(h.or.length:Int)+h.LE.length) (by omega) (by omega)];cases b with
 |c _ k l a=>
  have hl:=(zes.1 l).1;refine o9 (by simpa using hl) ?_;rcases a with ⟨d,s⟩|⟨d,m⟩
  ·rw [El e f l d];exact b9 ⟨rfl,rfl,.back H k l d s⟩
  ·obtain ⟨t,y,u⟩:=GZ e f l d m;exact d6 u λr b=>b9 ⟨rfl,rfl,.ask H k t _ l d m y b⟩
 |w j w d a=>
  have hl:=(zes.1 d).1;refine j7 (by simp;omega) ?_;refine o9 (by simp;omega) ?_;exact d6 (OH e f d rfl a.1 a.2 p q) λr b=>b9 ⟨rfl,rfl,.work j w _ d a b⟩
 |o i o v a=>
  have hl:=(zes.1 v).1;refine j7 (by simp;omega) ?_;refine j7 (by simp;omega) ?_;rw [rX rfl rfl rfl (by omega) (by omega) (by omega)];simp only [zbs];refine o9 (by simp;omega) ?_;exact d6 (LL (by decide) e f v rfl p q) λr b=>b9 ⟨rfl,rfl,.serve i o _ v a b⟩
 |r a=>
  refine j7 (by simp;omega) ?_;refine j7 (by simp;omega) ?_;rw [rX rfl rfl rfl (by omega) (by omega) (by omega)];simp only [zbs];refine j7 (by simp) ?_;exact d6 (OL e f rfl a.hyp p q) λr b=>b9 ⟨rfl,rfl,.rule _ a b⟩
theorem QX(d:aQ c g)(f:HI c g n h)(l:n+1<=100000000)(b:Mv h H h'):HI c g (n+1) h':=by
 cases b with
 |back H k p m r=>exact LJ d f l p m r
 |ask H k s h' p m q t b=>exact OC d f l p m q t b
 |work j w h' m a b=>exact OI d f l m rfl (λz=>(a.1 z).1) b
 |serve i o h' u a b=>
  refine OE d f l u (λz=> ?_) b;rcases a with e|e
  ·exact absurd z e
  grind
 |rule h' a b=>exact ON d f l a.1 a.hyp b
open Go.Sx
def wl(c:List zd):Nat:=(c.map (λk=>k.Ud.length)).sum
theorem AQ(h:f[n]? =some y)(i:zd):wl (f.set n i)+y.Ud.length=wl f+i.Ud.length:=by
 unfold wl;rw [yo];exact Ei (by grind) _
structure Eff (h:za) (t:Nat) (h':za):Prop where
 Un:∃es:List ze,h'.Un=h.Un++es/\∀e∈es,e.Wz=(t:Int)
 VG:∀(i:Nat)(x:qn),h.Um.Ub[i]? =some x->∃y,h'.Um.Ub[i]? =some y/\(x.Ua=2->y.Ua=2)
 WM:h'.Um.Ub.length=h.Um.Ub.length
 sum:wl h'.or=wl h.or\/wl h'.or=wl h.or+1
theorem xf(k:zn):∀(i:Nat)(x:qn),k.Ub[i]? =some x->∃y,k.Ub[i]? =some y/\(x.Ua=2->y.Ua=2):=λi x h=>⟨x,h,λe=>e⟩
theorem AR(k:zn)(t:Nat)(z:qn):∀(i:Nat)(x:qn),k.Ub[i]? =some x->∃y,(LK k t z).Ub[i]? =some y/\(x.Ua=2->y.Ua=2):=λi x h=>by
 by_cases e:i=t
 ·subst e;exact ⟨⟨2,z.Vo⟩,kb h,λ_=>rfl⟩
 ·exact ⟨x,ve h e,λz=>z⟩
theorem Et(b:h.or[n]? =some y)(d:i.Ud=y.Ud)(c:∀e∈es,e.Wz=(n:Int))(r:List zp)(g:zL):Eff h n (Cf h n i es r g):=by
 refine ⟨⟨es++[Nn n i],by grind [Cf],λe a=> ?_⟩,xf _,rfl,.inr ?_⟩
 ·rcases f8.1 a with a|a
  ·exact c e a
  ·rw [g8.1 a];rfl
 ·have f:wl (h.or.set n (DB i))+y.Ud.length=wl h.or+(DB i).Ud.length:=AQ b (DB i)
  have j:(DB i).Ud.length=y.Ud.length+1:=by
   show (i.Ud++[H6 i]).length=_
   grind
  show wl (h.or.set n (DB i))=_;omega
theorem Eu(a:h.or[n]? =some y)(b:i.Ud=y.Ud)(os:List zc)(l:List zx):Eff h n (Ja h n y i os l):=by
 refine ⟨⟨[iO n y],rfl,λe c=>by rw [g8.1 c];rfl⟩,xf _,rfl,.inl ?_⟩;have d:wl (h.or.set n i)+y.Ud.length=wl h.or+i.Ud.length:=AQ a i;show wl (h.or.set n i)=_;rw [b] at d;omega
theorem dM(a:h.or[n]? =some y)(b:i.Ud=y.Ud):wl (h.or.set n i)=wl h.or:=by
 grind [AQ]
theorem QY(y:Mv h n h'):Eff h n h':=by
 cases y with
 |back n k d C K=>exact Et d (by rfl) (λe c=>by cases c) _ _
 |ask n k cmd h' d C hat D y=>
  cases y with
  |told E hE=>exact Et d (by rfl) (λe c=>by rw [g8.1 c];rfl) _ _
  |fire i r s n2 E g L M O Y h5=>
   refine Et d (by rfl) (λe c=> ?_) _ _;rcases f8.1 c with c|c
   ·rw [g8.1 c];rfl
   ·split at c
    ·rw [g8.1 c];rfl
    ·cases c
  |items L M O Y h5=>exact Eu d (by rfl) _ _
  |walk L M O Y=>exact Eu d (by rfl) _ _
  |call L M O=>exact Eu d (by rfl) _ _
 |work j w h' C F y=>
  cases y with
  |ends x m0 P f K=>exact ⟨⟨_,rfl,λe c=>by rw [g8.1 c];rfl⟩,AR _ _ _,by show (h.Um.Ub.set _ _).length=_;rw [j8],.inl rfl⟩
  |take i r s q qs cur m0 P Q hwt htk c0 c1=>exact ⟨⟨_,rfl,λe c=>by rw [g8.1 c];rfl⟩,xf _,rfl,.inl rfl⟩
  |skip st v p m1 R hsk=>exact ⟨⟨_,rfl,λe c=>by rw [g8.1 c];rfl⟩,xf _,rfl,.inl rfl⟩
  |enter v p m b e1 G ck e W m1 R hmo c hE=>exact ⟨⟨_,rfl,λe c=>by rw [g8.1 c];rfl⟩,xf _,rfl,.inl rfl⟩
  |note a W S A k3=>exact ⟨⟨_,rfl,λe c=>by rw [g8.1 c];rfl⟩,xf _,rfl,.inl rfl⟩
  |ask a W S A k2=>exact ⟨⟨_,rfl,λe c=>by rw [g8.1 c];rfl⟩,xf _,rfl,.inl rfl⟩
  |done a W e1 ck S A k4 hlv=>exact ⟨⟨_,rfl,λe c=>by rw [g8.1 c];rfl⟩,xf _,rfl,.inl rfl⟩
  |ran a W S A k1=>exact ⟨⟨_,rfl,λe c=>by rw [g8.1 c];rfl⟩,xf _,rfl,.inl rfl⟩
  |back r W m3 hr hA=>exact ⟨⟨_,rfl,λe c=>by rw [g8.1 c];rfl⟩,xf _,rfl,.inl rfl⟩
 |serve i o h' ho F y=>
  cases y with
  |ends n x d hl f K=>subst d;exact ⟨⟨_,rfl,λe c=>by rw [g8.1 c];rfl⟩,AR _ _ _,by show (h.Um.Ub.set _ _).length=_;rw [j8],.inl rfl⟩
  |crew n q Z x B j w d T I C=>subst d;exact ⟨⟨_,rfl,λe c=>by rw [g8.1 c];rfl⟩,xf _,rfl,.inl rfl⟩
  |walk q Z x B u k T I z C g0 g1=>exact ⟨⟨[],rfl,λe c=>by cases c⟩,xf _,rfl,.inl (dM z rfl)⟩
  |item n q Z x B u k d T I z C g0 g1=>subst d;exact ⟨⟨_,rfl,λe c=>by rw [g8.1 c];rfl⟩,xf _,rfl,.inl (dM z rfl)⟩
 |rule h' F y=>
  generalize h.or.length+h.LE.length+h.Fn.length=n at y;cases y with
  |fin a x u k hx I z f h8=>exact ⟨⟨[],rfl,λe c=>by cases c⟩,xf _,rfl,.inl (dM f rfl)⟩
  |retired a x u k hx I z f h8=>exact ⟨⟨_,rfl,λe c=>by rw [g8.1 c];rfl⟩,xf _,rfl,.inl (dM f rfl)⟩
  |over u k x t hl z f hkt K=>exact ⟨⟨_,rfl,λe c=>by rw [g8.1 c];rfl⟩,AR _ _ _,by show (h.Um.Ub.set _ _).length=_;rw [j8],.inl (dM f rfl)⟩
  |refuse x B u k t hl D z f=>exact ⟨⟨[],rfl,λe c=>by cases c⟩,xf _,rfl,.inl (dM f rfl)⟩
  |cmd x B u k s N E es t hl D z f U=>
   refine ⟨⟨es,rfl,λe c=> ?_⟩,xf _,rfl,.inl (dM f rfl)⟩;cases U with
   |load n2 G s hk4 hld=>
    split at c
    ·rw [g8.1 c];rfl
    ·cases c
   |attach v G s hk5 J=>
    split at c
    ·rw [g8.1 c];rfl
    ·cases c
   |swap v G s hk6 J=>
    split at c
    ·rw [g8.1 c];rfl
    ·cases c
   |detach G tb hk7 J=>
    split at c
    ·rw [g8.1 c];rfl
    ·cases c
   |retire v G s hk8 J he2=>cases c
  |hold x B v s t hl D h8 J=>exact ⟨⟨[],rfl,λe c=>by cases c⟩,xf _,rfl,.inl rfl⟩
  |drain x B t hl D h9=>exact ⟨⟨[],rfl,λe c=>by cases c⟩,xf _,rfl,.inl rfl⟩
  |close x B t hl D h10=>
   refine ⟨⟨pT n h.rings++[oW 14 n 0 0 0],u6 _ _ _,λe c=> ?_⟩,xf _,rfl,.inl rfl⟩;rcases f8.1 c with c|c
   ·unfold pT at c;obtain ⟨l,V,X⟩:=j9.1 c;obtain ⟨i,Q⟩:=q8 V;rw [List.getElem?_mapIdx] at Q;obtain ⟨r,hr,rfl⟩:=yp.1 Q;obtain ⟨q,T,rfl⟩:=x2.1 X;rfl
   ·rw [g8.1 c];rfl
def H7(a b:zn):Prop:=b.Ub.length=a.Ub.length/\∀(i:Nat)(x:qn),a.Ub[i]? =some x->∃y,b.Ub[i]? =some y/\(x.Ua=2↔y.Ua=2)
theorem Laid.stay(h:Laid a z j j.length)(hl:j.length=a.Ub.length):H7 a z:=by
 refine ⟨h.2.1,λi x b=> ?_⟩;obtain ⟨u,c,_,d⟩:=h.2.2 i x b
 grind
theorem LN.stay(h:LN a z):H7 a z:=by
 refine ⟨h.1,λi x b=> ?_⟩;have c:=h.2 i
 grind
theorem H7.trans(h:H7 a A)(b:H7 A d):H7 a d:=by
 refine ⟨b.1.trans h.1,λi x c=> ?_⟩;obtain ⟨y,e,f⟩:=h.2 i x c;obtain ⟨z,g,j⟩:=b.2 i y e
 grind
inductive Stp (h:za) (r:Int×Bool×za):Prop
 |none (k:zn):(∀t,t<h.Um.Ub.length->(∀x,h.Um.Ub[t]? =some x->x.Ua≠2)->¬ Rdy h t)->H7 h.Um k->k.LT=h.Um.LT->r=(0,false,withK h k)->Stp h r
 |one (k:zn) (t:Nat) (x:qn) (h':za):Rdy h t->H7 h.Um k->k.LT=w64 (h.Um.LT+1)->h.Um.Ub[t]? =some x->x.Ua≠2->Mv (withK h k) t h'->r=((t:Int),true,h')->Stp h r
theorem Rdy.withK(b:Rdy h n)(k:zn):Rdy (withK h k) n:=by
 cases b with
 |c _ q d a=>exact .c n q d a
 |w j w e a=>exact .w (h:=KH.withK h k) j w e a
 |o i o f a=>exact .o (h:=KH.withK h k) i o f a
 |r a=>exact .r (h:=KH.withK h k) a
theorem Jl(N:aQ c g)(O:HI c g n h)(hl:j.length=h.Um.Ub.length)(A:∀(t:Nat) b,j[t]? =some b->(b=true↔Rdy h t))(f:Laid h.Um a j j.length)(P:LO a B):
  OK (B.bind λm=>(ak 2199023255552 (withK h m.2.2) m.1 m.2.1).bind λo=>some (o.1,o.2.1,o.2.2)) (λr=>Stp h r/\if r.2.1 then r.1∈kin a 1 a.Ub.length else kin a 1 a.Ub.length=[]):=by
 have p:=f.stay hl;have J:=p.1;rcases P with ⟨K,rfl⟩|⟨x,i,L,rfl,E,F⟩
 ·refine b9 ⟨.none a (λt M G q=> ?_) p f.1 rfl,K⟩;have v:=zeg M;have k:=zeg (show t<j.length by omega);obtain ⟨u,D,_,d⟩:=f.2.2 t _ v;rw [d7 (by omega),d8 (G _ v),k,(A t _ k).2 q,d7 rfl] at d
  have:(t:Int)∈kin a 1 a.Ub.length:=by
   unfold kin;refine x2.2 ⟨t,List.mem_filter.2 ⟨by simp;omega,?_⟩,rfl⟩;rw [D];simp [d]
  rw [K] at this;cases this
 ·obtain ⟨t,y,rfl,M,Q,G⟩:=I6 L;have I:t<h.Um.Ub.length:=by omega
  have v:=zeg I;have k:=zeg (show t<j.length by omega);obtain ⟨u,D,_,d⟩:=f.2.2 t _ v;rw [Q] at D;obtain rfl:=i8 D;rw [d7 (by omega),G] at d;have s:h.Um.Ub[t].Ua≠2:=λe=>by rw [d7 e] at d;omega
  rw [d8 s,k] at d
  have C:Rdy h t:=(A t _ k).1 (by
   cases R:j[t] with
   |true=>rfl
   |false=>rw [R,d8 (by simp)] at d;omega)
  have l:=p.trans E.stay;obtain ⟨z,S,e⟩:=l.2 t _ v;simp only [zbs];refine d6 (OO N (O.withK l.1) (C.withK i) (x:=z) S (λw=>s (e.2 w))) (λr q=>b9 ⟨.one i t _ r.2.2 C l (by rw [F,f.1]) v s q.2.2 ?_,?_⟩)
  ·rw [q.1,q.2.1]
  ·rw [q.2.1,q.1];exact L
theorem Ev(a:aQ c g)(b:HI c g n h)(d:Int):OK (dG 2199023255552 h d) (Stp h):=by
 obtain ⟨k,j,f,i,l,e⟩:=wW a b;obtain ⟨s,o,p,q,t,u⟩:=b.sizes a;unfold dG;rw [f];simp only [zbs];have:=e.2.1;exact (Jl a b i l e (Ck (k:=k) (by omega) d)).mono λr m=>m.1
theorem OP(a:aQ c g)(b:HI c g n h):OK (dI 2199023255552 h) (Stp h):=by
 obtain ⟨k,j,d,f,i,e⟩:=wW a b;obtain ⟨s,m,o,p,q,t⟩:=b.sizes a;unfold dI;rw [d];simp only [zbs];have:=e.2.1;exact (Jl a b f i e (Cl (k:=k) (by omega))).mono λr l=>l.1
open Go.Sx
theorem KG.shape(a:KG c g h)(b:∀s∈g,∀c∈s,Fit c):aQ c g:=⟨a.hk,a.wk,a.sh,a.mp,a.cl,a.sl,b⟩
theorem FZ(b:KG c g h):HI c g 0 h/\h.Un=[]/\wl h.or=0:=by
 obtain ⟨r,os,N,O,j,y,P,Q,R,S,T,⟨l,D⟩,⟨m,n⟩,rfl⟩:=b.is;have U:=b.hk;have V:=b.wk;have W:=b.sh;obtain ⟨X,A,E,Y,Z⟩:=WJ.new (H:=c.Up.toNat) (K:=c.Maps.length) (by omega);rw [j] at A;obtain rfl:=i8 A
 have B:∀f:Int,bS os f=0:=λf=>by
  unfold bS
  have:os.map (λo=>th o.TZ f)=List.replicate os.length 0:=by
   refine o4 λi=> ?_
   grind [th]
  rw [this];simp
 refine ⟨?_,rfl,?_⟩
 ·exact
  {UZ:=by omega
   Ur:=rfl
   cl:=m6 _
   cr:=by grind
   rg:=m
   UO:=y
   Vn:=λq F=>⟨(n q F).1,λx C=>by grind⟩
   Vq:=λt k s u G=>by
    rw [o8,G] at u;obtain rfl:=i8 u;exact ⟨rfl,x4 0,Int.natCast_nonneg _,(λe=>by cases e),rfl,(λa I=>by cases I),by simp [tg,RN],rfl,by simp [tg],(λp J=>by cases J),λ_=>rfl⟩
   crew:=λw v=>by
    rw [TB (show w∈List.replicate _ _ from v)];exact ⟨E,⟨x4 0,by show (0:Int)<_;omega⟩,(λr e=>by cases e),λe=>by cases e⟩
   own:=⟨l,λi o d=>by
    grind⟩
   Wg:=λo d r y=>by
    obtain ⟨i,L⟩:=q8 (show o∈os from d)
    grind
   Vv:=λt k u=>by
    show k.Ul=((bS os t+(0+0+(if false=true/\false=false/\(0:Int)=t then 1 else 0)):Nat):Int)
    grind [tg]
   VF:=λt=>.inl (by
    show 0+0+(if false=true/\false=false/\(0:Int)=t then 1 else 0)=0
    grind)
   call:=λx C=>by cases C
   Uh:=⟨0,rfl,b.cl.1⟩
   VG:=TU
   VB:=λo d e=>by
    obtain ⟨i,L⟩:=q8 (show o∈os from d)
    grind
   VH:=λw v e=>by
    rw [TB (show w∈List.replicate _ _ from v)] at e;cases e
   VI:=Nat.zero_le _
   Wd:=Nat.zero_le _
   hel:=Nat.zero_le _}
 ·show wl (g.map tg)=0;unfold wl;rw [List.map_map]
  have:g.map ((λk:zd=>k.Ud.length)∘tg)=List.replicate g.length 0:=by
   refine o4 λi=> ?_
   rw [o8,List.getElem?_replicate];cases M:g[i]? with
   |none=>rw [d8 (λz=>by grind)];rfl
   |some s=>rw [d7 (zes.1 M).1];rfl
  rw [this];simp
theorem QZ(a:HI c g n h):eM h=some h.Un:=by
 have:=a.logb
 grind [eM,qy,xi]
theorem Co(l:List zy)(h:∀a∈l,a.UJ.length<=16/\a.Pairs.length<=64):(l.foldlM (λ(_:Unit)a=>(zM a.UJ).bind λ_=>(zB a.Pairs).bind λ_=>some ()) ())=some ():=by
 induction l with
 |nil=>rfl
 |cons a l i=>
  have c:=h a zcs;rw [List.foldlM_cons];unfold zM zB;rw [xi (m:=([]:List zk).length+a.UJ.length) (by simp;omega),xi (m:=([]:List zr).length+a.Pairs.length) (by simp;omega)];exact i λx b=>h x (zcm _ b)
theorem G4(e:aQ c g)(f:HI c g n h)(b:h.or[H]? =some i):xe h (H:Int)=some i.Ud:=by
 have hl:=(zes.1 b).1;obtain ⟨s,j,d⟩:=f.at b;have k:=d.ans;have l:=d.Wr;have m:=e.sl s (zmg j);unfold xe;rw [d8 (by simp;omega),zX b];simp only [zbs];rw [xi (by omega)];simp only [zbs];show ((i.Ud.foldlM (λ(_:Unit)a=>(zM a.UJ).bind λ_=>(zB a.Pairs).bind λ_=>some ()) ()).bind λ_=>some i.Ud)=_;rw [Co _ d.done];rfl
structure S7 (h:za) (r:Int×Bool×za):Prop where
 Un:∃es:List ze,r.2.2.Un=h.Un++es/\(∀e∈es,e.Wz=r.1)/\(r.2.1=false->es=[])
 WM:r.2.2.Um.Ub.length=h.Um.Ub.length
 Ue:∀(i:Nat)(x:qn),h.Um.Ub[i]? =some x->x.Ua=2->∃y,r.2.2.Um.Ub[i]? =some y/\y.Ua=2
 over:r.2.1=true->∃(t:Nat)(x:qn),r.1=t/\h.Um.Ub[t]? =some x/\x.Ua≠2
 sum:wl r.2.2.or=wl h.or\/wl r.2.2.or=wl h.or+1
theorem fh(j:Stp h C):S7 h C:=by
 cases j with
 |none k l a b e=>
  subst e;refine ⟨⟨[],by show h.Un=_;rw [i4],(λe m=>by cases m),λ_=>rfl⟩,a.1,λi x c d=> ?_,(λe=>by cases e),.inl rfl⟩;obtain ⟨y,f,e⟩:=a.2 i x c;exact ⟨y,f,e.1 d⟩
 |one k t x h' n a b c d o e=>
  subst e;obtain ⟨⟨es,p,q⟩,r,s,u⟩:=QY o;refine ⟨⟨es,p,q,λz=>by cases z⟩,s.trans a.1,λi y f v=> ?_,λ_=>⟨t,x,rfl,c,d⟩,u⟩;obtain ⟨w,g,B⟩:=a.2 i y f;obtain ⟨D,A,E⟩:=r i w g
  grind
open Go.Sx
open Go.Sx
def Jd(m:zE):Prop:=∃o,xb 2199023255552 m=some (o,0,0)
structure RJ (r:zb):Prop where
 VA:∀p x,ja r.Uj p=some x->Jd x.module
 hook:∀(i:Nat) u,r.Us.Uk[i]? =some u->0<u.Ux->∃x,ja r.Uj u.prog=some x/\x.UD=0
theorem Jd.of(h:vA 2199023255552 m=some (v,0)):Jd m:=by
 obtain ⟨o,q,e,a,b⟩:=ng m
 grind [AA,Jd]
theorem Hs(h:mg clo D=some G)(c:G.2=0):Jd G.1:=by
 unfold mg at h;obtain ⟨d,_,h⟩:=z7.1 h;split at h
 ·grind
 ·obtain ⟨j,a,h⟩:=z7.1 h;split at h
  ·grind
  ·rename_i b
   obtain ⟨p,e⟩:=j;have:e=0:=by simpa using b
   subst this;cases h;exact .of a
theorem RJ.added(b:fK H M W n r)(a:RJ r)(c:Jd m):RJ (added r m):=by
 have g:=rl b;have d:∀p,ja (Go.Proofs.YtplmgfkghomelaaGreatDoor.added r m).Uj p=if r.given+1=p then some ⟨m,0⟩ else ja r.Uj p:=λp=>rk ..
 refine ⟨λp x h=> ?_,λi u e f=> ?_⟩
 ·rw [d] at h;split at h
  ·cases h;exact c
  ·exact a.VA p x h
 ·obtain ⟨x,j,k⟩:=a.hook i u e f
  grind
theorem RJ.placed(h:RJ r)(b:CN r v clo q):RJ q.2.2/\q.2.2.Uo=r.Uo:=by
 by_cases e:q.2.1=0
 ·obtain ⟨_,c,l,hl,d⟩:=b.yes e;rw [d,hl];refine ⟨⟨h.VA,λi u a f=> ?_⟩,rfl⟩;rcases jW (show (r.Us.Uk.set _ _)[i]? =some u from a) with ⟨_,rfl,_⟩|⟨_,a⟩
  ·exact c
  ·exact h.hook i u a f
 ·rw [(b.no e).2];exact ⟨h,rfl⟩
theorem RJ.retired(l:fK H M W n r)(a:RJ r)(f:ja r.Uj v=some I)(g:∀(i:Nat) u,r.Us.Uk[i]? =some u->0<u.Ux->u.prog≠v):RJ (retired r v I):=by
 have b:∀q,ja (Go.Proofs.YtplmgfkghomelaaGreatDoor.retired r v I).Uj q=if v=q then some ⟨I.module,r.Uo.Vs+1⟩ else ja r.Uj q:=by
  grind [Go.Proofs.YtplmgfkghomelaaGreatDoor.retired,uJ]
 refine ⟨λq y h=> ?_,λi u c d=> ?_⟩
 ·rw [b] at h;split at h
  ·cases h;exact a.VA v I f
  ·exact a.VA q y h
 ·obtain ⟨y,j,k⟩:=a.hook i u c d;exact ⟨y,by rw [b,d8 (λe=>g i u c d e.symm)];exact j,k⟩
theorem RJ.settled(h:fK H M W n r)(a:RJ r)(m:Int):RJ (settled r (gn r m)):=by
 have d:=mi h (gn r m);refine ⟨λq y e=> ?_,λi u b c=> ?_⟩
 ·grind [RJ]
 ·obtain ⟨y,f,g⟩:=a.hook i u b c
  grind [Pj]
theorem Pv(d:HI c g n h)(f:RJ h.Fd)(m:x.cmd.Uq.length<=140737488355328)(o:LM clo h.Fd x s N E es):RJ s/\s.Uo.in_=h.Fd.Uo.in_:=by
 cases o with
 |load n e s _ hl=>
  obtain ⟨v,p,r,w⟩:=nV d m;rw [p] at hl;split at hl
  ·grind
  ·split at hl
   ·grind
   ·cases hl;exact ⟨f.added d.UO (Hs r (by omega)),rfl⟩
 |attach v e s _ j=>
  obtain ⟨q,b,a⟩:=rm d.UO x.cmd.UF x.cmd.UA;rw [j] at b;cases b;have:=f.placed a
  grind
 |swap v e s _ j=>
  obtain ⟨q,b,a⟩:=A8 d.UO x.cmd.UF x.cmd.UA;rw [j] at b;cases b;have:=f.placed a
  grind
 |detach e y _ hd=>
  obtain ⟨q,b,a⟩:=uK d.UO x.cmd.UF;rw [hd] at b;cases b;rcases a with ⟨_,a⟩|⟨_,l,⟨_,hl⟩,a⟩
  ·simp only at a;subst a;exact ⟨f,rfl⟩
  ·simp only at a;subst a;refine ⟨⟨f.VA,λi u k t=> ?_⟩,rfl⟩;rcases hl i u k with e|k
   ·omega
   ·exact f.hook i u k t
 |retire v e s _ z A=>
  obtain ⟨q,b,a⟩:=iF d.UO x.cmd.UA
  grind
theorem Pw(b:HI c g n h)(e:RJ h.Fd)(f:qS h.Fd clo=some (v,0,s)):RJ s/\s.Uo.in_=h.Fd.Uo.in_:=by
 obtain ⟨q,d,a⟩:=iF b.UO clo;rw [f] at d;cases d;rcases a with ⟨a,_⟩|⟨_,_,x,i,_,j,a⟩
 ·exact absurd rfl a
 ·simp only at a;subst a;exact ⟨e.retired b.UO i j,rfl⟩
theorem RJ.cur(d:fK H M W n r)(b:RJ r)(h:jn r.Us clo=some (v,N,true)):∃m,qR r N=some (m,true)/\Jd m:=by
 unfold jn jg jh at h;simp only [zbs] at h;obtain ⟨o,e,h⟩:=z7.1 h;split at h
 ·cases h
 ·rename_i f
  obtain ⟨u,g,h⟩:=z7.1 h;cases h;have a:r.Us.Uk[clo.toNat]? =some u:=by grind [idx]
  have:0<u.Ux:=by grind
  obtain ⟨x,c,i⟩:=b.hook _ u a this;exact ⟨x.module,by rw [CP d,c],b.VA _ x c⟩
end Go.Proofs.YtplmgfkghomelaaGreatDoor.KH
