/- Lemmas. -/
import Derived.Test.YtplmgfkghomelaaGreatDoorKH17
set_option linter.all false
namespace Go.Proofs.YtplmgfkghomelaaGreatDoor.KH
open Go.Sx
variable {c:zH}{h h':za}{n H M W:Nat}{g:List (List zO)}{r s rg:zb}{es:List zd}{i y:ze}{a z A d:zo}{l hd:List zB}{x:zB}{j:List Bool}{m:zD}{v clo N E:Int}{cld ov:Bool}{e:zz}{o:zc}{f:List ze}{B:Option (Int×Bool×zo)}{C:Int×Bool×za}{D:List Int}{G:zD×Int}{q:Int×Int×zb}{I:zU}
def NN(h:za)(rg:zb)(k:zo)(c:List ze)(r:List zr)(l hd:List zB)(clo:Int)(cld ov:Bool)(es:List zd):za:=
 ⟨rg,k,h.SI,c,h.LE,h.Fd,r,l,hd,clo,cld,ov,h.SH++es,h.Ti⟩
theorem mD(b:HI c g n h)(M:n+1<=100000000){k:zo}{cs:List ze}{rs:List zr}
  (G:fF c.SA.toNat c.Maps.length c.Sl.toNat (n+1) rg) (O:k.Sn.length=h.SD.Sn.length)
  (d:(cs=h.or/\∀t:Nat,lC (NN h rg k cs rs l hd clo cld ov es) t=lC h t)\/∃(u:Nat)(p:ze)(N E:Int),h.or[u]? =some p/\cs=h.or.set u (C2 p N E)/\∀t:Nat,lC (NN h rg k cs rs l hd clo cld ov es) t+(if t=u then 1 else 0)=lC h t)
  (z:Ap c rs) (q:∀x∈l++hd,(∃t:Nat,x.SR=t/\t<g.length)/\x.cmd.SM.length<=140737488355328/\4<=x.cmd.Sm/\x.cmd.Sm<=10) (A:∃t:Nat,clo=t/\t<g.length) (j:h.Sk=true->cld=true) (P:es.length<=100) (hl:l.length<=n+1) (I:hd.length<=n+1):
  HI c g (n+1) (NN h rg k cs rs l hd clo cld ov es):=by
 have m:cs.length=h.or.length:=by
  rcases d with ⟨e,_⟩|⟨u,p,N,E,_,e,_⟩
  ·rw [e]
  ·rw [e,j8]
 have B:∀(t:Nat) i,cs[t]? =some i->i.SB=((eY h.Fd t+lC (NN h rg k cs rs l hd clo cld ov es) t:Nat):Int)/\∀s,g[t]? =some s->pX s i:=λt i a=>by
  rcases d with ⟨rfl,e⟩|⟨u,p,N,E,D,rfl,e⟩
  ·exact ⟨by rw [e t];exact b.TV t i a,λs v=>b.Uu t i s a v⟩
  ·have C:=e t;rcases vC a with ⟨rfl,rfl,_⟩|⟨J,a⟩
   ·rw [d8 rfl] at C;have K:=b.Ub t;refine ⟨?_,λs v=> ?_⟩
    ·show (0:Int)=_;omega
    ·have Q:=b.Uu t p s D v;exact {Q with Uv:=λ_=>rfl}
   ·rw [d7 J] at C;exact ⟨by rw [b.TV t i a];rw [<- C];rfl,λs v=>b.Uu t i s a v⟩
 have y:∀(t:Nat) k,h.or[t]? =some k->∃i,cs[t]? =some i/\i.parts.length=k.parts.length/\i.Id.Tj.length=k.Id.Tj.length:=λt L f=>by
  rcases d with ⟨rfl,e⟩|⟨u,p,N,E,D,rfl,e⟩
  ·exact ⟨L,f,rfl,rfl⟩
  ·by_cases e:t=u
   ·subst e;rw [D] at f;obtain rfl:=j4 f;exact ⟨_,pe D,rfl,rfl⟩
   ·exact ⟨L,vD f e,rfl,rfl⟩
 exact
 {Tv:=M
  SI:=b.SI
  cl:=m.trans b.cl
  cr:=b.cr
  rg:=z.1
  Ty:=G
  ring:=z.2
  Uu:=λt i s a v=>(B t i a).2 s v
  crew:=b.crew
  own:=b.own.mono (by omega)
  UA:=λo F r R=>(b.UA o F r R).same m y
  TV:=λt i a=>(B t i a).1
  Ub:=λt=>by
   have C:=b.Ub t;show lC (NN h rg k cs rs l hd clo cld ov es) t=0\/lC (NN h rg k cs rs l hd clo cld ov es) t=1/\eY h.Fd t=0;rcases d with ⟨_,e⟩|⟨u,p,N,E,_,_,e⟩
   ·rw [e t];exact C
   ·have K:=e t;split at K<;>omega
  call:=q
  Sy:=A
  Uc:=by show k.Sn.length=_;rw [O];exact b.Uc
  TW:=λo F e=>⟨j (b.TW o F e).1,(b.TW o F e).2⟩
  Ud:=λw S e=>j (b.Ud w S e)
  Ua:=by
   show (h.SH++es).length<=_;have:=b.Ua;rw [p6];omega
  Ux:=hl
  hel:=I}
theorem wA(h:l[n]? =some x)(f:Int):gy (l.eraseIdx n) f+(if x.SR=f then 1 else 0)=gy l f:=by
 have a:=(zes.1 h).1
 have c:l=l.take n++x::l.drop (n+1):=by
  have b:=yg n l;rw [Sd a] at b;have d:l[n]=x:=(zes.1 h).2;rw [d] at b;exact b.symm
 rw [List.eraseIdx_eq_take_drop_succ]
 conv=>rhs;rw [c]
 rw [ni,ni,tB];omega
theorem NO(hS:aR c g)(i:HI c g n h)(O:n+1<=100000000)(Z:h.over=false)(Q:(∀x∈h.held,¬ Fin h x)->h.Sr=[]->h.Sk=true)(hv:RMv h H h'):HI c g (n+1) h':=by
 have m:=i.Ty.mono (show n<=n+1 by omega) (by omega);have S:=i.Ux;have hhl:=i.hel;have D:Ap c h.rings:=⟨i.rg,i.ring⟩
 have C:∀{x o},h.Sr=x::o->∀f:Int,gy o f+(if x.SR=f then 1 else 0)=gy h.Sr f:=λe f=>by rw [e,tB]
 have p:∀{x o},h.Sr=x::o->∀y∈o++h.held,(∃H:Nat,y.SR=H/\H<g.length)/\y.cmd.SM.length<=140737488355328/\4<=y.cmd.Sm/\y.cmd.Sm<=10:=λe y j=>i.call y (by
  rcases g8.1 j with j|j
  ·exact zal _ (by rw [e];exact zcm _ j)
  ·exact zar _ j)
 have B:∀{x o},h.Sr=x::o->(∃H:Nat,x.SR=H/\H<g.length)/\x.cmd.SM.length<=140737488355328/\4<=x.cmd.Sm/\x.cmd.Sm<=10:=λe=>i.call _ (zal _ (by rw [e];exact zcs))
 have lens:∀{x o},h.Sr=x::o->o.length<=n+1:=λe=>by rw [e,u7] at S;omega
 cases hv with
 |fin a x u k T hf I J h8=>
  refine mD i O (rg:=h.Fn) (k:=h.SD) (cs:=h.or.set u (C2 k 0 0)) (rs:=h.rings) (l:=h.Sr) (hd:=h.held.eraseIdx a) (clo:=h.Sy) (cld:=h.Sk) (ov:=h.over) (es:=[]) m rfl (.inr ⟨u,k,0,0,J,rfl,λv=> ?_⟩) D (λy j=>i.call y ?_) i.Sy (λe=>e) (by simp) (by omega) (q8 (List.length_eraseIdx_le _ _) (by omega))
  ·have A:=wA T (v:Int);unfold lC;show gy h.Sr v+gy (h.held.eraseIdx a) v+_+_=_;rw [I] at A;by_cases e:v=u
   ·subst e;rw [d8 rfl] at A |-;show _+(if h.Sk=true/\h.over=false/\h.Sy=(v:Int) then 1 else 0)+1=_;omega
   ·rw [d7 (by omega)] at A;rw [d7 e];show _+(if h.Sk=true/\h.over=false/\h.Sy=(v:Int) then 1 else 0)+0=_;omega
  ·rcases g8.1 j with j|j
   ·exact zal _ j
   ·exact zar _ (List.mem_of_mem_eraseIdx j)
 |retired a x u k T hf I J h8=>
  refine mD i O (rg:=settled h.Fn (iJ h.Fn 1)) (k:=h.SD) (cs:=h.or.set u (C2 k 0 0)) (rs:=h.rings) (l:=h.Sr) (hd:=h.held.eraseIdx a) (clo:=h.Sy) (cld:=h.Sk) (ov:=h.over) (es:=[tM 13 H 0 x.cmd.Tu 0]) (Ee i.Ty (by omega) 1) rfl (.inr ⟨u,k,0,0,J,rfl,λv=> ?_⟩) D (λy j=>i.call y ?_) i.Sy (λe=>e) (by simp) (by omega) (q8 (List.length_eraseIdx_le _ _) (by omega))
  ·have A:=wA T (v:Int);unfold lC;show gy h.Sr v+gy (h.held.eraseIdx a) v+_+_=_;rw [I] at A;by_cases e:v=u
   ·subst e;rw [d8 rfl] at A |-;show _+(if h.Sk=true/\h.over=false/\h.Sy=(v:Int) then 1 else 0)+1=_;omega
   ·rw [d7 (by omega)] at A;rw [d7 e];show _+(if h.Sk=true/\h.over=false/\h.Sy=(v:Int) then 1 else 0)+0=_;omega
  ·rcases g8.1 j with j|j
   ·exact zal _ j
   ·exact zar _ (List.mem_of_mem_eraseIdx j)
 |over u k x G hl I J hkt hm=>
  have P:=Q G hl;refine mD i O (rg:=h.Fn) (k:=NF h.SD H x) (cs:=h.or.set u (C2 k 0 0)) (rs:=h.rings) (l:=h.Sr) (hd:=h.held) (clo:=h.Sy) (cld:=h.Sk) (ov:=true) (es:=[Hk H]) m (by show (h.SD.Sn.set H _).length=_;rw [j8]) (.inr ⟨u,k,0,0,J,rfl,λv=> ?_⟩) D i.call i.Sy (λe=>e) (by simp) (by omega) (by omega);unfold lC;show gy h.Sr v+gy h.held v+(if h.Sk=true/\true=false/\h.Sy=(v:Int) then 1 else 0)+_=_;rw [d7 (λz=>by cases z.2.1),P,Z,I];by_cases e:v=u
  ·subst e;rw [d8 rfl,d8 ⟨rfl,rfl,rfl⟩]
  ·rw [d7 e,d7 (λz=>e (by have:=z.2.2;omega))]
 |refuse x o u k G hl P I J=>
  refine mD i O (rg:=h.Fn) (k:=h.SD) (cs:=h.or.set u (C2 k 0 43)) (rs:=h.rings) (l:=o) (hd:=h.held) (clo:=h.Sy) (cld:=h.Sk) (ov:=h.over) (es:=[]) m rfl (.inr ⟨u,k,0,43,J,rfl,λv=> ?_⟩) D (p hl) i.Sy (λe=>e) (by simp) (lens hl) (by omega);have A:=C hl (v:Int);rw [I] at A;unfold lC;show gy o v+gy h.held v+(if h.Sk=true/\h.over=false/\h.Sy=(v:Int) then 1 else 0)+_=_;by_cases e:v=u
  ·subst e;rw [d8 rfl] at A |-;omega
  ·rw [d7 (by omega)] at A;rw [d7 e];omega
 |cmd x o u k s N E es G hl P I J U=>
  have K:fF c.SA.toNat c.Maps.length c.Sl.toNat (n+1) s/\es.length<=1:=by
   cases U with
   |load n2 e s hk4 V=>
    refine ⟨?_,by split<;>simp⟩;obtain ⟨v,v1,v2,v3⟩:=pZ i (B hl).2.1;rw [V] at v1;have v1:=j4 v1;split at v1
    ·cases v1;exact m
    ·rename_i h0
     split at v1
     ·cases v1;exact m
     ·rename_i W
      cases v1
      have X:=v3 (Classical.not_not.1 h0);exact IZ i.Ty (by omega) W ⟨X.1,by rw [<- i.Ty.maps];exact X.2.1,X.2.2⟩
   |attach v e s hk5 L=>
    refine ⟨?_,by split<;>simp⟩;obtain ⟨q,F,M⟩:=uc i.Ty x.cmd.SS x.cmd.Tu;rw [L] at F;cases F;exact M.inv i.Ty (by omega)
   |swap v e s hk6 L=>
    refine ⟨?_,by split<;>simp⟩;obtain ⟨q,F,M⟩:=Eb i.Ty x.cmd.SS x.cmd.Tu;rw [L] at F;cases F;exact M.inv i.Ty (by omega)
   |detach e tb hk7 L=>
    refine ⟨?_,by split<;>simp⟩;obtain ⟨q,F,M⟩:=ud i.Ty x.cmd.SS;rw [L] at F;cases F;exact Gx i.Ty (by omega) M
   |retire v e s hk8 L he=>
    refine ⟨?_,by simp⟩;obtain ⟨q,F,M⟩:=mJ i.Ty x.cmd.Tu;rw [L] at F;cases F;rcases M with ⟨_,_,R⟩|⟨R,_⟩
    ·rw [show s=h.Fn from R];exact m
    ·exact absurd R he
  refine mD i O (rg:=s) (k:=h.SD) (cs:=h.or.set u (C2 k N E)) (rs:=h.rings) (l:=o) (hd:=h.held) (clo:=h.Sy) (cld:=h.Sk) (ov:=h.over) (es:=es) K.1 rfl (.inr ⟨u,k,N,E,J,rfl,λv=> ?_⟩) D (p hl) i.Sy (λe=>e) (by have:=K.2;omega) (lens hl) (by omega);have A:=C hl (v:Int);rw [I] at A;unfold lC;show gy o v+gy h.held v+(if h.Sk=true/\h.over=false/\h.Sy=(v:Int) then 1 else 0)+_=_;by_cases e:v=u
  ·subst e;rw [d8 rfl] at A |-;omega
  ·rw [d7 (by omega)] at A;rw [d7 e];omega
 |hold x o v s G hl P h8 L=>
  have K:fF c.SA.toNat c.Maps.length c.Sl.toNat (n+1) s:=by
   obtain ⟨q,F,M⟩:=mJ i.Ty x.cmd.Tu;rw [L] at F;cases F;rcases M with ⟨R,_⟩|⟨_,_,y,y1,y2,_,y3⟩
   ·exact absurd rfl R
   ·rw [show s=_ from y3];exact Ec i.Ty (by omega) y1 y2
  refine mD i O (rg:=s) (k:=h.SD) (cs:=h.or) (rs:=h.rings) (l:=o) (hd:=h.held++[{x with TX:=v}]) (clo:=h.Sy) (cld:=h.Sk) (ov:=h.over) (es:=[]) K rfl (.inl ⟨rfl,λw=> ?_⟩) D (λy j=> ?_) i.Sy (λe=>e) (by simp) (lens hl) (by rw [p6];simp only [u7,y4];omega)
  ·have A:=C hl (w:Int);unfold lC;show gy o w+gy (h.held++[{x with TX:=v}]) w+(if h.Sk=true/\h.over=false/\h.Sy=(w:Int) then 1 else 0)=_;rw [ni,sK];show gy o w+(gy h.held w+(if x.SR=(w:Int) then 1 else 0))+_=_;omega
  ·rcases g8.1 j with j|j
   ·exact p hl y (zal _ j)
   ·rcases g8.1 j with j|j
    ·exact i.call y (zar _ j)
    ·rw [i6.1 j];exact B (x:=x) hl
 |drain x o G hl P h9=>
  refine mD i O (rg:=h.Fn) (k:=h.SD) (cs:=h.or) (rs:=h.rings) (l:=o) (hd:=h.held++[x]) (clo:=h.Sy) (cld:=h.Sk) (ov:=h.over) (es:=[]) m rfl (.inl ⟨rfl,λw=> ?_⟩) D (λy j=> ?_) i.Sy (λe=>e) (by simp) (lens hl) (by rw [p6];simp only [u7,y4];omega)
  ·have A:=C hl (w:Int);unfold lC;show gy o w+gy (h.held++[x]) w+(if h.Sk=true/\h.over=false/\h.Sy=(w:Int) then 1 else 0)=_;rw [ni,sK];omega
  ·rcases g8.1 j with j|j
   ·exact p hl y (zal _ j)
   ·rcases g8.1 j with j|j
    ·exact i.call y (zar _ j)
    ·rw [i6.1 j];exact B hl
 |close x o G hl P h10=>
  have hd:=B3 (t:=(H:Int)) (λr Q=>(i.ring r Q).1);have hr4:=(i.hooks4 hS)
  have:=mD i O (rg:=h.Fn) (k:=h.SD) (cs:=h.or) (rs:=h.rings.map lD) (l:=o) (hd:=h.held) (clo:=x.SR) (cld:=true) (ov:=h.over) (es:=om H h.rings++[tM 14 H 0 0 0]) m rfl (.inl ⟨rfl,λw=> ?_⟩) ⟨by rw [o8];exact i.rg,λr Q=> ?_⟩ (p hl) (B hl).1 (λ_=>rfl) (by rw [p6];simp only [u7,y4];omega) (lens hl) (by omega)
  ·unfold NN at this;rw [<- w6] at this;exact this
  ·have A:=C hl (w:Int);unfold lC;show gy o w+gy h.held w+(if true=true/\h.over=false/\x.SR=(w:Int) then 1 else 0)=_;rw [Z,P,d7 (show ¬ (false=true/\false=false/\h.Sy=(w:Int)) from λz=>by cases z.1)];by_cases e:x.SR=(w:Int)
   ·rw [d8 e] at A;rw [d8 ⟨rfl,rfl,e⟩];omega
   ·rw [d7 e] at A;rw [d7 (λz=>e z.2.2)];omega
  ·obtain ⟨r0,Y,rfl⟩:=ym.1 Q;obtain ⟨⟨a,b,d⟩,_⟩:=i.ring r0 Y;refine ⟨⟨a,b,?_⟩,λq hq=>by cases hq⟩;show ((0:Nat):Int)<=r0.room;omega
open Go.Sx
def PY(k:ze):Prop:=(k.waits=true/\k.SB=0)\/(k.waits=false/\k.SO<k.SP.length)
def O6(h:za)(w:zz):Prop:=(w.LT.Su=0->w.Sv=false/\(h.Sk=true\/∃r∈h.rings,r.waiting≠ []))/\(w.LT.Su=3->w.Tw.isSome=true)
def O7(h:za)(o:zc):Prop:=o.Sr≠ []\/(h.Sk=true/\(∀w∈h.LE,w.Sv=true)/\o.Sv=false)
def Mx(h:za):Prop:=h.over=false/\(h.Sr≠ []\/(∃x∈h.held,Fin h x)\/(h.Sk=true/\((∀w∈h.LE,w.Sv=true)/\∀o∈h.Fd,o.Sv=true)/\h.held=[]))
theorem HI.sizes(a:aR c g)(b:HI c g n h):(1<=h.or.length/\h.or.length<=4)/\(1<=h.LE.length/\h.LE.length<=4)/\(1<=h.Fd.length/\h.Fd.length<=4)/\(1<=h.rings.length/\h.rings.length<=4)/\h.Fn.SC.in_.length<=4/\h.SD.Sn.length=h.or.length+h.LE.length+h.Fd.length+1:=by
 have d:=b.cl;have e:=b.crn a;have f:=b.own4 a;have i:=b.hooks4 a;have j:=b.Ty.wk;have k:=b.Uc;have l:=a.cl;have m:=a.wk;have o:=a.sh
 grind
theorem Ip(a:h.or[n]? =some i):∃b,qX h (n:Int)=some b/\(b=true↔PY i):=by
 have hl:=(zes.1 a).1;unfold qX zW;simp only [zbs];rw [d8 (by simpa using hl),zV a];simp only [zbs];unfold PY;cases c:i.waits with
 |true=>
  grind
 |false=>
  grind
theorem Iq(f:aR c g)(a:HI c g n h)(d:h.LE[H]? =some e):∃b,qX h ((h.or.length+H:Nat):Int)=some b/\(b=true↔O6 h e):=by
 have hl:=(zes.1 d).1;obtain ⟨s,i,j,k,l,m⟩:=a.sizes f;have o:=(a.crew e (zmg d)).SX;unfold qX zW qD jN
 grind [qo,zV,O6,wy]
theorem Ir(k:aR c g)(f:HI c g n h)(i:h.Fd[H]? =some o):∃b,qX h ((h.or.length+h.LE.length+H:Nat):Int)=some b/\(b=true↔O7 h o):=by
 have hl:=(zes.1 i).1;obtain ⟨q,s,l,r,t,u⟩:=f.sizes k;have v:=f.Tv;have m:=(f.own.all H o i).2.2.2.2.2;unfold qX zW qD;simp only [zbs];rw [d7 (by simp;omega),qo (x:=(h.or.length:Int)+h.LE.length) (by omega) (by omega),d7 (by simp;omega)];rw [pY rfl rfl rfl (by omega) (by omega) (by omega)];simp only [zbs];rw [d8 (by simp;omega),qo (by omega) (by omega)];rw [show ((h.or.length+h.LE.length+H:Nat):Int)-((h.or.length:Int)+h.LE.length)=(H:Int) by omega,zV i];simp only [zbs];rw [sb (by omega)];simp only [zbs];unfold O7;by_cases d:o.Sr=[]
 ·rw [d7 (by rw [d];simp)];cases w:h.Sk with
  |false=>
   refine ⟨false,rfl,λe=>(by cases e),λe=> ?_⟩
   grind
  |true=>
   obtain ⟨b,p,j⟩:=tK (h:=h) s.2 l.2 false;rw [p];simp only [zbs,q9];cases a:b with
   |false=>
    refine ⟨false,rfl,λe=>(by cases e),λe=> ?_⟩;rcases e with e|e
    ·exact absurd d e
    ·rw [j.2 ⟨e.2.1,λz=>by cases z⟩] at a;cases a
   |true=>
    unfold vg;refine ⟨_,rfl,λe=>.inr ⟨by trivial,(j.1 a).1,by simpa using e⟩,λe=> ?_⟩;rcases e with e|e
    ·exact absurd d e
    ·simp [e.2.2]
 ·have:0<o.Sr.length:=List.length_pos_iff.2 d;rw [d8 (by simp;omega)];exact ⟨true,rfl,λ_=>.inl d,λ_=>rfl⟩
theorem Gh(s:h.LE.length<=4)(d:h.Fd.length<=4):∃b,aF h=some b/\(b=true↔h.Sk=true/\((∀w∈h.LE,w.Sv=true)/\∀o∈h.Fd,o.Sv=true)/\h.held=[]):=by
 unfold aF;cases g:h.Sk with
 |false=>exact ⟨false,rfl,λe=>(by cases e),λe=>(by cases e.1)⟩
 |true=>
  obtain ⟨b,f,c⟩:=tK (h:=h) s d true;rw [f];simp only [zbs,q9];cases a:b with
  |false=>exact ⟨false,rfl,λe=>(by cases e),λe=>(by rw [c.2 ⟨e.2.1.1,λ_=>e.2.1.2⟩] at a;cases a)⟩
  |true=>
   have:=c.1 a;exact ⟨_,rfl,λe=>⟨by trivial,⟨this.1,this.2 rfl⟩,Sh.1 (by simpa using e)⟩,λe=>(by simp [e.2.2])⟩
theorem Is(a:aR c g)(d:HI c g n h):∃b,qX h ((h.or.length+h.LE.length+h.Fd.length:Nat):Int)=some b/\(b=true↔Mx h):=by
 obtain ⟨s,i,j,k,l,m⟩:=d.sizes a;unfold qX zW qD;simp only [zbs];rw [d7 (by simp;omega),qo (x:=(h.or.length:Int)+h.LE.length) (by omega) (by omega),d7 (by simp;omega)];rw [pY rfl rfl rfl (by omega) (by omega) (by omega)];simp only [zbs];rw [d7 (by simp)];unfold Mx;cases f:h.over with
 |true=>exact ⟨false,rfl,λe=>(by cases e),λe=>(by cases e.1)⟩
 |false=>
  simp only [Bool.not_false,q9];by_cases hl:h.Sr=[]
  ·rw [d7 (by rw [hl];simp)]
   grind [pg,Gh,hl]
  ·have:0<h.Sr.length:=List.length_pos_iff.2 hl;rw [d8 (by simp;omega)];exact ⟨true,rfl,λ_=>⟨by trivial,.inl hl⟩,λ_=>rfl⟩
inductive Rdy (h:za):Nat->Prop
 |c (t:Nat) (k:ze):h.or[t]? =some k->PY k->Rdy h t
 |w (j:Nat) (w:zz):h.LE[j]? =some w->O6 h w->Rdy h (h.or.length+j)
 |o (i:Nat) (o:zc):h.Fd[i]? =some o->O7 h o->Rdy h (h.or.length+h.LE.length+i)
 |r:Mx h->Rdy h (h.or.length+h.LE.length+h.Fd.length)
theorem Gi(s:aR c g)(u:HI c g n h){t:Nat}(v:t<h.or.length+h.LE.length+h.Fd.length+1):∃b,qX h (t:Int)=some b/\(b=true↔Rdy h t):=by
 by_cases z:t<h.or.length
 ·have f:=zeg z;obtain ⟨b,m,d⟩:=Ip f;refine ⟨b,m,λe=>.c t _ f (d.1 e),λe=>d.2 ?_⟩;cases e with
  |c _ k l a=>rw [f] at l;cases l;exact a
  |w j w q a=>omega
  |o i o p a=>omega
  |r a=>omega
 by_cases A:t<h.or.length+h.LE.length
 ·obtain ⟨j,rfl⟩:∃j,t=h.or.length+j:=⟨t-h.or.length,by omega⟩
  have f:=zeg (show j<h.LE.length by omega);obtain ⟨b,m,d⟩:=Iq s u f;refine ⟨b,m,λe=>.w j _ f (d.1 e),λe=>d.2 ?_⟩;generalize v:h.or.length+j=t at e;cases e with
  |c _ k l a=>have:=(zes.1 l).1;omega
  |w x w q a=>
   grind
  |o i o p a=>omega
  |r a=>omega
 by_cases B:t<h.or.length+h.LE.length+h.Fd.length
 ·obtain ⟨i,rfl⟩:∃i,t=h.or.length+h.LE.length+i:=⟨t-(h.or.length+h.LE.length),by omega⟩
  have f:=zeg (show i<h.Fd.length by omega);obtain ⟨b,m,d⟩:=Ir s u f;refine ⟨b,m,λe=>.o i _ f (d.1 e),λe=>d.2 ?_⟩;generalize v:h.or.length+h.LE.length+i=t at e;cases e with
  |c _ k l a=>have:=(zes.1 l).1;omega
  |w x w q a=>have:=(zes.1 q).1;omega
  |o y o p a=>
   obtain rfl:i=y:=by omega
   rw [f] at p;cases p;exact a
  |r a=>omega
 ·obtain rfl:t=h.or.length+h.LE.length+h.Fd.length:=by omega
  obtain ⟨b,m,d⟩:=Is s u;refine ⟨b,m,λe=>.r (d.1 e),λe=>d.2 ?_⟩;generalize v:h.or.length+h.LE.length+h.Fd.length=t at e;cases e with
  |c _ k l a=>have:=(zes.1 l).1;omega
  |w x w q a=>have:=(zes.1 q).1;omega
  |o y o p a=>have:=(zes.1 p).1;omega
  |r a=>exact a
def withK(h:za)(k:zo):za:={h with SD:=k}
theorem wB(l:aR c g)(m:HI c g n h):∃k j,vh h=some (withK h k)/\j.length=h.SD.Sn.length/\(∀(t:Nat) b,j[t]? =some b->(b=true↔Rdy h t))/\Mt h.SD k j j.length:=by
 obtain ⟨x,y,A,B,C,D⟩:=m.sizes l;unfold vh;rw [pY rfl rfl rfl (by omega) (by omega) (by omega)];simp only [zbs]
 have r:mkLen (w64 (((h.or.length+h.LE.length+h.Fd.length:Nat):Int)+1)) 1=some h.SD.Sn.length:=by
  grind [qo,mkLen]
 rw [r];simp only [zbs];rw [xR (by omega)];simp only [zbs]
 obtain ⟨j,u,o,v⟩:OK (jM (cZ h) (λ(a:(List Bool))=>a) h.SD.Sn.length 0 (List.replicate h.SD.Sn.length false)) (λj=>j.length=h.SD.Sn.length/\∀(t:Nat) b,j[t]? =some b->(b=true↔Rdy h t)):=by
  refine g9 (λi s=>s.length=h.SD.Sn.length/\∀(t:Nat) b,t<i->s[t]? =some b->(b=true↔Rdy h t)) ⟨by simp,λt b z=>by omega⟩ (λi s d E e F=> ?_) (λs p=>⟨p.1,λt b w=>p.2 t b (by grind) w⟩);obtain ⟨G,I⟩:=e;unfold cZ;obtain ⟨b,f,q⟩:=Gi l m (t:=i) (by omega);rw [f];simp only [zbs]
  grind [zV,vC]
 rw [u];simp only [zbs];obtain ⟨k,f,q⟩:=DD (k:=h.SD) o;rw [f];exact ⟨k,j,rfl,o,v,q⟩
theorem HI.withK(b:HI c g n h)(d:a.Sn.length=h.SD.Sn.length):HI c g n (withK h a):=
 {Tv:=b.Tv,SI:=b.SI,cl:=b.cl,cr:=b.cr,rg:=b.rg,Ty:=b.Ty,ring:=b.ring,Uu:=b.Uu,crew:=b.crew,own:=b.own,UA:=b.UA,TV:=b.TV,Ub:=b.Ub,call:=b.call,Sy:=b.Sy,Uc:=d.trans b.Uc,TW:=b.TW,Ud:=b.Ud,Ua:=b.Ua,Ux:=b.Ux,hel:=b.hel}
inductive Mv (h:za):Nat->za->Prop
 |back (t:Nat) (k:ze):h.or[t]? =some k->k.waits=true->k.SB=0->Mv h t (uF h t k [] h.rings h.Ti)
 |ask (t:Nat) (k:ze) (cmd:zO) (h':za):h.or[t]? =some k->k.waits=false->k.SO<k.SP.length->k.SP[k.SO.toNat]? =some cmd->CMv h t k cmd h'->Mv h t h'
 |work (j:Nat) (w:zz) (h':za):h.LE[j]? =some w->O6 h w->WMv h j w (h.or.length+j) h'->Mv h (h.or.length+j) h'
 |serve (i:Nat) (o:zc) (h':za):h.Fd[i]? =some o->O7 h o->SMv 2199023255552 h i o h'->Mv h (h.or.length+h.LE.length+i) h'
 |rule (h':za):Mx h->RMv h (h.or.length+h.LE.length+h.Fd.length) h'->Mv h (h.or.length+h.LE.length+h.Fd.length) h'
theorem Mx.hyp(a:Mx h)(c:∀x∈h.held,¬ Fin h x)(b:h.Sr=[]):h.Sk=true:=by
 rcases a.2 with z|⟨x,d,e⟩|z
 ·exact absurd b z
 ·grind
 ·exact z.1
theorem NP(e:aR c g)(f:HI c g n h)(b:Rdy h H){x:qr}(p:h.SD.Sn[H]? =some x)(q:x.Su≠2):OK (vZ 2199023255552 h (H:Int) true) (λr=>r.1=(H:Int)/\r.2.1=true/\Mv h H r.2.2):=by
 obtain ⟨z,A,B,C,D,E⟩:=f.sizes e;unfold vZ zW qD;simp only [zbs];refine j6 rfl ?_;rw [qo (x:=(h.or.length:Int)+h.LE.length) (by omega) (by omega)];cases b with
 |c _ k l a=>
  have hl:=(zes.1 l).1;refine m9 (by simpa using hl) ?_;rcases a with ⟨d,s⟩|⟨d,m⟩
  ·rw [DN e f l d];exact b9 ⟨rfl,rfl,.back H k l d s⟩
  ·obtain ⟨t,y,u⟩:=Gf e f l d m;exact d6 u λr b=>b9 ⟨rfl,rfl,.ask H k t _ l d m y b⟩
 |w j w d a=>
  have hl:=(zes.1 d).1;refine j6 (by simp;omega) ?_;refine m9 (by simp;omega) ?_;exact d6 (NJ e f d rfl a.1 a.2 p q) λr b=>b9 ⟨rfl,rfl,.work j w _ d a b⟩
 |o i o v a=>
  have hl:=(zes.1 v).1;refine j6 (by simp;omega) ?_;refine j6 (by simp;omega) ?_;rw [pY rfl rfl rfl (by omega) (by omega) (by omega)];simp only [zbs];refine m9 (by simp;omega) ?_;exact d6 (KL (by decide) e f v rfl p q) λr b=>b9 ⟨rfl,rfl,.serve i o _ v a b⟩
 |r a=>
  refine j6 (by simp;omega) ?_;refine j6 (by simp;omega) ?_;rw [pY rfl rfl rfl (by omega) (by omega) (by omega)];simp only [zbs];refine j6 (by simp) ?_;exact d6 (NM e f rfl a.hyp p q) λr b=>b9 ⟨rfl,rfl,.rule _ a b⟩
theorem PZ(d:aR c g)(f:HI c g n h)(l:n+1<=100000000)(b:Mv h H h'):HI c g (n+1) h':=by
 cases b with
 |back H k p m r=>exact KK d f l p m r
 |ask H k s h' p m q t b=>exact NE d f l p m q t b
 |work j w h' m a b=>exact NK d f l m rfl (λz=>(a.1 z).1) b
 |serve i o h' u a b=>
  refine NH d f l u (λz=> ?_) b;rcases a with e|e
  ·exact absurd z e
  grind
 |rule h' a b=>exact NO d f l a.1 a.hyp b
open Go.Sx
def uG(c:List ze):Nat:=(c.map (λk=>k.SE.length)).sum
theorem As(h:f[n]? =some y)(i:ze):uG (f.set n i)+y.SE.length=uG f+i.SE.length:=by
 unfold uG;rw [yb];exact DJ (by grind) _
structure Eff (h:za) (t:Nat) (h':za):Prop where
 SH:∃es:List zd,h'.SH=h.SH++es/\∀e∈es,e.UQ=(t:Int)
 Uc:∀(i:Nat)(x:qr),h.SD.Sn[i]? =some x->∃y,h'.SD.Sn[i]? =some y/\(x.Su=2->y.Su=2)
 Vd:h'.SD.Sn.length=h.SD.Sn.length
 sum:uG h'.or=uG h.or\/uG h'.or=uG h.or+1
theorem xa(k:zo):∀(i:Nat)(x:qr),k.Sn[i]? =some x->∃y,k.Sn[i]? =some y/\(x.Su=2->y.Su=2):=λi x h=>⟨x,h,λe=>e⟩
theorem Au(k:zo)(t:Nat)(z:qr):∀(i:Nat)(x:qr),k.Sn[i]? =some x->∃y,(NF k t z).Sn[i]? =some y/\(x.Su=2->y.Su=2):=λi x h=>by
 by_cases e:i=t
 ·subst e;exact ⟨⟨2,z.TN⟩,pe h,λ_=>rfl⟩
 ·exact ⟨x,vD h e,λz=>z⟩
theorem DS(b:h.or[n]? =some y)(d:i.SE=y.SE)(c:∀e∈es,e.UQ=(n:Int))(r:List zr)(g:zJ):Eff h n (uF h n i es r g):=by
 refine ⟨⟨es++[DL n i],by grind [uF],λe a=> ?_⟩,xa _,rfl,.inr ?_⟩
 ·rcases g8.1 a with a|a
  ·exact c e a
  ·rw [i6.1 a];rfl
 ·have f:uG (h.or.set n (Fi i))+y.SE.length=uG h.or+(Fi i).SE.length:=As b (Fi i)
  have j:(Fi i).SE.length=y.SE.length+1:=by
   show (i.SE++[O4 i]).length=_
   grind
  show uG (h.or.set n (Fi i))=_;omega
theorem DT(a:h.or[n]? =some y)(b:i.SE=y.SE)(os:List zc)(l:List zB):Eff h n (KI h n y i os l):=by
 refine ⟨⟨[eS n y],rfl,λe c=>by rw [i6.1 c];rfl⟩,xa _,rfl,.inl ?_⟩;have d:uG (h.or.set n i)+y.SE.length=uG h.or+i.SE.length:=As a i;show uG (h.or.set n i)=_;rw [b] at d;omega
theorem dD(a:h.or[n]? =some y)(b:i.SE=y.SE):uG (h.or.set n i)=uG h.or:=by
 grind [As]
theorem P0(y:Mv h n h'):Eff h n h':=by
 cases y with
 |back n k d C K=>exact DS d (by rfl) (λe c=>by cases c) _ _
 |ask n k cmd h' d C hat D y=>
  cases y with
  |told E hE=>exact DS d (by rfl) (λe c=>by rw [i6.1 c];rfl) _ _
  |fire i r s n2 E g L M O Y h5=>
   refine DS d (by rfl) (λe c=> ?_) _ _;rcases g8.1 c with c|c
   ·rw [i6.1 c];rfl
   ·split at c
    ·rw [i6.1 c];rfl
    ·cases c
  |items L M O Y h5=>exact DT d (by rfl) _ _
  |walk L M O Y=>exact DT d (by rfl) _ _
  |call L M O=>exact DT d (by rfl) _ _
 |work j w h' C F y=>
  cases y with
  |ends x m0 P f K=>exact ⟨⟨_,rfl,λe c=>by rw [i6.1 c];rfl⟩,Au _ _ _,by show (h.SD.Sn.set _ _).length=_;rw [j8],.inl rfl⟩
  |take i r s q qs cur m0 P Q hwt htk c0 c1=>exact ⟨⟨_,rfl,λe c=>by rw [i6.1 c];rfl⟩,xa _,rfl,.inl rfl⟩
  |skip st v p m1 R hsk=>exact ⟨⟨_,rfl,λe c=>by rw [i6.1 c];rfl⟩,xa _,rfl,.inl rfl⟩
  |enter v p m b e1 G ck e W m1 R hmo c hE=>exact ⟨⟨_,rfl,λe c=>by rw [i6.1 c];rfl⟩,xa _,rfl,.inl rfl⟩
  |note a W S A k3=>exact ⟨⟨_,rfl,λe c=>by rw [i6.1 c];rfl⟩,xa _,rfl,.inl rfl⟩
  |ask a W S A k2=>exact ⟨⟨_,rfl,λe c=>by rw [i6.1 c];rfl⟩,xa _,rfl,.inl rfl⟩
  |done a W e1 ck S A k4 hlv=>exact ⟨⟨_,rfl,λe c=>by rw [i6.1 c];rfl⟩,xa _,rfl,.inl rfl⟩
  |ran a W S A k1=>exact ⟨⟨_,rfl,λe c=>by rw [i6.1 c];rfl⟩,xa _,rfl,.inl rfl⟩
  |back r W m3 hr hA=>exact ⟨⟨_,rfl,λe c=>by rw [i6.1 c];rfl⟩,xa _,rfl,.inl rfl⟩
 |serve i o h' ho F y=>
  cases y with
  |ends n x d hl f K=>subst d;exact ⟨⟨_,rfl,λe c=>by rw [i6.1 c];rfl⟩,Au _ _ _,by show (h.SD.Sn.set _ _).length=_;rw [j8],.inl rfl⟩
  |crew n q Z x B j w d T I C=>subst d;exact ⟨⟨_,rfl,λe c=>by rw [i6.1 c];rfl⟩,xa _,rfl,.inl rfl⟩
  |walk q Z x B u k T I z C g0 g1=>exact ⟨⟨[],rfl,λe c=>by cases c⟩,xa _,rfl,.inl (dD z rfl)⟩
  |item n q Z x B u k d T I z C g0 g1=>subst d;exact ⟨⟨_,rfl,λe c=>by rw [i6.1 c];rfl⟩,xa _,rfl,.inl (dD z rfl)⟩
 |rule h' F y=>
  generalize h.or.length+h.LE.length+h.Fd.length=n at y;cases y with
  |fin a x u k hx I z f h8=>exact ⟨⟨[],rfl,λe c=>by cases c⟩,xa _,rfl,.inl (dD f rfl)⟩
  |retired a x u k hx I z f h8=>exact ⟨⟨_,rfl,λe c=>by rw [i6.1 c];rfl⟩,xa _,rfl,.inl (dD f rfl)⟩
  |over u k x t hl z f hkt K=>exact ⟨⟨_,rfl,λe c=>by rw [i6.1 c];rfl⟩,Au _ _ _,by show (h.SD.Sn.set _ _).length=_;rw [j8],.inl (dD f rfl)⟩
  |refuse x B u k t hl D z f=>exact ⟨⟨[],rfl,λe c=>by cases c⟩,xa _,rfl,.inl (dD f rfl)⟩
  |cmd x B u k s N E es t hl D z f U=>
   refine ⟨⟨es,rfl,λe c=> ?_⟩,xa _,rfl,.inl (dD f rfl)⟩;cases U with
   |load n2 G s hk4 hld=>
    split at c
    ·rw [i6.1 c];rfl
    ·cases c
   |attach v G s hk5 J=>
    split at c
    ·rw [i6.1 c];rfl
    ·cases c
   |swap v G s hk6 J=>
    split at c
    ·rw [i6.1 c];rfl
    ·cases c
   |detach G tb hk7 J=>
    split at c
    ·rw [i6.1 c];rfl
    ·cases c
   |retire v G s hk8 J he2=>cases c
  |hold x B v s t hl D h8 J=>exact ⟨⟨[],rfl,λe c=>by cases c⟩,xa _,rfl,.inl rfl⟩
  |drain x B t hl D h9=>exact ⟨⟨[],rfl,λe c=>by cases c⟩,xa _,rfl,.inl rfl⟩
  |close x B t hl D h10=>
   refine ⟨⟨om n h.rings++[tM 14 n 0 0 0],w6 _ _ _,λe c=> ?_⟩,xa _,rfl,.inl rfl⟩;rcases g8.1 c with c|c
   ·unfold om at c;obtain ⟨l,V,X⟩:=j9.1 c;obtain ⟨i,Q⟩:=p9 V;rw [List.getElem?_mapIdx] at Q;obtain ⟨r,hr,rfl⟩:=yf.1 Q;obtain ⟨q,T,rfl⟩:=ym.1 X;rfl
   ·rw [i6.1 c];rfl
def It(a b:zo):Prop:=b.Sn.length=a.Sn.length/\∀(i:Nat)(x:qr),a.Sn[i]? =some x->∃y,b.Sn[i]? =some y/\(x.Su=2↔y.Su=2)
theorem Mt.stay(h:Mt a z j j.length)(hl:j.length=a.Sn.length):It a z:=by
 refine ⟨h.2.1,λi x b=> ?_⟩;obtain ⟨u,c,_,d⟩:=h.2.2 i x b
 grind
theorem KN.stay(h:KN a z):It a z:=by
 refine ⟨h.1,λi x b=> ?_⟩;have c:=h.2 i
 grind
theorem It.trans(h:It a A)(b:It A d):It a d:=by
 refine ⟨b.1.trans h.1,λi x c=> ?_⟩;obtain ⟨y,e,f⟩:=h.2 i x c;obtain ⟨z,g,j⟩:=b.2 i y e
 grind
inductive Stp (h:za) (r:Int×Bool×za):Prop
 |none (k:zo):(∀t,t<h.SD.Sn.length->(∀x,h.SD.Sn[t]? =some x->x.Su≠2)->¬ Rdy h t)->It h.SD k->k.Si=h.SD.Si->r=(0,false,withK h k)->Stp h r
 |one (k:zo) (t:Nat) (x:qr) (h':za):Rdy h t->It h.SD k->k.Si=w64 (h.SD.Si+1)->h.SD.Sn[t]? =some x->x.Su≠2->Mv (withK h k) t h'->r=((t:Int),true,h')->Stp h r
theorem Rdy.withK(b:Rdy h n)(k:zo):Rdy (withK h k) n:=by
 cases b with
 |c _ q d a=>exact .c n q d a
 |w j w e a=>exact .w (h:=KH.withK h k) j w e a
 |o i o f a=>exact .o (h:=KH.withK h k) i o f a
 |r a=>exact .r (h:=KH.withK h k) a
theorem Iu(N:aR c g)(O:HI c g n h)(hl:j.length=h.SD.Sn.length)(A:∀(t:Nat) b,j[t]? =some b->(b=true↔Rdy h t))(f:Mt h.SD a j j.length)(P:KO a B):
  OK (B.bind λm=>(vZ 2199023255552 (withK h m.2.2) m.1 m.2.1).bind λo=>some (o.1,o.2.1,o.2.2)) (λr=>Stp h r/\if r.2.1 then r.1∈kin a 1 a.Sn.length else kin a 1 a.Sn.length=[]):=by
 have p:=f.stay hl;have J:=p.1;rcases P with ⟨K,rfl⟩|⟨x,i,L,rfl,E,F⟩
 ·refine b9 ⟨.none a (λt M G q=> ?_) p f.1 rfl,K⟩;have v:=zeg M;have k:=zeg (show t<j.length by omega);obtain ⟨u,D,_,d⟩:=f.2.2 t _ v;rw [d8 (by omega),d7 (G _ v),k,(A t _ k).2 q,d8 rfl] at d
  have:(t:Int)∈kin a 1 a.Sn.length:=by
   unfold kin;refine ym.2 ⟨t,List.mem_filter.2 ⟨by simp;omega,?_⟩,rfl⟩;rw [D];simp [d]
  rw [K] at this;cases this
 ·obtain ⟨t,y,rfl,M,Q,G⟩:=Ih L;have I:t<h.SD.Sn.length:=by omega
  have v:=zeg I;have k:=zeg (show t<j.length by omega);obtain ⟨u,D,_,d⟩:=f.2.2 t _ v;rw [Q] at D;obtain rfl:=j4 D;rw [d8 (by omega),G] at d;have s:h.SD.Sn[t].Su≠2:=λe=>by rw [d8 e] at d;omega
  rw [d7 s,k] at d
  have C:Rdy h t:=(A t _ k).1 (by
   cases R:j[t] with
   |true=>rfl
   |false=>rw [R,d7 (by simp)] at d;omega)
  have l:=p.trans E.stay;obtain ⟨z,S,e⟩:=l.2 t _ v;simp only [zbs];refine d6 (NP N (O.withK l.1) (C.withK i) (x:=z) S (λw=>s (e.2 w))) (λr q=>b9 ⟨.one i t _ r.2.2 C l (by rw [F,f.1]) v s q.2.2 ?_,?_⟩)
  ·rw [q.1,q.2.1]
  ·rw [q.2.1,q.1];exact L
theorem Av(a:aR c g)(b:HI c g n h)(d:Int):OK (aa 2199023255552 h d) (Stp h):=by
 obtain ⟨k,j,f,i,l,e⟩:=wB a b;obtain ⟨s,o,p,q,t,u⟩:=b.sizes a;unfold aa;rw [f];simp only [zbs];have:=e.2.1;exact (Iu a b i l e (BX (k:=k) (by omega) d)).mono λr m=>m.1
theorem NQ(a:aR c g)(b:HI c g n h):OK (dz 2199023255552 h) (Stp h):=by
 obtain ⟨k,j,d,f,i,e⟩:=wB a b;obtain ⟨s,m,o,p,q,t⟩:=b.sizes a;unfold dz;rw [d];simp only [zbs];have:=e.2.1;exact (Iu a b f i e (BY (k:=k) (by omega))).mono λr l=>l.1
open Go.Sx
theorem KF.shape(a:KF c g h)(b:∀s∈g,∀c∈s,Fit c):aR c g:=⟨a.hk,a.wk,a.sh,a.mp,a.cl,a.sl,b⟩
theorem KS(b:KF c g h):HI c g 0 h/\h.SH=[]/\uG h.or=0:=by
 obtain ⟨r,os,N,O,j,y,P,Q,R,S,T,⟨l,D⟩,⟨m,n⟩,rfl⟩:=b.is;have U:=b.hk;have V:=b.wk;have W:=b.sh;obtain ⟨X,A,E,Y,Z⟩:=WJ.new (H:=c.SA.toNat) (K:=c.Maps.length) (by omega);rw [j] at A;obtain rfl:=j4 A
 have B:∀f:Int,eY os f=0:=λf=>by
  unfold eY
  have:os.map (λo=>wv o.Sr f)=List.replicate os.length 0:=by
   refine l8 λi=> ?_
   grind [wv]
  rw [this];simp
 refine ⟨?_,rfl,?_⟩
 ·exact
  {Tv:=by omega
   SI:=rfl
   cl:=o8 _
   cr:=by grind
   rg:=m
   Ty:=y
   ring:=λq F=>⟨(n q F).1,λx C=>by grind⟩
   Uu:=λt k s u G=>by
    rw [x3,G] at u;obtain rfl:=j4 u;exact ⟨rfl,u6 0,Int.natCast_nonneg _,(λe=>by cases e),rfl,(λa I=>by cases I),by simp [C1,QF],rfl,by simp [C1],(λp J=>by cases J),λ_=>rfl⟩
   crew:=λw v=>by
    rw [R6 (show w∈List.replicate _ _ from v)];exact ⟨E,⟨u6 0,by show (0:Int)<_;omega⟩,(λr e=>by cases e),λe=>by cases e⟩
   own:=⟨l,λi o d=>by
    grind⟩
   UA:=λo d r y=>by
    obtain ⟨i,L⟩:=p9 (show o∈os from d)
    grind
   TV:=λt k u=>by
    show k.SB=((eY os t+(0+0+(if false=true/\false=false/\(0:Int)=t then 1 else 0)):Nat):Int)
    grind [C1]
   Ub:=λt=>.inl (by
    show 0+0+(if false=true/\false=false/\(0:Int)=t then 1 else 0)=0
    grind)
   call:=λx C=>by cases C
   Sy:=⟨0,rfl,b.cl.1⟩
   Uc:=Sg
   TW:=λo d e=>by
    obtain ⟨i,L⟩:=p9 (show o∈os from d)
    grind
   Ud:=λw v e=>by
    rw [R6 (show w∈List.replicate _ _ from v)] at e;cases e
   Ua:=Nat.zero_le _
   Ux:=Nat.zero_le _
   hel:=Nat.zero_le _}
 ·show uG (g.map C1)=0;unfold uG;rw [List.map_map]
  have:g.map ((λk:ze=>k.SE.length)∘C1)=List.replicate g.length 0:=by
   refine l8 λi=> ?_
   rw [x3,List.getElem?_replicate];cases M:g[i]? with
   |none=>rw [d7 (λz=>by grind)];rfl
   |some s=>rw [d8 (zes.1 M).1];rfl
  rw [this];simp
theorem My(a:HI c g n h):cO h=some h.SH:=by
 have:=a.logb
 grind [cO,qx,xR]
structure RG (h:za) (r:Int×Bool×za):Prop where
 SH:∃es:List zd,r.2.2.SH=h.SH++es/\(∀e∈es,e.UQ=r.1)/\(r.2.1=false->es=[])
 Vd:r.2.2.SD.Sn.length=h.SD.Sn.length
 Sv:∀(i:Nat)(x:qr),h.SD.Sn[i]? =some x->x.Su=2->∃y,r.2.2.SD.Sn[i]? =some y/\y.Su=2
 over:r.2.1=true->∃(t:Nat)(x:qr),r.1=t/\h.SD.Sn[t]? =some x/\x.Su≠2
 sum:uG r.2.2.or=uG h.or\/uG r.2.2.or=uG h.or+1
theorem sM(j:Stp h C):RG h C:=by
 cases j with
 |none k l a b e=>
  subst e;refine ⟨⟨[],by show h.SH=_;rw [i9],(λe m=>by cases m),λ_=>rfl⟩,a.1,λi x c d=> ?_,(λe=>by cases e),.inl rfl⟩;obtain ⟨y,f,e⟩:=a.2 i x c;exact ⟨y,f,e.1 d⟩
 |one k t x h' n a b c d o e=>
  subst e;obtain ⟨⟨es,p,q⟩,r,s,u⟩:=P0 o;refine ⟨⟨es,p,q,λz=>by cases z⟩,s.trans a.1,λi y f v=> ?_,λ_=>⟨t,x,rfl,c,d⟩,u⟩;obtain ⟨w,g,B⟩:=a.2 i y f;obtain ⟨D,A,E⟩:=r i w g
  grind
open Go.Sx
open Go.Sx
def Jd(m:zD):Prop:=∃o,jW 2199023255552 m=some (o,0,0)
structure RJ (r:zb):Prop where
 TU:∀p x,jA r.SG p=some x->Jd x.module
 hook:∀(i:Nat) u,r.SF.Sz[i]? =some u->0<u.SL->∃x,jA r.SG u.prog=some x/\x.Tk=0
theorem Jd.of(h:vr 2199023255552 m=some (v,0)):Jd m:=by
 obtain ⟨o,q,e,a,b⟩:=mz m
 grind [Ag,Jd]
theorem GH(h:oz clo D=some G)(c:G.2=0):Jd G.1:=by
 unfold oz at h;obtain ⟨d,_,h⟩:=z4.1 h;split at h
 ·grind
 ·obtain ⟨j,a,h⟩:=z4.1 h;split at h
  ·grind
  ·rename_i b
   obtain ⟨p,e⟩:=j;have:e=0:=by simpa using b
   subst this;cases h;exact .of a
theorem RJ.added(b:fF H M W n r)(a:RJ r)(c:Jd m):RJ (added r m):=by
 have g:=ub b;have d:∀p,jA (Go.Proofs.YtplmgfkghomelaaGreatDoor.added r m).SG p=if r.Ta+1=p then some ⟨m,0⟩ else jA r.SG p:=λp=>ua ..
 refine ⟨λp x h=> ?_,λi u e f=> ?_⟩
 ·rw [d] at h;split at h
  ·cases h;exact c
  ·exact a.TU p x h
 ·obtain ⟨x,j,k⟩:=a.hook i u e f
  grind
theorem RJ.placed(h:RJ r)(b:Cm r v clo q):RJ q.2.2/\q.2.2.SC=r.SC:=by
 by_cases e:q.2.1=0
 ·obtain ⟨_,c,l,hl,d⟩:=b.yes e;rw [d,hl];refine ⟨⟨h.TU,λi u a f=> ?_⟩,rfl⟩;rcases vC (show (r.SF.Sz.set _ _)[i]? =some u from a) with ⟨_,rfl,_⟩|⟨_,a⟩
  ·exact c
  ·exact h.hook i u a f
 ·rw [(b.no e).2];exact ⟨h,rfl⟩
theorem RJ.retired(l:fF H M W n r)(a:RJ r)(f:jA r.SG v=some I)(g:∀(i:Nat) u,r.SF.Sz[i]? =some u->0<u.SL->u.prog≠v):RJ (retired r v I):=by
 have b:∀q,jA (Go.Proofs.YtplmgfkghomelaaGreatDoor.retired r v I).SG q=if v=q then some ⟨I.module,r.SC.TR+1⟩ else jA r.SG q:=by
  grind [Go.Proofs.YtplmgfkghomelaaGreatDoor.retired,Ck]
 refine ⟨λq y h=> ?_,λi u c d=> ?_⟩
 ·rw [b] at h;split at h
  ·cases h;exact a.TU v I f
  ·exact a.TU q y h
 ·obtain ⟨y,j,k⟩:=a.hook i u c d;exact ⟨y,by rw [b,d7 (λe=>g i u c d e.symm)];exact j,k⟩
theorem RJ.settled(h:fF H M W n r)(a:RJ r)(m:Int):RJ (settled r (iJ r m)):=by
 have d:=oB h (iJ r m);refine ⟨λq y e=> ?_,λi u b c=> ?_⟩
 ·grind [RJ]
 ·obtain ⟨y,f,g⟩:=a.hook i u b c
  grind [Oe]
theorem On(d:HI c g n h)(f:RJ h.Fn)(m:x.cmd.SM.length<=140737488355328)(o:KM clo h.Fn x s N E es):RJ s/\s.SC.in_=h.Fn.SC.in_:=by
 cases o with
 |load n e s _ hl=>
  obtain ⟨v,p,r,w⟩:=pZ d m;rw [p] at hl;split at hl
  ·grind
  ·split at hl
   ·grind
   ·cases hl;exact ⟨f.added d.Ty (GH r (by omega)),rfl⟩
 |attach v e s _ j=>
  obtain ⟨q,b,a⟩:=uc d.Ty x.cmd.SS x.cmd.Tu;rw [j] at b;cases b;have:=f.placed a
  grind
 |swap v e s _ j=>
  obtain ⟨q,b,a⟩:=Eb d.Ty x.cmd.SS x.cmd.Tu;rw [j] at b;cases b;have:=f.placed a
  grind
 |detach e y _ hd=>
  obtain ⟨q,b,a⟩:=ud d.Ty x.cmd.SS;rw [hd] at b;cases b;rcases a with ⟨_,a⟩|⟨_,l,⟨_,hl⟩,a⟩
  ·simp only at a;subst a;exact ⟨f,rfl⟩
  ·simp only at a;subst a;refine ⟨⟨f.TU,λi u k t=> ?_⟩,rfl⟩;rcases hl i u k with e|k
   ·omega
   ·exact f.hook i u k t
 |retire v e s _ z A=>
  obtain ⟨q,b,a⟩:=mJ d.Ty x.cmd.Tu
  grind
theorem Oo(b:HI c g n h)(e:RJ h.Fn)(f:qS h.Fn clo=some (v,0,s)):RJ s/\s.SC.in_=h.Fn.SC.in_:=by
 obtain ⟨q,d,a⟩:=mJ b.Ty clo;rw [f] at d;cases d;rcases a with ⟨a,_⟩|⟨_,_,x,i,_,j,a⟩
 ·exact absurd rfl a
 ·simp only at a;subst a;exact ⟨e.retired b.Ty i j,rfl⟩
theorem RJ.cur(d:fF H M W n r)(b:RJ r)(h:jn r.SF clo=some (v,N,true)):∃m,qR r N=some (m,true)/\Jd m:=by
 unfold jn jg jh at h;simp only [zbs] at h;obtain ⟨o,e,h⟩:=z4.1 h;split at h
 ·cases h
 ·rename_i f
  obtain ⟨u,g,h⟩:=z4.1 h;cases h;have a:r.SF.Sz[clo.toNat]? =some u:=by grind [idx]
  have:0<u.SL:=by grind
  obtain ⟨x,c,i⟩:=b.hook _ u a this;exact ⟨x.module,by rw [Co d,c],b.TU _ x c⟩
end Go.Proofs.YtplmgfkghomelaaGreatDoor.KH
