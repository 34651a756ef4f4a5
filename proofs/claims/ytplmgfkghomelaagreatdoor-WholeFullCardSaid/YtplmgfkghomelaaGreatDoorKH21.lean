/- Lemmas. -/
import Derived.Test.YtplmgfkghomelaaGreatDoorKH17
set_option linter.unusedVariables false
set_option linter.unusedSimpArgs false
namespace Go.Proofs.YtplmgfkghomelaaGreatDoor.KH
section
section
section
section
section
section
section
section
open Go.Sx
variable {c:zH} {ss:List (List zK)} {n:Nat} {h:za}
def Nu(h:za)(rg:zb)(k:zo)(cs:List ze)(rs:List zq)(l hd:List zB)(clo:Int)(cld ov:Bool)(es:List zd):za:=
 ⟨rg,k,h.Sv,cs,h.LT,h.Fn,rs,l,hd,clo,cld,ov,h.SE++es,h.SK⟩
theorem mf(hI:HI c ss n h)(hn:n+1<=100000000){rg:zb}{k:zo}{cs:List ze}{rs:List zq}{l hd:List zB}{clo:Int}{cld ov:Bool}{es:List zd}
  (hrg:fk c.Sj.toNat c.Maps.length c.Sa.toNat (n+1) rg) (hk:k.Sd.length=h.Sn.Sd.length)
  (hcs:(cs=h.or/\∀t:Nat,lB (Nu h rg k cs rs l hd clo cld ov es) t=lB h t)\/∃(u:Nat)(k0:ze)(N E:Int),h.or[u]? =some k0/\cs=h.or.set u (Bm k0 N E)/\∀t:Nat,lB (Nu h rg k cs rs l hd clo cld ov es) t+(if t=u then 1 else 0)=lB h t)
  (hrs:wK c rs) (hcall:∀x∈l++hd,(∃t:Nat,x.SG=t/\t<ss.length)/\x.cmd.SC.length<=140737488355328/\4<=x.cmd.RZ/\x.cmd.RZ<=10) (hclo:∃t:Nat,clo=t/\t<ss.length) (hcld:h.closed=true->cld=true) (hes:es.length<=100) (hl:l.length<=n+1) (hhd:hd.length<=n+1):
  HI c ss (n+1) (Nu h rg k cs rs l hd clo cld ov es):=by
 have hlen:cs.length=h.or.length:=by
  rcases hcs with ⟨e,_⟩|⟨u,k0,N,E,_,e,_⟩
  ·rw [e]
  ·rw [e,j7]
 have hcl:∀(t:Nat) k',cs[t]? =some k'->k'.Sl=((ic h.Fn t+lB (Nu h rg k cs rs l hd clo cld ov es) t:Nat):Int)/\∀s,ss[t]? =some s->pB s k':=λt k' hk'=>by
  rcases hcs with ⟨rfl,e⟩|⟨u,k0,N,E,hu,rfl,e⟩
  ·exact ⟨by rw [e t];exact hI.TH t k' hk',λs hs=>hI.Ul t k' s hk' hs⟩
  ·have h1:=e t;rcases fL hk' with ⟨rfl,rfl,_⟩|⟨hne,hk'⟩
   ·rw [d7 rfl] at h1;have h2:=hI.TO t;refine ⟨?_,λs hs=> ?_⟩
    ·show (0:Int)=_;omega
    ·have hc:=hI.Ul t k0 s hu hs;exact {hc with Uh:=λ_=>rfl}
   ·rw [d8 hne] at h1;exact ⟨by rw [hI.TH t k' hk'];rw [<- h1];rfl,λs hs=>hI.Ul t k' s hk' hs⟩
 have hback:∀(t:Nat) k,h.or[t]? =some k->∃k',cs[t]? =some k'/\k'.parts.length=k.parts.length/\k'.Id.SQ.length=k.Id.SQ.length:=λt k1 hk1=>by
  rcases hcs with ⟨rfl,e⟩|⟨u,k0,N,E,hu,rfl,e⟩
  ·exact ⟨k1,hk1,rfl,rfl⟩
  ·by_cases e:t=u
   ·subst e;rw [hu] at hk1;obtain rfl:=j4 hk1;exact ⟨_,mM hu,rfl,rfl⟩
   ·exact ⟨k1,vA hk1 e,rfl,rfl⟩
 exact
 {Tg:=hn
  Sv:=hI.Sv
  cl:=hlen.trans hI.cl
  cr:=hI.cr
  rg:=hrs.1
  Tv:=hrg
  ring:=hrs.2
  Ul:=λt k' s hk' hs=>(hcl t k' hk').2 s hs
  crew:=hI.crew
  own:=hI.own.mono (by omega)
  Un:=λo ho r hr=>(hI.Un o ho r hr).same hlen hback
  TH:=λt k' hk'=>(hcl t k' hk').1
  TO:=λt=>by
   have h1:=hI.TO t;show lB (Nu h rg k cs rs l hd clo cld ov es) t=0\/lB (Nu h rg k cs rs l hd clo cld ov es) t=1/\ic h.Fn t=0;rcases hcs with ⟨_,e⟩|⟨u,k0,N,E,_,_,e⟩
   ·rw [e t];exact h1
   ·have h2:=e t;split at h2<;>omega
  call:=hcall
  Sg:=hclo
  TP:=by show k.Sd.length=_;rw [hk];exact hI.TP
  TM:=λo ho e=>⟨hcld (hI.TM o ho e).1,(hI.TM o ho e).2⟩
  TV:=λw hw e=>hcld (hI.TV w hw e)
  TQ:=by
   show (h.SE++es).length<=_;have:=hI.TQ;rw [p5];omega
  Uj:=hl
  hel:=hhd}
theorem uQ{l:List zB}{a:Nat}{x:zB}(h:l[a]? =some x)(f:Int):gA (l.eraseIdx a) f+(if x.SG=f then 1 else 0)=gA l f:=by
 have hal:=(zes.1 h).1
 have h1:l=l.take a++x::l.drop (a+1):=by
  have h2:=yg a l;rw [RK hal] at h2;have h3:l[a]=x:=(zes.1 h).2;rw [h3] at h2;exact h2.symm
 rw [List.eraseIdx_eq_take_drop_succ]
 conv=>rhs;rw [h1]
 rw [mL,mL,sZ];omega
theorem Nv(hS:cX c ss)(hI:HI c ss n h)(hn:n+1<=100000000){t:Nat}(ho:h.over=false)(hr:(∀x∈h.held,¬ Fin h x)->h.Se=[]->h.closed=true){h':za}(hv:RMv h t h'):HI c ss (n+1) h':=by
 have hregm:=hI.Tv.mono (show n<=n+1 by omega) (by omega);have hln:=hI.Uj;have hhl:=hI.hel;have hrs:wK c h.RX:=⟨hI.rg,hI.ring⟩
 have popc:∀{x xs},h.Se=x::xs->∀f:Int,gA xs f+(if x.SG=f then 1 else 0)=gA h.Se f:=λe f=>by rw [e,sZ]
 have calls:∀{x xs},h.Se=x::xs->∀y∈xs++h.held,(∃t:Nat,y.SG=t/\t<ss.length)/\y.cmd.SC.length<=140737488355328/\4<=y.cmd.RZ/\y.cmd.RZ<=10:=λe y hy=>hI.call y (by
  rcases i5.1 hy with hy|hy
  ·exact zal _ (by rw [e];exact zcm _ hy)
  ·exact zar _ hy)
 have callx:∀{x xs},h.Se=x::xs->(∃t:Nat,x.SG=t/\t<ss.length)/\x.cmd.SC.length<=140737488355328/\4<=x.cmd.RZ/\x.cmd.RZ<=10:=λe=>hI.call _ (zal _ (by rw [e];exact zcs))
 have lens:∀{x xs},h.Se=x::xs->xs.length<=n+1:=λe=>by rw [e,v8] at hln;omega
 cases hv with
 |fin a x u k hx hf hu hk h8=>
  refine mf hI hn (rg:=h.Fd) (k:=h.Sn) (cs:=h.or.set u (Bm k 0 0)) (rs:=h.RX) (l:=h.Se) (hd:=h.held.eraseIdx a) (clo:=h.Sg) (cld:=h.closed) (ov:=h.over) (es:=[]) hregm rfl (.inr ⟨u,k,0,0,hk,rfl,λv=> ?_⟩) hrs (λy hy=>hI.call y ?_) hI.Sg (λe=>e) (by simp) (by omega) (s9 (List.length_eraseIdx_le _ _) (by omega))
  ·have h1:=uQ hx (v:Int);unfold lB;show gA h.Se v+gA (h.held.eraseIdx a) v+_+_=_;rw [hu] at h1;by_cases e:v=u
   ·subst e;rw [d7 rfl] at h1 |-;show _+(if h.closed=true/\h.over=false/\h.Sg=(v:Int) then 1 else 0)+1=_;omega
   ·rw [d8 (by omega)] at h1;rw [d8 e];show _+(if h.closed=true/\h.over=false/\h.Sg=(v:Int) then 1 else 0)+0=_;omega
  ·rcases i5.1 hy with hy|hy
   ·exact zal _ hy
   ·exact zar _ (List.mem_of_mem_eraseIdx hy)
 |retired a x u k hx hf hu hk h8=>
  refine mf hI hn (rg:=settled h.Fd (iA h.Fd 1)) (k:=h.Sn) (cs:=h.or.set u (Bm k 0 0)) (rs:=h.RX) (l:=h.Se) (hd:=h.held.eraseIdx a) (clo:=h.Sg) (cld:=h.closed) (ov:=h.over) (es:=[wN 13 t 0 x.cmd.Tf 0]) (DT hI.Tv (by omega) 1) rfl (.inr ⟨u,k,0,0,hk,rfl,λv=> ?_⟩) hrs (λy hy=>hI.call y ?_) hI.Sg (λe=>e) (by simp) (by omega) (s9 (List.length_eraseIdx_le _ _) (by omega))
  ·have h1:=uQ hx (v:Int);unfold lB;show gA h.Se v+gA (h.held.eraseIdx a) v+_+_=_;rw [hu] at h1;by_cases e:v=u
   ·subst e;rw [d7 rfl] at h1 |-;show _+(if h.closed=true/\h.over=false/\h.Sg=(v:Int) then 1 else 0)+1=_;omega
   ·rw [d8 (by omega)] at h1;rw [d8 e];show _+(if h.closed=true/\h.over=false/\h.Sg=(v:Int) then 1 else 0)+0=_;omega
  ·rcases i5.1 hy with hy|hy
   ·exact zal _ hy
   ·exact zar _ (List.mem_of_mem_eraseIdx hy)
 |over u k x hnf hl hu hk hkt hm=>
  have hc:=hr hnf hl;refine mf hI hn (rg:=h.Fd) (k:=OI h.Sn t x) (cs:=h.or.set u (Bm k 0 0)) (rs:=h.RX) (l:=h.Se) (hd:=h.held) (clo:=h.Sg) (cld:=h.closed) (ov:=true) (es:=[Jx t]) hregm (by show (h.Sn.Sd.set t _).length=_;rw [j7]) (.inr ⟨u,k,0,0,hk,rfl,λv=> ?_⟩) hrs hI.call hI.Sg (λe=>e) (by simp) (by omega) (by omega);unfold lB;show gA h.Se v+gA h.held v+(if h.closed=true/\true=false/\h.Sg=(v:Int) then 1 else 0)+_=_;rw [d8 (λz=>by cases z.2.1),hc,ho,hu];by_cases e:v=u
  ·subst e;rw [d7 rfl,d7 ⟨rfl,rfl,rfl⟩]
  ·rw [d8 e,d8 (λz=>e (by have:=z.2.2;omega))]
 |refuse x xs u k hnf hl hc hu hk=>
  refine mf hI hn (rg:=h.Fd) (k:=h.Sn) (cs:=h.or.set u (Bm k 0 43)) (rs:=h.RX) (l:=xs) (hd:=h.held) (clo:=h.Sg) (cld:=h.closed) (ov:=h.over) (es:=[]) hregm rfl (.inr ⟨u,k,0,43,hk,rfl,λv=> ?_⟩) hrs (calls hl) hI.Sg (λe=>e) (by simp) (lens hl) (by omega);have h1:=popc hl (v:Int);rw [hu] at h1;unfold lB;show gA xs v+gA h.held v+(if h.closed=true/\h.over=false/\h.Sg=(v:Int) then 1 else 0)+_=_;by_cases e:v=u
  ·subst e;rw [d7 rfl] at h1 |-;omega
  ·rw [d8 (by omega)] at h1;rw [d8 e];omega
 |cmd x xs u k r' N E es hnf hl hc hu hk hcm=>
  have hrg:fk c.Sj.toNat c.Maps.length c.Sa.toNat (n+1) r'/\es.length<=1:=by
   cases hcm with
   |load n2 e r' hk4 hld=>
    refine ⟨?_,by split<;>simp⟩;obtain ⟨v,v1,v2,v3⟩:=pD hI (callx hl).2.1;rw [hld] at v1;have v1:=j4 v1;split at v1
    ·cases v1;exact hregm
    ·rename_i h0
     split at v1
     ·cases v1;exact hregm
     ·rename_i h16
      cases v1
      have h3:=v3 (Classical.not_not.1 h0);exact IB hI.Tv (by omega) h16 ⟨h3.1,by rw [<- hI.Tv.maps];exact h3.2.1,h3.2.2⟩
   |attach v e r' hk5 ha=>
    refine ⟨?_,by split<;>simp⟩;obtain ⟨q,q1,q2⟩:=tu hI.Tv x.cmd.SJ x.cmd.Tf;rw [ha] at q1;cases q1;exact q2.inv hI.Tv (by omega)
   |swap v e r' hk6 ha=>
    refine ⟨?_,by split<;>simp⟩;obtain ⟨q,q1,q2⟩:=DQ hI.Tv x.cmd.SJ x.cmd.Tf;rw [ha] at q1;cases q1;exact q2.inv hI.Tv (by omega)
   |detach e tb hk7 ha=>
    refine ⟨?_,by split<;>simp⟩;obtain ⟨q,q1,q2⟩:=tv hI.Tv x.cmd.SJ;rw [ha] at q1;cases q1;exact Gd hI.Tv (by omega) q2
   |retire v e r' hk8 ha he=>
    refine ⟨?_,by simp⟩;obtain ⟨q,q1,q2⟩:=mr hI.Tv x.cmd.Tf;rw [ha] at q1;cases q1;rcases q2 with ⟨_,_,e5⟩|⟨e5,_⟩
    ·rw [show r'=h.Fd from e5];exact hregm
    ·exact absurd e5 he
  refine mf hI hn (rg:=r') (k:=h.Sn) (cs:=h.or.set u (Bm k N E)) (rs:=h.RX) (l:=xs) (hd:=h.held) (clo:=h.Sg) (cld:=h.closed) (ov:=h.over) (es:=es) hrg.1 rfl (.inr ⟨u,k,N,E,hk,rfl,λv=> ?_⟩) hrs (calls hl) hI.Sg (λe=>e) (by have:=hrg.2;omega) (lens hl) (by omega);have h1:=popc hl (v:Int);rw [hu] at h1;unfold lB;show gA xs v+gA h.held v+(if h.closed=true/\h.over=false/\h.Sg=(v:Int) then 1 else 0)+_=_;by_cases e:v=u
  ·subst e;rw [d7 rfl] at h1 |-;omega
  ·rw [d8 (by omega)] at h1;rw [d8 e];omega
 |hold x xs v r' hnf hl hc h8 ha=>
  have hrg:fk c.Sj.toNat c.Maps.length c.Sa.toNat (n+1) r':=by
   obtain ⟨q,q1,q2⟩:=mr hI.Tv x.cmd.Tf;rw [ha] at q1;cases q1;rcases q2 with ⟨e5,_⟩|⟨_,_,y,y1,y2,_,y3⟩
   ·exact absurd rfl e5
   ·rw [show r'=_ from y3];exact DR hI.Tv (by omega) y1 y2
  refine mf hI hn (rg:=r') (k:=h.Sn) (cs:=h.or) (rs:=h.RX) (l:=xs) (hd:=h.held++[{x with TK:=v}]) (clo:=h.Sg) (cld:=h.closed) (ov:=h.over) (es:=[]) hrg rfl (.inl ⟨rfl,λw=> ?_⟩) hrs (λy hy=> ?_) hI.Sg (λe=>e) (by simp) (lens hl) (by rw [p5];simp only [v8,yz];omega)
  ·have h1:=popc hl (w:Int);unfold lB;show gA xs w+gA (h.held++[{x with TK:=v}]) w+(if h.closed=true/\h.over=false/\h.Sg=(w:Int) then 1 else 0)=_;rw [mL,rY];show gA xs w+(gA h.held w+(if x.SG=(w:Int) then 1 else 0))+_=_;omega
  ·rcases i5.1 hy with hy|hy
   ·exact calls hl y (zal _ hy)
   ·rcases i5.1 hy with hy|hy
    ·exact hI.call y (zar _ hy)
    ·rw [i6.1 hy];exact callx (x:=x) hl
 |drain x xs hnf hl hc h9=>
  refine mf hI hn (rg:=h.Fd) (k:=h.Sn) (cs:=h.or) (rs:=h.RX) (l:=xs) (hd:=h.held++[x]) (clo:=h.Sg) (cld:=h.closed) (ov:=h.over) (es:=[]) hregm rfl (.inl ⟨rfl,λw=> ?_⟩) hrs (λy hy=> ?_) hI.Sg (λe=>e) (by simp) (lens hl) (by rw [p5];simp only [v8,yz];omega)
  ·have h1:=popc hl (w:Int);unfold lB;show gA xs w+gA (h.held++[x]) w+(if h.closed=true/\h.over=false/\h.Sg=(w:Int) then 1 else 0)=_;rw [mL,rY];omega
  ·rcases i5.1 hy with hy|hy
   ·exact calls hl y (zal _ hy)
   ·rcases i5.1 hy with hy|hy
    ·exact hI.call y (zar _ hy)
    ·rw [i6.1 hy];exact callx hl
 |close x xs hnf hl hc h10=>
  have hd:=Bu (t:=(t:Int)) (λr hr=>(hI.ring r hr).1);have hr4:=(hI.hooks4 hS)
  have:=mf hI hn (rg:=h.Fd) (k:=h.Sn) (cs:=h.or) (rs:=h.RX.map rE) (l:=xs) (hd:=h.held) (clo:=x.SG) (cld:=true) (ov:=h.over) (es:=drops t h.RX++[wN 14 t 0 0 0]) hregm rfl (.inl ⟨rfl,λw=> ?_⟩) ⟨by rw [p8];exact hI.rg,λr hr=> ?_⟩ (calls hl) (callx hl).1 (λ_=>rfl) (by rw [p5];simp only [v8,yz];omega) (lens hl) (by omega)
  ·unfold Nu at this;rw [<- w6] at this;exact this
  ·have h1:=popc hl (w:Int);unfold lB;show gA xs w+gA h.held w+(if true=true/\h.over=false/\x.SG=(w:Int) then 1 else 0)=_;rw [ho,hc,d8 (show ¬ (false=true/\false=false/\h.Sg=(w:Int)) from λz=>by cases z.1)];by_cases e:x.SG=(w:Int)
   ·rw [d7 e] at h1;rw [d7 ⟨rfl,rfl,e⟩];omega
   ·rw [d8 e] at h1;rw [d8 (λz=>e z.2.2)];omega
  ·obtain ⟨r0,hr0,rfl⟩:=yj.1 hr;obtain ⟨⟨a,b,d⟩,_⟩:=hI.ring r0 hr0;refine ⟨⟨a,b,?_⟩,λq hq=>by cases hq⟩;show ((0:Nat):Int)<=r0.room;omega
end
open Go.Sx
variable {c:zH} {ss:List (List zK)} {n:Nat} {h:za}
def QM(k:ze):Prop:=(k.waits=true/\k.Sl=0)\/(k.waits=false/\k.SB<k.Sw.length)
def Ql(h:za)(w:zE):Prop:=(w.RY.Si=0->w.Sk=false/\(h.closed=true\/∃r∈h.RX,r.waiting≠ []))/\(w.RY.Si=3->w.Tw.isSome=true)
def Qm(h:za)(o:zc):Prop:=o.Se≠ []\/(h.closed=true/\(∀w∈h.LT,w.Sk=true)/\o.Sk=false)
def OJ(h:za):Prop:=h.over=false/\(h.Se≠ []\/(∃x∈h.held,Fin h x)\/(h.closed=true/\((∀w∈h.LT,w.Sk=true)/\∀o∈h.Fn,o.Sk=true)/\h.held=[]))
theorem HI.sizes(hS:cX c ss)(hI:HI c ss n h):(1<=h.or.length/\h.or.length<=4)/\(1<=h.LT.length/\h.LT.length<=4)/\(1<=h.Fn.length/\h.Fn.length<=4)/\(1<=h.RX.length/\h.RX.length<=4)/\h.Fd.Sq.in_.length<=4/\h.Sn.Sd.length=h.or.length+h.LT.length+h.Fn.length+1:=by
 have h1:=hI.cl;have h2:=hI.crn hS;have h3:=hI.own4 hS;have h4:=hI.hooks4 hS;have h5:=hI.Tv.wk;have h6:=hI.TP;have h7:=hS.cl;have h8:=hS.wk;have h9:=hS.sh
 grind
theorem H5{t:Nat}{k:ze}(ht:h.or[t]? =some k):∃b,qX h (t:Int)=some b/\(b=true↔QM k):=by
 have hl:=(zes.1 ht).1;unfold qX zX;simp only [zbs];rw [d7 (by simpa using hl),zU ht];simp only [zbs];unfold QM;cases hw:k.waits with
 |true=>
  grind
 |false=>
  grind
theorem H6(hS:cX c ss)(hI:HI c ss n h){j:Nat}{w:zE}(hw:h.LT[j]? =some w):∃b,qX h ((h.or.length+j:Nat):Int)=some b/\(b=true↔Ql h w):=by
 have hl:=(zes.1 hw).1;obtain ⟨s1,s2,s3,s4,s5,s6⟩:=hI.sizes hS;have hJ:=(hI.crew w (zmg hw)).SL;unfold qX zX qE jO
 grind [qt,zU,Ql,uP]
theorem H7(hS:cX c ss)(hI:HI c ss n h){i:Nat}{o:zc}(ho:h.Fn[i]? =some o):∃b,qX h ((h.or.length+h.LT.length+i:Nat):Int)=some b/\(b=true↔Qm h o):=by
 have hl:=(zes.1 ho).1;obtain ⟨s1,s2,s3,s4,s5,s6⟩:=hI.sizes hS;have hb:=hI.Tg;have hol:=(hI.own.all i o ho).2.2.2.2.2;unfold qX zX qE;simp only [zbs];rw [d8 (by simp;omega),qt (x:=(h.or.length:Int)+h.LT.length) (by omega) (by omega),d8 (by simp;omega)];rw [pC rfl rfl rfl (by omega) (by omega) (by omega)];simp only [zbs];rw [d7 (by simp;omega),qt (by omega) (by omega)];rw [show ((h.or.length+h.LT.length+i:Nat):Int)-((h.or.length:Int)+h.LT.length)=(i:Int) by omega,zU ho];simp only [zbs];rw [rF (by omega)];simp only [zbs];unfold Qm;by_cases hn:o.Se=[]
 ·rw [d8 (by rw [hn];simp)];cases hc:h.closed with
  |false=>
   refine ⟨false,rfl,λe=>(by cases e),λe=> ?_⟩
   grind
  |true=>
   obtain ⟨b,e1,e2⟩:=tc (h:=h) s2.2 s3.2 false;rw [e1];simp only [zbs,q9];cases hb2:b with
   |false=>
    refine ⟨false,rfl,λe=>(by cases e),λe=> ?_⟩;rcases e with e|e
    ·exact absurd hn e
    ·rw [e2.2 ⟨e.2.1,λz=>by cases z⟩] at hb2;cases hb2
   |true=>
    unfold ve;refine ⟨_,rfl,λe=>.inr ⟨by trivial,(e2.1 hb2).1,by simpa using e⟩,λe=> ?_⟩;rcases e with e|e
    ·exact absurd hn e
    ·simp [e.2.2]
 ·have:0<o.Se.length:=List.length_pos_iff.2 hn;rw [d7 (by simp;omega)];exact ⟨true,rfl,λ_=>.inl hn,λ_=>rfl⟩
theorem FY(s2:h.LT.length<=4)(s3:h.Fn.length<=4):∃b,aB h=some b/\(b=true↔h.closed=true/\((∀w∈h.LT,w.Sk=true)/\∀o∈h.Fn,o.Sk=true)/\h.held=[]):=by
 unfold aB;cases hc:h.closed with
 |false=>exact ⟨false,rfl,λe=>(by cases e),λe=>(by cases e.1)⟩
 |true=>
  obtain ⟨b,e1,e2⟩:=tc (h:=h) s2 s3 true;rw [e1];simp only [zbs,q9];cases hb2:b with
  |false=>exact ⟨false,rfl,λe=>(by cases e),λe=>(by rw [e2.2 ⟨e.2.1.1,λ_=>e.2.1.2⟩] at hb2;cases hb2)⟩
  |true=>
   have:=e2.1 hb2;exact ⟨_,rfl,λe=>⟨by trivial,⟨this.1,this.2 rfl⟩,RW.1 (by simpa using e)⟩,λe=>(by simp [e.2.2])⟩
theorem H8(hS:cX c ss)(hI:HI c ss n h):∃b,qX h ((h.or.length+h.LT.length+h.Fn.length:Nat):Int)=some b/\(b=true↔OJ h):=by
 obtain ⟨s1,s2,s3,s4,s5,s6⟩:=hI.sizes hS;unfold qX zX qE;simp only [zbs];rw [d8 (by simp;omega),qt (x:=(h.or.length:Int)+h.LT.length) (by omega) (by omega),d8 (by simp;omega)];rw [pC rfl rfl rfl (by omega) (by omega) (by omega)];simp only [zbs];rw [d8 (by simp)];unfold OJ;cases hov:h.over with
 |true=>exact ⟨false,rfl,λe=>(by cases e),λe=>(by cases e.1)⟩
 |false=>
  simp only [Bool.not_false,q9];by_cases hl:h.Se=[]
  ·rw [d8 (by rw [hl];simp)]
   grind [oH,FY,hl]
  ·have:0<h.Se.length:=List.length_pos_iff.2 hl;rw [d7 (by simp;omega)];exact ⟨true,rfl,λ_=>⟨by trivial,.inl hl⟩,λ_=>rfl⟩
inductive Rdy (h:za):Nat->Prop
 |c (t:Nat) (k:ze):h.or[t]? =some k->QM k->Rdy h t
 |w (j:Nat) (w:zE):h.LT[j]? =some w->Ql h w->Rdy h (h.or.length+j)
 |o (i:Nat) (o:zc):h.Fn[i]? =some o->Qm h o->Rdy h (h.or.length+h.LT.length+i)
 |r:OJ h->Rdy h (h.or.length+h.LT.length+h.Fn.length)
theorem FZ(hS:cX c ss)(hI:HI c ss n h){t:Nat}(ht:t<h.or.length+h.LT.length+h.Fn.length+1):∃b,qX h (t:Int)=some b/\(b=true↔Rdy h t):=by
 by_cases h1:t<h.or.length
 ·have hg:=zeg h1;obtain ⟨b,e1,e2⟩:=H5 hg;refine ⟨b,e1,λe=>.c t _ hg (e2.1 e),λe=>e2.2 ?_⟩;cases e with
  |c _ k hk hr=>rw [hg] at hk;cases hk;exact hr
  |w j w hw hr=>omega
  |o i o ho hr=>omega
  |r hr=>omega
 by_cases h2:t<h.or.length+h.LT.length
 ·obtain ⟨j,rfl⟩:∃j,t=h.or.length+j:=⟨t-h.or.length,by omega⟩
  have hg:=zeg (show j<h.LT.length by omega);obtain ⟨b,e1,e2⟩:=H6 hS hI hg;refine ⟨b,e1,λe=>.w j _ hg (e2.1 e),λe=>e2.2 ?_⟩;generalize ht:h.or.length+j=t at e;cases e with
  |c _ k hk hr=>have:=(zes.1 hk).1;omega
  |w j2 w hw hr=>
   grind
  |o i o ho hr=>omega
  |r hr=>omega
 by_cases h3:t<h.or.length+h.LT.length+h.Fn.length
 ·obtain ⟨i,rfl⟩:∃i,t=h.or.length+h.LT.length+i:=⟨t-(h.or.length+h.LT.length),by omega⟩
  have hg:=zeg (show i<h.Fn.length by omega);obtain ⟨b,e1,e2⟩:=H7 hS hI hg;refine ⟨b,e1,λe=>.o i _ hg (e2.1 e),λe=>e2.2 ?_⟩;generalize ht:h.or.length+h.LT.length+i=t at e;cases e with
  |c _ k hk hr=>have:=(zes.1 hk).1;omega
  |w j2 w hw hr=>have:=(zes.1 hw).1;omega
  |o i2 o ho hr=>
   obtain rfl:i=i2:=by omega
   rw [hg] at ho;cases ho;exact hr
  |r hr=>omega
 ·obtain rfl:t=h.or.length+h.LT.length+h.Fn.length:=by omega
  obtain ⟨b,e1,e2⟩:=H8 hS hI;refine ⟨b,e1,λe=>.r (e2.1 e),λe=>e2.2 ?_⟩;generalize ht:h.or.length+h.LT.length+h.Fn.length=t at e;cases e with
  |c _ k hk hr=>have:=(zes.1 hk).1;omega
  |w j2 w hw hr=>have:=(zes.1 hw).1;omega
  |o i2 o ho hr=>have:=(zes.1 ho).1;omega
  |r hr=>exact hr
def withK(h:za)(k:zo):za:={h with Sn:=k}
theorem uR(hS:cX c ss)(hI:HI c ss n h):∃k ps,vf h=some (withK h k)/\ps.length=h.Sn.Sd.length/\(∀(t:Nat) b,ps[t]? =some b->(b=true↔Rdy h t))/\Laid h.Sn k ps ps.length:=by
 obtain ⟨s1,s2,s3,s4,s5,s6⟩:=hI.sizes hS;unfold vf;rw [pC rfl rfl rfl (by omega) (by omega) (by omega)];simp only [zbs]
 have hm:mkLen (w64 (((h.or.length+h.LT.length+h.Fn.length:Nat):Int)+1)) 1=some h.Sn.Sd.length:=by
  grind [qt,mkLen]
 rw [hm];simp only [zbs];rw [xX (by omega)];simp only [zbs]
 obtain ⟨ps,h1,h2,h3⟩:OK (jN (cQ h) (λ(s148:(List Bool))=>s148) h.Sn.Sd.length 0 (List.replicate h.Sn.Sd.length false)) (λps=>ps.length=h.Sn.Sd.length/\∀(t:Nat) b,ps[t]? =some b->(b=true↔Rdy h t)):=by
  refine i4 (λi s=>s.length=h.Sn.Sd.length/\∀(t:Nat) b,t<i->s[t]? =some b->(b=true↔Rdy h t)) ⟨by simp,λt b z=>by omega⟩ (λi s again hi hI2 ha=> ?_) (λs hs=>⟨hs.1,λt b hb=>hs.2 t b (by grind) hb⟩);obtain ⟨i1,i2⟩:=hI2;unfold cQ;obtain ⟨b,e1,e2⟩:=FZ hS hI (t:=i) (by omega);rw [e1];simp only [zbs]
  grind [zU,fL]
 rw [h1];simp only [zbs];obtain ⟨k,e1,e2⟩:=Dg (k:=h.Sn) h2;rw [e1];exact ⟨k,ps,rfl,h2,h3,e2⟩
theorem HI.withK(hI:HI c ss n h){k:zo}(hk:k.Sd.length=h.Sn.Sd.length):HI c ss n (withK h k):=
 {Tg:=hI.Tg,Sv:=hI.Sv,cl:=hI.cl,cr:=hI.cr,rg:=hI.rg,Tv:=hI.Tv,ring:=hI.ring,Ul:=hI.Ul,crew:=hI.crew,own:=hI.own,Un:=hI.Un,TH:=hI.TH,TO:=hI.TO,call:=hI.call,Sg:=hI.Sg,TP:=hk.trans hI.TP,TM:=hI.TM,TV:=hI.TV,TQ:=hI.TQ,Uj:=hI.Uj,hel:=hI.hel}
inductive Mv (h:za):Nat->za->Prop
 |back (t:Nat) (k:ze):h.or[t]? =some k->k.waits=true->k.Sl=0->Mv h t (uM h t k [] h.RX h.SK)
 |ask (t:Nat) (k:ze) (cmd:zK) (h':za):h.or[t]? =some k->k.waits=false->k.SB<k.Sw.length->k.Sw[k.SB.toNat]? =some cmd->CMv h t k cmd h'->Mv h t h'
 |work (j:Nat) (w:zE) (h':za):h.LT[j]? =some w->Ql h w->WMv h j w (h.or.length+j) h'->Mv h (h.or.length+j) h'
 |serve (i:Nat) (o:zc) (h':za):h.Fn[i]? =some o->Qm h o->SMv 2199023255552 h i o h'->Mv h (h.or.length+h.LT.length+i) h'
 |rule (h':za):OJ h->RMv h (h.or.length+h.LT.length+h.Fn.length) h'->Mv h (h.or.length+h.LT.length+h.Fn.length) h'
theorem OJ.hyp(h1:OJ h)(h2:∀x∈h.held,¬ Fin h x)(h3:h.Se=[]):h.closed=true:=by
 rcases h1.2 with z|⟨x,z1,z2⟩|z
 ·exact absurd h3 z
 ·grind
 ·exact z.1
theorem Nw(hS:cX c ss)(hI:HI c ss n h){t:Nat}(hr:Rdy h t){x:qw}(hk:h.Sn.Sd[t]? =some x)(hm:x.Si≠2):OK (vW 2199023255552 h (t:Int) true) (λr=>r.1=(t:Int)/\r.2.1=true/\Mv h t r.2.2):=by
 obtain ⟨s1,s2,s3,s4,s5,s6⟩:=hI.sizes hS;unfold vW zX qE;simp only [zbs];refine j8 rfl ?_;rw [qt (x:=(h.or.length:Int)+h.LT.length) (by omega) (by omega)];cases hr with
 |c _ k ht hrd=>
  have hl:=(zes.1 ht).1;refine m9 (by simpa using hl) ?_;rcases hrd with ⟨hw,hm0⟩|⟨hw,hat⟩
  ·rw [Dp hS hI ht hw];exact b9 ⟨rfl,rfl,.back t k ht hw hm0⟩
  ·obtain ⟨cmd,hc,hok⟩:=FV hS hI ht hw hat;exact d6 hok λr hr=>b9 ⟨rfl,rfl,.ask t k cmd _ ht hw hat hc hr⟩
 |w j w hw hrd=>
  have hl:=(zes.1 hw).1;refine j8 (by simp;omega) ?_;refine m9 (by simp;omega) ?_;exact d6 (Nq hS hI hw rfl hrd.1 hrd.2 hk hm) λr hr=>b9 ⟨rfl,rfl,.work j w _ hw hrd hr⟩
 |o i o ho hrd=>
  have hl:=(zes.1 ho).1;refine j8 (by simp;omega) ?_;refine j8 (by simp;omega) ?_;rw [pC rfl rfl rfl (by omega) (by omega) (by omega)];simp only [zbs];refine m9 (by simp;omega) ?_;exact d6 (Kv (by decide) hS hI ho rfl hk hm) λr hr=>b9 ⟨rfl,rfl,.serve i o _ ho hrd hr⟩
 |r hrd=>
  refine j8 (by simp;omega) ?_;refine j8 (by simp;omega) ?_;rw [pC rfl rfl rfl (by omega) (by omega) (by omega)];simp only [zbs];refine j8 (by simp) ?_;exact d6 (Nt hS hI rfl hrd.hyp hk hm) λr hr=>b9 ⟨rfl,rfl,.rule _ hrd hr⟩
theorem PD(hS:cX c ss)(hI:HI c ss n h)(hn:n+1<=100000000){t:Nat}{h':za}(hv:Mv h t h'):HI c ss (n+1) h':=by
 cases hv with
 |back t k ht hw hm=>exact Ku hS hI hn ht hw hm
 |ask t k cmd h' ht hw hat hc hv=>exact Nl hS hI hn ht hw hat hc hv
 |work j w h' hw hrd hv=>exact Nr hS hI hn hw rfl (λz=>(hrd.1 z).1) hv
 |serve i o h' ho hrd hv=>
  refine Nn hS hI hn ho (λz=> ?_) hv;rcases hrd with e|e
  ·exact absurd z e
  grind
 |rule h' hrd hv=>exact Nv hS hI hn hrd.1 hrd.hyp hv
end
open Go.Sx
variable {c:zH} {ss:List (List zK)} {n:Nat} {h:za}
def ub(cs:List ze):Nat:=(cs.map (λk=>k.Sm.length)).sum
theorem wO{cs:List ze}{t:Nat}{k:ze}(ht:cs[t]? =some k)(k':ze):ub (cs.set t k')+k.Sm.length=ub cs+k'.Sm.length:=by
 unfold ub;rw [ye];exact Dl (by grind) _
structure Eff (h:za) (t:Nat) (h':za):Prop where
 SE:∃es:List zd,h'.SE=h.SE++es/\∀e∈es,e.Uk=(t:Int)
 TP:∀(i:Nat)(x:qw),h.Sn.Sd[i]? =some x->∃y,h'.Sn.Sd[i]? =some y/\(x.Si=2->y.Si=2)
 UO:h'.Sn.Sd.length=h.Sn.Sd.length
 sum:ub h'.or=ub h.or\/ub h'.or=ub h.or+1
theorem xa(k:zo):∀(i:Nat)(x:qw),k.Sd[i]? =some x->∃y,k.Sd[i]? =some y/\(x.Si=2->y.Si=2):=λi x hx=>⟨x,hx,λe=>e⟩
theorem wP(k:zo)(t:Nat)(z:qw):∀(i:Nat)(x:qw),k.Sd[i]? =some x->∃y,(OI k t z).Sd[i]? =some y/\(x.Si=2->y.Si=2):=λi x hx=>by
 by_cases e:i=t
 ·subst e;exact ⟨⟨2,z.Tz⟩,mM hx,λ_=>rfl⟩
 ·exact ⟨x,vA hx e,λz=>z⟩
theorem Dw{t:Nat}{k k':ze}(ht:h.or[t]? =some k)(hk:k'.Sm=k.Sm){es:List zd}(he:∀e∈es,e.Uk=(t:Int))(rs:List zq)(g:zJ):Eff h t (uM h t k' es rs g):=by
 refine ⟨⟨es++[Mb t k'],by grind [uM],λe hm=> ?_⟩,xa _,rfl,.inr ?_⟩
 ·rcases i5.1 hm with hm|hm
  ·exact he e hm
  ·rw [i6.1 hm];rfl
 ·have h1:ub (h.or.set t (Dm k'))+k.Sm.length=ub h.or+(Dm k').Sm.length:=wO ht (Dm k')
  have h2:(Dm k').Sm.length=k.Sm.length+1:=by
   show (k'.Sm++[OH k']).length=_
   grind
  show ub (h.or.set t (Dm k'))=_;omega
theorem Dx{t:Nat}{k k':ze}(ht:h.or[t]? =some k)(hk:k'.Sm=k.Sm)(os:List zc)(l:List zB):Eff h t (Mc h t k k' os l):=by
 refine ⟨⟨[gh t k],rfl,λe hm=>by rw [i6.1 hm];rfl⟩,xa _,rfl,.inl ?_⟩;have h1:ub (h.or.set t k')+k.Sm.length=ub h.or+k'.Sm.length:=wO ht k';show ub (h.or.set t k')=_;rw [hk] at h1;omega
theorem du{t:Nat}{k k':ze}(ht:h.or[t]? =some k)(hk:k'.Sm=k.Sm):ub (h.or.set t k')=ub h.or:=by
 grind [wO]
theorem PE{t:Nat}{h':za}(hv:Mv h t h'):Eff h t h':=by
 cases hv with
 |back t k ht hw hm=>exact Dw ht (by rfl) (λe he=>by cases he) _ _
 |ask t k cmd h' ht hw hat hc hv=>
  cases hv with
  |told E hE=>exact Dw ht (by rfl) (λe he=>by rw [i6.1 he];rfl) _ _
  |fire i r r' n2 E g h1 h2 h3 h4 h5=>
   refine Dw ht (by rfl) (λe he=> ?_) _ _;rcases i5.1 he with he|he
   ·rw [i6.1 he];rfl
   ·split at he
    ·rw [i6.1 he];rfl
    ·cases he
  |items h1 h2 h3 h4 h5=>exact Dx ht (by rfl) _ _
  |walk h1 h2 h3 h4=>exact Dx ht (by rfl) _ _
  |call h1 h2 h3=>exact Dx ht (by rfl) _ _
 |work j w h' hw hrd hv=>
  cases hv with
  |ends x m0 hcl hk hm=>exact ⟨⟨_,rfl,λe he=>by rw [i6.1 he];rfl⟩,wP _ _ _,by show (h.Sn.Sd.set _ _).length=_;rw [j7],.inl rfl⟩
  |take i r r' q qs cur m0 hcl hi hwt htk c0 c1=>exact ⟨⟨_,rfl,λe he=>by rw [i6.1 he];rfl⟩,xa _,rfl,.inl rfl⟩
  |skip st v p m1 hcu hsk=>exact ⟨⟨_,rfl,λe he=>by rw [i6.1 he];rfl⟩,xa _,rfl,.inl rfl⟩
  |enter v p m b e1 e2 ck e W' m1 hcu hmo he hE=>exact ⟨⟨_,rfl,λe he=>by rw [i6.1 he];rfl⟩,xa _,rfl,.inl rfl⟩
  |note a W' m2 hst k3=>exact ⟨⟨_,rfl,λe he=>by rw [i6.1 he];rfl⟩,xa _,rfl,.inl rfl⟩
  |ask a W' m2 hst k2=>exact ⟨⟨_,rfl,λe he=>by rw [i6.1 he];rfl⟩,xa _,rfl,.inl rfl⟩
  |done a W' e1 ck m2 hst k4 hlv=>exact ⟨⟨_,rfl,λe he=>by rw [i6.1 he];rfl⟩,xa _,rfl,.inl rfl⟩
  |ran a W' m2 hst k1=>exact ⟨⟨_,rfl,λe he=>by rw [i6.1 he];rfl⟩,xa _,rfl,.inl rfl⟩
  |back r W' m3 hr hA=>exact ⟨⟨_,rfl,λe he=>by rw [i6.1 he];rfl⟩,xa _,rfl,.inl rfl⟩
 |serve i o h' ho hrd hv=>
  cases hv with
  |ends t x ht hl hk hm=>subst ht;exact ⟨⟨_,rfl,λe he=>by rw [i6.1 he];rfl⟩,wP _ _ _,by show (h.Sn.Sd.set _ _).length=_;rw [j7],.inl rfl⟩
  |crew t q o' x xs j w ht hq hf hw=>subst ht;exact ⟨⟨_,rfl,λe he=>by rw [i6.1 he];rfl⟩,xa _,rfl,.inl rfl⟩
  |walk q o' x xs u k hq hf hu hw g0 g1=>exact ⟨⟨[],rfl,λe he=>by cases he⟩,xa _,rfl,.inl (du hu rfl)⟩
  |item t q o' x xs u k ht hq hf hu hw g0 g1=>subst ht;exact ⟨⟨_,rfl,λe he=>by rw [i6.1 he];rfl⟩,xa _,rfl,.inl (du hu rfl)⟩
 |rule h' hrd hv=>
  generalize h.or.length+h.LT.length+h.Fn.length=t at hv;cases hv with
  |fin a x u k hx hf hu hk h8=>exact ⟨⟨[],rfl,λe he=>by cases he⟩,xa _,rfl,.inl (du hk rfl)⟩
  |retired a x u k hx hf hu hk h8=>exact ⟨⟨_,rfl,λe he=>by rw [i6.1 he];rfl⟩,xa _,rfl,.inl (du hk rfl)⟩
  |over u k x hnf hl hu hk hkt hm=>exact ⟨⟨_,rfl,λe he=>by rw [i6.1 he];rfl⟩,wP _ _ _,by show (h.Sn.Sd.set _ _).length=_;rw [j7],.inl (du hk rfl)⟩
  |refuse x xs u k hnf hl hc hu hk=>exact ⟨⟨[],rfl,λe he=>by cases he⟩,xa _,rfl,.inl (du hk rfl)⟩
  |cmd x xs u k r' N E es hnf hl hc hu hk hcm=>
   refine ⟨⟨es,rfl,λe he=> ?_⟩,xa _,rfl,.inl (du hk rfl)⟩;cases hcm with
   |load n2 e2 r' hk4 hld=>
    split at he
    ·rw [i6.1 he];rfl
    ·cases he
   |attach v e2 r' hk5 ha=>
    split at he
    ·rw [i6.1 he];rfl
    ·cases he
   |swap v e2 r' hk6 ha=>
    split at he
    ·rw [i6.1 he];rfl
    ·cases he
   |detach e2 tb hk7 ha=>
    split at he
    ·rw [i6.1 he];rfl
    ·cases he
   |retire v e2 r' hk8 ha he2=>cases he
  |hold x xs v r' hnf hl hc h8 ha=>exact ⟨⟨[],rfl,λe he=>by cases he⟩,xa _,rfl,.inl rfl⟩
  |drain x xs hnf hl hc h9=>exact ⟨⟨[],rfl,λe he=>by cases he⟩,xa _,rfl,.inl rfl⟩
  |close x xs hnf hl hc h10=>
   refine ⟨⟨drops t h.RX++[wN 14 t 0 0 0],w6 _ _ _,λe he=> ?_⟩,xa _,rfl,.inl rfl⟩;rcases i5.1 he with he|he
   ·unfold drops at he;obtain ⟨l,hl1,hl2⟩:=k6.1 he;obtain ⟨i,hi⟩:=v9 hl1;rw [List.getElem?_mapIdx] at hi;obtain ⟨r,hr,rfl⟩:=yf.1 hi;obtain ⟨q,hq,rfl⟩:=yj.1 hl2;rfl
   ·rw [i6.1 he];rfl
def Jz(a b:zo):Prop:=b.Sd.length=a.Sd.length/\∀(i:Nat)(x:qw),a.Sd[i]? =some x->∃y,b.Sd[i]? =some y/\(x.Si=2↔y.Si=2)
theorem Laid.stay{a b:zo}{ps:List Bool}(h:Laid a b ps ps.length)(hl:ps.length=a.Sd.length):Jz a b:=by
 refine ⟨h.2.1,λi x hx=> ?_⟩;obtain ⟨u,hu,_,hm⟩:=h.2.2 i x hx
 grind
theorem Kx.stay{a b:zo}(h:Kx a b):Jz a b:=by
 refine ⟨h.1,λi x hx=> ?_⟩;have h2:=h.2 i
 grind
theorem Jz.trans{a b d:zo}(h1:Jz a b)(h2:Jz b d):Jz a d:=by
 refine ⟨h2.1.trans h1.1,λi x hx=> ?_⟩;obtain ⟨y,hy,e1⟩:=h1.2 i x hx;obtain ⟨z,hz,e2⟩:=h2.2 i y hy
 grind
inductive Stp (h:za) (r:Int×Bool×za):Prop
 |none (k:zo):(∀t,t<h.Sn.Sd.length->(∀x,h.Sn.Sd[t]? =some x->x.Si≠2)->¬ Rdy h t)->Jz h.Sn k->k.LE=h.Sn.LE->r=(0,false,withK h k)->Stp h r
 |one (k:zo) (t:Nat) (x:qw) (h':za):Rdy h t->Jz h.Sn k->k.LE=w64 (h.Sn.LE+1)->h.Sn.Sd[t]? =some x->x.Si≠2->Mv (withK h k) t h'->r=((t:Int),true,h')->Stp h r
theorem Rdy.withK{t:Nat}(hr:Rdy h t)(k:zo):Rdy (withK h k) t:=by
 cases hr with
 |c _ q ht hrd=>exact .c t q ht hrd
 |w j w hw hrd=>exact .w (h:=KH.withK h k) j w hw hrd
 |o i o ho hrd=>exact .o (h:=KH.withK h k) i o ho hrd
 |r hrd=>exact .r (h:=KH.withK h k) hrd
theorem H9(hS:cX c ss)(hI:HI c ss n h){k:zo}{ps:List Bool}(hl:ps.length=h.Sn.Sd.length)(hps:∀(t:Nat) b,ps[t]? =some b->(b=true↔Rdy h t))(hla:Laid h.Sn k ps ps.length){o:Option (Int×Bool×zo)}(hp:Ky k o):
  OK (o.bind λr71=>(vW 2199023255552 (withK h r71.2.2) r71.1 r71.2.1).bind λr77=>some (r77.1,r77.2.1,r77.2.2)) (λr=>Stp h r/\if r.2.1 then r.1∈kin k 1 k.Sd.length else kin k 1 k.Sd.length=[]):=by
 have hst:=hla.stay hl;have hlen:=hst.1;rcases hp with ⟨h0,rfl⟩|⟨x,k',hx,rfl,hmd,hmt⟩
 ·refine b9 ⟨.none k (λt ht hm hr=> ?_) hst hla.1 rfl,h0⟩;have hg:=zeg ht;have hgp:=zeg (show t<ps.length by omega);obtain ⟨u,hu,_,hmu⟩:=hla.2.2 t _ hg;rw [d7 (by omega),d8 (hm _ hg),hgp,(hps t _ hgp).2 hr,d7 rfl] at hmu
  have:(t:Int)∈kin k 1 k.Sd.length:=by
   unfold kin;refine yj.2 ⟨t,List.mem_filter.2 ⟨by simp;omega,?_⟩,rfl⟩;rw [hu];simp [hmu]
  rw [h0] at this;cases this
 ·obtain ⟨t,y,rfl,ht,hy,hm⟩:=HU hx;have htl:t<h.Sn.Sd.length:=by omega
  have hg:=zeg htl;have hgp:=zeg (show t<ps.length by omega);obtain ⟨u,hu,_,hmu⟩:=hla.2.2 t _ hg;rw [hy] at hu;obtain rfl:=j4 hu;rw [d7 (by omega),hm] at hmu;have hne:h.Sn.Sd[t].Si≠2:=λe=>by rw [d7 e] at hmu;omega
  rw [d8 hne,hgp] at hmu
  have hrd:Rdy h t:=(hps t _ hgp).1 (by
   cases hb:ps[t] with
   |true=>rfl
   |false=>rw [hb,d8 (by simp)] at hmu;omega)
  have hst2:=hst.trans hmd.stay;obtain ⟨z,hz,e⟩:=hst2.2 t _ hg;simp only [zbs];refine d6 (Nw hS (hI.withK hst2.1) (hrd.withK k') (x:=z) hz (λw=>hne (e.2 w))) (λr hr=>b9 ⟨.one k' t _ r.2.2 hrd hst2 (by rw [hmt,hla.1]) hg hne hr.2.2 ?_,?_⟩)
  ·rw [hr.1,hr.2.1]
  ·rw [hr.2.1,hr.1];exact hx
theorem Dy(hS:cX c ss)(hI:HI c ss n h)(ch:Int):OK (dm 2199023255552 h ch) (Stp h):=by
 obtain ⟨k,ps,e1,e2,e3,e4⟩:=uR hS hI;obtain ⟨s1,s2,s3,s4,s5,s6⟩:=hI.sizes hS;unfold dm;rw [e1];simp only [zbs];have:=e4.2.1;exact (H9 hS hI e2 e3 e4 (Bp (k:=k) (by omega) ch)).mono λr hr=>hr.1
theorem Nx(hS:cX c ss)(hI:HI c ss n h):OK (dq 2199023255552 h) (Stp h):=by
 obtain ⟨k,ps,e1,e2,e3,e4⟩:=uR hS hI;obtain ⟨s1,s2,s3,s4,s5,s6⟩:=hI.sizes hS;unfold dq;rw [e1];simp only [zbs];have:=e4.2.1;exact (H9 hS hI e2 e3 e4 (Bs (k:=k) (by omega))).mono λr hr=>hr.1
end
open Go.Sx
variable {c:zH} {ss:List (List zK)} {n:Nat} {h:za}
theorem Kr.shape(hb:Kr c ss h)(hf:∀s∈ss,∀c∈s,Fit c):cX c ss:=⟨hb.hk,hb.wk,hb.sh,hb.mp,hb.cl,hb.sl,hf⟩
theorem KB(hb:Kr c ss h):HI c ss 0 h/\h.SE=[]/\ub h.or=0:=by
 obtain ⟨r,os,rs,w0,hw0,hr,r1,r2,r3,r4,r5,⟨ho1,ho2⟩,⟨hr1,hr2⟩,rfl⟩:=hb.is;have b1:=hb.hk;have b2:=hb.wk;have b3:=hb.sh;obtain ⟨w1,e1,hJ,m0,k0⟩:=WJ.new (H:=c.Sj.toNat) (K:=c.Maps.length) (by omega);rw [hw0] at e1;obtain rfl:=j4 e1
 have hcnt:∀f:Int,ic os f=0:=λf=>by
  unfold ic
  have:os.map (λo=>AC o.Se f)=List.replicate os.length 0:=by
   refine m6 λi=> ?_
   grind [AC]
  rw [this];simp
 refine ⟨?_,rfl,?_⟩
 ·exact
  {Tg:=by omega
   Sv:=rfl
   cl:=p8 _
   cr:=by grind
   rg:=hr1
   Tv:=hr
   ring:=λq hq=>⟨(hr2 q hq).1,λx hx=>by grind⟩
   Ul:=λt k s hk hs=>by
    rw [x5,hs] at hk;obtain rfl:=j4 hk;exact ⟨rfl,r6 0,Int.natCast_nonneg _,(λe=>by cases e),rfl,(λa ha=>by cases ha),by simp [Bb,Qk],rfl,by simp [Bb],(λp hp=>by cases hp),λ_=>rfl⟩
   crew:=λw hw=>by
    rw [RT (show w∈List.replicate _ _ from hw)];exact ⟨hJ,⟨r6 0,by show (0:Int)<_;omega⟩,(λr e=>by cases e),λe=>by cases e⟩
   own:=⟨ho1,λi o ho=>by
    grind⟩
   Un:=λo ho r hr=>by
    obtain ⟨i,hi⟩:=v9 (show o∈os from ho)
    grind
   TH:=λt k hk=>by
    show k.Sl=((ic os t+(0+0+(if false=true/\false=false/\(0:Int)=t then 1 else 0)):Nat):Int)
    grind [Bb]
   TO:=λt=>.inl (by
    show 0+0+(if false=true/\false=false/\(0:Int)=t then 1 else 0)=0
    grind)
   call:=λx hx=>by cases hx
   Sg:=⟨0,rfl,hb.cl.1⟩
   TP:=RU
   TM:=λo ho e=>by
    obtain ⟨i,hi⟩:=v9 (show o∈os from ho)
    grind
   TV:=λw hw e=>by
    rw [RT (show w∈List.replicate _ _ from hw)] at e;cases e
   TQ:=Nat.zero_le _
   Uj:=Nat.zero_le _
   hel:=Nat.zero_le _}
 ·show ub (ss.map Bb)=0;unfold ub;rw [List.map_map]
  have:ss.map ((λk:ze=>k.Sm.length)∘Bb)=List.replicate ss.length 0:=by
   refine m6 λi=> ?_
   rw [x5,List.getElem?_replicate];cases hg:ss[i]? with
   |none=>rw [d8 (λz=>by grind)];rfl
   |some s=>rw [d7 (zes.1 hg).1];rfl
  rw [this];simp
theorem PF(hI:HI c ss n h):ef h=some h.SE:=by
 have:=hI.logb
 grind [ef,qz,xX]
structure Rn (h:za) (r:Int×Bool×za):Prop where
 SE:∃es:List zd,r.2.2.SE=h.SE++es/\(∀e∈es,e.Uk=r.1)/\(r.2.1=false->es=[])
 UO:r.2.2.Sn.Sd.length=h.Sn.Sd.length
 Sk:∀(i:Nat)(x:qw),h.Sn.Sd[i]? =some x->x.Si=2->∃y,r.2.2.Sn.Sd[i]? =some y/\y.Si=2
 over:r.2.1=true->∃(t:Nat)(x:qw),r.1=t/\h.Sn.Sd[t]? =some x/\x.Si≠2
 sum:ub r.2.2.or=ub h.or\/ub r.2.2.or=ub h.or+1
theorem sb{r:Int×Bool×za}(hr:Stp h r):Rn h r:=by
 cases hr with
 |none k hno hst htn e=>
  subst e;refine ⟨⟨[],by show h.SE=_;rw [i9],(λe he=>by cases he),λ_=>rfl⟩,hst.1,λi x hx hm=> ?_,(λe=>by cases e),.inl rfl⟩;obtain ⟨y,hy,e⟩:=hst.2 i x hx;exact ⟨y,hy,e.1 hm⟩
 |one k t x h' hrd hst htn hx hm hv e=>
  subst e;obtain ⟨⟨es,e1,e2⟩,e3,e4,e5⟩:=PE hv;refine ⟨⟨es,e1,e2,λz=>by cases z⟩,e4.trans hst.1,λi y hy hm2=> ?_,λ_=>⟨t,x,rfl,hx,hm⟩,e5⟩;obtain ⟨y2,hy2,e6⟩:=hst.2 i y hy;obtain ⟨y3,hy3,e7⟩:=e3 i y2 hy2
  grind
end
open Go.Sx
variable {c:zH} {ss:List (List zK)} {n:Nat} {h:za}
end
open Go.Sx
variable {c:zH} {ss:List (List zK)} {n H M W:Nat} {h:za} {r:zb}
def Jd(m:zC):Prop:=∃o,jX 2199023255552 m=some (o,0,0)
structure RJ (r:zb):Prop where
 TF:∀p x,jB r.Su p=some x->Jd x.module
 hook:∀(i:Nat) u,r.Sr.Sh[i]? =some u->0<u.SA->∃x,jB r.Su u.prog=some x/\x.SR=0
theorem Jd.of{m:zC}{p:Int}(h:vp 2199023255552 m=some (p,0)):Jd m:=by
 obtain ⟨o,q,e,h1,h2⟩:=mc m
 grind [wA,Jd]
theorem Gm{maps:Int}{b:List Int}{v:zC×Int}(h:nX maps b=some v)(h0:v.2=0):Jd v.1:=by
 unfold nX at h;obtain ⟨d,_,h⟩:=z6.1 h;split at h
 ·grind
 ·obtain ⟨j,hj,h⟩:=z6.1 h;split at h
  ·grind
  ·rename_i hz
   obtain ⟨p,e⟩:=j;have:e=0:=by simpa using hz
   subst this;cases h;exact .of hj
theorem RJ.added(hR:fk H M W n r)(hJ:RJ r){m:zC}(hm:Jd m):RJ (added r m):=by
 have hf:=tr hR;have hg:∀p,jB (Go.Proofs.YtplmgfkghomelaaGreatDoor.added r m).Su p=if r.given+1=p then some ⟨m,0⟩ else jB r.Su p:=λp=>tq ..
 refine ⟨λp x hx=> ?_,λi u hu hv=> ?_⟩
 ·rw [hg] at hx;split at hx
  ·cases hx;exact hm
  ·exact hJ.TF p x hx
 ·obtain ⟨x,h1,h2⟩:=hJ.hook i u hu hv
  grind
theorem RJ.placed(hJ:RJ r){k p:Int}{q:Int×Int×zb}(hq:BQ r k p q):RJ q.2.2/\q.2.2.Sq=r.Sq:=by
 by_cases e:q.2.1=0
 ·obtain ⟨_,hx,l,hl,e2⟩:=hq.yes e;rw [e2,hl];refine ⟨⟨hJ.TF,λi u hu hv=> ?_⟩,rfl⟩;rcases fL (show (r.Sr.Sh.set _ _)[i]? =some u from hu) with ⟨_,rfl,_⟩|⟨_,hu⟩
  ·exact hx
  ·exact hJ.hook i u hu hv
 ·rw [(hq.no e).2];exact ⟨hJ,rfl⟩
theorem RJ.retired(hR:fk H M W n r)(hJ:RJ r){p:Int}{x:zT}(hx:jB r.Su p=some x)(hw:∀(i:Nat) u,r.Sr.Sh[i]? =some u->0<u.SA->u.prog≠p):RJ (retired r p x):=by
 have hg:∀q,jB (Go.Proofs.YtplmgfkghomelaaGreatDoor.retired r p x).Su q=if p=q then some ⟨x.module,r.Sq.TC+1⟩ else jB r.Su q:=by
  grind [Go.Proofs.YtplmgfkghomelaaGreatDoor.retired,BO]
 refine ⟨λq y hy=> ?_,λi u hu hv=> ?_⟩
 ·rw [hg] at hy;split at hy
  ·cases hy;exact hJ.TF p x hx
  ·exact hJ.TF q y hy
 ·obtain ⟨y,h1,h2⟩:=hJ.hook i u hu hv;exact ⟨y,by rw [hg,d8 (λe=>hw i u hu hv e.symm)];exact h1,h2⟩
theorem RJ.settled(hR:fk H M W n r)(hJ:RJ r)(most:Int):RJ (settled r (iA r most)):=by
 have hg:=nZ hR (iA r most);refine ⟨λq y hy=> ?_,λi u hu hv=> ?_⟩
 ·grind [RJ]
 ·obtain ⟨y,h1,h2⟩:=hJ.hook i u hu hv
  grind [NV]
theorem N4(hI:HI c ss n h)(hJ:RJ h.Fd){t:Int}{x:zB}(hx:x.cmd.SC.length<=140737488355328){r':zb}{N E:Int}{es:List zd}(hc:Kw t h.Fd x r' N E es):RJ r'/\r'.Sq.in_=h.Fd.Sq.in_:=by
 cases hc with
 |load n e r' _ hl=>
  obtain ⟨v,e1,e2,e3⟩:=pD hI hx;rw [e1] at hl;split at hl
  ·grind
  ·split at hl
   ·grind
   ·cases hl;exact ⟨hJ.added hI.Tv (Gm e2 (by omega)),rfl⟩
 |attach v e r' _ ha=>
  obtain ⟨q,h1,h2⟩:=tu hI.Tv x.cmd.SJ x.cmd.Tf;rw [ha] at h1;cases h1;have:=hJ.placed h2
  grind
 |swap v e r' _ ha=>
  obtain ⟨q,h1,h2⟩:=DQ hI.Tv x.cmd.SJ x.cmd.Tf;rw [ha] at h1;cases h1;have:=hJ.placed h2
  grind
 |detach e tb _ hd=>
  obtain ⟨q,h1,h2⟩:=tv hI.Tv x.cmd.SJ;rw [hd] at h1;cases h1;rcases h2 with ⟨_,h2⟩|⟨_,l,⟨_,hl⟩,h2⟩
  ·simp only at h2;subst h2;exact ⟨hJ,rfl⟩
  ·simp only at h2;subst h2;refine ⟨⟨hJ.TF,λi u hu hv=> ?_⟩,rfl⟩;rcases hl i u hu with e|hu
   ·omega
   ·exact hJ.hook i u hu hv
 |retire v e r' _ hr he=>
  obtain ⟨q,h1,h2⟩:=mr hI.Tv x.cmd.Tf
  grind
theorem N5(hI:HI c ss n h)(hJ:RJ h.Fd){p v:Int}{r':zb}(hr:qT h.Fd p=some (v,0,r')):RJ r'/\r'.Sq.in_=h.Fd.Sq.in_:=by
 obtain ⟨q,h1,h2⟩:=mr hI.Tv p;rw [hr] at h1;cases h1;rcases h2 with ⟨h2,_⟩|⟨_,_,x,hx,_,hw,h2⟩
 ·exact absurd rfl h2
 ·simp only at h2;subst h2;exact ⟨hJ.retired hI.Tv hx hw,rfl⟩
theorem RJ.cur(hR:fk H M W n r)(hJ:RJ r){k v p:Int}(h0:jo r.Sr k=some (v,p,true)):∃m,qS r p=some (m,true)/\Jd m:=by
 unfold jo jh jj at h0;simp only [zbs] at h0;obtain ⟨o,ho,h0⟩:=z6.1 h0;split at h0
 ·cases h0
 ·rename_i hn
  obtain ⟨u,hu,h0⟩:=z6.1 h0;cases h0;have hu2:r.Sr.Sh[k.toNat]? =some u:=by grind [idx]
  have:0<u.SA:=by grind
  obtain ⟨x,h1,h2⟩:=hJ.hook _ u hu2 this;exact ⟨x.module,by rw [BS hR,h1],hJ.TF _ x h1⟩
end
open Go.Sx
variable {c:zH} {ss:List (List zK)} {n a b d:Nat} {h:za}
structure HJ (a b d:Nat) (h:za):Prop where
 Tv:RJ h.Fd
 kC:∀(t:Nat) x,t<a->h.Sn.Sd[t]? =some x->x.Si≠2
 kW:∀(j:Nat) w x,h.LT[j]? =some w->h.Sn.Sd[a+j]? =some x->x.Si=2->w.Sk=true
 kO:∀(i:Nat) o x,h.Fn[i]? =some o->h.Sn.Sd[a+b+i]? =some x->x.Si=2->o.Sk=true
 kR:∀x,h.Sn.Sd[a+b+d]? =some x->x.Si=2->h.over=true
 ask:∀(j:Nat) w,h.LT[j]? =some w->w.RY.Si=3->w.Tw=none->1<=ic h.Fn ((a+j:Nat):Int)
 Tu:h.closed=true->∀r∈h.RX,r.waiting=[]
 US:∀(j:Nat) w,h.LT[j]? =some w->w.RY.Si<=1->h.Fd.Sq.in_[j]? =some 0
 UQ:∀o∈h.Fn,o.Sk=true->o.Se=[]
 fin:h.over=true->h.closed=true/\h.Se=[]/\h.held=[]
theorem IX{α:Type}(l:List α):(l.map (λ_=>0)).sum=0:=by
 induction l with
 |nil=>rfl
 |cons x l ih=>simp [ih]
end
open Go.Sx
variable {α:Type} {i:Nat} {l:List α}
variable {c:zH} {ss:List (List zK)} {n a b d:Nat} {h:za}
def gk(f:α->Nat)(l:List α):Nat:=(l.map f).sum
theorem gn(f:α->Nat){x:α}(h:l[i]? =some x)(y:α):gk f (l.set i y)+f x=gk f l+f y:=by
 unfold gk;rw [ye];exact Dl (by grind) _
theorem BV{f:α->Nat}(h:∀x∈l,f x=0):gk f l=0:=by
 unfold gk;rw [List.map_congr_left (g:=λ_=>0) h];exact IX l
def BW(S:Nat)(x:zK):Nat:=4+max 1 (min 16 x.SI.length)+S+if x.RZ=3 then 770 else 0
def uY(S:Nat)(k:ze):Nat:=if k.waits then 1+gk (BW S) (k.Sw.drop (k.SB.toNat+1)) else gk (BW S) (k.Sw.drop k.SB.toNat)
def CE(w:zE):Nat:=(if w.Sk then 0 else 1)+if w.RY.Si=1 then 769 else if w.RY.Si=2 then 3*(mZ w.RY).toNat else if w.RY.Si=3 then 3*(mZ w.RY).toNat-2 else 0
def uc(o:zc):Nat:=(if o.Sk then 0 else 1)+o.Se.length
def phi(h:za):Nat:=gk (uY h.Fn.length) h.or+gk CE h.LT+gk uc h.Fn+gk (λr:zq=>770*r.waiting.length) h.RX+2*h.Se.length+h.held.length+if h.over then 0 else 1
theorem QT{H K:Nat}{w:zm}(h:WJ H K w)(hm:w.Si=2\/w.Si=3):1<=mZ w:=by
 have go:∀{st:Int},PK K w st->1<=mZ w:=λ⟨m,j,M,p,i,hM,hS,_,hR,_⟩=>by
  rw [ky hM hR];exact NH hS.TF hR.fit hR.lt
 rcases h.is with e|e|e|e
 ·omega
 ·omega
 ·exact go e.2
 ·exact go e.2
theorem K9{S:Nat}{l:List zK}{x:zK}(h:l[i]? =some x):gk (BW S) (l.drop i)=BW S x+gk (BW S) (l.drop (i+1)):=by
 obtain ⟨hl,rfl⟩:=zes.1 h;unfold gk;rw [RK hl,yo,List.sum_cons]
theorem Fl{os:List zc}(x:Nat×zt):gk uc (rl os x)<=gk uc os+1:=by
 grind [rl,gn,uc,OG]
theorem Af:∀(l:List (Nat×zt))(os:List zc),gk uc (puts os l)<=gk uc os+l.length
 |[],os=>l6 _
 |x::l,os=>by
  have h1:=Af l (rl os x)
  grind [Fl,gk,uc,puts,rl]
theorem D1{t:Nat}{k k':ze}(ht:h.or[t]? =some k){x:Nat}(hx:uY h.Fn.length (Dm k')+x+1<=uY h.Fn.length k){es:List zd}{rs:List zq}(hr:gk (λr:zq=>770*r.waiting.length) rs<=gk (λr:zq=>770*r.waiting.length) h.RX+x)(g:zJ):phi (uM h t k' es rs g)+1<=phi h:=by
 grind [gn,uY,Dm,phi,uM]
theorem D2{t:Nat}{k k':ze}(ht:h.or[t]? =some k){os:List zc}{l:List zB}(hlen:os.length=h.Fn.length)(hx:uY h.Fn.length k'+gk uc os+2*l.length+1<=uY h.Fn.length k+gk uc h.Fn+2*h.Se.length):phi (Mc h t k k' os l)+1<=phi h:=by
 grind [gn,uY,phi,Mc]
theorem lf{j:Nat}{w w':zE}(hw:h.LT[j]? =some w){rg:zb}{k:zo}{os:List zc}{rs:List zq}(hlen:os.length=h.Fn.length)(hx:CE w'+gk uc os+gk (λr:zq=>770*r.waiting.length) rs+1<=CE w+gk uc h.Fn+gk (λr:zq=>770*r.waiting.length) h.RX)(e:zd):phi (Du h rg k (h.LT.set j w') os rs e)+1<=phi h:=by
 grind [gn,CE,phi,Du]
theorem Ag(f:α->Nat){x y:α}(h:l[i]? =some x)(e:f y=f x):gk f (l.set i y)=gk f l:=by
 grind [gn]
theorem PZ(hS:cX c ss)(hI:HI c ss n h)(hJ:RJ h.Fd){t:Nat}{h':za}(hv:Mv h t h'):phi h'+1<=phi h:=by
 cases hv with
 |back t k ht hw hm=>
  obtain ⟨s,hs,hk⟩:=hI.at ht;have h1:=hk.Up;have h2:=hk.UH hw;have h3:=hS.sl s (zmg hs);refine D1 ht (x:=0) ?_ (l6 _) _
  grind [uY,Dm,qt]
 |ask t k cmd h' ht hw hat hc hv=>
  obtain ⟨s,hs,hk⟩:=hI.at ht;have h1:=hk.Up;have h2:=hk.Uy;have h3:=hS.sl s (zmg hs)
  have hkw:uY h.Fn.length k=BW h.Fn.length cmd+gk (BW h.Fn.length) (k.Sw.drop (k.SB.toNat+1)):=by
   grind [uY,K9]
  have hfin:∀A,uY h.Fn.length (Dm (withA k A))=gk (BW h.Fn.length) (k.Sw.drop (k.SB.toNat+1)):=λA=>by
   grind [uY,Dm,withA,qt]
  have hwait:∀m r p,uY h.Fn.length (Bg k m r p)=1+gk (BW h.Fn.length) (k.Sw.drop (k.SB.toNat+1)):=λm r p=>by
   grind [uY,Bg]
  cases hv with
  |told E _=>
   refine D1 ht (x:=0) ?_ (l6 _) _
   grind [BW]
  |fire i r r' n E g hcl hk3 _ hi hA=>
   have hri:=hI.ring r (zmg hi);obtain ⟨n2,e2,r2,g2,a1,a2,a3,a4⟩:=iL hri.1 cmd.Sz h.SK;rw [hA] at a1;cases a1;refine D1 ht (x:=770) ?_ ?_ _
   ·grind [BW]
   grind [gn,zq]
  |items hcl hkd h1 h16 hg=>
   refine D2 ht (rX _ _) ?_
   grind [Af,vx,aW,fE,BW]
  |walk hcl hkd _ _=>
   refine D2 ht (rX _ _) ?_
   grind [Af,aw,iw,BW]
  |call hcl _ _=>
   refine D2 ht rfl ?_
   grind [BW]
 |work j w h' hw hrd hv=>
  have hC:=hI.crew w (zmg hw);have hJw:=hC.SL;obtain ⟨hr1,hr2,hr4⟩:=hI.hooks4 hS
  have stp:∀{a:qZ} {W':zm},w.RY.Si=2->ja 2199023255552 w.RY=some (a,true,W')->F6 c.Sj.toNat c.Maps.length w.RY a W'/\WJ c.Sj.toNat c.Maps.length W':=λm2 hst=>by
   grind [Nz]
  have hp:=λz=>QT hJw (.inl z)
  have hp3:=λz=>QT hJw (.inr z)
  cases hv with
  |ends x m0 hcl hk hm=>
   refine lf hw rfl ?_ _;have:=(hrd.1 m0).1
   grind [CE]
  |take i r r' q qs cur m0 hcl hi hwt htk c0 c1=>
   refine lf hw rfl ?_ _;have hri:=hI.ring r (zmg hi);obtain ⟨r2,t1,t2,t3,t4⟩:=me hri.1 h.SK hwt
   grind [gn,zq,CE]
  |skip st v p m1 hcu hsk=>
   refine lf hw rfl ?_ _;unfold CE inW;simp [m1];omega
  |enter v p m b e1 e2 ck e W' m1 hcu hmo he hE=>
   obtain ⟨m2,hm2,o,hjd⟩:=hJ.cur hI.Tv hcu;obtain ⟨m3,b3,hm3,h1,h2,h3⟩:=hI.module p;rw [hmo] at hm2 hm3;cases hm2;cases hm3;obtain ⟨e3,W2,hE2,_,hW⟩:=Ih hJw m1 h1 h2 h3 v p;rw [hE] at hE2;cases hE2;refine lf hw rfl ?_ _;rcases hW with ⟨z,_,o2,q2,z2⟩|⟨_,z,z2⟩
   ·grind
   ·have hcost:uu m.Code m.Code.length<=256:=by
     obtain ⟨o3,p3,e3,hj3,hc3⟩:=mc m;rw [hjd] at hj3;cases hj3;rcases hc3 with ⟨z,_⟩|⟨_,_,j,_,hSd⟩
     ·exact absurd rfl z
     ·exact hSd.TF.UJ
    grind [CE,inW,mZ]
  |note x W' m2 hst k3=>
   refine lf hw rfl ?_ _;have hp:=hp m2;rcases (stp m2 hst).1 with ⟨z,_⟩|⟨z,_⟩|⟨_,m,_,_,_,_,hl⟩
   ·omega
   ·omega
   grind [CE,inW]
  |ran x W' m2 hst k1=>
   refine lf hw rfl ?_ _;have hp:=hp m2;rcases (stp m2 hst).1 with ⟨z,_⟩|⟨z,_⟩|⟨_,m,_,_,_,_,hl⟩
   ·omega
   ·omega
   grind [CE,inW]
  |done x W' e1 ck m2 hst k4 hlv=>
   refine lf hw rfl ?_ _;have hp:=hp m2;rcases (stp m2 hst).1 with ⟨_,m,_⟩|⟨z,_⟩|⟨z,_⟩
   ·grind [CE,inW]
   ·omega
   ·omega
  |ask x W' m2 hst k2=>
   refine lf hw (rW _ _) ?_ _;have hp:=hp m2;have:=Fl (os:=h.Fn) (kx x.Item.Tc h.Fn.length,⟨((h.or.length+j:Nat):Int),0,false,x.Item⟩);generalize gk uc (rl h.Fn _)=z at this |-;rcases (stp m2 hst).1 with ⟨z,_⟩|⟨_,m,_,_,_,_,_,hl⟩|⟨z,_⟩
   ·omega
   ·grind [QT,CE]
   ·omega
  |back r W' m3 hr hA=>
   refine lf hw rfl ?_ _;obtain ⟨W2,hW2,hJ2,hm,_,_,_,_,hl⟩:=pF hJw m3 (hC.rep r hr)
   grind [CE]
 |serve i o h' ho hrd hv=>
  have hown:∀{q:bM} {o':zc} {x:zt} {xs:List zt},uO 2199023255552 o q o' x xs->gk uc (h.Fn.set i o')+1=gk uc h.Fn:=λ{q o' x xs}hq=>by
   have:=gn uc ho o'
   have:uc o=uc o'+1:=by
    unfold uc;rw [hq.Se,hq.Uo,hq.sh.2.2.1];simp;omega
   omega
  have hcli:∀{u:Nat} {k:ze},h.or[u]? =some k->∀r p,gk (uY h.Fn.length) (h.or.set u (QL k r p))=gk (uY h.Fn.length) h.or:=λhk r p=>Ag _ hk rfl
  cases hv with
  |ends t x ht hl hk hm=>
   have:=gn uc ho {o with Sk:=true}
   have he:o.Sk=false:=by
    rcases hrd with z|z
    ·exact absurd hl z
    ·exact z.2.2
   grind [uc,phi]
  |crew t q o' x xs j w ht hq hf hw=>
   have:=hown hq;have:=Ag CE (y:=Ra w q.SQ) hw rfl
   grind [phi,Jy]
  |walk q o' x xs u k hq hf hk _ _ _=>
   grind [phi,Jy]
  |item t q o' x xs u k ht hq hf hk _ _ _=>
   grind [phi,Jy]
 |rule h' hrd hv=>
  have hov:=hrd.1;have hcli:∀{u:Nat} {k:ze},h.or[u]? =some k->∀N E,gk (uY h.Fn.length) (h.or.set u (Bm k N E))=gk (uY h.Fn.length) h.or:=λhk N E=>Ag _ hk rfl
  have hera:∀{i:Nat} {x:zB},h.held[i]? =some x->(h.held.eraseIdx i).length+1=h.held.length:=λ{i x}hx=>by
   grind
  cases hv with
  |fin i x u k hx _ _ hk _=>
   grind [phi,uv]
  |retired i x u k hx _ _ hk _=>
   grind [phi,uv]
  |over u k x hnf hl hc hk _ _=>
   grind [phi]
  |refuse x xs u k _ hl _ _ hk=>
   grind [phi,uv,hl]
  |cmd x xs u k r' N E es _ hl _ _ hk hc=>
   grind [phi,uv,hl]
  |hold x xs v r' _ hl _ _ hr=>
   grind [phi,uv,hl]
  |drain x xs _ hl _ _=>
   grind [phi,uv,hl]
  |close x xs _ hl _ _=>
   grind [gk,zq,rE,BV,phi,hl]
end
open Go.Sx
variable {c:zH} {ss:List (List zK)} {n a b d:Nat} {h:za}
theorem La{t:Nat}{h':za}(hv:Mv h t h'):h'.Sn.LE=h.Sn.LE:=by
 cases hv with
 |back=>rfl
 |ask _ _ _ _ _ _ _ _ hv=>cases hv<;>rfl
 |work _ _ _ _ _ hv=>cases hv<;>rfl
 |serve _ _ _ _ _ hv=>cases hv<;>rfl
 |rule _ _ hv=>cases hv<;>rfl
structure HR (c:zH) (ss:List (List zK)) (P n:Nat) (h:za):Prop where
 inv:HI c ss n h
 more:HJ h.or.length h.LT.length h.Fn.length h
 left:n+phi h<=P
 turn:h.Sn.LE=n
 UK:P<100000000
end Go.Proofs.YtplmgfkghomelaaGreatDoor.KH
