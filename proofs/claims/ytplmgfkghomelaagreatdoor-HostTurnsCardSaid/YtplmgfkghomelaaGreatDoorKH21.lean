/- Lemmas. -/
import Derived.Test.YtplmgfkghomelaaGreatDoorKH17
set_option linter.unusedVariables false
set_option linter.unusedSimpArgs false
namespace Go.Proofs.YtplmgfkghomelaaGreatDoor.KH
section
section
section
section
section
open Go.Sx
variable {c:zN} {ss:List (List zF)} {n:Nat} {h:za}
def Nw(h:za)(rg:zb)(k:zo)(cs:List ze)(rs:List zt)(l hd:List zB)(clo:Int)(cld ov:Bool)(es:List zd):za:=
 ⟨rg,k,h.Sk,cs,h.LT,h.Fd,rs,l,hd,clo,cld,ov,h.Sw++es,h.SH⟩
theorem ml(hI:HI c ss n h)(hn:n+1<=100000000){rg:zb}{k:zo}{cs:List ze}{rs:List zt}{l hd:List zB}{clo:Int}{cld ov:Bool}{es:List zd}
  (hrg:fD c.Sh.toNat c.Maps.length c.RR.toNat (n+1) rg) (hk:k.RT.length=h.Sf.RT.length)
  (hcs:(cs=h.or/\∀t:Nat,lh (Nw h rg k cs rs l hd clo cld ov es) t=lh h t)\/∃(u:Nat)(k0:ze)(N E:Int),h.or[u]? =some k0/\cs=h.or.set u (CL k0 N E)/\∀t:Nat,lh (Nw h rg k cs rs l hd clo cld ov es) t+(if t=u then 1 else 0)=lh h t)
  (hrs:wR c rs) (hcall:∀x∈l++hd,(∃t:Nat,x.SA=t/\t<ss.length)/\x.cmd.Sn.length<=140737488355328/\4<=x.cmd.RS/\x.cmd.RS<=10) (hclo:∃t:Nat,clo=t/\t<ss.length) (hcld:h.closed=true->cld=true) (hes:es.length<=100) (hl:l.length<=n+1) (hhd:hd.length<=n+1):
  HI c ss (n+1) (Nw h rg k cs rs l hd clo cld ov es):=by
 have hlen:cs.length=h.or.length:=by
  rcases hcs with ⟨e,_⟩|⟨u,k0,N,E,_,e,_⟩
  ·rw [e]
  ·rw [e,j5]
 have hcl:∀(t:Nat) k',cs[t]? =some k'->k'.Sd=((eW h.Fd t+lh (Nw h rg k cs rs l hd clo cld ov es) t:Nat):Int)/\∀s,ss[t]? =some s->pH s k':=λt k' hk'=>by
  rcases hcs with ⟨rfl,e⟩|⟨u,k0,N,E,hu,rfl,e⟩
  ·exact ⟨by rw [e t];exact hI.Tz t k' hk',λs hs=>hI.Ue t k' s hk' hs⟩
  ·have h1:=e t;rcases aq hk' with ⟨rfl,rfl,_⟩|⟨hne,hk'⟩
   ·rw [d7 rfl] at h1;have h2:=hI.TE t;refine ⟨?_,λs hs=> ?_⟩
    ·show (0:Int)=_;omega
    ·have hc:=hI.Ue t k0 s hu hs;exact {hc with Ua:=λ_=>rfl}
   ·rw [d8 hne] at h1;exact ⟨by rw [hI.Tz t k' hk'];rw [<- h1];rfl,λs hs=>hI.Ue t k' s hk' hs⟩
 have hback:∀(t:Nat) k,h.or[t]? =some k->∃k',cs[t]? =some k'/\k'.parts.length=k.parts.length/\k'.Id.SD.length=k.Id.SD.length:=λt k1 hk1=>by
  rcases hcs with ⟨rfl,e⟩|⟨u,k0,N,E,hu,rfl,e⟩
  ·exact ⟨k1,hk1,rfl,rfl⟩
  ·by_cases e:t=u
   ·subst e;rw [hu] at hk1;obtain rfl:=j6 hk1;exact ⟨_,oP hu,rfl,rfl⟩
   ·exact ⟨k1,vD hk1 e,rfl,rfl⟩
 exact
 {Ta:=hn
  Sk:=hI.Sk
  cl:=hlen.trans hI.cl
  cr:=hI.cr
  rg:=hrs.1
  SY:=hrg
  Tj:=hrs.2
  Ue:=λt k' s hk' hs=>(hcl t k' hk').2 s hs
  crew:=hI.crew
  own:=hI.own.mono (by omega)
  Uh:=λo ho r hr=>(hI.Uh o ho r hr).same hlen hback
  Tz:=λt k' hk'=>(hcl t k' hk').1
  TE:=λt=>by
   have h1:=hI.TE t;show lh (Nw h rg k cs rs l hd clo cld ov es) t=0\/lh (Nw h rg k cs rs l hd clo cld ov es) t=1/\eW h.Fd t=0;rcases hcs with ⟨_,e⟩|⟨u,k0,N,E,_,_,e⟩
   ·rw [e t];exact h1
   ·have h2:=e t;split at h2<;>omega
  call:=hcall
  Sa:=hclo
  TF:=by show k.RT.length=_;rw [hk];exact hI.TF
  TA:=λo ho e=>⟨hcld (hI.TA o ho e).1,(hI.TA o ho e).2⟩
  TK:=λw hw e=>hcld (hI.TK w hw e)
  TL:=by
   show (h.Sw++es).length<=_;have:=hI.TL;rw [l6];omega
  Uc:=hl
  hel:=hhd}
theorem uW{l:List zB}{a:Nat}{x:zB}(h:l[a]? =some x)(f:Int):gu (l.eraseIdx a) f+(if x.SA=f then 1 else 0)=gu l f:=by
 have hal:=(zes.1 h).1
 have h1:l=l.take a++x::l.drop (a+1):=by
  have h2:=yf a l;rw [RE hal] at h2;have h3:l[a]=x:=(zes.1 h).2;rw [h3] at h2;exact h2.symm
 rw [List.eraseIdx_eq_take_drop_succ]
 conv=>rhs;rw [h1]
 rw [mR,mR,sZ];omega
theorem Nx(hS:bS c ss)(hI:HI c ss n h)(hn:n+1<=100000000){t:Nat}(ho:h.over=false)(hr:(∀x∈h.held,¬ Fin h x)->h.RW=[]->h.closed=true){h':za}(hv:RMv h t h'):HI c ss (n+1) h':=by
 have hregm:=hI.SY.mono (show n<=n+1 by omega) (by omega);have hln:=hI.Uc;have hhl:=hI.hel;have hrs:wR c h.RN:=⟨hI.rg,hI.Tj⟩
 have popc:∀{x xs},h.RW=x::xs->∀f:Int,gu xs f+(if x.SA=f then 1 else 0)=gu h.RW f:=λe f=>by rw [e,sZ]
 have calls:∀{x xs},h.RW=x::xs->∀y∈xs++h.held,(∃t:Nat,y.SA=t/\t<ss.length)/\y.cmd.Sn.length<=140737488355328/\4<=y.cmd.RS/\y.cmd.RS<=10:=λe y hy=>hI.call y (by
  rcases g9.1 hy with hy|hy
  ·exact zal _ (by rw [e];exact zcm _ hy)
  ·exact zar _ hy)
 have callx:∀{x xs},h.RW=x::xs->(∃t:Nat,x.SA=t/\t<ss.length)/\x.cmd.Sn.length<=140737488355328/\4<=x.cmd.RS/\x.cmd.RS<=10:=λe=>hI.call _ (zal _ (by rw [e];exact zcs))
 have lens:∀{x xs},h.RW=x::xs->xs.length<=n+1:=λe=>by rw [e,t7] at hln;omega
 cases hv with
 |fin a x u k hx hf hu hk h8=>
  refine ml hI hn (rg:=h.Fn) (k:=h.Sf) (cs:=h.or.set u (CL k 0 0)) (rs:=h.RN) (l:=h.RW) (hd:=h.held.eraseIdx a) (clo:=h.Sa) (cld:=h.closed) (ov:=h.over) (es:=[]) hregm rfl (.inr ⟨u,k,0,0,hk,rfl,λv=> ?_⟩) hrs (λy hy=>hI.call y ?_) hI.Sa (λe=>e) (by simp) (by omega) (p8 (List.length_eraseIdx_le _ _) (by omega))
  ·have h1:=uW hx (v:Int);unfold lh;show gu h.RW v+gu (h.held.eraseIdx a) v+_+_=_;rw [hu] at h1;by_cases e:v=u
   ·subst e;rw [d7 rfl] at h1 |-;show _+(if h.closed=true/\h.over=false/\h.Sa=(v:Int) then 1 else 0)+1=_;omega
   ·rw [d8 (by omega)] at h1;rw [d8 e];show _+(if h.closed=true/\h.over=false/\h.Sa=(v:Int) then 1 else 0)+0=_;omega
  ·rcases g9.1 hy with hy|hy
   ·exact zal _ hy
   ·exact zar _ (List.mem_of_mem_eraseIdx hy)
 |retired a x u k hx hf hu hk h8=>
  refine ml hI hn (rg:=settled h.Fn (iF h.Fn 1)) (k:=h.Sf) (cs:=h.or.set u (CL k 0 0)) (rs:=h.RN) (l:=h.RW) (hd:=h.held.eraseIdx a) (clo:=h.Sa) (cld:=h.closed) (ov:=h.over) (es:=[CM 13 t 0 x.cmd.SV 0]) (D5 hI.SY (by omega) 1) rfl (.inr ⟨u,k,0,0,hk,rfl,λv=> ?_⟩) hrs (λy hy=>hI.call y ?_) hI.Sa (λe=>e) (by simp) (by omega) (p8 (List.length_eraseIdx_le _ _) (by omega))
  ·have h1:=uW hx (v:Int);unfold lh;show gu h.RW v+gu (h.held.eraseIdx a) v+_+_=_;rw [hu] at h1;by_cases e:v=u
   ·subst e;rw [d7 rfl] at h1 |-;show _+(if h.closed=true/\h.over=false/\h.Sa=(v:Int) then 1 else 0)+1=_;omega
   ·rw [d8 (by omega)] at h1;rw [d8 e];show _+(if h.closed=true/\h.over=false/\h.Sa=(v:Int) then 1 else 0)+0=_;omega
  ·rcases g9.1 hy with hy|hy
   ·exact zal _ hy
   ·exact zar _ (List.mem_of_mem_eraseIdx hy)
 |over u k x hnf hl hu hk hkt hm=>
  have hc:=hr hnf hl;refine ml hI hn (rg:=h.Fn) (k:=Nn h.Sf t x) (cs:=h.or.set u (CL k 0 0)) (rs:=h.RN) (l:=h.RW) (hd:=h.held) (clo:=h.Sa) (cld:=h.closed) (ov:=true) (es:=[Py t]) hregm (by show (h.Sf.RT.set t _).length=_;rw [j5]) (.inr ⟨u,k,0,0,hk,rfl,λv=> ?_⟩) hrs hI.call hI.Sa (λe=>e) (by simp) (by omega) (by omega);unfold lh;show gu h.RW v+gu h.held v+(if h.closed=true/\true=false/\h.Sa=(v:Int) then 1 else 0)+_=_;rw [d8 (λz=>by cases z.2.1),hc,ho,hu];by_cases e:v=u
  ·subst e;rw [d7 rfl,d7 ⟨rfl,rfl,rfl⟩]
  ·rw [d8 e,d8 (λz=>e (by have:=z.2.2;omega))]
 |refuse x xs u k hnf hl hc hu hk=>
  refine ml hI hn (rg:=h.Fn) (k:=h.Sf) (cs:=h.or.set u (CL k 0 43)) (rs:=h.RN) (l:=xs) (hd:=h.held) (clo:=h.Sa) (cld:=h.closed) (ov:=h.over) (es:=[]) hregm rfl (.inr ⟨u,k,0,43,hk,rfl,λv=> ?_⟩) hrs (calls hl) hI.Sa (λe=>e) (by simp) (lens hl) (by omega);have h1:=popc hl (v:Int);rw [hu] at h1;unfold lh;show gu xs v+gu h.held v+(if h.closed=true/\h.over=false/\h.Sa=(v:Int) then 1 else 0)+_=_;by_cases e:v=u
  ·subst e;rw [d7 rfl] at h1 |-;omega
  ·rw [d8 (by omega)] at h1;rw [d8 e];omega
 |cmd x xs u k r' N E es hnf hl hc hu hk hcm=>
  have hrg:fD c.Sh.toNat c.Maps.length c.RR.toNat (n+1) r'/\es.length<=1:=by
   cases hcm with
   |load n2 e r' hk4 hld=>
    refine ⟨?_,by split<;>simp⟩;obtain ⟨v,v1,v2,v3⟩:=pJ hI (callx hl).2.1;rw [hld] at v1;have v1:=j6 v1;split at v1
    ·cases v1;exact hregm
    ·rename_i h0
     split at v1
     ·cases v1;exact hregm
     ·rename_i h16
      cases v1
      have h3:=v3 (Classical.not_not.1 h0);exact IF hI.SY (by omega) h16 ⟨h3.1,by rw [<- hI.SY.maps];exact h3.2.1,h3.2.2⟩
   |attach v e r' hk5 ha=>
    refine ⟨?_,by split<;>simp⟩;obtain ⟨q,q1,q2⟩:=tB hI.SY x.cmd.SG x.cmd.SV;rw [ha] at q1;cases q1;exact q2.inv hI.SY (by omega)
   |swap v e r' hk6 ha=>
    refine ⟨?_,by split<;>simp⟩;obtain ⟨q,q1,q2⟩:=D2 hI.SY x.cmd.SG x.cmd.SV;rw [ha] at q1;cases q1;exact q2.inv hI.SY (by omega)
   |detach e tb hk7 ha=>
    refine ⟨?_,by split<;>simp⟩;obtain ⟨q,q1,q2⟩:=tD hI.SY x.cmd.SG;rw [ha] at q1;cases q1;exact Gq hI.SY (by omega) q2
   |retire v e r' hk8 ha he=>
    refine ⟨?_,by simp⟩;obtain ⟨q,q1,q2⟩:=mz hI.SY x.cmd.SV;rw [ha] at q1;cases q1;rcases q2 with ⟨_,_,e5⟩|⟨e5,_⟩
    ·rw [show r'=h.Fn from e5];exact hregm
    ·exact absurd e5 he
  refine ml hI hn (rg:=r') (k:=h.Sf) (cs:=h.or.set u (CL k N E)) (rs:=h.RN) (l:=xs) (hd:=h.held) (clo:=h.Sa) (cld:=h.closed) (ov:=h.over) (es:=es) hrg.1 rfl (.inr ⟨u,k,N,E,hk,rfl,λv=> ?_⟩) hrs (calls hl) hI.Sa (λe=>e) (by have:=hrg.2;omega) (lens hl) (by omega);have h1:=popc hl (v:Int);rw [hu] at h1;unfold lh;show gu xs v+gu h.held v+(if h.closed=true/\h.over=false/\h.Sa=(v:Int) then 1 else 0)+_=_;by_cases e:v=u
  ·subst e;rw [d7 rfl] at h1 |-;omega
  ·rw [d8 (by omega)] at h1;rw [d8 e];omega
 |hold x xs v r' hnf hl hc h8 ha=>
  have hrg:fD c.Sh.toNat c.Maps.length c.RR.toNat (n+1) r':=by
   obtain ⟨q,q1,q2⟩:=mz hI.SY x.cmd.SV;rw [ha] at q1;cases q1;rcases q2 with ⟨e5,_⟩|⟨_,_,y,y1,y2,_,y3⟩
   ·exact absurd rfl e5
   ·rw [show r'=_ from y3];exact D3 hI.SY (by omega) y1 y2
  refine ml hI hn (rg:=r') (k:=h.Sf) (cs:=h.or) (rs:=h.RN) (l:=xs) (hd:=h.held++[{x with TB:=v}]) (clo:=h.Sa) (cld:=h.closed) (ov:=h.over) (es:=[]) hrg rfl (.inl ⟨rfl,λw=> ?_⟩) hrs (λy hy=> ?_) hI.Sa (λe=>e) (by simp) (lens hl) (by rw [l6];simp only [t7,ye];omega)
  ·have h1:=popc hl (w:Int);unfold lh;show gu xs w+gu (h.held++[{x with TB:=v}]) w+(if h.closed=true/\h.over=false/\h.Sa=(w:Int) then 1 else 0)=_;rw [mR,rZ];show gu xs w+(gu h.held w+(if x.SA=(w:Int) then 1 else 0))+_=_;omega
  ·rcases g9.1 hy with hy|hy
   ·exact calls hl y (zal _ hy)
   ·rcases g9.1 hy with hy|hy
    ·exact hI.call y (zar _ hy)
    ·rw [i6.1 hy];exact callx (x:=x) hl
 |drain x xs hnf hl hc h9=>
  refine ml hI hn (rg:=h.Fn) (k:=h.Sf) (cs:=h.or) (rs:=h.RN) (l:=xs) (hd:=h.held++[x]) (clo:=h.Sa) (cld:=h.closed) (ov:=h.over) (es:=[]) hregm rfl (.inl ⟨rfl,λw=> ?_⟩) hrs (λy hy=> ?_) hI.Sa (λe=>e) (by simp) (lens hl) (by rw [l6];simp only [t7,ye];omega)
  ·have h1:=popc hl (w:Int);unfold lh;show gu xs w+gu (h.held++[x]) w+(if h.closed=true/\h.over=false/\h.Sa=(w:Int) then 1 else 0)=_;rw [mR,rZ];omega
  ·rcases g9.1 hy with hy|hy
   ·exact calls hl y (zal _ hy)
   ·rcases g9.1 hy with hy|hy
    ·exact hI.call y (zar _ hy)
    ·rw [i6.1 hy];exact callx hl
 |close x xs hnf hl hc h10=>
  have hd:=Bu (t:=(t:Int)) (λr hr=>(hI.Tj r hr).1);have hr4:=(hI.hooks4 hS)
  have:=ml hI hn (rg:=h.Fn) (k:=h.Sf) (cs:=h.or) (rs:=h.RN.map tj) (l:=xs) (hd:=h.held) (clo:=x.SA) (cld:=true) (ov:=h.over) (es:=uD t h.RN++[CM 14 t 0 0 0]) hregm rfl (.inl ⟨rfl,λw=> ?_⟩) ⟨by rw [q7];exact hI.rg,λr hr=> ?_⟩ (calls hl) (callx hl).1 (λ_=>rfl) (by rw [l6];simp only [t7,ye];omega) (lens hl) (by omega)
  ·unfold Nw at this;rw [<- o4] at this;exact this
  ·have h1:=popc hl (w:Int);unfold lh;show gu xs w+gu h.held w+(if true=true/\h.over=false/\x.SA=(w:Int) then 1 else 0)=_;rw [ho,hc,d8 (show ¬ (false=true/\false=false/\h.Sa=(w:Int)) from λz=>by cases z.1)];by_cases e:x.SA=(w:Int)
   ·rw [d7 e] at h1;rw [d7 ⟨rfl,rfl,e⟩];omega
   ·rw [d8 e] at h1;rw [d8 (λz=>e z.2.2)];omega
  ·obtain ⟨r0,hr0,rfl⟩:=yn.1 hr;obtain ⟨⟨a,b,d⟩,_⟩:=hI.Tj r0 hr0;refine ⟨⟨a,b,?_⟩,λq hq=>by cases hq⟩;show ((0:Nat):Int)<=r0.room;omega
end
open Go.Sx
variable {c:zN} {ss:List (List zF)} {n:Nat} {h:za}
def PB(k:ze):Prop:=(k.waits=true/\k.Sd=0)\/(k.waits=false/\k.Su<k.Sv.length)
def PC(h:za)(w:zH):Prop:=(w.RP.RX=0->w.RY=false/\(h.closed=true\/∃r∈h.RN,r.waiting≠ []))/\(w.RP.RX=3->w.SZ.isSome=true)
def OE(h:za)(o:zc):Prop:=o.RW≠ []\/(h.closed=true/\(∀w∈h.LT,w.RY=true)/\o.RY=false)
def Mg(h:za):Prop:=h.over=false/\(h.RW≠ []\/(∃x∈h.held,Fin h x)\/(h.closed=true/\((∀w∈h.LT,w.RY=true)/\∀o∈h.Fd,o.RY=true)/\h.held=[]))
theorem HI.sizes(hS:bS c ss)(hI:HI c ss n h):(1<=h.or.length/\h.or.length<=4)/\(1<=h.LT.length/\h.LT.length<=4)/\(1<=h.Fd.length/\h.Fd.length<=4)/\(1<=h.RN.length/\h.RN.length<=4)/\h.Fn.Sg.in_.length<=4/\h.Sf.RT.length=h.or.length+h.LT.length+h.Fd.length+1:=by
 have h1:=hI.cl;have h2:=hI.crn hS;have h3:=hI.own4 hS;have h4:=hI.hooks4 hS;have h5:=hI.SY.wk;have h6:=hI.TF;have h7:=hS.cl;have h8:=hS.wk;have h9:=hS.sh
 grind
theorem Ib{t:Nat}{k:ze}(ht:h.or[t]? =some k):∃b,qU h (t:Int)=some b/\(b=true↔PB k):=by
 have hl:=(zes.1 ht).1;unfold qU zU;simp only [zbs];rw [d7 (by simpa using hl),zT ht];simp only [zbs];unfold PB;cases hw:k.waits with
 |true=>
  grind
 |false=>
  grind
theorem Ic(hS:bS c ss)(hI:HI c ss n h){j:Nat}{w:zH}(hw:h.LT[j]? =some w):∃b,qU h ((h.or.length+j:Nat):Int)=some b/\(b=true↔PC h w):=by
 have hl:=(zes.1 hw).1;obtain ⟨s1,s2,s3,s4,s5,s6⟩:=hI.sizes hS;have hJ:=(hI.crew w (zmg hw)).SC;unfold qU zU qB jO
 grind [qp,zT,PC,uV]
theorem Ie(hS:bS c ss)(hI:HI c ss n h){i:Nat}{o:zc}(ho:h.Fd[i]? =some o):∃b,qU h ((h.or.length+h.LT.length+i:Nat):Int)=some b/\(b=true↔OE h o):=by
 have hl:=(zes.1 ho).1;obtain ⟨s1,s2,s3,s4,s5,s6⟩:=hI.sizes hS;have hb:=hI.Ta;have hol:=(hI.own.all i o ho).2.2.2.2.2;unfold qU zU qB;simp only [zbs];rw [d8 (by simp;omega),qp (x:=(h.or.length:Int)+h.LT.length) (by omega) (by omega),d8 (by simp;omega)];rw [pI rfl rfl rfl (by omega) (by omega) (by omega)];simp only [zbs];rw [d7 (by simp;omega),qp (by omega) (by omega)];rw [show ((h.or.length+h.LT.length+i:Nat):Int)-((h.or.length:Int)+h.LT.length)=(i:Int) by omega,zT ho];simp only [zbs];rw [rL (by omega)];simp only [zbs];unfold OE;by_cases hn:o.RW=[]
 ·rw [d8 (by rw [hn];simp)];cases hc:h.closed with
  |false=>
   refine ⟨false,rfl,λe=>(by cases e),λe=> ?_⟩
   grind
  |true=>
   obtain ⟨b,e1,e2⟩:=tg (h:=h) s2.2 s3.2 false;rw [e1];simp only [zbs,o8];cases hb2:b with
   |false=>
    refine ⟨false,rfl,λe=>(by cases e),λe=> ?_⟩;rcases e with e|e
    ·exact absurd hn e
    ·rw [e2.2 ⟨e.2.1,λz=>by cases z⟩] at hb2;cases hb2
   |true=>
    unfold vi;refine ⟨_,rfl,λe=>.inr ⟨by trivial,(e2.1 hb2).1,by simpa using e⟩,λe=> ?_⟩;rcases e with e|e
    ·exact absurd hn e
    ·simp [e.2.2]
 ·have:0<o.RW.length:=List.length_pos_iff.2 hn;rw [d7 (by simp;omega)];exact ⟨true,rfl,λ_=>.inl hn,λ_=>rfl⟩
theorem Ga(s2:h.LT.length<=4)(s3:h.Fd.length<=4):∃b,aM h=some b/\(b=true↔h.closed=true/\((∀w∈h.LT,w.RY=true)/\∀o∈h.Fd,o.RY=true)/\h.held=[]):=by
 unfold aM;cases hc:h.closed with
 |false=>exact ⟨false,rfl,λe=>(by cases e),λe=>(by cases e.1)⟩
 |true=>
  obtain ⟨b,e1,e2⟩:=tg (h:=h) s2 s3 true;rw [e1];simp only [zbs,o8];cases hb2:b with
  |false=>exact ⟨false,rfl,λe=>(by cases e),λe=>(by rw [e2.2 ⟨e.2.1.1,λ_=>e.2.1.2⟩] at hb2;cases hb2)⟩
  |true=>
   have:=e2.1 hb2;exact ⟨_,rfl,λe=>⟨by trivial,⟨this.1,this.2 rfl⟩,RK.1 (by simpa using e)⟩,λe=>(by simp [e.2.2])⟩
theorem Ig(hS:bS c ss)(hI:HI c ss n h):∃b,qU h ((h.or.length+h.LT.length+h.Fd.length:Nat):Int)=some b/\(b=true↔Mg h):=by
 obtain ⟨s1,s2,s3,s4,s5,s6⟩:=hI.sizes hS;unfold qU zU qB;simp only [zbs];rw [d8 (by simp;omega),qp (x:=(h.or.length:Int)+h.LT.length) (by omega) (by omega),d8 (by simp;omega)];rw [pI rfl rfl rfl (by omega) (by omega) (by omega)];simp only [zbs];rw [d8 (by simp)];unfold Mg;cases hov:h.over with
 |true=>exact ⟨false,rfl,λe=>(by cases e),λe=>(by cases e.1)⟩
 |false=>
  simp only [Bool.not_false,o8];by_cases hl:h.RW=[]
  ·rw [d8 (by rw [hl];simp)]
   grind [oQ,Ga,hl]
  ·have:0<h.RW.length:=List.length_pos_iff.2 hl;rw [d7 (by simp;omega)];exact ⟨true,rfl,λ_=>⟨by trivial,.inl hl⟩,λ_=>rfl⟩
inductive Rdy (h:za):Nat->Prop
 |c (t:Nat) (k:ze):h.or[t]? =some k->PB k->Rdy h t
 |w (j:Nat) (w:zH):h.LT[j]? =some w->PC h w->Rdy h (h.or.length+j)
 |o (i:Nat) (o:zc):h.Fd[i]? =some o->OE h o->Rdy h (h.or.length+h.LT.length+i)
 |r:Mg h->Rdy h (h.or.length+h.LT.length+h.Fd.length)
theorem Gb(hS:bS c ss)(hI:HI c ss n h){t:Nat}(ht:t<h.or.length+h.LT.length+h.Fd.length+1):∃b,qU h (t:Int)=some b/\(b=true↔Rdy h t):=by
 by_cases h1:t<h.or.length
 ·have hg:=zeg h1;obtain ⟨b,e1,e2⟩:=Ib hg;refine ⟨b,e1,λe=>.c t _ hg (e2.1 e),λe=>e2.2 ?_⟩;cases e with
  |c _ k hk hr=>rw [hg] at hk;cases hk;exact hr
  |w j w hw hr=>omega
  |o i o ho hr=>omega
  |r hr=>omega
 by_cases h2:t<h.or.length+h.LT.length
 ·obtain ⟨j,rfl⟩:∃j,t=h.or.length+j:=⟨t-h.or.length,by omega⟩
  have hg:=zeg (show j<h.LT.length by omega);obtain ⟨b,e1,e2⟩:=Ic hS hI hg;refine ⟨b,e1,λe=>.w j _ hg (e2.1 e),λe=>e2.2 ?_⟩;generalize ht:h.or.length+j=t at e;cases e with
  |c _ k hk hr=>have:=(zes.1 hk).1;omega
  |w j2 w hw hr=>
   grind
  |o i o ho hr=>omega
  |r hr=>omega
 by_cases h3:t<h.or.length+h.LT.length+h.Fd.length
 ·obtain ⟨i,rfl⟩:∃i,t=h.or.length+h.LT.length+i:=⟨t-(h.or.length+h.LT.length),by omega⟩
  have hg:=zeg (show i<h.Fd.length by omega);obtain ⟨b,e1,e2⟩:=Ie hS hI hg;refine ⟨b,e1,λe=>.o i _ hg (e2.1 e),λe=>e2.2 ?_⟩;generalize ht:h.or.length+h.LT.length+i=t at e;cases e with
  |c _ k hk hr=>have:=(zes.1 hk).1;omega
  |w j2 w hw hr=>have:=(zes.1 hw).1;omega
  |o i2 o ho hr=>
   obtain rfl:i=i2:=by omega
   rw [hg] at ho;cases ho;exact hr
  |r hr=>omega
 ·obtain rfl:t=h.or.length+h.LT.length+h.Fd.length:=by omega
  obtain ⟨b,e1,e2⟩:=Ig hS hI;refine ⟨b,e1,λe=>.r (e2.1 e),λe=>e2.2 ?_⟩;generalize ht:h.or.length+h.LT.length+h.Fd.length=t at e;cases e with
  |c _ k hk hr=>have:=(zes.1 hk).1;omega
  |w j2 w hw hr=>have:=(zes.1 hw).1;omega
  |o i2 o ho hr=>have:=(zes.1 ho).1;omega
  |r hr=>exact hr
def withK(h:za)(k:zo):za:={h with Sf:=k}
theorem mS(hS:bS c ss)(hI:HI c ss n h):∃k ps,xu h=some (withK h k)/\ps.length=h.Sf.RT.length/\(∀(t:Nat) b,ps[t]? =some b->(b=true↔Rdy h t))/\Laid h.Sf k ps ps.length:=by
 obtain ⟨s1,s2,s3,s4,s5,s6⟩:=hI.sizes hS;unfold xu;rw [pI rfl rfl rfl (by omega) (by omega) (by omega)];simp only [zbs]
 have hm:mkLen (w64 (((h.or.length+h.LT.length+h.Fd.length:Nat):Int)+1)) 1=some h.Sf.RT.length:=by
  grind [qp,mkLen]
 rw [hm];simp only [zbs];rw [xg (by omega)];simp only [zbs]
 obtain ⟨ps,h1,h2,h3⟩:OK (jL (di h) (λ(s148:(List Bool))=>s148) h.Sf.RT.length 0 (List.replicate h.Sf.RT.length false)) (λps=>ps.length=h.Sf.RT.length/\∀(t:Nat) b,ps[t]? =some b->(b=true↔Rdy h t)):=by
  refine g8 (λi s=>s.length=h.Sf.RT.length/\∀(t:Nat) b,t<i->s[t]? =some b->(b=true↔Rdy h t)) ⟨by simp,λt b z=>by omega⟩ (λi s again hi hI2 ha=> ?_) (λs hs=>⟨hs.1,λt b hb=>hs.2 t b (by grind) hb⟩);obtain ⟨i1,i2⟩:=hI2;unfold di;obtain ⟨b,e1,e2⟩:=Gb hS hI (t:=i) (by omega);rw [e1];simp only [zbs]
  grind [zT,aq]
 rw [h1];simp only [zbs];obtain ⟨k,e1,e2⟩:=Dr (k:=h.Sf) h2;rw [e1];exact ⟨k,ps,rfl,h2,h3,e2⟩
theorem HI.withK(hI:HI c ss n h){k:zo}(hk:k.RT.length=h.Sf.RT.length):HI c ss n (withK h k):=
 {Ta:=hI.Ta,Sk:=hI.Sk,cl:=hI.cl,cr:=hI.cr,rg:=hI.rg,SY:=hI.SY,Tj:=hI.Tj,Ue:=hI.Ue,crew:=hI.crew,own:=hI.own,Uh:=hI.Uh,Tz:=hI.Tz,TE:=hI.TE,call:=hI.call,Sa:=hI.Sa,TF:=hk.trans hI.TF,TA:=hI.TA,TK:=hI.TK,TL:=hI.TL,Uc:=hI.Uc,hel:=hI.hel}
inductive Mv (h:za):Nat->za->Prop
 |back (t:Nat) (k:ze):h.or[t]? =some k->k.waits=true->k.Sd=0->Mv h t (Dz h t k [] h.RN h.SH)
 |ask (t:Nat) (k:ze) (cmd:zF) (h':za):h.or[t]? =some k->k.waits=false->k.Su<k.Sv.length->k.Sv[k.Su.toNat]? =some cmd->CMv h t k cmd h'->Mv h t h'
 |work (j:Nat) (w:zH) (h':za):h.LT[j]? =some w->PC h w->WMv h j w (h.or.length+j) h'->Mv h (h.or.length+j) h'
 |serve (i:Nat) (o:zc) (h':za):h.Fd[i]? =some o->OE h o->SMv 2199023255552 h i o h'->Mv h (h.or.length+h.LT.length+i) h'
 |rule (h':za):Mg h->RMv h (h.or.length+h.LT.length+h.Fd.length) h'->Mv h (h.or.length+h.LT.length+h.Fd.length) h'
theorem Mg.hyp(h1:Mg h)(h2:∀x∈h.held,¬ Fin h x)(h3:h.RW=[]):h.closed=true:=by
 rcases h1.2 with z|⟨x,z1,z2⟩|z
 ·exact absurd h3 z
 ·grind
 ·exact z.1
theorem Ny(hS:bS c ss)(hI:HI c ss n h){t:Nat}(hr:Rdy h t){x:qm}(hk:h.Sf.RT[t]? =some x)(hm:x.RX≠2):OK (am 2199023255552 h (t:Int) true) (λr=>r.1=(t:Int)/\r.2.1=true/\Mv h t r.2.2):=by
 obtain ⟨s1,s2,s3,s4,s5,s6⟩:=hI.sizes hS;unfold am zU qB;simp only [zbs];refine j7 rfl ?_;rw [qp (x:=(h.or.length:Int)+h.LT.length) (by omega) (by omega)];cases hr with
 |c _ k ht hrd=>
  have hl:=(zes.1 ht).1;refine o5 (by simpa using hl) ?_;rcases hrd with ⟨hw,hm0⟩|⟨hw,hat⟩
  ·rw [DB hS hI ht hw];exact b9 ⟨rfl,rfl,.back t k ht hw hm0⟩
  ·obtain ⟨cmd,hc,hok⟩:=F7 hS hI ht hw hat;exact d6 hok λr hr=>b9 ⟨rfl,rfl,.ask t k cmd _ ht hw hat hc hr⟩
 |w j w hw hrd=>
  have hl:=(zes.1 hw).1;refine j7 (by simp;omega) ?_;refine o5 (by simp;omega) ?_;exact d6 (Ns hS hI hw rfl hrd.1 hrd.2 hk hm) λr hr=>b9 ⟨rfl,rfl,.work j w _ hw hrd hr⟩
 |o i o ho hrd=>
  have hl:=(zes.1 ho).1;refine j7 (by simp;omega) ?_;refine j7 (by simp;omega) ?_;rw [pI rfl rfl rfl (by omega) (by omega) (by omega)];simp only [zbs];refine o5 (by simp;omega) ?_;exact d6 (Ky (by decide) hS hI ho rfl hk hm) λr hr=>b9 ⟨rfl,rfl,.serve i o _ ho hrd hr⟩
 |r hrd=>
  refine j7 (by simp;omega) ?_;refine j7 (by simp;omega) ?_;rw [pI rfl rfl rfl (by omega) (by omega) (by omega)];simp only [zbs];refine j7 (by simp) ?_;exact d6 (Nv hS hI rfl hrd.hyp hk hm) λr hr=>b9 ⟨rfl,rfl,.rule _ hrd hr⟩
theorem PD(hS:bS c ss)(hI:HI c ss n h)(hn:n+1<=100000000){t:Nat}{h':za}(hv:Mv h t h'):HI c ss (n+1) h':=by
 cases hv with
 |back t k ht hw hm=>exact Kx hS hI hn ht hw hm
 |ask t k cmd h' ht hw hat hc hv=>exact Nm hS hI hn ht hw hat hc hv
 |work j w h' hw hrd hv=>exact Nt hS hI hn hw rfl (λz=>(hrd.1 z).1) hv
 |serve i o h' ho hrd hv=>
  refine Nq hS hI hn ho (λz=> ?_) hv;rcases hrd with e|e
  ·exact absurd z e
  grind
 |rule h' hrd hv=>exact Nx hS hI hn hrd.1 hrd.hyp hv
end
open Go.Sx
variable {c:zN} {ss:List (List zF)} {n:Nat} {h:za}
def uk(cs:List ze):Nat:=(cs.map (λk=>k.Se.length)).sum
theorem wU{cs:List ze}{t:Nat}{k:ze}(ht:cs[t]? =some k)(k':ze):uk (cs.set t k')+k.Se.length=uk cs+k'.Se.length:=by
 unfold uk;rw [ya];exact Dx (by grind) _
structure Eff (h:za) (t:Nat) (h':za):Prop where
 Sw:∃es:List zd,h'.Sw=h.Sw++es/\∀e∈es,e.Ul=(t:Int)
 TF:∀(i:Nat)(x:qm),h.Sf.RT[i]? =some x->∃y,h'.Sf.RT[i]? =some y/\(x.RX=2->y.RX=2)
 UI:h'.Sf.RT.length=h.Sf.RT.length
 sum:uk h'.or=uk h.or\/uk h'.or=uk h.or+1
theorem xc(k:zo):∀(i:Nat)(x:qm),k.RT[i]? =some x->∃y,k.RT[i]? =some y/\(x.RX=2->y.RX=2):=λi x hx=>⟨x,hx,λe=>e⟩
theorem wV(k:zo)(t:Nat)(z:qm):∀(i:Nat)(x:qm),k.RT[i]? =some x->∃y,(Nn k t z).RT[i]? =some y/\(x.RX=2->y.RX=2):=λi x hx=>by
 by_cases e:i=t
 ·subst e;exact ⟨⟨2,z.Tn⟩,oP hx,λ_=>rfl⟩
 ·exact ⟨x,vD hx e,λz=>z⟩
theorem DH{t:Nat}{k k':ze}(ht:h.or[t]? =some k)(hk:k'.Se=k.Se){es:List zd}(he:∀e∈es,e.Ul=(t:Int))(rs:List zt)(g:zP):Eff h t (Dz h t k' es rs g):=by
 refine ⟨⟨es++[QH t k'],by grind [Dz],λe hm=> ?_⟩,xc _,rfl,.inr ?_⟩
 ·rcases g9.1 hm with hm|hm
  ·exact he e hm
  ·rw [i6.1 hm];rfl
 ·have h1:uk (h.or.set t (E5 k'))+k.Se.length=uk h.or+(E5 k').Se.length:=wU ht (E5 k')
  have h2:(E5 k').Se.length=k.Se.length+1:=by
   show (k'.Se++[OD k']).length=_
   grind
  show uk (h.or.set t (E5 k'))=_;omega
theorem DI{t:Nat}{k k':ze}(ht:h.or[t]? =some k)(hk:k'.Se=k.Se)(os:List zc)(l:List zB):Eff h t (Kv h t k k' os l):=by
 refine ⟨⟨[rK t k],rfl,λe hm=>by rw [i6.1 hm];rfl⟩,xc _,rfl,.inl ?_⟩;have h1:uk (h.or.set t k')+k.Se.length=uk h.or+k'.Se.length:=wU ht k';show uk (h.or.set t k')=_;rw [hk] at h1;omega
theorem dJ{t:Nat}{k k':ze}(ht:h.or[t]? =some k)(hk:k'.Se=k.Se):uk (h.or.set t k')=uk h.or:=by
 grind [wU]
theorem PE{t:Nat}{h':za}(hv:Mv h t h'):Eff h t h':=by
 cases hv with
 |back t k ht hw hm=>exact DH ht (by rfl) (λe he=>by cases he) _ _
 |ask t k cmd h' ht hw hat hc hv=>
  cases hv with
  |told E hE=>exact DH ht (by rfl) (λe he=>by rw [i6.1 he];rfl) _ _
  |fire i r r' n2 E g h1 h2 h3 h4 h5=>
   refine DH ht (by rfl) (λe he=> ?_) _ _;rcases g9.1 he with he|he
   ·rw [i6.1 he];rfl
   ·split at he
    ·rw [i6.1 he];rfl
    ·cases he
  |items h1 h2 h3 h4 h5=>exact DI ht (by rfl) _ _
  |walk h1 h2 h3 h4=>exact DI ht (by rfl) _ _
  |call h1 h2 h3=>exact DI ht (by rfl) _ _
 |work j w h' hw hrd hv=>
  cases hv with
  |ends x m0 hcl hk hm=>exact ⟨⟨_,rfl,λe he=>by rw [i6.1 he];rfl⟩,wV _ _ _,by show (h.Sf.RT.set _ _).length=_;rw [j5],.inl rfl⟩
  |take i r r' q qs cur m0 hcl hi hwt htk c0 c1=>exact ⟨⟨_,rfl,λe he=>by rw [i6.1 he];rfl⟩,xc _,rfl,.inl rfl⟩
  |skip st v p m1 hcu hsk=>exact ⟨⟨_,rfl,λe he=>by rw [i6.1 he];rfl⟩,xc _,rfl,.inl rfl⟩
  |enter v p m b e1 e2 ck e W' m1 hcu hmo he hE=>exact ⟨⟨_,rfl,λe he=>by rw [i6.1 he];rfl⟩,xc _,rfl,.inl rfl⟩
  |note a W' m2 hst k3=>exact ⟨⟨_,rfl,λe he=>by rw [i6.1 he];rfl⟩,xc _,rfl,.inl rfl⟩
  |ask a W' m2 hst k2=>exact ⟨⟨_,rfl,λe he=>by rw [i6.1 he];rfl⟩,xc _,rfl,.inl rfl⟩
  |done a W' e1 ck m2 hst k4 hlv=>exact ⟨⟨_,rfl,λe he=>by rw [i6.1 he];rfl⟩,xc _,rfl,.inl rfl⟩
  |ran a W' m2 hst k1=>exact ⟨⟨_,rfl,λe he=>by rw [i6.1 he];rfl⟩,xc _,rfl,.inl rfl⟩
  |back r W' m3 hr hA=>exact ⟨⟨_,rfl,λe he=>by rw [i6.1 he];rfl⟩,xc _,rfl,.inl rfl⟩
 |serve i o h' ho hrd hv=>
  cases hv with
  |ends t x ht hl hk hm=>subst ht;exact ⟨⟨_,rfl,λe he=>by rw [i6.1 he];rfl⟩,wV _ _ _,by show (h.Sf.RT.set _ _).length=_;rw [j5],.inl rfl⟩
  |crew t q o' x xs j w ht hq hf hw=>subst ht;exact ⟨⟨_,rfl,λe he=>by rw [i6.1 he];rfl⟩,xc _,rfl,.inl rfl⟩
  |walk q o' x xs u k hq hf hu hw g0 g1=>exact ⟨⟨[],rfl,λe he=>by cases he⟩,xc _,rfl,.inl (dJ hu rfl)⟩
  |item t q o' x xs u k ht hq hf hu hw g0 g1=>subst ht;exact ⟨⟨_,rfl,λe he=>by rw [i6.1 he];rfl⟩,xc _,rfl,.inl (dJ hu rfl)⟩
 |rule h' hrd hv=>
  generalize h.or.length+h.LT.length+h.Fd.length=t at hv;cases hv with
  |fin a x u k hx hf hu hk h8=>exact ⟨⟨[],rfl,λe he=>by cases he⟩,xc _,rfl,.inl (dJ hk rfl)⟩
  |retired a x u k hx hf hu hk h8=>exact ⟨⟨_,rfl,λe he=>by rw [i6.1 he];rfl⟩,xc _,rfl,.inl (dJ hk rfl)⟩
  |over u k x hnf hl hu hk hkt hm=>exact ⟨⟨_,rfl,λe he=>by rw [i6.1 he];rfl⟩,wV _ _ _,by show (h.Sf.RT.set _ _).length=_;rw [j5],.inl (dJ hk rfl)⟩
  |refuse x xs u k hnf hl hc hu hk=>exact ⟨⟨[],rfl,λe he=>by cases he⟩,xc _,rfl,.inl (dJ hk rfl)⟩
  |cmd x xs u k r' N E es hnf hl hc hu hk hcm=>
   refine ⟨⟨es,rfl,λe he=> ?_⟩,xc _,rfl,.inl (dJ hk rfl)⟩;cases hcm with
   |load n2 e2 r' hk4 hld=>
    split at he
    ·rw [i6.1 he];rfl
    ·cases he
   |attach v e2 r' hk5 ha=>
    split at he
    ·rw [i6.1 he];rfl
    ·cases he
   |swap v e2 r' hk6 ha=>
    split at he
    ·rw [i6.1 he];rfl
    ·cases he
   |detach e2 tb hk7 ha=>
    split at he
    ·rw [i6.1 he];rfl
    ·cases he
   |retire v e2 r' hk8 ha he2=>cases he
  |hold x xs v r' hnf hl hc h8 ha=>exact ⟨⟨[],rfl,λe he=>by cases he⟩,xc _,rfl,.inl rfl⟩
  |drain x xs hnf hl hc h9=>exact ⟨⟨[],rfl,λe he=>by cases he⟩,xc _,rfl,.inl rfl⟩
  |close x xs hnf hl hc h10=>
   refine ⟨⟨uD t h.RN++[CM 14 t 0 0 0],o4 _ _ _,λe he=> ?_⟩,xc _,rfl,.inl rfl⟩;rcases g9.1 he with he|he
   ·unfold uD at he;obtain ⟨l,hl1,hl2⟩:=k7.1 he;obtain ⟨i,hi⟩:=q9 hl1;rw [List.getElem?_mapIdx] at hi;obtain ⟨r,hr,rfl⟩:=yw.1 hi;obtain ⟨q,hq,rfl⟩:=yn.1 hl2;rfl
   ·rw [i6.1 he];rfl
def JA(a b:zo):Prop:=b.RT.length=a.RT.length/\∀(i:Nat)(x:qm),a.RT[i]? =some x->∃y,b.RT[i]? =some y/\(x.RX=2↔y.RX=2)
theorem Laid.stay{a b:zo}{ps:List Bool}(h:Laid a b ps ps.length)(hl:ps.length=a.RT.length):JA a b:=by
 refine ⟨h.2.1,λi x hx=> ?_⟩;obtain ⟨u,hu,_,hm⟩:=h.2.2 i x hx
 grind
theorem KB.stay{a b:zo}(h:KB a b):JA a b:=by
 refine ⟨h.1,λi x hx=> ?_⟩;have h2:=h.2 i
 grind
theorem JA.trans{a b d:zo}(h1:JA a b)(h2:JA b d):JA a d:=by
 refine ⟨h2.1.trans h1.1,λi x hx=> ?_⟩;obtain ⟨y,hy,e1⟩:=h1.2 i x hx;obtain ⟨z,hz,e2⟩:=h2.2 i y hy
 grind
inductive Stp (h:za) (r:Int×Bool×za):Prop
 |none (k:zo):(∀t,t<h.Sf.RT.length->(∀x,h.Sf.RT[t]? =some x->x.RX≠2)->¬ Rdy h t)->JA h.Sf k->k.LE=h.Sf.LE->r=(0,false,withK h k)->Stp h r
 |one (k:zo) (t:Nat) (x:qm) (h':za):Rdy h t->JA h.Sf k->k.LE=w64 (h.Sf.LE+1)->h.Sf.RT[t]? =some x->x.RX≠2->Mv (withK h k) t h'->r=((t:Int),true,h')->Stp h r
theorem Rdy.withK{t:Nat}(hr:Rdy h t)(k:zo):Rdy (withK h k) t:=by
 cases hr with
 |c _ q ht hrd=>exact .c t q ht hrd
 |w j w hw hrd=>exact .w (h:=KH.withK h k) j w hw hrd
 |o i o ho hrd=>exact .o (h:=KH.withK h k) i o ho hrd
 |r hrd=>exact .r (h:=KH.withK h k) hrd
theorem DJ(hS:bS c ss)(hI:HI c ss n h){k:zo}{ps:List Bool}(hl:ps.length=h.Sf.RT.length)(hps:∀(t:Nat) b,ps[t]? =some b->(b=true↔Rdy h t))(hla:Laid h.Sf k ps ps.length){o:Option (Int×Bool×zo)}(hp:KC k o):
  OK (o.bind λr71=>(am 2199023255552 (withK h r71.2.2) r71.1 r71.2.1).bind λr77=>some (r77.1,r77.2.1,r77.2.2)) (λr=>Stp h r/\if r.2.1 then r.1∈kin k 1 k.RT.length else kin k 1 k.RT.length=[]):=by
 have hst:=hla.stay hl;have hlen:=hst.1;rcases hp with ⟨h0,rfl⟩|⟨x,k',hx,rfl,hmd,hmt⟩
 ·refine b9 ⟨.none k (λt ht hm hr=> ?_) hst hla.1 rfl,h0⟩;have hg:=zeg ht;have hgp:=zeg (show t<ps.length by omega);obtain ⟨u,hu,_,hmu⟩:=hla.2.2 t _ hg;rw [d7 (by omega),d8 (hm _ hg),hgp,(hps t _ hgp).2 hr,d7 rfl] at hmu
  have:(t:Int)∈kin k 1 k.RT.length:=by
   unfold kin;refine yn.2 ⟨t,List.mem_filter.2 ⟨by simp;omega,?_⟩,rfl⟩;rw [hu];simp [hmu]
  rw [h0] at this;cases this
 ·obtain ⟨t,y,rfl,ht,hy,hm⟩:=H3 hx;have htl:t<h.Sf.RT.length:=by omega
  have hg:=zeg htl;have hgp:=zeg (show t<ps.length by omega);obtain ⟨u,hu,_,hmu⟩:=hla.2.2 t _ hg;rw [hy] at hu;obtain rfl:=j6 hu;rw [d7 (by omega),hm] at hmu;have hne:h.Sf.RT[t].RX≠2:=λe=>by rw [d7 e] at hmu;omega
  rw [d8 hne,hgp] at hmu
  have hrd:Rdy h t:=(hps t _ hgp).1 (by
   cases hb:ps[t] with
   |true=>rfl
   |false=>rw [hb,d8 (by simp)] at hmu;omega)
  have hst2:=hst.trans hmd.stay;obtain ⟨z,hz,e⟩:=hst2.2 t _ hg;simp only [zbs];refine d6 (Ny hS (hI.withK hst2.1) (hrd.withK k') (x:=z) hz (λw=>hne (e.2 w))) (λr hr=>b9 ⟨.one k' t _ r.2.2 hrd hst2 (by rw [hmt,hla.1]) hg hne hr.2.2 ?_,?_⟩)
  ·rw [hr.1,hr.2.1]
  ·rw [hr.2.1,hr.1];exact hx
theorem DK(hS:bS c ss)(hI:HI c ss n h)(ch:Int):OK (xi 2199023255552 h ch) (Stp h):=by
 obtain ⟨k,ps,e1,e2,e3,e4⟩:=mS hS hI;obtain ⟨s1,s2,s3,s4,s5,s6⟩:=hI.sizes hS;unfold xi;rw [e1];simp only [zbs];have:=e4.2.1;exact (DJ hS hI e2 e3 e4 (ry (k:=k) (by omega) ch)).mono λr hr=>hr.1
theorem Ih(hS:bS c ss)(hI:HI c ss n h):OK (bN 2199023255552 h) (Stp h):=by
 obtain ⟨k,ps,e1,e2,e3,e4⟩:=mS hS hI;obtain ⟨s1,s2,s3,s4,s5,s6⟩:=hI.sizes hS;unfold bN;rw [e1];simp only [zbs];have:=e4.2.1;exact (DJ hS hI e2 e3 e4 (Bs (k:=k) (by omega))).mono λr hr=>hr.1
end
open Go.Sx
variable {c:zN} {ss:List (List zF)} {n:Nat} {h:za}
theorem OC.shape(hb:OC c ss h)(hf:∀s∈ss,∀c∈s,Fit c):bS c ss:=⟨hb.hk,hb.wk,hb.sh,hb.mp,hb.cl,hb.sl,hf⟩
theorem KF(hb:OC c ss h):HI c ss 0 h/\h.Sw=[]/\uk h.or=0:=by
 obtain ⟨r,os,rs,w0,hw0,hr,r1,r2,r3,r4,r5,⟨ho1,ho2⟩,⟨hr1,hr2⟩,rfl⟩:=hb.is;have b1:=hb.hk;have b2:=hb.wk;have b3:=hb.sh;obtain ⟨w1,e1,hJ,m0,k0⟩:=WJ.new (H:=c.Sh.toNat) (K:=c.Maps.length) (by omega);rw [hw0] at e1;obtain rfl:=j6 e1
 have hcnt:∀f:Int,eW os f=0:=λf=>by
  unfold eW
  have:os.map (λo=>uS o.RW f)=List.replicate os.length 0:=by
   refine m8 λi=> ?_
   grind [uS]
  rw [this];simp
 refine ⟨?_,rfl,?_⟩
 ·exact
  {Ta:=by omega
   Sk:=rfl
   cl:=q7 _
   cr:=by grind
   rg:=hr1
   SY:=hr
   Tj:=λq hq=>⟨(hr2 q hq).1,λx hx=>by grind⟩
   Ue:=λt k s hk hs=>by
    rw [t5,hs] at hk;obtain rfl:=j6 hk;exact ⟨rfl,t9 0,Int.natCast_nonneg _,(λe=>by cases e),rfl,(λa ha=>by cases ha),by simp [CI,Qi],rfl,by simp [CI],(λp hp=>by cases hp),λ_=>rfl⟩
   crew:=λw hw=>by
    rw [z4 (show w∈List.replicate _ _ from hw)];exact ⟨hJ,⟨t9 0,by show (0:Int)<_;omega⟩,(λr e=>by cases e),λe=>by cases e⟩
   own:=⟨ho1,λi o ho=>by
    grind⟩
   Uh:=λo ho r hr=>by
    obtain ⟨i,hi⟩:=q9 (show o∈os from ho)
    grind
   Tz:=λt k hk=>by
    show k.Sd=((eW os t+(0+0+(if false=true/\false=false/\(0:Int)=t then 1 else 0)):Nat):Int)
    grind [CI]
   TE:=λt=>.inl (by
    show 0+0+(if false=true/\false=false/\(0:Int)=t then 1 else 0)=0
    grind)
   call:=λx hx=>by cases hx
   Sa:=⟨0,rfl,hb.cl.1⟩
   TF:=Rz
   TA:=λo ho e=>by
    obtain ⟨i,hi⟩:=q9 (show o∈os from ho)
    grind
   TK:=λw hw e=>by
    rw [z4 (show w∈List.replicate _ _ from hw)] at e;cases e
   TL:=Nat.zero_le _
   Uc:=Nat.zero_le _
   hel:=Nat.zero_le _}
 ·show uk (ss.map CI)=0;unfold uk;rw [List.map_map]
  have:ss.map ((λk:ze=>k.Se.length)∘CI)=List.replicate ss.length 0:=by
   refine m8 λi=> ?_
   rw [t5,List.getElem?_replicate];cases hg:ss[i]? with
   |none=>rw [d8 (λz=>by grind)];rfl
   |some s=>rw [d7 (zes.1 hg).1];rfl
  rw [this];simp
theorem KG(hm:c.Maps.length*16<=140737488355328):xB c=some c:=by
 unfold xB;rw [xg (by simpa using hm)];rfl
theorem Gc{x:List zF}{i:Nat}(hi:ss[i]? =some x)(hx:x.length<=1099511627776)(hf:∀c∈x,Fit c){fu:Nat}(hfu:x.length<fu):loop (vY ss i) fu ([],0)=some x:=by
 obtain ⟨r,h1,rfl⟩:=lu (body:=vY ss i) (λm s=>∃k:Nat,s.2=(k:Int)/\s.1=x.take k/\k+m=x.length) (λr=>r=x) (λm s again hI ha=>by
  obtain ⟨l,q⟩:=s;obtain ⟨k,e1,e2,e3⟩:=hI;have e1:q=(k:Int):=e1;have e2:l=x.take k:=e2;subst e1 e2;unfold vY;rw [zT hi];simp only [zbs];by_cases hk:k<x.length
  ·rw [d7 (by simpa using hk)];have hg:=zeg hk;have hc:=hf _ (yb hk);rw [zT hg];simp only [zbs];rw [xg (by simpa using hc.items)];simp only [zbs];rw [xg (by simpa using hc.TW)];simp only [zbs];rw [xg (by grind)];simp only [zbs];rw [qp (by omega) (by omega)];exact ha (m-1) _ (by omega) ⟨k+1,by grind,by rw [ng hg];rfl,by omega⟩
  ·rw [d8 (by simpa using hk)];exact ⟨_,rfl,r9 (by omega)⟩) fu x.length ([],0) hfu ⟨0,rfl,rfl,by omega⟩
 exact h1
theorem Gd(hn:ss.length*24<=140737488355328)(hx:∀x∈ss,x.length<=1099511627776)(hf:∀s∈ss,∀c∈s,Fit c){fu:Nat}(hfu:∀x∈ss,x.length<fu):xk fu ss=some ss:=by
 unfold xk
 have:jL (cF fu ss) (λ(s4350:(List (List zF)))=>s4350) ss.length 0 ([]:List (List zF))=some ss:=by
  refine OK.is (g8 (λi s=>s=ss.take i) rfl (λi s again hi hI ha=> ?_) (λs hs=>by grind));subst hI;unfold cF;have hg:=zeg hi
  grind [Gc,xg,ng]
 rw [this];rfl
theorem PF(hI:HI c ss n h):vZ h=some h.Sw:=by
 have:=hI.logb
 grind [vZ,qt,xg]
theorem Bv(l:List zx)(h:∀a∈l,a.SD.length<=16/\a.Pairs.length<=64):(l.foldlM (λ(_:Unit)a=>(zK a.SD).bind λ_=>(zy a.Pairs).bind λ_=>some ()) ())=some ():=by
 induction l with
 |nil=>rfl
 |cons a l ih=>
  have ha:=h a zcs;rw [List.foldlM_cons];unfold zK zy;rw [xg (m:=([]:List zk).length+a.SD.length) (by simp;omega),xg (m:=([]:List zp).length+a.Pairs.length) (by simp;omega)];exact ih λx hx=>h x (zcm _ hx)
theorem uX(hS:bS c ss)(hI:HI c ss n h){t:Nat}{k:ze}(ht:h.or[t]? =some k):jq h (t:Int)=some k.Se:=by
 have hl:=(zes.1 ht).1;obtain ⟨s,hs,hk⟩:=hI.at ht;have h1:=hk.Uq;have h2:=hk.Up;have h3:=hS.sl s (zmg hs);unfold jq;rw [d8 (by simp;omega),zT ht];simp only [zbs];rw [xg (by omega)];simp only [zbs];show ((k.Se.foldlM (λ(_:Unit)a=>(zK a.SD).bind λ_=>(zy a.Pairs).bind λ_=>some ()) ()).bind λ_=>some k.Se)=_;rw [Bv _ hk.done];rfl
structure Rf (h:za) (r:Int×Bool×za):Prop where
 Sw:∃es:List zd,r.2.2.Sw=h.Sw++es/\(∀e∈es,e.Ul=r.1)/\(r.2.1=false->es=[])
 UI:r.2.2.Sf.RT.length=h.Sf.RT.length
 RY:∀(i:Nat)(x:qm),h.Sf.RT[i]? =some x->x.RX=2->∃y,r.2.2.Sf.RT[i]? =some y/\y.RX=2
 over:r.2.1=true->∃(t:Nat)(x:qm),r.1=t/\h.Sf.RT[t]? =some x/\x.RX≠2
 sum:uk r.2.2.or=uk h.or\/uk r.2.2.or=uk h.or+1
theorem sd{r:Int×Bool×za}(hr:Stp h r):Rf h r:=by
 cases hr with
 |none k hno hst htn e=>
  subst e;refine ⟨⟨[],by show h.Sw=_;rw [i8],(λe he=>by cases he),λ_=>rfl⟩,hst.1,λi x hx hm=> ?_,(λe=>by cases e),.inl rfl⟩;obtain ⟨y,hy,e⟩:=hst.2 i x hx;exact ⟨y,hy,e.1 hm⟩
 |one k t x h' hrd hst htn hx hm hv e=>
  subst e;obtain ⟨⟨es,e1,e2⟩,e3,e4,e5⟩:=PE hv;refine ⟨⟨es,e1,e2,λz=>by cases z⟩,e4.trans hst.1,λi y hy hm2=> ?_,λ_=>⟨t,x,rfl,hx,hm⟩,e5⟩;obtain ⟨y2,hy2,e6⟩:=hst.2 i y hy;obtain ⟨y3,hy3,e7⟩:=e3 i y2 hy2
  grind
theorem Ii(l:List zd):vP l l=some true:=by
 unfold vP;rw [d8 (by simp)]
 obtain ⟨o,h1,h2⟩:OK (jL (dW l l) (λ(s170:Unit)=>(.inl ())) l.length 0 ()) (λo=>o=Sum.inl ()):=by
  refine g8 (λi _=>True) trivial (λi s again hi hI ha=> ?_) (λs hs=>rfl);unfold dW;refine f9 (i7 hi λx hx=> ?_);rw [zT hx]
  grind
 rw [h1,h2];rfl
end
open Go.Sx
variable {c:zN} {ss:List (List zF)} {n:Nat} {h:za}
end
open Go.Sx
variable {c:zN} {ss:List (List zF)} {n H M W:Nat} {h:za} {r:zb}
def Jd(m:zD):Prop:=∃o,jX 2199023255552 m=some (o,0,0)
structure RJ (r:zb):Prop where
 Ty:∀p x,jz r.Sj p=some x->Jd x.module
 hook:∀(i:Nat) u,r.Si.Sc[i]? =some u->0<u.Sq->∃x,jz r.Sj u.prog=some x/\x.SM=0
theorem Jd.of{m:zD}{p:Int}(h:vv 2199023255552 m=some (p,0)):Jd m:=by
 obtain ⟨o,q,e,h1,h2⟩:=mg m;rw [wI h1] at h
 grind [Jd]
theorem Gz{maps:Int}{b:List Int}{v:zD×Int}(h:nY maps b=some v)(h0:v.2=0):Jd v.1:=by
 unfold nY at h;obtain ⟨d,_,h⟩:=RG.1 h;split at h
 ·grind
 ·obtain ⟨j,hj,h⟩:=RG.1 h;split at h
  ·grind
  ·rename_i hz
   obtain ⟨p,e⟩:=j;have:e=0:=by simpa using hz
   subst this;cases h;exact .of hj
theorem RJ.added(hR:fD H M W n r)(hJ:RJ r){m:zD}(hm:Jd m):RJ (added r m):=by
 have hf:=tA hR;have hg:∀p,jz (Go.Proofs.YtplmgfkghomelaaGreatDoor.added r m).Sj p=if r.given+1=p then some ⟨m,0⟩ else jz r.Sj p:=λp=>tz ..
 refine ⟨λp x hx=> ?_,λi u hu hv=> ?_⟩
 ·rw [hg] at hx;split at hx
  ·cases hx;exact hm
  ·exact hJ.Ty p x hx
 ·obtain ⟨x,h1,h2⟩:=hJ.hook i u hu hv;exact ⟨x,by rw [hg,d8 (λe=>by rw [<- e,hf] at h1;cases h1)];exact h1,h2⟩
theorem RJ.placed(hJ:RJ r){k p:Int}{q:Int×Int×zb}(hq:BP r k p q):RJ q.2.2/\q.2.2.Sg=r.Sg:=by
 by_cases e:q.2.1=0
 ·obtain ⟨_,hx,l,hl,e2⟩:=hq.yes e;rw [e2,hl];refine ⟨⟨hJ.Ty,λi u hu hv=> ?_⟩,rfl⟩;rcases aq (show (r.Si.Sc.set _ _)[i]? =some u from hu) with ⟨_,rfl,_⟩|⟨_,hu⟩
  ·exact hx
  ·exact hJ.hook i u hu hv
 ·rw [(hq.no e).2];exact ⟨hJ,rfl⟩
theorem RJ.retired(hR:fD H M W n r)(hJ:RJ r){p:Int}{x:zS}(hx:jz r.Sj p=some x)(hw:∀(i:Nat) u,r.Si.Sc[i]? =some u->0<u.Sq->u.prog≠p):RJ (retired r p x):=by
 have hg:∀q,jz (Go.Proofs.YtplmgfkghomelaaGreatDoor.retired r p x).Sj q=if p=q then some ⟨x.module,r.Sg.Tt+1⟩ else jz r.Sj q:=by
  grind [Go.Proofs.YtplmgfkghomelaaGreatDoor.retired,BN]
 refine ⟨λq y hy=> ?_,λi u hu hv=> ?_⟩
 ·rw [hg] at hy;split at hy
  ·cases hy;exact hJ.Ty p x hx
  ·exact hJ.Ty q y hy
 ·obtain ⟨y,h1,h2⟩:=hJ.hook i u hu hv;exact ⟨y,by rw [hg,d8 (λe=>hw i u hu hv e.symm)];exact h1,h2⟩
theorem RJ.settled(hR:fD H M W n r)(hJ:RJ r)(most:Int):RJ (settled r (iF r most)):=by
 have hg:=oa hR (iF r most);refine ⟨λq y hy=> ?_,λi u hu hv=> ?_⟩
 ·rw [hg] at hy
  grind [RJ]
 ·obtain ⟨y,h1,h2⟩:=hJ.hook i u hu hv;exact ⟨y,by rw [hg,d8 (λe=>by obtain ⟨x,h3,h4,_⟩:=NQ hR e;rw [h1] at h3;cases h3;omega)];exact h1,h2⟩
theorem NZ(hI:HI c ss n h)(hJ:RJ h.Fn){t:Int}{x:zB}(hx:x.cmd.Sn.length<=140737488355328){r':zb}{N E:Int}{es:List zd}(hc:KA t h.Fn x r' N E es):RJ r'/\r'.Sg.in_=h.Fn.Sg.in_:=by
 cases hc with
 |load n e r' _ hl=>
  obtain ⟨v,e1,e2,e3⟩:=pJ hI hx;rw [e1] at hl;split at hl
  ·cases hl;exact ⟨hJ,rfl⟩
  ·split at hl
   ·cases hl;exact ⟨hJ,rfl⟩
   ·cases hl;exact ⟨hJ.added hI.SY (Gz e2 (by omega)),rfl⟩
 |attach v e r' _ ha=>
  obtain ⟨q,h1,h2⟩:=tB hI.SY x.cmd.SG x.cmd.SV;rw [ha] at h1;cases h1;have:=hJ.placed h2;exact ⟨this.1,by rw [this.2]⟩
 |swap v e r' _ ha=>
  obtain ⟨q,h1,h2⟩:=D2 hI.SY x.cmd.SG x.cmd.SV;rw [ha] at h1;cases h1;have:=hJ.placed h2;exact ⟨this.1,by rw [this.2]⟩
 |detach e tb _ hd=>
  obtain ⟨q,h1,h2⟩:=tD hI.SY x.cmd.SG;rw [hd] at h1;cases h1;rcases h2 with ⟨_,h2⟩|⟨_,l,⟨_,hl⟩,h2⟩
  ·simp only at h2;subst h2;exact ⟨hJ,rfl⟩
  ·simp only at h2;subst h2;refine ⟨⟨hJ.Ty,λi u hu hv=> ?_⟩,rfl⟩;rcases hl i u hu with e|hu
   ·omega
   ·exact hJ.hook i u hu hv
 |retire v e r' _ hr he=>
  obtain ⟨q,h1,h2⟩:=mz hI.SY x.cmd.SV;rw [hr] at h1;cases h1;rcases h2 with ⟨_,_,h2⟩|⟨h2,_⟩
  ·simp only at h2;subst h2;exact ⟨hJ,rfl⟩
  ·exact absurd h2 he
theorem N0(hI:HI c ss n h)(hJ:RJ h.Fn){p v:Int}{r':zb}(hr:qP h.Fn p=some (v,0,r')):RJ r'/\r'.Sg.in_=h.Fn.Sg.in_:=by
 obtain ⟨q,h1,h2⟩:=mz hI.SY p;rw [hr] at h1;cases h1;rcases h2 with ⟨h2,_⟩|⟨_,_,x,hx,_,hw,h2⟩
 ·exact absurd rfl h2
 ·simp only at h2;subst h2;exact ⟨hJ.retired hI.SY hx hw,rfl⟩
theorem RJ.cur(hR:fD H M W n r)(hJ:RJ r){k v p:Int}(h0:jl r.Si k=some (v,p,true)):∃m,qO r p=some (m,true)/\Jd m:=by
 unfold jl je jf at h0;simp only [zbs] at h0;obtain ⟨o,ho,h0⟩:=RG.1 h0;split at h0
 ·cases h0
 ·rename_i hn
  obtain ⟨u,hu,h0⟩:=RG.1 h0;cases h0;have hu2:r.Si.Sc[k.toNat]? =some u:=by grind [idx]
  have:0<u.Sq:=by grind
  obtain ⟨x,h1,h2⟩:=hJ.hook _ u hu2 this;exact ⟨x.module,by rw [BR hR,h1],hJ.Ty _ x h1⟩
end Go.Proofs.YtplmgfkghomelaaGreatDoor.KH
