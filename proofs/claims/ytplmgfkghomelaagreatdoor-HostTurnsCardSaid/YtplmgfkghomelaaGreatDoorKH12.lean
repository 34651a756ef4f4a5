/- Lemmas. -/
import Derived.Test.YtplmgfkghomelaaGreatDoorKReg3
set_option linter.unusedVariables false
set_option linter.unusedSimpArgs false
namespace Go.Proofs.YtplmgfkghomelaaGreatDoor.KH
section
section
section
section
open Go.Sx
variable {i:Nat} {o:zc} {x:Nat×zq} {l:List (Nat×zq)} {r:zq} {c:zN}
def Mf(o:zc)(r:zq):zc:={o with RW:=o.RW++[r]}
def oh(os:List zc)(x:Nat×zq):List zc:=match os[x.1]? with
 |some o=>os.set x.1 (Mf o x.2)
 |none=>os
def puts(os:List zc)(l:List (Nat×zq)):List zc:=l.foldl oh os
theorem oL(os:List zc)(x:Nat×zq):(oh os x).length=os.length:=by
 grind [oh]
theorem oM(l:List (Nat×zq)):∀os:List zc,(puts os l).length=os.length:=by
 induction l with
 |nil=>exact λos=>rfl
 |cons x l ih=>exact λos=>(ih (oh os x)).trans (oL os x)
def uS(l:List zq)(f:Int):Nat:=l.countP (λr=>r.Te==f)
def eW(os:List zc)(f:Int):Nat:=(os.map (λo=>uS o.RW f)).sum
def gu(l:List zB)(t:Int):Nat:=l.countP (λx=>x.SA==t)
theorem Dx{l:List Nat}{a:Nat}(h:l[i]? =some a)(b:Nat):(l.set i b).sum+a=l.sum+b:=by
 induction l generalizing i with
 |nil=>simp at h
 |cons x l ih=>
  cases i with
  |zero=>simp at h;subst h;simp;omega
  |succ i=>
   grind
theorem mQ{os:List zc}(h:os[i]? =some o)(o':zc)(f:Int):eW (os.set i o') f+uS o.RW f=eW os f+uS o'.RW f:=by
 unfold eW;rw [ya];exact Dx (by grind) _
theorem Bg(l:List zq)(r:zq)(f:Int):uS (l++[r]) f=uS l f+if r.Te=f then 1 else 0:=by
 grind [uS]
theorem Bh(l:List zq)(r:zq)(f:Int):uS (r::l) f=uS l f+if r.Te=f then 1 else 0:=by
 grind [uS]
theorem sZ(l:List zB)(x:zB)(f:Int):gu (x::l) f=gu l f+if x.SA=f then 1 else 0:=by
 grind [gu]
theorem mR(l l':List zB)(f:Int):gu (l++l') f=gu l f+gu l' f:=by
 grind [gu]
theorem rZ(x:zB)(f:Int):gu [x] f=if x.SA=f then 1 else 0:=by
 grind [sZ,gu]
theorem ta{os:List zc}(h:x.1<os.length)(f:Int):eW (oh os x) f=eW os f+if x.2.Te=f then 1 else 0:=by
 unfold oh;rw [zeg h];have:=mQ (zeg h) (Mf os[x.1] x.2) f
 grind [uS,Mf,Bg,eW]
theorem Bi{f:Int}(hf:∀x∈l,x.2.Te=f):∀os:List zc,(∀x∈l,x.1<os.length)->∀g,eW (puts os l) g=eW os g+if f=g then l.length else 0:=by
 induction l with
 |nil=>intro os h g;simp [puts]
 |cons x l ih=>
  intro os h g;have h1:=ta (h x zcs) g
  grind [oh,oL,eW,puts]
theorem F6{l:List Nat}{a:Nat}(h:a∈l):a<=l.sum:=by
 induction l with
 |nil=>cases h
 |cons x l ih=>
  grind
theorem Ku{l:List zq}(h:r∈l):1<=uS l r.Te:=by
 grind [uS]
theorem sb{os:List zc}(ho:o∈os)(h:r∈o.RW):1<=eW os r.Te:=by
 have h1:=Ku h
 have h2:uS o.RW r.Te<=eW os r.Te:=by
  unfold eW;exact F6 (yn.2 ⟨o,ho,rfl⟩)
 omega
structure uT (c:zN) (b:Nat) (os:List zc):Prop where
 len:(os.length:Int)=c.RZ
 all:∀(i:Nat)(o:zc),os[i]? =some o->iQ o/\Gf o/\o.Tr=i/\o.SX=c.RZ/\o.maps.length=c.Maps.length/\o.RW.length<=b
theorem uT.mono{b b':Nat}{os:List zc}(h:uT c b os)(hb:b<=b'):uT c b' os:=
 ⟨h.len,λi o ho=>by obtain ⟨h1,h2,h3,h4,h5,h6⟩:=h.all i o ho;exact ⟨h1,h2,h3,h4,h5,by omega⟩⟩
theorem uT.put{b:Nat}{os:List zc}(h:uT c b os)(hm0:0<=x.2.Item.SE)(hm1:x.2.Item.SE<c.Maps.length)(hw:x.2.Ts=true\/(0<=x.2.Item.Op/\x.2.Item.Op<5))(hv:u64 x.2.Item.SJ):uT c (b+1) (oh os x):=by
 refine ⟨by rw [oL];exact h.len,λi o ho=> ?_⟩
 unfold oh at ho;split at ho
 ·rename_i o1 h1
  rw [yo] at ho;split at ho
  ·rename_i e
   subst e;split at ho
   ·obtain rfl:=j6 ho;obtain ⟨a1,a2,a3,a4,a5,a6⟩:=h.all _ _ h1;refine ⟨{a1 with TO:=λr hr=> ?_},⟨a2.maps,λr hr=> ?_⟩,a3,a4,a5,?_⟩
    ·rcases g9.1 hr with hr|hr
     ·exact a1.TO r hr
     ·rw [i6.1 hr];exact ⟨hm0,by show _<((o1.maps.length:Nat):Int);rw [a5];exact hm1,hw⟩
    ·rcases g9.1 hr with hr|hr
     ·exact a2.RW r hr
     grind
    ·show (o1.RW++[x.2]).length<=_
     grind
   ·cases ho
  ·obtain ⟨a1,a2,a3,a4,a5,a6⟩:=h.all _ _ ho
   grind
 ·obtain ⟨a1,a2,a3,a4,a5,a6⟩:=h.all _ _ ho
  grind
theorem uT.puts{c:zN}{l:List (Nat×zq)}:∀{b:Nat} {os:List zc} (h:uT c b os) (hl:∀x∈l,0<=x.2.Item.SE/\x.2.Item.SE<c.Maps.length/\(x.2.Ts=true\/(0<=x.2.Item.Op/\x.2.Item.Op<5))/\u64 x.2.Item.SJ),uT c (b+l.length) (KH.puts os l):=by
 induction l with
 |nil=>exact λh _=>h
 |cons x l ih=>
  intro b os h hl;obtain ⟨a1,a2,a3,a4⟩:=hl x zcs;have:=ih (h.put a1 a2 a3 a4) (λy hy=>hl y (zcm _ hy));exact this.mono (by grind)
theorem wP:∀{os:List zc} {o:zc} {r:zq},o∈KH.puts os l->r∈o.RW->(∃o'∈os,r∈o'.RW)\/∃x∈l,x.2=r:=by
 induction l with
 |nil=>exact λho hr=>.inl ⟨_,ho,hr⟩
 |cons x l ih=>
  intro os o r ho hr;rcases ih (os:=oh os x) ho hr with ⟨o',h1,h2⟩|⟨y,h1,h2⟩
  ·unfold oh at h1;split at h1
   ·rename_i o1 e1
    rcases p9 h1 with h1|rfl
    ·grind
    ·rcases g9.1 (show r∈o1.RW++[x.2] from h2) with h2|h2
     ·grind
     grind
   grind
  grind
theorem tc{os:List zc}(h:(oh os x)[i]? =some o):∃o',os[i]? =some o'/\o'.RY=o.RY:=by
 unfold oh at h;split at h
 ·rename_i o1 h1
  rw [yo] at h;split at h
  ·rename_i e
   subst e;split at h
   ·obtain rfl:=j6 h;exact ⟨o1,h1,rfl⟩
   ·cases h
  ·exact ⟨o,h,rfl⟩
 ·exact ⟨o,h,rfl⟩
theorem gI:∀{os:List zc} {i:Nat} {o:zc},(KH.puts os l)[i]? =some o->∃o',os[i]? =some o'/\o'.RY=o.RY:=by
 induction l with
 |nil=>exact λh=>⟨_,h,rfl⟩
 |cons x l ih=>
  intro os i o h;obtain ⟨o1,h1,e1⟩:=ih (os:=oh os x) h
  grind [tc]
def hZ(k:Int)(n:Nat):Nat:=((aB k (n:Int)).getD 0).toNat
theorem Dy{b:Nat}{os:List zc}(h:uT c b os)(hs:1<=c.RZ/\c.RZ<=4)(hne:∀o∈os,o.RY=false)(hm0:0<=r.Item.SE)(hm1:r.Item.SE<c.Maps.length)(hop:0<=r.Item.Op/\r.Item.Op<5)(hb:(b+1)*56<=140737488355328):
  ∃(p:Nat)(o:zc),hZ r.Item.SQ os.length=p/\aB r.Item.SQ (os.length:Int)=some (p:Int)/\p<os.length/\Go.Sx.idx os (p:Int)=some o/\os[p]? =some o/\jI o [r]=some (0,Mf o r):=by
 obtain ⟨p,hp,hlt⟩:=wO (k:=r.Item.SQ) (n:=(os.length:Int)) (by rw [h.len];exact hs.1) (by rw [h.len];exact hs.2)
 have hpl:p<os.length:=by omega
 have hg:=zeg hpl;obtain ⟨a1,a2,a3,a4,a5,a6⟩:=h.all _ _ hg;refine ⟨p,os[p],by grind [hZ],hp,hpl,mi hpl,hg,?_⟩;rw [h.len] at hp;exact H6 (hne _ (yb hpl)) hm0 (by rw [a5];exact hm1) (.inr ⟨hop.1,hop.2,by grind⟩) (by omega)
def oO:zh:=⟨0,0,0,0⟩
def CJ:zk:=⟨0,false,0,false,0,0⟩
def OD(k:ze):zx:=⟨k.Id.E,k.Id.N,k.Id.SD,k.Id.Pairs++k.parts.flatten⟩
def E5(k:ze):ze:=⟨k.Sv,w64 (k.Su+1),false,k.Sd,Qi,[],k.Se++[OD k]⟩
def QH(t:Int)(k:ze):zd:=⟨2,t,0,k.Su,0,0,0,0,0,0,oO,CJ,vc k.Id.N,k.Id.E⟩
def rK(t:Int)(k:ze):zd:=⟨1,t,0,k.Su,0,0,0,0,0,0,oO,CJ,0,0⟩
def QI(t:Int)(k:ze)(n hook:Int):zd:=⟨4,t,0,k.Su,0,n,hook,0,0,0,oO,CJ,0,0⟩
def withA(k:ze)(a:zx):ze:={k with Id:=a}
def Dz(h:za)(t:Nat)(k:ze)(es:List zd)(rs:List zt)(g:zP):za:=
 {h with or:=h.or.set t (E5 k),RN:=rs,Sw:=h.Sw++es++[QH t k],SH:=g}
def bv(cmd:zF):List zh:=if cmd.RS=0 then [cmd.Item] else cmd.Sy
def vG(t:Int)(n:Nat)(l:List zh):List (Nat×zq):=l.mapIdx (λi x=>(hZ x.SQ n,⟨t,(i:Int),false,x⟩))
def aE(t:Int)(n:Nat)(m:Int):List (Nat×zq):=(List.range n).map (λs=>(s,⟨t,(s:Int),true,⟨m,0,0,0⟩⟩))
def Bj(k:ze)(n:Int)(res:List zk)(ps:List (List zp)):ze:=⟨k.Sv,k.Su,true,n,⟨0,k.Id.N,res,k.Id.Pairs⟩,ps,k.Se⟩
def Kv(h:za)(t:Nat)(k k':ze)(os:List zc)(l:List zB):za:=
 {h with or:=h.or.set t k',Fd:=os,RW:=l,Sw:=h.Sw++[rK t k]}
def Bl(c:zN)(i:zh):Prop:=0<=i.SE/\i.SE<c.Maps.length/\0<=i.Op/\i.Op<5
inductive CMv (h:za) (t:Nat) (k:ze) (cmd:zF):za->Prop
 |told (E:Int):E≠0->CMv h t k cmd (Dz h t (withA k ⟨E,k.Id.N,k.Id.SD,k.Id.Pairs⟩) [rK t k] h.RN h.SH)
 | fire (i : Nat) (r r' : zt) (n E : Int) (g : zP) : h.closed = false -> cmd.RS = 3 -> cmd.SG = i -> h.RN[i]? = some r -> vL r cmd.Sl h.SH = some (n, E, r', g) ->
   CMv h t k cmd (Dz h t (withA k ⟨E,if E=0 then n else k.Id.N,k.Id.SD,k.Id.Pairs⟩) ([rK t k]++if E=0 then [QI t k n i] else []) (h.RN.set i r') g)
 | items : h.closed = false -> (cmd.RS = 0 \/ cmd.RS = 1) -> 1 <= (bv cmd).length -> (bv cmd).length <= 16 -> (∀ i ∈ bv cmd, Bl h.Sk i) ->
   CMv h t k cmd (Kv h t k (Bj k (bv cmd).length (List.replicate (bv cmd).length CJ) k.parts) (puts h.Fd (vG t h.Fd.length (bv cmd))) h.RW)
 | walk : h.closed = false -> cmd.RS = 2 -> 0 <= cmd.SE -> cmd.SE < h.Sk.Maps.length ->
   CMv h t k cmd (Kv h t k (Bj k h.Fd.length k.Id.SD (List.replicate h.Fd.length [])) (puts h.Fd (aE t h.Fd.length cmd.SE)) h.RW)
 |call:h.closed=false->4<=cmd.RS->cmd.RS<=10->CMv h t k cmd (Kv h t k (Bj k 1 k.Id.SD k.parts) h.Fd (h.RW++[⟨t,cmd,0⟩]))
end
open Go.Sx
variable {i:Nat} {h:za} {c:zN} {n:Nat} {l:List zh} {m:Int}
theorem zT{α:Type}{xs:List α}{x:α}(h:xs[i]? =some x):Go.Sx.idx xs (i:Int)=some x:=by
 grind [mi]
theorem xg{m b:Nat}(h:m*b<=140737488355328):room m b=some ():=by
 grind [room]
structure pH (s:List zF) (k:ze):Prop where
 Sv:k.Sv=s
 Uo:0<=k.Su
 Up:k.Su<=s.length
 UE:k.waits=true->k.Su<s.length
 Uq:(k.Se.length:Int)=k.Su
 done:∀a∈k.Se,a.SD.length<=16/\a.Pairs.length<=64
 res:k.Id.SD.length<=16
 Uv:k.Id.Pairs=[]
 Uf:k.parts.length<=4
 part:∀p∈k.parts,p.length<=16
 Ua:k.waits=false->k.Sd=0
structure Bm (H K:Nat) (w:zH):Prop where
 SC:WJ H K w.RP
 cur:0<=w.SF/\w.SF<H
 rep:∀r,w.SZ=some r->u64 r.SJ
 over:w.RY=true->w.RP.RX=0
def wQ(cs:List ze)(W:Nat)(r:zq):Prop:=
 (∃(t:Nat)(k:ze),r.Te=t/\cs[t]? =some k/\0<=r.TG/\(r.Ts=true->r.TG<k.parts.length)/\(r.Ts=false->r.TG<k.Id.SD.length))\/
 ∃j:Nat,r.Te=(cs.length:Int)+j/\j<W/\r.Ts=false
def lh(h:za)(t:Int):Nat:=gu h.RW t+gu h.held t+(if h.closed=true/\h.over=false/\h.Sa=t then 1 else 0)
structure bS (c:zN) (ss:List (List zF)):Prop where
 hk:1<=c.Sh/\c.Sh<=4
 wk:1<=c.RR/\c.RR<=4
 sh:1<=c.RZ/\c.RZ<=4
 mp:c.Maps.length<=4
 cl:1<=ss.length/\ss.length<=4
 sl:∀s∈ss,s.length<=64
 fit:∀s∈ss,∀c∈s,Fit c
structure HI (c:zN) (ss:List (List zF)) (n:Nat) (h:za):Prop where
 Ta:n<=100000000
 Sk:h.Sk=c
 cl:h.or.length=ss.length
 cr:(h.LT.length:Int)=c.RR
 rg:(h.RN.length:Int)=c.Sh
 SY:fD c.Sh.toNat c.Maps.length c.RR.toNat n h.Fn
 Tj:∀r∈h.RN,kA r/\∀q∈r.waiting,u64 q.Sl.A/\u64 q.Sl.B
 Ue:∀(t:Nat) k s,h.or[t]? =some k->ss[t]? =some s->pH s k
 crew:∀w∈h.LT,Bm c.Sh.toNat c.Maps.length w
 own:uT c (16*n) h.Fd
 Uh:∀o∈h.Fd,∀r∈o.RW,wQ h.or h.LT.length r
 Tz:∀(t:Nat) k,h.or[t]? =some k->k.Sd=((eW h.Fd t+lh h t:Nat):Int)
 TE:∀t:Nat,lh h t=0\/(lh h t=1/\eW h.Fd t=0)
 call:∀x∈h.RW++h.held,(∃t:Nat,x.SA=t/\t<ss.length)/\x.cmd.Sn.length<=140737488355328/\4<=x.cmd.RS/\x.cmd.RS<=10
 Sa:∃t:Nat,h.Sa=t/\t<ss.length
 TF:h.Sf.RT.length=ss.length+c.RR.toNat+c.RZ.toNat+1
 TA:∀o∈h.Fd,o.RY=true->h.closed=true/\∀w∈h.LT,w.RY=true
 TK:∀w∈h.LT,w.RY=true->h.closed=true
 TL:h.Sw.length<=200*n
 Uc:h.RW.length<=n
 hel:h.held.length<=n
theorem E6{l:List (List zp)}{b:Nat}(h:∀p∈l,p.length<=b):l.flatten.length<=l.length*b:=by
 induction l with
 |nil=>simp
 |cons p l ih=>
  have h1:=h p zcs;have h2:=ih λq hq=>h q (zcm _ hq)
  rw [yj,l6,t7,v5];omega
theorem Kw{s:List zF}{k:ze}(hk:pH s k):(OD k).SD.length<=16/\(OD k).Pairs.length<=64:=by
 refine ⟨hk.res,?_⟩;show (k.Id.Pairs++k.parts.flatten).length<=64;have h1:=E6 hk.part;have h2:=hk.Uf;rw [hk.Uv,List.nil_append];omega
theorem H7{t:Nat}{k:ze}{s:List zF}(ht:h.or[t]? =some k)(hk:pH s k)(hs:s.length<=64)(hl:h.Sw.length<=500000000000):qX h (t:Int)=some (Dz h t k [] h.RN h.SH):=by
 unfold qX;rw [zT ht,zbs]
 have hloop:jL (eZ k) (λ(s377:(List zp))=>{k with Id:=(zx.mk k.Id.E k.Id.N k.Id.SD s377)}) (k.parts).length 0 k.Id.Pairs=some {k with Id:=(OD k)}:=by
  refine OK.is (g8 (λi l=>l=k.Id.Pairs++(k.parts.take i).flatten) (by simp) (λi l again hi hI ha=> ?_) (λl hl=> ?_))
  ·subst hI;unfold eZ;refine f9 (i7 hi λp hp=>f9 (OK.hasRoom ?_ (ha _ ?_)))
   ·have h1:=E6 (l:=k.parts.take i) (b:=16) λq hq=>hk.part q (z9 hq)
    have h2:=hk.part p (zmg hp);have h3:=hk.Uf;rw [yg] at h1;rw [hk.Uv,List.nil_append];omega
   ·rw [ng hp,yd,o4];simp
  ·subst hl;rw [List.take_length];rfl
 rw [hloop];simp only [zbs];have h1:=hk.Uq;have h2:=hk.Up;rw [xg (m:=h.Sw.length+_) (b:=176) (by grind)];simp only [zbs];rw [xg (m:=k.Se.length+_) (b:=64) (by grind)];simp only [zbs,k8,i5];unfold Dz;rw [i8];rfl
theorem H8{t:Nat}{k:ze}{s:List zF}(ht:h.or[t]? =some k)(hk:pH s k)(hs:s.length<=64)(hl:h.Sw.length<=400000000000)(E N:Int){es:List zd}(he:es.length<=2)(rs:List zt)(g:zP):
  qX {h with or:=h.or.set t (withA k ⟨E,N,k.Id.SD,k.Id.Pairs⟩),RN:=rs,Sw:=h.Sw++es,SH:=g} (t:Int)=some (Dz h t (withA k ⟨E,N,k.Id.SD,k.Id.Pairs⟩) es rs g):=by
 have hlt:=(zes.1 ht).1;rw [H7 (k:=withA k ⟨E,N,k.Id.SD,k.Id.Pairs⟩) (s:=s) (by grind) ⟨hk.Sv,hk.Uo,hk.Up,hk.UE,hk.Uq,hk.done,hk.res,hk.Uv,hk.Uf,hk.part,hk.Ua⟩ hs (by grind)];unfold Dz;simp only [yz,i8]
theorem E7(hc:h.Sk=c)(l:List zh):∃b,xK h l=some b/\(b=false->∀i∈l,Bl c i):=by
 subst hc;unfold xK qd qh
 obtain ⟨o,h1,h2⟩:OK (jL (qx l h) (λ(s126:Unit)=>(.inl ())) l.length 0 ()) (λo=>match o with|.inl _=>∀i∈l,Bl h.Sk i|.inr r=>0<=r):=by
  refine g8 (λi _=>∀x∈l.take i,Bl h.Sk x) (by simp) (λi s again hi hI ha=> ?_) (λs hs=>by grind);unfold qx;refine f9 (i7 hi λx hx=> ?_);refine d6 (R:=λb=>b=false->Bl h.Sk x) ?_ (λb hb=>d5 (λe=>b9 (by grind)) (λe=>ha _ (λy hy=> ?_)))
  ·unfold cM;refine d6 (R:=λb=>b=false->Bl h.Sk x) ?_ (λb hb=>b9 hb);refine d5 (λe=>b9 λz=>by cases z) (λe1=>d5 (λe=>b9 λz=>by cases z) (λe2=>d5 (λe=>b9 λz=>by cases z) (λe3=>b9 λe4=> ?_)));simp only [decide_eq_false_iff_not] at e1 e2 e3 e4;exact ⟨by omega,by omega,by omega,by omega⟩
  ·rw [ng hx] at hy
   grind
 rw [h1];cases o with
 |inl _=>exact ⟨_,rfl,λ_=>h2⟩
 |inr r=>
  refine ⟨_,rfl,λe=> ?_⟩
  grind
theorem td{t:Int}{x:zh}(h:l[i]? =some x):(vG t n l)[i]? =some (hZ x.SQ n,⟨t,(i:Int),false,x⟩):=by
 grind [vG]
theorem fQ{t:Int}:(vG t n l).length=l.length:=by
 grind [vG]
theorem Bo(os:List zc)(l:List (Nat×zq))(x:Nat×zq):puts os (l++[x])=oh (puts os l) x:=by
 grind [puts]
theorem fR{t:Int}{x:Nat×zq}(h:x∈vG t n l):∃(i:Nat)(y:zh),l[i]? =some y/\x=(hZ y.SQ n,⟨t,(i:Int),false,y⟩):=by
 obtain ⟨i,hi⟩:=q9 h;have hl:=(zes.1 hi).1;rw [fQ] at hl;rw [td (zeg hl)] at hi
 grind
theorem uU{b:Nat}{os:List zc}(h:uT c b os)(hs:1<=c.RZ/\c.RZ<=4)(hne:∀o∈os,o.RY=false){t:Int}(hg:∀i∈l,Bl c i/\u64 i.SJ)(hb:(b+l.length+1)*56<=140737488355328)
  {body:Nat->(List zc->Option (List zc))->List zc->Option (List zc)}
  (hbody:∀i again (s:List zc),body i again s=(Go.Sx.idx l (i:Int)).bind λx=>(aB x.SQ (s.length:Int)).bind λp=>(Go.Sx.idx s p).bind λo=>(jI o [⟨t,(i:Int),false,x⟩]).bind λr=>again (s.set (Int.toNat p) r.2)):
  jL body (λs=>s) l.length 0 os=some (puts os (vG t os.length l)):=by
 refine OK.is (g8 (λi s=>s=puts os ((vG t os.length l).take i)) rfl (λi s again hi hI ha=> ?_) (λs hs=>by grind [fQ]));subst hI;rw [hbody];refine f9 (i7 hi λx hx=> ?_);have hr:=td (t:=t) (n:=os.length) hx;have hlen:(puts os ((vG t os.length l).take i)).length=os.length:=oM _ _;have hx2:=hg x (zmg hx)
 have hO:uT c (b+l.length) (puts os ((vG t os.length l).take i)):=by
  refine (h.puts (l:=(vG t os.length l).take i) (λy hy=> ?_)).mono (by grind);obtain ⟨j,z,hz,rfl⟩:=fR (z9 hy);obtain ⟨g1,g2⟩:=hg z (zmg hz);exact ⟨g1.1,g1.2.1,.inr g1.2.2,g2⟩
 obtain ⟨p,o,h1,h2,h3,h4,h5,h6⟩:=Dy hO hs (λo ho=>by
  obtain ⟨j,hj⟩:=q9 ho
  grind [gI]) (r:=⟨t,(i:Int),false,x⟩) hx2.1.1 hx2.1.2.1 hx2.1.2.2 (by omega)
 have h1:hZ x.SQ (puts os ((vG t os.length l).take i)).length=p:=h1;rw [show aB x.SQ ((puts os ((vG t os.length l).take i)).length:Int)=some (p:Int) from h2];simp only [zbs];rw [h4];simp only [zbs];rw [h6];simp only [zbs,k8];refine ha _ ?_;rw [ng hr,Bo]
 grind [oh]
theorem DA{t:Int}(h:i<n):(aE t n m)[i]? =some (i,⟨t,(i:Int),true,⟨m,0,0,0⟩⟩):=by
 grind [aE]
theorem iD{t:Int}:(aE t n m).length=n:=by
 grind [aE]
theorem fS{t:Int}{x:Nat×zq}(h:x∈aE t n m):∃i:Nat,i<n/\x=(i,⟨t,(i:Int),true,⟨m,0,0,0⟩⟩):=by
 grind [aE]
theorem H9{b:Nat}{os:List zc}(h:uT c b os)(hs:1<=c.RZ/\c.RZ<=4)(hne:∀o∈os,o.RY=false){t:Int}{x:zF}(h0:0<=x.SE)(h1:x.SE<c.Maps.length)(hb:(b+6)*56<=140737488355328):
  jL (dQ t x) (λs=>s) os.length 0 os=some (puts os (aE t os.length x.SE)):=by
 refine OK.is (g8 (λi s=>s=puts os ((aE t os.length x.SE).take i)) rfl (λi s again hi hI ha=> ?_) (λs hs=>by grind [iD]));subst hI;unfold dQ;have hlen:(puts os ((aE t os.length x.SE).take i)).length=os.length:=oM _ _;have ho4:os.length<=4:=by have:=h.len;omega
 have hO:uT c (b+4) (puts os ((aE t os.length x.SE).take i)):=by
  refine (h.puts (l:=(aE t os.length x.SE).take i) (λy hy=> ?_)).mono (by grind)
  grind [fS,z64]
 refine f9 (i7 (by rw [hlen];exact hi) λo ho=> ?_)
 obtain ⟨a1,a2,a3,a4,a5,a6⟩:=hO.all _ _ ho
 have hne2:o.RY=false:=by
  grind [gI]
 rw [H6 hne2 (r:=⟨t,(i:Int),true,⟨x.SE,0,0,0⟩⟩) h0 (by rw [a5];exact h1) (.inl rfl) (by omega)]
 simp only [zbs,k8];refine ha _ ?_;rw [ng (DA (t:=t) (m:=x.SE) hi),Bo];unfold oh;simp only [ho];rfl
end
open Go.Sx
variable {c:zN} {ss:List (List zF)} {n:Nat} {h:za}
theorem HI.logb(hI:HI c ss n h):h.Sw.length<=20000000000:=by
 have:=hI.TL;have:=hI.Ta;omega
theorem HI.at{c:zN}{ss:List (List zF)}{n:Nat}{h:za}(hI:HI c ss n h){t:Nat}{k:ze}(ht:h.or[t]? =some k):∃s,ss[t]? =some s/\pH s k:=by
 have h1:=(zes.1 ht).1;rw [hI.cl] at h1;exact ⟨_,zeg h1,hI.Ue t k _ ht (zeg h1)⟩
theorem DB(hS:bS c ss)(hI:HI c ss n h){t:Nat}{k:ze}(ht:h.or[t]? =some k)(hw:k.waits=true):
  xT h (t:Int)=some (Dz h t k [] h.RN h.SH):=by
 obtain ⟨s,hs,hk⟩:=hI.at ht;unfold xT;rw [zT ht,zbs,d7 hw,H7 ht hk (hS.sl s (zmg hs)) (by have:=hI.logb;omega)];rfl
theorem F7(hS:bS c ss)(hI:HI c ss n h){t:Nat}{k:ze}(ht:h.or[t]? =some k)(hw:k.waits=false)(hat:k.Su<k.Sv.length):
  ∃cmd,k.Sv[k.Su.toNat]? =some cmd/\OK (xT h (t:Int)) (CMv h t k cmd):=by
 obtain ⟨s,hs,hk⟩:=hI.at ht;have hs64:=hS.sl s (zmg hs);have hlog:=hI.logb;have hc:=hI.Sk;have hown:=hI.own;have ha0:=hk.Uo;obtain ⟨cmd,hx,hg⟩:=oK (xs:=k.Sv) ha0 hat;have hfit:Fit cmd:=hS.fit s (zmg hs) cmd (by rw [<- hk.Sv];exact zmg hg)
 refine ⟨cmd,hg,?_⟩;have hb:=hI.Ta;have hln:=hI.Uc;unfold xT;rw [zT ht,zbs,d8 (by simp [hw])];rw [xg (m:=h.Sw.length+_) (b:=176) (by grind)];simp only [zbs];rw [hx];simp only [zbs,k8]
 have told:∀E:Int,E≠0->OK (qX {h with or:=h.or.set t (withA k ⟨E,k.Id.N,k.Id.SD,k.Id.Pairs⟩),Sw:=h.Sw++[rK t k]} (t:Int)) (CMv h t k cmd):=λE hE=>
  OK.eq (H8 ht hk hs64 (by omega) E k.Id.N (by simp) h.RN h.SH) (.told E hE)
 refine d5 (λhcl=>d6 (told 43 (by decide)) λr hr=>b9 hr) (λhcl=> ?_)
 have hne:∀o∈h.Fd,o.RY=false:=λo ho=>by
  cases he:o.RY with
  |false=>rfl
  |true=>rw [(hI.TA o ho he).1] at hcl;cases hcl
 have hO4:h.Fd.length<=4:=by have:=hown.len;have:=hS.sh;omega
 refine d6 (R:=λo=>match o with
  |.inl q=>CMv h t k cmd {h with or:=h.or.set t ⟨q.1.Sv,q.1.Su,true,q.1.Sd,⟨0,q.1.Id.N,q.1.Id.SD,q.1.Id.Pairs⟩,q.1.parts,q.1.Se⟩,Fd:=q.2.1,RW:=q.2.2,Sw:=h.Sw++[rK t k]}
  |.inr r=>CMv h t k cmd r) ?_ (λo ho=> ?_)
 rotate_left
 ·cases o with
  |inl q=>exact b9 ho
  |inr r=>exact b9 ho
 refine d6 (R:=λb=>b=decide (cmd.RS=0\/cmd.RS=1)) (d5 (λe=>b9 (by grind)) (λe=>b9 (by grind))) (λb hb1=> ?_);subst hb1;refine d5 (λh01=> ?_) (λh01=> ?_)
 ·have h01:=yc h01;refine d5 (λh0=> ?_) (λh0=> ?_)
  ·have h0:cmd.RS=0:=by simpa using h0
   obtain ⟨b,hb2,hb3⟩:=E7 (h:=za.mk h.Fn h.Sf h.Sk h.or h.LT h.Fd h.RN h.RW h.held h.Sa h.closed h.over (h.Sw++[rK t k]) h.SH) (c:=c) hc [cmd.Item];rw [show xK {h with Sw:=(h.Sw++[(zd.mk 1 (t:Int) 0 k.Su 0 0 0 0 0 0 (zh.mk 0 0 0 0) (zk.mk 0 false 0 false 0 0) 0 0)])} ([cmd.Item])=some b from hb2,zbs];refine d5 (λ_=>d6 (told 2 (by decide)) λr hr=>b9 hr) (λhbf=> ?_);have hgood:=hb3 hbf;have hm:mkLen 1 48=some 1:=by grind [mkLen]
   have hit:bv cmd=[cmd.Item]:=by grind [bv]
   have hl:=uU hown hS.sh hne (t:=(t:Int)) (l:=[cmd.Item]) (λi hi=>⟨hgood i hi,by rw [i6.1 hi];exact hfit.it⟩) (by grind) (body:=dP (t:Int) cmd) (λi again s=>rfl)
   rw [hm,zbs,show jL (dP (t:Int) cmd) (λ(s9182:(List zc))=>s9182) 1 0 h.Fd=_ from hl,zbs];have:=CMv.items (h:=h) (t:=t) (k:=k) (cmd:=cmd) hcl h01 (by rw [hit];simp) (by rw [hit];simp) (λi hi=>by grind);rw [hit] at this;exact b9 this
  ·have h0:cmd.RS≠0:=by simpa using h0
   have h1:cmd.RS=1:=by omega
   have hit:bv cmd=cmd.Sy:=by grind [bv]
   refine d6 (R:=λb=>b=false->1<=cmd.Sy.length/\cmd.Sy.length<=16/\∀i∈cmd.Sy,Bl c i) ?_ (λb hb3=> ?_)
   ·refine d5 (λ_=>b9 λz=>by cases z) (λe1=>d5 (λ_=>b9 λz=>by cases z) (λe2=> ?_));obtain ⟨b,hb2,hb3⟩:=E7 (h:=za.mk h.Fn h.Sf h.Sk h.or h.LT h.Fd h.RN h.RW h.held h.Sa h.closed h.over (h.Sw++[rK t k]) h.SH) (c:=c) hc cmd.Sy;rw [show xK {h with Sw:=(h.Sw++[(zd.mk 1 (t:Int) 0 k.Su 0 0 0 0 0 0 (zh.mk 0 0 0 0) (zk.mk 0 false 0 false 0 0) 0 0)])} cmd.Sy=some b from hb2,zbs]
    grind [b9]
   refine d5 (λ_=>d6 (told 2 (by decide)) λr hr=>b9 hr) (λhbf=> ?_);obtain ⟨l1,l16,hgood⟩:=hb3 hbf;have hm:mkLen (cmd.Sy.length:Int) 48=some cmd.Sy.length:=by grind [mkLen]
   have hl:=uU hown hS.sh hne (t:=(t:Int)) (l:=cmd.Sy) (λi hi=>⟨hgood i hi,hfit.its i hi⟩) (by omega) (body:=gT (t:Int) cmd) (λi again s=>rfl);rw [hm,zbs,xg (by omega),zbs,hl,zbs];have:=CMv.items (h:=h) (t:=t) (k:=k) (cmd:=cmd) hcl h01 (by rw [hit];exact l1) (by rw [hit];exact l16) (λi hi=>by grind)
   rw [hit] at this;exact b9 this
 have h01:=yu h01;refine d5 (λh2=> ?_) (λh2=> ?_)
 ·have h2:cmd.RS=2:=by simpa using h2
  refine d5 (λ_=>d6 (told 2 (by decide)) λr hr=>b9 hr) (λhm=> ?_);simp only [Bool.or_eq_false_iff,decide_eq_false_iff_not] at hm;have hm1:mkLen (h.Fd.length:Int) 24=some h.Fd.length:=by grind [mkLen]
  rw [hm1,zbs,H9 hown hS.sh hne (by omega) (by rw [<- hc];omega) (by omega),zbs];exact b9 (.walk hcl h2 (by omega) (by omega))
 refine d5 (λh3=> ?_) (λh3=> ?_)
 ·have h3:cmd.RS=3:=by simpa using h3
  refine d5 (λ_=>d6 (told 2 (by decide)) λr hr=>b9 hr) (λhm=> ?_);simp only [Bool.or_eq_false_iff,decide_eq_false_iff_not] at hm;obtain ⟨r,hr,hr2⟩:=oK (xs:=h.RN) (t:=cmd.SG) (by omega) (by omega);rw [hr,zbs];obtain ⟨q1,q2,q3,q4,hq,_⟩:=iP (hI.Tj r (zmg hr2)).1 cmd.Sl h.SH;rw [hq,zbs];have hk3:(cmd.SG.toNat:Int)=cmd.SG:=by omega
  have hmv:=CMv.fire (h:=h) (t:=t) (k:=k) (cmd:=cmd) cmd.SG.toNat r q3 q1 q2 q4 hcl h3 hk3.symm hr2 hq;simp only;refine d5 (λhe=> ?_) (λhe=> ?_)
  ·have he:q2=0:=by simpa using he
   subst he;rw [xg (m:=(h.Sw++_).length+_) (b:=176) (by grind)];simp only [zbs];rw [d7 (by simp [hw])];rw [d7 rfl,d7 rfl,hk3] at hmv;have:=H8 ht hk hs64 (by omega) 0 q1 (es:=[rK t k]++[QI t k q1 cmd.SG]) (by simp) (h.RN.set cmd.SG.toNat q3) q4;rw [<- o4] at this;refine d6 (OK.eq this hmv) (λr hr=>b9 hr)
  ·have he:q2≠0:=by simpa using he
   rw [d7 (by simp [he])];rw [d8 he,d8 he,i8] at hmv;exact d6 (OK.eq (H8 ht hk hs64 (by omega) q2 k.Id.N (es:=[rK t k]) (by simp) (h.RN.set cmd.SG.toNat q3) q4) hmv) (λr hr=>b9 hr)
 refine d6 (R:=λb=>b=true->4<=cmd.RS/\cmd.RS<=10) ?_ (λb hb2=> ?_)
 ·refine d5 (λe=>b9 λz=> ?_) (λ_=>d5 (λe=>b9 λz=> ?_) (λ_=>d5 (λe=>b9 λz=> ?_) (λ_=>d5 (λe=>b9 λz=> ?_) (λ_=>d5 (λe=>b9 λz=> ?_) (λ_=>d5 (λe=>b9 λz=> ?_) (λ_=>b9 λz=> ?_))))))
  all_goals (have z:=eq_of_beq z;omega)
 refine d5 (λe=> ?_) (λ_=>d6 (told 2 (by decide)) λr hr=>b9 hr);obtain ⟨k4,k10⟩:=hb2 e;rw [xg (m:=h.RW.length+_) (b:=144) (by grind)];exact b9 (.call hcl k4 k10)
end
open Go.Sx
variable {α:Type} {i:Nat} {l:List α} {x y:α}
theorem aq{j:Nat}(h:(l.set i x)[j]? =some y):(j=i/\y=x/\i<l.length)\/(j≠i/\l[j]? =some y):=by
 rw [yo] at h;split at h
 ·rename_i e
  split at h
  ·exact .inl ⟨e.symm,(j6 h).symm,by assumption⟩
  ·cases h
 ·exact .inr ⟨λe=> ‹¬_› e.symm,h⟩
theorem vD{j:Nat}(h:l[j]? =some y)(hn:j≠i):(l.set i x)[j]? =some y:=by
 grind
theorem oP(h:l[i]? =some y):(l.set i x)[i]? =some x:=by
 grind
variable {c:zN} {ss:List (List zF)} {n:Nat} {h:za}
theorem HI.idle(hI:HI c ss n h){t:Nat}{k:ze}(ht:h.or[t]? =some k)(hm:k.Sd=0):eW h.Fd t=0/\lh h t=0:=by
 have:=hI.Tz t k ht;omega
theorem wQ.keep{cs:List ze}{W:Nat}{r:zq}(hr:wQ cs W r){t:Nat}(ht:r.Te≠t)(k':ze):wQ (cs.set t k') W r:=by
 rcases hr with ⟨u,k,e,hu,a⟩|⟨j,e,b⟩
 ·refine .inl ⟨u,k,e,vD hu (λz=>ht (by rw [e,z])),a⟩
 ·exact .inr ⟨j,by grind,b⟩
theorem wQ.same{cs cs':List ze}{W:Nat}{r:zq}(hr:wQ cs W r)(hl:cs'.length=cs.length)(hk:∀(t:Nat) k,cs[t]? =some k->∃k',cs'[t]? =some k'/\k'.parts.length=k.parts.length/\k'.Id.SD.length=k.Id.SD.length):wQ cs' W r:=by
 rcases hr with ⟨u,k,e,hu,a1,a2,a3⟩|⟨j,e,b⟩
 ·obtain ⟨k',h1,h2,h3⟩:=hk u k hu;exact .inl ⟨u,k',e,h1,a1,by rw [h2];exact a2,by rw [h3];exact a3⟩
 ·exact .inr ⟨j,by rw [hl];exact e,b⟩
def wR(c:zN)(rs:List zt):Prop:=(rs.length:Int)=c.Sh/\∀r∈rs,kA r/\∀q∈r.waiting,u64 q.Sl.A/\u64 q.Sl.B
theorem DC(hI:HI c ss n h)(hn:n+1<=100000000){t:Nat}{k k':ze}{s:List zF}(ht:h.or[t]? =some k)(hs:ss[t]? =some s)(hm:k.Sd=0)(hk:pH s k')(hkm:k'.Sd=0)(hat:k'.Su<s.length)(hs64:s.length<=64){es:List zd}(he:es.length<=2){rs:List zt}(hr:wR c rs)(g:zP):
  HI c ss (n+1) (Dz h t k' es rs g):=by
 obtain ⟨i1,i2⟩:=hI.idle ht hm;exact
 {Ta:=hn
  Sk:=hI.Sk
  cl:=by show (h.or.set t _).length=_;rw [j5];exact hI.cl
  cr:=hI.cr
  rg:=hr.1
  SY:=hI.SY.mono (by omega) (by omega)
  Tj:=hr.2
  Ue:=λu k2 s2 hu hs2=>by
   rcases aq hu with ⟨rfl,rfl,_⟩|⟨_,hu⟩
   ·rw [hs] at hs2;obtain rfl:=j6 hs2;have h0:=hk.Uo;have h1:=hk.Uq;refine ⟨hk.Sv,?_,?_,(λe=>by cases e),?_,λa ha=> ?_,by simp [E5,Qi],rfl,by simp [E5],(λp hp=>by simp [E5] at hp),λ_=>hkm⟩
    ·show 0<=w64 (k'.Su+1);rw [qp (by omega) (by omega)];omega
    ·show w64 (k'.Su+1)<=_;rw [qp (by omega) (by omega)];omega
    ·show ((k'.Se++[OD k']).length:Int)=w64 (k'.Su+1)
     grind [qp]
    ·rcases g9.1 ha with ha|ha
     ·exact hk.done a ha
     grind [Kw]
   ·exact hI.Ue u k2 s2 hu hs2
  crew:=hI.crew
  own:=hI.own.mono (by omega)
  Uh:=λo ho r hr=>(hI.Uh o ho r hr).keep (λe=>by have:=sb (show o∈h.Fd from ho) hr;rw [e,i1] at this;omega) _
  Tz:=λu k2 hu=>by
   rcases aq hu with ⟨rfl,rfl,_⟩|⟨_,hu⟩
   ·show k'.Sd=((eW h.Fd u+lh h u:Nat):Int)
    grind
   ·exact hI.Tz u k2 hu
  TE:=hI.TE
  call:=hI.call
  Sa:=hI.Sa
  TF:=hI.TF
  TA:=hI.TA
  TK:=hI.TK
  TL:=by
   show (h.Sw++es++[QH t k']).length<=_;have:=hI.TL
   grind
  Uc:=by have:=hI.Uc;show h.RW.length<=_;omega
  hel:=by have:=hI.hel;show h.held.length<=_;omega}
theorem DD(hI:HI c ss n h)(hn:n+1<=100000000){t:Nat}{k k':ze}{s:List zF}(ht:h.or[t]? =some k)(hs:ss[t]? =some s)(hm:k.Sd=0)(hk:pH s k'){os:List zc}{l:List zB}
  (ho:uT c (16*n+16) os) (hend:∀o∈os,o.RY=true->h.closed=true/\∀w∈h.LT,w.RY=true) (hreq:∀o∈os,∀r∈o.RW,(∃o'∈h.Fd,r∈o'.RW)\/(r.Te=t/\0<=r.TG/\(r.Ts=true->r.TG<k'.parts.length)/\(r.Ts=false->r.TG<k'.Id.SD.length)))
  (hcnt:∀u:Int,eW os u=eW h.Fd u+(if u=t then eW os t else 0)) (hreg:∀u:Int,gu l u=gu h.RW u+(if u=t then gu l t else 0)) (hmis:k'.Sd=((eW os t+gu l t:Nat):Int)) (hex:gu l t=0\/(gu l t=1/\eW os t=0))
  (hcall:∀x∈l,(∃t:Nat,x.SA=t/\t<ss.length)/\x.cmd.Sn.length<=140737488355328/\4<=x.cmd.RS/\x.cmd.RS<=10) (hl:l.length<=n+1):HI c ss (n+1) (Kv h t k k' os l):=by
 obtain ⟨i1,i2⟩:=hI.idle ht hm
 have hr0:gu h.held t+(if h.closed=true/\h.over=false/\h.Sa=t then 1 else 0)=0:=by
  grind [lh]
 have hreg2:∀u:Nat,lh (Kv h t k k' os l) u=if u=t then gu l t else lh h u:=by
  intro u;have h1:=hreg u;unfold lh;show gu l u+gu h.held u+(if h.closed=true/\h.over=false/\h.Sa=u then 1 else 0)=_
  grind
 exact
 {Ta:=hn
  Sk:=hI.Sk
  cl:=by show (h.or.set t _).length=_;rw [j5];exact hI.cl
  cr:=hI.cr
  rg:=hI.rg
  SY:=hI.SY.mono (by omega) (by omega)
  Tj:=hI.Tj
  Ue:=λu k2 s2 hu hs2=>by
   rcases aq hu with ⟨rfl,rfl,_⟩|⟨_,hu⟩
   ·grind
   ·exact hI.Ue u k2 s2 hu hs2
  crew:=hI.crew
  own:=ho.mono (by omega)
  Uh:=λo ho2 r hr=>by
   rcases hreq o ho2 r hr with ⟨o',h1,h2⟩|⟨e,h1,h2,h3⟩
   ·exact (hI.Uh o' h1 r h2).keep (λe=>by grind [sb]) _
   ·exact .inl ⟨t,k',e,oP ht,h1,h2,h3⟩
  Tz:=λu k2 hu=>by
   rw [hreg2 u];rcases aq hu with ⟨rfl,rfl,_⟩|⟨hne,hu⟩
   ·rw [d7 rfl];exact hmis
   ·rw [d8 hne];show k2.Sd=((eW os u+lh h u:Nat):Int)
    have:=hcnt u;rw [d8 (by omega)] at this;rw [this];exact hI.Tz u k2 hu
  TE:=λu=>by
   rw [hreg2 u];show _\/_/\eW os u=0;by_cases e:u=t
   ·grind
   ·rw [d8 e];have:=hcnt u;rw [d8 (by omega)] at this;rw [this];exact hI.TE u
  call:=λx hx=>by
   rcases g9.1 hx with hx|hx
   ·exact hcall x hx
   ·exact hI.call x (zar _ hx)
  Sa:=hI.Sa
  TF:=hI.TF
  TA:=hend
  TK:=hI.TK
  TL:=by
   show (h.Sw++[rK t k]).length<=_;have:=hI.TL
   grind
  Uc:=hl
  hel:=by have:=hI.hel;show h.held.length<=_;omega}
theorem pH.withA{s:List zF}{k:ze}(hk:pH s k)(E N:Int):pH s (withA k ⟨E,N,k.Id.SD,k.Id.Pairs⟩):=
 ⟨hk.Sv,hk.Uo,hk.Up,hk.UE,hk.Uq,hk.done,hk.res,hk.Uv,hk.Uf,hk.part,hk.Ua⟩
theorem Kx(hS:bS c ss)(hI:HI c ss n h)(hn:n+1<=100000000){t:Nat}{k:ze}(ht:h.or[t]? =some k)(hw:k.waits=true)(hm:k.Sd=0):HI c ss (n+1) (Dz h t k [] h.RN h.SH):=by
 obtain ⟨s,hs,hk⟩:=hI.at ht;exact DC hI hn ht hs hm hk hm (hk.UE hw) (hS.sl s (zmg hs)) (by simp) ⟨hI.rg,hI.Tj⟩ _
theorem Nm(hS:bS c ss)(hI:HI c ss n h)(hn:n+1<=100000000){t:Nat}{k:ze}(ht:h.or[t]? =some k)(hw:k.waits=false)(hat:k.Su<k.Sv.length){cmd:zF}(hc:k.Sv[k.Su.toNat]? =some cmd){h':za}(hv:CMv h t k cmd h'):HI c ss (n+1) h':=by
 obtain ⟨s,hs,hk⟩:=hI.at ht;have hs64:=hS.sl s (zmg hs);have hm:=hk.Ua hw;have hat2:k.Su<s.length:=by rw [<- hk.Sv];exact hat
 have htl:t<ss.length:=(zes.1 hs).1;have hfit:Fit cmd:=hS.fit s (zmg hs) cmd (by rw [<- hk.Sv];exact zmg hc)
 obtain ⟨i1,i2⟩:=hI.idle ht hm;have hl0:gu h.RW t=0:=by grind [lh]
 have hO4:h.Fd.length<=4:=by have:=hI.own.len;have:=hS.sh;omega
 have hendp:∀l,∀o∈puts h.Fd l,o.RY=true->h.closed=true/\∀w∈h.LT,w.RY=true:=λl o ho e=>by
  obtain ⟨j,hj⟩:=q9 ho;obtain ⟨o2,h2,e2⟩:=gI hj;exact hI.TA o2 (zmg h2) (by rw [e2];exact e)
 cases hv with
 |told E hE=>exact DC hI hn ht hs hm (hk.withA E k.Id.N) hm hat2 hs64 (by simp) ⟨hI.rg,hI.Tj⟩ _
 |fire i r r' n2 E g h1 h2 h3 h4 h5=>
  refine DC hI hn ht hs hm (k':=withA k ⟨E,if E=0 then n2 else k.Id.N,k.Id.SD,k.Id.Pairs⟩) (hk.withA _ _) hm hat2 hs64 (rs:=h.RN.set i r') (es:=[rK t k]++if E=0 then [QI t k n2 i] else []) (by grind) ⟨by rw [j5];exact hI.rg,λq hq=> ?_⟩ _
  rcases p9 hq with hq|rfl
  ·exact hI.Tj q hq
  ·obtain ⟨a1,a2⟩:=hI.Tj r (zmg h4);obtain ⟨q1,q2,q3,q4,hq,b1,b2,b3⟩:=iP a1 cmd.Sl h.SH;rw [h5] at hq;cases hq;refine ⟨b1,λx hx=> ?_⟩;rcases b3 with ⟨_,_,e⟩|⟨_,e⟩
   ·rw [e] at hx;rcases g9.1 hx with hx|hx
    ·exact a2 x hx
    ·rw [i6.1 hx];exact hfit.ev
   grind
 |items h1 h2 h3 h4 h5=>
  have hlt:∀x∈vG (t:Int) h.Fd.length (bv cmd),x.1<h.Fd.length:=λx hx=>by
   obtain ⟨i,y,hy,rfl⟩:=fR hx;obtain ⟨p,hp,hlt⟩:=wO (k:=y.SQ) (n:=(h.Fd.length:Int)) (by rw [hI.own.len];exact hS.sh.1) (by grind)
   grind [hZ]
  have hcnt:=Bi (l:=vG (t:Int) h.Fd.length (bv cmd)) (f:=(t:Int)) (λx hx=>by grind [fR]) h.Fd hlt;rw [fQ] at hcnt;have hct:=hcnt t;rw [d7 rfl,i1] at hct
  refine DD hI hn ht hs hm (k':=Bj k (bv cmd).length (List.replicate (bv cmd).length CJ) k.parts) (os:=puts h.Fd (vG t h.Fd.length (bv cmd))) (l:=h.RW) ⟨hk.Sv,hk.Uo,hk.Up,λ_=>hat2,hk.Uq,hk.done,by show (List.replicate _ _).length<=16;rw [Rz];exact h4,hk.Uv,hk.Uf,hk.part,λe=>by cases e⟩
   ((hI.own.puts (l:=vG (t:Int) h.Fd.length (bv cmd)) (λx hx=> ?_)).mono (by grind [fQ])) (hendp _) (λo ho r hr=> ?_) (λu=> ?_) (λu=> ?_) ?_ ?_ ?_ (by have:=hI.Uc;omega)
  ·obtain ⟨i,y,hy,rfl⟩:=fR hx;have hg:=h5 y (zmg hy);rw [hI.Sk] at hg;refine ⟨hg.1,hg.2.1,.inr hg.2.2,?_⟩;show u64 y.SJ;have hy2:=zmg hy;unfold bv at hy2;split at hy2
   ·rw [i6.1 hy2];exact hfit.it
   ·exact hfit.its y hy2
  ·rcases wP ho hr with h6|⟨x,hx,rfl⟩
   ·exact .inl h6
   ·obtain ⟨i,y,hy,rfl⟩:=fR hx;have hil:=(zes.1 hy).1;exact .inr ⟨rfl,by grind,(λe=>by cases e),λ_=>by show (i:Int)<(List.replicate _ _).length;rw [Rz];omega⟩
  ·grind
  ·rw [hl0];simp
  ·rw [hct,hl0];show ((bv cmd).length:Int)=_;omega
  ·exact .inl hl0
  ·exact λx hx=>hI.call x (zal _ hx)
 |walk h1 h2 h3 h4=>
  have hcnt:=Bi (l:=aE (t:Int) h.Fd.length cmd.SE) (f:=(t:Int)) (λx hx=>by grind [fS]) h.Fd (λx hx=>by grind [fS]);rw [iD] at hcnt;have hct:=hcnt t;rw [d7 rfl,i1] at hct
  refine DD hI hn ht hs hm (k':=Bj k h.Fd.length k.Id.SD (List.replicate h.Fd.length [])) (os:=puts h.Fd (aE t h.Fd.length cmd.SE)) (l:=h.RW) ⟨hk.Sv,hk.Uo,hk.Up,λ_=>hat2,hk.Uq,hk.done,hk.res,hk.Uv,by show (List.replicate _ _).length<=4;rw [Rz];exact hO4,λp hp=>by rw [z4 (show p∈List.replicate _ _ from hp)];simp,λe=>by cases e⟩
   ((hI.own.puts (l:=aE (t:Int) h.Fd.length cmd.SE) (λx hx=> ?_)).mono (by grind [iD])) (hendp _) (λo ho r hr=> ?_) (λu=> ?_) (λu=> ?_) ?_ ?_ ?_ (by have:=hI.Uc;omega)
  ·obtain ⟨i,hi,rfl⟩:=fS hx;rw [hI.Sk] at h4
   grind [z64]
  ·rcases wP ho hr with h6|⟨x,hx,rfl⟩
   ·exact .inl h6
   ·obtain ⟨i,hi,rfl⟩:=fS hx;exact .inr ⟨rfl,by grind,λ_=>(by show (i:Int)<(List.replicate _ _).length;rw [Rz];omega),λe=>by cases e⟩
  ·grind
  ·rw [hl0];simp
  ·rw [hct,hl0];show (h.Fd.length:Int)=_;omega
  ·exact .inl hl0
  ·exact λx hx=>hI.call x (zal _ hx)
 |call h1 h2 h3=>
  have hct:gu (h.RW++[⟨t,cmd,0⟩]) t=1:=by grind [mR,rZ]
  refine DD hI hn ht hs hm (k':=Bj k 1 k.Id.SD k.parts) (os:=h.Fd) (l:=h.RW++[⟨t,cmd,0⟩]) ⟨hk.Sv,hk.Uo,hk.Up,λ_=>hat2,hk.Uq,hk.done,hk.res,hk.Uv,hk.Uf,hk.part,λe=>by cases e⟩
   (hI.own.mono (by omega)) hI.TA (λo ho r hr=>.inl ⟨o,ho,hr⟩) (λu=> ?_) (λu=> ?_) ?_ ?_ ?_ (by have:=hI.Uc;rw [l6];simp only [t7,ye];omega)
  ·rw [i1];simp
  ·grind [mR,rZ,gu]
  ·rw [hct,i1];rfl
  ·grind
  ·intro x hx;rcases g9.1 hx with hx|hx
   ·exact hI.call x (zal _ hx)
   ·rw [i6.1 hx];exact ⟨⟨t,rfl,htl⟩,hfit.TW,h2,h3⟩
end
open Go.Sx
variable {o:zc} {i:Nat}
variable {c:zN} {ss:List (List zF)} {n:Nat} {h:za}
def Nn(k:zo)(t:Nat)(x:qm):zo:=⟨k.RT.set t ⟨2,x.Tn⟩,k.LE⟩
def Py(t:Int):zd:=⟨15,t,0,0,0,0,0,0,0,0,oO,CJ,0,0⟩
def Qj(t:Int)(q:bA)(cmd ev:Int):zd:=⟨3,t,q.To,cmd,q.TG,ev,0,0,0,0,q.Item,q.SD,0,0⟩
def Q2(w:zH)(r:zk):zH:={w with SZ:=some r}
def QJ(k:ze)(res:List zk)(ps:List (List zp)):ze:={k with Sd:=k.Sd-1,Id:=⟨k.Id.E,k.Id.N,res,k.Id.Pairs⟩,parts:=ps}
def Ha(h:za)(cs:List ze)(ws:List zH)(os:List zc)(es:List zd):za:=
 {h with or:=cs,LT:=ws,Fd:=os,Sw:=h.Sw++es}
structure tf (fu:Nat) (o:zc) (q:bA) (o':zc) (x:zq) (xs:List zq):Prop where
 step:jJ fu o=some (q,true,o')
 RW:o.RW=x::xs
 Ug:o'.RW=xs
 to:q.To=x.Te
 tag:q.TG=x.TG
 walk:q.Ts=x.Ts
 item:q.Item=x.Item
 RU:q.Pairs.length<=16
 val:u64 q.SD.SJ
 ok:iQ o'
 ou:Gf o'
 sh:o'.Tr=o.Tr/\o'.SX=o.SX/\o'.RY=o.RY/\o'.maps.length=o.maps.length
inductive SMv (fu:Nat) (h:za) (i:Nat) (o:zc):za->Prop
 | ends (t : Nat) (x : qm) : t = h.or.length + h.LT.length + i -> o.RW = [] -> h.Sf.RT[t]? = some x -> x.RX ≠ 2 ->
   SMv fu h i o {h with Sf:=Nn h.Sf t x,Fd:=h.Fd.set i {o with RY:=true},Sw:=h.Sw++[Py t]}
 | crew (t : Nat) (q : bA) (o' : zc) (x : zq) (xs : List zq) (j : Nat) (w : zH) : t = h.or.length + h.LT.length + i -> tf fu o q o' x xs -> x.Te = (h.or.length : Int) + j -> h.LT[j]? = some w ->
   SMv fu h i o (Ha h h.or (h.LT.set j (Q2 w q.SD)) (h.Fd.set i o') [Qj t q 0 w.RP.SC.SI.N])
 | walk (q : bA) (o' : zc) (x : zq) (xs : List zq) (u : Nat) (k : ze) : tf fu o q o' x xs -> x.Te = (u : Int) -> h.or[u]? = some k -> x.Ts = true -> 0 <= x.TG -> x.TG < k.parts.length ->
   SMv fu h i o (Ha h (h.or.set u (QJ k k.Id.SD (k.parts.set x.TG.toNat q.Pairs))) h.LT (h.Fd.set i o') [])
 | item (t : Nat) (q : bA) (o' : zc) (x : zq) (xs : List zq) (u : Nat) (k : ze) : t = h.or.length + h.LT.length + i -> tf fu o q o' x xs -> x.Te = (u : Int) -> h.or[u]? = some k -> x.Ts = false -> 0 <= x.TG -> x.TG < k.Id.SD.length ->
   SMv fu h i o (Ha h (h.or.set u (QJ k (k.Id.SD.set x.TG.toNat q.SD) k.parts)) h.LT (h.Fd.set i o') [Qj t q k.Su 0])
theorem wS{fu:Nat}:Pst (jJ fu o) (λq=>q.2.2.Tr=o.Tr/\q.2.2.SX=o.SX/\q.2.2.RY=o.RY/\q.2.2.maps.length=o.maps.length):=by
 unfold jJ;refine k6 (i4 ⟨rfl,rfl,rfl,rfl⟩) (i9 λx=>i9 λys=>k6 (i9 λs=>i9 λps=>i4 ⟨rfl,rfl,rfl,rfl⟩) (i9 λs=>i9 λq=>i4 ⟨rfl,rfl,rfl,by grind⟩))
theorem Pz{fu:Nat}(hfu:101<fu)(h:iQ o)(hu:Gf o){x:zq}{xs:List zq}(hl:o.RW=x::xs):∃q o',tf fu o q o' x xs:=by
 obtain ⟨⟨q,b,o'⟩,h1,h2,h3,h4⟩:=oS hfu h;have h5:=BA hu _ h1;have h6:=wS _ h1;rcases h4 with ⟨e,_⟩|⟨y,ys,e,rfl,e2,e3,e4,e5,e6,e7⟩
 ·grind
 ·have e0:=hl.symm.trans e;cases e0;refine ⟨q,o',h1,hl,e2,e3,e4,e5,e6,e7,h5.1,h2,⟨h5.2,λr hr=> ?_⟩,h6⟩;have e2:o'.RW=xs:=e2;rw [e2] at hr;exact hu.RW r (by grind)
theorem Np{os:List zc}{b:Nat}(hb:∀o∈os,o.RW.length<=b)(f:Int):eW os f<=os.length*b:=by
 unfold eW
 induction os with
 |nil=>simp
 |cons o os ih=>
  have h1:=hb o zcs;have h2:=ih λp hp=>hb p (zcm _ hp)
  have h3:uS o.RW f<=o.RW.length:=List.countP_le_length;rw [yl,List.sum_cons,t7,v5];omega
theorem HI.cnt_small(hS:bS c ss)(hI:HI c ss n h)(f:Int):eW h.Fd f<=6400000000:=by
 have h1:=Np (os:=h.Fd) (b:=16*n) (λo ho=>by
  obtain ⟨j,hj⟩:=q9 ho;exact (hI.own.all j o hj).2.2.2.2.2) f
 have h2:=hI.own.len;have h3:=hS.sh;have h4:=hI.Ta;have h5:h.Fd.length*(16*n)<=4*(16*n):=o9 _ (by omega);omega
theorem HI.crn(hS:bS c ss)(hI:HI c ss n h):h.LT.length=c.RR.toNat:=by have:=hI.cr;have:=hS.wk;omega
theorem HI.own4(hS:bS c ss)(hI:HI c ss n h):h.Fd.length<=4/\h.Fd.length=c.RZ.toNat:=by have:=hI.own.len;have:=hS.sh;omega
theorem Ky{fu:Nat}(hfu:101<fu)(hS:bS c ss)(hI:HI c ss n h){t:Nat}(ho:h.Fd[i]? =some o)(ht:t=h.or.length+h.LT.length+i){x:qm}(hk:h.Sf.RT[t]? =some x)(hm:x.RX≠2):
  OK (cD fu h (t:Int)) (SMv fu h i o):=by
 have hil:=(zes.1 ho).1;have hcl:=hI.cl;have hcr:=hI.crn hS;have hSc:=hS.cl;have hSw:=hS.wk;have ho4:=(hI.own4 hS).1;have hlog:=hI.logb;obtain ⟨a1,a2,a3,a4,a5,a6⟩:=hI.own.all i o ho;unfold cD qB zU;simp only [zbs];have e1:w64 ((h.or.length:Int)+(h.LT.length:Int))=(h.or.length:Int)+(h.LT.length:Int):=qp (by omega) (by omega);have e2:w64 ((t:Int)-((h.or.length:Int)+(h.LT.length:Int)))=(i:Int):=by grind [qp]
 rw [e1,e2,zT ho];simp only [zbs,k8];cases hl:o.RW with
 |nil=>
  obtain ⟨⟨q,b,o'⟩,h1,h2,h3,h4⟩:=oS hfu a1;rcases h4 with ⟨_,e3,e4⟩|⟨y,ys,e,_⟩
  ·have e3:b=false:=e3;have e4:o'=o:=e4;subst e3 e4;rw [h1];simp only [zbs];refine o5 rfl ?_
   have e5:cC o'=some (0,{o' with RY:=true}):=by
    grind [cC,hl]
   rw [e5];simp only [zbs];rw [xg (m:=h.Sw.length+_) (b:=176) (by grind)];simp only [zbs];rw [nT hk hm];simp only [zbs];exact b9 (.ends t x ht hl hk hm)
  grind
 |cons r rs=>
  obtain ⟨q,o',hq⟩:=Pz hfu a1 a2 hl;rw [hq.step];simp only [zbs];refine j7 rfl ?_;rw [hq.to,hq.tag];have hreq:=hI.Uh o (zmg ho) r (by grind);rcases hreq with ⟨u,k,eu,hu,g0,g1,g2⟩|⟨j,ej,hj,hjw⟩
  ·have hul:=(zes.1 hu).1;refine j7 (by grind) ?_;rw [eu,zT hu];simp only [zbs,k8];obtain ⟨s,hs,hck⟩:=hI.at hu;have hmis:=hI.Tz u k hu;have hcs:=hI.cnt_small hS u;have hex:=hI.TE u;have e6:w64 (k.Sd-1)=k.Sd-1:=qp (by omega) (by omega);rw [hq.walk];refine d5 (λhw=> ?_) (λhw=> ?_)
   ·obtain ⟨p,hp,_⟩:=oK (xs:=k.parts) g0 (g1 hw);rw [hp];simp only [zbs];rw [e6];have:=SMv.walk (fu:=fu) (h:=h) (i:=i) (o:=o) q o' r rs u k hq eu hu hw g0 (g1 hw);unfold Ha at this;rw [i8] at this;exact b9 this
   ·obtain ⟨p,hp,_⟩:=oK (xs:=k.Id.SD) g0 (g2 hw);rw [hp];simp only [zbs];rw [e6,xg (m:=h.Sw.length+_) (b:=176) (by grind)];have:=SMv.item (fu:=fu) (h:=h) (i:=i) (o:=o) t q o' r rs u k ht hq eu hu hw g0 (g2 hw);unfold Ha Qj at this;rw [hq.to,hq.tag,eu] at this;exact b9 this
  ·have hjl:j<h.LT.length:=hj;have hg:=zeg hjl;refine o5 (by grind) ?_;have e7:w64 (r.Te-(h.or.length:Int))=(j:Int):=by grind [qp]
   rw [e7,zT hg];simp only [zbs,k8];unfold xv;simp only [zbs];rw [xg (m:=h.Sw.length+_) (b:=176) (by grind)];have:=SMv.crew (fu:=fu) (h:=h) (i:=i) (o:=o) t q o' r rs j h.LT[j] ht hq ej hg;unfold Ha Qj at this;rw [hq.to,hq.tag] at this;exact b9 this
theorem uT.set{c:zN}{b:Nat}{os:List zc}(h:uT c b os){i:Nat}{o o':zc}(ho:os[i]? =some o)(h1:iQ o')(h2:Gf o')(h3:o'.Tr=o.Tr/\o'.SX=o.SX/\o'.maps.length=o.maps.length)(h4:o'.RW.length<=b):uT c b (os.set i o'):=by
 refine ⟨by rw [j5];exact h.len,λj p hp=> ?_⟩
 rcases aq hp with ⟨rfl,rfl,_⟩|⟨_,hp⟩
 ·obtain ⟨a1,a2,a3,a4,a5,a6⟩:=h.all _ _ ho
  grind
 ·exact h.all j p hp
theorem DE(hS:bS c ss)(hI:HI c ss n h)(hn:n+1<=100000000)(ho:h.Fd[i]? =some o){fu:Nat}{q:bA}{o':zc}{x:zq}{xs:List zq}(hq:tf fu o q o' x xs)
  {cs:List ze} {ws:List zH} {es:List zd} (he:es.length<=2) (hcl:cs.length=h.or.length) (hwl:ws.length=h.LT.length) (hw:∀w∈ws,Bm c.Sh.toNat c.Maps.length w) (hwe:∀w∈ws,∃w'∈h.LT,w.RY=w'.RY)
  (hc:∀(t:Nat) k',cs[t]? =some k'->∃k,h.or[t]? =some k/\k'.parts.length=k.parts.length/\k'.Id.SD.length=k.Id.SD.length/\k'.Sd=k.Sd-(if x.Te=t then 1 else 0)/\∀s,ss[t]? =some s->pH s k->pH s k'):HI c ss (n+1) (Ha h cs ws (h.Fd.set i o') es):=by
 obtain ⟨a1,a2,a3,a4,a5,a6⟩:=hI.own.all i o ho
 have hcn:∀f:Int,eW (h.Fd.set i o') f+(if x.Te=f then 1 else 0)=eW h.Fd f:=λf=>by
  have h1:=mQ ho o' f;rw [hq.RW,hq.Ug,Bh] at h1;omega
 have hend:(h.closed=true/\∀w∈h.LT,w.RY=true)->h.closed=true/\∀w∈ws,w.RY=true:=λe=>⟨e.1,λw hw2=>by
  grind⟩
 have hlen:o'.RW.length+1=o.RW.length:=by rw [hq.RW,hq.Ug];rfl
 have hback:∀(t:Nat) k,h.or[t]? =some k->∃k',cs[t]? =some k'/\k'.parts.length=k.parts.length/\k'.Id.SD.length=k.Id.SD.length:=λt k hk=>by
  grind
 exact
 {Ta:=hn
  Sk:=hI.Sk
  cl:=hcl.trans hI.cl
  cr:=by show (ws.length:Int)=_;rw [hwl];exact hI.cr
  rg:=hI.rg
  SY:=hI.SY.mono (by omega) (by omega)
  Tj:=hI.Tj
  Ue:=λt k' s hk' hs=>by
   obtain ⟨k,e1,_,_,_,e5⟩:=hc t k' hk';exact e5 s hs (hI.Ue t k s e1 hs)
  crew:=hw
  own:=(hI.own.set ho hq.ok hq.ou ⟨hq.sh.1,hq.sh.2.1,hq.sh.2.2.2⟩ (by omega)).mono (by omega)
  Uh:=λp hp r hr=>by
   have hr2:∃p'∈h.Fd,r∈p'.RW:=by
    rcases p9 (show p∈h.Fd.set i o' from hp) with hp|rfl
    ·exact ⟨p,hp,hr⟩
    ·exact ⟨o,zmg ho,by rw [hq.RW];rw [hq.Ug] at hr;exact zcm _ hr⟩
   obtain ⟨p',hp',hr'⟩:=hr2;show wQ cs ws.length r;rw [hwl];exact (hI.Uh p' hp' r hr').same hcl hback
  Tz:=λt k' hk'=>by
   obtain ⟨k,e1,_,_,e4,_⟩:=hc t k' hk';have h1:=hI.Tz t k e1;have h2:=hcn t;show k'.Sd=((eW (h.Fd.set i o') t+lh h t:Nat):Int)
   grind
  TE:=λt=>by
   have h1:=hI.TE t;have h2:=hcn t;show lh h t=0\/lh h t=1/\eW (h.Fd.set i o') t=0
   grind
  call:=hI.call
  Sa:=hI.Sa
  TF:=hI.TF
  TA:=λp hp e=>by
   rcases p9 (show p∈h.Fd.set i o' from hp) with hp|rfl
   ·exact hend (hI.TA p hp e)
   ·exact hend (hI.TA o (zmg ho) (by rw [<- hq.sh.2.2.1];exact e))
  TK:=λw hw2 e=>by
   obtain ⟨w',h1,h2⟩:=hwe w hw2;exact hI.TK w' h1 (by rw [<- h2];exact e)
  TL:=by
   show (h.Sw++es).length<=_;have:=hI.TL
   grind
  Uc:=by have:=hI.Uc;show h.RW.length<=_;omega
  hel:=by have:=hI.hel;show h.held.length<=_;omega}
theorem Nq(hS:bS c ss)(hI:HI c ss n h)(hn:n+1<=100000000){fu:Nat}(ho:h.Fd[i]? =some o)(hcl:o.RW=[]->h.closed=true/\∀w∈h.LT,w.RY=true){h':za}(hv:SMv fu h i o h'):HI c ss (n+1) h':=by
 obtain ⟨a1,a2,a3,a4,a5,a6⟩:=hI.own.all i o ho;cases hv with
 |ends t x ht hl hk hm=>
  have hcn:∀f:Int,eW (h.Fd.set i {o with RY:=true}) f=eW h.Fd f:=λf=>by
   have h1:eW (h.Fd.set i {o with RY:=true}) f+uS o.RW f=eW h.Fd f+uS o.RW f:=mQ ho {o with RY:=true} f;omega
  exact
  {Ta:=hn
   Sk:=hI.Sk
   cl:=hI.cl
   cr:=hI.cr
   rg:=hI.rg
   SY:=hI.SY.mono (by omega) (by omega)
   Tj:=hI.Tj
   Ue:=hI.Ue
   crew:=hI.crew
   own:=(hI.own.set ho (o':={o with RY:=true}) ⟨a1.s1,a1.s4,a1.m4,a1.all,a1.TO⟩ ⟨a2.maps,a2.RW⟩ ⟨rfl,rfl,rfl⟩ a6).mono (by omega)
   Uh:=λp hp r hr=>by
    rcases p9 (show p∈h.Fd.set i _ from hp) with hp|rfl
    ·exact hI.Uh p hp r hr
    grind
   Tz:=λu k hk=>by
    show k.Sd=((eW (h.Fd.set i _) u+lh h u:Nat):Int)
    rw [hcn];exact hI.Tz u k hk
   TE:=λu=>by
    show lh h u=0\/lh h u=1/\eW (h.Fd.set i _) u=0;rw [hcn];exact hI.TE u
   call:=hI.call
   Sa:=hI.Sa
   TF:=by show (h.Sf.RT.set t _).length=_;rw [j5];exact hI.TF
   TA:=λp hp e=>hcl hl
   TK:=hI.TK
   TL:=by
    show (h.Sw++[Py t]).length<=_;have:=hI.TL
    grind
   Uc:=by have:=hI.Uc;show h.RW.length<=_;omega
   hel:=by have:=hI.hel;show h.held.length<=_;omega}
 |crew t q o' x xs j w ht hq hf hw=>
  refine DE hS hI hn ho hq (by simp) rfl (by grind) (λv hv=> ?_) (λv hv=> ?_) (λu k hk=>⟨k,hk,rfl,rfl,?_,λs _ e=>e⟩)
  ·rcases p9 hv with hv|rfl
   ·exact hI.crew v hv
   ·have hw1:=hI.crew w (zmg hw);exact ⟨hw1.SC,hw1.cur,λr e=>by cases e;exact hq.val,hw1.over⟩
  ·rcases p9 hv with hv|rfl
   ·exact ⟨v,hv,rfl⟩
   ·exact ⟨w,zmg hw,rfl⟩
  grind
 |walk q o' x xs u k hq hf hu hw g0 g1=>
  refine DE hS hI hn ho hq (by simp) (by grind) rfl hI.crew (λw hw=>⟨w,hw,rfl⟩) (λv k' hk'=> ?_);rcases aq hk' with ⟨rfl,rfl,_⟩|⟨hne,hk'⟩
  ·refine ⟨k,hu,by show (k.parts.set _ _).length=_;rw [j5],rfl,by rw [d7 hf];rfl,λs hs e=>⟨e.Sv,e.Uo,e.Up,e.UE,e.Uq,e.done,e.res,e.Uv,by show (k.parts.set _ _).length<=4;rw [j5];exact e.Uf,λp hp=> ?_,λew=> ?_⟩⟩
   ·rcases p9 (show p∈k.parts.set _ _ from hp) with hp|rfl
    ·exact e.part p hp
    ·exact hq.RU
   ·have h0:=e.Ua ew;have h1:=hI.Tz v k hu;have h2:=sb (zmg ho) (r:=x) (by rw [hq.RW];exact zcs)
    rw [hf] at h2;omega
  grind
 |item t q o' x xs u k ht hq hf hu hw g0 g1=>
  refine DE hS hI hn ho hq (by simp) (by grind) rfl hI.crew (λw hw=>⟨w,hw,rfl⟩) (λv k' hk'=> ?_);rcases aq hk' with ⟨rfl,rfl,_⟩|⟨hne,hk'⟩
  ·refine ⟨k,hu,rfl,by show (k.Id.SD.set _ _).length=_;rw [j5],by rw [d7 hf];rfl,λs hs e=>⟨e.Sv,e.Uo,e.Up,e.UE,e.Uq,e.done,by show (k.Id.SD.set _ _).length<=16;rw [j5];exact e.res,e.Uv,e.Uf,e.part,λew=> ?_⟩⟩
   have h0:=e.Ua ew;have h1:=hI.Tz v k hu;have h2:=sb (zmg ho) (r:=x) (by rw [hq.RW];exact zcs)
   rw [hf] at h2;omega
  grind
end Go.Proofs.YtplmgfkghomelaaGreatDoor.KH
