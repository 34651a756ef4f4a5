/- Lemmas. -/
import Derived.Test.YtplmgfkghomelaaGreatDoorKReg3
set_option linter.unusedVariables false
set_option linter.unusedSimpArgs false
namespace Go.Proofs.YtplmgfkghomelaaGreatDoor.KH
section
section
section
section
open Go.Sx
variable {i:Nat} {o:zc} {x:Nat×zt} {l:List (Nat×zt)} {r:zt} {c:zH}
def OG(o:zc)(r:zt):zc:={o with Se:=o.Se++[r]}
def rl(os:List zc)(x:Nat×zt):List zc:=match os[x.1]? with
 |some o=>os.set x.1 (OG o x.2)
 |none=>os
def puts(os:List zc)(l:List (Nat×zt)):List zc:=l.foldl rl os
theorem rW(os:List zc)(x:Nat×zt):(rl os x).length=os.length:=by
 grind [rl]
theorem rX(l:List (Nat×zt)):∀os:List zc,(puts os l).length=os.length:=by
 induction l with
 |nil=>exact λos=>rfl
 |cons x l ih=>exact λos=>(ih (rl os x)).trans (rW os x)
def AC(l:List zt)(f:Int):Nat:=l.countP (λr=>r.Tt==f)
def ic(os:List zc)(f:Int):Nat:=(os.map (λo=>AC o.Se f)).sum
def gA(l:List zB)(t:Int):Nat:=l.countP (λx=>x.SG==t)
theorem Dl{l:List Nat}{a:Nat}(h:l[i]? =some a)(b:Nat):(l.set i b).sum+a=l.sum+b:=by
 induction l generalizing i with
 |nil=>simp at h
 |cons x l ih=>
  cases i with
  |zero=>simp at h;subst h;simp;omega
  |succ i=>
   grind
theorem wH{os:List zc}(h:os[i]? =some o)(o':zc)(f:Int):ic (os.set i o') f+AC o.Se f=ic os f+AC o'.Se f:=by
 unfold ic;rw [ye];exact Dl (by grind) _
theorem HY(l:List zt)(r:zt)(f:Int):AC (l++[r]) f=AC l f+if r.Tt=f then 1 else 0:=by
 grind [AC]
theorem HZ(l:List zt)(r:zt)(f:Int):AC (r::l) f=AC l f+if r.Tt=f then 1 else 0:=by
 grind [AC]
theorem sZ(l:List zB)(x:zB)(f:Int):gA (x::l) f=gA l f+if x.SG=f then 1 else 0:=by
 grind [gA]
theorem mL(l l':List zB)(f:Int):gA (l++l') f=gA l f+gA l' f:=by
 grind [gA]
theorem rY(x:zB)(f:Int):gA [x] f=if x.SG=f then 1 else 0:=by
 grind [sZ,gA]
theorem Bc{os:List zc}(h:x.1<os.length)(f:Int):ic (rl os x) f=ic os f+if x.2.Tt=f then 1 else 0:=by
 unfold rl;rw [zeg h];have:=wH (zeg h) (OG os[x.1] x.2) f
 grind [AC,OG,HY,ic]
theorem Bd{f:Int}(hf:∀x∈l,x.2.Tt=f):∀os:List zc,(∀x∈l,x.1<os.length)->∀g,ic (puts os l) g=ic os g+if f=g then l.length else 0:=by
 induction l with
 |nil=>intro os h g;simp [puts]
 |cons x l ih=>
  intro os h g;have h1:=Bc (h x zcs) g
  grind [rl,rW,ic,puts]
theorem FU{l:List Nat}{a:Nat}(h:a∈l):a<=l.sum:=by
 induction l with
 |nil=>cases h
 |cons x l ih=>
  grind
theorem Ks{l:List zt}(h:r∈l):1<=AC l r.Tt:=by
 grind [AC]
theorem rZ{os:List zc}(ho:o∈os)(h:r∈o.Se):1<=ic os r.Tt:=by
 have h1:=Ks h
 have h2:AC o.Se r.Tt<=ic os r.Tt:=by
  unfold ic;exact FU (yj.2 ⟨o,ho,rfl⟩)
 omega
structure uL (c:zH) (b:Nat) (os:List zc):Prop where
 len:(os.length:Int)=c.Sf
 all:∀(i:Nat)(o:zc),os[i]? =some o->iM o/\F1 o/\o.TA=i/\o.Te=c.Sf/\o.maps.length=c.Maps.length/\o.Se.length<=b
theorem uL.mono{b b':Nat}{os:List zc}(h:uL c b os)(hb:b<=b'):uL c b' os:=
 ⟨h.len,λi o ho=>by obtain ⟨h1,h2,h3,h4,h5,h6⟩:=h.all i o ho;exact ⟨h1,h2,h3,h4,h5,by omega⟩⟩
theorem uL.put{b:Nat}{os:List zc}(h:uL c b os)(hm0:0<=x.2.Item.SO)(hm1:x.2.Item.SO<c.Maps.length)(hw:x.2.TB=true\/(0<=x.2.Item.Op/\x.2.Item.Op<5))(hv:u64 x.2.Item.SV):uL c (b+1) (rl os x):=by
 refine ⟨by rw [rW];exact h.len,λi o ho=> ?_⟩
 unfold rl at ho;split at ho
 ·rename_i o1 h1
  rw [yy] at ho;split at ho
  ·rename_i e
   subst e;split at ho
   ·obtain rfl:=j4 ho;obtain ⟨a1,a2,a3,a4,a5,a6⟩:=h.all _ _ h1;refine ⟨{a1 with TX:=λr hr=> ?_},⟨a2.maps,λr hr=> ?_⟩,a3,a4,a5,?_⟩
    ·rcases i5.1 hr with hr|hr
     ·exact a1.TX r hr
     ·rw [i6.1 hr];exact ⟨hm0,by show _<((o1.maps.length:Nat):Int);rw [a5];exact hm1,hw⟩
    ·rcases i5.1 hr with hr|hr
     ·exact a2.Se r hr
     grind
    ·show (o1.Se++[x.2]).length<=_
     grind
   ·cases ho
  ·obtain ⟨a1,a2,a3,a4,a5,a6⟩:=h.all _ _ ho
   grind
 ·obtain ⟨a1,a2,a3,a4,a5,a6⟩:=h.all _ _ ho
  grind
theorem uL.puts{c:zH}{l:List (Nat×zt)}:∀{b:Nat} {os:List zc} (h:uL c b os) (hl:∀x∈l,0<=x.2.Item.SO/\x.2.Item.SO<c.Maps.length/\(x.2.TB=true\/(0<=x.2.Item.Op/\x.2.Item.Op<5))/\u64 x.2.Item.SV),uL c (b+l.length) (KH.puts os l):=by
 induction l with
 |nil=>exact λh _=>h
 |cons x l ih=>
  intro b os h hl;obtain ⟨a1,a2,a3,a4⟩:=hl x zcs;have:=ih (h.put a1 a2 a3 a4) (λy hy=>hl y (zcm _ hy));exact this.mono (by grind)
theorem wI:∀{os:List zc} {o:zc} {r:zt},o∈KH.puts os l->r∈o.Se->(∃o'∈os,r∈o'.Se)\/∃x∈l,x.2=r:=by
 induction l with
 |nil=>exact λho hr=>.inl ⟨_,ho,hr⟩
 |cons x l ih=>
  intro os o r ho hr;rcases ih (os:=rl os x) ho hr with ⟨o',h1,h2⟩|⟨y,h1,h2⟩
  ·unfold rl at h1;split at h1
   ·rename_i o1 e1
    rcases p9 h1 with h1|rfl
    ·grind
    ·rcases i5.1 (show r∈o1.Se++[x.2] from h2) with h2|h2
     ·grind
     grind
   grind
  grind
theorem Be{os:List zc}(h:(rl os x)[i]? =some o):∃o',os[i]? =some o'/\o'.Sk=o.Sk:=by
 unfold rl at h;split at h
 ·rename_i o1 h1
  rw [yy] at h;split at h
  ·rename_i e
   subst e;split at h
   ·obtain rfl:=j4 h;exact ⟨o1,h1,rfl⟩
   ·cases h
  ·exact ⟨o,h,rfl⟩
 ·exact ⟨o,h,rfl⟩
theorem pA:∀{os:List zc} {i:Nat} {o:zc},(KH.puts os l)[i]? =some o->∃o',os[i]? =some o'/\o'.Sk=o.Sk:=by
 induction l with
 |nil=>exact λh=>⟨_,h,rfl⟩
 |cons x l ih=>
  intro os i o h;obtain ⟨o1,h1,e1⟩:=ih (os:=rl os x) h
  grind [Be]
def kx(k:Int)(n:Nat):Nat:=((aq k (n:Int)).getD 0).toNat
theorem H0{b:Nat}{os:List zc}(h:uL c b os)(hs:1<=c.Sf/\c.Sf<=4)(hne:∀o∈os,o.Sk=false)(hm0:0<=r.Item.SO)(hm1:r.Item.SO<c.Maps.length)(hop:0<=r.Item.Op/\r.Item.Op<5)(hb:(b+1)*56<=140737488355328):
  ∃(p:Nat)(o:zc),kx r.Item.Tc os.length=p/\aq r.Item.Tc (os.length:Int)=some (p:Int)/\p<os.length/\Go.Sx.idx os (p:Int)=some o/\os[p]? =some o/\jJ o [r]=some (0,OG o r):=by
 obtain ⟨p,hp,hlt⟩:=wG (k:=r.Item.Tc) (n:=(os.length:Int)) (by rw [h.len];exact hs.1) (by rw [h.len];exact hs.2)
 have hpl:p<os.length:=by omega
 have hg:=zeg hpl;obtain ⟨a1,a2,a3,a4,a5,a6⟩:=h.all _ _ hg;refine ⟨p,os[p],by grind [kx],hp,hpl,nu hpl,hg,?_⟩;rw [h.len] at hp;exact HX (hne _ (ym hpl)) hm0 (by rw [a5];exact hm1) (.inr ⟨hop.1,hop.2,by grind⟩) (by omega)
def nR:zg:=⟨0,0,0,0⟩
def Bf:zk:=⟨0,false,0,false,0,0⟩
def OH(k:ze):zA:=⟨k.Id.E,k.Id.N,k.Id.SQ,k.Id.Pairs++k.parts.flatten⟩
def Dm(k:ze):ze:=⟨k.Sw,w64 (k.SB+1),false,k.Sl,Qk,[],k.Sm++[OH k]⟩
def Mb(t:Int)(k:ze):zd:=⟨2,t,0,k.SB,0,0,0,0,0,0,nR,Bf,xS k.Id.N,k.Id.E⟩
def gh(t:Int)(k:ze):zd:=⟨1,t,0,k.SB,0,0,0,0,0,0,nR,Bf,0,0⟩
def PA(t:Int)(k:ze)(n hook:Int):zd:=⟨4,t,0,k.SB,0,n,hook,0,0,0,nR,Bf,0,0⟩
def withA(k:ze)(a:zA):ze:={k with Id:=a}
def uM(h:za)(t:Nat)(k:ze)(es:List zd)(rs:List zq)(g:zJ):za:=
 {h with or:=h.or.set t (Dm k),RX:=rs,SE:=h.SE++es++[Mb t k],SK:=g}
def aW(cmd:zK):List zg:=if cmd.RZ=0 then [cmd.Item] else cmd.SI
def vx(t:Int)(n:Nat)(l:List zg):List (Nat×zt):=l.mapIdx (λi x=>(kx x.Tc n,⟨t,(i:Int),false,x⟩))
def aw(t:Int)(n:Nat)(m:Int):List (Nat×zt):=(List.range n).map (λs=>(s,⟨t,(s:Int),true,⟨m,0,0,0⟩⟩))
def Bg(k:ze)(n:Int)(res:List zk)(ps:List (List zr)):ze:=⟨k.Sw,k.SB,true,n,⟨0,k.Id.N,res,k.Id.Pairs⟩,ps,k.Sm⟩
def Mc(h:za)(t:Nat)(k k':ze)(os:List zc)(l:List zB):za:=
 {h with or:=h.or.set t k',Fn:=os,Se:=l,SE:=h.SE++[gh t k]}
def Bh(c:zH)(i:zg):Prop:=0<=i.SO/\i.SO<c.Maps.length/\0<=i.Op/\i.Op<5
def Q9(h:za)(x:zK)(E:Int):Prop:=E≠0/\(x.RZ=3->(h.closed=true/\E=43)\/(h.closed=false/\E=2/\¬ (0<=x.SJ/\x.SJ<h.RX.length)))
inductive CMv (h:za) (t:Nat) (k:ze) (cmd:zK):za->Prop
 |told (E:Int):Q9 h cmd E->CMv h t k cmd (uM h t (withA k ⟨E,k.Id.N,k.Id.SQ,k.Id.Pairs⟩) [gh t k] h.RX h.SK)
 | fire (i : Nat) (r r' : zq) (n E : Int) (g : zJ) : h.closed = false -> cmd.RZ = 3 -> cmd.SJ = i -> h.RX[i]? = some r -> xj r cmd.Sz h.SK = some (n, E, r', g) ->
   CMv h t k cmd (uM h t (withA k ⟨E,if E=0 then n else k.Id.N,k.Id.SQ,k.Id.Pairs⟩) ([gh t k]++if E=0 then [PA t k n i] else []) (h.RX.set i r') g)
 | items : h.closed = false -> (cmd.RZ = 0 \/ cmd.RZ = 1) -> 1 <= (aW cmd).length -> (aW cmd).length <= 16 -> (∀ i ∈ aW cmd, Bh h.Sv i) ->
   CMv h t k cmd (Mc h t k (Bg k (aW cmd).length (List.replicate (aW cmd).length Bf) k.parts) (puts h.Fn (vx t h.Fn.length (aW cmd))) h.Se)
 | walk : h.closed = false -> cmd.RZ = 2 -> 0 <= cmd.SO -> cmd.SO < h.Sv.Maps.length ->
   CMv h t k cmd (Mc h t k (Bg k h.Fn.length k.Id.SQ (List.replicate h.Fn.length [])) (puts h.Fn (aw t h.Fn.length cmd.SO)) h.Se)
 |call:h.closed=false->4<=cmd.RZ->cmd.RZ<=10->CMv h t k cmd (Mc h t k (Bg k 1 k.Id.SQ k.parts) h.Fn (h.Se++[⟨t,cmd,0⟩]))
end
open Go.Sx
variable {i:Nat} {h:za} {c:zH} {n:Nat} {l:List zg} {m:Int}
theorem zU{α:Type}{xs:List α}{x:α}(h:xs[i]? =some x):Go.Sx.idx xs (i:Int)=some x:=by
 grind [nu]
theorem xX{m b:Nat}(h:m*b<=140737488355328):room m b=some ():=by
 grind [room]
structure pB (s:List zK) (k:ze):Prop where
 Sw:k.Sw=s
 Up:0<=k.SB
 Uy:k.SB<=s.length
 UH:k.waits=true->k.SB<s.length
 Uz:(k.Sm.length:Int)=k.SB
 done:∀a∈k.Sm,a.SQ.length<=16/\a.Pairs.length<=64
 res:k.Id.SQ.length<=16
 UA:k.Id.Pairs=[]
 Um:k.parts.length<=4
 part:∀p∈k.parts,p.length<=16
 Uh:k.waits=false->k.Sl=0
structure Bi (H K:Nat) (w:zE):Prop where
 SL:WJ H K w.RY
 cur:0<=w.SN/\w.SN<H
 rep:∀r,w.Tw=some r->u64 r.SV
 over:w.Sk=true->w.RY.Si=0
def wJ(cs:List ze)(W:Nat)(r:zt):Prop:=
 (∃(t:Nat)(k:ze),r.Tt=t/\cs[t]? =some k/\0<=r.TT/\(r.TB=true->r.TT<k.parts.length)/\(r.TB=false->r.TT<k.Id.SQ.length))\/
 ∃j:Nat,r.Tt=(cs.length:Int)+j/\j<W/\r.TB=false
def lB(h:za)(t:Int):Nat:=gA h.Se t+gA h.held t+(if h.closed=true/\h.over=false/\h.Sg=t then 1 else 0)
structure cX (c:zH) (ss:List (List zK)):Prop where
 hk:1<=c.Sj/\c.Sj<=4
 wk:1<=c.Sa/\c.Sa<=4
 sh:1<=c.Sf/\c.Sf<=4
 mp:c.Maps.length<=4
 cl:1<=ss.length/\ss.length<=4
 sl:∀s∈ss,s.length<=64
 fit:∀s∈ss,∀c∈s,Fit c
structure HI (c:zH) (ss:List (List zK)) (n:Nat) (h:za):Prop where
 Tg:n<=100000000
 Sv:h.Sv=c
 cl:h.or.length=ss.length
 cr:(h.LT.length:Int)=c.Sa
 rg:(h.RX.length:Int)=c.Sj
 Tv:fk c.Sj.toNat c.Maps.length c.Sa.toNat n h.Fd
 ring:∀r∈h.RX,ku r/\∀q∈r.waiting,u64 q.Sz.A/\u64 q.Sz.B
 Ul:∀(t:Nat) k s,h.or[t]? =some k->ss[t]? =some s->pB s k
 crew:∀w∈h.LT,Bi c.Sj.toNat c.Maps.length w
 own:uL c (16*n) h.Fn
 Un:∀o∈h.Fn,∀r∈o.Se,wJ h.or h.LT.length r
 TH:∀(t:Nat) k,h.or[t]? =some k->k.Sl=((ic h.Fn t+lB h t:Nat):Int)
 TO:∀t:Nat,lB h t=0\/(lB h t=1/\ic h.Fn t=0)
 call:∀x∈h.Se++h.held,(∃t:Nat,x.SG=t/\t<ss.length)/\x.cmd.SC.length<=140737488355328/\4<=x.cmd.RZ/\x.cmd.RZ<=10
 Sg:∃t:Nat,h.Sg=t/\t<ss.length
 TP:h.Sn.Sd.length=ss.length+c.Sa.toNat+c.Sf.toNat+1
 TM:∀o∈h.Fn,o.Sk=true->h.closed=true/\∀w∈h.LT,w.Sk=true
 TV:∀w∈h.LT,w.Sk=true->h.closed=true
 TQ:h.SE.length<=200*n
 Uj:h.Se.length<=n
 hel:h.held.length<=n
theorem ES{l:List (List zr)}{b:Nat}(h:∀p∈l,p.length<=b):l.flatten.length<=l.length*b:=by
 induction l with
 |nil=>simp
 |cons p l ih=>
  have h1:=h p zcs;have h2:=ih λq hq=>h q (zcm _ hq)
  rw [yd,p5,v8,u4];omega
theorem Kt{s:List zK}{k:ze}(hk:pB s k):(OH k).SQ.length<=16/\(OH k).Pairs.length<=64:=by
 refine ⟨hk.res,?_⟩;show (k.Id.Pairs++k.parts.flatten).length<=64;have h1:=ES hk.part;have h2:=hk.Um;rw [hk.UA,List.nil_append];omega
theorem H1{t:Nat}{k:ze}{s:List zK}(ht:h.or[t]? =some k)(hk:pB s k)(hs:s.length<=64)(hl:h.SE.length<=500000000000):jd h (t:Int)=some (uM h t k [] h.RX h.SK):=by
 unfold jd;rw [zU ht,zbs]
 have hloop:jN (eO k) (λ(s377:(List zr))=>{k with Id:=(zA.mk k.Id.E k.Id.N k.Id.SQ s377)}) (k.parts).length 0 k.Id.Pairs=some {k with Id:=(OH k)}:=by
  refine OK.is (i4 (λi l=>l=k.Id.Pairs++(k.parts.take i).flatten) (by simp) (λi l again hi hI ha=> ?_) (λl hl=> ?_))
  ·subst hI;unfold eO;refine f9 (i7 hi λp hp=>f9 (OK.hasRoom ?_ (ha _ ?_)))
   ·have h1:=ES (l:=k.parts.take i) (b:=16) λq hq=>hk.part q (z9 hq)
    have h2:=hk.part p (zmg hp);have h3:=hk.Um;rw [yw] at h1;rw [hk.UA,List.nil_append];omega
   ·rw [oG hp,yp,w6];simp
  ·subst hl;rw [List.take_length];rfl
 rw [hloop];simp only [zbs];have h1:=hk.Uz;have h2:=hk.Uy;rw [xX (m:=h.SE.length+_) (b:=176) (by grind)];simp only [zbs];rw [xX (m:=k.Sm.length+_) (b:=64) (by grind)];simp only [zbs,k8,g9];unfold uM;rw [i9];rfl
theorem H2{t:Nat}{k:ze}{s:List zK}(ht:h.or[t]? =some k)(hk:pB s k)(hs:s.length<=64)(hl:h.SE.length<=400000000000)(E N:Int){es:List zd}(he:es.length<=2)(rs:List zq)(g:zJ):
  jd {h with or:=h.or.set t (withA k ⟨E,N,k.Id.SQ,k.Id.Pairs⟩),RX:=rs,SE:=h.SE++es,SK:=g} (t:Int)=some (uM h t (withA k ⟨E,N,k.Id.SQ,k.Id.Pairs⟩) es rs g):=by
 have hlt:=(zes.1 ht).1;rw [H1 (k:=withA k ⟨E,N,k.Id.SQ,k.Id.Pairs⟩) (s:=s) (by grind) ⟨hk.Sw,hk.Up,hk.Uy,hk.UH,hk.Uz,hk.done,hk.res,hk.UA,hk.Um,hk.part,hk.Uh⟩ hs (by grind)];unfold uM;simp only [yr,i9]
theorem ET(hc:h.Sv=c)(l:List zg):∃b,xC h l=some b/\(b=false->∀i∈l,Bh c i):=by
 subst hc;unfold xC qg qn
 obtain ⟨o,h1,h2⟩:OK (jN (qC l h) (λ(s126:Unit)=>(.inl ())) l.length 0 ()) (λo=>match o with|.inl _=>∀i∈l,Bh h.Sv i|.inr r=>0<=r):=by
  refine i4 (λi _=>∀x∈l.take i,Bh h.Sv x) (by simp) (λi s again hi hI ha=> ?_) (λs hs=>by grind);unfold qC;refine f9 (i7 hi λx hx=> ?_);refine d6 (R:=λb=>b=false->Bh h.Sv x) ?_ (λb hb=>d5 (λe=>b9 (by grind)) (λe=>ha _ (λy hy=> ?_)))
  ·unfold cw;refine d6 (R:=λb=>b=false->Bh h.Sv x) ?_ (λb hb=>b9 hb);refine d5 (λe=>b9 λz=>by cases z) (λe1=>d5 (λe=>b9 λz=>by cases z) (λe2=>d5 (λe=>b9 λz=>by cases z) (λe3=>b9 λe4=> ?_)));simp only [decide_eq_false_iff_not] at e1 e2 e3 e4;exact ⟨by omega,by omega,by omega,by omega⟩
  ·rw [oG hx] at hy
   grind
 rw [h1];cases o with
 |inl _=>exact ⟨_,rfl,λ_=>h2⟩
 |inr r=>
  refine ⟨_,rfl,λe=> ?_⟩
  grind
theorem ta{t:Int}{x:zg}(h:l[i]? =some x):(vx t n l)[i]? =some (kx x.Tc n,⟨t,(i:Int),false,x⟩):=by
 grind [vx]
theorem fE{t:Int}:(vx t n l).length=l.length:=by
 grind [vx]
theorem Bj(os:List zc)(l:List (Nat×zt))(x:Nat×zt):puts os (l++[x])=rl (puts os l) x:=by
 grind [puts]
theorem fF{t:Int}{x:Nat×zt}(h:x∈vx t n l):∃(i:Nat)(y:zg),l[i]? =some y/\x=(kx y.Tc n,⟨t,(i:Int),false,y⟩):=by
 obtain ⟨i,hi⟩:=v9 h;have hl:=(zes.1 hi).1;rw [fE] at hl;rw [ta (zeg hl)] at hi
 grind
theorem uN{b:Nat}{os:List zc}(h:uL c b os)(hs:1<=c.Sf/\c.Sf<=4)(hne:∀o∈os,o.Sk=false){t:Int}(hg:∀i∈l,Bh c i/\u64 i.SV)(hb:(b+l.length+1)*56<=140737488355328)
  {body:Nat->(List zc->Option (List zc))->List zc->Option (List zc)}
  (hbody:∀i again (s:List zc),body i again s=(Go.Sx.idx l (i:Int)).bind λx=>(aq x.Tc (s.length:Int)).bind λp=>(Go.Sx.idx s p).bind λo=>(jJ o [⟨t,(i:Int),false,x⟩]).bind λr=>again (s.set (Int.toNat p) r.2)):
  jN body (λs=>s) l.length 0 os=some (puts os (vx t os.length l)):=by
 refine OK.is (i4 (λi s=>s=puts os ((vx t os.length l).take i)) rfl (λi s again hi hI ha=> ?_) (λs hs=>by grind [fE]));subst hI;rw [hbody];refine f9 (i7 hi λx hx=> ?_);have hr:=ta (t:=t) (n:=os.length) hx;have hlen:(puts os ((vx t os.length l).take i)).length=os.length:=rX _ _;have hx2:=hg x (zmg hx)
 have hO:uL c (b+l.length) (puts os ((vx t os.length l).take i)):=by
  refine (h.puts (l:=(vx t os.length l).take i) (λy hy=> ?_)).mono (by grind);obtain ⟨j,z,hz,rfl⟩:=fF (z9 hy);obtain ⟨g1,g2⟩:=hg z (zmg hz);exact ⟨g1.1,g1.2.1,.inr g1.2.2,g2⟩
 obtain ⟨p,o,h1,h2,h3,h4,h5,h6⟩:=H0 hO hs (λo ho=>by
  obtain ⟨j,hj⟩:=v9 ho
  grind [pA]) (r:=⟨t,(i:Int),false,x⟩) hx2.1.1 hx2.1.2.1 hx2.1.2.2 (by omega)
 have h1:kx x.Tc (puts os ((vx t os.length l).take i)).length=p:=h1;rw [show aq x.Tc ((puts os ((vx t os.length l).take i)).length:Int)=some (p:Int) from h2];simp only [zbs];rw [h4];simp only [zbs];rw [h6];simp only [zbs,k8];refine ha _ ?_;rw [oG hr,Bj]
 grind [rl]
theorem Dn{t:Int}(h:i<n):(aw t n m)[i]? =some (i,⟨t,(i:Int),true,⟨m,0,0,0⟩⟩):=by
 grind [aw]
theorem iw{t:Int}:(aw t n m).length=n:=by
 grind [aw]
theorem fG{t:Int}{x:Nat×zt}(h:x∈aw t n m):∃i:Nat,i<n/\x=(i,⟨t,(i:Int),true,⟨m,0,0,0⟩⟩):=by
 grind [aw]
theorem H3{b:Nat}{os:List zc}(h:uL c b os)(hs:1<=c.Sf/\c.Sf<=4)(hne:∀o∈os,o.Sk=false){t:Int}{x:zK}(h0:0<=x.SO)(h1:x.SO<c.Maps.length)(hb:(b+6)*56<=140737488355328):
  jN (dD t x) (λs=>s) os.length 0 os=some (puts os (aw t os.length x.SO)):=by
 refine OK.is (i4 (λi s=>s=puts os ((aw t os.length x.SO).take i)) rfl (λi s again hi hI ha=> ?_) (λs hs=>by grind [iw]));subst hI;unfold dD;have hlen:(puts os ((aw t os.length x.SO).take i)).length=os.length:=rX _ _;have ho4:os.length<=4:=by have:=h.len;omega
 have hO:uL c (b+4) (puts os ((aw t os.length x.SO).take i)):=by
  refine (h.puts (l:=(aw t os.length x.SO).take i) (λy hy=> ?_)).mono (by grind)
  grind [fG,z64]
 refine f9 (i7 (by rw [hlen];exact hi) λo ho=> ?_)
 obtain ⟨a1,a2,a3,a4,a5,a6⟩:=hO.all _ _ ho
 have hne2:o.Sk=false:=by
  grind [pA]
 rw [HX hne2 (r:=⟨t,(i:Int),true,⟨x.SO,0,0,0⟩⟩) h0 (by rw [a5];exact h1) (.inl rfl) (by omega)]
 simp only [zbs,k8];refine ha _ ?_;rw [oG (Dn (t:=t) (m:=x.SO) hi),Bj];unfold rl;simp only [ho];rfl
end
open Go.Sx
variable {c:zH} {ss:List (List zK)} {n:Nat} {h:za}
theorem HI.logb(hI:HI c ss n h):h.SE.length<=20000000000:=by
 have:=hI.TQ;have:=hI.Tg;omega
theorem HI.at{c:zH}{ss:List (List zK)}{n:Nat}{h:za}(hI:HI c ss n h){t:Nat}{k:ze}(ht:h.or[t]? =some k):∃s,ss[t]? =some s/\pB s k:=by
 have h1:=(zes.1 ht).1;rw [hI.cl] at h1;exact ⟨_,zeg h1,hI.Ul t k _ ht (zeg h1)⟩
theorem Dp(hS:cX c ss)(hI:HI c ss n h){t:Nat}{k:ze}(ht:h.or[t]? =some k)(hw:k.waits=true):
  xO h (t:Int)=some (uM h t k [] h.RX h.SK):=by
 obtain ⟨s,hs,hk⟩:=hI.at ht;unfold xO;rw [zU ht,zbs,d7 hw,H1 ht hk (hS.sl s (zmg hs)) (by have:=hI.logb;omega)];rfl
theorem FV(hS:cX c ss)(hI:HI c ss n h){t:Nat}{k:ze}(ht:h.or[t]? =some k)(hw:k.waits=false)(hat:k.SB<k.Sw.length):
  ∃cmd,k.Sw[k.SB.toNat]? =some cmd/\OK (xO h (t:Int)) (CMv h t k cmd):=by
 obtain ⟨s,hs,hk⟩:=hI.at ht;have hs64:=hS.sl s (zmg hs);have hlog:=hI.logb;have hc:=hI.Sv;have hown:=hI.own;have ha0:=hk.Up;obtain ⟨cmd,hx,hg⟩:=oF (xs:=k.Sw) ha0 hat;have hfit:Fit cmd:=hS.fit s (zmg hs) cmd (by rw [<- hk.Sw];exact zmg hg)
 refine ⟨cmd,hg,?_⟩;have hb:=hI.Tg;have hln:=hI.Uj;unfold xO;rw [zU ht,zbs,d8 (by simp [hw])];rw [xX (m:=h.SE.length+_) (b:=176) (by grind)];simp only [zbs];rw [hx];simp only [zbs,k8]
 have told:∀E:Int,Q9 h cmd E->OK (jd {h with or:=h.or.set t (withA k ⟨E,k.Id.N,k.Id.SQ,k.Id.Pairs⟩),SE:=h.SE++[gh t k]} (t:Int)) (CMv h t k cmd):=λE hE=>
  OK.eq (H2 ht hk hs64 (by omega) E k.Id.N (by simp) h.RX h.SK) (.told E hE)
 refine d5 (λhcl=>d6 (told 43 ⟨by decide,λ_=>.inl ⟨hcl,rfl⟩⟩) λr hr=>b9 hr) (λhcl=> ?_)
 have hne:∀o∈h.Fn,o.Sk=false:=λo ho=>by
  cases he:o.Sk with
  |false=>rfl
  |true=>rw [(hI.TM o ho he).1] at hcl;cases hcl
 have hO4:h.Fn.length<=4:=by have:=hown.len;have:=hS.sh;omega
 refine d6 (R:=λo=>match o with
  |.inl q=>CMv h t k cmd {h with or:=h.or.set t ⟨q.1.Sw,q.1.SB,true,q.1.Sl,⟨0,q.1.Id.N,q.1.Id.SQ,q.1.Id.Pairs⟩,q.1.parts,q.1.Sm⟩,Fn:=q.2.1,Se:=q.2.2,SE:=h.SE++[gh t k]}
  |.inr r=>CMv h t k cmd r) ?_ (λo ho=> ?_)
 rotate_left
 ·cases o with
  |inl q=>exact b9 ho
  |inr r=>exact b9 ho
 refine d6 (R:=λb=>b=decide (cmd.RZ=0\/cmd.RZ=1)) (d5 (λe=>b9 (by grind)) (λe=>b9 (by grind))) (λb hb1=> ?_);subst hb1;refine d5 (λh01=> ?_) (λh01=> ?_)
 ·have h01:=yc h01;refine d5 (λh0=> ?_) (λh0=> ?_)
  ·have h0:cmd.RZ=0:=by simpa using h0
   obtain ⟨b,hb2,hb3⟩:=ET (h:=za.mk h.Fd h.Sn h.Sv h.or h.LT h.Fn h.RX h.Se h.held h.Sg h.closed h.over (h.SE++[gh t k]) h.SK) (c:=c) hc [cmd.Item];rw [show xC {h with SE:=(h.SE++[(zd.mk 1 (t:Int) 0 k.SB 0 0 0 0 0 0 (zg.mk 0 0 0 0) (zk.mk 0 false 0 false 0 0) 0 0)])} ([cmd.Item])=some b from hb2,zbs];refine d5 (λ_=>d6 (told 2 ⟨by decide,λz=>by omega⟩) λr hr=>b9 hr) (λhbf=> ?_);have hgood:=hb3 hbf;have hm:mkLen 1 48=some 1:=by grind [mkLen]
   have hit:aW cmd=[cmd.Item]:=by grind [aW]
   have hl:=uN hown hS.sh hne (t:=(t:Int)) (l:=[cmd.Item]) (λi hi=>⟨hgood i hi,by rw [i6.1 hi];exact hfit.it⟩) (by grind) (body:=dC (t:Int) cmd) (λi again s=>rfl)
   rw [hm,zbs,show jN (dC (t:Int) cmd) (λ(s9182:(List zc))=>s9182) 1 0 h.Fn=_ from hl,zbs];have:=CMv.items (h:=h) (t:=t) (k:=k) (cmd:=cmd) hcl h01 (by rw [hit];simp) (by rw [hit];simp) (λi hi=>by grind);rw [hit] at this;exact b9 this
  ·have h0:cmd.RZ≠0:=by simpa using h0
   have h1:cmd.RZ=1:=by omega
   have hit:aW cmd=cmd.SI:=by grind [aW]
   refine d6 (R:=λb=>b=false->1<=cmd.SI.length/\cmd.SI.length<=16/\∀i∈cmd.SI,Bh c i) ?_ (λb hb3=> ?_)
   ·refine d5 (λ_=>b9 λz=>by cases z) (λe1=>d5 (λ_=>b9 λz=>by cases z) (λe2=> ?_));obtain ⟨b,hb2,hb3⟩:=ET (h:=za.mk h.Fd h.Sn h.Sv h.or h.LT h.Fn h.RX h.Se h.held h.Sg h.closed h.over (h.SE++[gh t k]) h.SK) (c:=c) hc cmd.SI;rw [show xC {h with SE:=(h.SE++[(zd.mk 1 (t:Int) 0 k.SB 0 0 0 0 0 0 (zg.mk 0 0 0 0) (zk.mk 0 false 0 false 0 0) 0 0)])} cmd.SI=some b from hb2,zbs]
    grind [b9]
   refine d5 (λ_=>d6 (told 2 ⟨by decide,λz=>by omega⟩) λr hr=>b9 hr) (λhbf=> ?_);obtain ⟨l1,l16,hgood⟩:=hb3 hbf;have hm:mkLen (cmd.SI.length:Int) 48=some cmd.SI.length:=by grind [mkLen]
   have hl:=uN hown hS.sh hne (t:=(t:Int)) (l:=cmd.SI) (λi hi=>⟨hgood i hi,hfit.its i hi⟩) (by omega) (body:=gL (t:Int) cmd) (λi again s=>rfl);rw [hm,zbs,xX (by omega),zbs,hl,zbs];have:=CMv.items (h:=h) (t:=t) (k:=k) (cmd:=cmd) hcl h01 (by rw [hit];exact l1) (by rw [hit];exact l16) (λi hi=>by grind)
   rw [hit] at this;exact b9 this
 have h01:=yu h01;refine d5 (λh2=> ?_) (λh2=> ?_)
 ·have h2:cmd.RZ=2:=by simpa using h2
  refine d5 (λ_=>d6 (told 2 ⟨by decide,λz=>by omega⟩) λr hr=>b9 hr) (λhm=> ?_);simp only [Bool.or_eq_false_iff,decide_eq_false_iff_not] at hm;have hm1:mkLen (h.Fn.length:Int) 24=some h.Fn.length:=by grind [mkLen]
  rw [hm1,zbs,H3 hown hS.sh hne (by omega) (by rw [<- hc];omega) (by omega),zbs];exact b9 (.walk hcl h2 (by omega) (by omega))
 refine d5 (λh3=> ?_) (λh3=> ?_)
 ·have h3:cmd.RZ=3:=by simpa using h3
  refine d5 (λhbad=>d6 (told 2 ⟨by decide,λ_=>.inr ⟨hcl,rfl,by grind⟩⟩) λr hr=>b9 hr) (λhm=> ?_);simp only [Bool.or_eq_false_iff,decide_eq_false_iff_not] at hm;obtain ⟨r,hr,hr2⟩:=oF (xs:=h.RX) (t:=cmd.SJ) (by omega) (by omega);rw [hr,zbs];obtain ⟨q1,q2,q3,q4,hq,_⟩:=iL (hI.ring r (zmg hr2)).1 cmd.Sz h.SK;rw [hq,zbs];have hk3:(cmd.SJ.toNat:Int)=cmd.SJ:=by omega
  have hmv:=CMv.fire (h:=h) (t:=t) (k:=k) (cmd:=cmd) cmd.SJ.toNat r q3 q1 q2 q4 hcl h3 hk3.symm hr2 hq;simp only;refine d5 (λhe=> ?_) (λhe=> ?_)
  ·have he:q2=0:=by simpa using he
   subst he;rw [xX (m:=(h.SE++_).length+_) (b:=176) (by grind)];simp only [zbs];rw [d7 (by simp [hw])];rw [d7 rfl,d7 rfl,hk3] at hmv;have:=H2 ht hk hs64 (by omega) 0 q1 (es:=[gh t k]++[PA t k q1 cmd.SJ]) (by simp) (h.RX.set cmd.SJ.toNat q3) q4;rw [<- w6] at this;refine d6 (OK.eq this hmv) (λr hr=>b9 hr)
  ·have he:q2≠0:=by simpa using he
   rw [d7 (by simp [he])];rw [d8 he,d8 he,i9] at hmv;exact d6 (OK.eq (H2 ht hk hs64 (by omega) q2 k.Id.N (es:=[gh t k]) (by simp) (h.RX.set cmd.SJ.toNat q3) q4) hmv) (λr hr=>b9 hr)
 refine d6 (R:=λb=>b=true->4<=cmd.RZ/\cmd.RZ<=10) ?_ (λb hb2=> ?_)
 ·refine d5 (λe=>b9 λz=> ?_) (λ_=>d5 (λe=>b9 λz=> ?_) (λ_=>d5 (λe=>b9 λz=> ?_) (λ_=>d5 (λe=>b9 λz=> ?_) (λ_=>d5 (λe=>b9 λz=> ?_) (λ_=>d5 (λe=>b9 λz=> ?_) (λ_=>b9 λz=> ?_))))))
  all_goals (have z:=eq_of_beq z;omega)
 refine d5 (λe=> ?_) (λ_=>d6 (told 2 ⟨by decide,λz=>by simp [z] at h3⟩) λr hr=>b9 hr);obtain ⟨k4,k10⟩:=hb2 e;rw [xX (m:=h.Se.length+_) (b:=144) (by grind)];exact b9 (.call hcl k4 k10)
end
open Go.Sx
variable {α:Type} {i:Nat} {l:List α} {x y:α}
theorem fL{j:Nat}(h:(l.set i x)[j]? =some y):(j=i/\y=x/\i<l.length)\/(j≠i/\l[j]? =some y):=by
 rw [yy] at h;split at h
 ·rename_i e
  split at h
  ·exact .inl ⟨e.symm,(j4 h).symm,by assumption⟩
  ·cases h
 ·exact .inr ⟨λe=> ‹¬_› e.symm,h⟩
theorem vA{j:Nat}(h:l[j]? =some y)(hn:j≠i):(l.set i x)[j]? =some y:=by
 grind
theorem mM(h:l[i]? =some y):(l.set i x)[i]? =some x:=by
 grind
variable {c:zH} {ss:List (List zK)} {n:Nat} {h:za}
theorem HI.idle(hI:HI c ss n h){t:Nat}{k:ze}(ht:h.or[t]? =some k)(hm:k.Sl=0):ic h.Fn t=0/\lB h t=0:=by
 have:=hI.TH t k ht;omega
theorem wJ.keep{cs:List ze}{W:Nat}{r:zt}(hr:wJ cs W r){t:Nat}(ht:r.Tt≠t)(k':ze):wJ (cs.set t k') W r:=by
 rcases hr with ⟨u,k,e,hu,a⟩|⟨j,e,b⟩
 ·refine .inl ⟨u,k,e,vA hu (λz=>ht (by rw [e,z])),a⟩
 ·exact .inr ⟨j,by grind,b⟩
theorem wJ.same{cs cs':List ze}{W:Nat}{r:zt}(hr:wJ cs W r)(hl:cs'.length=cs.length)(hk:∀(t:Nat) k,cs[t]? =some k->∃k',cs'[t]? =some k'/\k'.parts.length=k.parts.length/\k'.Id.SQ.length=k.Id.SQ.length):wJ cs' W r:=by
 rcases hr with ⟨u,k,e,hu,a1,a2,a3⟩|⟨j,e,b⟩
 ·obtain ⟨k',h1,h2,h3⟩:=hk u k hu;exact .inl ⟨u,k',e,h1,a1,by rw [h2];exact a2,by rw [h3];exact a3⟩
 ·exact .inr ⟨j,by rw [hl];exact e,b⟩
def wK(c:zH)(rs:List zq):Prop:=(rs.length:Int)=c.Sj/\∀r∈rs,ku r/\∀q∈r.waiting,u64 q.Sz.A/\u64 q.Sz.B
theorem Dq(hI:HI c ss n h)(hn:n+1<=100000000){t:Nat}{k k':ze}{s:List zK}(ht:h.or[t]? =some k)(hs:ss[t]? =some s)(hm:k.Sl=0)(hk:pB s k')(hkm:k'.Sl=0)(hat:k'.SB<s.length)(hs64:s.length<=64){es:List zd}(he:es.length<=2){rs:List zq}(hr:wK c rs)(g:zJ):
  HI c ss (n+1) (uM h t k' es rs g):=by
 obtain ⟨i1,i2⟩:=hI.idle ht hm;exact
 {Tg:=hn
  Sv:=hI.Sv
  cl:=by show (h.or.set t _).length=_;rw [j7];exact hI.cl
  cr:=hI.cr
  rg:=hr.1
  Tv:=hI.Tv.mono (by omega) (by omega)
  ring:=hr.2
  Ul:=λu k2 s2 hu hs2=>by
   rcases fL hu with ⟨rfl,rfl,_⟩|⟨_,hu⟩
   ·rw [hs] at hs2;obtain rfl:=j4 hs2;have h0:=hk.Up;have h1:=hk.Uz;refine ⟨hk.Sw,?_,?_,(λe=>by cases e),?_,λa ha=> ?_,by simp [Dm,Qk],rfl,by simp [Dm],(λp hp=>by simp [Dm] at hp),λ_=>hkm⟩
    ·show 0<=w64 (k'.SB+1);rw [qt (by omega) (by omega)];omega
    ·show w64 (k'.SB+1)<=_;rw [qt (by omega) (by omega)];omega
    ·show ((k'.Sm++[OH k']).length:Int)=w64 (k'.SB+1)
     grind [qt]
    ·rcases i5.1 ha with ha|ha
     ·exact hk.done a ha
     grind [Kt]
   ·exact hI.Ul u k2 s2 hu hs2
  crew:=hI.crew
  own:=hI.own.mono (by omega)
  Un:=λo ho r hr=>(hI.Un o ho r hr).keep (λe=>by have:=rZ (show o∈h.Fn from ho) hr;rw [e,i1] at this;omega) _
  TH:=λu k2 hu=>by
   rcases fL hu with ⟨rfl,rfl,_⟩|⟨_,hu⟩
   ·show k'.Sl=((ic h.Fn u+lB h u:Nat):Int)
    grind
   ·exact hI.TH u k2 hu
  TO:=hI.TO
  call:=hI.call
  Sg:=hI.Sg
  TP:=hI.TP
  TM:=hI.TM
  TV:=hI.TV
  TQ:=by
   show (h.SE++es++[Mb t k']).length<=_;have:=hI.TQ
   grind
  Uj:=by have:=hI.Uj;show h.Se.length<=_;omega
  hel:=by have:=hI.hel;show h.held.length<=_;omega}
theorem Dr(hI:HI c ss n h)(hn:n+1<=100000000){t:Nat}{k k':ze}{s:List zK}(ht:h.or[t]? =some k)(hs:ss[t]? =some s)(hm:k.Sl=0)(hk:pB s k'){os:List zc}{l:List zB}
  (ho:uL c (16*n+16) os) (hend:∀o∈os,o.Sk=true->h.closed=true/\∀w∈h.LT,w.Sk=true) (hreq:∀o∈os,∀r∈o.Se,(∃o'∈h.Fn,r∈o'.Se)\/(r.Tt=t/\0<=r.TT/\(r.TB=true->r.TT<k'.parts.length)/\(r.TB=false->r.TT<k'.Id.SQ.length)))
  (hcnt:∀u:Int,ic os u=ic h.Fn u+(if u=t then ic os t else 0)) (hreg:∀u:Int,gA l u=gA h.Se u+(if u=t then gA l t else 0)) (hmis:k'.Sl=((ic os t+gA l t:Nat):Int)) (hex:gA l t=0\/(gA l t=1/\ic os t=0))
  (hcall:∀x∈l,(∃t:Nat,x.SG=t/\t<ss.length)/\x.cmd.SC.length<=140737488355328/\4<=x.cmd.RZ/\x.cmd.RZ<=10) (hl:l.length<=n+1):HI c ss (n+1) (Mc h t k k' os l):=by
 obtain ⟨i1,i2⟩:=hI.idle ht hm
 have hr0:gA h.held t+(if h.closed=true/\h.over=false/\h.Sg=t then 1 else 0)=0:=by
  grind [lB]
 have hreg2:∀u:Nat,lB (Mc h t k k' os l) u=if u=t then gA l t else lB h u:=by
  intro u;have h1:=hreg u;unfold lB;show gA l u+gA h.held u+(if h.closed=true/\h.over=false/\h.Sg=u then 1 else 0)=_
  grind
 exact
 {Tg:=hn
  Sv:=hI.Sv
  cl:=by show (h.or.set t _).length=_;rw [j7];exact hI.cl
  cr:=hI.cr
  rg:=hI.rg
  Tv:=hI.Tv.mono (by omega) (by omega)
  ring:=hI.ring
  Ul:=λu k2 s2 hu hs2=>by
   rcases fL hu with ⟨rfl,rfl,_⟩|⟨_,hu⟩
   ·grind
   ·exact hI.Ul u k2 s2 hu hs2
  crew:=hI.crew
  own:=ho.mono (by omega)
  Un:=λo ho2 r hr=>by
   rcases hreq o ho2 r hr with ⟨o',h1,h2⟩|⟨e,h1,h2,h3⟩
   ·exact (hI.Un o' h1 r h2).keep (λe=>by grind [rZ]) _
   ·exact .inl ⟨t,k',e,mM ht,h1,h2,h3⟩
  TH:=λu k2 hu=>by
   rw [hreg2 u];rcases fL hu with ⟨rfl,rfl,_⟩|⟨hne,hu⟩
   ·rw [d7 rfl];exact hmis
   ·rw [d8 hne];show k2.Sl=((ic os u+lB h u:Nat):Int)
    have:=hcnt u;rw [d8 (by omega)] at this;rw [this];exact hI.TH u k2 hu
  TO:=λu=>by
   rw [hreg2 u];show _\/_/\ic os u=0;by_cases e:u=t
   ·grind
   ·rw [d8 e];have:=hcnt u;rw [d8 (by omega)] at this;rw [this];exact hI.TO u
  call:=λx hx=>by
   rcases i5.1 hx with hx|hx
   ·exact hcall x hx
   ·exact hI.call x (zar _ hx)
  Sg:=hI.Sg
  TP:=hI.TP
  TM:=hend
  TV:=hI.TV
  TQ:=by
   show (h.SE++[gh t k]).length<=_;have:=hI.TQ
   grind
  Uj:=hl
  hel:=by have:=hI.hel;show h.held.length<=_;omega}
theorem pB.withA{s:List zK}{k:ze}(hk:pB s k)(E N:Int):pB s (withA k ⟨E,N,k.Id.SQ,k.Id.Pairs⟩):=
 ⟨hk.Sw,hk.Up,hk.Uy,hk.UH,hk.Uz,hk.done,hk.res,hk.UA,hk.Um,hk.part,hk.Uh⟩
theorem Ku(hS:cX c ss)(hI:HI c ss n h)(hn:n+1<=100000000){t:Nat}{k:ze}(ht:h.or[t]? =some k)(hw:k.waits=true)(hm:k.Sl=0):HI c ss (n+1) (uM h t k [] h.RX h.SK):=by
 obtain ⟨s,hs,hk⟩:=hI.at ht;exact Dq hI hn ht hs hm hk hm (hk.UH hw) (hS.sl s (zmg hs)) (by simp) ⟨hI.rg,hI.ring⟩ _
theorem Nl(hS:cX c ss)(hI:HI c ss n h)(hn:n+1<=100000000){t:Nat}{k:ze}(ht:h.or[t]? =some k)(hw:k.waits=false)(hat:k.SB<k.Sw.length){cmd:zK}(hc:k.Sw[k.SB.toNat]? =some cmd){h':za}(hv:CMv h t k cmd h'):HI c ss (n+1) h':=by
 obtain ⟨s,hs,hk⟩:=hI.at ht;have hs64:=hS.sl s (zmg hs);have hm:=hk.Uh hw;have hat2:k.SB<s.length:=by rw [<- hk.Sw];exact hat
 have htl:t<ss.length:=(zes.1 hs).1;have hfit:Fit cmd:=hS.fit s (zmg hs) cmd (by rw [<- hk.Sw];exact zmg hc)
 obtain ⟨i1,i2⟩:=hI.idle ht hm;have hl0:gA h.Se t=0:=by grind [lB]
 have hO4:h.Fn.length<=4:=by have:=hI.own.len;have:=hS.sh;omega
 have hendp:∀l,∀o∈puts h.Fn l,o.Sk=true->h.closed=true/\∀w∈h.LT,w.Sk=true:=λl o ho e=>by
  obtain ⟨j,hj⟩:=v9 ho;obtain ⟨o2,h2,e2⟩:=pA hj;exact hI.TM o2 (zmg h2) (by rw [e2];exact e)
 cases hv with
 |told E hE=>exact Dq hI hn ht hs hm (hk.withA E k.Id.N) hm hat2 hs64 (by simp) ⟨hI.rg,hI.ring⟩ _
 |fire i r r' n2 E g h1 h2 h3 h4 h5=>
  refine Dq hI hn ht hs hm (k':=withA k ⟨E,if E=0 then n2 else k.Id.N,k.Id.SQ,k.Id.Pairs⟩) (hk.withA _ _) hm hat2 hs64 (rs:=h.RX.set i r') (es:=[gh t k]++if E=0 then [PA t k n2 i] else []) (by grind) ⟨by rw [j7];exact hI.rg,λq hq=> ?_⟩ _
  rcases p9 hq with hq|rfl
  ·exact hI.ring q hq
  ·obtain ⟨a1,a2⟩:=hI.ring r (zmg h4);obtain ⟨q1,q2,q3,q4,hq,b1,b2,b3⟩:=iL a1 cmd.Sz h.SK;rw [h5] at hq;cases hq;refine ⟨b1,λx hx=> ?_⟩;rcases b3 with ⟨_,_,e⟩|⟨_,e⟩
   ·rw [e] at hx;rcases i5.1 hx with hx|hx
    ·exact a2 x hx
    ·rw [i6.1 hx];exact hfit.ev
   grind
 |items h1 h2 h3 h4 h5=>
  have hlt:∀x∈vx (t:Int) h.Fn.length (aW cmd),x.1<h.Fn.length:=λx hx=>by
   obtain ⟨i,y,hy,rfl⟩:=fF hx;obtain ⟨p,hp,hlt⟩:=wG (k:=y.Tc) (n:=(h.Fn.length:Int)) (by rw [hI.own.len];exact hS.sh.1) (by grind)
   grind [kx]
  have hcnt:=Bd (l:=vx (t:Int) h.Fn.length (aW cmd)) (f:=(t:Int)) (λx hx=>by grind [fF]) h.Fn hlt;rw [fE] at hcnt;have hct:=hcnt t;rw [d7 rfl,i1] at hct
  refine Dr hI hn ht hs hm (k':=Bg k (aW cmd).length (List.replicate (aW cmd).length Bf) k.parts) (os:=puts h.Fn (vx t h.Fn.length (aW cmd))) (l:=h.Se) ⟨hk.Sw,hk.Up,hk.Uy,λ_=>hat2,hk.Uz,hk.done,by show (List.replicate _ _).length<=16;rw [RU];exact h4,hk.UA,hk.Um,hk.part,λe=>by cases e⟩
   ((hI.own.puts (l:=vx (t:Int) h.Fn.length (aW cmd)) (λx hx=> ?_)).mono (by grind [fE])) (hendp _) (λo ho r hr=> ?_) (λu=> ?_) (λu=> ?_) ?_ ?_ ?_ (by have:=hI.Uj;omega)
  ·obtain ⟨i,y,hy,rfl⟩:=fF hx;have hg:=h5 y (zmg hy);rw [hI.Sv] at hg;refine ⟨hg.1,hg.2.1,.inr hg.2.2,?_⟩;show u64 y.SV;have hy2:=zmg hy;unfold aW at hy2;split at hy2
   ·rw [i6.1 hy2];exact hfit.it
   ·exact hfit.its y hy2
  ·rcases wI ho hr with h6|⟨x,hx,rfl⟩
   ·exact .inl h6
   ·obtain ⟨i,y,hy,rfl⟩:=fF hx;have hil:=(zes.1 hy).1;exact .inr ⟨rfl,by grind,(λe=>by cases e),λ_=>by show (i:Int)<(List.replicate _ _).length;rw [RU];omega⟩
  ·grind
  ·rw [hl0];simp
  ·rw [hct,hl0];show ((aW cmd).length:Int)=_;omega
  ·exact .inl hl0
  ·exact λx hx=>hI.call x (zal _ hx)
 |walk h1 h2 h3 h4=>
  have hcnt:=Bd (l:=aw (t:Int) h.Fn.length cmd.SO) (f:=(t:Int)) (λx hx=>by grind [fG]) h.Fn (λx hx=>by grind [fG]);rw [iw] at hcnt;have hct:=hcnt t;rw [d7 rfl,i1] at hct
  refine Dr hI hn ht hs hm (k':=Bg k h.Fn.length k.Id.SQ (List.replicate h.Fn.length [])) (os:=puts h.Fn (aw t h.Fn.length cmd.SO)) (l:=h.Se) ⟨hk.Sw,hk.Up,hk.Uy,λ_=>hat2,hk.Uz,hk.done,hk.res,hk.UA,by show (List.replicate _ _).length<=4;rw [RU];exact hO4,λp hp=>by rw [RT (show p∈List.replicate _ _ from hp)];simp,λe=>by cases e⟩
   ((hI.own.puts (l:=aw (t:Int) h.Fn.length cmd.SO) (λx hx=> ?_)).mono (by grind [iw])) (hendp _) (λo ho r hr=> ?_) (λu=> ?_) (λu=> ?_) ?_ ?_ ?_ (by have:=hI.Uj;omega)
  ·obtain ⟨i,hi,rfl⟩:=fG hx;rw [hI.Sv] at h4
   grind [z64]
  ·rcases wI ho hr with h6|⟨x,hx,rfl⟩
   ·exact .inl h6
   ·obtain ⟨i,hi,rfl⟩:=fG hx;exact .inr ⟨rfl,by grind,λ_=>(by show (i:Int)<(List.replicate _ _).length;rw [RU];omega),λe=>by cases e⟩
  ·grind
  ·rw [hl0];simp
  ·rw [hct,hl0];show (h.Fn.length:Int)=_;omega
  ·exact .inl hl0
  ·exact λx hx=>hI.call x (zal _ hx)
 |call h1 h2 h3=>
  have hct:gA (h.Se++[⟨t,cmd,0⟩]) t=1:=by grind [mL,rY]
  refine Dr hI hn ht hs hm (k':=Bg k 1 k.Id.SQ k.parts) (os:=h.Fn) (l:=h.Se++[⟨t,cmd,0⟩]) ⟨hk.Sw,hk.Up,hk.Uy,λ_=>hat2,hk.Uz,hk.done,hk.res,hk.UA,hk.Um,hk.part,λe=>by cases e⟩
   (hI.own.mono (by omega)) hI.TM (λo ho r hr=>.inl ⟨o,ho,hr⟩) (λu=> ?_) (λu=> ?_) ?_ ?_ ?_ (by have:=hI.Uj;rw [p5];simp only [v8,yz];omega)
  ·rw [i1];simp
  ·grind [mL,rY,gA]
  ·rw [hct,i1];rfl
  ·grind
  ·intro x hx;rcases i5.1 hx with hx|hx
   ·exact hI.call x (zal _ hx)
   ·rw [i6.1 hx];exact ⟨⟨t,rfl,htl⟩,hfit.Ug,h2,h3⟩
end
open Go.Sx
variable {o:zc} {i:Nat}
variable {c:zH} {ss:List (List zK)} {n:Nat} {h:za}
def OI(k:zo)(t:Nat)(x:qw):zo:=⟨k.Sd.set t ⟨2,x.Tz⟩,k.LE⟩
def Jx(t:Int):zd:=⟨15,t,0,0,0,0,0,0,0,0,nR,Bf,0,0⟩
def Md(t:Int)(q:bM)(cmd ev:Int):zd:=⟨3,t,q.To,cmd,q.TT,ev,0,0,0,0,q.Item,q.SQ,0,0⟩
def Ra(w:zE)(r:zk):zE:={w with Tw:=some r}
def QL(k:ze)(res:List zk)(ps:List (List zr)):ze:={k with Sl:=k.Sl-1,Id:=⟨k.Id.E,k.Id.N,res,k.Id.Pairs⟩,parts:=ps}
def Jy(h:za)(cs:List ze)(ws:List zE)(os:List zc)(es:List zd):za:=
 {h with or:=cs,LT:=ws,Fn:=os,SE:=h.SE++es}
structure uO (fu:Nat) (o:zc) (q:bM) (o':zc) (x:zt) (xs:List zt):Prop where
 step:jK fu o=some (q,true,o')
 Se:o.Se=x::xs
 Uo:o'.Se=xs
 to:q.To=x.Tt
 tag:q.TT=x.TT
 walk:q.TB=x.TB
 item:q.Item=x.Item
 Sc:q.Pairs.length<=16
 val:u64 q.SQ.SV
 ok:iM o'
 ou:F1 o'
 sh:o'.TA=o.TA/\o'.Te=o.Te/\o'.Sk=o.Sk/\o'.maps.length=o.maps.length
inductive SMv (fu:Nat) (h:za) (i:Nat) (o:zc):za->Prop
 | ends (t : Nat) (x : qw) : t = h.or.length + h.LT.length + i -> o.Se = [] -> h.Sn.Sd[t]? = some x -> x.Si ≠ 2 ->
   SMv fu h i o {h with Sn:=OI h.Sn t x,Fn:=h.Fn.set i {o with Sk:=true},SE:=h.SE++[Jx t]}
 | crew (t : Nat) (q : bM) (o' : zc) (x : zt) (xs : List zt) (j : Nat) (w : zE) : t = h.or.length + h.LT.length + i -> uO fu o q o' x xs -> x.Tt = (h.or.length : Int) + j -> h.LT[j]? = some w ->
   SMv fu h i o (Jy h h.or (h.LT.set j (Ra w q.SQ)) (h.Fn.set i o') [Md t q 0 w.RY.SL.SP.N])
 | walk (q : bM) (o' : zc) (x : zt) (xs : List zt) (u : Nat) (k : ze) : uO fu o q o' x xs -> x.Tt = (u : Int) -> h.or[u]? = some k -> x.TB = true -> 0 <= x.TT -> x.TT < k.parts.length ->
   SMv fu h i o (Jy h (h.or.set u (QL k k.Id.SQ (k.parts.set x.TT.toNat q.Pairs))) h.LT (h.Fn.set i o') [])
 | item (t : Nat) (q : bM) (o' : zc) (x : zt) (xs : List zt) (u : Nat) (k : ze) : t = h.or.length + h.LT.length + i -> uO fu o q o' x xs -> x.Tt = (u : Int) -> h.or[u]? = some k -> x.TB = false -> 0 <= x.TT -> x.TT < k.Id.SQ.length ->
   SMv fu h i o (Jy h (h.or.set u (QL k (k.Id.SQ.set x.TT.toNat q.SQ) k.parts)) h.LT (h.Fn.set i o') [Md t q k.SB 0])
theorem wL{fu:Nat}:Pst (jK fu o) (λq=>q.2.2.TA=o.TA/\q.2.2.Te=o.Te/\q.2.2.Sk=o.Sk/\q.2.2.maps.length=o.maps.length):=by
 unfold jK;refine j9 (g8 ⟨rfl,rfl,rfl,rfl⟩) (i8 λx=>i8 λys=>j9 (i8 λs=>i8 λps=>g8 ⟨rfl,rfl,rfl,rfl⟩) (i8 λs=>i8 λq=>g8 ⟨rfl,rfl,rfl,by grind⟩))
theorem PB{fu:Nat}(hfu:101<fu)(h:iM o)(hu:F1 o){x:zt}{xs:List zt}(hl:o.Se=x::xs):∃q o',uO fu o q o' x xs:=by
 obtain ⟨⟨q,b,o'⟩,h1,h2,h3,h4⟩:=oK hfu h;have h5:=Bz hu _ h1;have h6:=wL _ h1;rcases h4 with ⟨e,_⟩|⟨y,ys,e,rfl,e2,e3,e4,e5,e6,e7⟩
 ·grind
 ·have e0:=hl.symm.trans e;cases e0;refine ⟨q,o',h1,hl,e2,e3,e4,e5,e6,e7,h5.1,h2,⟨h5.2,λr hr=> ?_⟩,h6⟩;have e2:o'.Se=xs:=e2;rw [e2] at hr;exact hu.Se r (by grind)
theorem Nm{os:List zc}{b:Nat}(hb:∀o∈os,o.Se.length<=b)(f:Int):ic os f<=os.length*b:=by
 unfold ic
 induction os with
 |nil=>simp
 |cons o os ih=>
  have h1:=hb o zcs;have h2:=ih λp hp=>hb p (zcm _ hp)
  have h3:AC o.Se f<=o.Se.length:=List.countP_le_length;rw [yo,List.sum_cons,v8,u4];omega
theorem HI.cnt_small(hS:cX c ss)(hI:HI c ss n h)(f:Int):ic h.Fn f<=6400000000:=by
 have h1:=Nm (os:=h.Fn) (b:=16*n) (λo ho=>by
  obtain ⟨j,hj⟩:=v9 ho;exact (hI.own.all j o hj).2.2.2.2.2) f
 have h2:=hI.own.len;have h3:=hS.sh;have h4:=hI.Tg;have h5:h.Fn.length*(16*n)<=4*(16*n):=o9 _ (by omega);omega
theorem HI.crn(hS:cX c ss)(hI:HI c ss n h):h.LT.length=c.Sa.toNat:=by have:=hI.cr;have:=hS.wk;omega
theorem HI.own4(hS:cX c ss)(hI:HI c ss n h):h.Fn.length<=4/\h.Fn.length=c.Sf.toNat:=by have:=hI.own.len;have:=hS.sh;omega
theorem Kv{fu:Nat}(hfu:101<fu)(hS:cX c ss)(hI:HI c ss n h){t:Nat}(ho:h.Fn[i]? =some o)(ht:t=h.or.length+h.LT.length+i){x:qw}(hk:h.Sn.Sd[t]? =some x)(hm:x.Si≠2):
  OK (bZ fu h (t:Int)) (SMv fu h i o):=by
 have hil:=(zes.1 ho).1;have hcl:=hI.cl;have hcr:=hI.crn hS;have hSc:=hS.cl;have hSw:=hS.wk;have ho4:=(hI.own4 hS).1;have hlog:=hI.logb;obtain ⟨a1,a2,a3,a4,a5,a6⟩:=hI.own.all i o ho;unfold bZ qE zX;simp only [zbs];have e1:w64 ((h.or.length:Int)+(h.LT.length:Int))=(h.or.length:Int)+(h.LT.length:Int):=qt (by omega) (by omega);have e2:w64 ((t:Int)-((h.or.length:Int)+(h.LT.length:Int)))=(i:Int):=by grind [qt]
 rw [e1,e2,zU ho];simp only [zbs,k8];cases hl:o.Se with
 |nil=>
  obtain ⟨⟨q,b,o'⟩,h1,h2,h3,h4⟩:=oK hfu a1;rcases h4 with ⟨_,e3,e4⟩|⟨y,ys,e,_⟩
  ·have e3:b=false:=e3;have e4:o'=o:=e4;subst e3 e4;rw [h1];simp only [zbs];refine m9 rfl ?_
   have e5:bY o'=some (0,{o' with Sk:=true}):=by
    grind [bY,hl]
   rw [e5];simp only [zbs];rw [xX (m:=h.SE.length+_) (b:=176) (by grind)];simp only [zbs];rw [nS hk hm];simp only [zbs];exact b9 (.ends t x ht hl hk hm)
  grind
 |cons r rs=>
  obtain ⟨q,o',hq⟩:=PB hfu a1 a2 hl;rw [hq.step];simp only [zbs];refine j8 rfl ?_;rw [hq.to,hq.tag];have hreq:=hI.Un o (zmg ho) r (by grind);rcases hreq with ⟨u,k,eu,hu,g0,g1,g2⟩|⟨j,ej,hj,hjw⟩
  ·have hul:=(zes.1 hu).1;refine j8 (by grind) ?_;rw [eu,zU hu];simp only [zbs,k8];obtain ⟨s,hs,hck⟩:=hI.at hu;have hmis:=hI.TH u k hu;have hcs:=hI.cnt_small hS u;have hex:=hI.TO u;have e6:w64 (k.Sl-1)=k.Sl-1:=qt (by omega) (by omega);rw [hq.walk];refine d5 (λhw=> ?_) (λhw=> ?_)
   ·obtain ⟨p,hp,_⟩:=oF (xs:=k.parts) g0 (g1 hw);rw [hp];simp only [zbs];rw [e6];have:=SMv.walk (fu:=fu) (h:=h) (i:=i) (o:=o) q o' r rs u k hq eu hu hw g0 (g1 hw);unfold Jy at this;rw [i9] at this;exact b9 this
   ·obtain ⟨p,hp,_⟩:=oF (xs:=k.Id.SQ) g0 (g2 hw);rw [hp];simp only [zbs];rw [e6,xX (m:=h.SE.length+_) (b:=176) (by grind)];have:=SMv.item (fu:=fu) (h:=h) (i:=i) (o:=o) t q o' r rs u k ht hq eu hu hw g0 (g2 hw);unfold Jy Md at this;rw [hq.to,hq.tag,eu] at this;exact b9 this
  ·have hjl:j<h.LT.length:=hj;have hg:=zeg hjl;refine m9 (by grind) ?_;have e7:w64 (r.Tt-(h.or.length:Int))=(j:Int):=by grind [qt]
   rw [e7,zU hg];simp only [zbs,k8];unfold xp;simp only [zbs];rw [xX (m:=h.SE.length+_) (b:=176) (by grind)];have:=SMv.crew (fu:=fu) (h:=h) (i:=i) (o:=o) t q o' r rs j h.LT[j] ht hq ej hg;unfold Jy Md at this;rw [hq.to,hq.tag] at this;exact b9 this
theorem uL.set{c:zH}{b:Nat}{os:List zc}(h:uL c b os){i:Nat}{o o':zc}(ho:os[i]? =some o)(h1:iM o')(h2:F1 o')(h3:o'.TA=o.TA/\o'.Te=o.Te/\o'.maps.length=o.maps.length)(h4:o'.Se.length<=b):uL c b (os.set i o'):=by
 refine ⟨by rw [j7];exact h.len,λj p hp=> ?_⟩
 rcases fL hp with ⟨rfl,rfl,_⟩|⟨_,hp⟩
 ·obtain ⟨a1,a2,a3,a4,a5,a6⟩:=h.all _ _ ho
  grind
 ·exact h.all j p hp
theorem Ds(hS:cX c ss)(hI:HI c ss n h)(hn:n+1<=100000000)(ho:h.Fn[i]? =some o){fu:Nat}{q:bM}{o':zc}{x:zt}{xs:List zt}(hq:uO fu o q o' x xs)
  {cs:List ze} {ws:List zE} {es:List zd} (he:es.length<=2) (hcl:cs.length=h.or.length) (hwl:ws.length=h.LT.length) (hw:∀w∈ws,Bi c.Sj.toNat c.Maps.length w) (hwe:∀w∈ws,∃w'∈h.LT,w.Sk=w'.Sk)
  (hc:∀(t:Nat) k',cs[t]? =some k'->∃k,h.or[t]? =some k/\k'.parts.length=k.parts.length/\k'.Id.SQ.length=k.Id.SQ.length/\k'.Sl=k.Sl-(if x.Tt=t then 1 else 0)/\∀s,ss[t]? =some s->pB s k->pB s k'):HI c ss (n+1) (Jy h cs ws (h.Fn.set i o') es):=by
 obtain ⟨a1,a2,a3,a4,a5,a6⟩:=hI.own.all i o ho
 have hcn:∀f:Int,ic (h.Fn.set i o') f+(if x.Tt=f then 1 else 0)=ic h.Fn f:=λf=>by
  have h1:=wH ho o' f;rw [hq.Se,hq.Uo,HZ] at h1;omega
 have hend:(h.closed=true/\∀w∈h.LT,w.Sk=true)->h.closed=true/\∀w∈ws,w.Sk=true:=λe=>⟨e.1,λw hw2=>by
  grind⟩
 have hlen:o'.Se.length+1=o.Se.length:=by rw [hq.Se,hq.Uo];rfl
 have hback:∀(t:Nat) k,h.or[t]? =some k->∃k',cs[t]? =some k'/\k'.parts.length=k.parts.length/\k'.Id.SQ.length=k.Id.SQ.length:=λt k hk=>by
  grind
 exact
 {Tg:=hn
  Sv:=hI.Sv
  cl:=hcl.trans hI.cl
  cr:=by show (ws.length:Int)=_;rw [hwl];exact hI.cr
  rg:=hI.rg
  Tv:=hI.Tv.mono (by omega) (by omega)
  ring:=hI.ring
  Ul:=λt k' s hk' hs=>by
   obtain ⟨k,e1,_,_,_,e5⟩:=hc t k' hk';exact e5 s hs (hI.Ul t k s e1 hs)
  crew:=hw
  own:=(hI.own.set ho hq.ok hq.ou ⟨hq.sh.1,hq.sh.2.1,hq.sh.2.2.2⟩ (by omega)).mono (by omega)
  Un:=λp hp r hr=>by
   have hr2:∃p'∈h.Fn,r∈p'.Se:=by
    rcases p9 (show p∈h.Fn.set i o' from hp) with hp|rfl
    ·exact ⟨p,hp,hr⟩
    ·exact ⟨o,zmg ho,by rw [hq.Se];rw [hq.Uo] at hr;exact zcm _ hr⟩
   obtain ⟨p',hp',hr'⟩:=hr2;show wJ cs ws.length r;rw [hwl];exact (hI.Un p' hp' r hr').same hcl hback
  TH:=λt k' hk'=>by
   obtain ⟨k,e1,_,_,e4,_⟩:=hc t k' hk';have h1:=hI.TH t k e1;have h2:=hcn t;show k'.Sl=((ic (h.Fn.set i o') t+lB h t:Nat):Int)
   grind
  TO:=λt=>by
   have h1:=hI.TO t;have h2:=hcn t;show lB h t=0\/lB h t=1/\ic (h.Fn.set i o') t=0
   grind
  call:=hI.call
  Sg:=hI.Sg
  TP:=hI.TP
  TM:=λp hp e=>by
   rcases p9 (show p∈h.Fn.set i o' from hp) with hp|rfl
   ·exact hend (hI.TM p hp e)
   ·exact hend (hI.TM o (zmg ho) (by rw [<- hq.sh.2.2.1];exact e))
  TV:=λw hw2 e=>by
   obtain ⟨w',h1,h2⟩:=hwe w hw2;exact hI.TV w' h1 (by rw [<- h2];exact e)
  TQ:=by
   show (h.SE++es).length<=_;have:=hI.TQ
   grind
  Uj:=by have:=hI.Uj;show h.Se.length<=_;omega
  hel:=by have:=hI.hel;show h.held.length<=_;omega}
theorem Nn(hS:cX c ss)(hI:HI c ss n h)(hn:n+1<=100000000){fu:Nat}(ho:h.Fn[i]? =some o)(hcl:o.Se=[]->h.closed=true/\∀w∈h.LT,w.Sk=true){h':za}(hv:SMv fu h i o h'):HI c ss (n+1) h':=by
 obtain ⟨a1,a2,a3,a4,a5,a6⟩:=hI.own.all i o ho;cases hv with
 |ends t x ht hl hk hm=>
  have hcn:∀f:Int,ic (h.Fn.set i {o with Sk:=true}) f=ic h.Fn f:=λf=>by
   have h1:ic (h.Fn.set i {o with Sk:=true}) f+AC o.Se f=ic h.Fn f+AC o.Se f:=wH ho {o with Sk:=true} f;omega
  exact
  {Tg:=hn
   Sv:=hI.Sv
   cl:=hI.cl
   cr:=hI.cr
   rg:=hI.rg
   Tv:=hI.Tv.mono (by omega) (by omega)
   ring:=hI.ring
   Ul:=hI.Ul
   crew:=hI.crew
   own:=(hI.own.set ho (o':={o with Sk:=true}) ⟨a1.s1,a1.s4,a1.m4,a1.all,a1.TX⟩ ⟨a2.maps,a2.Se⟩ ⟨rfl,rfl,rfl⟩ a6).mono (by omega)
   Un:=λp hp r hr=>by
    rcases p9 (show p∈h.Fn.set i _ from hp) with hp|rfl
    ·exact hI.Un p hp r hr
    grind
   TH:=λu k hk=>by
    show k.Sl=((ic (h.Fn.set i _) u+lB h u:Nat):Int)
    rw [hcn];exact hI.TH u k hk
   TO:=λu=>by
    show lB h u=0\/lB h u=1/\ic (h.Fn.set i _) u=0;rw [hcn];exact hI.TO u
   call:=hI.call
   Sg:=hI.Sg
   TP:=by show (h.Sn.Sd.set t _).length=_;rw [j7];exact hI.TP
   TM:=λp hp e=>hcl hl
   TV:=hI.TV
   TQ:=by
    show (h.SE++[Jx t]).length<=_;have:=hI.TQ
    grind
   Uj:=by have:=hI.Uj;show h.Se.length<=_;omega
   hel:=by have:=hI.hel;show h.held.length<=_;omega}
 |crew t q o' x xs j w ht hq hf hw=>
  refine Ds hS hI hn ho hq (by simp) rfl (by grind) (λv hv=> ?_) (λv hv=> ?_) (λu k hk=>⟨k,hk,rfl,rfl,?_,λs _ e=>e⟩)
  ·rcases p9 hv with hv|rfl
   ·exact hI.crew v hv
   ·have hw1:=hI.crew w (zmg hw);exact ⟨hw1.SL,hw1.cur,λr e=>by cases e;exact hq.val,hw1.over⟩
  ·rcases p9 hv with hv|rfl
   ·exact ⟨v,hv,rfl⟩
   ·exact ⟨w,zmg hw,rfl⟩
  grind
 |walk q o' x xs u k hq hf hu hw g0 g1=>
  refine Ds hS hI hn ho hq (by simp) (by grind) rfl hI.crew (λw hw=>⟨w,hw,rfl⟩) (λv k' hk'=> ?_);rcases fL hk' with ⟨rfl,rfl,_⟩|⟨hne,hk'⟩
  ·refine ⟨k,hu,by show (k.parts.set _ _).length=_;rw [j7],rfl,by rw [d7 hf];rfl,λs hs e=>⟨e.Sw,e.Up,e.Uy,e.UH,e.Uz,e.done,e.res,e.UA,by show (k.parts.set _ _).length<=4;rw [j7];exact e.Um,λp hp=> ?_,λew=> ?_⟩⟩
   ·rcases p9 (show p∈k.parts.set _ _ from hp) with hp|rfl
    ·exact e.part p hp
    ·exact hq.Sc
   ·have h0:=e.Uh ew;have h1:=hI.TH v k hu;have h2:=rZ (zmg ho) (r:=x) (by rw [hq.Se];exact zcs)
    rw [hf] at h2;omega
  grind
 |item t q o' x xs u k ht hq hf hu hw g0 g1=>
  refine Ds hS hI hn ho hq (by simp) (by grind) rfl hI.crew (λw hw=>⟨w,hw,rfl⟩) (λv k' hk'=> ?_);rcases fL hk' with ⟨rfl,rfl,_⟩|⟨hne,hk'⟩
  ·refine ⟨k,hu,rfl,by show (k.Id.SQ.set _ _).length=_;rw [j7],by rw [d7 hf];rfl,λs hs e=>⟨e.Sw,e.Up,e.Uy,e.UH,e.Uz,e.done,by show (k.Id.SQ.set _ _).length<=16;rw [j7];exact e.res,e.UA,e.Um,e.part,λew=> ?_⟩⟩
   have h0:=e.Uh ew;have h1:=hI.TH v k hu;have h2:=rZ (zmg ho) (r:=x) (by rw [hq.Se];exact zcs)
   rw [hf] at h2;omega
  grind
end Go.Proofs.YtplmgfkghomelaaGreatDoor.KH
