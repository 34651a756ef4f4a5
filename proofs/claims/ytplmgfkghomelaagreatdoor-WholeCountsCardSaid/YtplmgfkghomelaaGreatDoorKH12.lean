/- Lemmas. -/
import Derived.Test.YtplmgfkghomelaaGreatDoorKReg3
set_option linter.all false
namespace Go.Proofs.YtplmgfkghomelaaGreatDoor.KH
open Go.Sx
variable {c:zH}{n i a j W:Nat}{h F:za}{ss:List (List zO)}{o o':zc}{x:Nat×zp}{r J:zp}{α:Type}{l:List (Nat×zp)}{es:List zd}{m f:Int}{y E:α}{k' I:ze}{xs:List zp}{d:List Nat}{e v:List zc}{z:List zO}{A:List zg}{B:zg}{C:zO}{D:List α}{G g:List ze}{q:bB}{b:List zz}
def Mu(o:zc)(r:zp):zc:={o with Sr:=o.Sr++[r]}
def oF(os:List zc)(x:Nat×zp):List zc:=match os[x.1]? with
 |some o=>os.set x.1 (Mu o x.2)
 |none=>os
def puts(os:List zc)(l:List (Nat×zp)):List zc:=l.foldl oF os
theorem oY(os:List zc)(x:Nat×zp):(oF os x).length=os.length:=by
 grind [oF]
theorem oZ(l:List (Nat×zp)):∀os:List zc,(puts os l).length=os.length:=by
 induction l with
 |nil=>exact λos=>rfl
 |cons x l i=>exact λos=>(i (oF os x)).trans (oY os x)
def wv(l:List zp)(f:Int):Nat:=l.countP (λr=>r.TJ==f)
def eY(os:List zc)(f:Int):Nat:=(os.map (λo=>wv o.Sr f)).sum
def gy(l:List zB)(t:Int):Nat:=l.countP (λx=>x.SR==t)
theorem DJ(h:d[i]? =some a)(b:Nat):(d.set i b).sum+a=d.sum+b:=by
 induction d generalizing i with
 |nil=>simp at h
 |cons x d c=>
  cases i with
  |zero=>simp at h;subst h;simp;omega
  |succ i=>
   grind
theorem ng(h:e[i]? =some o)(o':zc)(f:Int):eY (e.set i o') f+wv o.Sr f=eY e f+wv o'.Sr f:=by
 unfold eY;rw [yb];exact DJ (by grind) _
theorem BN(l:List zp)(r:zp)(f:Int):wv (l++[r]) f=wv l f+if r.TJ=f then 1 else 0:=by
 grind [wv]
theorem BO(l:List zp)(r:zp)(f:Int):wv (r::l) f=wv l f+if r.TJ=f then 1 else 0:=by
 grind [wv]
theorem tB(l:List zB)(x:zB)(f:Int):gy (x::l) f=gy l f+if x.SR=f then 1 else 0:=by
 grind [gy]
theorem ni(l a:List zB)(f:Int):gy (l++a) f=gy l f+gy a f:=by
 grind [gy]
theorem sK(x:zB)(f:Int):gy [x] f=if x.SR=f then 1 else 0:=by
 grind [tB,gy]
theorem tD{os:List zc}(h:x.1<os.length)(f:Int):eY (oF os x) f=eY os f+if x.2.TJ=f then 1 else 0:=by
 unfold oF;rw [zeg h];have:=ng (zeg h) (Mu os[x.1] x.2) f
 grind [wv,Mu,BN,eY]
theorem BP(a:∀x∈l,x.2.TJ=f):∀os:List zc,(∀x∈l,x.1<os.length)->∀g,eY (puts os l) g=eY os g+if f=g then l.length else 0:=by
 induction l with
 |nil=>intro os h g;simp [puts]
 |cons x l i=>
  intro os h g;have b:=tD (h x zcs) g
  grind [oF,oY,eY,puts]
theorem Ge(h:a∈d):a<=d.sum:=by
 induction d with
 |nil=>cases h
 |cons x d i=>
  grind
theorem KG(h:r∈xs):1<=wv xs r.TJ:=by
 grind [wv]
theorem sL(a:o∈e)(h:r∈o.Sr):1<=eY e r.TJ:=by
 have b:=KG h
 have c:wv o.Sr r.TJ<=eY e r.TJ:=by
  unfold eY;exact Ge (ym.2 ⟨o,a,rfl⟩)
 omega
structure ww (c:zH) (b:Nat) (os:List zc):Prop where
 len:(os.length:Int)=c.Sw
 all:∀(i:Nat)(o:zc),os[i]? =some o->iV o/\Gk o/\o.TP=i/\o.Tt=c.Sw/\o.maps.length=c.Maps.length/\o.Sr.length<=b
theorem ww.mono(h:ww c n e)(l:n<=a):ww c a e:=
 ⟨h.len,λi o b=>by obtain ⟨d,f,g,j,k,m⟩:=h.all i o b;exact ⟨d,f,g,j,k,by omega⟩⟩
theorem ww.put(h:ww c n v)(g:0<=x.2.Item.Tc)(j:x.2.Item.Tc<c.Maps.length)(q:x.2.TQ=true\/(0<=x.2.Item.Op/\x.2.Item.Op<5))(t:u64 x.2.Item.Tp):ww c (n+1) (oF v x):=by
 refine ⟨by rw [oY];exact h.len,λi o a=> ?_⟩
 unfold oF at a;split at a
 ·rename_i m s
  rw [yo] at a;split at a
  ·rename_i e
   subst e;split at a
   ·obtain rfl:=j4 a;obtain ⟨b,d,k,l,f,p⟩:=h.all _ _ s;refine ⟨{b with Uj:=λr hr=> ?_},⟨d.maps,λr hr=> ?_⟩,k,l,f,?_⟩
    ·rcases g8.1 hr with hr|hr
     ·exact b.Uj r hr
     ·rw [i6.1 hr];exact ⟨g,by show _<((m.maps.length:Nat):Int);rw [f];exact j,q⟩
    ·rcases g8.1 hr with hr|hr
     ·exact d.Sr r hr
     grind
    ·show (m.Sr++[x.2]).length<=_
     grind
   ·cases a
  ·obtain ⟨b,d,k,l,f,p⟩:=h.all _ _ a
   grind
 ·obtain ⟨b,d,k,l,f,p⟩:=h.all _ _ a
  grind
theorem ww.puts:∀{b:Nat} {os:List zc} (h:ww c b os) (hl:∀x∈l,0<=x.2.Item.Tc/\x.2.Item.Tc<c.Maps.length/\(x.2.TQ=true\/(0<=x.2.Item.Op/\x.2.Item.Op<5))/\u64 x.2.Item.Tp),ww c (b+l.length) (KH.puts os l):=by
 induction l with
 |nil=>exact λh _=>h
 |cons x l i=>
  intro b os h hl;obtain ⟨a,d,e,f⟩:=hl x zcs;have:=i (h.put a d e f) (λy g=>hl y (zcm _ g));exact this.mono (by grind)
theorem An:∀{os:List zc} {o:zc} {r:zp},o∈KH.puts os l->r∈o.Sr->(∃o'∈os,r∈o'.Sr)\/∃x∈l,x.2=r:=by
 induction l with
 |nil=>exact λb c=>.inl ⟨_,b,c⟩
 |cons x l i=>
  intro os o r b c;rcases i (os:=oF os x) b c with ⟨o',h,a⟩|⟨y,h,a⟩
  ·unfold oF at h;split at h
   ·rename_i d e
    rcases q7 h with h|rfl
    ·grind
    ·rcases g8.1 (show r∈d.Sr++[x.2] from a) with a|a
     ·grind
     grind
   grind
  grind
theorem tH(h:(oF v x)[i]? =some o):∃o',v[i]? =some o'/\o'.Sv=o.Sv:=by
 unfold oF at h;split at h
 ·rename_i a b
  rw [yo] at h;split at h
  ·rename_i e
   subst e;split at h
   ·obtain rfl:=j4 h;exact ⟨a,b,rfl⟩
   ·cases h
  ·exact ⟨o,h,rfl⟩
 ·exact ⟨o,h,rfl⟩
theorem gJ:∀{os:List zc} {i:Nat} {o:zc},(KH.puts os l)[i]? =some o->∃o',os[i]? =some o'/\o'.Sv=o.Sv:=by
 induction l with
 |nil=>exact λh=>⟨_,h,rfl⟩
 |cons x l a=>
  intro os i o h;obtain ⟨b,c,e⟩:=a (os:=oF os x) h
  grind [tH]
def ig(k:Int)(n:Nat):Nat:=((av k (n:Int)).getD 0).toNat
theorem DK(h:ww c i e)(j:1<=c.Sw/\c.Sw<=4)(d:∀o∈e,o.Sv=false)(f:0<=r.Item.Tc)(g:r.Item.Tc<c.Maps.length)(b:0<=r.Item.Op/\r.Item.Op<5)(t:(i+1)*56<=140737488355328):
  ∃(p:Nat)(o:zc),ig r.Item.Ts e.length=p/\av r.Item.Ts (e.length:Int)=some (p:Int)/\p<e.length/\Go.Sx.idx e (p:Int)=some o/\e[p]? =some o/\jI o [r]=some (0,Mu o r):=by
 obtain ⟨p,l,q⟩:=Am (k:=r.Item.Ts) (n:=(e.length:Int)) (by rw [h.len];exact j.1) (by rw [h.len];exact j.2)
 have a:p<e.length:=by omega
 have m:=zeg a;obtain ⟨u,v,w,x,s,y⟩:=h.all _ _ m;refine ⟨p,e[p],by grind [ig],l,a,nO a,m,?_⟩;rw [h.len] at l;exact Ik (d _ (yn a)) f (by rw [s];exact g) (.inr ⟨b.1,b.2,by grind⟩) (by omega)
def ol:zg:=⟨0,0,0,0⟩
def BQ:zk:=⟨0,false,0,false,0,0⟩
def O4(k:ze):zC:=⟨k.Id.E,k.Id.N,k.Id.Tj,k.Id.Pairs++k.parts.flatten⟩
def Fi(k:ze):ze:=⟨k.SP,w64 (k.SO+1),false,k.SB,QF,[],k.SE++[O4 k]⟩
def DL(t:Int)(k:ze):zd:=⟨2,t,0,k.SO,0,0,0,0,0,0,ol,BQ,xW k.Id.N,k.Id.E⟩
def eS(t:Int)(k:ze):zd:=⟨1,t,0,k.SO,0,0,0,0,0,0,ol,BQ,0,0⟩
def O5(t:Int)(k:ze)(n h:Int):zd:=⟨4,t,0,k.SO,0,n,h,0,0,0,ol,BQ,0,0⟩
def withA(k:ze)(a:zC):ze:={k with Id:=a}
def uF(h:za)(t:Nat)(k:ze)(es:List zd)(r:List zr)(g:zJ):za:=
 {h with or:=h.or.set t (Fi k),rings:=r,SH:=h.SH++es++[DL t k],Ti:=g}
def bv(c:zO):List zg:=if c.Sm=0 then [c.Item] else c.SV
def vA(t:Int)(n:Nat)(l:List zg):List (Nat×zp):=l.mapIdx (λi x=>(ig x.Ts n,⟨t,(i:Int),false,x⟩))
def az(t:Int)(n:Nat)(m:Int):List (Nat×zp):=(List.range n).map (λs=>(s,⟨t,(s:Int),true,⟨m,0,0,0⟩⟩))
def BR(k:ze)(n:Int)(r:List zk)(p:List (List zt)):ze:=⟨k.SP,k.SO,true,n,⟨0,k.Id.N,r,k.Id.Pairs⟩,p,k.SE⟩
def KI(h:za)(t:Nat)(k k':ze)(os:List zc)(l:List zB):za:=
 {h with or:=h.or.set t k',Fd:=os,Sr:=l,SH:=h.SH++[eS t k]}
def BS(c:zH)(i:zg):Prop:=0<=i.Tc/\i.Tc<c.Maps.length/\0<=i.Op/\i.Op<5
def Rv(h:za)(x:zO)(E:Int):Prop:=E≠0/\(x.Sm=3->(h.Sk=true/\E=43)\/(h.Sk=false/\E=2/\¬ (0<=x.SS/\x.SS<h.rings.length)))
inductive CMv (h:za) (t:Nat) (k:ze) (cmd:zO):za->Prop
 |told (E:Int):Rv h cmd E->CMv h t k cmd (uF h t (withA k ⟨E,k.Id.N,k.Id.Tj,k.Id.Pairs⟩) [eS t k] h.rings h.Ti)
 | fire (i : Nat) (r r' : zr) (n E : Int) (g : zJ) : h.Sk = false -> cmd.Sm = 3 -> cmd.SS = i -> h.rings[i]? = some r -> xi r cmd.SK h.Ti = some (n, E, r', g) ->
   CMv h t k cmd (uF h t (withA k ⟨E,if E=0 then n else k.Id.N,k.Id.Tj,k.Id.Pairs⟩) ([eS t k]++if E=0 then [O5 t k n i] else []) (h.rings.set i r') g)
 | items : h.Sk = false -> (cmd.Sm = 0 \/ cmd.Sm = 1) -> 1 <= (bv cmd).length -> (bv cmd).length <= 16 -> (∀ i ∈ bv cmd, BS h.SI i) ->
   CMv h t k cmd (KI h t k (BR k (bv cmd).length (List.replicate (bv cmd).length BQ) k.parts) (puts h.Fd (vA t h.Fd.length (bv cmd))) h.Sr)
 | walk : h.Sk = false -> cmd.Sm = 2 -> 0 <= cmd.Tc -> cmd.Tc < h.SI.Maps.length ->
   CMv h t k cmd (KI h t k (BR k h.Fd.length k.Id.Tj (List.replicate h.Fd.length [])) (puts h.Fd (az t h.Fd.length cmd.Tc)) h.Sr)
 |call:h.Sk=false->4<=cmd.Sm->cmd.Sm<=10->CMv h t k cmd (KI h t k (BR k 1 k.Id.Tj k.parts) h.Fd (h.Sr++[⟨t,cmd,0⟩]))
open Go.Sx
theorem zV{α:Type}{xs:List α}{x:α}(h:xs[i]? =some x):Go.Sx.idx xs (i:Int)=some x:=by
 grind [nO]
theorem xR{m b:Nat}(h:m*b<=140737488355328):room m b=some ():=by
 grind [room]
structure pX (s:List zO) (k:ze):Prop where
 SP:k.SP=s
 UF:0<=k.SO
 UK:k.SO<=s.length
 UX:k.waits=true->k.SO<s.length
 UN:(k.SE.length:Int)=k.SO
 done:∀a∈k.SE,a.Tj.length<=16/\a.Pairs.length<=64
 res:k.Id.Tj.length<=16
 UO:k.Id.Pairs=[]
 Uy:k.parts.length<=4
 part:∀p∈k.parts,p.length<=16
 Uv:k.waits=false->k.SB=0
structure BT (H K:Nat) (w:zz):Prop where
 SX:WJ H K w.LT
 cur:0<=w.Tb/\w.Tb<H
 rep:∀r,w.Tw=some r->u64 r.Tp
 over:w.Sv=true->w.LT.Su=0
def Ao(c:List ze)(W:Nat)(r:zp):Prop:=
 (∃(t:Nat)(k:ze),r.TJ=t/\c[t]? =some k/\0<=r.Ug/\(r.TQ=true->r.Ug<k.parts.length)/\(r.TQ=false->r.Ug<k.Id.Tj.length))\/
 ∃j:Nat,r.TJ=(c.length:Int)+j/\j<W/\r.TQ=false
def lC(h:za)(t:Int):Nat:=gy h.Sr t+gy h.held t+(if h.Sk=true/\h.over=false/\h.Sy=t then 1 else 0)
structure aR (c:zH) (ss:List (List zO)):Prop where
 hk:1<=c.SA/\c.SA<=4
 wk:1<=c.Sl/\c.Sl<=4
 sh:1<=c.Sw/\c.Sw<=4
 mp:c.Maps.length<=4
 cl:1<=ss.length/\ss.length<=4
 sl:∀s∈ss,s.length<=64
 fit:∀s∈ss,∀c∈s,Fit c
structure HI (c:zH) (ss:List (List zO)) (n:Nat) (h:za):Prop where
 Tv:n<=100000000
 SI:h.SI=c
 cl:h.or.length=ss.length
 cr:(h.LE.length:Int)=c.Sl
 rg:(h.rings.length:Int)=c.SA
 Ty:fF c.SA.toNat c.Maps.length c.Sl.toNat n h.Fn
 ring:∀r∈h.rings,kF r/\∀q∈r.waiting,u64 q.SK.A/\u64 q.SK.B
 Uu:∀(t:Nat) k s,h.or[t]? =some k->ss[t]? =some s->pX s k
 crew:∀w∈h.LE,BT c.SA.toNat c.Maps.length w
 own:ww c (16*n) h.Fd
 UA:∀o∈h.Fd,∀r∈o.Sr,Ao h.or h.LE.length r
 TV:∀(t:Nat) k,h.or[t]? =some k->k.SB=((eY h.Fd t+lC h t:Nat):Int)
 Ub:∀t:Nat,lC h t=0\/(lC h t=1/\eY h.Fd t=0)
 call:∀x∈h.Sr++h.held,(∃t:Nat,x.SR=t/\t<ss.length)/\x.cmd.SM.length<=140737488355328/\4<=x.cmd.Sm/\x.cmd.Sm<=10
 Sy:∃t:Nat,h.Sy=t/\t<ss.length
 Uc:h.SD.Sn.length=ss.length+c.Sl.toNat+c.Sw.toNat+1
 TW:∀o∈h.Fd,o.Sv=true->h.Sk=true/\∀w∈h.LE,w.Sv=true
 Ud:∀w∈h.LE,w.Sv=true->h.Sk=true
 Ua:h.SH.length<=200*n
 Ux:h.Sr.length<=n
 hel:h.held.length<=n
theorem Fj{l:List (List zt)}{b:Nat}(h:∀p∈l,p.length<=b):l.flatten.length<=l.length*b:=by
 induction l with
 |nil=>simp
 |cons p l i=>
  have c:=h p zcs;have d:=i λq a=>h q (zcm _ a)
  rw [yc,p6,u7,t8];omega
theorem KJ(h:pX z k'):(O4 k').Tj.length<=16/\(O4 k').Pairs.length<=64:=by
 refine ⟨h.res,?_⟩;show (k'.Id.Pairs++k'.parts.flatten).length<=64;have a:=Fj h.part;have b:=h.Uy;rw [h.UO,List.nil_append];omega
theorem Il{k:ze}{s:List zO}(j:h.or[n]? =some k)(c:pX s k)(w:s.length<=64)(hl:h.SH.length<=500000000000):jc h (n:Int)=some (uF h n k [] h.rings h.Ti):=by
 unfold jc;rw [zV j,zbs]
 have a:jM (fb k) (λ(d:(List zt))=>{k with Id:=(zC.mk k.Id.E k.Id.N k.Id.Tj d)}) (k.parts).length 0 k.Id.Pairs=some {k with Id:=(O4 k)}:=by
  refine OK.is (g9 (λi l=>l=k.Id.Pairs++(k.parts.take i).flatten) (by simp) (λi l e o r t=> ?_) (λl hl=> ?_))
  ·subst r;unfold fb;refine f9 (i7 o λp f=>f9 (OK.hasRoom ?_ (t _ ?_)))
   ·have g:=Fj (l:=k.parts.take i) (b:=16) λq u=>c.part q (R5 u)
    have v:=c.part p (zmg f);have x:=c.Uy;rw [yx] at g;rw [c.UO,List.nil_append];omega
   ·rw [mB f,yr,w6];simp
  ·subst hl;rw [List.take_length];rfl
 rw [a];simp only [zbs];have g:=c.UN;have v:=c.UK;rw [xR (m:=h.SH.length+_) (b:=176) (by grind)];simp only [zbs];rw [xR (m:=k.SE.length+_) (b:=64) (by grind)];simp only [zbs,k8,i5];unfold uF;rw [i9];rfl
theorem Im{k:ze}(b:h.or[n]? =some k)(a:pX z k)(c:z.length<=64)(hl:h.SH.length<=400000000000)(E N:Int){es:List zd}(e:es.length<=2)(r:List zr)(g:zJ):
  jc {h with or:=h.or.set n (withA k ⟨E,N,k.Id.Tj,k.Id.Pairs⟩),rings:=r,SH:=h.SH++es,Ti:=g} (n:Int)=some (uF h n (withA k ⟨E,N,k.Id.Tj,k.Id.Pairs⟩) es r g):=by
 have d:=(zes.1 b).1;rw [Il (k:=withA k ⟨E,N,k.Id.Tj,k.Id.Pairs⟩) (s:=z) (by grind) ⟨a.SP,a.UF,a.UK,a.UX,a.UN,a.done,a.res,a.UO,a.Uy,a.part,a.Uv⟩ c (by grind)];unfold uF;simp only [yz,i9]
theorem Fk(g:h.SI=c)(l:List zg):∃b,xC h l=some b/\(b=false->∀i∈l,BS c i):=by
 subst g;unfold xC qf ql
 obtain ⟨o,j,k⟩:OK (jM (qB l h) (λ(d:Unit)=>(.inl ())) l.length 0 ()) (λo=>match o with|.inl _=>∀i∈l,BS h.SI i|.inr r=>0<=r):=by
  refine g9 (λi _=>∀x∈l.take i,BS h.SI x) (by simp) (λi s a m A n=> ?_) (λs B=>by grind);unfold qB;refine f9 (i7 m λx p=> ?_);refine d6 (R:=λb=>b=false->BS h.SI x) ?_ (λb f=>d5 (λe=>b9 (by grind)) (λe=>n _ (λy q=> ?_)))
  ·unfold cF;refine d6 (R:=λb=>b=false->BS h.SI x) ?_ (λb f=>b9 f);refine d5 (λe=>b9 λz=>by cases z) (λt=>d5 (λe=>b9 λz=>by cases z) (λu=>d5 (λe=>b9 λz=>by cases z) (λv=>b9 λw=> ?_)));simp only [decide_eq_false_iff_not] at t u v w;exact ⟨by omega,by omega,by omega,by omega⟩
  ·rw [mB p] at q
   grind
 rw [j];cases o with
 |inl _=>exact ⟨_,rfl,λ_=>k⟩
 |inr r=>
  refine ⟨_,rfl,λe=> ?_⟩
  grind
theorem tI{t:Int}(h:A[i]? =some B):(vA t n A)[i]? =some (ig B.Ts n,⟨t,(i:Int),false,B⟩):=by
 grind [vA]
theorem fS:(vA m n A).length=A.length:=by
 grind [vA]
theorem BU(os:List zc)(l:List (Nat×zp))(x:Nat×zp):puts os (l++[x])=oF (puts os l) x:=by
 grind [puts]
theorem fT(h:x∈vA m n A):∃(i:Nat)(y:zg),A[i]? =some y/\x=(ig y.Ts n,⟨m,(i:Int),false,y⟩):=by
 obtain ⟨i,a⟩:=p9 h;have hl:=(zes.1 a).1;rw [fS] at hl;rw [tI (zeg hl)] at a
 grind
theorem wx{l:List zg}(h:ww c a e)(k:1<=c.Sw/\c.Sw<=4)(w:∀o∈e,o.Sv=false){t:Int}(m:∀i∈l,BS c i/\u64 i.Tp)(N:(a+l.length+1)*56<=140737488355328)
  {body:Nat->(List zc->Option (List zc))->List zc->Option (List zc)}
  (d:∀i b (s:List zc),body i b s=(Go.Sx.idx l (i:Int)).bind λx=>(av x.Ts (s.length:Int)).bind λp=>(Go.Sx.idx s p).bind λo=>(jI o [⟨t,(i:Int),false,x⟩]).bind λr=>b (s.set (Int.toNat p) r.2)):
  jM body (λs=>s) l.length 0 e=some (puts e (vA t e.length l)):=by
 refine OK.is (g9 (λi s=>s=puts e ((vA t e.length l).take i)) rfl (λi s b A B C=> ?_) (λs k=>by grind [fS]));subst B;rw [d];refine f9 (i7 A λx q=> ?_);have D:=tI (t:=t) (n:=e.length) q;have u:(puts e ((vA t e.length l).take i)).length=e.length:=oZ _ _;have f:=m x (zmg q)
 have E:ww c (a+l.length) (puts e ((vA t e.length l).take i)):=by
  refine (h.puts (l:=(vA t e.length l).take i) (λy F=> ?_)).mono (by grind);obtain ⟨j,z,G,rfl⟩:=fT (R5 F);obtain ⟨g,I⟩:=m z (zmg G);exact ⟨g.1,g.2.1,.inr g.2.2,I⟩
 obtain ⟨p,o,v,J,O,K,P,L⟩:=DK E k (λo M=>by
  obtain ⟨j,Q⟩:=p9 M
  grind [gJ]) (r:=⟨t,(i:Int),false,x⟩) f.1.1 f.1.2.1 f.1.2.2 (by omega)
 have v:ig x.Ts (puts e ((vA t e.length l).take i)).length=p:=v;rw [show av x.Ts ((puts e ((vA t e.length l).take i)).length:Int)=some (p:Int) from J];simp only [zbs];rw [K];simp only [zbs];rw [L];simp only [zbs,k8];refine C _ ?_;rw [mB D,BU]
 grind [oF]
theorem DM{t:Int}(h:i<n):(az t n m)[i]? =some (i,⟨t,(i:Int),true,⟨m,0,0,0⟩⟩):=by
 grind [az]
theorem iH:(az f n m).length=n:=by
 grind [az]
theorem fU(h:x∈az f n m):∃i:Nat,i<n/\x=(i,⟨f,(i:Int),true,⟨m,0,0,0⟩⟩):=by
 grind [az]
theorem In(h:ww c n e)(k:1<=c.Sw/\c.Sw<=4)(p:∀o∈e,o.Sv=false)(q:0<=C.Tc)(u:C.Tc<c.Maps.length)(B:(n+6)*56<=140737488355328):
  jM (dM f C) (λs=>s) e.length 0 e=some (puts e (az f e.length C.Tc)):=by
 refine OK.is (g9 (λi s=>s=puts e ((az f e.length C.Tc).take i)) rfl (λi s d g v w=> ?_) (λs k=>by grind [iH]));subst v;unfold dM;have a:(puts e ((az f e.length C.Tc).take i)).length=e.length:=oZ _ _;have x:e.length<=4:=by have:=h.len;omega
 have z:ww c (n+4) (puts e ((az f e.length C.Tc).take i)):=by
  refine (h.puts (l:=(az f e.length C.Tc).take i) (λy D=> ?_)).mono (by grind)
  grind [fU,z64]
 refine f9 (i7 (by rw [a];exact g) λo j=> ?_)
 obtain ⟨E,F,G,I,A,J⟩:=z.all _ _ j
 have b:o.Sv=false:=by
  grind [gJ]
 rw [Ik b (r:=⟨f,(i:Int),true,⟨C.Tc,0,0,0⟩⟩) q (by rw [A];exact u) (.inl rfl) (by omega)]
 simp only [zbs,k8];refine w _ ?_;rw [mB (DM (t:=f) (m:=C.Tc) g),BU];unfold oF;simp only [j];rfl
open Go.Sx
theorem HI.logb(a:HI c ss n h):h.SH.length<=20000000000:=by
 have:=a.Ua;have:=a.Tv;omega
theorem HI.at{h:za}(b:HI c ss n h)(d:h.or[i]? =some k'):∃s,ss[i]? =some s/\pX s k':=by
 have a:=(zes.1 d).1;rw [b.cl] at a;exact ⟨_,zeg a,b.Uu i k' _ d (zeg a)⟩
theorem DN(d:aR c ss)(b:HI c ss n h)(a:h.or[i]? =some k')(e:k'.waits=true):
  xO h (i:Int)=some (uF h i k' [] h.rings h.Ti):=by
 obtain ⟨s,f,g⟩:=b.at a;unfold xO;rw [zV a,zbs,d8 e,Il a g (d.sl s (zmg f)) (by have:=b.logb;omega)];rfl
theorem Gf(J:aR c ss)(y:HI c ss n h){t:Nat}{k:ze}(K:h.or[t]? =some k)(hw:k.waits=false)(V:k.SO<k.SP.length):
  ∃cmd,k.SP[k.SO.toNat]? =some cmd/\OK (xO h (t:Int)) (CMv h t k cmd):=by
 obtain ⟨s,hs,L⟩:=y.at K;have p:=J.sl s (zmg hs);have hlog:=y.logb;have W:=y.SI;have j:=y.own;have X:=L.UF;obtain ⟨cmd,hx,hg⟩:=oX (xs:=k.SP) X V;have A:Fit cmd:=J.fit s (zmg hs) cmd (by rw [<- L.SP];exact zmg hg)
 refine ⟨cmd,hg,?_⟩;have hb:=y.Tv;have hln:=y.Ux;unfold xO;rw [zV K,zbs,d7 (by simp [hw])];rw [xR (m:=h.SH.length+_) (b:=176) (by grind)];simp only [zbs];rw [hx];simp only [zbs,k8]
 have told:∀E:Int,Rv h cmd E->OK (jc {h with or:=h.or.set t (withA k ⟨E,k.Id.N,k.Id.Tj,k.Id.Pairs⟩),SH:=h.SH++[eS t k]} (t:Int)) (CMv h t k cmd):=λE hE=>
  OK.eq (Im K L p (by omega) E k.Id.N (by simp) h.rings h.Ti) (.told E hE)
 refine d5 (λa=>d6 (told 43 ⟨by decide,λ_=>.inl ⟨a,rfl⟩⟩) λr d=>b9 d) (λa=> ?_)
 have B:∀o∈h.Fd,o.Sv=false:=λo S=>by
  cases u:o.Sv with
  |false=>rfl
  |true=>rw [(y.TW o S u).1] at a;cases a
 have hO4:h.Fd.length<=4:=by have:=j.len;have:=J.sh;omega
 refine d6 (R:=λo=>match o with
  |.inl q=>CMv h t k cmd {h with or:=h.or.set t ⟨q.1.SP,q.1.SO,true,q.1.SB,⟨0,q.1.Id.N,q.1.Id.Tj,q.1.Id.Pairs⟩,q.1.parts,q.1.SE⟩,Fd:=q.2.1,Sr:=q.2.2,SH:=h.SH++[eS t k]}
  |.inr r=>CMv h t k cmd r) ?_ (λo S=> ?_)
 rotate_left
 ·cases o with
  |inl q=>exact b9 S
  |inr r=>exact b9 S
 refine d6 (R:=λb=>b=decide (cmd.Sm=0\/cmd.Sm=1)) (d5 (λe=>b9 (by grind)) (λe=>b9 (by grind))) (λb Y=> ?_);subst Y;refine d5 (λf=> ?_) (λf=> ?_)
 ·have f:=yd f;refine d5 (λM=> ?_) (λM=> ?_)
  ·have M:cmd.Sm=0:=by simpa using M
   obtain ⟨b,v,w⟩:=Fk (h:=za.mk h.Fn h.SD h.SI h.or h.LE h.Fd h.rings h.Sr h.held h.Sy h.Sk h.over (h.SH++[eS t k]) h.Ti) (c:=c) W [cmd.Item];rw [show xC {h with SH:=(h.SH++[(zd.mk 1 (t:Int) 0 k.SO 0 0 0 0 0 0 (zg.mk 0 0 0 0) (zk.mk 0 false 0 false 0 0) 0 0)])} ([cmd.Item])=some b from v,zbs];refine d5 (λ_=>d6 (told 2 ⟨by decide,λz=>by omega⟩) λr d=>b9 d) (λC=> ?_);have g:=w C;have D:mkLen 1 48=some 1:=by grind [mkLen]
   have hit:bv cmd=[cmd.Item]:=by grind [bv]
   have hl:=wx j J.sh B (t:=(t:Int)) (l:=[cmd.Item]) (λi F=>⟨g i F,by rw [i6.1 F];exact A.it⟩) (by grind) (body:=dL (t:Int) cmd) (λi G s=>rfl)
   rw [D,zbs,show jM (dL (t:Int) cmd) (λ(I:(List zc))=>I) 1 0 h.Fd=_ from hl,zbs];have:=CMv.items (h:=h) (t:=t) (k:=k) (cmd:=cmd) a f (by rw [hit];simp) (by rw [hit];simp) (λi F=>by grind);rw [hit] at this;exact b9 this
  ·have M:cmd.Sm≠0:=by simpa using M
   have h1:cmd.Sm=1:=by omega
   have hit:bv cmd=cmd.SV:=by grind [bv]
   refine d6 (R:=λb=>b=false->1<=cmd.SV.length/\cmd.SV.length<=16/\∀i∈cmd.SV,BS c i) ?_ (λb w=> ?_)
   ·refine d5 (λ_=>b9 λz=>by cases z) (λe1=>d5 (λ_=>b9 λz=>by cases z) (λe2=> ?_));obtain ⟨b,v,w⟩:=Fk (h:=za.mk h.Fn h.SD h.SI h.or h.LE h.Fd h.rings h.Sr h.held h.Sy h.Sk h.over (h.SH++[eS t k]) h.Ti) (c:=c) W cmd.SV;rw [show xC {h with SH:=(h.SH++[(zd.mk 1 (t:Int) 0 k.SO 0 0 0 0 0 0 (zg.mk 0 0 0 0) (zk.mk 0 false 0 false 0 0) 0 0)])} cmd.SV=some b from v,zbs]
    grind [b9]
   refine d5 (λ_=>d6 (told 2 ⟨by decide,λz=>by omega⟩) λr d=>b9 d) (λC=> ?_);obtain ⟨l1,Z,g⟩:=w C;have D:mkLen (cmd.SV.length:Int) 48=some cmd.SV.length:=by grind [mkLen]
   have hl:=wx j J.sh B (t:=(t:Int)) (l:=cmd.SV) (λi F=>⟨g i F,A.its i F⟩) (by omega) (body:=gV (t:Int) cmd) (λi G s=>rfl);rw [D,zbs,xR (by omega),zbs,hl,zbs];have:=CMv.items (h:=h) (t:=t) (k:=k) (cmd:=cmd) a f (by rw [hit];exact l1) (by rw [hit];exact Z) (λi F=>by grind)
   rw [hit] at this;exact b9 this
 have f:=yv f;refine d5 (λT=> ?_) (λT=> ?_)
 ·have T:cmd.Sm=2:=by simpa using T
  refine d5 (λ_=>d6 (told 2 ⟨by decide,λz=>by omega⟩) λr d=>b9 d) (λD=> ?_);simp only [Bool.or_eq_false_iff,decide_eq_false_iff_not] at D;have hm1:mkLen (h.Fd.length:Int) 24=some h.Fd.length:=by grind [mkLen]
  rw [hm1,zbs,In j J.sh B (by omega) (by rw [<- W];omega) (by omega),zbs];exact b9 (.walk a T (by omega) (by omega))
 refine d5 (λO=> ?_) (λO=> ?_)
 ·have O:cmd.Sm=3:=by simpa using O
  refine d5 (λhbad=>d6 (told 2 ⟨by decide,λ_=>.inr ⟨a,rfl,by grind⟩⟩) λr d=>b9 d) (λD=> ?_);simp only [Bool.or_eq_false_iff,decide_eq_false_iff_not] at D;obtain ⟨r,d,P⟩:=oX (xs:=h.rings) (t:=cmd.SS) (by omega) (by omega);rw [d,zbs];obtain ⟨q1,U,q3,q4,hq,_⟩:=iU (y.ring r (zmg P)).1 cmd.SK h.Ti;rw [hq,zbs];have Q:(cmd.SS.toNat:Int)=cmd.SS:=by omega
  have x:=CMv.fire (h:=h) (t:=t) (k:=k) (cmd:=cmd) cmd.SS.toNat r q3 q1 U q4 a O Q.symm P hq;simp only;refine d5 (λu=> ?_) (λu=> ?_)
  ·have u:U=0:=by simpa using u
   subst u;rw [xR (m:=(h.SH++_).length+_) (b:=176) (by grind)];simp only [zbs];rw [d8 (by simp [hw])];rw [d8 rfl,d8 rfl,Q] at x;have:=Im K L p (by omega) 0 q1 (es:=[eS t k]++[O5 t k q1 cmd.SS]) (by simp) (h.rings.set cmd.SS.toNat q3) q4;rw [<- w6] at this;refine d6 (OK.eq this x) (λr d=>b9 d)
  ·have u:U≠0:=by simpa using u
   rw [d8 (by simp [u])];rw [d7 u,d7 u,i9] at x;exact d6 (OK.eq (Im K L p (by omega) U k.Id.N (es:=[eS t k]) (by simp) (h.rings.set cmd.SS.toNat q3) q4) x) (λr d=>b9 d)
 refine d6 (R:=λb=>b=true->4<=cmd.Sm/\cmd.Sm<=10) ?_ (λb v=> ?_)
 ·refine d5 (λe=>b9 λz=> ?_) (λ_=>d5 (λe=>b9 λz=> ?_) (λ_=>d5 (λe=>b9 λz=> ?_) (λ_=>d5 (λe=>b9 λz=> ?_) (λ_=>d5 (λe=>b9 λz=> ?_) (λ_=>d5 (λe=>b9 λz=> ?_) (λ_=>b9 λz=> ?_))))))
  all_goals (have z:=eq_of_beq z;omega)
 refine d5 (λe=> ?_) (λ_=>d6 (told 2 ⟨by decide,λz=>by simp [z] at O⟩) λr d=>b9 d);obtain ⟨k4,k10⟩:=v e;rw [xR (m:=h.Sr.length+_) (b:=144) (by grind)];exact b9 (.call a k4 k10)
open Go.Sx
theorem vC(h:(D.set i E)[j]? =some y):(j=i/\y=E/\i<D.length)\/(j≠i/\D[j]? =some y):=by
 rw [yo] at h;split at h
 ·rename_i e
  split at h
  ·exact .inl ⟨e.symm,(j4 h).symm,by assumption⟩
  ·cases h
 ·exact .inr ⟨λe=> ‹¬_› e.symm,h⟩
theorem vD(h:D[j]? =some y)(a:j≠i):(D.set i E)[j]? =some y:=by
 grind
theorem pe(h:D[i]? =some y):(D.set i E)[i]? =some E:=by
 grind
theorem HI.idle(a:HI c ss n h){k:ze}(b:h.or[i]? =some k)(d:k.SB=0):eY h.Fd i=0/\lC h i=0:=by
 have:=a.TV i k b;omega
theorem Ao.keep(h:Ao G W r)(c:r.TJ≠n)(k':ze):Ao (G.set n k') W r:=by
 rcases h with ⟨u,k,e,d,a⟩|⟨j,e,b⟩
 ·refine .inl ⟨u,k,e,vD d (λz=>c (by rw [e,z])),a⟩
 ·exact .inr ⟨j,by grind,b⟩
theorem Ao.same(h:Ao G W r)(hl:g.length=G.length)(a:∀(t:Nat) k,G[t]? =some k->∃k',g[t]? =some k'/\k'.parts.length=k.parts.length/\k'.Id.Tj.length=k.Id.Tj.length):Ao g W r:=by
 rcases h with ⟨u,k,e,c,d,f,i⟩|⟨j,e,b⟩
 ·obtain ⟨k',l,m,n⟩:=a u k c;exact .inl ⟨u,k',e,l,d,by rw [m];exact f,by rw [n];exact i⟩
 ·exact .inr ⟨j,by rw [hl];exact e,b⟩
def Ap(c:zH)(a:List zr):Prop:=(a.length:Int)=c.SA/\∀r∈a,kF r/\∀q∈r.waiting,u64 q.SK.A/\u64 q.SK.B
theorem DO(b:HI c ss n h)(w:n+1<=100000000){k:ze}(x:h.or[i]? =some k)(y:ss[i]? =some z)(A:k.SB=0)(l:pX z k')(q:k'.SB=0)(B:k'.SO<z.length)(t:z.length<=64)(F:es.length<=2){rs:List zr}(j:Ap c rs)(g:zJ):
  HI c ss (n+1) (uF h i k' es rs g):=by
 obtain ⟨C,G⟩:=b.idle x A;exact
 {Tv:=w
  SI:=b.SI
  cl:=by show (h.or.set i _).length=_;rw [j8];exact b.cl
  cr:=b.cr
  rg:=j.1
  Ty:=b.Ty.mono (by omega) (by omega)
  ring:=j.2
  Uu:=λu s D d f=>by
   rcases vC d with ⟨rfl,rfl,_⟩|⟨_,d⟩
   ·rw [y] at f;obtain rfl:=j4 f;have I:=l.UF;have J:=l.UN;refine ⟨l.SP,?_,?_,(λe=>by cases e),?_,λa m=> ?_,by simp [Fi,QF],rfl,by simp [Fi],(λp E=>by simp [Fi] at E),λ_=>q⟩
    ·show 0<=w64 (k'.SO+1);rw [qo (by omega) (by omega)];omega
    ·show w64 (k'.SO+1)<=_;rw [qo (by omega) (by omega)];omega
    ·show ((k'.SE++[O4 k']).length:Int)=w64 (k'.SO+1)
     grind [qo]
    ·rcases g8.1 m with m|m
     ·exact l.done a m
     grind [KJ]
   ·exact b.Uu u s D d f
  crew:=b.crew
  own:=b.own.mono (by omega)
  UA:=λo v r j=>(b.UA o v r j).keep (λe=>by have:=sL (show o∈h.Fd from v) j;rw [e,C] at this;omega) _
  TV:=λu s d=>by
   rcases vC d with ⟨rfl,rfl,_⟩|⟨_,d⟩
   ·show k'.SB=((eY h.Fd u+lC h u:Nat):Int)
    grind
   ·exact b.TV u s d
  Ub:=b.Ub
  call:=b.call
  Sy:=b.Sy
  Uc:=b.Uc
  TW:=b.TW
  Ud:=b.Ud
  Ua:=by
   show (h.SH++es++[DL i k']).length<=_;have:=b.Ua
   grind
  Ux:=by have:=b.Ux;show h.Sr.length<=_;omega
  hel:=by have:=b.hel;show h.held.length<=_;omega}
theorem DP(a:HI c ss n h)(D:n+1<=100000000)(C:h.or[i]? =some I)(N:ss[i]? =some z)(E:I.SB=0)(O:pX z k'){os:List zc}{l:List zB}
  (F:ww c (16*n+16) os) (j:∀o∈os,o.Sv=true->h.Sk=true/\∀w∈h.LE,w.Sv=true) (k:∀o∈os,∀r∈o.Sr,(∃o'∈h.Fd,r∈o'.Sr)\/(r.TJ=i/\0<=r.Ug/\(r.TQ=true->r.Ug<k'.parts.length)/\(r.TQ=false->r.Ug<k'.Id.Tj.length)))
  (d:∀u:Int,eY os u=eY h.Fd u+(if u=i then eY os i else 0)) (m:∀u:Int,gy l u=gy h.Sr u+(if u=i then gy l i else 0)) (p:k'.SB=((eY os i+gy l i:Nat):Int)) (G:gy l i=0\/(gy l i=1/\eY os i=0))
  (f:∀y∈l,(∃i:Nat,y.SR=i/\i<ss.length)/\y.cmd.SM.length<=140737488355328/\4<=y.cmd.Sm/\y.cmd.Sm<=10) (hl:l.length<=n+1):HI c ss (n+1) (KI h i I k' os l):=by
 obtain ⟨P,Q⟩:=a.idle C E
 have J:gy h.held i+(if h.Sk=true/\h.over=false/\h.Sy=i then 1 else 0)=0:=by
  grind [lC]
 have b:∀u:Nat,lC (KI h i I k' os l) u=if u=i then gy l i else lC h u:=by
  intro u;have s:=m u;unfold lC;show gy l u+gy h.held u+(if h.Sk=true/\h.over=false/\h.Sy=u then 1 else 0)=_
  grind
 exact
 {Tv:=D
  SI:=a.SI
  cl:=by show (h.or.set i _).length=_;rw [j8];exact a.cl
  cr:=a.cr
  rg:=a.rg
  Ty:=a.Ty.mono (by omega) (by omega)
  ring:=a.ring
  Uu:=λu t K g v=>by
   rcases vC g with ⟨rfl,rfl,_⟩|⟨_,g⟩
   ·grind
   ·exact a.Uu u t K g v
  crew:=a.crew
  own:=F.mono (by omega)
  UA:=λo x r L=>by
   rcases k o x r L with ⟨o',s,A⟩|⟨e,s,A,M⟩
   ·exact (a.UA o' s r A).keep (λe=>by grind [sL]) _
   ·exact .inl ⟨i,k',e,pe C,s,A,M⟩
  TV:=λu t g=>by
   rw [b u];rcases vC g with ⟨rfl,rfl,_⟩|⟨B,g⟩
   ·rw [d8 rfl];exact p
   ·rw [d7 B];show t.SB=((eY os u+lC h u:Nat):Int)
    have:=d u;rw [d7 (by omega)] at this;rw [this];exact a.TV u t g
  Ub:=λu=>by
   rw [b u];show _\/_/\eY os u=0;by_cases e:u=i
   ·grind
   ·rw [d7 e];have:=d u;rw [d7 (by omega)] at this;rw [this];exact a.Ub u
  call:=λy q=>by
   rcases g8.1 q with q|q
   ·exact f y q
   ·exact a.call y (zar _ q)
  Sy:=a.Sy
  Uc:=a.Uc
  TW:=j
  Ud:=a.Ud
  Ua:=by
   show (h.SH++[eS i I]).length<=_;have:=a.Ua
   grind
  Ux:=hl
  hel:=by have:=a.hel;show h.held.length<=_;omega}
theorem pX.withA(h:pX z k')(E N:Int):pX z (withA k' ⟨E,N,k'.Id.Tj,k'.Id.Pairs⟩):=
 ⟨h.SP,h.UF,h.UK,h.UX,h.UN,h.done,h.res,h.UO,h.Uy,h.part,h.Uv⟩
theorem KK(g:aR c ss)(a:HI c ss n h)(j:n+1<=100000000)(b:h.or[i]? =some k')(k:k'.waits=true)(d:k'.SB=0):HI c ss (n+1) (uF h i k' [] h.rings h.Ti):=by
 obtain ⟨s,e,f⟩:=a.at b;exact DO a j b e d f d (f.UX k) (g.sl s (zmg e)) (by simp) ⟨a.rg,a.ring⟩ _
theorem NE(W:aR c ss)(m:HI c ss n h)(R:n+1<=100000000)(M:h.or[a]? =some I)(hw:I.waits=false)(hat:I.SO<I.SP.length)(hc:I.SP[I.SO.toNat]? =some C)(hv:CMv h a I C F):HI c ss (n+1) F:=by
 obtain ⟨s,J,b⟩:=m.at M;have K:=W.sl s (zmg J);have L:=b.Uv hw;have t:I.SO<s.length:=by rw [<- b.SP];exact hat
 have htl:a<ss.length:=(zes.1 J).1;have A:Fit C:=W.fit s (zmg J) C (by rw [<- b.SP];exact zmg hc)
 obtain ⟨X,i2⟩:=m.idle M L;have B:gy h.Sr a=0:=by grind [lC]
 have hO4:h.Fd.length<=4:=by have:=m.own.len;have:=W.sh;omega
 have D:∀l,∀o∈puts h.Fd l,o.Sv=true->h.Sk=true/\∀w∈h.LE,w.Sv=true:=λl o O e=>by
  obtain ⟨j,hj⟩:=p9 O;obtain ⟨o2,P,e2⟩:=gJ hj;exact m.TW o2 (zmg P) (by rw [e2];exact e)
 cases hv with
 |told E hE=>exact DO m R M J L (b.withA E I.Id.N) L t K (by simp) ⟨m.rg,m.ring⟩ _
 |fire i r r' n2 E g h1 P Y S h5=>
  refine DO m R M J L (k':=withA I ⟨E,if E=0 then n2 else I.Id.N,I.Id.Tj,I.Id.Pairs⟩) (b.withA _ _) L t K (rs:=h.rings.set i r') (es:=[eS a I]++if E=0 then [O5 a I n2 i] else []) (by grind) ⟨by rw [j8];exact m.rg,λq Q=> ?_⟩ _
  rcases q7 Q with Q|rfl
  ·exact m.ring q Q
  ·obtain ⟨a1,a2⟩:=m.ring r (zmg S);obtain ⟨q1,q2,q3,q4,Q,b1,b2,b3⟩:=iU a1 C.SK h.Ti;rw [h5] at Q;cases Q;refine ⟨b1,λx d=> ?_⟩;rcases b3 with ⟨_,_,e⟩|⟨_,e⟩
   ·rw [e] at d;rcases g8.1 d with d|d
    ·exact a2 x d
    ·rw [i6.1 d];exact A.ev
   grind
 |items h1 P Y S h5=>
  have T:∀x∈vA (a:Int) h.Fd.length (bv C),x.1<h.Fd.length:=λx d=>by
   obtain ⟨i,y,U,rfl⟩:=fT d;obtain ⟨p,hp,T⟩:=Am (k:=y.Ts) (n:=(h.Fd.length:Int)) (by rw [m.own.len];exact W.sh.1) (by grind)
   grind [ig]
  have v:=BP (l:=vA (a:Int) h.Fd.length (bv C)) (f:=(a:Int)) (λx d=>by grind [fT]) h.Fd T;rw [fS] at v;have z:=v a;rw [d8 rfl,X] at z
  refine DP m R M J L (k':=BR I (bv C).length (List.replicate (bv C).length BQ) I.parts) (os:=puts h.Fd (vA a h.Fd.length (bv C))) (l:=h.Sr) ⟨b.SP,b.UF,b.UK,λ_=>t,b.UN,b.done,by show (List.replicate _ _).length<=16;rw [Sg];exact S,b.UO,b.Uy,b.part,λe=>by cases e⟩
   ((m.own.puts (l:=vA (a:Int) h.Fd.length (bv C)) (λx d=> ?_)).mono (by grind [fS])) (D _) (λo O r V=> ?_) (λu=> ?_) (λu=> ?_) ?_ ?_ ?_ (by have:=m.Ux;omega)
  ·obtain ⟨i,y,U,rfl⟩:=fT d;have Z:=h5 y (zmg U);rw [m.SI] at Z;refine ⟨Z.1,Z.2.1,.inr Z.2.2,?_⟩;show u64 y.Tp;have G:=zmg U;unfold bv at G;split at G
   ·rw [i6.1 G];exact A.it
   ·exact A.its y G
  ·rcases An O V with h6|⟨x,d,rfl⟩
   ·exact .inl h6
   ·obtain ⟨i,y,U,rfl⟩:=fT d;have hil:=(zes.1 U).1;exact .inr ⟨rfl,by grind,(λe=>by cases e),λ_=>by show (i:Int)<(List.replicate _ _).length;rw [Sg];omega⟩
  ·grind
  ·rw [B];simp
  ·rw [z,B];show ((bv C).length:Int)=_;omega
  ·exact .inl B
  ·exact λx d=>m.call x (zal _ d)
 |walk h1 P Y S=>
  have v:=BP (l:=az (a:Int) h.Fd.length C.Tc) (f:=(a:Int)) (λx d=>by grind [fU]) h.Fd (λx d=>by grind [fU]);rw [iH] at v;have z:=v a;rw [d8 rfl,X] at z
  refine DP m R M J L (k':=BR I h.Fd.length I.Id.Tj (List.replicate h.Fd.length [])) (os:=puts h.Fd (az a h.Fd.length C.Tc)) (l:=h.Sr) ⟨b.SP,b.UF,b.UK,λ_=>t,b.UN,b.done,b.res,b.UO,by show (List.replicate _ _).length<=4;rw [Sg];exact hO4,λp hp=>by rw [R6 (show p∈List.replicate _ _ from hp)];simp,λe=>by cases e⟩
   ((m.own.puts (l:=az (a:Int) h.Fd.length C.Tc) (λx d=> ?_)).mono (by grind [iH])) (D _) (λo O r V=> ?_) (λu=> ?_) (λu=> ?_) ?_ ?_ ?_ (by have:=m.Ux;omega)
  ·obtain ⟨i,hi,rfl⟩:=fU d;rw [m.SI] at S
   grind [z64]
  ·rcases An O V with h6|⟨x,d,rfl⟩
   ·exact .inl h6
   ·obtain ⟨i,hi,rfl⟩:=fU d;exact .inr ⟨rfl,by grind,λ_=>(by show (i:Int)<(List.replicate _ _).length;rw [Sg];omega),λe=>by cases e⟩
  ·grind
  ·rw [B];simp
  ·rw [z,B];show (h.Fd.length:Int)=_;omega
  ·exact .inl B
  ·exact λx d=>m.call x (zal _ d)
 |call h1 P Y=>
  have z:gy (h.Sr++[⟨a,C,0⟩]) a=1:=by grind [ni,sK]
  refine DP m R M J L (k':=BR I 1 I.Id.Tj I.parts) (os:=h.Fd) (l:=h.Sr++[⟨a,C,0⟩]) ⟨b.SP,b.UF,b.UK,λ_=>t,b.UN,b.done,b.res,b.UO,b.Uy,b.part,λe=>by cases e⟩
   (m.own.mono (by omega)) m.TW (λo O r V=>.inl ⟨o,O,V⟩) (λu=> ?_) (λu=> ?_) ?_ ?_ ?_ (by have:=m.Ux;rw [p6];simp only [u7,y4];omega)
  ·rw [X];simp
  ·grind [ni,sK,gy]
  ·rw [z,X];rfl
  ·grind
  ·intro x d;rcases g8.1 d with d|d
   ·exact m.call x (zal _ d)
   ·rw [i6.1 d];exact ⟨⟨a,rfl,htl⟩,A.Us,P,Y⟩
open Go.Sx
def NF(k:zo)(t:Nat)(x:qr):zo:=⟨k.Sn.set t ⟨2,x.TN⟩,k.Si⟩
def Hk(t:Int):zd:=⟨15,t,0,0,0,0,0,0,0,0,ol,BQ,0,0⟩
def Mw(t:Int)(q:bB)(c e:Int):zd:=⟨3,t,q.To,c,q.Ug,e,0,0,0,0,q.Item,q.Tj,0,0⟩
def Rw(w:zz)(r:zk):zz:={w with Tw:=some r}
def Q5(k:ze)(r:List zk)(p:List (List zt)):ze:={k with SB:=k.SB-1,Id:=⟨k.Id.E,k.Id.N,r,k.Id.Pairs⟩,parts:=p}
def Hl(h:za)(c:List ze)(b:List zz)(os:List zc)(es:List zd):za:=
 {h with or:=c,LE:=b,Fd:=os,SH:=h.SH++es}
structure tJ (fu:Nat) (o:zc) (q:bB) (o':zc) (x:zp) (xs:List zp):Prop where
 step:jJ fu o=some (q,true,o')
 Sr:o.Sr=x::xs
 Uz:o'.Sr=xs
 to:q.To=x.TJ
 tag:q.Ug=x.Ug
 walk:q.TQ=x.TQ
 item:q.Item=x.Item
 Sq:q.Pairs.length<=16
 val:u64 q.Tj.Tp
 ok:iV o'
 ou:Gk o'
 sh:o'.TP=o.TP/\o'.Tt=o.Tt/\o'.Sv=o.Sv/\o'.maps.length=o.maps.length
inductive SMv (fu:Nat) (h:za) (i:Nat) (o:zc):za->Prop
 | ends (t : Nat) (x : qr) : t = h.or.length + h.LE.length + i -> o.Sr = [] -> h.SD.Sn[t]? = some x -> x.Su ≠ 2 ->
   SMv fu h i o {h with SD:=NF h.SD t x,Fd:=h.Fd.set i {o with Sv:=true},SH:=h.SH++[Hk t]}
 | crew (t : Nat) (q : bB) (o' : zc) (x : zp) (xs : List zp) (j : Nat) (w : zz) : t = h.or.length + h.LE.length + i -> tJ fu o q o' x xs -> x.TJ = (h.or.length : Int) + j -> h.LE[j]? = some w ->
   SMv fu h i o (Hl h h.or (h.LE.set j (Rw w q.Tj)) (h.Fd.set i o') [Mw t q 0 w.LT.SX.Te.N])
 | walk (q : bB) (o' : zc) (x : zp) (xs : List zp) (u : Nat) (k : ze) : tJ fu o q o' x xs -> x.TJ = (u : Int) -> h.or[u]? = some k -> x.TQ = true -> 0 <= x.Ug -> x.Ug < k.parts.length ->
   SMv fu h i o (Hl h (h.or.set u (Q5 k k.Id.Tj (k.parts.set x.Ug.toNat q.Pairs))) h.LE (h.Fd.set i o') [])
 | item (t : Nat) (q : bB) (o' : zc) (x : zp) (xs : List zp) (u : Nat) (k : ze) : t = h.or.length + h.LE.length + i -> tJ fu o q o' x xs -> x.TJ = (u : Int) -> h.or[u]? = some k -> x.TQ = false -> 0 <= x.Ug -> x.Ug < k.Id.Tj.length ->
   SMv fu h i o (Hl h (h.or.set u (Q5 k (k.Id.Tj.set x.Ug.toNat q.Tj) k.parts)) h.LE (h.Fd.set i o') [Mw t q k.SO 0])
theorem Aq:Pst (jJ n o) (λq=>q.2.2.TP=o.TP/\q.2.2.Tt=o.Tt/\q.2.2.Sv=o.Sv/\q.2.2.maps.length=o.maps.length):=by
 unfold jJ;refine k6 (i4 ⟨rfl,rfl,rfl,rfl⟩) (i8 λx=>i8 λy=>k6 (i8 λs=>i8 λp=>i4 ⟨rfl,rfl,rfl,rfl⟩) (i8 λs=>i8 λq=>i4 ⟨rfl,rfl,rfl,by grind⟩))
theorem PW(c:101<n)(h:iV o)(f:Gk o)(hl:o.Sr=J::xs):∃q o',tJ n o q o' J xs:=by
 obtain ⟨⟨q,b,o'⟩,d,i,w,j⟩:=pj c h;have g:=B7 f _ d;have k:=Aq _ d;rcases j with ⟨e,_⟩|⟨y,x,e,rfl,a,l,m,p,s,t⟩
 ·grind
 ·have u:=hl.symm.trans e;cases u;refine ⟨q,o',d,hl,a,l,m,p,s,t,g.1,i,⟨g.2,λr v=> ?_⟩,k⟩;have a:o'.Sr=xs:=a;rw [a] at v;exact f.Sr r (by grind)
theorem NG{os:List zc}{b:Nat}(h:∀o∈os,o.Sr.length<=b)(f:Int):eY os f<=os.length*b:=by
 unfold eY
 induction os with
 |nil=>simp
 |cons o os i=>
  have c:=h o zcs;have d:=i λp a=>h p (zcm _ a)
  have e:wv o.Sr f<=o.Sr.length:=List.countP_le_length;rw [yl,List.sum_cons,u7,t8];omega
theorem HI.cnt_small(d:aR c ss)(a:HI c ss n h)(f:Int):eY h.Fd f<=6400000000:=by
 have i:=NG (os:=h.Fd) (b:=16*n) (λo e=>by
  obtain ⟨j,g⟩:=p9 e;exact (a.own.all j o g).2.2.2.2.2) f
 have k:=a.own.len;have l:=d.sh;have m:=a.Tv;have p:h.Fd.length*(16*n)<=4*(16*n):=p5 _ (by omega);omega
theorem HI.crn(a:aR c ss)(b:HI c ss n h):h.LE.length=c.Sl.toNat:=by have:=b.cr;have:=a.wk;omega
theorem HI.own4(a:aR c ss)(b:HI c ss n h):h.Fd.length<=4/\h.Fd.length=c.Sw.toNat:=by have:=b.own.len;have:=a.sh;omega
theorem KL{fu:Nat}(t:101<fu)(v:aR c ss)(f:HI c ss n h)(z:h.Fd[i]? =some o)(C:a=h.or.length+h.LE.length+i){x:qr}(J:h.SD.Sn[a]? =some x)(K:x.Su≠2):
  OK (cy fu h (a:Int)) (SMv fu h i o):=by
 have S:=(zes.1 z).1;have T:=f.cl;have U:=f.crn v;have V:=v.cl;have W:=v.wk;have X:=(f.own4 v).1;have L:=f.logb;obtain ⟨M,Y,a3,a4,a5,a6⟩:=f.own.all i o z;unfold cy qD zW;simp only [zbs];have Z:w64 ((h.or.length:Int)+(h.LE.length:Int))=(h.or.length:Int)+(h.LE.length:Int):=qo (by omega) (by omega);have e2:w64 ((a:Int)-((h.or.length:Int)+(h.LE.length:Int)))=(i:Int):=by grind [qo]
 rw [Z,e2,zV z];simp only [zbs,k8];cases hl:o.Sr with
 |nil=>
  obtain ⟨⟨q,b,o'⟩,h1,h2,h3,h4⟩:=pj t M;rcases h4 with ⟨_,D,E⟩|⟨y,ys,e,_⟩
  ·have D:b=false:=D;have E:o'=o:=E;subst D E;rw [h1];simp only [zbs];refine m9 rfl ?_
   have e5:cx o'=some (0,{o' with Sv:=true}):=by
    grind [cx,hl]
   rw [e5];simp only [zbs];rw [xR (m:=h.SH.length+_) (b:=176) (by grind)];simp only [zbs];rw [oq J K];simp only [zbs];exact b9 (.ends a x C hl J K)
  grind
 |cons r F=>
  obtain ⟨q,o',d⟩:=PW t M Y hl;rw [d.step];simp only [zbs];refine j6 rfl ?_;rw [d.to,d.tag];have w:=f.UA o (zmg z) r (by grind);rcases w with ⟨u,k,A,l,B,N,O⟩|⟨j,ej,hj,hjw⟩
  ·have hul:=(zes.1 l).1;refine j6 (by grind) ?_;rw [A,zV l];simp only [zbs,k8];obtain ⟨s,hs,hck⟩:=f.at l;have P:=f.TV u k l;have hcs:=f.cnt_small v u;have hex:=f.Ub u;have Q:w64 (k.SB-1)=k.SB-1:=qo (by omega) (by omega);rw [d.walk];refine d5 (λg=> ?_) (λg=> ?_)
   ·obtain ⟨p,G,_⟩:=oX (xs:=k.parts) B (N g);rw [G];simp only [zbs];rw [Q];have:=SMv.walk (fu:=fu) (h:=h) (i:=i) (o:=o) q o' r F u k d A l g B (N g);unfold Hl at this;rw [i9] at this;exact b9 this
   ·obtain ⟨p,G,_⟩:=oX (xs:=k.Id.Tj) B (O g);rw [G];simp only [zbs];rw [Q,xR (m:=h.SH.length+_) (b:=176) (by grind)];have:=SMv.item (fu:=fu) (h:=h) (i:=i) (o:=o) a q o' r F u k C d A l g B (O g);unfold Hl Mw at this;rw [d.to,d.tag,A] at this;exact b9 this
  ·have I:j<h.LE.length:=hj;have R:=zeg I;refine m9 (by grind) ?_;have e7:w64 (r.TJ-(h.or.length:Int))=(j:Int):=by grind [qo]
   rw [e7,zV R];simp only [zbs,k8];unfold xo;simp only [zbs];rw [xR (m:=h.SH.length+_) (b:=176) (by grind)];have:=SMv.crew (fu:=fu) (h:=h) (i:=i) (o:=o) a q o' r F j h.LE[j] C d ej R;unfold Hl Mw at this;rw [d.to,d.tag] at this;exact b9 this
theorem ww.set(h:ww c n e)(b:e[i]? =some o)(d:iV o')(f:Gk o')(g:o'.TP=o.TP/\o'.Tt=o.Tt/\o'.maps.length=o.maps.length)(k:o'.Sr.length<=n):ww c n (e.set i o'):=by
 refine ⟨by rw [j8];exact h.len,λj p a=> ?_⟩
 rcases vC a with ⟨rfl,rfl,_⟩|⟨_,a⟩
 ·obtain ⟨l,m,q,r,s,t⟩:=h.all _ _ b
  grind
 ·exact h.all j p a
theorem DQ(U:aR c ss)(d:HI c ss n h)(R:n+1<=100000000)(v:h.Fd[i]? =some o){xs:List zp}(g:tJ a o q o' J xs) (V:es.length<=2) (x:G.length=h.or.length) (y:b.length=h.LE.length) (S:∀w∈b,BT c.SA.toNat c.Maps.length w) (C:∀w∈b,∃D∈h.LE,w.Sv=D.Sv)
  (O:∀(t:Nat) k',G[t]? =some k'->∃k,h.or[t]? =some k/\k'.parts.length=k.parts.length/\k'.Id.Tj.length=k.Id.Tj.length/\k'.SB=k.SB-(if J.TJ=t then 1 else 0)/\∀s,ss[t]? =some s->pX s k->pX s k'):HI c ss (n+1) (Hl h G b (h.Fd.set i o') es):=by
 obtain ⟨W,X,Y,Z,a5,a6⟩:=d.own.all i o v
 have z:∀f:Int,eY (h.Fd.set i o') f+(if J.TJ=f then 1 else 0)=eY h.Fd f:=λf=>by
  have A:=ng v o' f;rw [g.Sr,g.Uz,BO] at A;omega
 have j:(h.Sk=true/\∀w∈h.LE,w.Sv=true)->h.Sk=true/\∀w∈b,w.Sv=true:=λe=>⟨e.1,λw B=>by
  grind⟩
 have P:o'.Sr.length+1=o.Sr.length:=by rw [g.Sr,g.Uz];rfl
 have l:∀(t:Nat) k,h.or[t]? =some k->∃k',G[t]? =some k'/\k'.parts.length=k.parts.length/\k'.Id.Tj.length=k.Id.Tj.length:=λt k hk=>by
  grind
 exact
 {Tv:=R
  SI:=d.SI
  cl:=x.trans d.cl
  cr:=by show (b.length:Int)=_;rw [y];exact d.cr
  rg:=d.rg
  Ty:=d.Ty.mono (by omega) (by omega)
  ring:=d.ring
  Uu:=λt k' s m Q=>by
   obtain ⟨k,E,_,_,_,T⟩:=O t k' m;exact T s Q (d.Uu t k s E Q)
  crew:=S
  own:=(d.own.set v g.ok g.ou ⟨g.sh.1,g.sh.2.1,g.sh.2.2.2⟩ (by omega)).mono (by omega)
  UA:=λp u r F=>by
   have I:∃K∈h.Fd,r∈K.Sr:=by
    rcases q7 (show p∈h.Fd.set i o' from u) with u|rfl
    ·exact ⟨p,u,F⟩
    ·exact ⟨o,zmg v,by rw [g.Sr];rw [g.Uz] at F;exact zcm _ F⟩
   obtain ⟨K,L,M⟩:=I;show Ao G b.length r;rw [y];exact (d.UA K L r M).same x l
  TV:=λt k' m=>by
   obtain ⟨k,E,_,_,e4,_⟩:=O t k' m;have A:=d.TV t k E;have N:=z t;show k'.SB=((eY (h.Fd.set i o') t+lC h t:Nat):Int)
   grind
  Ub:=λt=>by
   have A:=d.Ub t;have N:=z t;show lC h t=0\/lC h t=1/\eY (h.Fd.set i o') t=0
   grind
  call:=d.call
  Sy:=d.Sy
  Uc:=d.Uc
  TW:=λp u e=>by
   rcases q7 (show p∈h.Fd.set i o' from u) with u|rfl
   ·exact j (d.TW p u e)
   ·exact j (d.TW o (zmg v) (by rw [<- g.sh.2.2.1];exact e))
  Ud:=λw B e=>by
   obtain ⟨D,A,N⟩:=C w B;exact d.Ud D A (by rw [<- N];exact e)
  Ua:=by
   show (h.SH++es).length<=_;have:=d.Ua
   grind
  Ux:=by have:=d.Ux;show h.Sr.length<=_;omega
  hel:=by have:=d.hel;show h.held.length<=_;omega}
theorem NH(J:aR c ss)(b:HI c ss n h)(G:n+1<=100000000)(m:h.Fd[i]? =some o)(K:o.Sr=[]->h.Sk=true/\∀w∈h.LE,w.Sv=true)(g:SMv a h i o F):HI c ss (n+1) F:=by
 obtain ⟨C,O,X,Y,Z,R⟩:=b.own.all i o m;cases g with
 |ends t x P hl I hm=>
  have D:∀f:Int,eY (h.Fd.set i {o with Sv:=true}) f=eY h.Fd f:=λf=>by
   have Q:eY (h.Fd.set i {o with Sv:=true}) f+wv o.Sr f=eY h.Fd f+wv o.Sr f:=ng m {o with Sv:=true} f;omega
  exact
  {Tv:=G
   SI:=b.SI
   cl:=b.cl
   cr:=b.cr
   rg:=b.rg
   Ty:=b.Ty.mono (by omega) (by omega)
   ring:=b.ring
   Uu:=b.Uu
   crew:=b.crew
   own:=(b.own.set m (o':={o with Sv:=true}) ⟨C.s1,C.s4,C.m4,C.all,C.Uj⟩ ⟨O.maps,O.Sr⟩ ⟨rfl,rfl,rfl⟩ R).mono (by omega)
   UA:=λp y r S=>by
    rcases q7 (show p∈h.Fd.set i _ from y) with y|rfl
    ·exact b.UA p y r S
    grind
   TV:=λu k I=>by
    show k.SB=((eY (h.Fd.set i _) u+lC h u:Nat):Int)
    rw [D];exact b.TV u k I
   Ub:=λu=>by
    show lC h u=0\/lC h u=1/\eY (h.Fd.set i _) u=0;rw [D];exact b.Ub u
   call:=b.call
   Sy:=b.Sy
   Uc:=by show (h.SD.Sn.set t _).length=_;rw [j8];exact b.Uc
   TW:=λp y e=>K hl
   Ud:=b.Ud
   Ua:=by
    show (h.SH++[Hk t]).length<=_;have:=b.Ua
    grind
   Ux:=by have:=b.Ux;show h.Sr.length<=_;omega
   hel:=by have:=b.hel;show h.held.length<=_;omega}
 |crew t q o' x xs j w P l B z=>
  refine DQ J b G m l (by simp) rfl (by grind) (λv g=> ?_) (λv g=> ?_) (λu k I=>⟨k,I,rfl,rfl,?_,λs _ e=>e⟩)
  ·rcases q7 g with g|rfl
   ·exact b.crew v g
   ·have A:=b.crew w (zmg z);exact ⟨A.SX,A.cur,λr e=>by cases e;exact l.val,A.over⟩
  ·rcases q7 g with g|rfl
   ·exact ⟨v,g,rfl⟩
   ·exact ⟨w,zmg z,rfl⟩
  grind
 |walk q o' x xs u k l B E z T U=>
  refine DQ J b G m l (by simp) (by grind) rfl b.crew (λw z=>⟨w,z,rfl⟩) (λv k' d=> ?_);rcases vC d with ⟨rfl,rfl,_⟩|⟨L,d⟩
  ·refine ⟨k,E,by show (k.parts.set _ _).length=_;rw [j8],rfl,by rw [d8 B];rfl,λs V e=>⟨e.SP,e.UF,e.UK,e.UX,e.UN,e.done,e.res,e.UO,by show (k.parts.set _ _).length<=4;rw [j8];exact e.Uy,λp y=> ?_,λM=> ?_⟩⟩
   ·rcases q7 (show p∈k.parts.set _ _ from y) with y|rfl
    ·exact e.part p y
    ·exact l.Sq
   ·have W:=e.Uv M;have Q:=b.TV v k E;have N:=sL (zmg m) (r:=x) (by rw [l.Sr];exact zcs)
    rw [B] at N;omega
  grind
 |item t q o' x xs u k P l B E z T U=>
  refine DQ J b G m l (by simp) (by grind) rfl b.crew (λw z=>⟨w,z,rfl⟩) (λv k' d=> ?_);rcases vC d with ⟨rfl,rfl,_⟩|⟨L,d⟩
  ·refine ⟨k,E,rfl,by show (k.Id.Tj.set _ _).length=_;rw [j8],by rw [d8 B];rfl,λs V e=>⟨e.SP,e.UF,e.UK,e.UX,e.UN,e.done,by show (k.Id.Tj.set _ _).length<=16;rw [j8];exact e.res,e.UO,e.Uy,e.part,λM=> ?_⟩⟩
   have W:=e.Uv M;have Q:=b.TV v k E;have N:=sL (zmg m) (r:=x) (by rw [l.Sr];exact zcs)
   rw [B] at N;omega
  grind
end Go.Proofs.YtplmgfkghomelaaGreatDoor.KH
