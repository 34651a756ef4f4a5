/- Lemmas. -/
import Derived.Test.YtplmgfkghomelaaGreatDoorKH21
import Derived.Test.YtplmgfkghomelaaGreatDoorD1
set_option linter.unusedVariables false
set_option linter.unusedSimpArgs false
namespace Go.Proofs.YtplmgfkghomelaaGreatDoor.KH
section
section
section
section
section
open Go.Sx
variable {c:zH} {ss:List (List zK)} {n a b d:Nat} {h:za}
theorem tD{α:Type}{f:α->Nat}{k:Nat}:∀{l:List α},(∀x∈l,f x<=k)->gk f l<=l.length*k
 |[],_=>by simp [gk]
 |x::l,hl=>by
  have h1:=hl x zcs;have h2:=tD λy hy=>hl y (zcm _ hy)
  rw [v8,u4]
  grind [gk]
theorem IY(hb:Kr c ss h):HR c ss (phi h) 0 h:=by
 obtain ⟨hI,_,_⟩:=KB hb;have b1:=hb.hk;have b2:=hb.wk;have b3:=hb.sh;have b4:=hb.cl;have b5:=hb.sl;obtain ⟨r,os,rs,w0,hw0,hr,r1,r2,r3,r4,r5,⟨ho1,ho2⟩,⟨hr1,hr2⟩,rfl⟩:=hb.is;obtain ⟨w1,e1,hJ,m0,k0⟩:=WJ.new (H:=c.Sj.toNat) (K:=c.Maps.length) (by omega);rw [hw0] at e1;obtain rfl:=j4 e1
 have hm:∀{i:Nat} {x:qw},(List.replicate (ss.length+c.Sa.toNat+c.Sf.toNat+1) (qw.mk 0 0))[i]? =some x->x.Si=0:=λhx=>by
  grind
 have hw:∀{j:Nat} {w:zE},(List.replicate c.Sa.toNat (nQ w0))[j]? =some w->w=nQ w0/\j<c.Sa.toNat:=λhx=>⟨RT (zmg hx),by grind⟩
 have ho:∀o∈os,o.Se=[]/\o.Sk=false:=λo h=>by
  obtain ⟨i,hi⟩:=v9 h
  grind
 refine ⟨hI,⟨⟨λp x hx=>by grind [jB],λi u hu hv=> ?_⟩,(λt x _ hx e=>by grind),(λj w x _ hx e=>by grind),(λi o x _ hx e=>by grind),(λx hx e=>by grind),(λj w hw' m _=> ?_),(λz=>by cases z),(λj w hw' _=> ?_),(λo h e=>(ho o h).1),(λz=>by cases z)⟩,by omega,rfl,?_⟩
 ·grind
 ·rw [(hw hw').1] at m;have m:w0.Si=3:=m;omega
 ·grind
 ·have h1:gk (uY os.length) (ss.map Bb)<=(ss.map Bb).length*(64*794):=tD λk hk=>by
   obtain ⟨s,hs,rfl⟩:=yj.1 hk
   have h1:gk (BW os.length) s<=s.length*794:=tD λx _=>by
    grind [BW]
   have h2:=b5 s hs;have h3:uY os.length (Bb s)=gk (BW os.length) s:=rfl
   grind
  have h2:gk CE (List.replicate c.Sa.toNat (nQ w0))<=(List.replicate c.Sa.toNat (nQ w0)).length*1:=tD λw hw'=>by
   grind [CE,nQ]
  have h3:gk uc os<=os.length*1:=tD λo h=>by
   grind [uc]
  grind [gk,zq,BV,phi]
end
open Go.Sx
variable {c:zH} {ss:List (List zK)} {n a b d:Nat} {h:za}
structure HB (c:zH) (ss:List (List zK)) (P n:Nat) (h:za):Prop where
 inv:HI c ss n h
 left:n+phi h<=P
 turn:h.Sn.LE=n
 UK:P<100000000
structure BL (c:zH) (ss:List (List zK)) (I:za->Prop):Prop where
 rj:∀{h:za},I h->RJ h.Fd
 k:∀{h:za} {k:zo},Jz h.Sn k->I h->I (withK h k)
 mv:∀{n:Nat} {h:za} {t:Nat} {h':za},HI c ss n h->I h->Mv h t h'->I h'
theorem BL.and{I J:za->Prop}(hK:BL c ss I)(hk:∀{h:za} {k:zo},Jz h.Sn k->J h->J (withK h k))(hm:∀{n:Nat} {h:za} {t:Nat} {h':za},HI c ss n h->I h->J h->Mv h t h'->J h'):BL c ss (λh=>I h/\J h):=
 ⟨λz=>hK.rj z.1,λhst z=>⟨hK.k hst z.1,hk hst z.2⟩,λhI z hv=>⟨hK.mv hI z.1 hv,hm hI z.1 z.2 hv⟩⟩
theorem QQ(hI:HI c ss n h)(hJ:RJ h.Fd){t:Nat}{h':za}(hv:Mv h t h'):RJ h'.Fd:=by
 cases hv with
 |back t k ht hw hm=>exact hJ
 |ask t k cmd h' ht hw hat hc hv=>cases hv<;>exact hJ
 |work j w h' hw hrd hv=>cases hv<;>first|exact hJ|exact ⟨hJ.TF,hJ.hook⟩
 |serve i o h' ho hrd hv=>cases hv<;>exact hJ
 |rule h' hrd hv=>
  cases hv with
  |retired x u k _ _ _ _=>exact hJ.settled hI.Tv 1
  |cmd x xs u k r' N E es _ hl _ _ _ hc=>exact (N4 hI hJ (hI.call x (by rw [hl];simp)).2.1 hc).1
  |hold x xs v r' _ _ _ _ hr=>exact (N5 hI hJ hr).1
  |_=>exact hJ
theorem KN:BL c ss (λh=>RJ h.Fd):=⟨λz=>z,λ_ z=>z,λhI z hv=>QQ hI z hv⟩
theorem Mm{I:za->Prop}(hS:cX c ss)(hK:BL c ss I){P:Nat}(hR:HB c ss P n h)(hi:I h){r:Int×Bool×za}(hr:Stp h r):HB c ss P (if r.2.1 then n+1 else n) r.2.2/\I r.2.2/\(r.2.1=true->phi r.2.2+1<=phi h):=by
 have hb:=hR.left;have ht:=hR.UK;cases hr with
 |none k _ hst htn e=>
  subst e;exact ⟨⟨hR.inv.withK hst.1,hb,htn.trans hR.turn,ht⟩,hK.k hst hi,λz=>by cases z⟩
 |one k t x h' hrd hst htn hx hm hv e=>
  subst e;have hI:=hR.inv.withK hst.1;have hi2:=hK.k hst hi;have hp:=PZ hS hI (hK.rj hi2) hv;have hp0:phi (KH.withK h k)=phi h:=rfl;refine ⟨⟨PD hS hI (by omega) hv,by grind,?_,ht⟩,hK.mv hI hi2 hv,λ_=>by grind⟩;rw [La hv];show k.LE=_;rw [htn,hR.turn,qt (by omega) (by omega)];rfl
def PR(h:za):Prop:=∀t,t<h.Sn.Sd.length->(∀x,h.Sn.Sd[t]? =some x->x.Si≠2)->¬ Rdy h t
theorem Iv{I:za->Prop}(hS:cX c ss)(hK:BL c ss I){P:Nat}:∀(m f n:Nat)(h:za),phi h<=m->m+2<=f->HB c ss P n h->I h->∃n' h',HB c ss P n' h'/\I h'/\PR h'/\n<=n'/\loop (vH 2199023255552) f (h,true)=some h'
 |m,0,n,h,_,hf,hR,_=>by omega
 |m,f+1,n,h,hm,hf,hR,hi=>by
  obtain ⟨r,h1,h2⟩:=Nx hS hR.inv;obtain ⟨hR2,hi2,hp⟩:=Mm hS hK hR hi h2;cases hr:r.2.1 with
  |true=>
   rw [hr] at hR2;have hp:=hp hr;obtain ⟨n',h',g1,g2,g3,g4,g5⟩:=Iv hS hK (m-1) f (n+1) r.2.2 (by omega) (by omega) hR2 hi2;refine ⟨n',h',g1,g2,g3,by omega,?_⟩;show vH _ _ (h,true)=_
   grind [vH]
  |false=>
   rw [hr] at hR2;cases h2 with
   |none k hno hst htn e=>
    subst e;refine ⟨n,_,hR2,hi2,λt ht hx z=>hno t (by rw [<- hst.1];exact ht) (λx hx2 e2=> ?_) (z.withK h.Sn),l6 _,?_⟩
    ·obtain ⟨y,hy,e3⟩:=hst.2 t x hx2;exact hx y hy (e3.1 e2)
    show vH _ _ (h,true)=_;unfold vH;simp only [q9,h1,zbs];obtain ⟨f,rfl⟩:∃g,f=g+1:=⟨f-1,by omega⟩
    rfl
   |one k t x h' hrd hst htn hx hm hv e=>subst e;cases hr
theorem E5{I:za->Prop}(hS:cX c ss)(hK:BL c ss I){P:Nat}(l:List Int):∀(m i n:Nat)(h:za),i+m=l.length->HB c ss P n h->I h->∃n' h',HB c ss P n' h'/\I h'/\n<=n'/\jN (dw 2199023255552 l) (λ(s:za)=>s) m i h=some h'
 |0,i,n,h,_,hR,hi=>⟨n,h,hR,hi,l6 _,rfl⟩
 |m+1,i,n,h,hm,hR,hi=>by
  obtain ⟨r,h1,h2⟩:=Dy hS hR.inv l[i];obtain ⟨hR2,hi2,_⟩:=Mm hS hK hR hi h2;obtain ⟨n',h',g1,g2,g3,g4⟩:=E5 hS hK l m (i+1) _ r.2.2 (by omega) hR2 hi2;refine ⟨n',h',g1,g2,by grind,?_⟩;show dw _ _ i _ h=_;have hg:=zeg (show i<l.length by omega)
  grind [dw,zU]
theorem NJ{I:za->Prop}(hS:cX c ss)(hK:BL c ss I){P:Nat}(hR:HB c ss P n h)(hi:I h)(l:List Int):∃n' h',HB c ss P n' h'/\I h'/\PR h'/\cD 2199023255552 h l=some (((n'-n:Nat):Int),h'):=by
 obtain ⟨n1,g1,hR1,hi1,a1,a2⟩:=E5 hS hK l l.length 0 n h (by omega) hR hi;obtain ⟨n2,g2,hR2,hi2,hD,b1,b2⟩:=Iv hS hK (phi g1) 2199023255552 n1 g1 (l6 _) (by have:=hR1.left;have:=hR1.UK;omega) hR1 hi1;refine ⟨n2,g2,hR2,hi2,hD,?_⟩;unfold cD bQ;simp only [zbs];rw [a2];simp only [zbs];rw [b2];simp only [zbs];rw [hR.turn,hR2.turn];have:=hR2.left;have:=hR2.UK
 grind [qt]
theorem NK(hb:Kr c ss h):HB c ss (phi h) 0 h:=by
 have hR:=IY hb;exact ⟨hR.inv,hR.left,hR.turn,hR.UK⟩
theorem KO:eg 2199023255552=some true:=by decide+kernel
theorem NL{p0:qq}(hf:∀s∈p0.SM,∀c∈s,Fit c):bA 2199023255552 p0=some (none,true)\/∃h,bA 2199023255552 p0=some (some h,true)/\Kr p0.C p0.SM h:=by
 unfold bA;rcases Dk (fu:=2199023255552) (by omega) p0.C p0.SM hf with ⟨e,hn,he⟩|⟨h,hn,hb⟩
 ·grind [vB]
 grind [vB]
def BM(r:zq):zV:=⟨r.counts.Td,r.counts.Ta,r.counts.TJ,r.counts.Ti,(r.waiting.length:Int)⟩
theorem KP(h1:h.RX.length<=4):cd h=some (h.RX.map BM):=by
 unfold cd;rw [xX (by omega),zbs]
 have:jN (eh h) (λ(s293:(List zV))=>s293) (h.RX).length 0 ([]:List zV)=some (h.RX.map BM):=by
  refine OK.is (i4 (λi s=>s=(h.RX.take i).map BM) rfl (λi s again hi hI ha=> ?_) (λs hs=>by grind));subst hI;unfold eh;refine f9 (i7 hi λx hx=> ?_);unfold xM;rw [zbs,xX (by simp;omega),zbs];refine ha _ ?_;rw [oG hx,u5];rfl
 rw [this];rfl
end
open Go.Sx
variable {c:zH} {ss:List (List zK)} {n a b d:Nat} {h:za}
def cE(m:Int)(z:Nat)(l:List zd):Nat:=l.countP (λe=>e.Ty==m&&e.SJ==(z:Int))
end
open Go.Sx
variable {c:zH} {ss:List (List zK)} {n a b d:Nat} {h:za} {R:Int}
theorem NI{r r':zq}{q:zY}{qs:List zY}{g:zJ}(hw:r.waiting=q::qs)(h:xZ r g=some (q,true,r')):r'=⟨r.room,r.Tu,qs,⟨r.counts.Td,r.counts.Ta,w64 (r.counts.TJ+1),r.counts.Ti,r.counts.Tp⟩⟩:=by
 unfold xZ at h;rw [hw,d8 (by simp;omega)] at h
 have e2:cut (q::qs) 1 ((q::qs).length:Int)=some qs:=by
  unfold cut;rw [d7 (by simp;omega)];simp
 rw [show Go.Sx.idx (q::qs) 0=some q from rfl,zbs,e2] at h
 grind
theorem Iu{r r':zq}{ev:qv}{n E:Int}{g g':zJ}(h:xj r ev g=some (n,E,r',g')):
  (r.Tu=true/\E=43/\r'=r/\g'=g)\/(r.Tu=false/\E=40/\(r.waiting.length:Int)=r.room/\r'={r with counts:=⟨r.counts.Td,w64 (r.counts.Ta+1),r.counts.TJ,r.counts.Ti,r.counts.Tp⟩}/\g'=g)\/
  (r.Tu=false/\E=0/\(r.waiting.length:Int)≠r.room/\r'=⟨r.room,r.Tu,r.waiting++[⟨n,ev⟩],⟨w64 (r.counts.Td+1),r.counts.Ta,r.counts.TJ,r.counts.Ti,r.counts.Tp⟩⟩/\aD g=some (n,g')):=by
 unfold xj at h;split at h
 ·grind
 ·split at h
  ·grind
  ·obtain ⟨⟨m,g2⟩,h1,h⟩:=z6.1 h;obtain ⟨u,h2,h⟩:=z6.1 h
   grind
theorem E4{α:Type}{l:List α}{i:Nat}{x:α}(h:l[i]? =some x):l.set i x=l:=by
 refine m6 λj=> ?_
 grind
end
open Go.Sx
variable {e:zd}
variable {c:zH} {ss:List (List zK)} {n a b d H:Nat} {h:za} {R:Int} {p0:qq}
abbrev FS:Type:=List Int×List Int×Bool
def Fs(p0:qq)(e:zd)(s s':FS):Prop:=∀again,qe p0 [e] 0 again s=again s'
inductive FL (p0:qq):List zd->FS->FS->Prop
 |nil (s:FS):FL p0 [] s s
 |cons {e:zd} {l:List zd} {s s1 s2:FS}:Fs p0 e s s1->FL p0 l s1 s2->FL p0 (e::l) s s2
theorem FL.app{l l':List zd}{s s1 s2:FS}(h1:FL p0 l s s1)(h2:FL p0 l' s1 s2):FL p0 (l++l') s s2:=by
 induction h1 with
 |nil=>exact h2
 |cons h _ ih=>exact .cons h (ih h2)
theorem FL.one{s s1:FS}(h:Fs p0 e s s1):FL p0 [e] s s1:=.cons h (.nil _)
theorem FL.run{l:List zd}:∀(m i:Nat)(s s':FS),i+m=l.length->FL p0 (l.drop i) s s'->jN (qe p0 l) (λ(s1379:(List Int)×(List Int)×Bool)=>(.inl s1379.2.1)) m i s=some (.inl s'.2.1)
 |0,i,s,s',hi,hf=>by
  rw [x8 (by omega)] at hf;cases hf;rfl
 |m+1,i,s,s',hi,hf=>by
  have hl:i<l.length:=by omega
  rw [RK hl] at hf;cases hf with
  |cons h1 h2=>
   rename_i s1
   show qe p0 l i (λs=>jN (qe p0 l) (λ(s1379:(List Int)×(List Int)×Bool)=>(.inl s1379.2.1)) m (i+1) s) s=_
   have:∀again,qe p0 l i again s=qe p0 [l[i]] 0 again s:=λagain=>by
    unfold qe;rw [zU (zeg hl),show Go.Sx.idx [l[i]] ((0:Nat):Int)=some l[i] from rfl]
   rw [this,h1];exact FL.run m (i+1) s1 s' (by omega) h2
theorem Fs.plain{s:FS}(h4:e.Ty≠4)(h5:e.Ty≠5)(h10:e.Ty≠10)(h14:e.Ty≠14)(h2:e.Ty≠2):Fs p0 e s s:=λagain=>by
 unfold qe;rw [show Go.Sx.idx [e] ((0:Nat):Int)=some e from rfl,zbs]
 grind
theorem Fs.acc{s:FS}{z:Nat}{x:Int}(h4:e.Ty=4)(hz:e.SJ=z)(hH:(z:Int)<p0.C.Sj)(hx:s.1[z]? =some x)(h1:x<p0.C.SS)(h2:s.2.2=false):Fs p0 e s (s.1.set z (w64 (x+1)),s.2.1,s.2.2):=λagain=>by
 unfold qe;rw [show Go.Sx.idx [e] ((0:Nat):Int)=some e from rfl,zbs,hz,zU hx]
 grind
theorem Fs.out{s:FS}{z:Nat}{x:Int}(h5:e.Ty=5\/e.Ty=10)(hz:e.SJ=z)(hH:(z:Int)<p0.C.Sj)(hx:s.1[z]? =some x):Fs p0 e s (s.1.set z (w64 (x-1)),s.2.1,s.2.2):=λagain=>by
 unfold qe;rw [show Go.Sx.idx [e] ((0:Nat):Int)=some e from rfl,zbs,hz,zU hx]
 grind
theorem Fs.closed{s:FS}(h14:e.Ty=14):Fs p0 e s (s.1,s.2.1,true):=λagain=>by
 unfold qe;rw [show Go.Sx.idx [e] ((0:Nat):Int)=some e from rfl,zbs];simp [h14]
theorem Fs.ret{s s':FS}{t k:Nat}{sc:List zK}{cmd:zK}(h2:e.Ty=2)(ht:e.Uk=t)(hk:e.UM=k)(hs:p0.SM[t]? =some sc)(hc:sc[k]? =some cmd)
  (h:(cmd.RZ≠3/\s'=s)\/(cmd.RZ=3/\s.2.2=true/\e.E=43/\s'=s)\/(cmd.RZ=3/\s.2.2=false/\¬ (0<=cmd.SJ/\cmd.SJ<p0.C.Sj)/\e.E=2/\s'=s)\/
   (cmd.RZ=3/\s.2.2=false/\∃z:Nat,cmd.SJ=z/\(z:Int)<p0.C.Sj/\((e.E=40/\s.1[z]? =some p0.C.SS/\∃x,s.2.1[z]? =some x/\s'=(s.1,s.2.1.set z (w64 (x+1)),s.2.2))\/(e.E=0/\e.SV≠0/\s'=s)))):Fs p0 e s s':=λagain=>by
 have hl1:=(zes.1 hs).1;have hl2:=(zes.1 hc).1;unfold qe;rw [show Go.Sx.idx [e] ((0:Nat):Int)=some e from rfl,zbs,ht,hk,zU hs];have n1:¬ ((t:Int)<0):=by omega
 have n2:¬ ((p0.SM.length:Int)<=(t:Int)):=by omega
 have n3:¬ ((k:Int)<0):=by omega
 have n4:¬ ((sc.length:Int)<=(k:Int)):=by omega
 have m2:¬ (p0.SM.length<=t):=by omega
 have m4:¬ (sc.length<=k):=by omega
 simp only [h2,n1,n2,n3,n4,zbs,zU hc]
 grind [zU]
end
open Go.Sx
variable {c:zH} {ss:List (List zK)} {n a b d H:Nat} {h:za} {R:Int} {p0:qq}
structure FSt (s:FS) (rs:List zq) (cl:Bool):Prop where
 len:s.1.length=4/\s.2.1.length=4
 clo:s.2.2=cl
 ats:∀(z:Nat) r,rs[z]? =some r->s.1[z]? =some (r.waiting.length:Int)/\s.2.1[z]? =some r.counts.Ta
structure HF (p0:qq) (h:za):Prop where
 SE:∃s,FL p0 h.SE (List.replicate 4 0,List.replicate 4 0,false) s/\FSt s h.RX h.closed
 room:∀r∈h.RX,r.room=p0.C.SS
 Tu:h.closed=false->∀r∈h.RX,r.Tu=false
 SK:0<=h.SK.last/\h.SK.last<=h.SE.length
 TG:∀(t:Nat) k cmd,h.or[t]? =some k->k.waits=true->k.Sw[k.SB.toNat]? =some cmd->cmd.RZ≠3
def fW(e:zd):Prop:=e.Ty≠4/\e.Ty≠5/\e.Ty≠10/\e.Ty≠14/\e.Ty≠2
theorem FL.plain{s:FS}:∀{l:List zd},(∀e∈l,fW e)->FL p0 l s s
 |[],_=>.nil s
 |e::l,h=>by
  obtain ⟨h1,h2,h3,h4,h5⟩:=h e zcs;exact .cons (Fs.plain h1 h2 h3 h4 h5) (FL.plain λx hx=>h x (zcm _ hx))
theorem HF.withK(hF:HF p0 h)(k:zo):HF p0 (KH.withK h k):=⟨hF.SE,hF.room,hF.Tu,hF.SK,hF.TG⟩
theorem HF.next(hF:HF p0 h){h':za}{es:List zd}(hl:h'.SE=h.SE++es)(hr:h'.RX=h.RX)(hc:h'.closed=h.closed)(hn:h'.SK=h.SK)(hs:∀s,s.2.2=h.closed->FL p0 es s s)(hk:∀(t:Nat) k cmd,h'.or[t]? =some k->k.waits=true->k.Sw[k.SB.toNat]? =some cmd->cmd.RZ≠3):HF p0 h':=by
 obtain ⟨s,h1,h2⟩:=hF.SE;refine ⟨⟨s,by rw [hl];exact h1.app (hs s h2.clo),by grind⟩,by rw [hr];exact hF.room,by rw [hr,hc];exact hF.Tu,?_,hk⟩
 rw [hn,hl];have:=hF.SK;simp;omega
theorem HF.ring(hF:HF p0 h){h':za}{es:List zd}{i:Nat}{r r':zq}(hi:h.RX[i]? =some r)(hl:h'.SE=h.SE++es)(hr:h'.RX=h.RX.set i r')(hc:h'.closed=h.closed)(hroom:r'.room=r.room)(hshut:r'.Tu=r.Tu)(hn:0<=h'.SK.last/\h'.SK.last<=h'.SE.length)
  (hs:∀s:FS,s.1.length=4->s.2.1.length=4->s.1[i]? =some (r.waiting.length:Int)->s.2.1[i]? =some r.counts.Ta->s.2.2=h.closed->FL p0 es s (s.1.set i (r'.waiting.length:Int),s.2.1.set i r'.counts.Ta,s.2.2))
  (hk:∀(t:Nat) k cmd,h'.or[t]? =some k->k.waits=true->k.Sw[k.SB.toNat]? =some cmd->cmd.RZ≠3):HF p0 h':=by
 obtain ⟨s,h1,h2⟩:=hF.SE;obtain ⟨a1,a2⟩:=h2.ats i r hi;have hm:=zmg hi;refine ⟨⟨_,by rw [hl];exact h1.app (hs s h2.len.1 h2.len.2 a1 a2 h2.clo),⟨by simp [h2.len],by rw [hc];exact h2.clo,λz q hq=> ?_⟩⟩,λq hq=> ?_,λz q hq=> ?_,hn,hk⟩
 ·rw [hr] at hq;rcases fL hq with ⟨rfl,rfl,_⟩|⟨hz,hq⟩
  ·grind
  ·obtain ⟨b1,b2⟩:=h2.ats z q hq
   grind
 ·rw [hr] at hq;rcases p9 hq with hq|rfl
  ·exact hF.room q hq
  ·rw [hroom];exact hF.room r hm
 ·rw [hr] at hq;rw [hc] at z;rcases p9 hq with hq|rfl
  ·exact hF.Tu z q hq
  ·rw [hshut];exact hF.Tu z r hm
theorem FL.drop1{t:Int}{z:Nat}(hz:(z:Int)<p0.C.Sj):∀(l:List zY)(s:FS),l.length<=16->s.1[z]? =some (l.length:Int)->FL p0 (l.map (mY t (z:Int))) s (s.1.set z 0,s.2.1,s.2.2)
 |[],s,_,h=>by rw [E4 (x:=(0:Int)) h];exact .nil _
 |q::l,s,hl,h=>by
  have h1:Fs p0 (mY t (z:Int) q) s (s.1.set z (w64 (((q::l).length:Int)-1)),s.2.1,s.2.2):=Fs.out (.inr rfl) rfl hz h
  have e:w64 (((q::l).length:Int)-1)=l.length:=by
   grind [hl,qt]
  rw [e] at h1;have h2:=FL.drop1 hz l (t:=t) (s.1.set z (l.length:Int),s.2.1,s.2.2) (by simp at hl;omega) (mM h);rw [yr] at h2;exact .cons h1 h2
theorem FL.drops{t:Int}:∀(rs:List zq)(o:Nat)(s:FS),(∀(z:Nat) r,rs[z]? =some r->r.waiting.length<=16/\((o+z:Nat):Int)<p0.C.Sj/\s.1[o+z]? =some (r.waiting.length:Int))->
  ∃l,FL p0 (rs.mapIdx (λi r=>r.waiting.map (mY t ((i+o:Nat):Int)))).flatten s (l,s.2.1,s.2.2)/\l.length=s.1.length/\(∀y,y<o->l[y]? =s.1[y]?)/\∀(z:Nat) r,rs[z]? =some r->l[o+z]? =some 0
 |[],o,s,_=>⟨s.1,.nil _,rfl,λ_ _=>rfl,λz r h=>by simp at h⟩
 |r::rs,o,s,h=>by
  obtain ⟨a0,a1,a2⟩:=h 0 r rfl;have h1:=FL.drop1 (t:=t) a1 r.waiting s a0 a2
  obtain ⟨l,h2,h3,h4,h5⟩:=FL.drops (t:=t) rs (o+1) (s.1.set (o+0) 0,s.2.1,s.2.2) (λz q hq=>by
   obtain ⟨b0,b1,b2⟩:=h (z+1) q hq
   grind)
  refine ⟨l,?_,by rw [h3];simp,λy hy=> ?_,λz q hq=> ?_⟩
  ·rw [List.mapIdx_cons,yd]
   have e:(λ(i:Nat)(r:zq)=>r.waiting.map (mY t ((i+1+o:Nat):Int)))=λi r=>r.waiting.map (mY t ((i+(o+1):Nat):Int)):=by
    grind
   rw [e];rw [show o+0=0+o by omega] at h1 h2;exact h1.app h2
  ·grind
  grind
theorem iz{cs:List ze}{t:Nat}{k':ze}(hk:∀(t:Nat) k cmd,cs[t]? =some k->k.waits=true->k.Sw[k.SB.toNat]? =some cmd->cmd.RZ≠3)(hn:∀cmd,k'.waits=true->k'.Sw[k'.SB.toNat]? =some cmd->cmd.RZ≠3):∀(u:Nat) k cmd,(cs.set t k')[u]? =some k->k.waits=true->k.Sw[k.SB.toNat]? =some cmd->cmd.RZ≠3:=λu k cmd hu hw hc=>by
 grind
theorem QR(hS:cX p0.C p0.SM)(hI:HI p0.C p0.SM n h)(hF:HF p0 h){t:Nat}{h':za}(hv:Mv h t h'):HF p0 h':=by
 have hb:h.SE.length<=20000000000:=by have:=hI.TQ;have:=hI.Tg;omega
 have hrg:=hI.rg
 have ret:∀{t:Nat} {k:ze} {cmd:zK} (A:zA) {s s':FS},h.or[t]? =some k->k.Sw[k.SB.toNat]? =some cmd->((cmd.RZ≠3/\s'=s)\/(cmd.RZ=3/\s.2.2=true/\A.E=43/\s'=s)\/(cmd.RZ=3/\s.2.2=false/\¬ (0<=cmd.SJ/\cmd.SJ<p0.C.Sj)/\A.E=2/\s'=s)\/
   (cmd.RZ=3/\s.2.2=false/\∃z:Nat,cmd.SJ=z/\(z:Int)<p0.C.Sj/\((A.E=40/\s.1[z]? =some p0.C.SS/\∃x,s.2.1[z]? =some x/\s'=(s.1,s.2.1.set z (w64 (x+1)),s.2.2))\/(A.E=0/\xS A.N≠0/\s'=s))))->Fs p0 (Mb t (withA k A)) s s':=λ{t k cmd}A {s s'} ht hc hh=>by
  obtain ⟨sc,hs,hk⟩:=hI.at ht;have h1:=hk.Up;exact Fs.ret (t:=t) (k:=k.SB.toNat) rfl rfl (by show k.SB=_;omega) hs (by rw [<- hk.Sw];exact hc) hh
 have call:∀(t:Nat)(k:ze)(s:FS),Fs p0 (gh t k) s s:=λt k s=>Fs.plain (by simp [gh]) (by simp [gh]) (by simp [gh]) (by simp [gh]) (by simp [gh])
 cases hv with
 |back t k ht hw hm=>
  obtain ⟨sc,hs,hk⟩:=hI.at ht;have h1:=hk.UH hw;have h0:=hk.Up;have hc:=zeg (show k.SB.toNat<k.Sw.length by rw [hk.Sw];omega);exact hF.next (es:=[Mb t k]) (by simp [uM]) rfl rfl rfl (λs _=>.one (ret k.Id ht hc (.inl ⟨hF.TG t k _ ht hw hc,rfl⟩))) (iz hF.TG λ_ z=>by cases z)
 |ask t k cmd h' ht hw hat hc hv=>
  have fin:∀k':ze,∀(u:Nat) k2 cmd,(h.or.set t (Dm k'))[u]? =some k2->k2.waits=true->k2.Sw[k2.SB.toNat]? =some cmd->cmd.RZ≠3:=λk'=>iz hF.TG λ_ z=>by cases z
  cases hv with
  |told E hE=>
   refine hF.next (es:=[gh t k,Mb t (withA k ⟨E,k.Id.N,k.Id.SQ,k.Id.Pairs⟩)]) (by simp [uM]) rfl rfl rfl (λs hs=>.cons (call t k s) (.one (ret _ ht hc ?_))) (fin _);by_cases h3:cmd.RZ=3
   ·rcases hE.2 h3 with ⟨e1,e2⟩|⟨e1,e2,e3⟩
    ·grind
    grind
   grind
  |fire i r r' n E g hcl h3 hki hi hA=>
   have hil:=(zes.1 hi).1;have hm:=zmg hi;have hr1:=hF.room r hm;have hr2:=hF.Tu hcl r hm;have hr3:=(hI.ring r hm).1;have hnn:=hF.SK;rcases Iu hA with ⟨z,_⟩|⟨_,rfl,hw2,rfl,rfl⟩|⟨_,rfl,hw2,rfl,hg⟩
   ·grind
   ·refine hF.ring hi (es:=[gh t k,Mb t (withA k ⟨40,k.Id.N,k.Id.SQ,k.Id.Pairs⟩)]) (by simp [uM]) rfl rfl rfl rfl (by simp [uM];omega) (λs l1 l2 w1 w2 cl=>.cons (call t k s) (.one (ret _ ht hc ?_))) (fin _);refine .inr (.inr (.inr ⟨h3,by rw [cl,hcl],i,hki,by omega,.inl ⟨rfl,by rw [w1,<- hr1,hw2],_,w2,?_⟩⟩));rw [E4 w1]
   ·have hg:some (w64 (h.SK.last+1),zJ.mk (w64 (h.SK.last+1)))=some (n,g):=hg;rw [qt (by omega) (by omega)] at hg;obtain ⟨rfl,rfl⟩:=Prod.mk.inj (j4 hg);have hq:=hr3.2;refine hF.ring hi (es:=[gh t k,PA t k (h.SK.last+1) i,Mb t (withA k ⟨0,h.SK.last+1,k.Id.SQ,k.Id.Pairs⟩)]) (by simp [uM]) rfl rfl rfl rfl (by simp [uM];omega) (λs l1 l2 w1 w2 cl=> ?_) (fin _);have f1:Fs p0 (PA t k (h.SK.last+1) i) s _:=Fs.acc rfl rfl (by omega) w1 (by omega) (by rw [cl,hcl]);refine .cons (call t k s) (.cons f1 ?_)
    have e:(w64 ((r.waiting.length:Int)+1))=((r.waiting++[zY.mk (h.SK.last+1) cmd.Sz]).length:Int):=by
     grind [qt]
    rw [e];refine .one (ret _ ht hc (.inr (.inr (.inr ⟨h3,by rw [cl,hcl],i,hki,by omega,.inr ⟨rfl,?_,?_⟩⟩))))
    ·grind [xS,xR]
    ·rw [E4 w2]
  |items hcl hk _ _ _=>exact hF.next (es:=[gh t k]) rfl rfl rfl rfl (λs _=>.one (call t k s)) (iz hF.TG λx _ z=>by rw [show k.Sw[k.SB.toNat]? =some x from z] at hc;cases hc;omega)
  |walk hcl hk _ _=>exact hF.next (es:=[gh t k]) rfl rfl rfl rfl (λs _=>.one (call t k s)) (iz hF.TG λx _ z=>by rw [show k.Sw[k.SB.toNat]? =some x from z] at hc;cases hc;omega)
  |call hcl hk _=>exact hF.next (es:=[gh t k]) rfl rfl rfl rfl (λs _=>.one (call t k s)) (iz hF.TG λx _ z=>by rw [show k.Sw[k.SB.toNat]? =some x from z] at hc;cases hc;omega)
 |work j w h' hw hrd hv=>
  have go:∀{rg:zb} {kn:zo} {ws:List zE} {os:List zc} {e:zd},fW e->HF p0 (Du h rg kn ws os h.RX e):=λhe=>hF.next (es:=[_]) rfl rfl rfl rfl (λs _=>FL.plain (by simpa using he)) hF.TG
  cases hv with
  |ends x m0 hcl hk hm=>exact go (by simp [fW,Jx])
  |take i r r' q qs cur m0 hcl hi hwt htk c0 c1=>
   obtain rfl:=NI hwt htk;have hil:=(zes.1 hi).1;have hq:=(hI.ring r (zmg hi)).1.2;have hnn:=hF.SK;refine hF.ring hi (es:=[Bl 5 (h.or.length+j:Nat) q.N i 0 0 0 nR Bf 0]) rfl rfl rfl rfl rfl (by simp [Du];omega) (λs l1 l2 w1 w2 cl=> ?_) hF.TG;have f1:Fs p0 (Bl 5 (h.or.length+j:Nat) q.N i 0 0 0 nR Bf 0) s _:=Fs.out (.inl rfl) rfl (by omega) w1
   have e:w64 ((r.waiting.length:Int)-1)=(qs.length:Int):=by
    grind [qt]
   rw [e] at f1;rw [E4 w2];exact .one f1
  |skip st v p m1 hcu hsk=>exact go (by simp [fW,Bl])
  |enter v p m b e1 e2 ck e W' m1 hcu hmo he hE=>exact go (by simp [fW,Bl])
  |note x W' m2 hst k3=>exact go (by simp [fW,Bl])
  |ran x W' m2 hst k1=>exact go (by simp [fW,Bl])
  |done x W' e1 ck m2 hst k4 hlv=>exact go (by simp [fW,Bl])
  |ask x W' m2 hst k2=>exact go (by simp [fW,Bl])
  |back r W' m3 hr hA=>exact go (by simp [fW,Bl])
 |serve i o h' ho hrd hv=>
  cases hv with
  |ends t x ht hl hk hm=>exact hF.next (es:=[Jx t]) rfl rfl rfl rfl (λs _=>FL.plain (by simp [fW,Jx])) hF.TG
  |crew t q o' x xs j w ht hq hf hw=>exact hF.next (es:=[Md t q 0 w.RY.SL.SP.N]) rfl rfl rfl rfl (λs _=>FL.plain (by simp [fW,Md])) hF.TG
  |walk q o' x xs u k hq hf hk _ _ _=>exact hF.next (es:=[]) rfl rfl rfl rfl (λs _=>.nil s) (iz hF.TG λx w z=>hF.TG u k x hk w z)
  |item t q o' x xs u k ht hq hf hk _ _ _=>exact hF.next (es:=[Md t q k.SB 0]) rfl rfl rfl rfl (λs _=>FL.plain (by simp [fW,Md])) (iz hF.TG λx w z=>hF.TG u k x hk w z)
 |rule h' hrd hv=>
  have rep:∀{u:Nat} {k:ze} (N E:Int),h.or[u]? =some k->∀(v:Nat) k2 cmd,(h.or.set u (Bm k N E))[v]? =some k2->k2.waits=true->k2.Sw[k2.SB.toNat]? =some cmd->cmd.RZ≠3:=λ{u k}N E hk=>iz hF.TG λx w z=>hF.TG u k x hk w z
  cases hv with
  |fin i x u k _ _ _ hk _=>exact hF.next (es:=[]) rfl rfl rfl rfl (λs _=>.nil s) (rep _ _ hk)
  |retired i x u k _ _ _ hk _=>exact hF.next (es:=[wN 13 _ 0 x.cmd.Tf 0]) rfl rfl rfl rfl (λs _=>FL.plain (by simp [fW,wN])) (rep _ _ hk)
  |over u k x hnf hl hc hu hk hm=>exact hF.next (es:=[Jx _]) rfl rfl rfl rfl (λs _=>FL.plain (by simp [fW,Jx])) (rep _ _ hu)
  |refuse x xs u k _ _ _ _ hk=>exact hF.next (es:=[]) rfl rfl rfl rfl (λs _=>.nil s) (rep _ _ hk)
  |cmd x xs u k r' N E es _ hl _ _ hk hc=>
   refine hF.next (es:=es) rfl rfl rfl rfl (λs _=>FL.plain ?_) (rep _ _ hk);cases hc<;>intro e he<;>grind [fW,wN]
  |hold x xs v r' _ _ _ _ hr=>exact hF.next (es:=[]) rfl rfl rfl rfl (λs _=>.nil s) hF.TG
  |drain x xs _ _ _ _=>exact hF.next (es:=[]) rfl rfl rfl rfl (λs _=>.nil s) hF.TG
  |close x xs _ _ hcl _=>
   obtain ⟨s,h1,h2⟩:=hF.SE
   obtain ⟨l,g1,g2,g3,g4⟩:=FL.drops (p0:=p0) (t:=((h.or.length+h.LT.length+h.Fn.length:Nat):Int)) h.RX 0 s (λz r hz=>by
    have:=(zes.1 hz).1;have:=(hI.ring r (zmg hz)).1.2;exact ⟨by omega,by omega,by rw [x4];exact (h2.ats z r hz).1⟩)
   have g1:FL p0 (drops ((h.or.length+h.LT.length+h.Fn.length:Nat):Int) h.RX) s (l,s.2.1,s.2.2):=g1;have hnn:=hF.SK;refine ⟨⟨(l,s.2.1,true),(h1.app g1).app (.one (Fs.closed rfl)),⟨⟨by rw [g2];exact h2.len.1,h2.len.2⟩,rfl,λz r hr=> ?_⟩⟩,λr hr=> ?_,(λz=>by cases z),by simp;omega,hF.TG⟩
   ·have hr:(h.RX.map rE)[z]? =some r:=hr;rw [x5] at hr;obtain ⟨r0,h0,rfl⟩:=yf.1 hr;have:=g4 z r0 h0;rw [x4] at this;exact ⟨this,(h2.ats z r0 h0).2⟩
   ·obtain ⟨r0,h0,rfl⟩:=yj.1 (show r∈h.RX.map rE from hr);exact hF.room r0 h0
theorem NM(hb:Kr p0.C p0.SM h):HF p0 h:=by
 have b1:=hb.hk;obtain ⟨r,os,rs,w0,hw0,hr,r1,r2,r3,r4,r5,⟨ho1,ho2⟩,⟨hr1,hr2⟩,rfl⟩:=hb.is;refine ⟨⟨_,.nil _,⟨⟨rfl,rfl⟩,rfl,λz r hz=> ?_⟩⟩,λr hr=>(hr2 r hr).2.2.2.1,λ_ r hr=>(hr2 r hr).2.2.1,⟨r6 0,r6 0⟩,λt k cmd hk hw=> ?_⟩
 ·grind
 grind [Bb]
theorem wholeFull_law(p0:qq)(hf:∀s∈p0.SM,∀c∈s,Fit c):xv 2199023255552 p0=some true:=by
 refine OK.is ?_;unfold xv gf;rw [KO,zbs];refine j8 rfl ?_;rcases NL hf with e|⟨h,e,hb⟩
 ·rw [e];exact b9 rfl
 rw [e,zbs];simp only [vB];have hS:=hb.shape hf;have hK:=(KN (c:=p0.C) (ss:=p0.SM)).and (J:=HF p0) (λ_ hF=>hF.withK _) (λhI _ hF hv=>QR hS hI hF hv);obtain ⟨n2,g,hR,⟨_,hF⟩,_,hrun⟩:=NJ hS hK (NK hb) ⟨(IY hb).more.Tv,NM hb⟩ p0.Tj;rw [hrun];simp only [zbs];refine j8 rfl ?_;obtain ⟨s,h1,h2⟩:=hF.SE;rw [PF hR.inv,zbs,show mkLen 4 8=some 4 from rfl,zbs,zbs,FL.run g.SE.length 0 _ s (by omega) h1,zbs];have hrl:=hR.inv.rg;have hhk:=hS.hk;simp only;rw [KP (by omega),zbs,d8 (by simp [hrl])]
 obtain ⟨o,h3,rfl⟩:OK (jN (bD s.2.1 (g.RX.map BM)) (λ(s1821:Unit)=>(.inl ())) (g.RX.map BM).length 0 ()) (λo=>o=.inl ()):=by
  refine i4 (λi _=>True) trivial (λi _ again hi _ ha=> ?_) (λ_ _=>rfl);rw [p8] at hi;have hr:=zeg hi;obtain ⟨_,a2⟩:=h2.ats i _ hr;unfold bD;rw [zU (show (g.RX.map BM)[i]? =some (BM g.RX[i]) by simp [hr]),zbs,zU a2,zbs];exact j8 (by simp [BM]) (ha _ trivial)
 grind [b9]
end Go.Proofs.YtplmgfkghomelaaGreatDoor.KH
namespace Go.Proofs.YtplmgfkghomelaaGreatDoor
open Go.Sx
theorem KH.lit_u64{n:Int}(h:(Lit.int .u64 n).wf=true):u64 n:=by
 simp only [Lit.wf,zae,zdq] at h;exact ⟨h.1,Int.lt_of_le_of_lt h.2 (by decide)⟩
theorem KH.fitG{x:zK}(h:sF x):KH.Fit x:=by
 have h2:reachBytes<=140737488355328:=by decide
 obtain ⟨_,gi,⟨gl,gm⟩,_,_,_,ge,⟨gb,_⟩⟩:=h;exact ⟨by omega,by omega,⟨KH.lit_u64 ge.1,KH.lit_u64 ge.2⟩,KH.lit_u64 gi.2.2.2,λi hi=>KH.lit_u64 (gm i hi).2.2.2⟩
theorem ut(p0:qq)(g0:iV p0):∃fu,xv fu p0=some true:=by
 obtain ⟨gc,⟨gs,gx⟩,_⟩:=g0;exact ⟨2199023255552,KH.wholeFull_law p0 (λs hs c hc=>KH.fitG ((gx s hs).2 c hc))⟩
end Go.Proofs.YtplmgfkghomelaaGreatDoor
