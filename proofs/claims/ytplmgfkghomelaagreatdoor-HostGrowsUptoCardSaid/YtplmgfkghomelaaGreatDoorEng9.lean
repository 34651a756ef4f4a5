/- Lemmas. -/
import Derived.Test.YtplmgfkghomelaaGreatDoorIns
import Derived.Deep.Draws
import Derived.Lib.OthersKept
import Derived.Lib.Join
import Derived.Lib.ItoaNum
import Derived.Lib.LaidTab
import Derived.Lib.ParseIntB
import Derived.Lib.SplitLaws
import Derived.Lib.AtoiErrMem
import Derived.Stop.IfaceNil
import Derived.Test.YtplmgfkghomelaaGreatDoorRows
set_option linter.unusedVariables false
set_option linter.unusedSimpArgs false
namespace Go.Sx
section
section
section
open Go.RowKit
variable {S:List Nat} {α:Type} {q:Nat} {rest js:List Nat} {ks:List Pa} {Lr:List Item} {L1:List Nat->List Item} {kk:Int} {R:Rp α} {m:List (Int×α)}
section
variable {β:Type} {q:Nat} {Fs:List Fa} {L:List Item}
theorem jh.mapn{R:Rp β}:jh [5] q Fs (Bs R) (λ(i:Nat×List Nat)_=>[.map (some i.1)]) (λi y=>[mN i.1 R i.2 y none]) (λ_ _=>[]):=⟨by
 intro w0 Z w cs S y a ho;have hn:=(Bs R).nd w cs S y ho;obtain ⟨r,rfl,h⟩:=ho;exact ⟨(r,S),rfl,xY.single (it:=mN r R S y none) h hn rfl,trivial⟩⟩
theorem qS.mapn{j r:Nat}{R:Rp β}{m:List (Int×β)}(hj:nth L j=some (mN r R S m none)):qS [.r j] Fs L (Bs R) [j] [.map (some r)] m:=qS.item hj λw ho=>⟨r,rfl,ho⟩
end
section
variable {ρ:Type} {h:LH} {hs hs' hs1 hs2:List H} {f:Option ρ} {r:ρ} {Fs Fs':List Fa} {L L':List Item} {fr:Fr} {P:Program} {B:Func} {N:Nat} {w0:World} {Z:List Nat} {c x y:Code} {Q:Exit->Act->World->Prop} {l:List Oper} {i:Nat} {e:Exit} {v:Value}
theorem xY.nilI{w:World}{S:List Nat}{B:List Item}(h:xY w S B):xY w S (nilI::B):=xY.cons trivial k9 (λb hb=>by cases hb) (S2:=S) (λb hb=>by cases hb) h (λb hb=>hb)
theorem Adm.ne{α ι:Type}{j q e g o:Nat}{ks:List Nat}{T:TypeId}{R:Rp α}{v':Value}{S:List Nat}{xs xs':List α}{t:Int}{x:α}{vs:ι->α->List Value}{its:ι->α->List Item}{fcs:ι->α->List Fa}{Lq L1:ι×List Nat->List Item}{Fs1:ι×List Nat->List Fa}
  (hq:nth Fs q=some (.el v' g o t xs x)) (hj:nth L j=some (nI T R v' S xs' none)) (hxx:KR xs' xs) (hO:jh ks e Fs R vs its fcs) (hN:∀p,dF L j (nI T R v' p.2 xs' (some (t.toNat,vs p.1 x)))=some (Lq p)) (hA:∀p,kN (Lq p) (nilI::its p.1 x)=some (L1 p)) (hF:∀p,kN Fs (fcs p.1 x)=some (Fs1 p)):
  Adm (.ne j q e ks) Fs L L1 Fs1:=⟨λw0 Z w a s=>by
 obtain ⟨hx,c,hv⟩:=zB a hq;have hxx:=hxx.h;subst hxx;have hj':L[j]? =some (nI T R v' S xs' none):=by grind [zN]
 obtain ⟨cs,S1,S2,hl,hce,s2⟩:=s.nout j hj' hx hv;have ho:R.own w cs S2 x:=s2.all L.length (itI R cs S2 x) (by simp);obtain ⟨k,rfl,hp,hf⟩:=hO.o w0 Z w _ _ _ a ho;refine ⟨(k,S1),?_,kQ (hF (k,S1)) a hf⟩;rw [bF (hA (k,S1)),qN (hN (k,S1))];exact s2.spread hp.nilI⟩
theorem Adm.nb0s{k g o n:Nat}{T:TypeId}{v' v'':Value}{xs xs':List α}{t:Int}{x:α}{cs:List Value}
 (hq:nth Fs q=some (.el v'' g o t xs x)) (hr:fI L rest []=some Lr) (hk:nth Lr k=some (nI T R v' S xs' (some (n,cs)))) (hS:qS (.s::ks) Fs L R js cs x) (hxx:KR xs' xs) (hn:KR n t.toNat) (hd:KR (zP (js++rest)) true)
 (hL:∀S',dF Lr k (nI T R v' S' xs' none)=some (L1 S')):Adm (.nb0 k q rest (.s::ks)) Fs L L1 (λ_=>Fs):=⟨(Adm.nb0 hq hr hk hS hxx hn ⟨rfl⟩ ⟨rfl⟩ hd hL).o⟩
theorem DR.consS{β:Type}{kss:List (List Pa)}{j1 j2:List Nat}{us:List Value}{css:List (List Value)}{ff:α->List Value->List Value}{sz:Nat}{hl:∀x vs,(ff x vs).length=sz}{g:α->β}{A:Rp β}{y:α}{z:β}{ys:List α}(hR:R=qo ff sz hl g A)(h1:qS ks Fs L A j1 us z)(hy:KR (g y) z)(h2:DR kss Fs L R j2 css ys):DR ((.s::ks)::kss) Fs L R (j1++j2) (ff y us::css) (y::ys):=DR.cons (by subst hR;exact qS.st h1 ⟨rfl⟩ hy) h2
theorem GO.lyx{α:Type}{T:TypeId}{R:Rp α}{rest js:List Nat}{kss:List (List Pa)}{css:List (List Value)}{ys:List α}{Lr:List Item}{L1:Nat->List Nat->List Item}(hS:DR kss Fs L R js css ys)(hr:fI L rest []=some Lr)(hc:KR (rwC l N fr i) (some ys.length))(hm:KR css.length ys.length)(hb:KR (Nat.ble ys.length 9223372036854775807) true)
 (hs:KR (pW fr ((rwP l i).map (·.2))) true) (hv:∀w,KR ((Instr.buildSlice (rwT l i) ys.length ((rwP l i).toArray.map λ(i,x)=>(i,rho fr x))).run P w) (.ok (.slice (some ⟨w.heap.size,0,none⟩) ys.length ys.length) (w.alloc (.cells (jZ (fit R.sz) css).toArray T))))
 (hd:KR (zP (js++rest)) true) (hL:∀g S',vx Lr (nI T R (.slice (some ⟨g,0,none⟩) ys.length ys.length) S' ys none)=some (L1 g S')) (n:∀g S',GO hs' f r Fs (L1 g S') ((dst l i,.slice (some ⟨g,0,none⟩) ys.length ys.length)::fr) P B N w0 Z l (i+1) Q):GO (.lyx T R rest kss ys::hs') f r Fs L fr P B N w0 Z l i Q:=⟨(GO.ly hS hr hc hm hb hs hv hd hL n).o⟩
def PX(l:List Oper)(N:Nat)(fr:Fr)(i:Nat):Option TypeId:=match okO l N fr i with
 |some ⟨_,.makeMap t none,_,_,_,_⟩=>some t
 |_=>none
theorem GO.mnN{α:Type}{R:Rp α}{L1:Nat->List Item}(hc:KR (PX l N fr i).isSome true)(hL:∀q,vx L (Sx.mN q R [q] ([]:List (Int×α)) none)=some (L1 q))
  (n:∀q,GO hs f r Fs (L1 q) ((dst l i,.map (some q))::fr) P B N w0 Z l (i+1) Q):GO (.mnN R::hs) f r Fs L fr P B N w0 Z l i Q:=⟨λw a s e=>by
 have hc:=hc.h;unfold PX at hc;split at hc
 ·rename_i d' t' _ _ _ _ hok
  obtain ⟨d,hl,hg,hd,hN⟩:=jG hok;simp only at hd;subst hd;refine OW.mnewN R s hl hg hN λq w' s'=> ?_
  have h1:=(n q).o w' a (by grind [aj]) e;rw [vD hl rfl] at h1;exact h1
 ·cases hc⟩
def mlC(P:Program)(l:List Oper)(N:Nat)(fr:Fr)(i:Nat):Option (Nat×Int×Bool×Value):=match okO l N fr i with
 |some ⟨_,.lookup t x y two,_,_,_,_⟩=>match look fr x,look fr y,P.underlying t with
  |some (.map (some q)),some (.int .i64 k),some (.map tk te)=>match P.underlying tk,aS P (zeroValue te) with
   |some (.int _),some vz=>some (q,k,two,vz)
   |_,_=>none
  |_,_,_=>none
 |_=>none
theorem DS{k:Int}{two:Bool}{vz:Value}(h:mlC P l N fr i=some (q,k,two,vz)):
  ∃d t x y ty pos af gdd tk te kd,vk l i=some ⟨some d,.lookup t x y two,ty,pos,af,gdd⟩/\gd l fr ⟨some d,.lookup t x y two,ty,pos,af,gdd⟩=some true/\Nat.blt d N=true/\look fr x=some (.map (some q))/\look fr y=some (.int .i64 k)/\P.underlying t=some (.map tk te)/\P.underlying tk=some (.int kd)/\aS P (zeroValue te)=some vz:=by
 unfold mlC at h;split at h
 ·rename_i d' t x y two' ty pos af gdd hok
  split at h
  ·rename_i q' k' tk te hx hy ht
   split at h
   ·rename_i kd vz' hk hz
    simp only [i4,l6] at h;obtain ⟨rfl,rfl,rfl,rfl⟩:=h;obtain ⟨d,hl,hg,hd,hN⟩:=jG hok
    grind
   ·cases h
  ·cases h
 ·cases h
def mlT(l:List Oper)(i:Nat):Bool:=match vk l i with
 |some ⟨_,.lookup _ _ _ two,_,_,_,_⟩=>two
 |_=>false
def mlV(two:Bool)(v:Value)(b:Bool):Value:=match two with
 |true=>.tuple #[v,.bool b]
 |false=>v
theorem GO.mlP{α:Type}{j q:Nat}{k:Int}{two:Bool}{U:TypeId}{A:Rp α}{S:List Nat}{m:List (Int×α)}{Lq:List Nat->Value->List Item}{L1:Value->List Nat->List Nat->List Item}(hj:nth L j=some (Sx.mN q (vl U A) S m none))(h2:Nf (mlT l i) two)(hc:KR (mlC P l N fr i) (some (q,k,two,.pointer none)))
  (hN:∀S1 v,dF L j (Sx.mN q (vl U A) S1 m (some (k,v)))=some (Lq S1 v)) (hL:∀v S1 S2,vx (Lq S1 v) (itI (Dj U A) [v] S2 (jM m k))=some (L1 v S1 S2))
  (n:∀v S1 S2,GO hs f r Fs (L1 v S1 S2) ((dst l i,mlV two v (jM m k).isSome)::fr) P B N w0 Z l (i+1) Q):GO (.mlP j k::hs) f r Fs L fr P B N w0 Z l i Q:=⟨λw a s e=>by
 obtain ⟨d,t,x,y,ty,pos,af,gdd,tk,te,kd,hl,hg,hN',hx,hy,ht,hk,hz⟩:=DS hc.h;refine OW.mlook (Dj U A) (λo=>o) s j (by rw [<- zN];exact hj) hl hg hN' hx hy ht hk (.pointer none) hz (λ_=>⟨rfl,rfl⟩) (λ_ _ _ _ h=>h) (λ_ _ _ _ h=>h) λv S1 S2 s'=> ?_
 have h1:=(n v S1 S2).o w a (by grind [aj,qN]) e;rw [vD hl rfl] at h1;cases two<;>exact h1⟩
theorem GO.mlR{α:Type}{j q sz:Nat}{k:Int}{two:Bool}{T:TypeId}{enc:α->List Value}{he:∀x,(enc x).length=sz}{hp:0<sz}{S:List Nat}{m:List (Int×List α)}{Lq:List Nat->Option Addr->Nat->List Item}{L1:List Nat->Option Addr->Nat->List Item}(hj:nth L j=some (Sx.mN q (lM T enc sz he hp) S m none))(h2:Nf (mlT l i) two)(hc:KR (mlC P l N fr i) (some (q,k,two,.slice none 0 0)))
  (hN:∀S1 a c,dF L j (Sx.mN q (lM T enc sz he hp) S1 m (some (k,.slice a ((jM m k).getD []).length c)))=some (Lq S1 a c)) (hL:∀S1 a c,vx (Lq S1 a c) (qh (.slice a ((jM m k).getD []).length c) T enc sz ((jM m k).getD []))=some (L1 S1 a c))
  (n:∀S1 a c,GO hs f r Fs (L1 S1 a c) ((dst l i,mlV two (.slice a ((jM m k).getD []).length c) (jM m k).isSome)::fr) P B N w0 Z l (i+1) Q):GO (.mlR j k::hs) f r Fs L fr P B N w0 Z l i Q:=⟨λw a s e=>by
 obtain ⟨d,t,x,y,ty,pos,af,gdd,tk,te,kd,hl,hg,hN',hx,hy,ht,hk,hz⟩:=DS hc.h;refine OW.mlook (lM T enc sz he hp) (λo=>o.getD []) s j (by rw [<- zN];exact hj) hl hg hN' hx hy ht hk (.slice none 0 0) hz (λw=>⟨_,rfl,rfl,dP.nil w _ _ none⟩) (λ_ _ _ _ h=>h) (λ_ _ _ _ h=>h) λv S1 S2 s'=> ?_
 have hlen:(L.set j (Sx.mN q (lM T enc sz he hp) S1 m (some (k,v)))).length=L.length:=by simp
 have s2:=s'.toRow1 L.length (by rw [u7 (by simp)];simp;rfl);rw [QD _ _ (by simp)] at s2;simp only [hlen,Nat.sub_self,List.set_cons_zero] at s2;obtain ⟨_,pa,pc,rfl⟩:=s2.len L.length (by rw [u7 (by simp)];simp;rfl);have h1:=(n S1 pa pc).o w a (by grind [aj,qN]) e;rw [vD hl rfl] at h1;cases two<;>exact h1⟩
def muC(P:Program)(l:List Oper)(fr:Fr)(i:Nat):Option (Nat×Int×Value):=match vk l i with
 |some ⟨none,.mapUpdate t x y z,ty,pos,af,g⟩=>match gd l fr ⟨none,.mapUpdate t x y z,ty,pos,af,g⟩,look fr x,look fr y,look fr z with
  |some true,some (.map (some q)),some (.int .i64 k),some v=>match P.underlying t with
   |some (.map tk _)=>match P.underlying tk with
    |some (.int _)=>some (q,k,v)
    |_=>none
   |_=>none
  |_,_,_,_=>none
 |_=>none
theorem DT{k:Int}{v:Value}(h:muC P l fr i=some (q,k,v)):
  ∃t x y z ty pos af gdd tk te kd,vk l i=some ⟨none,.mapUpdate t x y z,ty,pos,af,gdd⟩/\gd l fr ⟨none,.mapUpdate t x y z,ty,pos,af,gdd⟩=some true/\look fr x=some (.map (some q))/\look fr y=some (.int .i64 k)/\look fr z=some v/\P.underlying t=some (.map tk te)/\P.underlying tk=some (.int kd):=by
 unfold muC at h
 grind
theorem GO.mpG{hh:H}{j:Nat}{k:Int}{ho:Option (Int×Value)}{u:α}{v:Value}
  (hho:∀k' u,ho=some (k',u)->k'=k) (hr:fI L rest []=some Lr) (hk:nth Lr j=some (Sx.mN q R S m ho)) (hS:qS ks Fs L R js [v] u) (hc:KR (muC P l fr i) (some (q,k,v))) (hd:KR (zP (js++rest)) true)
  (hL:∀S',dF Lr j (Sx.mN q R S' (mput m k u) none)=some (L1 S')) (n:∀S',GO hs f r Fs (L1 S') fr P B N w0 Z l (i+1) Q):GO (hh::hs) f r Fs L fr P B N w0 Z l i Q:=⟨λw a s e=>by
 obtain ⟨t,x,y,z,ty,pos,af,gdd,tk,te,kd,hl,hg,hx,hy,hz,ht,hkk⟩:=DT hc.h;obtain ⟨S2,s2⟩:=fZ hS hr hd.h a s;have hk':Lr[j]? =some (Sx.mN q R S m ho):=by grind [zN]
 have hlt:j<Lr.length:=(zes.1 hk').1;refine OW.mputN (S2:=S2) (u:=u) s2 j Lr.length (LS (Nat.ne_of_lt hlt)) (by rw [t9 hlt,hk']) hho (by simp) hl hg hx hy hz ht hkk λS' w' s3=> ?_
 rw [oL hk',QD _ _ (by simp)] at s3;simp at s3;exact (n S').o w' a (by grind [qN,iH]) e⟩
theorem GO.mq{α:Type}{j q:Nat}{k k':Int}{rest js:List Nat}{ks:List Pa}{R:Rp α}{S:List Nat}{m:List (Int×α)}{u:α}{v v':Value}{Lr:List Item}{L1:List Nat->List Item}
 (hr:fI L rest []=some Lr) (hk:nth Lr j=some (Sx.mN q R S m (some (k',v')))) (hkk:KR k' k) (hS:qS ks Fs L R js [v] u) (hc:KR (muC P l fr i) (some (q,k,v))) (hd:KR (zP (js++rest)) true)
 (hL:∀S',dF Lr j (Sx.mN q R S' (mput m k u) none)=some (L1 S')) (n:∀S',GO hs f r Fs (L1 S') fr P B N w0 Z l (i+1) Q):GO (.mq j k rest ks::hs) f r Fs L fr P B N w0 Z l i Q:=GO.mpG (λ_ _ e=>by cases e;exact hkk.h) hr hk hS hc hd hL n
def muV(P:Program)(l:List Oper)(fr:Fr)(i:Nat):Value:=match muC P l fr i with
 |some (_,_,v)=>v
 |none=>undef
theorem GO.mh{α:Type}{j q:Nat}{k:Int}{R:Rp α}{S:List Nat}{m:List (Int×α)}{u:α}{L1:List Nat->List Item}
  (hk:nth L j=some (Sx.mN q R S m none)) (hc:KR (muC P l fr i) (some (q,k,muV P l fr i))) (hL:∀S',dF L j (Sx.mN q R S' (mput m k u) (some (k,muV P l fr i)))=some (L1 S')) (n:∀S',GO hs f r Fs (L1 S') fr P B N w0 Z l (i+1) Q):GO (.mh j k u::hs) f r Fs L fr P B N w0 Z l i Q:=⟨λw a s e=>by
 obtain ⟨t,x,y,z,ty,pos,af,gdd,tk,te,kd,hl,hg,hx,hy,hz,ht,hkk⟩:=DT hc.h;refine OW.mputH s j u (by rw [<- zN];exact hk) (λ_ _ e=>by cases e) hl hg hx hy hz ht hkk λS' w' s3=> ?_
 exact (n S').o w' a (by grind [qN]) e⟩
def mdC(P:Program)(l:List Oper)(fr:Fr)(i:Nat):Option (Nat×Int):=match vk l i with
 |some ⟨none,.call ⟨.builtin .delete,⟨[x,y]⟩,⟨t::ts⟩⟩,ty,pos,af,g⟩=>match gd l fr ⟨none,.call ⟨.builtin .delete,⟨[x,y]⟩,⟨t::ts⟩⟩,ty,pos,af,g⟩,look fr x,look fr y,P.underlying t with
  |some true,some (.map (some q)),some (.int .i64 k),some (.map tk _)=>match P.underlying tk with
   |some (.int _)=>some (q,k)
   |_=>none
  |_,_,_,_=>none
 |_=>none
theorem GO.md{α:Type}{j q:Nat}{k:Int}{R:Rp α}{S:List Nat}{m:List (Int×α)}{L1:List Nat->List Item}(hj:nth L j=some (Sx.mN q R S m none))(hc:KR (mdC P l fr i) (some (q,k)))(hL:∀S',dF L j (Sx.mN q R S' (mdel m k) none)=some (L1 S'))
  (n:∀S',GO hs f r Fs (L1 S') fr P B N w0 Z l (i+1) Q):GO (.md j k::hs) f r Fs L fr P B N w0 Z l i Q:=⟨λw a s e=>by
 have hc:=hc.h;unfold mdC at hc;split at hc
 ·rename_i x y t ts ty pos af g hl
  split at hc
  ·rename_i q' k' tk te hg hx hy ht
   split at hc
   ·rename_i kd hk
    simp only [i4,l6] at hc;obtain ⟨rfl,rfl⟩:=hc;refine OW.mdelN (ats:=t::ts) s j (by rw [<- zN];exact hj) hl hg rfl hx hy ht hk λS' w' s'=> ?_
    exact (n S').o w' a (by grind [qN]) e
   ·cases hc
  ·cases hc
 ·cases hc⟩
def llC(P:Program)(l:List Oper)(N:Nat)(fr:Fr)(i:Nat):Option Nat:=match okO l N fr i with
 |some ⟨_,.call ⟨.builtin .len,⟨[x]⟩,⟨t::_⟩⟩,_,_,_,_⟩=>match look fr x,P.underlying t with
  |some (.map (some q)),some (.map _ _)=>some q
  |_,_=>none
 |_=>none
theorem GO.ll{α:Type}{j q:Nat}{R:Rp α}{S:List Nat}{m:List (Int×α)}{ho:Option (Int×Value)}(hj:nth L j=some (Sx.mN q R S m ho))(hc:KR (llC P l N fr i) (some q))
  (n:GO hs f r Fs L ((dst l i,.int .i64 (m.length:Int))::fr) P B N w0 Z l (i+1) Q):GO (.ll j::hs) f r Fs L fr P B N w0 Z l i Q:=⟨λw a s e=>by
 have hc:=hc.h;unfold llC at hc;split at hc
 ·rename_i d' x t ts _ _ _ _ hok
  split at hc
  ·rename_i q' tk te hx ht
   simp only [i4] at hc;subst hc;obtain ⟨d,hl,hg,hd,hN⟩:=jG hok;simp only at hd;subst hd;refine j6 hl hg rfl hN (Ip (ats:=t::ts) s j (by rw [<- zN];exact hj) rfl rfl hx ht) ?_
   have h1:=n.o w a s e;rw [vD hl rfl] at h1;exact h1
  ·cases hc
 ·cases hc⟩
theorem Ci{γ:Type}{k:Nat}{v:Value}{R0:Rp γ}{ff:Option α->γ}{y:γ}(hr:fI L rest []=some Lr)(hk:nth Lr k=some (Sx.mN q R S m (some (kk,v))))(hS:qS ks Fs L R0 js [v] y)
  (hR2:∀w cs S x,R0.own w cs S (ff (some x))->R.own w cs S x) (hd:zP (js++rest)=true) (z:α) (hy:(jM m kk).isSome=true->y=ff (some z)) {w:World} (a:bw w0 Z Fs) (s:St w0 Z w L):∃S',St w0 Z w (Lr.set k (Sx.mN q R S' (tw m kk z) none)):=by
 obtain ⟨S2,s2⟩:=fZ hS hr hd a s;have hk':Lr[k]? =some (Sx.mN q R S m (some (kk,v))):=by grind [zN]
 have hlt:k<Lr.length:=(zes.1 hk').1;obtain ⟨S',s3⟩:=s2.mback (f:=ff) k Lr.length (S2:=S2) (LS (Nat.ne_of_lt hlt)) (by rw [t9 hlt,hk']) (by simp) hR2 z hy
 grind [oL,iH]
theorem DU{γ:Type}{k:Nat}{v:Value}{R0:Rp γ}{ff:Option α->γ}(hr:fI L rest []=some Lr)(hk:nth Lr k=some (Sx.mN q R S m (some (kk,v))))(hS:qS ks Fs L R0 js [v] (ff (jM m kk)))
  (hR2:∀w cs S x,R0.own w cs S (ff (some x))->R.own w cs S x) (hd:zP (js++rest)=true) {w:World} (a:bw w0 Z Fs) (s:St w0 Z w L):∃S',St w0 Z w (Lr.set k (Sx.mN q R S' m none)):=by
 obtain ⟨S2,s2⟩:=fZ hS hr hd a s;have hk':Lr[k]? =some (Sx.mN q R S m (some (kk,v))):=by grind [zN]
 have hlt:k<Lr.length:=(zes.1 hk').1;obtain ⟨S',s3⟩:=s2.mback0 (f:=ff) k Lr.length (S2:=S2) (LS (Nat.ne_of_lt hlt)) (by rw [t9 hlt,hk']) (by simp) hR2
 grind [oL,iH]
theorem Adm.mb0{α:Type}{k q:Nat}{kk:Int}{v v':Value}{rest js:List Nat}{ks:List Pa}{U:TypeId}{A:Rp α}{S:List Nat}{m:List (Int×α)}{y:Option α}{Lr:List Item}{L1:List Nat->List Item}(hr:fI L rest []=some Lr)(hk:nth Lr k=some (Sx.mN q (vl U A) S m (some (kk,v))))(hS:qS ks Fs L (Dj U A) js [v'] y)
  (hv:KR v' v) (hy:KR y (jM m kk)) (hd:KR (zP (js++rest)) true) (hL:∀S',dF Lr k (Sx.mN q (vl U A) S' m none)=some (L1 S')):Adm (.mb0 k rest ks) Fs L L1 (λ_=>Fs):=⟨λw0 Z w a s=>by
 have hv:=hv.h;have hy:=hy.h;subst hv hy;obtain ⟨S',s'⟩:=DU (ff:=λo=>o) hr hk hS (λ_ _ _ _ h=>h) hd.h a s
 grind [qN]⟩
theorem Adm.mb0r{k sz:Nat}{v v':Value}{T:TypeId}{enc:α->List Value}{he:∀x,(enc x).length=sz}{hp:0<sz}{m:List (Int×List α)}{y:List α}(hr:fI L rest []=some Lr)(hk:nth Lr k=some (Sx.mN q (lM T enc sz he hp) S m (some (kk,v))))(hS:qS ks Fs L (lM T enc sz he hp) js [v'] y)
  (hv:KR v' v) (hy:KR y ((jM m kk).getD [])) (hd:KR (zP (js++rest)) true) (hL:∀S',dF Lr k (Sx.mN q (lM T enc sz he hp) S' m none)=some (L1 S')):Adm (.mbr k rest ks) Fs L L1 (λ_=>Fs):=⟨λw0 Z w a s=>by
 have hv:=hv.h;have hy:=hy.h;subst hv hy;obtain ⟨S',s'⟩:=DU (ff:=λo=>o.getD []) hr hk hS (λ_ _ _ _ h=>h) hd.h a s
 grind [qN]⟩
theorem Adm.mb{α:Type}{k q:Nat}{kk:Int}{v v':Value}{rest js:List Nat}{ks:List Pa}{U:TypeId}{A:Rp α}{S:List Nat}{m:List (Int×α)}{y:α}{Lr:List Item}{L1:List Nat->List Item}(hr:fI L rest []=some Lr)(hk:nth Lr k=some (Sx.mN q (vl U A) S m (some (kk,v))))(hS:qS ks Fs L (Dj U A) js [v'] (some y))
  (hv:KR v' v) (hd:KR (zP (js++rest)) true) (hL:∀S',dF Lr k (Sx.mN q (vl U A) S' (tw m kk y) none)=some (L1 S')):Adm (.mb k rest ks) Fs L L1 (λ_=>Fs):=⟨λw0 Z w a s=>by
 have hv:=hv.h;subst hv;obtain ⟨S',s'⟩:=Ci (ff:=λo=>o) hr hk hS (λ_ _ _ _ h=>h) hd.h y (λ_=>rfl) a s
 grind [qN]⟩
theorem Adm.mbf{α:Type}{k q e:Nat}{kk:Int}{v v':Value}{rest js:List Nat}{ks:List Pa}{U:TypeId}{A:Rp α}{S:List Nat}{m:List (Int×α)}{y:α}{o:Option α}{x:α}{Lr:List Item}{L1:List Nat->List Item}(he:nth Fs e=some (.oe o x))(hr:fI L rest []=some Lr)(hk:nth Lr k=some (Sx.mN q (vl U A) S m (some (kk,v))))(hS:qS ks Fs L (Dj U A) js [v'] (some y))
  (hv:KR v' v) (ho:KR o (jM m kk)) (hx:KR x y) (hd:KR (zP (js++rest)) true) (hL:∀S',dF Lr k (Sx.mN q (vl U A) S' m none)=some (L1 S')):Adm (.mbf k e rest ks) Fs L L1 (λ_=>Fs):=⟨λw0 Z w a s=>by
 have hv:=hv.h;subst hv;have h1:o=some x:=zB a he;obtain ⟨S',s'⟩:=Ci (ff:=λo=>o) hr hk hS (λ_ _ _ _ h=>h) hd.h y (λ_=>rfl) a s;rw [tm (by rw [<- ho.h,h1,hx.h])] at s'
 grind [qN]⟩
theorem Adm.mbp{α:Type}{k q:Nat}{kk kk':Int}{v v':Value}{rest js:List Nat}{ks:List Pa}{U:TypeId}{A:Rp α}{S:List Nat}{m:List (Int×α)}{x y:α}{Lr:List Item}{L1:List Nat->List Item}(hr:fI L rest []=some Lr)(hk:nth Lr k=some (Sx.mN q (vl U A) S (mput m kk' x) (some (kk,v))))(hS:qS ks Fs L (Dj U A) js [v'] (some y))
  (hv:KR v' v) (ho:KR kk' kk) (hx:KR x y) (hd:KR (zP (js++rest)) true) (hL:∀S',dF Lr k (Sx.mN q (vl U A) S' (mput m kk' x) none)=some (L1 S')):Adm (.mbp k rest ks) Fs L L1 (λ_=>Fs):=⟨λw0 Z w a s=>by
 have hv:=hv.h;have ho:=ho.h;have hx:=hx.h;subst hv ho hx;obtain ⟨S',s'⟩:=Ci (ff:=λo=>o) hr hk hS (λ_ _ _ _ h=>h) hd.h x (λ_=>rfl) a s
 grind [tm,wN,qN]⟩
end
section
variable {α ρ:Type} {hs:List H} {k:α->Option ρ} {r:ρ} {Fs:List Fa} {L:List Item} {fr:Fr} {P:Program} {B:Func} {N:Nat} {w0:World} {Z:List Nat} {Q:Exit->Act->World->Prop} {l:List Oper} {i j:Nat} {U:TypeId} {R:Rp α} {u:Value} {S:List Nat} {o:Option α} {L1:α->List Item} {Fs1:α->List Fa} {e:Exit}
theorem GO.fO(hj:nth L j=some (itI (Dj U R) [u] S o))(hL:∀y,dF L j (itI (vl U R) [u] S y)=some (L1 y))(hF:∀y,vx Fs (.oe o y)=some (Fs1 y))(n:∀y b,u=.pointer (some ⟨b,0,none⟩)->GO hs (k y) r (Fs1 y) (L1 y) fr P B N w0 Z l i Q):GO (.fO j::hs) (o.bind k) r Fs L fr P B N w0 Z l i Q:=⟨λw a s q=>by
 obtain ⟨y,hy,hk⟩:=zF q;obtain ⟨s2,b,hb⟩:=GB hj (hL y) s hy;exact (n y b hb).o w (jH (F:=.oe o y) a hy (hF y)) s2 hk⟩
theorem GP.fO{done eff:List Nat}{pd:List (Nat×Pn)}(hj:nth L j=some (itI (Dj U R) [u] S o))(hL:∀y,dF L j (itI (vl U R) [u] S y)=some (L1 y))(hF:∀y,vx Fs (.oe o y)=some (Fs1 y))(n:∀y b,u=.pointer (some ⟨b,0,none⟩)->GP hs (k y) r (Fs1 y) (L1 y) fr P B N w0 Z l done eff pd Q):GP (.fO j::hs) (o.bind k) r Fs L fr P B N w0 Z l done eff pd Q:=⟨λw a s q=>by
 obtain ⟨y,hy,hk⟩:=zF q;obtain ⟨s2,b,hb⟩:=GB hj (hL y) s hy;exact (n y b hb).o w (jH (F:=.oe o y) a hy (hF y)) s2 hk⟩
end
end
open Go.RowKit Go.Sort
open Go.ChangeShapes Go.WideShapes Go.ChangeAt Go.RowKit
def Qq(P:Program):Nat:=(World.holding P default ⟨#[],#[],[]⟩).heap.size
def Aw(P:Program)(T k:Nat):List Value:=[.iface T (.pointer (some ⟨Qq P+k,0,none⟩))]
open Go.RowKit
def bytesOf(s:ByteArray):List Int:=s.data.toList.map λb=>(b.toNat:Int)
open Go.RowKit
open Go.RowKit
section
variable {α β γ:Type} {q:Nat} {Fs:List Fa} {L:List Item}
theorem jh.len:jh [9] q Fs (KZ β) (λ(i:Option Addr×Nat)y=>[.slice i.1 y.length i.2]) (λi y=>[itI (KZ β) [.slice i.1 y.length i.2] [] y]) (λ_ _=>[]):=⟨by
 rintro w0 Z w cs S y a ⟨rfl,p,c,rfl⟩;exact ⟨(p,c),rfl,xY.single (it:=itI (KZ β) [.slice p y.length c] [] y) ⟨rfl,p,c,rfl⟩ k9 rfl,trivial⟩⟩
theorem jh.gho{ι:Type}{ks:List Nat}{n:Nat}{U:TypeId}{G:Rp γ}{R:Value->Rp β}{hn:∀v,(R v).sz=n}{vs:Nat->ι->β->List Value}{its:Nat->ι->β->List Item}{fcs:Nat->ι->β->List Fa}
  (h:∀b:Nat,jh ks q Fs (R (.pointer (some ⟨b,0,none⟩))) (vs b) (its b) (fcs b)):
  jh (10::ks) q Fs (L5 (vl U G) R n hn) (λ(i:Nat×List Nat×ι)y=>vs i.1 i.2.2 y.2) (λi y=>itI (vl U G) [.pointer (some ⟨i.1,0,none⟩)] i.2.1 y.1::its i.1 i.2.2 y.2) (λi y=>fcs i.1 i.2.2 y.2):=⟨by
 rintro w0 Z w cs S y a ⟨u,S1,S2,rfl,hd,o1,o2⟩;have n1:=(vl U G).nd w _ S1 y.1 o1;have o1':=o1;obtain ⟨b,cs',S',hu,rfl,h3⟩:=o1';obtain rfl:u=.pointer (some ⟨b,0,none⟩):=by simpa using hu
 obtain ⟨i,rfl,p2,f2⟩:=(h b).o w0 Z w _ _ _ a o2;exact ⟨(b,b::S',i),rfl,(xY.single (it:=itI (vl U G) [.pointer (some ⟨b,0,none⟩)] (b::S') y.1) o1 n1 rfl).app p2 hd,f2⟩⟩
theorem jh.rdn{wb:World}{Sb:List Nat}{T:TypeId}{R:Rp β}{hp:0<R.sz}(hq:nth Fs q=some (.bo wb Sb)):
  jh [11] q Fs (rdP (iA T R hp) wb Sb) (λ(i:Option Addr×Nat)y=>[.slice i.1 y.length i.2]) (λ_ _=>[]) (λi y=>[.rbn wb Sb (.slice i.1 y.length i.2) R y,.rn (.slice i.1 y.length i.2) R y]):=⟨by
 rintro w0 Z w cs S y a ⟨rfl,v,rfl,ho⟩;obtain ⟨_,p,c,rfl⟩:=RdN.len ho;exact ⟨(p,c),rfl,xY.nil,ho,ho.bor hp (zB a hq),trivial⟩⟩
theorem qS.len{j k b:Nat}{T:TypeId}{cs:List Value}{a:Option Addr}{c:Nat}{xs:List β}(hj:nth L j=some (jq b T cs))(hv:nth cs k=some (.slice a xs.length c)):qS [.ln j k] Fs L (KZ β) [] [.slice a xs.length c] xs:=⟨λw0 Z w hd s h=>⟨[],⟨rfl,a,c,rfl⟩,k9,by simp⟩⟩
theorem qS.rdn{e:Nat}{wb:World}{Sb:List Nat}{T:TypeId}{R:Rp β}{hp:0<R.sz}{v:Value}{xs:List β}(hq:nth Fs e=some (.rbn wb Sb v R xs)):qS [.f e] Fs L (rdP (iA T R hp) wb Sb) [] [v] xs:=⟨λw0 Z w hd a s=>
 ⟨[],⟨rfl,v,rfl,zB a hq⟩,k9,by simp⟩⟩
theorem qS.gho{ks:List Pa}{js:List Nat}{j n:Nat}{u:Value}{S:List Nat}{G:Rp γ}{R:Value->Rp β}{hn:∀v,(R v).sz=n}{vs:List Value}{y1:γ}{y2:β}(hj:nth L j=some (itI G [u] S y1))(h:qS ks Fs L (R u) js vs y2):
  qS (.g j::ks) Fs L (L5 G R n hn) (j::js) vs (y1,y2):=⟨λw0 Z w hd a s=>by
 have hd1:zP ([j]++js)=true:=hd;obtain ⟨S1,o1,n1,f1⟩:=(qS.it (Fs:=Fs) (A:=G) hj).o w0 Z w (dl hd1) a s;obtain ⟨S2,o2,n2,f2⟩:=h.o w0 Z w (kS hd1) a s;have hx:∀b∈S1,b∉S2:=λb hb hc=>rC s hd1 b (f1 b hb) (f2 b hc)
 refine ⟨S1++S2,⟨u,S1,S2,rfl,hx,o1,o2⟩,j7.2 ⟨n1,n2,λa ha b hb e=>by subst e;exact hx a ha hb⟩,λb hb=> ?_⟩
 show b∈fp (sel L ([j]++js));rw [uL,Gy];rcases f7.1 hb with hb|hb
 ·exact .inl (f1 b hb)
 ·exact .inr (f2 b hb)⟩
theorem Giv.po{j:Nat}{wb:World}{Sp:List Nat}{js:List Nat}{src:List Src}{Fin:List Fa}(hj:nth L j=some (tJ wb Sp))(hm:KR (mem? j js) false)(n:Giv src Fs L js Fin):Giv (.po j::src) Fs L js (.bo wb (coS wb Sp)::Fin):=
 ⟨λw0 Z w a s=>⟨s.pool j (by rw [<- zN];exact hj) js hm.h,n.g w0 Z w a s⟩⟩
end
section
variable {α ρ:Type} {hs ha hb:List H} {r:ρ} {Fs:List Fa} {L L0:List Item} {fr:Fr} {P:Program} {B:Func} {N:Nat} {w0:World} {Z:List Nat} {Q:Exit->Act->World->Prop} {l:List Oper} {i j:Nat} {T:TypeId} {enc:α->List Value} {u:Value} {S:List Nat} {o:Option α} {L1:α->Nat->List Value->List Value->List Item} {rest:List Nat}
theorem St.alter{w:World}(s:St w0 Z w L)(j:Nat){it it':Item}(hj:L[j]? =some it)(h:it'.Φ w)(hS:it'.S=it.S):St w0 Z w (L.set j it'):=by
 have hlt:=(zes.1 hj).1
 have cs:∀(m:Nat)(x:Item),(L.set j it')[m]? =some x->(m=j/\x=it')\/L[m]? =some x:=λm x hm=>by
  rcases vr hm with ⟨e1,e2⟩|⟨_,e⟩
  ·exact .inl ⟨e1,e2⟩
  ·exact .inr e
 refine s.repart (λm x hm=> ?_) (λm n x y hmn hm hn b hb hc=> ?_)
 ·rcases cs m x hm with ⟨rfl,rfl⟩|hm
  ·exact ⟨h,by rw [hS];exact s.nd _ it hj,λb hb=>vu.2 ⟨_,it,hj,by rw [<- hS];exact hb⟩⟩
  ·exact ⟨s.all m x hm,s.nd m x hm,λb hb=>vu.2 ⟨m,x,hm,hb⟩⟩
 ·have f:∀(m:Nat)(x:Item),(L.set j it')[m]? =some x->∃y,L[m]? =some y/\y.S=x.S:=λm x hm=>by
   rcases cs m x hm with ⟨rfl,rfl⟩|hm
   ·exact ⟨it,hj,hS.symm⟩
   ·exact ⟨x,hm,rfl⟩
  obtain ⟨x',hx,ex⟩:=f m x hm;obtain ⟨y',hy,ey⟩:=f n y hn;exact s.apart m n x' y' hmn hx hy b (by rw [ex];exact hb) (by rw [ey];exact hc)
theorem Jf{w:World}{y:α}(hj:nth L j=some (itI (Ji T enc) [u] S o))(s:St w0 Z w L)(ho:o=some y):∃b A C,u=.pointer (some ⟨b,A.length,none⟩)/\St w0 Z w (L.set j (cW b T A (enc y) C)):=by
 subst ho;have hj':L[j]? =some (itI (Ji T enc) [u] S (some y)):=by rw [<- zN];exact hj
 obtain ⟨b,A,C,h1,h2,h3⟩:=s.all j _ hj';exact ⟨b,A,C,by simpa using h1,s.alter j hj' h3 (by simpa [itI,cW,jq] using h2.symm)⟩
end
section
variable {β:Type} {Fs:List Fa} {L:List Item}
theorem qS.prn{T:TypeId}{enc:β->List Value}:qS [.on] Fs L (Ji T enc) [] [.pointer none] none:=⟨λw0 Z w hd a s=>⟨[],⟨rfl,rfl⟩,k9,by simp⟩⟩
theorem qS.pb{j b off n:Nat}{T:TypeId}{cs:List Value}{enc:β->List Value}{x:β}(hj:nth L j=some (jq b T cs))(hn:KR (cs.take off).length off)(hs:KR cs (cs.take off++(enc x++cs.drop (off+n)))):qS [.pb j off n] Fs L (Ji T enc) [j] [.pointer (some ⟨b,off,none⟩)] (some x):=
 qS.item hj λw ho=>⟨b,cs.take off,cs.drop (off+n),by rw [hn.h],rfl,by rw [<- hs.h];exact ho⟩
end
open Go.RowKit
variable {T:TypeId} {sz:Nat} {ι:Type} {ks:List Nat} {n:Nat} {α:Type} {e:Nat} {wb:World} {S:List Nat} {a:Option Addr} {c q:Nat} {R:Rp α} {xs:List α}
structure au {β ι:Type} (ks:List Nat) (q:Nat) (Fs:List Fa) (A:Rp β) (vs:ι->β->List Value) (fcs:ι->β->List Fa):Prop where
 o:∀w0 Z cs y,bw w0 Z Fs->A.rd w0 Z y cs->∃i,cs=vs i y/\bw w0 Z (fcs i y)
structure nu {β ι:Type} (ks:List Nat) (q:Nat) (Fs:List Fa) (wb:World) (Sb:List Nat) (A:Rp β) (vs:ι->β->List Value) (fcs:ι->β->List Fa):Prop where
 o:∀w0 Z cs y,bw w0 Z Fs->A.rd wb Sb y cs->∃i,cs=vs i y/\bw w0 Z (fcs i y)
section
variable {β γ:Type} {q:Nat} {Fs:List Fa} {wb:World} {Sb:List Nat}
theorem au.row{enc:β->List Value}{he:∀x,(enc x).length=sz}{hp:0<sz}:
  au [1] q Fs (lM T enc sz he hp) (λ(i:Option Addr×Nat)y=>[.slice i.1 y.length i.2]) (λi y=>[.rd (.slice i.1 y.length i.2) enc sz y]):=⟨by
 rintro w Z cs y a ⟨v,rfl,h⟩;obtain ⟨_,a,c,rfl⟩:=Rd.len h;exact ⟨(a,c),rfl,h,trivial⟩⟩
theorem au.nrow{R:Rp β}{hp:0<R.sz}:
  au [2] q Fs (iA T R hp) (λ(i:Option Addr×Nat)y=>[.slice i.1 y.length i.2]) (λi y=>[.rn (.slice i.1 y.length i.2) R y]):=⟨by
 rintro w Z cs y a ⟨v,rfl,h⟩;obtain ⟨_,a,c,rfl⟩:=RdN.len h;exact ⟨(a,c),rfl,h,trivial⟩⟩
theorem au.any{A:Rp β}(hz:KR A.sz 1):au [4] q Fs A (λ(i:Value)_=>[i]) (λi y=>[.ri i A y]):=⟨by
 intro w Z cs y a h;have hl:=A.rlen _ _ _ _ h;rw [hz.h] at hl
 match cs,hl,h with
 |[v],_,h=>exact ⟨v,rfl,h,trivial⟩⟩
theorem au.ptr{U:TypeId}{R:Rp β}:au [5] q Fs (vl U R) (λ(i:Nat)_=>[.pointer (some ⟨i,0,none⟩)]) (λi y=>[.ri (.pointer (some ⟨i,0,none⟩)) (vl U R) y]):=⟨by
 rintro w Z cs y a ⟨b,cs',rfl,h⟩;exact ⟨b,rfl,⟨b,cs',rfl,h⟩,trivial⟩⟩
theorem au.bor{enc:β->List Value}{sz:Nat}(hq:nth Fs q=some (.bo wb Sb)):
  au [6] q Fs (Iz wb Sb enc sz) (λ(i:Option Addr×Nat)y=>[.slice i.1 y.length i.2]) (λi y=>[.rb wb Sb (.slice i.1 y.length i.2) enc sz y,.rd (.slice i.1 y.length i.2) enc sz y]):=⟨by
 rintro w0 Z cs y a ⟨v,rfl,ho⟩;obtain ⟨_,p,c,rfl⟩:=Rd.len ho;exact ⟨(p,c),rfl,ho,ho.bor (zB a hq),trivial⟩⟩
theorem au.rdn{R:Rp β}{hp:0<R.sz}(hq:nth Fs q=some (.bo wb Sb)):
  au [7] q Fs (rdP (iA T R hp) wb Sb) (λ(i:Option Addr×Nat)y=>[.slice i.1 y.length i.2]) (λi y=>[.rbn wb Sb (.slice i.1 y.length i.2) R y,.rn (.slice i.1 y.length i.2) R y]):=⟨by
 rintro w0 Z cs y a ⟨v,rfl,ho⟩;obtain ⟨_,p,c,rfl⟩:=RdN.len ho;exact ⟨(p,c),rfl,ho,ho.bor hp (zB a hq),trivial⟩⟩
theorem au.len:au [8] q Fs (KZ β) (λ(i:Option Addr×Nat)y=>[.slice i.1 y.length i.2]) (λ_ _=>[]):=⟨by
 rintro w0 Z cs y a ⟨p,c,rfl⟩;exact ⟨(p,c),rfl,trivial⟩⟩
theorem au.gho{G:Rp γ}{R:Value->Rp β}{hn:∀v,(R v).sz=n}{vs:Value->ι->β->List Value}{fcs:Value->ι->β->List Fa}(h:∀u,au ks q Fs (R u) (vs u) (fcs u)):
  au (10::ks) q Fs (L5 G R n hn) (λ(i:Value×ι)y=>vs i.1 i.2 y.2) (λi y=>.ri i.1 G y.1::fcs i.1 i.2 y.2):=⟨by
 rintro w0 Z cs y a ⟨u,h1,h2⟩;obtain ⟨i,rfl,f⟩:=(h u).o w0 Z _ _ a h2;exact ⟨(u,i),rfl,h1,f⟩⟩
theorem au.dep{δ:Type}{A:Rp β}{B:Rp γ}{C:Value->Rp δ}{hn:∀v,(C v).sz=n}(h1:KR A.sz 1)(h2:KR B.sz 1)(h3:KR n 1):
  au [11] q Fs (O5 A B C n hn) (λ(i:Value×Value×Value)_=>[i.1,i.2.1,i.2.2]) (λi y=>[.ri i.1 A y.1,.ri i.2.1 B y.2.1,.ri i.2.2 (C i.1) y.2.2]):=⟨by
 rintro w0 Z cs y a ⟨v1,⟨c1,c2,rfl,o1,c3,c4,rfl,o2,o3⟩,hv⟩;have l1:=A.rlen _ _ _ _ o1;have l2:=B.rlen _ _ _ _ o2;have l3:=(C v1).rlen _ _ _ _ o3;rw [h1.h] at l1;rw [h2.h] at l2;rw [hn,h3.h] at l3
 match c1,l1,c3,l2,c4,l3,o1,o2,o3,hv with
 |[u],_,[u2],_,[u3],_,o1,o2,o3,hv=>
  have:v1=u:=by simpa using hv.symm
  subst this;exact ⟨(v1,u2,u3),rfl,o1,o2,o3,trivial⟩⟩
theorem au.pair{κ:Type}{k k2:Nat}{A:Rp β}{B:Rp γ}{vs:ι->β->List Value}{fcs:ι->β->List Fa}{vs2:κ->γ->List Value}{fcs2:κ->γ->List Fa}
  (h1:au [k] q Fs A vs fcs) (h2:au (k2::ks) q Fs B vs2 fcs2):au (k::k2::ks) q Fs (qw A B) (λ(i:ι×κ)y=>vs i.1 y.1++vs2 i.2 y.2) (λi y=>fcs i.1 y.1++fcs2 i.2 y.2):=⟨by
 rintro w Z cs y a ⟨c1,c2,rfl,o1,o2⟩;obtain ⟨i,rfl,f1⟩:=h1.o w Z _ _ a o1;obtain ⟨j,rfl,f2⟩:=h2.o w Z _ _ a o2;exact ⟨(i,j),rfl,KS w Z f1 f2⟩⟩
theorem au.st{ff:γ->List Value->List Value}{hl:∀x vs,(ff x vs).length=sz}{g:γ->β}{A:Rp β}{vs:ι->β->List Value}{fcs:ι->β->List Fa}(h:au ks q Fs A vs fcs):
  au (3::ks) q Fs (qo ff sz hl g A) (λ(i:ι)x=>ff x (vs i (g x))) (λi x=>fcs i (g x)):=⟨by
 rintro w Z cs x a ⟨us,rfl,h2⟩;obtain ⟨i,rfl,f1⟩:=h.o w Z _ _ a h2;exact ⟨i,rfl,f1⟩⟩
theorem nu.row{enc:β->List Value}{he:∀x,(enc x).length=sz}{hp:0<sz}(hq:nth Fs q=some (.bo wb Sb)):
  nu [1] q Fs wb Sb (lM T enc sz he hp) (λ(i:Option Addr×Nat)y=>[.slice i.1 y.length i.2]) (λi y=>[.rb wb Sb (.slice i.1 y.length i.2) enc sz y,.rd (.slice i.1 y.length i.2) enc sz y]):=⟨by
 rintro w0 Z cs y a ⟨v,rfl,ho⟩;obtain ⟨_,p,c,rfl⟩:=Rd.len ho;exact ⟨(p,c),rfl,ho,ho.bor (zB a hq),trivial⟩⟩
theorem nu.pair{κ:Type}{k k2:Nat}{A:Rp β}{B:Rp γ}{vs:ι->β->List Value}{fcs:ι->β->List Fa}{vs2:κ->γ->List Value}{fcs2:κ->γ->List Fa}
  (h1:nu [k] q Fs wb Sb A vs fcs) (h2:nu (k2::ks) q Fs wb Sb B vs2 fcs2):nu (k::k2::ks) q Fs wb Sb (qw A B) (λ(i:ι×κ)y=>vs i.1 y.1++vs2 i.2 y.2) (λi y=>fcs i.1 y.1++fcs2 i.2 y.2):=⟨by
 rintro w Z cs y a ⟨c1,c2,rfl,o1,o2⟩;obtain ⟨i,rfl,f1⟩:=h1.o w Z _ _ a o1;obtain ⟨j,rfl,f2⟩:=h2.o w Z _ _ a o2;exact ⟨(i,j),rfl,KS w Z f1 f2⟩⟩
theorem nu.st{ff:γ->List Value->List Value}{hl:∀x vs,(ff x vs).length=sz}{g:γ->β}{A:Rp β}{vs:ι->β->List Value}{fcs:ι->β->List Fa}(h:nu ks q Fs wb Sb A vs fcs):
  nu (3::ks) q Fs wb Sb (qo ff sz hl g A) (λ(i:ι)x=>ff x (vs i (g x))) (λi x=>fcs i (g x)):=⟨by
 rintro w Z cs x a ⟨us,rfl,h2⟩;obtain ⟨i,rfl,f1⟩:=h.o w Z _ _ a h2;exact ⟨i,rfl,f1⟩⟩
end
theorem GD{w:World}{Z:List Nat}{b:Nat}{cs:List Value}(hb:b∉Z)(h:w.heap[b]? =some (.cells cs.toArray T (0,0))):RdB w Z b cs:=⟨hb,λk u hu=>by
 rw [cell_of_row w b k cs.toArray T (0,0) h]
 simpa using hu⟩
section
variable {L:List Item} {Fs:List Fa}
theorem Adm.oi{α β ι:Type}{e q b:Nat}{ks:List Nat}{T:TypeId}{ff:α->List Value->List Value}{sz:Nat}{hl:∀x vs,(ff x vs).length=sz}{g:α->β}{A:Rp β}{x:α}{vs:ι->β->List Value}{fcs:ι->β->List Fa}{Fs1:ι->List Fa}
  (he:nth Fs e=some (.ri (.pointer (some ⟨b,0,none⟩)) (vl T (qo ff sz hl g A)) x)) (hO:au ks q Fs A vs fcs) (hF:∀i,kN Fs (.pb b (ff x (vs i (g x)))::fcs i (g x))=some (Fs1 i)):
  Adm (.oi e q (3::ks)) Fs L (λ_:ι=>L) Fs1:=⟨λw0 Z w a s=>by
 obtain ⟨b',cs',h1,h2,h3,us,rfl,h4⟩:(vl T (qo ff sz hl g A)).rd w0 Z x [.pointer (some ⟨b,0,none⟩)]:=zB a he;cases h1;obtain ⟨i,rfl,f⟩:=hO.o w0 Z _ _ a h4;exact ⟨i,s,kQ (hF i) a ⟨GD h2 h3,f⟩⟩⟩
end
section
variable {ρ:Type} {hs:List H} {f:Option ρ} {r:ρ} {Fs:List Fa} {L:List Item} {fr:Fr} {P:Program} {B:Func} {N:Nat} {w0:World} {Z:List Nat} {Q:Exit->Act->World->Prop} {l:List Oper} {i:Nat}
theorem NP{q':Nat}{v':Value}{vs:ι->α->List Value}{fcs:ι->α->List Fa}{t:Int}{x:α}{Fs1:α->Nat->Nat->ι->List Fa}(he:nth Fs e=some (.rn v' R xs))(hO:au ks q' Fs R vs fcs)
  (hF:∀x g o q,kN Fs (.el v' g o t xs x::.ce g (o+t.toNat*R.sz) (vs q x)::fcs q x)=some (Fs1 x g o q)) (a:bw w0 Z Fs) (hx:idx xs t=some x):∃g o q,bw w0 Z (Fs1 x g o q):=by
 have hr:RdN w0 Z v' R.rd R.sz xs:=zB a he;obtain ⟨g,o,c,cs,hv,hd,hc⟩:=hr.formv hx;obtain ⟨q,rfl,f1⟩:=hO.o w0 Z _ _ a hd;exact ⟨g,o,q,kQ (hF x g o q) a ⟨⟨hx,c,hv⟩,λw' L' s' k u hu=>hc k u hu w' L' s',f1⟩⟩
theorem GO.bj{α ι:Type}{e q':Nat}{v':Value}{R:Rp α}{ks:List Nat}{vs:ι->α->List Value}{fcs:ι->α->List Fa}{xs:List α}{t:Int}{k:α->Option ρ}{Fs1:α->Nat->Nat->ι->List Fa}(he:nth Fs e=some (.rn v' R xs))(hO:au ks q' Fs R vs fcs)
  (hF:∀x g o q,kN Fs (.el v' g o t xs x::.ce g (o+t.toNat*R.sz) (vs q x)::fcs q x)=some (Fs1 x g o q)) (n:∀x g o q,GO hs (k x) r (Fs1 x g o q) L fr P B N w0 Z l i Q):GO (.bj e q' ks::hs) ((idx xs t).bind k) r Fs L fr P B N w0 Z l i Q:=⟨λw a s q=>by
 obtain ⟨x,hx,hk⟩:=zF q;obtain ⟨g,o,j,a'⟩:=NP he hO hF a hx;exact (n x g o j).o w a' s hk⟩
theorem GP.bj{α ι:Type}{done eff:List Nat}{pd:List (Nat×Pn)}{e q':Nat}{v':Value}{R:Rp α}{ks:List Nat}{vs:ι->α->List Value}{fcs:ι->α->List Fa}{xs:List α}{t:Int}{k:α->Option ρ}{Fs1:α->Nat->Nat->ι->List Fa}(he:nth Fs e=some (.rn v' R xs))(hO:au ks q' Fs R vs fcs)
  (hF:∀x g o q,kN Fs (.el v' g o t xs x::.ce g (o+t.toNat*R.sz) (vs q x)::fcs q x)=some (Fs1 x g o q)) (n:∀x g o q,GP hs (k x) r (Fs1 x g o q) L fr P B N w0 Z l done eff pd Q):GP (.bj e q' ks::hs) ((idx xs t).bind k) r Fs L fr P B N w0 Z l done eff pd Q:=⟨λw a s q=>by
 obtain ⟨x,hx,hk⟩:=zF q;obtain ⟨g,o,j,a'⟩:=NP he hO hF a hx;exact (n x g o j).o w a' s hk⟩
theorem PD{q':Nat}{Sb:List Nat}{v':Value}{vs:ι->α->List Value}{fcs:ι->α->List Fa}{t:Int}{x:α}{Fs1:α->Nat->Nat->ι->List Fa}(he:nth Fs e=some (.rbn wb Sb v' R xs))(hq:nth Fs q'=some (.bo wb Sb))(hO:nu ks q' Fs wb Sb R vs fcs)
  (hF:∀x g o q,kN Fs (.el v' g o t xs x::.ce g (o+t.toNat*R.sz) (vs q x)::fcs q x)=some (Fs1 x g o q)) (a:bw w0 Z Fs) (hx:idx xs t=some x):∃g o q,bw w0 Z (Fs1 x g o q):=by
 have hr:RdN wb Sb v' R.rd R.sz xs:=zB a he;have hb:Bor wb Sb w0 Z:=zB a hq;obtain ⟨g,o,c,cs,hv,hd,hc⟩:=hr.formB hb hx;obtain ⟨q,rfl,f1⟩:=hO.o w0 Z _ _ a hd;exact ⟨g,o,q,kQ (hF x g o q) a ⟨⟨hx,c,hv⟩,λw' L' s' k u hu=>hc k u hu w' L' s',f1⟩⟩
theorem GP.bl{α ι:Type}{done eff:List Nat}{pd:List (Nat×Pn)}{e q':Nat}{wb:World}{Sb:List Nat}{v':Value}{R:Rp α}{ks:List Nat}{vs:ι->α->List Value}{fcs:ι->α->List Fa}{xs:List α}{t:Int}{k:α->Option ρ}{Fs1:α->Nat->Nat->ι->List Fa}(he:nth Fs e=some (.rbn wb Sb v' R xs))(hq:nth Fs q'=some (.bo wb Sb))(hO:nu ks q' Fs wb Sb R vs fcs)
  (hF:∀x g o q,kN Fs (.el v' g o t xs x::.ce g (o+t.toNat*R.sz) (vs q x)::fcs q x)=some (Fs1 x g o q)) (n:∀x g o q,GP hs (k x) r (Fs1 x g o q) L fr P B N w0 Z l done eff pd Q):GP (.bl e q' ks::hs) ((idx xs t).bind k) r Fs L fr P B N w0 Z l done eff pd Q:=⟨λw a s q=>by
 obtain ⟨x,hx,hk⟩:=zF q;obtain ⟨g,o,j,a'⟩:=PD he hq hO hF a hx;exact (n x g o j).o w a' s hk⟩
end
structure KT (hs:List AH) (j:Nat) (Fs:List Fa) (L:List Item) (Q:World->Prop):Prop where
 o:∀w0 Z w,bw w0 Z Fs->St w0 Z w L->Q w
section
variable {α:Type} {Fs:List Fa} {L:List Item} {j:Nat} {js:List Nat} {src:List Src} {Fin:List Fa} {v:Value} {R:Rp α} {x:α}
theorem KT.nil(hj:nth L j=some (itI R [v] S x)):KT [] j Fs L (λw=>R.rd w [] x [v]):=⟨λw0 Z w a s=>R.see _ _ _ _ [] (s.all j _ (by rw [<- zN];exact hj)) (λb _=>znm)⟩
theorem KT.cons{h:AH}{hs:List AH}{L1:ι->List Item}{Fs1:ι->List Fa}{Q:World->Prop}(h1:Adm h Fs L L1 Fs1)(n:∀q,KT hs j (Fs1 q) (L1 q) Q):KT (h::hs) j Fs L Q:=⟨λw0 Z w a s=>by
 obtain ⟨q,s',a'⟩:=h1.o w0 Z w a s;exact (n q).o w0 Z w a' s'⟩
theorem Giv.sv{hs:List AH}(h:KT hs j Fs L (λw=>R.rd w [] x [v]))(n:Giv src Fs L [] Fin):Giv (.sv hs j::src) Fs L [] (.ri v R x::Fin):=⟨λw0 Z w a s=>⟨h.o w0 Z w a s,n.g w0 Z w a s⟩⟩
theorem Giv.oi{S:List Nat}(hj:nth L j=some (itI R [v] S x))(hm:KR (mem? j js) false)(n:Giv src Fs L js Fin):Giv (.oi j::src) Fs L js (.ri v R x::Fin):=⟨λw0 Z w a s=>by
 have hj':L[j]? =some (itI R [v] S x):=by grind [zN]
 exact ⟨R.see _ _ _ _ _ (s.all j _ hj') (λb hb=>s.noin j hj' js hm.h b hb),n.g w0 Z w a s⟩⟩
theorem Giv.fi{e:Nat}(he:nth Fs e=some (.ri v R x))(n:Giv src Fs L js Fin):Giv (.fi e::src) Fs L js (.ri v R x::Fin):=⟨λw0 Z w a s=>by
 have h:R.rd w0 Z x [v]:=zB a he;refine ⟨R.RX _ _ _ _ _ _ (λb h1 h2=>s.chg.block b h1 h2) (λb hf=> ?_) h,n.g w0 Z w a s⟩;obtain ⟨j,it,hj,hbs⟩:=vu.1 hf;obtain ⟨k,_,hk⟩:=eh hj;rcases xL hk with hk|rfl
 ·exact s.own k it hk b hbs
 ·cases hbs⟩
theorem Giv.ov{q m c sz:Nat}{T:TypeId}{p:Option Addr}{enc:α->List Value}{xs xs' ys:List α}{hi:Int}(hq:nth Fs q=some (.oe (cut xs 0 hi) ys))(he:nth L j=some (qh (.slice p m c) T enc sz xs'))(hz:∀x,KR (enc x).length sz)(hn:KR (mem? j js) false)(hxx:KR xs' xs)(n:Giv src Fs L js Fin):
  Giv (.ov j q::src) Fs L js (.rd (.slice p ys.length c) enc sz ys::Fin):=⟨λw0 Z w a s=>by
 have hj:L[j]? =some (qh (.slice p m c) T enc sz xs):=by rw [<- zN,<- hxx.h];exact he
 exact ⟨Rd.pre (s.rd j hj (λx=>(hz x).h) js hn.h (s.len j hj).1) (zB a hq),n.g w0 Z w a s⟩⟩
end
section
variable {ρ:Type} {Fs:List Fa} {L:List Item} {fr:Fr} {P:Program} {B:Func} {N:Nat} {w0:World} {Z:List Nat} {l:List Oper} {i:Nat}
def pnX(l:List Oper)(N:Nat)(fr:Fr)(i:Nat):Option Value:=match okO l N fr i with
 |some ⟨_,.binOp _ _ x _ _,_,_,_,_⟩=>look fr x
 |_=>none
def pnR(P:Program)(l:List Oper)(N:Nat)(fr:Fr)(i:Nat)(u:Value):Option Value:=match okO l N fr i with
 |some ⟨_,.binOp op t x y _,_,_,_,_⟩=>match look fr y with
  |some u2=>aS P (do eqGuard op t x y u u2;binOp op t u u2)
  |none=>none
 |_=>none
theorem PE{h:LH}{o:Option α}{enc:α->List Value}{v:Value}{b1 b2:Bool}(he:nth Fs e=some (.ri v (Ji T enc) o))(hv:KR (pnX l N fr i) (some v))(h0:KR (pnR P l N fr i (.pointer none)) (some (.bool b1)))(h1:∀b k,KR (pnR P l N fr i (.pointer (some ⟨b,k,none⟩))) (some (.bool b2))):
  LkV Fs fr P B N w0 Z h l i (.bool (match o with|none=>b1|some _=>b2)):=by
 have hv:=hv.h;unfold pnX at hv;split at hv
 ·rename_i d op t x y t2 ty pos af gg ho
  refine LkV.of ho rfl λal a w ha=> ?_
  have e1:=ha.look hv
  have key:∀u r,v=u->pnR P l N fr i u=some r->(execOp a.eval ⟨d,.binOp op t x y t2,ty,pos,af,gg⟩).run P w=.ok (.value r) w:=by
   intro u r hu hr;subst hu;unfold pnR at hr;rw [ho] at hr;dsimp only at hr;split at hr
   ·rename_i u2 hy
    have e2:=ha.look hy;have e3:=qY hr w
    have e4:(do pure (Next.value (<- (do eqGuard op t x y v u2;binOp op t v u2))):Sem Next).run P w=.ok (.value r) w:=by
     simp only [Sem.run_bind,e3];rfl
    simp only [execOp,e1,e2];exact e4
   ·cases hr
  have hf:(Ji T enc).rd w0 Z o [v]:=zB al he;cases o with
  |none=>
   have hf:[v]=[Value.pointer none]:=hf;exact key _ _ (by simpa using hf) h0.h
  |some x=>
   obtain ⟨b,A,C,hb,_⟩:=hf;exact key _ _ (by simpa using hb) (h1 b A.length).h
 ·cases hv
theorem LkV.pn{α:Type}{o:Option α}{T:TypeId}{enc:α->List Value}{v:Value}{e:Nat}(he:nth Fs e=some (.ri v (Ji T enc) o))(hv:KR (pnX l N fr i) (some v))(h0:KR (pnR P l N fr i (.pointer none)) (some (.bool false)))(h1:∀b k,KR (pnR P l N fr i (.pointer (some ⟨b,k,none⟩))) (some (.bool true))):
  LkV Fs fr P B N w0 Z (.pn e) l i (.bool o.isSome):=by
 have:=PE (B:=B) (h:=.pn e) (w0:=w0) (Z:=Z) he hv h0 h1
 grind
def swP(P:Program)(l:List Oper)(N:Nat)(fr:Fr)(i:Nat):Option (Option Addr×Nat×Nat×Int×Nat):=match cpC P l N fr i with
 |some (.slice a k c,some q,none,sz)=>some (a,k,c,q,sz)
 |_=>none
def swV(p:Option (Option Addr×Nat×Nat×Int×Nat))(m:Nat):Value:=match p with
 |some (a,_,c,q,sz)=>.slice (shd a c q.toNat sz) m (c-q.toNat)
 |none=>undef
def swK(p:Option (Option Addr×Nat×Nat×Int×Nat)):Option (Nat×Int):=match p with
 |some (_,k,_,q,_)=>some (k,q)
 |none=>none
theorem LkV.sw{α:Type}{q:Nat}{xs ys:List α}{lo:Int}(hq:nth Fs q=some (.oe (cut xs lo ((xs.length:Nat):Int)) ys))(hc:KR (swK (swP P l N fr i)) (some (xs.length,lo))):
  LkV Fs fr P B N w0 Z (.sw q) l i (swV (swP P l N fr i) ys.length):=by
 have hc:=hc.h;cases hs:swP P l N fr i with
 |none=>rw [hs] at hc;cases hc
 |some u=>
  obtain ⟨a,k,c,q',sz⟩:=u;rw [hs] at hc;simp only [swK,i4,l6] at hc;obtain ⟨rfl,rfl⟩:=hc;unfold swP at hs;split at hs
  ·rename_i a' k' c' q2 sz' hcp
   simp only [i4,l6] at hs;obtain ⟨rfl,rfl,rfl,rfl,rfl⟩:=hs;unfold cpC at hcp;split at hcp
   ·rename_i ho
    split at hcp
    ·rename_i h1 h2
     split at hcp
     ·rename_i hz
      split at hcp
      ·grind
      ·split at hcp
       ·rename_i h3
        cases hcp
        exact LkV.of ho rfl λal r w hr=>fG _ rfl h2 rfl h3 (zB al hq) h1 hz r w hr
       ·cases hcp
      ·grind
      ·cases hcp
     ·cases hcp
    ·cases hcp
   ·cases hcp
  ·cases hs
theorem DV{m:Nat}{b:Nat}(hb:b∈(di (.slice (shd a c q sz) m (c-q))).toList):b∈(di (.slice a n c)).toList:=by
 cases c with
 |zero=>rw [Nat.zero_sub,ek] at hb;cases hb
 |succ c=>
  cases a with
  |none=>
   have:shd none (c+1) q sz=none:=by grind [shd]
   rw [this] at hb;cases hb
  |some a=>
   by_cases hcq:c+1=q
   ·rw [hcq,Nat.sub_self,ek] at hb;cases hb
   ·have e1:shd (some a) (c+1) q sz=some (a.add (q*sz)):=by unfold shd;rw [d8 hcq];rfl
    rw [e1] at hb;rcases yq (c+1-q) with h0|h0
    ·grind [ek]
    ·rw [vv h0] at hb;rw [vv (Nat.succ_pos c)]
     have e2:(a.add (q*sz)).block=a.block:=by
      obtain ⟨b0,o0,s0⟩:=a;unfold Addr.add
      grind
     grind
end
section
variable {α:Type} {w0 w:World} {S0:List Nat} {L:List Item} {Fs:List Fa}
theorem St.sufN{R:Rp α}{xs ys:List α}(hst:St w0 S0 w L)(j:Nat)(hj:L[j]? =some (nI T R (.slice a n c) S xs none)){q:Int}(hc:cut xs q (xs.length:Int)=some ys):
  ∃S',St w0 S0 w (L.set j (nI T R (.slice (shd a c q.toNat R.sz) ys.length (c-q.toNat)) S' ys none)):=by
 obtain ⟨css,Ss,h⟩:=hst.all j _ hj;obtain ⟨h0,h1,h2,e⟩:=aU hc;have hys:ys=xs.drop q.toNat:=by rw [e];simp
 have hcc:cut css q (css.length:Int)=some (css.drop q.toNat):=by
  have:cut css q (css.length:Int)=some ((css.take (css.length:Int).toNat).drop q.toNat):=by
   unfold cut;rw [h.lc];simp [h0,h1]
  rw [this];simp
 have hrow:dP w T R.sz (.slice a n c) css.length (jZ (fit R.sz) css):=by rw [h.lc];exact h.row
 have hs:=dP.suf (enc:=fit R.sz) (λ_=>cV _ _) hrow hcc;have hl:(css.drop q.toNat).length=ys.length:=by rw [hys];simp [h.lc]
 have hnd:=h.nd;rw [h.hS] at hnd;obtain ⟨n1,n2,n3⟩:=j7.1 hnd
 have hsub:∀b∈(Ss.drop q.toNat).flatten,b∈Ss.flatten:=λb hb=>by
  obtain ⟨s,hs1,hs2⟩:=j9.1 hb;exact j9.2 ⟨s,List.mem_of_mem_drop hs1,hs2⟩
 have hfl:Ss.flatten=(Ss.take q.toNat).flatten++(Ss.drop q.toNat).flatten:=by rw [<- yf,yi]
 have nds:(Ss.drop q.toNat).flatten.Nodup:=by grind
 have ndo:(di (.slice (shd a c q.toNat R.sz) ys.length (c-q.toNat))).toList.Nodup:=dN
 have nd':((di (.slice (shd a c q.toNat R.sz) ys.length (c-q.toNat))).toList++(Ss.drop q.toNat).flatten).Nodup:=
  j7.2 ⟨ndo,nds,λx hx y hy exy=>by grind [DV]⟩
 refine ⟨(di (.slice (shd a c q.toNat R.sz) ys.length (c-q.toNat))).toList++(Ss.drop q.toNat).flatten,?_⟩;refine hst.upd j hj (x2 _ _) ⟨css.drop q.toNat,Ss.drop q.toNat,?_⟩ (λb hb=>.inl ?_) nd'
 ·refine ⟨by rw [<- hl];exact hs,hl,by rw [hys];simp [h.ls],rfl,nd',λ_ _ e=>(by cases e),λi cs S' x _ h3 h4 h5=> ?_⟩;rw [hys] at h5;rw [List.getElem?_drop] at h3 h4 h5;exact h.own _ cs S' x (λ_ e=>by cases e) h3 h4 h5
 ·show b∈S;rw [h.hS];have hb:b∈(di (.slice (shd a c q.toNat R.sz) ys.length (c-q.toNat))).toList++(Ss.drop q.toNat).flatten:=hb
  grind [DV]
theorem Adm.sfN{j q n c:Nat}{T:TypeId}{R:Rp α}{a:Option Addr}{S:List Nat}{xs xs' ys:List α}{lo:Int}{L1:List Nat->List Item}(hq:nth Fs q=some (.oe (cut xs lo ((xs.length:Nat):Int)) ys))(hj:nth L j=some (nI T R (.slice a n c) S xs' none))(hxx:KR xs' xs)
  (hL:∀S',dF L j (nI T R (.slice (shd a c lo.toNat R.sz) ys.length (c-lo.toNat)) S' ys none)=some (L1 S')):Adm (.sfN j q) Fs L L1 (λ_=>Fs):=⟨λw0 Z w al s=>by
 have hj':L[j]? =some (nI T R (.slice a n c) S xs none):=by rw [<- zN,<- hxx.h];exact hj
 obtain ⟨S',s'⟩:=s.sufN j hj' (zB al hq)
 grind [qN]⟩
theorem Adm.sfx{j q n c sz:Nat}{T:TypeId}{enc:α->List Value}{a:Option Addr}{xs xs' ys:List α}{lo:Int}{L1:List Item}(hq:nth Fs q=some (.oe (cut xs lo ((xs.length:Nat):Int)) ys))(hj:nth L j=some (qh (.slice a n c) T enc sz xs'))(hz:∀x,KR (enc x).length sz)(hxx:KR xs' xs)
  (hL:dF L j (qh (.slice (shd a c lo.toNat sz) ys.length (c-lo.toNat)) T enc sz ys)=some L1):Adm (.sfx j q) Fs L (λ_:Unit=>L1) (λ_=>Fs):=⟨λw0 Z w al s=>by
 have hj':L[j]? =some (qh (.slice a n c) T enc sz xs):=by rw [<- zN,<- hxx.h];exact hj
 exact ⟨(),by rw [qN hL];exact s.sufRow j hj' (λx=>(hz x).h) (zB al hq),al⟩⟩
theorem Adm.ctr{j q n c sz:Nat}{T:TypeId}{enc:α->List Value}{a:Option Addr}{xs xs' ys:List α}{hi:Int}{L1:List Item}(hq:nth Fs q=some (.oe (cut xs 0 hi) ys))(hj:nth L j=some (qh (.slice a n c) T enc sz xs'))(hz:∀x,KR (enc x).length sz)(hxx:KR xs' xs)
  (hL:dF L j (qh (.slice a ys.length c) T enc sz ys)=some L1):Adm (.ctr j q) Fs L (λ_:Unit=>L1) (λ_=>Fs):=⟨λw0 Z w al s=>by
 have hj':L[j]? =some (qh (.slice a n c) T enc sz xs):=by rw [<- zN,<- hxx.h];exact hj
 exact ⟨(),by rw [qN hL];exact s.cutRow j hj' (λx=>(hz x).h) (zB al hq),al⟩⟩
theorem GO.clr{ρ:Type}{hs:List H}{f:Option ρ}{r:ρ}{fr:Fr}{P:Program}{B:Func}{N:Nat}{w0:World}{Z:List Nat}{l:List Oper}{i:Nat}{Q:Exit->Act->World->Prop}{j q n c sz:Nat}{t e T:TypeId}{ats:List Nat}{x:Operand}{ty:TypeId}{pos:String}{af:Array Edge}{gdd:Option (Nat×Bool)}{enc:α->List Value}{a:Option Addr}{xs xs' ys:List α}{lo:Int}{z:α}{L1:List Item}
  (hq:nth Fs q=some (.oe (cut xs lo ((xs.length:Nat):Int)) ys)) (hj:nth L j=some (qh (.slice a n c) T enc sz xs')) (hz:∀x,KR (enc x).length sz) (hxx:KR xs' xs)
  (hl:vk l i=some ⟨none,.call ⟨.builtin .clear,[x].toArray,ats.toArray⟩,ty,pos,af,gdd⟩) (hg:KR (gd l fr ⟨none,.call ⟨.builtin .clear,[x].toArray,ats.toArray⟩,ty,pos,af,gdd⟩) (some true))
  (hx:KR (Go.Sx.look fr x) (some (.slice (Go.Sx.shd a c lo.toNat sz) ys.length (c-lo.toNat)))) (ha0:ats[0]? =some t) (ht:P.underlying t=some (.slice e))
  (hzz:KR ((aS P (zeroValue e)).map (·.cells.toList)) (some (enc z))) (h1:KR (dj (enc z)) true)
  (hL:dF L j (qh (.slice a n c) T enc sz (xs.take lo.toNat++List.replicate ys.length z))=some L1) (n':GO hs f r Fs L1 fr P B N w0 Z l (i+1) Q):GO (.clr j q z::hs) f r Fs L fr P B N w0 Z l i Q:=⟨λw al s hk=>by
 have hj':L[j]? =some (qh (.slice a n c) T enc sz xs):=by rw [<- zN,<- hxx.h];exact hj
 refine OW.clearR s j hj' (λx=>(hz x).h) hl hg.h (zB al hq) hx.h ha0 ht z hzz.h h1.h λw' s'=> ?_
 exact n'.o w' al (by grind [qN]) hk⟩
theorem Adm.tp{A:Rp α}{B:World->List Nat->Rp α}{j:Nat}{h:Cv A B}{cs:List Value}{S:List Nat}{x:α}{L0 L1:World×List Nat×List Nat->List Item}(hj:nth L j=some (itI A cs S x))(hL:∀p,dF L j (itI (B p.1 (coS p.1 p.2.1)) cs p.2.2 x)=some (L0 p))(hA:∀p,vx (L0 p) (tJ p.1 p.2.1)=some (L1 p)):
  Adm (.tp j h) Fs L L1 (λ_=>Fs):=⟨λw0 Z w al s=>by
 obtain ⟨wb,Sp,So,s'⟩:=s.toPool h j (by rw [<- zN];exact hj)
 exact ⟨(wb,Sp,So),by grind [aj,qN],al⟩⟩
end
section
variable {ρ:Type} {hs:List H} {f:Option ρ} {r:ρ} {Fs:List Fa} {L:List Item} {fr:Fr} {P:Program} {B:Func} {N:Nat} {w0:World} {Z:List Nat} {Q:Exit->Act->World->Prop} {l:List Oper} {i:Nat}
theorem GO.nl{α:Type}{j m c sz:Nat}{qs:List Nat}{a:Option Addr}{T:TypeId}{enc:α->List Value}{xs:List α}{L1:List Item}(hj:nth L j=some (qh (.slice a m c) T enc sz xs))(hq:KR (Ak fr qs) (Al (.slice a m c) qs))
  (hL:dF L j (qh (.slice a xs.length c) T enc sz xs)=some L1) (n:GO hs f r Fs L1 (reh (.slice a xs.length c) qs fr) P B N w0 Z l i Q):GO (.nl j qs::hs) f r Fs L fr P B N w0 Z l i Q:=⟨λw al s g b hb=>by
 have hm:=s.rlen hj;have hq:=hq.h;rw [hm] at hq hj
 have e1:L1=L:=by
  rw [qN hL];have hj':L[j]? =some (qh (.slice a xs.length c) T enc sz xs):=by grind [zN]
  apply l8
  grind
 subst e1;exact n.o w al s g b (uc hb hq)⟩
theorem GP.fp{α:Type}{hs:List H}{done eff:List Nat}{pd:List (Nat×Pn)}{j:Nat}{T:TypeId}{enc:α->List Value}{u:Value}{S:List Nat}{o:Option α}{L1:α->Nat->List Value->List Value->List Item}{k:α->Option ρ}(hj:nth L j=some (itI (Ji T enc) [u] S o))(hL:∀y b A C,dF L j (cW b T A (enc y) C)=some (L1 y b A C))
  (n:∀y b A C,u=.pointer (some ⟨b,A.length,none⟩)->GP hs (k y) r Fs (L1 y b A C) fr P B N w0 Z l done eff pd Q):GP (.fp j::hs) (o.bind k) r Fs L fr P B N w0 Z l done eff pd Q:=⟨λw a s e=>by
 obtain ⟨y,hy,hk⟩:=zF e;obtain ⟨b,A',C,hu,s2⟩:=Jf hj s hy;exact (n y b A' C hu).o w a (by rw [qN (hL y b A' C)];exact s2) hk⟩
theorem GQ.rI{M:Nat}{fn:Func}{fr':Fr}{B0:Func}(hf:fn.results= #[])(n:GO hs f r Fs L ((dst l i,.tuple #[])::fr) P B N w0 Z l (i+1) Q):
 GQ (.rI::hs) f r Fs L fr' P B0 M w0 Z .normal (bodyPost P fn (IQ P l N Q i fr B)):=⟨λw a s q=>QW.end0 hf ⟨_,rfl,n.o w a s q⟩⟩
theorem Sim.nrowH{A B:List Item}{m m':Nat}{T':TypeId}{xs':List α}{h h':Option (Nat×List Value)}(h0:Ln m m')(h1:KR T T')(h2:KR xs xs')(h3:KR h h')(n:Sim A B):
 Sim (nI T R (.slice a m c) S xs h::A) (nI T' R (.slice a m' c) S xs' h'::B):=⟨by rw [h0.h,h1.h,h2.h,h3.h,n.e]⟩
theorem Sim.pool{A B:List Item}{Sp:List Nat}(n:Sim A B):Sim (tJ wb Sp::A) (tJ wb Sp::B):=⟨by rw [n.e]⟩
theorem Adm.opk{α ι:Type}{j b q:Nat}{S:List Nat}{L Lq:List Item}{Fs:List Fa}{T:TypeId}{R:Rp α}{x:α}{need:Fa}{cells:ι->α->List Value}{its:ι->α->List Item}{fcs:ι->α->List Fa}{h:OpK R need cells its fcs}
  {L0 L1:ι->List Item} {Fs1:ι->List Fa}
  (hj:nth L j=some (itI (vl T R) [.pointer (some ⟨b,0,none⟩)] S x)) (hq:nth Fs q=some need) (hN:dF L j nilI=some Lq) (hA:∀i,kN Lq (jq b T (cells i x)::its i x)=some (L0 i))
  (hL:∀i,fI (L0 i) (Ah j L.length L.length 0 (upto (L.length+1) (its i x).length)) []=some (L1 i)) (hd:∀i,KR (zP (Ah j L.length L.length 0 (upto (L.length+1) (its i x).length))) true) (hF:∀i,kN Fs (fcs i x)=some (Fs1 i)):
  Adm (.opk j q h) Fs L L1 Fs1:=⟨λw0 Z w a s=>by
 have hj':L[j]? =some (itI (vl T R) [.pointer (some ⟨b,0,none⟩)] S x):=by grind [zN]
 have ho:=s.all j _ hj';obtain ⟨b',cs',S',h1,rfl,h3,h4,h5⟩:=ho;cases h1;obtain ⟨i,rfl,hp,hf⟩:=h.o w0 Z w _ _ _ ⟨zB a hq,trivial⟩ h5;refine ⟨i,?_,by rw [bF (hF i)];exact KS w0 Z a hf⟩
 have hB:xY w (b::S') (jq b T (cells i x)::its i x):=xY.cons h4 (by simp [jq]) (by simp [jq]) (S2:=S') (by grind [jq]) hp (λc hc=>zcm _ hc);have s2:=s.burst j hj' hB;rw [<- qN hN,<- bF (hA i)] at s2;have:=xk (hL i);rw [i6] at this;rw [this];exact s2.keep _ (hd i).h⟩
theorem GO.here{ρ:Type}{hs:List H}{f:Option ρ}{r:ρ}{Fs:List Fa}{L:List Item}{fr:Fr}{P:Program}{B:Func}{N:Nat}{w0:World}{Z:List Nat}{l:List Oper}{i:Nat}{Q:Exit->Act->World->Prop}(h:GO hs f r Fs L fr P B N w0 Z l i Q):GO hs f r Fs L fr P B N w0 Z l i Q:=h
theorem GC.here{ρ:Type}{hs:List H}{f:Option ρ}{r:ρ}{Fs:List Fa}{L:List Item}{fr:Fr}{P:Program}{B:Func}{N:Nat}{w0:World}{Z:List Nat}{c:Code}{Q:Exit->Act->World->Prop}(h:GC hs f r Fs L fr P B N w0 Z c Q):GC hs f r Fs L fr P B N w0 Z c Q:=h
theorem GQ.here{ρ:Type}{hs:List H}{f:Option ρ}{r:ρ}{Fs:List Fa}{L:List Item}{fr:Fr}{P:Program}{B:Func}{N:Nat}{w0:World}{Z:List Nat}{e:Exit}{Q:Exit->Act->World->Prop}(h:GQ hs f r Fs L fr P B N w0 Z e Q):GQ hs f r Fs L fr P B N w0 Z e Q:=h
theorem GS.here{ρ:Type}{hs:List H}{f:Option ρ}{r:ρ}{Fs:List Fa}{L:List Item}{fr:Fr}{P:Program}{B:Func}{N:Nat}{w0:World}{Z:List Nat}{l:List Oper}{i:Nat}{m:Bool}{Q:Exit->Act->World->Prop}(h:GS hs f r Fs L fr P B N w0 Z l i c m Q):GS hs f r Fs L fr P B N w0 Z l i c m Q:=h
theorem GP.here{ρ:Type}{hs:List H}{f:Option ρ}{r:ρ}{Fs:List Fa}{L:List Item}{fr:Fr}{P:Program}{B:Func}{N:Nat}{w0:World}{Z:List Nat}{l:List Oper}{done eff:List Nat}{pd:List (Nat×Pn)}{Q:Exit->Act->World->Prop}(h:GP hs f r Fs L fr P B N w0 Z l done eff pd Q):GP hs f r Fs L fr P B N w0 Z l done eff pd Q:=h
theorem Adm.here{h0:AH}{Fs:List Fa}{L:List Item}{L1:ι->List Item}{Fs1:ι->List Fa}(h:Adm h0 Fs L L1 Fs1):Adm h0 Fs L L1 Fs1:=h
theorem jh.here{β:Type}{Fs:List Fa}{A:Rp β}{vs:ι->β->List Value}{its:ι->β->List Item}{fcs:ι->β->List Fa}(h:jh ks q Fs A vs its fcs):jh ks q Fs A vs its fcs:=h
theorem qS.here{β:Type}{ks:List Pa}{Fs:List Fa}{L:List Item}{A:Rp β}{js:List Nat}{vs:List Value}{y:β}(h:qS ks Fs L A js vs y):qS ks Fs L A js vs y:=h
theorem LkV.here{Fs:List Fa}{fr:Fr}{P:Program}{B:Func}{N:Nat}{w0:World}{Z:List Nat}{h0:LH}{l:List Oper}{i:Nat}{v:Value}(h:LkV Fs fr P B N w0 Z h0 l i v):LkV Fs fr P B N w0 Z h0 l i v:=h
theorem Giv.here{src:List Src}{Fs:List Fa}{L:List Item}{js:List Nat}{Fin:List Fa}(h:Giv src Fs L js Fin):Giv src Fs L js Fin:=h
theorem GQ.popN{σ τ:Type}{hs:List H}{Fs:List Fa}{L:List Item}{fr:Fr}{P:Program}{B:Func}{N:Nat}{w0:World}{Z:List Nat}{ex:Exit}{x x':σ}{k:σ->Option τ}{r':τ}{Q:Exit->Act->World->Prop}(hq:nth Fs q=some (.po k x r'))(n:GQ hs (k x') r' Fs L fr P B N w0 Z ex Q):GQ (.pop q::hs) (some x') x Fs L fr P B N w0 Z ex Q:=⟨λw a s e=>by
 cases e
 exact n.o w a s (zB a hq)⟩
theorem DW{w:World}{Sb:List Nat}{enc:α->List Value}{cs:List Value}{x:List α}(h:(Iz wb Sb enc sz).own w cs S x):dj cs=true:=by
 obtain ⟨v,rfl,_,hr⟩:=h;obtain ⟨_,a,c,rfl⟩:=Rd.len hr;rfl
structure PF {ρ ι:Type} (P:Program) (name:String) (v:Value) (args:List Value) (Fs:List Fa) (L:List Item) (f:Option ρ) (post:ρ->ι->Value×List Item):Prop where
 c:∀w r,bw w (fp L) Fs->St w (fp L) w L->f=some r->L8 P v name args w (RQ w (fp L) post r)
structure NQ {ρ ι:Type} (P:Program) (name:String) (v:Value) (args:List Value) (Fs:List Fa) (L:List Item) (f:Option ρ) (post:ρ->ι->Value×List Item):Prop where
 h:PF P name v args Fs L f post
theorem L8.mono{P:Program}{v:Value}{name:String}{args:List Value}{w:World}{R R':Ending->World->Prop}(h:L8 P v name args w R)(k:∀e w',R e w'->R' e w'):L8 P v name args w R':=by
 obtain ⟨a,b,h1,h2⟩:=h;exact ⟨a,b,h1,h2.mono k⟩
def icC(l:List Oper)(N:Nat)(fr:Fr)(i:Nat):Option (Value×String×List Value):=match okO l N fr i with
 |some ⟨_,.call ⟨.invoke x name,ys,_⟩,_,_,_,_⟩=>match look fr x,looks fr ys.toList with
  |some v,some us=>some (v,name,us)
  |_,_=>none
 |_=>none
theorem GO.ci{σ ι:Type}{S:Prop}{js rest:List Nat}{src:List Src}{name:String}{v:Value}{args:List Value}{o:Option σ}{k:σ->Option ρ}{post:σ->ι->Value×List Item}{Fin:List Fa}{Lin Lq Bq:List Item}{L1:σ->ι->List Item}[C:HasC o S]
  (hS:S->NQ P name v args Fin Lin o post) (hL:fI L js []=some Lq) (hM:Sim Lq Lin) (hg:Giv src Fs L js Fin) (hp:KR (icC l N fr i) (some (v,name,args))) (hB:fI L rest []=some Bq) (hJ:∀x q,kN (post x q).2 Bq=some (L1 x q))
  (hd:KR (zP (js++rest)) true) (n:∀x q,GO hs (k x) r Fs (L1 x q) ((dst l i,(post x q).1)::fr) P B N w0 Z l (i+1) Q):GO (.ci js src rest::hs) (o.bind k) r Fs L fr P B N w0 Z l i Q:=⟨λw a s q=>by
 obtain ⟨x,hx,hk⟩:=zF q;have hp:=hp.h;unfold icC at hp;split at hp
 ·rename_i d' x' name' ys ats _ _ _ _ ho
  split at hp
  ·rename_i v' as' hv ha
   cases hp
   obtain ⟨d,hl,hg',hdd,hN⟩:=jG ho;have hde:=vD hl hdd;simp only at hdd;subst hdd;have e1:=xk hL;have e2:=xk hB;rw [hM.e] at e1;rw [i6] at e1 e2;subst e1 e2;refine OW.inv (ys:=ys.toList) (ats:=ats.toList) hl hg' hN hv ha ((hS C.c).h.c w x (hg.g w0 Z w a s) (s.part js (by have:=hd.h;exact dl this)) hx) ?_
   rintro e w' ⟨i',rfl,s'⟩;refine ⟨_,rfl,?_⟩;have h3:=(n x i').o w' a (by rw [bF (hJ x i')];exact s.join hd.h s') hk
   grind
  ·cases hp
 ·cases hp⟩
end
end
open Go.RowKit
variable {α:Type} {S:List Nat} {v:Value} {sz:Nat} {T:TypeId} {i:Nat} {xs:List α} {x a:α}
theorem GI{β:Type}{P:Nat->β->Prop}:∀n:Nat,(∀t,t<n->∃r,P t r)->∃rs:List β,rs.length=n/\∀t r,rs[t]? =some r->P t r
 |0,_=>⟨[],rfl,λt r h=>by simp at h⟩
 |n+1,h=>by
  obtain ⟨rs,hl,hp⟩:=GI n λt ht=>h t (by omega)
  obtain ⟨r,hr⟩:=h n (by omega);refine ⟨rs++[r],by simp [hl],λt r' ht=> ?_⟩;rcases Nat.lt_or_ge t rs.length with h1|h1
  ·rw [t9 h1] at ht;exact hp t r' ht
  ·rw [u7 h1] at ht
   have h2:t-rs.length=0:=by
    rcases yq (t-rs.length) with h2|h2
    ·exact h2
    ·rw [Qv (by simp;omega)] at ht;cases ht
   rw [h2] at ht;obtain rfl:r=r':=by simpa using ht
   have:t=n:=by omega
   subst this;exact hr
theorem RdN.rows{β:Type}{w:World}{D:World->List Nat->α->List Value->Prop}{enc:β->List Value}(g:β->α)(G:β->Prop)
  (hd:∀x cs,D w S x cs->∃r,g r=x/\enc r=cs/\G r) (h:RdN w S v D sz xs):∃rs:List β,rs.map g=xs/\Rd w S v enc sz rs/\∀r∈rs,G r:=by
 obtain ⟨hn,a,c,hv,hlc,hc⟩:=h
 obtain ⟨rs,hl,hp⟩:=GI (P:=λt r=>xs[t]? =some (g r)/\G r/\∃b o,a=some ⟨b,o,none⟩/\b∉S/\∀f u,(enc r)[f]? =some u->w.cell? ⟨b,o+t*sz+f,none⟩=some u) xs.length λt ht=>by
  obtain ⟨cs,h1,b,o,h2⟩:=hc t xs[t] (zeg ht);obtain ⟨r,e1,e2,e3⟩:=hd _ _ h1;exact ⟨r,by rw [e1];exact zeg ht,e3,b,o,by rw [e2];exact h2⟩
 have hm:rs.map g=xs:=by
  refine l8 λt=> ?_
  rw [p9];cases ht:rs[t]? with
  |some r=>exact (hp t r ht).1.symm
  |none=>
   have:rs.length<=t:=by simpa using ht
   exact (Qv (by omega)).symm
 refine ⟨rs,hm,⟨by omega,a,c,by rw [hl];exact hv,by omega,λt r f u hr hu=> ?_⟩,λr hr=> ?_⟩
 ·obtain ⟨_,_,b,o,h1,h2,h3⟩:=hp t r hr;exact ⟨b,o,h1,h2,h3 f u hu⟩
 ·obtain ⟨t,ht⟩:=w7 hr;exact (hp t r ht).2.1
theorem L4{α β γ:Type}{f:α->Option β}{g:α->Option γ}:∀{xs:List α} {u:Unit},xs.foldlM (λ(_:Unit)c=>(f c).bind λ_=>(g c).bind λ_=>some ()) ()=some u->∀x∈xs,(∃y,f x=some y)/\∃z,g x=some z
 |[],_,_=>by simp
 |x::xs,u,h=>by
  rw [List.foldlM_cons] at h;obtain ⟨u1,h1,h2⟩:=zF h;obtain ⟨y,hy,h1⟩:=zF h1;obtain ⟨z,hz,h1⟩:=zF h1;intro q hq;rcases i9.1 hq with rfl|hq
  ·exact ⟨⟨y,hy⟩,z,hz⟩
  ·exact L4 h2 q hq
section
variable {w w0:World} {S0:List Nat} {L:List Item} {α β γ:Type}
theorem St.fuseS{A1:Rp β}{A2:Rp γ}{v1 v2:Value}{S1 S2:List Nat}{y1:β}{y2:γ}{f:α->List Value->List Value}{hl:∀x vs,(f x vs).length=sz}{g:α->β×γ}(h:St w0 S0 w L)(R:Rp α)(hR:R=qo f sz hl g (qw A1 A2))(k j:Nat)(hkj:Nat.beq k j=false)
  (hk:L[k]? =some (itI A1 [v1] S1 y1)) (hj:L[j]? =some (itI A2 [v2] S2 y2)) (x:α) (hx:g x=(y1,y2)) {cs:List Value} (hcs:f x [v1,v2]=cs):St w0 S0 w ((L.set k (itI R cs (S1++S2) x)).set j nilI):=by
 have o1:=h.all k _ hk;have o2:=h.all j _ hj;have hd:∀b∈S1,b∉S2:=h.apart k j _ _ (p7 hkj) hk hj;refine h.fuse k j hkj hk hj (C:=itI R cs (S1++S2) x) ?_ ?_ (λb hb=>f7.1 hb)
 ·subst hR;exact ⟨[v1,v2],hcs.symm,by rw [hx];exact ⟨[v1],[v2],S1,S2,rfl,rfl,hd,o1,o2⟩⟩
 ·exact j7.2 ⟨h.nd k _ hk,h.nd j _ hj,λa ha b hb e=>by subst e;exact hd a ha hb⟩
theorem St.nRows{R:Rp α}{xs:List α}{enc:β->List Value}(h:St w0 S0 w L)(j:Nat)(hj:L[j]? =some (nI T R v S xs none))(g:β->α)(G:β->Prop)
  (he:∀r,(enc r).length=R.sz) (hd:∀w cs S' x,R.own w cs S' x->S'=[]/\∃r,g r=x/\enc r=cs/\G r):∃rs:List β,rs.map g=xs/\(∀r∈rs,G r)/\St w0 S0 w (L.set j (qh v T enc R.sz rs)):=by
 obtain ⟨css,Ss,hn⟩:=h.all j _ hj
 obtain ⟨rs,hl,hp⟩:=GI (P:=λt r=>xs[t]? =some (g r)/\css[t]? =some (enc r)/\G r) xs.length λt ht=>by
  have h1:t<css.length:=by rw [hn.lc];exact ht
  have h2:t<Ss.length:=by rw [hn.ls];exact ht
  obtain ⟨_,r,e1,e2,e3⟩:=hd _ _ _ _ (hn.own t css[t] Ss[t] xs[t] (λ_ e=>by cases e) (zeg h1) (zeg h2) (zeg ht));exact ⟨r,by rw [e1];exact zeg ht,by rw [e2];exact zeg h1,e3⟩
 have hm:rs.map g=xs:=by
  refine l8 λt=> ?_
  rw [p9];cases ht:rs[t]? with
  |some r=>exact (hp t r ht).1.symm
  |none=>
   have:rs.length<=t:=by simpa using ht
   exact (Qv (by omega)).symm
 have hm2:rs.map enc=css:=by
  refine l8 λt=> ?_
  rw [p9];cases ht:rs[t]? with
  |some r=>exact (hp t r ht).2.1.symm
  |none=>
   have:rs.length<=t:=by simpa using ht
   exact (Qv (by have:=hn.lc;omega)).symm
 have hz:Ss.flatten=[]:=by
  rw [List.flatten_eq_nil_iff];intro S' hS';obtain ⟨t,ht⟩:=w7 hS';have h2:t<Ss.length:=(zes.1 ht).1;have h0:t<xs.length:=by rw [<- hn.ls];exact h2
  have h1:t<css.length:=by rw [hn.lc];exact h0
  exact (hd _ _ _ _ (hn.own t css[t] S' xs[t] (λ_ e=>by cases e) (zeg h1) ht (zeg h0))).1
 refine ⟨rs,hm,λr hr=>by obtain ⟨t,ht⟩:=w7 hr;exact (hp t r ht).2.2,h.turn j hj ?_ ?_⟩
 ·have:=hn.row;show dP w T R.sz v rs.length (jZ enc rs);rw [hl,<- nK he,hm2];exact this
 ·show (di v).toList=S;rw [hn.hS,hz,i6]
theorem St.nOfRows{enc:β->List Value}{rs:List β}(R:Rp α)(h:St w0 S0 w L)(j:Nat)(hs:sz=R.sz)(hj:L[j]? =some (qh v T enc sz rs))(g:β->α)(he:∀r,(enc r).length=sz)(hd:∀r∈rs,R.own w (enc r) [] (g r)):
  St w0 S0 w (L.set j (nI T R v (di v).toList (rs.map g) none)):=by
 subst hs;have hr:=h.all j _ hj;have hz:(List.replicate rs.length ([]:List Nat)).flatten=[]:=by rw [List.flatten_eq_nil_iff];intro l hl;exact (List.mem_replicate.1 hl).2
 refine h.turn j hj ⟨rs.map enc,List.replicate rs.length [],?_,by simp,by simp,by rw [hz,i6],dN,(λ_ _ e=>by cases e),λi cs S' x _ hc hS hx=> ?_⟩ rfl
 ·rw [nK he,p5];exact hr
 ·rw [p9] at hc hx;cases hri:rs[i]? with
  |none=>rw [hri] at hc;cases hc
  |some r=>
   rw [hri] at hc hx;cases hc;cases hx;obtain rfl:S'=[]:=(List.mem_replicate.1 (zmg hS)).2;exact hd r (zmg hri)
theorem St.asRaw{enc:β->List Value}{rs:List β}(h:St w0 S0 w L)(j:Nat)(hj:L[j]? =some (qh v T enc sz rs))(he:∀r,(enc r).length=sz):St w0 S0 w (L.set j (qh v T (fit sz) sz (rs.map enc))):=by
 refine h.turn j hj ?_ rfl;show dP w T sz v (rs.map enc).length (jZ (fit sz) (rs.map enc));rw [p5,nK he];exact h.all j _ hj
theorem Jh{R:Rp α}(w:World):(pU R [] [] []).Φ w:=⟨rfl,rfl,λi cs S x hc=>by simp at hc⟩
theorem St.bchNew(R:Rp α)(h:St w0 S0 w L):St w0 S0 w (L++[pU R [] [] []]):=
 h.push (x2 _ _) (Jh w) (λb hb=>by simp [pU] at hb) (by simp [pU])
theorem St.bchOn{R:Rp α}{css:List (List Value)}{Ss:List (List Nat)}{xs:List α}{cs:List Value}{x:α}(h:St w0 S0 w L)(k j:Nat)(hkj:Nat.beq k j=false)(hk:L[k]? =some (pU R css Ss xs))(hj:L[j]? =some (itI R cs S x)):
  St w0 S0 w ((L.set k (pU R (css++[cs]) (Ss++[S]) (xs++[x]))).set j nilI):=by
 have hne:k≠j:=p7 hkj;have h1:=h.bchOne j hj;have hlj:j<L.length:=(zes.1 hj).1;have h2:=h1.bchApp k j hkj (by rw [z9 (λe=>hne e.symm)];exact hk) (ya hlj)
 have e:((L.set j (pU R [cs] [S] [x])).set k (pU R (css++[cs]) (Ss++[S]) (xs++[x]))).set j nilI=(L.set k (pU R (css++[cs]) (Ss++[S]) (xs++[x]))).set j nilI:=by
  rw [List.set_comm _ _ (λe=>hne e.symm),y9]
 rw [e] at h2;exact h2
end
theorem uQ(h:xs[i]? =some x):Sx.idx xs (i:Int)=some x:=by
 have h1:i<xs.length:=(zes.1 h).1;unfold Sx.idx;rw [d6 (by omega)]
 simpa using h
theorem sj(h:xs[i]? =some x):xs.take (i+1)=xs.take i++[x]:=by
 rw [List.take_add_one,h];rfl
theorem GJ{ys:List α}(h:xs.drop i=ys.drop i):xs[i]? =ys[i]? :=by
 have:=congrArg (·[0]?) h
 simpa [List.getElem?_drop] using this
theorem Ao{ys:List α}(h:xs.drop i=ys.drop i):(xs.set i a).drop (i+1)=ys.drop (i+1):=by
 rw [List.drop_set_of_lt (by omega)];have:=congrArg (List.drop 1) h
 simpa [yp,Nat.add_comm] using this
theorem rG{β:Type}{g:α->β}{b:α}(h:xs[i]? =some b)(e:g a=g b):(xs.set i a).map g=xs.map g:=by
 rw [ym,e];refine l8 λt=> ?_
 rw [y8];split
 ·rename_i h1
  subst h1;have:i<(xs.map g).length:=by rw [p5];exact (zes.1 h).1
  rw [d6 this,p9,h];rfl
 ·rfl
theorem Ap(h:i<xs.length):(xs.set i a).take (i+1)=xs.take i++[a]:=by
 rw [sj (x:=a) (by rw [ya h]),List.take_set_of_le (r7 i)]
end
open Go.ChangeShapes Go.WideShapes Go.ChangeAt Go.RowKit
theorem tX{C:Checked}{os:Os}{f:FuncId}{fn:Func}{s:ChangeSpec}{K:(H:Type)->List (DataW H)->Bool}{F:Stop.Interp}{conds:List PathCond}{laid:List (String×DataW Unit)}{tb:TypeId}(H:Type)(enc:TypeId×Value->H)
  (own:ownKnob C.prog.godebug=none) (started:os.Started) (noInit:C.prog.inits.idxOf? f=none) (hfn:C.prog.funcs[f]? =some fn)
  (witness:∃(w:World)(tape:Tape)(i:Input),w.os=os/\(w.forCall tape i).Shaped C.prog/\i.vars=[]/\Input.okWide C.prog (w.forCall tape i) .any w.heap.size f i/\
   ({OpenSpec.ofChange s with cond:=some K}:OpenSpec).preRow enc C.prog fn conds false laid (w.forCall tape i).memory i.args/\({}:Assume).holds C.prog (lone (Frame.enter C.prog f i.args .normal) [] (w.forCall tape i)))
  (laidOut:laidOutB C.prog=true) (hvars:s.vars=[]) (hts:fn.params.toList.all (λt=>C.prog.readableRec t&&decide (t<C.prog.types.size))=true)
  (hrt:fn.resultTypes= #[tb]) (htb:C.prog.underlying tb=some .bool)
  (hres:∀(ds:List (DataW H)),ds.length=fn.params.toList.length->(s.fn H (ds++[])).results=[.lit (.bool true)]/\(s.fn H (ds++[])).args=ds/\(s.fn H (ds++[])).vars=[])
  (contract:∀(W:World)(base:Nat)(args:Array Value)(ds:List (DataW H))(ps:List MemPlace),laidMetH C.prog laid W->W.ShapedOpen C.prog->K H ds=true->
   (∀(j:Nat) t v,fn.params[j]? =some t->args[j]? =some v->Value.okWide C.prog W .any base t v)->
   DataW.TrodAll enc C.prog W 0 (λ_=>true) true fn.params.toList args.toList ds ps->(∀n∈DataW.weightsEach C.prog fn.params.toList ds,n<=reachBytes)->
   Calls C.prog f args W λe W'=>e=.returned (.bool true)/\Chg [] W W'):
  ReturnsInHanded {} C os f .any (({OpenSpec.ofChange s with cond:=some K}:OpenSpec).preRow enc C.prog fn conds false laid) ((({OpenSpec.ofChange s with cond:=some K}:OpenSpec).at F).post enc C.prog fn false true false false):=by
 refine returnsInHanded_of_row (s:={OpenSpec.ofChange s with cond:=some K}) own started noInit hfn witness ?_;intro W base args ds gs before hval hW _ hK hsz hL hsh _;have hK:=hK K rfl;have hW':=hW;obtain ⟨p,q,hA,hV,rfl,_,_⟩:=hW;have hV':DataW.TrodVars enc C.prog W (λ_=>true) s.vars gs q:=hV;rw [hvars] at hV';obtain ⟨rfl,rfl⟩:=trodVars_none hV';rw [i6] at hK
 have hw:∀n∈DataW.weightsEach C.prog fn.params.toList ds,n<=reachBytes:=by
  intro n hn
  have:n∈DataW.weightsEach C.prog (fn.params.toList++(OpenSpec.ofChange s).bare.plain.varTypes C.prog) (ds++[]):=by
   rw [i6];exact lj (mQ hA) hn
  have h2:=x7.1 hsz n this
  simpa using h2
 refine (contract W base args ds p hL hsh hK hval hA hw).mono λe W' ⟨he,hc⟩=> ?_
 subst he;have hb:=hc.below;have hlt:∀x∈p,x.block<W.heap.size:=λx hx=>hW'.lt x (zal _ hx)
 obtain ⟨r1,r2,r3⟩:=hres ds (mQ hA);refine ⟨_,rfl,?_⟩;show s.post enc C.prog fn false true false false W args _ W';refine ⟨ds,[],p++[],[]++[],p,[],hW',?_,?_,?_,hb.frame _,λh=>by cases h⟩
 ·rw [r1,hrt];exact GH htb
 ·rw [r2];exact nJ laidOut hb hts hA hlt
 ·rw [r3,hvars];rfl
end Go.Sx
namespace Go.Proofs.YtplmgfkghomelaaGreatDoor
theorem EE{H:Type}:∀(l:List (DataW H)),l.length<=Rows.uptoBulkAll l
 |[]=>Nat.zero_le _
 |d::r=>by
  have h1:=EE r
  have h2:1<=Rows.uptoBulk d:=by
   unfold Rows.uptoBulk;split<;>omega
  simp only [Rows.uptoBulkAll,t6];omega
theorem EF{H:Type}:∀{ds:List (DataW H)} {i:Nat} {d:DataW H},ds[i]? =some d->Rows.uptoBulk d<=Rows.uptoBulkAll ds
 |[],i,d,h=>by simp at h
 |a::r,0,d,h=>by
  simp at h;subst h;simp only [Rows.uptoBulkAll];omega
 |a::r,i+1,d,h=>by
  have:=EF (i:=i) (ds:=r) (by simpa using h);simp only [Rows.uptoBulkAll];omega
open Go.Sx Go.ChangeShapes Go.WideShapes Go.ChangeAt Go.RowKit
variable {α:Type} {P:Program} {D:World->List Nat->α->List Value->Prop} {G:α->Prop}
theorem EG{H:Type}{l:List (DataW H)}{d:DataW H}(h:d∈l):Rows.uptoBulk d<=Rows.uptoBulkAll l:=by
 obtain ⟨i,hi⟩:=w7 h;exact EF hi
def ie(P:Program)(t:TypeId)(D:World->List Nat->α->List Value->Prop)(G:α->Prop):Prop:=
 ∀(H:Type)(enc:TypeId×Value->H)(w:World)(base:Nat)(spare:Nat->Bool)(held:Bool)(fuel:Nat)(cs:List Value)(x:DataW H×List MemPlace),
  DataW.trod enc P w base spare held fuel t cs=some x->(∀n∈x.1.weights P t,n<=reachBytes)->Rows.uptoBulk x.1<=1048576->∃a,D w [] a cs/\G a
theorem ie.of{t:TypeId}(h:Dec P t D G):ie P t D G:=λH enc w base spare held fuel cs x hx hw _=>h H enc w base spare held fuel cs x hx hw
theorem ie.mono{t:TypeId}{D':World->List Nat->α->List Value->Prop}{G':α->Prop}(h:ie P t D G)(hD:∀w a cs,D w [] a cs->D' w [] a cs)(hG:∀a,G a->G' a):ie P t D' G':=by
 intro H enc w base spare held fuel cs x hx hw hk;obtain ⟨a,h1,h2⟩:=h H enc w base spare held fuel cs x hx hw hk;exact ⟨a,hD _ _ _ h1,hG _ h2⟩
theorem ie.sliceN{t e:TypeId}{sz bytes:Nat}(hd:ie P e D G)(hu:P.underlying t=some (.slice e))(hc:P.cellsOf e=sz)(hsz:0<sz)(hb:P.bytesOf e=bytes):
  ie P t (λw S (xs:List α) cs=>∃v,cs=[v]/\RdN w S v D sz xs) (λxs=>(xs.length*bytes<=reachBytes/\∀x∈xs,G x)/\xs.length<=1048575):=by
 intro H enc w base spare held fuel cs x h hw hk;rcases Go.Deep.open_slice hu h with ⟨rfl,rfl⟩|⟨a,len,cap,m,n,Dt,Pl,rfl,_,hl,hm,rfl,rfl,hx⟩
 ·exact ⟨[],⟨_,rfl,by simp,none,0,rfl,by simp,λt x hx=>by simp at hx⟩,⟨by simp,λx hx=>absurd hx znm⟩,by simp⟩
 rw [hc] at hx;have hle:len<=(if spare a.block then cap else len):=by split<;>omega
 unfold DataW.weights at hw;simp only [hu] at hw
 obtain ⟨xs,hxl,hxs⟩:=se (p:=λi y=>G y/\∃cs,D w [] y cs/\w.cells? base (a.add (i*sz)) sz=some cs) len (λi hi=>by
  obtain ⟨cs,h1,h2⟩:=hx i (by omega)
  obtain ⟨y,hD,hG⟩:=hd H enc w base spare held n cs _ h2 (λk hk=>hw k (zcm _ (zal _ (nG (d:=Dt i) (yn.2 ⟨i,by simpa using hi,rfl⟩) k hk)))) (by
   have h9:=EG (d:=Dt i) (l:=(List.range len).map Dt) (yn.2 ⟨i,by simpa using hi,rfl⟩);simp only [Rows.uptoBulk] at hk;show Rows.uptoBulk (Dt i)<=_;omega)
  exact ⟨y,hG,cs,hD,h1⟩)
 have h0:=hw _ zcs;simp only [p5,List.length_range,hb] at h0
 have hkl:len<=1048575:=by
  have h9:=EE ((List.range len).map Dt);rw [p5,List.length_range] at h9;simp only [Rows.uptoBulk] at hk;omega
 have hlb:len*bytes<=reachBytes:=t5 (p6 _ (by omega)) h0;refine ⟨xs,⟨_,rfl,?_,some a,cap,by rw [hxl],by rw [hxl];exact hl,λi y hy=> ?_⟩,⟨by rw [hxl];exact hlb,λy hy=> ?_⟩,by rw [hxl];exact hkl⟩
 ·unfold maxLen at hm;omega
 ·obtain ⟨_,cs,hD,hcs⟩:=hxs i y hy;have hi:i<len:=by have:=(zes.1 hy).1;omega
  have hsp:a.spot=none:=by
   obtain ⟨cs0,h1,_⟩:=hx 0 (by omega);obtain ⟨hl0,hc0⟩:=cells?_at h1;have:=hc0 0 cs0[0] (zeg (by omega));rw [Nat.zero_mul] at this
   simpa [Addr.add] using World.cell?_spot this
  refine ⟨cs,hD,a.block,a.off,?_,by simp,λf u hu=> ?_⟩
  ·obtain ⟨b,o,s⟩:=a;cases hsp;rfl
  ·have:=(cells?_at hcs).2 f u hu;rw [L3 hsp] at this;exact this
 ·obtain ⟨i,hi⟩:=List.mem_iff_getElem?.1 hy;exact (hxs i y hi).1
theorem ie.slice{α:Type}{P:Program}{t e:TypeId}{enc:α->List Value}{G:α->Prop}{sz bytes:Nat}(hd:ie P e (λ_ _ a cs=>cs=enc a) G)(hu:P.underlying t=some (.slice e))(hc:P.cellsOf e=sz)(hsz:0<sz)(hb:P.bytesOf e=bytes):
  ie P t (λw S (xs:List α) cs=>∃v,cs=[v]/\Rd w S v enc sz xs) (λxs=>(xs.length*bytes<=reachBytes/\∀x∈xs,G x)/\xs.length<=1048575):=by
 refine (ie.sliceN hd hu hc hsz hb).mono ?_ (λ_ h=>h);rintro w xs cs ⟨v,rfl,h1,a,c,rfl,hlc,h2⟩;refine ⟨_,rfl,h1,a,c,rfl,hlc,λt x f u hx hu=> ?_⟩;obtain ⟨cs,rfl,b,o,h3,h4,h5⟩:=h2 t x hx;exact ⟨b,o,h3,h4,h5 f u hu⟩
theorem ie.struct{P:Program}{t:TypeId}{fs:Array Field}{H:Type}{enc:TypeId×Value->H}{w:World}{base:Nat}{spare:Nat->Bool}{held:Bool}{fuel:Nat}{cs:List Value}{x:DataW H×List MemPlace}
  (hu:P.underlying t=some (.struct fs)) (h:DataW.trod enc P w base spare held fuel t cs=some x) (hw:∀n∈x.1.weights P t,n<=reachBytes) (hk:Rows.uptoBulk x.1<=1048576):
  cs.length=P.cellsOf t/\∀(α:Type)(D:World->List Nat->α->List Value->Prop)(G:α->Prop)(i:Nat)(f:Field),fs[i]? =some f->ie P f.type D G->∃a,D w [] a ((cs.drop f.offset).take (P.cellsOf f.type))/\G a:=by
 obtain ⟨xs,n,_,rfl,hl,hlen,hf⟩:=DataW.trod_struct hu h;refine ⟨hl,λα D G i f hi hd=> ?_⟩;have h1:=hf i f hi;have hil:i<xs.length:=by have:=(x6.1 hi).1;omega
 rw [zeg hil] at h1;unfold DataW.weights at hw;simp only [hu] at hw;refine hd H enc w base spare held n _ _ h1 (λk hk=>hw k (iu (i:=i) (t:=f.type) (d:=xs[i].1) ?_ ?_ k hk)) ?_
 ·rw [p9,QB,hi];rfl
 ·rw [p9,zeg hil];rfl
 ·simp only [Rows.uptoBulk] at hk;have:=EG (d:=xs[i].1) (l:=xs.map (·.1)) (yn.2 ⟨xs[i],yg hil,rfl⟩);omega
theorem ie.parts{t:TypeId}{L:List (TypeId×Nat×Nat)}{H:Type}{enc:TypeId×Value->H}{w:World}{base:Nat}{spare:Nat->Bool}{held:Bool}{fuel:Nat}{cs:List Value}{x:DataW H×List MemPlace}
  (hu:O7 P t=L) (hne:L≠ []) (h:DataW.trod enc P w base spare held fuel t cs=some x) (hw:∀n∈x.1.weights P t,n<=reachBytes) (hk:Rows.uptoBulk x.1<=1048576):
  cs.length=P.cellsOf t/\∀(α:Type)(D:World->List Nat->α->List Value->Prop)(G:α->Prop)(i T o c:Nat),L[i]? =some (T,o,c)->ie P T D G->∃a,D w [] a ((cs.drop o).take c)/\G a:=by
 unfold O7 at hu;split at hu
 ·rename_i fs hfs
  obtain ⟨h1,h2⟩:=ie.struct hfs h hw hk;refine ⟨h1,λα D G i T o c hi hd=> ?_⟩;rw [<- hu,p9,QB] at hi;cases hf:fs[i]? with
  |none=>rw [hf] at hi;cases hi
  |some f=>
   rw [hf] at hi;cases hi;exact h2 α D G i f hf hd
 ·exact absurd hu.symm hne
theorem wO{H:Type}{enc:TypeId×Value->H}{w:World}{base:Nat}{spare:Nat->Bool}{held:Bool}{t:TypeId}{ts:List TypeId}{vs:List Value}{ds:List (DataW H)}{ps:List MemPlace}
  (h:DataW.TrodAll enc P w base spare held (t::ts) vs ds ps) (hw:∀n∈DataW.weightsEach P (t::ts) ds,n<=reachBytes) (hk:Rows.uptoBulkAll ds<=1048576):
  ∃v vs' ds' ps',vs=v::vs'/\(∀(α:Type)(D:World->List Nat->α->List Value->Prop)(G:α->Prop),ie P t D G->∃a,D w [] a v.cells.toList/\G a)/\
   DataW.TrodAll enc P w base spare held ts vs' ds' ps'/\(∀n∈DataW.weightsEach P ts ds',n<=reachBytes)/\Rows.uptoBulkAll ds'<=1048576:=by
 cases vs with
 |nil=>exact h.elim
 |cons v vs=>
  cases ds with
  |nil=>exact h.elim
  |cons d ds=>
   obtain ⟨p,q,⟨fuel,h1⟩,h2,rfl⟩:=h;unfold DataW.weightsEach at hw;simp only [Rows.uptoBulkAll] at hk;exact ⟨v,vs,ds,q,rfl,λα D G hd=>hd H enc w base spare held fuel _ _ h1 (λn hn=>hw n (zal _ hn)) (by show Rows.uptoBulk d<=_;omega),h2,λn hn=>hw n (zar _ hn),by omega⟩
end Go.Proofs.YtplmgfkghomelaaGreatDoor
set_option maxRecDepth 10000
namespace Go.Sx
theorem wk{ρ:Type}{P:Program}{N:Nat}{c:Code}{f:Option ρ}{k:FuncId}{args:List Value}{Fs:List Fa}{L:List Item}{R:World->List Nat->ρ->Ending->World->Prop}{fn:Func}(hf:P.funcs[k]? =some fn)(hs:List H)
  (hb:fn.body=some c:=by rfl) (hN:fn.ntmps=N:=by rfl) (hz:Nat.ble args.length N=true:=by kernel_rfl)
  (n:∀w0 Z r,GC hs f r Fs L (pN 0 args) P fn N w0 Z c (bodyPost P fn (R w0 Z r)):=by
   repeat' (first
    |exact rfl
    |(refine KR.mk ?_;kernel_rfl)
    |((fail_if_success (fail_if_success (apply GO.here)));first|(refine GO.fo (by exact rfl) (λ_=>by exact rfl) ?_;intro _ _ e;subst e)|(refine GO.fO (by exact rfl) (λ_=>by exact rfl) (λ_=>by exact rfl) ?_;intro _ _ e;subst e)|(refine GO.fx (by assumption) ?_)|apply GO.clr|apply GO.ci|apply GO.p|apply GO.k|apply GO.km|apply GO.kv|apply GO.nil|apply GO.nx|apply GO.ca|apply GO.bi|apply GO.bo|apply GO.st|apply GO.al|apply GO.bx|apply GO.sp|apply GO.ad|apply GO.sr|apply GO.rw|apply GO.ap|apply GO.mkS|apply GO.be|apply GO.bt|apply GO.sa|apply GO.sra|apply GO.srw|apply GO.spa|apply GO.sp1|apply GO.co|apply GO.ce|apply GO.cn|apply GO.il|apply GO.bd|apply GO.bn|apply GO.sn|apply GO.an|apply GO.ly|apply GO.lyx|apply GO.mN|apply GO.sg|apply GO.sx|apply GO.cp|apply GO.pw|apply GO.nd|apply GO.bxe|apply GO.ste|apply GO.vb|apply GO.mnN|apply GO.mlP|apply GO.mlR|apply GO.mq|apply GO.mh|apply GO.md|apply GO.ll|apply GO.nl|apply GO.bj)
    |((fail_if_success (fail_if_success (apply GQ.here)));first|(refine GQ.fx (by assumption) ?_)|apply GQ.mt|apply GQ.ms|apply GQ.bk|apply GQ.bg|apply GQ.next|apply GQ.then_ret|apply GQ.block_ret|apply GQ.then_exit|apply GQ.block_here|apply GQ.block_normal|apply GQ.block_on|apply GQ.rt|apply GQ.pop|apply GQ.popN|apply GQ.rc1|apply GQ.rc2|apply GQ.rc3|apply GQ.re|apply GQ.r0|apply GQ.ad|apply GQ.rn|apply GQ.rs|apply GQ.ri|apply GQ.nd|apply GQ.nl|apply GQ.nm|apply GQ.rI)
    |((fail_if_success (fail_if_success (apply GC.here)));first|(refine GC.fx (by assumption) ?_)|apply GC.dk|apply GC.ds|apply GC.dn|apply GC.ad|apply GC.seq|apply GC.block|apply GC.skip|apply GC.exit|apply GC.ret|apply GC.ck|apply GC.cs|apply GC.scB|apply GC.scC|apply GC.rgB|apply GC.plB|apply GC.br|apply GC.lb|apply GC.lc|apply GC.ct|apply GC.cf|apply GC.lg|apply GC.be|apply GC.nb|apply GC.stB|apply GC.tlB|apply GC.nl|apply GC.nm)
    |((fail_if_success (fail_if_success (apply GP.here)));first|(refine GP.fp (by exact rfl) (λ_ _ _ _=>by exact rfl) ?_;intro _ _ _ _ e;first|subst e|(generalize (‹(Nat×List Nat)×Value×List Nat›).2.1=u at e |-;subst e))|(refine GP.fO (by exact rfl) (λ_=>by exact rfl) (λ_=>by exact rfl) ?_;intro _ _ e;subst e)|(refine GP.fx (by assumption) ?_)|apply GP.p|apply GP.l1|apply GP.lm|apply GP.lv|apply GP.ac|apply GP.a2|apply GP.fin|apply GP.sp|apply GP.bi|apply GP.bo|apply GP.ad|apply GP.be|apply GP.bn|apply GP.bj|apply GP.bl)
    |((fail_if_success (fail_if_success (apply GS.here)));first|(refine GS.fx (by assumption) ?_)|apply GS.sp|apply GS.ad|apply GS.be|apply GS.p|apply GS.k|apply GS.km|apply GS.kv|apply GS.bi|apply GS.bo|apply GS.fin|apply GS.on|apply GS.bn)
    |(apply GC.dg;intro _ _ _ _ _)
    |intro _
    |(apply Nf.mk;(try dsimp only);(try exact rfl))
    |((fail_if_success (fail_if_success (apply Giv.here)));first|apply Giv.nil|apply Giv.rf|apply Giv.ro|apply Giv.rn|apply Giv.rb|apply Giv.rc|apply Giv.bj|apply Giv.bq|apply Giv.ru|apply Giv.dn|apply Giv.oN|apply Giv.po|apply Giv.sv|apply Giv.oi|apply Giv.fi|apply Giv.ov)
    |((fail_if_success (fail_if_success (apply LkV.here)));first|apply LkV.ix|apply LkV.qu|apply LkV.re|apply LkV.hl|apply LkV.hr|apply LkV.si|apply LkV.ad|apply LkV.sq|apply LkV.sn|apply LkV.cp|apply LkV.cu|apply LkV.cf|apply LkV.sA|apply LkV.sU|apply LkV.nz|apply LkV.al|apply LkV.af|apply LkV.at|apply LkV.pn|apply LkV.sw)
    |((fail_if_success (fail_if_success (apply Adm.here)));first|apply Adm.nn|apply Adm.o0|apply Adm.s0|apply Adm.kp|apply Adm.nr|apply Adm.op|apply Adm.opk|apply Adm.sh|apply Adm.fp|apply Adm.fu|apply Adm.pt|apply Adm.no|apply Adm.nb|apply Adm.nb0s|apply Adm.nb0|apply Adm.shx|apply Adm.shw|apply Adm.ctr|apply Adm.nc|apply Adm.nd|apply Adm.s0x|apply Adm.ne|apply Adm.mb0|apply Adm.mb0r|apply Adm.mb|apply Adm.mbf|apply Adm.mbp|apply Adm.oi|apply Adm.sfN|apply Adm.sfx|apply Adm.tp)
    |((fail_if_success (fail_if_success (apply jh.here)));first|apply jh.dep|apply w9|apply jh.row|apply jh.nrow|apply jh.ptr|apply jh.bor|apply jh.any|apply jh.st|apply jh.len|apply jh.gho|apply jh.rdn|apply jh.mapn)
    |((fail_if_success (fail_if_success (apply qS.here)));first|apply qS.dep|apply qS.on|apply qS.os|apply qS.pair|apply qS.row|apply qS.nrow|apply qS.rdn|apply qS.bor|apply qS.prn|apply qS.pb|apply qS.mapn|apply qS.it|apply qS.st|apply qS.len|apply qS.rdn|apply qS.gho)
    |apply BP.nil
    |apply BP.kq
    |apply BP.c1
    |apply BP.n1
    |apply Ex.u
    |apply Ex.p
    |apply Ln.s
    |apply Ln.t
    |apply Ln.k
    |apply Sim.nil
    |apply Sim.part
    |apply Sim.blk
    |apply Sim.row
    |apply Sim.itU
    |apply Sim.nrow
    |apply Sim.nrowH
    |apply Sim.pool
    |apply RV.t
    |apply RV.cN
    |apply IU.nil
    |apply Bn.f1
    |apply Bn.oo
    |apply Bn.l1
    |apply Bn.r1
    |apply Bn.n1
    |apply Bn.d1
    |apply Bn.c1
    |apply LQ.sf
    |apply LQ.so
    |apply CF.b1
    |apply Jd.nil
    |apply Jd.u
    |apply CF.o1
    |apply CF.p1
    |apply CF.r1
    |apply LvR.c1
    |apply LvR.nil
    |apply BR.nil
    |apply BR.b
    |apply BR.p
    |apply BR.t
    |apply DR.nil
    |apply DR.consS
    |apply DR.cons
    |apply Sim.sit
    |apply KT.nil
    |apply KT.cons
    |(apply Pw.mk;apply_assumption)
    |(apply NQ.mk;apply_assumption)
    |(apply NM.mk;apply_assumption)
    |(apply PV.mk;intro h wb Sb;apply (h wb Sb))
    |apply Cel.ld
    |apply Cel.le
    |apply Cel.lr
    |apply Cel.cc
    |apply Cel.ca
    |apply Cel.ce
    |apply Cel.nh
    |apply pB.lE
    |apply pB.lN
    |apply pB.lR
    |apply pB.cN
    |apply pB.cA
    |apply pB.ce
    |apply pB.nH
    |apply au.row
    |apply au.nrow
    |apply au.any
    |apply au.ptr
    |apply au.bor
    |apply au.rdn
    |apply au.len
    |apply au.gho
    |apply au.dep
    |apply au.pair
    |apply au.st
    |apply nu.row
    |apply nu.pair
    |apply nu.st
    |apply ns.row
    |apply ns.st
    |apply ns.pair)):Nt P k args Fs L f R:=Nt.start hs hf hb hN ⟨hz⟩ n
end Go.Sx
