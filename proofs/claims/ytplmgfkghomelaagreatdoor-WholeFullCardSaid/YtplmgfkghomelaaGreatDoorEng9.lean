/- Lemmas. -/
import Derived.Test.YtplmgfkghomelaaGreatDoorIns
import Derived.Deep.Draws
import Derived.Lib.OthersKept
import Derived.Lib.Join
import Derived.Lib.ItoaNum
import Derived.Lib.LaidTab
import Derived.Lib.ParseIntB
import Derived.Lib.SplitLaws
import Derived.Lib.AtoiErrMem
import Derived.Stop.IfaceNil
set_option linter.unusedVariables false
set_option linter.unusedSimpArgs false
namespace Go.Sx
section
section
section
open Go.RowKit
variable {S:List Nat} {α:Type} {q:Nat} {rest js:List Nat} {ks:List Pa} {Lr:List Item} {L1:List Nat->List Item} {kk:Int} {R:Rp α} {m:List (Int×α)}
section
variable {β:Type} {q:Nat} {Fs:List Fa} {L:List Item}
theorem jn.mapn{R:Rp β}:jn [5] q Fs (Jc R) (λ(i:Nat×List Nat)_=>[.map (some i.1)]) (λi y=>[mN i.1 R i.2 y none]) (λ_ _=>[]):=⟨by
 intro w0 Z w cs S y a ho;have hn:=(Jc R).nd w cs S y ho;obtain ⟨r,rfl,h⟩:=ho;exact ⟨(r,S),rfl,ak.single (it:=mN r R S y none) h hn rfl,trivial⟩⟩
theorem qK.mapn{j r:Nat}{R:Rp β}{m:List (Int×β)}(hj:nth L j=some (mN r R S m none)):qK [.r j] Fs L (Jc R) [j] [.map (some r)] m:=qK.item hj λw ho=>⟨r,rfl,ho⟩
end
section
variable {ρ:Type} {h:LH} {hs hs' hs1 hs2:List H} {f:Option ρ} {r:ρ} {Fs Fs':List Fa} {L L':List Item} {fr:Fr} {P:Program} {B:Func} {N:Nat} {w0:World} {Z:List Nat} {c x y:Code} {Q:Exit->Act->World->Prop} {l:List Oper} {i:Nat} {e:Exit} {v:Value}
theorem ak.nilI{w:World}{S:List Nat}{B:List Item}(h:ak w S B):ak w S (nilI::B):=ak.cons trivial l8 (λb hb=>by cases hb) (S2:=S) (λb hb=>by cases hb) h (λb hb=>hb)
theorem Adm.ne{α ι:Type}{j q e g o:Nat}{ks:List Nat}{T:TypeId}{R:Rp α}{v':Value}{S:List Nat}{xs xs':List α}{t:Int}{x:α}{vs:ι->α->List Value}{its:ι->α->List Item}{fcs:ι->α->List Fa}{Lq L1:ι×List Nat->List Item}{Fs1:ι×List Nat->List Fa}
  (hq:nth Fs q=some (.el v' g o t xs x)) (hj:nth L j=some (nI T R v' S xs' none)) (hxx:KR xs' xs) (hO:jn ks e Fs R vs its fcs) (hN:∀p,dc L j (nI T R v' p.2 xs' (some (t.toNat,vs p.1 x)))=some (Lq p)) (hA:∀p,lw (Lq p) (nilI::its p.1 x)=some (L1 p)) (hF:∀p,lw Fs (fcs p.1 x)=some (Fs1 p)):
  Adm (.ne j q e ks) Fs L L1 Fs1:=⟨λw0 Z w a s=>by
 obtain ⟨hx,c,hv⟩:=zz a hq;have hxx:=hxx.h;subst hxx;have hj':L[j]? =some (nI T R v' S xs' none):=by grind [zP]
 obtain ⟨cs,S1,S2,hl,hce,s2⟩:=s.nout j hj' hx hv;have ho:R.own w cs S2 x:=s2.all L.length (itI R cs S2 x) (by simp);obtain ⟨k,rfl,hp,hf⟩:=hO.o w0 Z w _ _ _ a ho;refine ⟨(k,S1),?_,lI (hF (k,S1)) a hf⟩;rw [bJ (hA (k,S1)),qJ (hN (k,S1))];exact s2.spread hp.nilI⟩
theorem Adm.nb0s{k g o n:Nat}{T:TypeId}{v' v'':Value}{xs xs':List α}{t:Int}{x:α}{cs:List Value}
 (hq:nth Fs q=some (.el v'' g o t xs x)) (hr:fP L rest []=some Lr) (hk:nth Lr k=some (nI T R v' S xs' (some (n,cs)))) (hS:qK (.s::ks) Fs L R js cs x) (hxx:KR xs' xs) (hn:KR n t.toNat) (hd:KR (zQ (js++rest)) true)
 (hL:∀S',dc Lr k (nI T R v' S' xs' none)=some (L1 S')):Adm (.nb0 k q rest (.s::ks)) Fs L L1 (λ_=>Fs):=⟨(Adm.nb0 hq hr hk hS hxx hn ⟨rfl⟩ ⟨rfl⟩ hd hL).o⟩
theorem EC.consS{β:Type}{kss:List (List Pa)}{j1 j2:List Nat}{us:List Value}{css:List (List Value)}{ff:α->List Value->List Value}{sz:Nat}{hl:∀x vs,(ff x vs).length=sz}{g:α->β}{A:Rp β}{y:α}{z:β}{ys:List α}(hR:R=qL ff sz hl g A)(h1:qK ks Fs L A j1 us z)(hy:KR (g y) z)(h2:EC kss Fs L R j2 css ys):EC ((.s::ks)::kss) Fs L R (j1++j2) (ff y us::css) (y::ys):=EC.cons (by subst hR;exact qK.st h1 ⟨rfl⟩ hy) h2
theorem GO.lyx{α:Type}{T:TypeId}{R:Rp α}{rest js:List Nat}{kss:List (List Pa)}{css:List (List Value)}{ys:List α}{Lr:List Item}{L1:Nat->List Nat->List Item}(hS:EC kss Fs L R js css ys)(hr:fP L rest []=some Lr)(hc:KR (rwC l N fr i) (some ys.length))(hm:KR css.length ys.length)(hb:KR (Nat.ble ys.length 9223372036854775807) true)
 (hs:KR (sb fr ((rwP l i).map (·.2))) true) (hv:∀w,KR ((Instr.buildSlice (rwT l i) ys.length ((rwP l i).toArray.map λ(i,x)=>(i,rho fr x))).run P w) (.ok (.slice (some ⟨w.heap.size,0,none⟩) ys.length ys.length) (w.alloc (.cells (jQ (fit R.sz) css).toArray T))))
 (hd:KR (zQ (js++rest)) true) (hL:∀g S',vc Lr (nI T R (.slice (some ⟨g,0,none⟩) ys.length ys.length) S' ys none)=some (L1 g S')) (n:∀g S',GO hs' f r Fs (L1 g S') ((dst l i,.slice (some ⟨g,0,none⟩) ys.length ys.length)::fr) P B N w0 Z l (i+1) Q):GO (.lyx T R rest kss ys::hs') f r Fs L fr P B N w0 Z l i Q:=⟨(GO.ly hS hr hc hm hb hs hv hd hL n).o⟩
def Q5(l:List Oper)(N:Nat)(fr:Fr)(i:Nat):Option TypeId:=match okO l N fr i with
 |some ⟨_,.makeMap t none,_,_,_,_⟩=>some t
 |_=>none
theorem GO.mnN{α:Type}{R:Rp α}{L1:Nat->List Item}(hc:KR (Q5 l N fr i).isSome true)(hL:∀q,vc L (Sx.mN q R [q] ([]:List (Int×α)) none)=some (L1 q))
  (n:∀q,GO hs f r Fs (L1 q) ((dst l i,.map (some q))::fr) P B N w0 Z l (i+1) Q):GO (.mnN R::hs) f r Fs L fr P B N w0 Z l i Q:=⟨λw a s e=>by
 have hc:=hc.h;unfold Q5 at hc;split at hc
 ·rename_i d' t' _ _ _ _ hok
  obtain ⟨d,hl,hg,hd,hN⟩:=jD hok;simp only at hd;subst hd;refine OW.mnewN R s hl hg hN λq w' s'=> ?_
  have h1:=(n q).o w' a (by grind [vI]) e;rw [vl hl rfl] at h1;exact h1
 ·cases hc⟩
def mlC(P:Program)(l:List Oper)(N:Nat)(fr:Fr)(i:Nat):Option (Nat×Int×Bool×Value):=match okO l N fr i with
 |some ⟨_,.lookup t x y two,_,_,_,_⟩=>match look fr x,look fr y,P.underlying t with
  |some (.map (some q)),some (.int .i64 k),some (.map tk te)=>match P.underlying tk,aj P (zeroValue te) with
   |some (.int _),some vz=>some (q,k,two,vz)
   |_,_=>none
  |_,_,_=>none
 |_=>none
theorem wr{k:Int}{two:Bool}{vz:Value}(h:mlC P l N fr i=some (q,k,two,vz)):
  ∃d t x y ty pos af gdd tk te kd,vk l i=some ⟨some d,.lookup t x y two,ty,pos,af,gdd⟩/\gd l fr ⟨some d,.lookup t x y two,ty,pos,af,gdd⟩=some true/\Nat.blt d N=true/\look fr x=some (.map (some q))/\look fr y=some (.int .i64 k)/\P.underlying t=some (.map tk te)/\P.underlying tk=some (.int kd)/\aj P (zeroValue te)=some vz:=by
 unfold mlC at h;split at h
 ·rename_i d' t x y two' ty pos af gdd hok
  split at h
  ·rename_i q' k' tk te hx hy ht
   split at h
   ·rename_i kd vz' hk hz
    simp only [g9,o7] at h;obtain ⟨rfl,rfl,rfl,rfl⟩:=h;obtain ⟨d,hl,hg,hd,hN⟩:=jD hok
    grind
   ·cases h
  ·cases h
 ·cases h
def mlT(l:List Oper)(i:Nat):Bool:=match vk l i with
 |some ⟨_,.lookup _ _ _ two,_,_,_,_⟩=>two
 |_=>false
def mlV(two:Bool)(v:Value)(b:Bool):Value:=match two with
 |true=>.tuple #[v,.bool b]
 |false=>v
theorem GO.mlP{α:Type}{j q:Nat}{k:Int}{two:Bool}{U:TypeId}{A:Rp α}{S:List Nat}{m:List (Int×α)}{Lq:List Nat->Value->List Item}{L1:Value->List Nat->List Nat->List Item}(hj:nth L j=some (Sx.mN q (vC U A) S m none))(h2:Nf (mlT l i) two)(hc:KR (mlC P l N fr i) (some (q,k,two,.pointer none)))
  (hN:∀S1 v,dc L j (Sx.mN q (vC U A) S1 m (some (k,v)))=some (Lq S1 v)) (hL:∀v S1 S2,vc (Lq S1 v) (itI (AD U A) [v] S2 (jB m k))=some (L1 v S1 S2))
  (n:∀v S1 S2,GO hs f r Fs (L1 v S1 S2) ((dst l i,mlV two v (jB m k).isSome)::fr) P B N w0 Z l (i+1) Q):GO (.mlP j k::hs) f r Fs L fr P B N w0 Z l i Q:=⟨λw a s e=>by
 obtain ⟨d,t,x,y,ty,pos,af,gdd,tk,te,kd,hl,hg,hN',hx,hy,ht,hk,hz⟩:=wr hc.h;refine OW.mlook (AD U A) (λo=>o) s j (by rw [<- zP];exact hj) hl hg hN' hx hy ht hk (.pointer none) hz (λ_=>⟨rfl,rfl⟩) (λ_ _ _ _ h=>h) (λ_ _ _ _ h=>h) λv S1 S2 s'=> ?_
 have h1:=(n v S1 S2).o w a (by grind [vI,qJ]) e;rw [vl hl rfl] at h1;cases two<;>exact h1⟩
theorem Sim.mapN{A B:List Item}{m':List (Int×α)}(h2:KR m m')(n:Sim A B):Sim (Go.Sx.mN q R S m none::A) (Go.Sx.mN q R S m' none::B):=⟨by rw [h2.h,n.e]⟩
theorem GS.mlP{α:Type}{j q cc:Nat}{k:Int}{two mm:Bool}{U:TypeId}{A:Rp α}{S:List Nat}{m:List (Int×α)}{Lq:List Nat->Value->List Item}{L1:Value->List Nat->List Nat->List Item}(hj:nth L j=some (Sx.mN q (vC U A) S m none))(h2:Nf (mlT l i) two)(hc:KR (mlC P l N fr i) (some (q,k,two,.pointer none)))(hb:KR (Nat.blt i cc) true)
  (hN:∀S1 v,dc L j (Sx.mN q (vC U A) S1 m (some (k,v)))=some (Lq S1 v)) (hL:∀v S1 S2,vc (Lq S1 v) (itI (AD U A) [v] S2 (jB m k))=some (L1 v S1 S2))
  (n:∀v S1 S2,GS hs f r Fs (L1 v S1 S2) ((dst l i,mlV two v (jB m k).isSome)::fr) P B N w0 Z l (i+1) cc mm Q):GS (.mlP j k::hs) f r Fs L fr P B N w0 Z l i cc mm Q:=⟨λw a s e=>by
 obtain ⟨d,t,x,y,ty,pos,af,gdd,tk,te,kd,hl,hg,hN',hx,hy,ht,hk,hz⟩:=wr hc.h;obtain ⟨v,S1,S2,h0,hml,s'⟩:=s.mlookS (k:=k) (AD U A) (λo=>o) j (by rw [<- zP];exact hj) (.pointer none) (λ_=>⟨rfl,rfl⟩) (λ_ _ _ _ h=>h) (λ_ _ _ _ h=>h)
 have h1:=(n v S1 S2).o w a (by rw [vI (hL v S1 S2),qJ (hN S1 v)];exact s') e
 rw [vl hl rfl] at h1;refine OS.op (v:=mlV two v (jB m k).isSome) hl hb.h hg rfl hN' (λa ha=> ?_) h1;cases two
 ·exact Kh hml rfl hx hy ht hk hz a ha
 ·exact Ki hml rfl hx hy ht hk hz a ha⟩
theorem GO.mlR{α:Type}{j q sz:Nat}{k:Int}{two:Bool}{T:TypeId}{enc:α->List Value}{he:∀x,(enc x).length=sz}{hp:0<sz}{S:List Nat}{m:List (Int×List α)}{Lq:List Nat->Option Addr->Nat->List Item}{L1:List Nat->Option Addr->Nat->List Item}(hj:nth L j=some (Sx.mN q (mU T enc sz he hp) S m none))(h2:Nf (mlT l i) two)(hc:KR (mlC P l N fr i) (some (q,k,two,.slice none 0 0)))
  (hN:∀S1 a c,dc L j (Sx.mN q (mU T enc sz he hp) S1 m (some (k,.slice a ((jB m k).getD []).length c)))=some (Lq S1 a c)) (hL:∀S1 a c,vc (Lq S1 a c) (qi (.slice a ((jB m k).getD []).length c) T enc sz ((jB m k).getD []))=some (L1 S1 a c))
  (n:∀S1 a c,GO hs f r Fs (L1 S1 a c) ((dst l i,mlV two (.slice a ((jB m k).getD []).length c) (jB m k).isSome)::fr) P B N w0 Z l (i+1) Q):GO (.mlR j k::hs) f r Fs L fr P B N w0 Z l i Q:=⟨λw a s e=>by
 obtain ⟨d,t,x,y,ty,pos,af,gdd,tk,te,kd,hl,hg,hN',hx,hy,ht,hk,hz⟩:=wr hc.h;refine OW.mlook (mU T enc sz he hp) (λo=>o.getD []) s j (by rw [<- zP];exact hj) hl hg hN' hx hy ht hk (.slice none 0 0) hz (λw=>⟨_,rfl,rfl,dJ.nil w _ _ none⟩) (λ_ _ _ _ h=>h) (λ_ _ _ _ h=>h) λv S1 S2 s'=> ?_
 have hlen:(L.set j (Sx.mN q (mU T enc sz he hp) S1 m (some (k,v)))).length=L.length:=by simp
 have s2:=s'.toRow1 L.length (by rw [y4 (by simp)];simp;rfl);rw [RH _ _ (by simp)] at s2;simp only [hlen,Nat.sub_self,List.set_cons_zero] at s2;obtain ⟨_,pa,pc,rfl⟩:=s2.len L.length (by rw [y4 (by simp)];simp;rfl);have h1:=(n S1 pa pc).o w a (by grind [vI,qJ]) e;rw [vl hl rfl] at h1;cases two<;>exact h1⟩
def muC(P:Program)(l:List Oper)(fr:Fr)(i:Nat):Option (Nat×Int×Value):=match vk l i with
 |some ⟨none,.mapUpdate t x y z,ty,pos,af,g⟩=>match gd l fr ⟨none,.mapUpdate t x y z,ty,pos,af,g⟩,look fr x,look fr y,look fr z with
  |some true,some (.map (some q)),some (.int .i64 k),some v=>match P.underlying t with
   |some (.map tk _)=>match P.underlying tk with
    |some (.int _)=>some (q,k,v)
    |_=>none
   |_=>none
  |_,_,_,_=>none
 |_=>none
theorem EE{k:Int}{v:Value}(h:muC P l fr i=some (q,k,v)):
  ∃t x y z ty pos af gdd tk te kd,vk l i=some ⟨none,.mapUpdate t x y z,ty,pos,af,gdd⟩/\gd l fr ⟨none,.mapUpdate t x y z,ty,pos,af,gdd⟩=some true/\look fr x=some (.map (some q))/\look fr y=some (.int .i64 k)/\look fr z=some v/\P.underlying t=some (.map tk te)/\P.underlying tk=some (.int kd):=by
 unfold muC at h
 grind
theorem GO.mpG{hh:H}{j:Nat}{k:Int}{ho:Option (Int×Value)}{u:α}{v:Value}
  (hho:∀k' u,ho=some (k',u)->k'=k) (hr:fP L rest []=some Lr) (hk:nth Lr j=some (Sx.mN q R S m ho)) (hS:qK ks Fs L R js [v] u) (hc:KR (muC P l fr i) (some (q,k,v))) (hd:KR (zQ (js++rest)) true)
  (hL:∀S',dc Lr j (Sx.mN q R S' (mput m k u) none)=some (L1 S')) (n:∀S',GO hs f r Fs (L1 S') fr P B N w0 Z l (i+1) Q):GO (hh::hs) f r Fs L fr P B N w0 Z l i Q:=⟨λw a s e=>by
 obtain ⟨t,x,y,z,ty,pos,af,gdd,tk,te,kd,hl,hg,hx,hy,hz,ht,hkk⟩:=EE hc.h;obtain ⟨S2,s2⟩:=gt hS hr hd.h a s;have hk':Lr[j]? =some (Sx.mN q R S m ho):=by grind [zP]
 have hlt:j<Lr.length:=(zes.1 hk').1;refine OW.mputN (S2:=S2) (u:=u) s2 j Lr.length (MR (Nat.ne_of_lt hlt)) (by rw [x9 hlt,hk']) hho (by simp) hl hg hx hy hz ht hkk λS' w' s3=> ?_
 rw [pp hk',RH _ _ (by simp)] at s3;simp at s3;exact (n S').o w' a (by grind [qJ,iW]) e⟩
theorem GO.mq{α:Type}{j q:Nat}{k k':Int}{rest js:List Nat}{ks:List Pa}{R:Rp α}{S:List Nat}{m:List (Int×α)}{u:α}{v v':Value}{Lr:List Item}{L1:List Nat->List Item}
 (hr:fP L rest []=some Lr) (hk:nth Lr j=some (Sx.mN q R S m (some (k',v')))) (hkk:KR k' k) (hS:qK ks Fs L R js [v] u) (hc:KR (muC P l fr i) (some (q,k,v))) (hd:KR (zQ (js++rest)) true)
 (hL:∀S',dc Lr j (Sx.mN q R S' (mput m k u) none)=some (L1 S')) (n:∀S',GO hs f r Fs (L1 S') fr P B N w0 Z l (i+1) Q):GO (.mq j k rest ks::hs) f r Fs L fr P B N w0 Z l i Q:=GO.mpG (λ_ _ e=>by cases e;exact hkk.h) hr hk hS hc hd hL n
def muV(P:Program)(l:List Oper)(fr:Fr)(i:Nat):Value:=match muC P l fr i with
 |some (_,_,v)=>v
 |none=>undef
theorem GO.mh{α:Type}{j q:Nat}{k:Int}{R:Rp α}{S:List Nat}{m:List (Int×α)}{u:α}{L1:List Nat->List Item}
  (hk:nth L j=some (Sx.mN q R S m none)) (hc:KR (muC P l fr i) (some (q,k,muV P l fr i))) (hL:∀S',dc L j (Sx.mN q R S' (mput m k u) (some (k,muV P l fr i)))=some (L1 S')) (n:∀S',GO hs f r Fs (L1 S') fr P B N w0 Z l (i+1) Q):GO (.mh j k u::hs) f r Fs L fr P B N w0 Z l i Q:=⟨λw a s e=>by
 obtain ⟨t,x,y,z,ty,pos,af,gdd,tk,te,kd,hl,hg,hx,hy,hz,ht,hkk⟩:=EE hc.h;refine OW.mputH s j u (by rw [<- zP];exact hk) (λ_ _ e=>by cases e) hl hg hx hy hz ht hkk λS' w' s3=> ?_
 exact (n S').o w' a (by grind [qJ]) e⟩
def mdC(P:Program)(l:List Oper)(fr:Fr)(i:Nat):Option (Nat×Int):=match vk l i with
 |some ⟨none,.call ⟨.builtin .delete,⟨[x,y]⟩,⟨t::ts⟩⟩,ty,pos,af,g⟩=>match gd l fr ⟨none,.call ⟨.builtin .delete,⟨[x,y]⟩,⟨t::ts⟩⟩,ty,pos,af,g⟩,look fr x,look fr y,P.underlying t with
  |some true,some (.map (some q)),some (.int .i64 k),some (.map tk _)=>match P.underlying tk with
   |some (.int _)=>some (q,k)
   |_=>none
  |_,_,_,_=>none
 |_=>none
theorem GO.md{α:Type}{j q:Nat}{k:Int}{R:Rp α}{S:List Nat}{m:List (Int×α)}{L1:List Nat->List Item}(hj:nth L j=some (Sx.mN q R S m none))(hc:KR (mdC P l fr i) (some (q,k)))(hL:∀S',dc L j (Sx.mN q R S' (mdel m k) none)=some (L1 S'))
  (n:∀S',GO hs f r Fs (L1 S') fr P B N w0 Z l (i+1) Q):GO (.md j k::hs) f r Fs L fr P B N w0 Z l i Q:=⟨λw a s e=>by
 have hc:=hc.h;unfold mdC at hc;split at hc
 ·rename_i x y t ts ty pos af g hl
  split at hc
  ·rename_i q' k' tk te hg hx hy ht
   split at hc
   ·rename_i kd hk
    simp only [g9,o7] at hc;obtain ⟨rfl,rfl⟩:=hc;refine OW.mdelN (ats:=t::ts) s j (by rw [<- zP];exact hj) hl hg rfl hx hy ht hk λS' w' s'=> ?_
    exact (n S').o w' a (by grind [qJ]) e
   ·cases hc
  ·cases hc
 ·cases hc⟩
def llC(P:Program)(l:List Oper)(N:Nat)(fr:Fr)(i:Nat):Option Nat:=match okO l N fr i with
 |some ⟨_,.call ⟨.builtin .len,⟨[x]⟩,⟨t::_⟩⟩,_,_,_,_⟩=>match look fr x,P.underlying t with
  |some (.map (some q)),some (.map _ _)=>some q
  |_,_=>none
 |_=>none
theorem GO.ll{α:Type}{j q:Nat}{R:Rp α}{S:List Nat}{m:List (Int×α)}{ho:Option (Int×Value)}(hj:nth L j=some (Sx.mN q R S m ho))(hc:KR (llC P l N fr i) (some q))
  (n:GO hs f r Fs L ((dst l i,.int .i64 (m.length:Int))::fr) P B N w0 Z l (i+1) Q):GO (.ll j::hs) f r Fs L fr P B N w0 Z l i Q:=⟨λw a s e=>by
 have hc:=hc.h;unfold llC at hc;split at hc
 ·rename_i d' x t ts _ _ _ _ hok
  split at hc
  ·rename_i q' tk te hx ht
   simp only [g9] at hc;subst hc;obtain ⟨d,hl,hg,hd,hN⟩:=jD hok;simp only at hd;subst hd;refine j6 hl hg rfl hN (Jl (ats:=t::ts) s j (by rw [<- zP];exact hj) rfl rfl hx ht) ?_
   have h1:=n.o w a s e;rw [vl hl rfl] at h1;exact h1
  ·cases hc
 ·cases hc⟩
theorem C3{γ:Type}{k:Nat}{v:Value}{R0:Rp γ}{ff:Option α->γ}{y:γ}(hr:fP L rest []=some Lr)(hk:nth Lr k=some (Sx.mN q R S m (some (kk,v))))(hS:qK ks Fs L R0 js [v] y)
  (hR2:∀w cs S x,R0.own w cs S (ff (some x))->R.own w cs S x) (hd:zQ (js++rest)=true) (z:α) (hy:(jB m kk).isSome=true->y=ff (some z)) {w:World} (a:bC w0 Z Fs) (s:St w0 Z w L):∃S',St w0 Z w (Lr.set k (Sx.mN q R S' (ud m kk z) none)):=by
 obtain ⟨S2,s2⟩:=gt hS hr hd a s;have hk':Lr[k]? =some (Sx.mN q R S m (some (kk,v))):=by grind [zP]
 have hlt:k<Lr.length:=(zes.1 hk').1;obtain ⟨S',s3⟩:=s2.mback (f:=ff) k Lr.length (S2:=S2) (MR (Nat.ne_of_lt hlt)) (by rw [x9 hlt,hk']) (by simp) hR2 z hy
 grind [pp,iW]
theorem EF{γ:Type}{k:Nat}{v:Value}{R0:Rp γ}{ff:Option α->γ}(hr:fP L rest []=some Lr)(hk:nth Lr k=some (Sx.mN q R S m (some (kk,v))))(hS:qK ks Fs L R0 js [v] (ff (jB m kk)))
  (hR2:∀w cs S x,R0.own w cs S (ff (some x))->R.own w cs S x) (hd:zQ (js++rest)=true) {w:World} (a:bC w0 Z Fs) (s:St w0 Z w L):∃S',St w0 Z w (Lr.set k (Sx.mN q R S' m none)):=by
 obtain ⟨S2,s2⟩:=gt hS hr hd a s;have hk':Lr[k]? =some (Sx.mN q R S m (some (kk,v))):=by grind [zP]
 have hlt:k<Lr.length:=(zes.1 hk').1;obtain ⟨S',s3⟩:=s2.mback0 (f:=ff) k Lr.length (S2:=S2) (MR (Nat.ne_of_lt hlt)) (by rw [x9 hlt,hk']) (by simp) hR2
 grind [pp,iW]
theorem Adm.mb0{α:Type}{k q:Nat}{kk:Int}{v v':Value}{rest js:List Nat}{ks:List Pa}{U:TypeId}{A:Rp α}{S:List Nat}{m:List (Int×α)}{y:Option α}{Lr:List Item}{L1:List Nat->List Item}(hr:fP L rest []=some Lr)(hk:nth Lr k=some (Sx.mN q (vC U A) S m (some (kk,v))))(hS:qK ks Fs L (AD U A) js [v'] y)
  (hv:KR v' v) (hy:KR y (jB m kk)) (hd:KR (zQ (js++rest)) true) (hL:∀S',dc Lr k (Sx.mN q (vC U A) S' m none)=some (L1 S')):Adm (.mb0 k rest ks) Fs L L1 (λ_=>Fs):=⟨λw0 Z w a s=>by
 have hv:=hv.h;have hy:=hy.h;subst hv hy;obtain ⟨S',s'⟩:=EF (ff:=λo=>o) hr hk hS (λ_ _ _ _ h=>h) hd.h a s
 grind [qJ]⟩
theorem Adm.mb0r{k sz:Nat}{v v':Value}{T:TypeId}{enc:α->List Value}{he:∀x,(enc x).length=sz}{hp:0<sz}{m:List (Int×List α)}{y:List α}(hr:fP L rest []=some Lr)(hk:nth Lr k=some (Sx.mN q (mU T enc sz he hp) S m (some (kk,v))))(hS:qK ks Fs L (mU T enc sz he hp) js [v'] y)
  (hv:KR v' v) (hy:KR y ((jB m kk).getD [])) (hd:KR (zQ (js++rest)) true) (hL:∀S',dc Lr k (Sx.mN q (mU T enc sz he hp) S' m none)=some (L1 S')):Adm (.mbr k rest ks) Fs L L1 (λ_=>Fs):=⟨λw0 Z w a s=>by
 have hv:=hv.h;have hy:=hy.h;subst hv hy;obtain ⟨S',s'⟩:=EF (ff:=λo=>o.getD []) hr hk hS (λ_ _ _ _ h=>h) hd.h a s
 grind [qJ]⟩
theorem Adm.mb{α:Type}{k q:Nat}{kk:Int}{v v':Value}{rest js:List Nat}{ks:List Pa}{U:TypeId}{A:Rp α}{S:List Nat}{m:List (Int×α)}{y:α}{Lr:List Item}{L1:List Nat->List Item}(hr:fP L rest []=some Lr)(hk:nth Lr k=some (Sx.mN q (vC U A) S m (some (kk,v))))(hS:qK ks Fs L (AD U A) js [v'] (some y))
  (hv:KR v' v) (hd:KR (zQ (js++rest)) true) (hL:∀S',dc Lr k (Sx.mN q (vC U A) S' (ud m kk y) none)=some (L1 S')):Adm (.mb k rest ks) Fs L L1 (λ_=>Fs):=⟨λw0 Z w a s=>by
 have hv:=hv.h;subst hv;obtain ⟨S',s'⟩:=C3 (ff:=λo=>o) hr hk hS (λ_ _ _ _ h=>h) hd.h y (λ_=>rfl) a s
 grind [qJ]⟩
theorem Adm.mbf{α:Type}{k q e:Nat}{kk:Int}{v v':Value}{rest js:List Nat}{ks:List Pa}{U:TypeId}{A:Rp α}{S:List Nat}{m:List (Int×α)}{y:α}{o:Option α}{x:α}{Lr:List Item}{L1:List Nat->List Item}(he:nth Fs e=some (.oe o x))(hr:fP L rest []=some Lr)(hk:nth Lr k=some (Sx.mN q (vC U A) S m (some (kk,v))))(hS:qK ks Fs L (AD U A) js [v'] (some y))
  (hv:KR v' v) (ho:KR o (jB m kk)) (hx:KR x y) (hd:KR (zQ (js++rest)) true) (hL:∀S',dc Lr k (Sx.mN q (vC U A) S' m none)=some (L1 S')):Adm (.mbf k e rest ks) Fs L L1 (λ_=>Fs):=⟨λw0 Z w a s=>by
 have hv:=hv.h;subst hv;have h1:o=some x:=zz a he;obtain ⟨S',s'⟩:=C3 (ff:=λo=>o) hr hk hS (λ_ _ _ _ h=>h) hd.h y (λ_=>rfl) a s;rw [tV (by rw [<- ho.h,h1,hx.h])] at s'
 grind [qJ]⟩
theorem Adm.mbp{α:Type}{k q:Nat}{kk kk':Int}{v v':Value}{rest js:List Nat}{ks:List Pa}{U:TypeId}{A:Rp α}{S:List Nat}{m:List (Int×α)}{x y:α}{Lr:List Item}{L1:List Nat->List Item}(hr:fP L rest []=some Lr)(hk:nth Lr k=some (Sx.mN q (vC U A) S (mput m kk' x) (some (kk,v))))(hS:qK ks Fs L (AD U A) js [v'] (some y))
  (hv:KR v' v) (ho:KR kk' kk) (hx:KR x y) (hd:KR (zQ (js++rest)) true) (hL:∀S',dc Lr k (Sx.mN q (vC U A) S' (mput m kk' x) none)=some (L1 S')):Adm (.mbp k rest ks) Fs L L1 (λ_=>Fs):=⟨λw0 Z w a s=>by
 have hv:=hv.h;have ho:=ho.h;have hx:=hx.h;subst hv ho hx;obtain ⟨S',s'⟩:=C3 (ff:=λo=>o) hr hk hS (λ_ _ _ _ h=>h) hd.h x (λ_=>rfl) a s
 grind [tV,As,qJ]⟩
end
section
variable {α ρ:Type} {hs:List H} {k:α->Option ρ} {r:ρ} {Fs:List Fa} {L:List Item} {fr:Fr} {P:Program} {B:Func} {N:Nat} {w0:World} {Z:List Nat} {Q:Exit->Act->World->Prop} {l:List Oper} {i j:Nat} {U:TypeId} {R:Rp α} {u:Value} {S:List Nat} {o:Option α} {L1:α->List Item} {Fs1:α->List Fa} {e:Exit}
theorem GO.fO(hj:nth L j=some (itI (AD U R) [u] S o))(hL:∀y,dc L j (itI (vC U R) [u] S y)=some (L1 y))(hF:∀y,vc Fs (.oe o y)=some (Fs1 y))(n:∀y b,u=.pointer (some ⟨b,0,none⟩)->GO hs (k y) r (Fs1 y) (L1 y) fr P B N w0 Z l i Q):GO (.fO j::hs) (o.bind k) r Fs L fr P B N w0 Z l i Q:=⟨λw a s q=>by
 obtain ⟨y,hy,hk⟩:=zI q;obtain ⟨s2,b,hb⟩:=ED hj (hL y) s hy;exact (n y b hb).o w (jw (F:=.oe o y) a hy (hF y)) s2 hk⟩
theorem GS.fO{c:Nat}{m:Bool}(hj:nth L j=some (itI (AD U R) [u] S o))(hL:∀y,dc L j (itI (vC U R) [u] S y)=some (L1 y))(hF:∀y,vc Fs (.oe o y)=some (Fs1 y))(n:∀y b,u=.pointer (some ⟨b,0,none⟩)->GS hs (k y) r (Fs1 y) (L1 y) fr P B N w0 Z l i c m Q):GS (.fO j::hs) (o.bind k) r Fs L fr P B N w0 Z l i c m Q:=⟨λw a s q=>by
 obtain ⟨y,hy,hk⟩:=zI q;obtain ⟨s2,b,hb⟩:=ED hj (hL y) s hy;exact (n y b hb).o w (jw (F:=.oe o y) a hy (hF y)) s2 hk⟩
theorem GP.fO{done eff:List Nat}{pd:List (Nat×Pn)}(hj:nth L j=some (itI (AD U R) [u] S o))(hL:∀y,dc L j (itI (vC U R) [u] S y)=some (L1 y))(hF:∀y,vc Fs (.oe o y)=some (Fs1 y))(n:∀y b,u=.pointer (some ⟨b,0,none⟩)->GP hs (k y) r (Fs1 y) (L1 y) fr P B N w0 Z l done eff pd Q):GP (.fO j::hs) (o.bind k) r Fs L fr P B N w0 Z l done eff pd Q:=⟨λw a s q=>by
 obtain ⟨y,hy,hk⟩:=zI q;obtain ⟨s2,b,hb⟩:=ED hj (hL y) s hy;exact (n y b hb).o w (jw (F:=.oe o y) a hy (hF y)) s2 hk⟩
end
end
open Go.RowKit Go.Sort
theorem Ck{α:Type}{enc:α->List Value}{sz:Nat}(he:∀x,(enc x).length=sz):∀{xs:List α} {t:Nat} {u:α},xs[t]? =some u->((jQ enc xs).drop (t*sz)).take sz=enc u
 |[],t,u,h=>by simp at h
 |x::r,0,u,h=>by
  simp at h;subst h;simp only [jQ,Nat.zero_mul,List.drop_zero];rw [y6 (by rw [he];omega),r7 (by rw [he];omega)]
 |x::r,t+1,u,h=>by
  have:=Ck he (xs:=r) (t:=t) (u:=u) (by simpa using h);simp only [jQ]
  have e:(enc x++jQ enc r).drop ((t+1)*sz)=(jQ enc r).drop (t*sz):=by
   rw [show (t+1)*sz=sz+t*sz by rw [u4];omega,<- yl,List.drop_left' (he x)]
  rw [e];exact this
section
variable {P:Program} {N:Nat} {fr:List (Nat×Value)} {w0 w:World} {S0:List Nat} {L:List Item}
theorem Lv{α:Type}{enc:α->List Value}{xs:List α}{o:Oper}{t e n sz:Nat}{x y:Operand}{q:Int}{kd:IntKind}{u:α}(ho:o.op=.index t x y)(hx:look fr x=some (.agg (jQ enc xs).toArray))(hy:look fr y=some (.int kd q))
  (ht:P.underlying t=some (.array n e)) (hs:aj P (sizeOf e)=some sz) (hg:aj P (isAgg e)=some true) (he:∀x,(enc x).length=sz) (hn:xs.length=n) (h:idx xs q=some u):
  ∀a w,Rep N fr a->(execOp a.eval o).run P w=.ok (.value (.agg (enc u).toArray)) w:=by
 intro a w ha;have e1:=ha.look hx;have e2:=ha.look hy;unfold idx at h;split at h
 case isFalse=>cases h
 rename_i h0
 have hlt:=(zes.1 h).1;have h1:q<(n:Int):=by omega
 have:=Ck he h
 have e3:(jQ enc xs).toArray.extract (q.toNat*sz) (q.toNat*sz+sz)=(enc u).toArray:=by
  rw [<- this];simp [List.take_drop]
 simp [execOp,ho,Instr.index,e1,e2,asIntOf,run_underlying ht,h0,h1,part,qV hs,qV hg,e3];exact this
end
open Go.RowKit
def bytesOf(s:ByteArray):List Int:=s.data.toList.map λb=>(b.toNat:Int)
open Go.RowKit
open Go.RowKit
section
variable {α β γ:Type} {q:Nat} {Fs:List Fa} {L:List Item}
theorem jn.len:jn [9] q Fs (L8 β) (λ(i:Option Addr×Nat)y=>[.slice i.1 y.length i.2]) (λi y=>[itI (L8 β) [.slice i.1 y.length i.2] [] y]) (λ_ _=>[]):=⟨by
 rintro w0 Z w cs S y a ⟨rfl,p,c,rfl⟩;exact ⟨(p,c),rfl,ak.single (it:=itI (L8 β) [.slice p y.length c] [] y) ⟨rfl,p,c,rfl⟩ l8 rfl,trivial⟩⟩
theorem jn.gho{ι:Type}{ks:List Nat}{n:Nat}{U:TypeId}{G:Rp γ}{R:Value->Rp β}{hn:∀v,(R v).sz=n}{vs:Nat->ι->β->List Value}{its:Nat->ι->β->List Item}{fcs:Nat->ι->β->List Fa}
  (h:∀b:Nat,jn ks q Fs (R (.pointer (some ⟨b,0,none⟩))) (vs b) (its b) (fcs b)):
  jn (10::ks) q Fs (M3 (vC U G) R n hn) (λ(i:Nat×List Nat×ι)y=>vs i.1 i.2.2 y.2) (λi y=>itI (vC U G) [.pointer (some ⟨i.1,0,none⟩)] i.2.1 y.1::its i.1 i.2.2 y.2) (λi y=>fcs i.1 i.2.2 y.2):=⟨by
 rintro w0 Z w cs S y a ⟨u,S1,S2,rfl,hd,o1,o2⟩;have n1:=(vC U G).nd w _ S1 y.1 o1;have o1':=o1;obtain ⟨b,cs',S',hu,rfl,h3⟩:=o1';obtain rfl:u=.pointer (some ⟨b,0,none⟩):=by simpa using hu
 obtain ⟨i,rfl,p2,f2⟩:=(h b).o w0 Z w _ _ _ a o2;exact ⟨(b,b::S',i),rfl,(ak.single (it:=itI (vC U G) [.pointer (some ⟨b,0,none⟩)] (b::S') y.1) o1 n1 rfl).app p2 hd,f2⟩⟩
theorem jn.rdn{wb:World}{Sb:List Nat}{T:TypeId}{R:Rp β}{hp:0<R.sz}(hq:nth Fs q=some (.bo wb Sb)):
  jn [11] q Fs (rdP (kH T R hp) wb Sb) (λ(i:Option Addr×Nat)y=>[.slice i.1 y.length i.2]) (λ_ _=>[]) (λi y=>[.rbn wb Sb (.slice i.1 y.length i.2) R y,.rn (.slice i.1 y.length i.2) R y]):=⟨by
 rintro w0 Z w cs S y a ⟨rfl,v,rfl,ho⟩;obtain ⟨_,p,c,rfl⟩:=RdN.len ho;exact ⟨(p,c),rfl,ak.nil,ho,ho.bor hp (zz a hq),trivial⟩⟩
theorem qK.len{j k b:Nat}{T:TypeId}{cs:List Value}{a:Option Addr}{c:Nat}{xs:List β}(hj:nth L j=some (jT b T cs))(hv:nth cs k=some (.slice a xs.length c)):qK [.ln j k] Fs L (L8 β) [] [.slice a xs.length c] xs:=⟨λw0 Z w hd s h=>⟨[],⟨rfl,a,c,rfl⟩,l8,by simp⟩⟩
theorem qK.rdn{e:Nat}{wb:World}{Sb:List Nat}{T:TypeId}{R:Rp β}{hp:0<R.sz}{v:Value}{xs:List β}(hq:nth Fs e=some (.rbn wb Sb v R xs)):qK [.f e] Fs L (rdP (kH T R hp) wb Sb) [] [v] xs:=⟨λw0 Z w hd a s=>
 ⟨[],⟨rfl,v,rfl,zz a hq⟩,l8,by simp⟩⟩
theorem qK.gho{ks:List Pa}{js:List Nat}{j n:Nat}{u:Value}{S:List Nat}{G:Rp γ}{R:Value->Rp β}{hn:∀v,(R v).sz=n}{vs:List Value}{y1:γ}{y2:β}(hj:nth L j=some (itI G [u] S y1))(h:qK ks Fs L (R u) js vs y2):
  qK (.g j::ks) Fs L (M3 G R n hn) (j::js) vs (y1,y2):=⟨λw0 Z w hd a s=>by
 have hd1:zQ ([j]++js)=true:=hd;obtain ⟨S1,o1,n1,f1⟩:=(qK.it (Fs:=Fs) (A:=G) hj).o w0 Z w (dt hd1) a s;obtain ⟨S2,o2,n2,f2⟩:=h.o w0 Z w (lK hd1) a s;have hx:∀b∈S1,b∉S2:=λb hb hc=>rR s hd1 b (f1 b hb) (f2 b hc)
 refine ⟨S1++S2,⟨u,S1,S2,rfl,hx,o1,o2⟩,k7.2 ⟨n1,n2,λa ha b hb e=>by grind⟩,λb hb=> ?_⟩
 grind [fp,sel,wn,Hq]⟩
theorem Giv.po{j:Nat}{wb:World}{Sp:List Nat}{js:List Nat}{src:List Src}{Fin:List Fa}(hj:nth L j=some (rC wb Sp))(hm:KR (mem? j js) false)(n:Giv src Fs L js Fin):Giv (.po j::src) Fs L js (.bo wb (coS wb Sp)::Fin):=
 ⟨λw0 Z w a s=>⟨s.pool j (by grind [zP]) js hm.h,n.g w0 Z w a s⟩⟩
end
section
variable {α ρ:Type} {hs ha hb:List H} {r:ρ} {Fs:List Fa} {L L0:List Item} {fr:Fr} {P:Program} {B:Func} {N:Nat} {w0:World} {Z:List Nat} {Q:Exit->Act->World->Prop} {l:List Oper} {i j:Nat} {T:TypeId} {enc:α->List Value} {u:Value} {S:List Nat} {o:Option α} {L1:α->Nat->List Value->List Value->List Item} {rest:List Nat}
theorem St.alter{w:World}(s:St w0 Z w L)(j:Nat){it it':Item}(hj:L[j]? =some it)(h:it'.Φ w)(hS:it'.S=it.S):St w0 Z w (L.set j it'):=by
 have hlt:=(zes.1 hj).1
 have cs:∀(m:Nat)(x:Item),(L.set j it')[m]? =some x->(m=j/\x=it')\/L[m]? =some x:=λm x hm=>by
  grind
 refine s.repart (λm x hm=> ?_) (λm n x y hmn hm hn b hb hc=> ?_)
 ·rcases cs m x hm with ⟨rfl,rfl⟩|hm
  ·exact ⟨h,by rw [hS];exact s.nd _ it hj,λb hb=>vw.2 ⟨_,it,hj,by rw [<- hS];exact hb⟩⟩
  ·exact ⟨s.all m x hm,s.nd m x hm,λb hb=>vw.2 ⟨m,x,hm,hb⟩⟩
 ·have f:∀(m:Nat)(x:Item),(L.set j it')[m]? =some x->∃y,L[m]? =some y/\y.S=x.S:=λm x hm=>by
   grind
  obtain ⟨x',hx,ex⟩:=f m x hm;obtain ⟨y',hy,ey⟩:=f n y hn;exact s.apart m n x' y' hmn hx hy b (by rw [ex];exact hb) (by rw [ey];exact hc)
theorem Kc{w:World}{y:α}(hj:nth L j=some (itI (Kf T enc) [u] S o))(s:St w0 Z w L)(ho:o=some y):∃b A C,u=.pointer (some ⟨b,A.length,none⟩)/\St w0 Z w (L.set j (db b T A (enc y) C)):=by
 subst ho;have hj':L[j]? =some (itI (Kf T enc) [u] S (some y)):=by grind [zP]
 obtain ⟨b,A,C,h1,h2,h3⟩:=s.all j _ hj';exact ⟨b,A,C,by simpa using h1,s.alter j hj' h3 (by grind [itI,db,jT])⟩
end
section
variable {β:Type} {Fs:List Fa} {L:List Item}
theorem qK.prn{T:TypeId}{enc:β->List Value}:qK [.on] Fs L (Kf T enc) [] [.pointer none] none:=⟨λw0 Z w hd a s=>⟨[],⟨rfl,rfl⟩,l8,by simp⟩⟩
theorem qK.pb{j b off n:Nat}{T:TypeId}{cs:List Value}{enc:β->List Value}{x:β}(hj:nth L j=some (jT b T cs))(hn:KR (cs.take off).length off)(hs:KR cs (cs.take off++(enc x++cs.drop (off+n)))):qK [.pb j off n] Fs L (Kf T enc) [j] [.pointer (some ⟨b,off,none⟩)] (some x):=
 qK.item hj λw ho=>⟨b,cs.take off,cs.drop (off+n),by rw [hn.h],rfl,by rw [<- hs.h];exact ho⟩
end
open Go.RowKit
variable {T:TypeId} {sz:Nat} {ι:Type} {ks:List Nat} {n:Nat} {α:Type} {e q:Nat} {wb:World} {S:List Nat} {v:Value} {a:Option Addr} {c:Nat} {enc:α->List Value} {x:α} {R:Rp α} {xs:List α}
structure ag {β ι:Type} (ks:List Nat) (q:Nat) (Fs:List Fa) (A:Rp β) (vs:ι->β->List Value) (fcs:ι->β->List Fa):Prop where
 o:∀w0 Z cs y,bC w0 Z Fs->A.rd w0 Z y cs->∃i,cs=vs i y/\bC w0 Z (fcs i y)
structure lO {β ι:Type} (ks:List Nat) (q:Nat) (Fs:List Fa) (wb:World) (Sb:List Nat) (A:Rp β) (vs:ι->β->List Value) (fcs:ι->β->List Fa):Prop where
 o:∀w0 Z cs y,bC w0 Z Fs->A.rd wb Sb y cs->∃i,cs=vs i y/\bC w0 Z (fcs i y)
section
variable {β γ:Type} {q:Nat} {Fs:List Fa} {wb:World} {Sb:List Nat}
theorem ag.row{enc:β->List Value}{he:∀x,(enc x).length=sz}{hp:0<sz}:
  ag [1] q Fs (mU T enc sz he hp) (λ(i:Option Addr×Nat)y=>[.slice i.1 y.length i.2]) (λi y=>[.rd (.slice i.1 y.length i.2) enc sz y]):=⟨by
 rintro w Z cs y a ⟨v,rfl,h⟩;obtain ⟨_,a,c,rfl⟩:=Rd.len h;exact ⟨(a,c),rfl,h,trivial⟩⟩
theorem ag.nrow{R:Rp β}{hp:0<R.sz}:
  ag [2] q Fs (kH T R hp) (λ(i:Option Addr×Nat)y=>[.slice i.1 y.length i.2]) (λi y=>[.rn (.slice i.1 y.length i.2) R y]):=⟨by
 rintro w Z cs y a ⟨v,rfl,h⟩;obtain ⟨_,a,c,rfl⟩:=RdN.len h;exact ⟨(a,c),rfl,h,trivial⟩⟩
theorem ag.any{A:Rp β}(hz:KR A.sz 1):ag [4] q Fs A (λ(i:Value)_=>[i]) (λi y=>[.ri i A y]):=⟨by
 intro w Z cs y a h;have hl:=A.rlen _ _ _ _ h;rw [hz.h] at hl
 match cs,hl,h with
 |[v],_,h=>exact ⟨v,rfl,h,trivial⟩⟩
theorem ag.ptr{U:TypeId}{R:Rp β}:ag [5] q Fs (vC U R) (λ(i:Nat)_=>[.pointer (some ⟨i,0,none⟩)]) (λi y=>[.ri (.pointer (some ⟨i,0,none⟩)) (vC U R) y]):=⟨by
 rintro w Z cs y a ⟨b,cs',rfl,h⟩;exact ⟨b,rfl,⟨b,cs',rfl,h⟩,trivial⟩⟩
theorem ag.bor{enc:β->List Value}{sz:Nat}(hq:nth Fs q=some (.bo wb Sb)):
  ag [6] q Fs (Hl wb Sb enc sz) (λ(i:Option Addr×Nat)y=>[.slice i.1 y.length i.2]) (λi y=>[.rb wb Sb (.slice i.1 y.length i.2) enc sz y,.rd (.slice i.1 y.length i.2) enc sz y]):=⟨by
 rintro w0 Z cs y a ⟨v,rfl,ho⟩;obtain ⟨_,p,c,rfl⟩:=Rd.len ho;exact ⟨(p,c),rfl,ho,ho.bor (zz a hq),trivial⟩⟩
theorem ag.rdn{R:Rp β}{hp:0<R.sz}(hq:nth Fs q=some (.bo wb Sb)):
  ag [7] q Fs (rdP (kH T R hp) wb Sb) (λ(i:Option Addr×Nat)y=>[.slice i.1 y.length i.2]) (λi y=>[.rbn wb Sb (.slice i.1 y.length i.2) R y,.rn (.slice i.1 y.length i.2) R y]):=⟨by
 rintro w0 Z cs y a ⟨v,rfl,ho⟩;obtain ⟨_,p,c,rfl⟩:=RdN.len ho;exact ⟨(p,c),rfl,ho,ho.bor hp (zz a hq),trivial⟩⟩
theorem ag.len:ag [8] q Fs (L8 β) (λ(i:Option Addr×Nat)y=>[.slice i.1 y.length i.2]) (λ_ _=>[]):=⟨by
 rintro w0 Z cs y a ⟨p,c,rfl⟩;exact ⟨(p,c),rfl,trivial⟩⟩
theorem ag.gho{G:Rp γ}{R:Value->Rp β}{hn:∀v,(R v).sz=n}{vs:Value->ι->β->List Value}{fcs:Value->ι->β->List Fa}(h:∀u,ag ks q Fs (R u) (vs u) (fcs u)):
  ag (10::ks) q Fs (M3 G R n hn) (λ(i:Value×ι)y=>vs i.1 i.2 y.2) (λi y=>.ri i.1 G y.1::fcs i.1 i.2 y.2):=⟨by
 rintro w0 Z cs y a ⟨u,h1,h2⟩;obtain ⟨i,rfl,f⟩:=(h u).o w0 Z _ _ a h2;exact ⟨(u,i),rfl,h1,f⟩⟩
theorem ag.dep{δ:Type}{A:Rp β}{B:Rp γ}{C:Value->Rp δ}{hn:∀v,(C v).sz=n}(h1:KR A.sz 1)(h2:KR B.sz 1)(h3:KR n 1):
  ag [11] q Fs (Qh A B C n hn) (λ(i:Value×Value×Value)_=>[i.1,i.2.1,i.2.2]) (λi y=>[.ri i.1 A y.1,.ri i.2.1 B y.2.1,.ri i.2.2 (C i.1) y.2.2]):=⟨by
 rintro w0 Z cs y a ⟨v1,⟨c1,c2,rfl,o1,c3,c4,rfl,o2,o3⟩,hv⟩;have l1:=A.rlen _ _ _ _ o1;have l2:=B.rlen _ _ _ _ o2;have l3:=(C v1).rlen _ _ _ _ o3;rw [h1.h] at l1;rw [h2.h] at l2;rw [hn,h3.h] at l3
 match c1,l1,c3,l2,c4,l3,o1,o2,o3,hv with
 |[u],_,[u2],_,[u3],_,o1,o2,o3,hv=>
  have:v1=u:=by simpa using hv.symm
  subst this;exact ⟨(v1,u2,u3),rfl,o1,o2,o3,trivial⟩⟩
theorem ag.pair{κ:Type}{k k2:Nat}{A:Rp β}{B:Rp γ}{vs:ι->β->List Value}{fcs:ι->β->List Fa}{vs2:κ->γ->List Value}{fcs2:κ->γ->List Fa}
  (h1:ag [k] q Fs A vs fcs) (h2:ag (k2::ks) q Fs B vs2 fcs2):ag (k::k2::ks) q Fs (jp A B) (λ(i:ι×κ)y=>vs i.1 y.1++vs2 i.2 y.2) (λi y=>fcs i.1 y.1++fcs2 i.2 y.2):=⟨by
 rintro w Z cs y a ⟨c1,c2,rfl,o1,o2⟩;obtain ⟨i,rfl,f1⟩:=h1.o w Z _ _ a o1;obtain ⟨j,rfl,f2⟩:=h2.o w Z _ _ a o2;exact ⟨(i,j),rfl,LY w Z f1 f2⟩⟩
theorem ag.st{ff:γ->List Value->List Value}{hl:∀x vs,(ff x vs).length=sz}{g:γ->β}{A:Rp β}{vs:ι->β->List Value}{fcs:ι->β->List Fa}(h:ag ks q Fs A vs fcs):
  ag (3::ks) q Fs (qL ff sz hl g A) (λ(i:ι)x=>ff x (vs i (g x))) (λi x=>fcs i (g x)):=⟨by
 rintro w Z cs x a ⟨us,rfl,h2⟩;obtain ⟨i,rfl,f1⟩:=h.o w Z _ _ a h2;exact ⟨i,rfl,f1⟩⟩
theorem lO.row{enc:β->List Value}{he:∀x,(enc x).length=sz}{hp:0<sz}(hq:nth Fs q=some (.bo wb Sb)):
  lO [1] q Fs wb Sb (mU T enc sz he hp) (λ(i:Option Addr×Nat)y=>[.slice i.1 y.length i.2]) (λi y=>[.rb wb Sb (.slice i.1 y.length i.2) enc sz y,.rd (.slice i.1 y.length i.2) enc sz y]):=⟨by
 rintro w0 Z cs y a ⟨v,rfl,ho⟩;obtain ⟨_,p,c,rfl⟩:=Rd.len ho;exact ⟨(p,c),rfl,ho,ho.bor (zz a hq),trivial⟩⟩
theorem lO.pair{κ:Type}{k k2:Nat}{A:Rp β}{B:Rp γ}{vs:ι->β->List Value}{fcs:ι->β->List Fa}{vs2:κ->γ->List Value}{fcs2:κ->γ->List Fa}
  (h1:lO [k] q Fs wb Sb A vs fcs) (h2:lO (k2::ks) q Fs wb Sb B vs2 fcs2):lO (k::k2::ks) q Fs wb Sb (jp A B) (λ(i:ι×κ)y=>vs i.1 y.1++vs2 i.2 y.2) (λi y=>fcs i.1 y.1++fcs2 i.2 y.2):=⟨by
 rintro w Z cs y a ⟨c1,c2,rfl,o1,o2⟩;obtain ⟨i,rfl,f1⟩:=h1.o w Z _ _ a o1;obtain ⟨j,rfl,f2⟩:=h2.o w Z _ _ a o2;exact ⟨(i,j),rfl,LY w Z f1 f2⟩⟩
theorem lO.st{ff:γ->List Value->List Value}{hl:∀x vs,(ff x vs).length=sz}{g:γ->β}{A:Rp β}{vs:ι->β->List Value}{fcs:ι->β->List Fa}(h:lO ks q Fs wb Sb A vs fcs):
  lO (3::ks) q Fs wb Sb (qL ff sz hl g A) (λ(i:ι)x=>ff x (vs i (g x))) (λi x=>fcs i (g x)):=⟨by
 rintro w Z cs x a ⟨us,rfl,h2⟩;obtain ⟨i,rfl,f1⟩:=h.o w Z _ _ a h2;exact ⟨i,rfl,f1⟩⟩
end
theorem sL{w:World}{Z:List Nat}{b:Nat}{cs:List Value}(hb:b∉Z)(h:w.heap[b]? =some (.cells cs.toArray T (0,0))):RdB w Z b cs:=⟨hb,λk u hu=>by
 rw [cell_of_row w b k cs.toArray T (0,0) h]
 simpa using hu⟩
section
variable {L:List Item} {Fs:List Fa}
theorem Adm.oi{α β ι:Type}{e q b:Nat}{ks:List Nat}{T:TypeId}{ff:α->List Value->List Value}{sz:Nat}{hl:∀x vs,(ff x vs).length=sz}{g:α->β}{A:Rp β}{x:α}{vs:ι->β->List Value}{fcs:ι->β->List Fa}{Fs1:ι->List Fa}
  (he:nth Fs e=some (.ri (.pointer (some ⟨b,0,none⟩)) (vC T (qL ff sz hl g A)) x)) (hO:ag ks q Fs A vs fcs) (hF:∀i,lw Fs (.pb b (ff x (vs i (g x)))::fcs i (g x))=some (Fs1 i)):
  Adm (.oi e q (3::ks)) Fs L (λ_:ι=>L) Fs1:=⟨λw0 Z w a s=>by
 obtain ⟨b',cs',h1,h2,h3,us,rfl,h4⟩:(vC T (qL ff sz hl g A)).rd w0 Z x [.pointer (some ⟨b,0,none⟩)]:=zz a he;cases h1;obtain ⟨i,rfl,f⟩:=hO.o w0 Z _ _ a h4;exact ⟨i,s,lI (hF i) a ⟨sL h2 h3,f⟩⟩⟩
theorem Adm.oi0{b:Nat}{he':∀x,(enc x).length=sz}{Fs1:List Fa}
  (he:nth Fs e=some (.ri (.pointer (some ⟨b,0,none⟩)) (vC T (rL enc sz he')) x)) (hF:vc Fs (.pb b (enc x))=some Fs1):Adm (.oi e q [0]) Fs L (λ_:Unit=>L) (λ_=>Fs1):=⟨λw0 Z w a s=>by
 obtain ⟨b',cs',h1,h2,h3,h4⟩:(vC T (rL enc sz he')).rd w0 Z x [.pointer (some ⟨b,0,none⟩)]:=zz a he;cases h1;have h4:cs'=enc x:=h4;subst h4;exact ⟨(),s,jw (F:=.pb b (enc x)) a (sL h2 h3) hF⟩⟩
end
section
variable {ρ:Type} {hs:List H} {f:Option ρ} {r:ρ} {Fs:List Fa} {L:List Item} {fr:Fr} {P:Program} {B:Func} {N:Nat} {w0:World} {Z:List Nat} {Q:Exit->Act->World->Prop} {l:List Oper} {i:Nat}
theorem MS{q':Nat}{v':Value}{vs:ι->α->List Value}{fcs:ι->α->List Fa}{t:Int}{Fs1:α->Nat->Nat->ι->List Fa}(he:nth Fs e=some (.rn v' R xs))(hO:ag ks q' Fs R vs fcs)
  (hF:∀x g o q,lw Fs (.el v' g o t xs x::.ce g (o+t.toNat*R.sz) (vs q x)::fcs q x)=some (Fs1 x g o q)) (a:bC w0 Z Fs) (hx:idx xs t=some x):∃g o q,bC w0 Z (Fs1 x g o q):=by
 have hr:RdN w0 Z v' R.rd R.sz xs:=zz a he;obtain ⟨g,o,c,cs,hv,hd,hc⟩:=hr.formv hx;obtain ⟨q,rfl,f1⟩:=hO.o w0 Z _ _ a hd;exact ⟨g,o,q,lI (hF x g o q) a ⟨⟨hx,c,hv⟩,λw' L' s' k u hu=>hc k u hu w' L' s',f1⟩⟩
theorem GO.bj{α ι:Type}{e q':Nat}{v':Value}{R:Rp α}{ks:List Nat}{vs:ι->α->List Value}{fcs:ι->α->List Fa}{xs:List α}{t:Int}{k:α->Option ρ}{Fs1:α->Nat->Nat->ι->List Fa}(he:nth Fs e=some (.rn v' R xs))(hO:ag ks q' Fs R vs fcs)
  (hF:∀x g o q,lw Fs (.el v' g o t xs x::.ce g (o+t.toNat*R.sz) (vs q x)::fcs q x)=some (Fs1 x g o q)) (n:∀x g o q,GO hs (k x) r (Fs1 x g o q) L fr P B N w0 Z l i Q):GO (.bj e q' ks::hs) ((idx xs t).bind k) r Fs L fr P B N w0 Z l i Q:=⟨λw a s q=>by
 obtain ⟨x,hx,hk⟩:=zI q;obtain ⟨g,o,j,a'⟩:=MS he hO hF a hx;exact (n x g o j).o w a' s hk⟩
theorem GS.bj{α ι:Type}{cc:Nat}{m:Bool}{e q':Nat}{v':Value}{R:Rp α}{ks:List Nat}{vs:ι->α->List Value}{fcs:ι->α->List Fa}{xs:List α}{t:Int}{k:α->Option ρ}{Fs1:α->Nat->Nat->ι->List Fa}(he:nth Fs e=some (.rn v' R xs))(hO:ag ks q' Fs R vs fcs)
  (hF:∀x g o q,lw Fs (.el v' g o t xs x::.ce g (o+t.toNat*R.sz) (vs q x)::fcs q x)=some (Fs1 x g o q)) (n:∀x g o q,GS hs (k x) r (Fs1 x g o q) L fr P B N w0 Z l i cc m Q):GS (.bj e q' ks::hs) ((idx xs t).bind k) r Fs L fr P B N w0 Z l i cc m Q:=⟨λw a s q=>by
 obtain ⟨x,hx,hk⟩:=zI q;obtain ⟨g,o,j,a'⟩:=MS he hO hF a hx;exact (n x g o j).o w a' s hk⟩
theorem GP.bj{α ι:Type}{done eff:List Nat}{pd:List (Nat×Pn)}{e q':Nat}{v':Value}{R:Rp α}{ks:List Nat}{vs:ι->α->List Value}{fcs:ι->α->List Fa}{xs:List α}{t:Int}{k:α->Option ρ}{Fs1:α->Nat->Nat->ι->List Fa}(he:nth Fs e=some (.rn v' R xs))(hO:ag ks q' Fs R vs fcs)
  (hF:∀x g o q,lw Fs (.el v' g o t xs x::.ce g (o+t.toNat*R.sz) (vs q x)::fcs q x)=some (Fs1 x g o q)) (n:∀x g o q,GP hs (k x) r (Fs1 x g o q) L fr P B N w0 Z l done eff pd Q):GP (.bj e q' ks::hs) ((idx xs t).bind k) r Fs L fr P B N w0 Z l done eff pd Q:=⟨λw a s q=>by
 obtain ⟨x,hx,hk⟩:=zI q;obtain ⟨g,o,j,a'⟩:=MS he hO hF a hx;exact (n x g o j).o w a' s hk⟩
theorem QG{q':Nat}{Sb:List Nat}{v':Value}{vs:ι->α->List Value}{fcs:ι->α->List Fa}{t:Int}{Fs1:α->Nat->Nat->ι->List Fa}(he:nth Fs e=some (.rbn wb Sb v' R xs))(hq:nth Fs q'=some (.bo wb Sb))(hO:lO ks q' Fs wb Sb R vs fcs)
  (hF:∀x g o q,lw Fs (.el v' g o t xs x::.ce g (o+t.toNat*R.sz) (vs q x)::fcs q x)=some (Fs1 x g o q)) (a:bC w0 Z Fs) (hx:idx xs t=some x):∃g o q,bC w0 Z (Fs1 x g o q):=by
 have hr:RdN wb Sb v' R.rd R.sz xs:=zz a he;have hb:Bor wb Sb w0 Z:=zz a hq;obtain ⟨g,o,c,cs,hv,hd,hc⟩:=hr.formB hb hx;obtain ⟨q,rfl,f1⟩:=hO.o w0 Z _ _ a hd;exact ⟨g,o,q,lI (hF x g o q) a ⟨⟨hx,c,hv⟩,λw' L' s' k u hu=>hc k u hu w' L' s',f1⟩⟩
theorem GP.bl{α ι:Type}{done eff:List Nat}{pd:List (Nat×Pn)}{e q':Nat}{wb:World}{Sb:List Nat}{v':Value}{R:Rp α}{ks:List Nat}{vs:ι->α->List Value}{fcs:ι->α->List Fa}{xs:List α}{t:Int}{k:α->Option ρ}{Fs1:α->Nat->Nat->ι->List Fa}(he:nth Fs e=some (.rbn wb Sb v' R xs))(hq:nth Fs q'=some (.bo wb Sb))(hO:lO ks q' Fs wb Sb R vs fcs)
  (hF:∀x g o q,lw Fs (.el v' g o t xs x::.ce g (o+t.toNat*R.sz) (vs q x)::fcs q x)=some (Fs1 x g o q)) (n:∀x g o q,GP hs (k x) r (Fs1 x g o q) L fr P B N w0 Z l done eff pd Q):GP (.bl e q' ks::hs) ((idx xs t).bind k) r Fs L fr P B N w0 Z l done eff pd Q:=⟨λw a s q=>by
 obtain ⟨x,hx,hk⟩:=zI q;obtain ⟨g,o,j,a'⟩:=QG he hq hO hF a hx;exact (n x g o j).o w a' s hk⟩
end
structure LZ (hs:List AH) (j:Nat) (Fs:List Fa) (L:List Item) (Q:World->Prop):Prop where
 o:∀w0 Z w,bC w0 Z Fs->St w0 Z w L->Q w
section
variable {α:Type} {Fs:List Fa} {L:List Item} {j:Nat} {js:List Nat} {src:List Src} {Fin:List Fa} {v:Value} {R:Rp α} {x:α}
theorem LZ.nil(hj:nth L j=some (itI R [v] S x)):LZ [] j Fs L (λw=>R.rd w [] x [v]):=⟨λw0 Z w a s=>R.see _ _ _ _ [] (s.all j _ (by rw [<- zP];exact hj)) (λb _=>znm)⟩
theorem LZ.cons{h:AH}{hs:List AH}{L1:ι->List Item}{Fs1:ι->List Fa}{Q:World->Prop}(h1:Adm h Fs L L1 Fs1)(n:∀q,LZ hs j (Fs1 q) (L1 q) Q):LZ (h::hs) j Fs L Q:=⟨λw0 Z w a s=>by
 obtain ⟨q,s',a'⟩:=h1.o w0 Z w a s;exact (n q).o w0 Z w a' s'⟩
theorem Giv.sv{hs:List AH}(h:LZ hs j Fs L (λw=>R.rd w [] x [v]))(n:Giv src Fs L [] Fin):Giv (.sv hs j::src) Fs L [] (.ri v R x::Fin):=⟨λw0 Z w a s=>⟨h.o w0 Z w a s,n.g w0 Z w a s⟩⟩
theorem Giv.oi{S:List Nat}(hj:nth L j=some (itI R [v] S x))(hm:KR (mem? j js) false)(n:Giv src Fs L js Fin):Giv (.oi j::src) Fs L js (.ri v R x::Fin):=⟨λw0 Z w a s=>by
 have hj':L[j]? =some (itI R [v] S x):=by grind [zP]
 exact ⟨R.see _ _ _ _ _ (s.all j _ hj') (λb hb=>s.noin j hj' js hm.h b hb),n.g w0 Z w a s⟩⟩
theorem Giv.fi{e:Nat}(he:nth Fs e=some (.ri v R x))(n:Giv src Fs L js Fin):Giv (.fi e::src) Fs L js (.ri v R x::Fin):=⟨λw0 Z w a s=>by
 have h:R.rd w0 Z x [v]:=zz a he;refine ⟨R.Tn _ _ _ _ _ _ (λb h1 h2=>s.chg.block b h1 h2) (λb hf=> ?_) h,n.g w0 Z w a s⟩;obtain ⟨j,it,hj,hbs⟩:=vw.1 hf;obtain ⟨k,_,hk⟩:=et hj;rcases xK hk with hk|rfl
 ·exact s.own k it hk b hbs
 ·cases hbs⟩
end
section
variable {ρ:Type} {Fs:List Fa} {L:List Item} {fr:Fr} {P:Program} {B:Func} {N:Nat} {w0:World} {Z:List Nat} {l:List Oper} {i:Nat}
def pnX(l:List Oper)(N:Nat)(fr:Fr)(i:Nat):Option Value:=match okO l N fr i with
 |some ⟨_,.binOp _ _ x _ _,_,_,_,_⟩=>look fr x
 |_=>none
def pnR(P:Program)(l:List Oper)(N:Nat)(fr:Fr)(i:Nat)(u:Value):Option Value:=match okO l N fr i with
 |some ⟨_,.binOp op t x y _,_,_,_,_⟩=>match look fr y with
  |some u2=>aj P (do eqGuard op t x y u u2;binOp op t u u2)
  |none=>none
 |_=>none
theorem QH{h:LH}{o:Option α}{b1 b2:Bool}(he:nth Fs e=some (.ri v (Kf T enc) o))(hv:KR (pnX l N fr i) (some v))(h0:KR (pnR P l N fr i (.pointer none)) (some (.bool b1)))(h1:∀b k,KR (pnR P l N fr i (.pointer (some ⟨b,k,none⟩))) (some (.bool b2))):
  LkV Fs fr P B N w0 Z h l i (.bool (match o with|none=>b1|some _=>b2)):=by
 have hv:=hv.h;unfold pnX at hv;split at hv
 ·rename_i d op t x y t2 ty pos af gg ho
  refine LkV.of ho rfl λal a w ha=> ?_
  have e1:=ha.look hv
  have key:∀u r,v=u->pnR P l N fr i u=some r->(execOp a.eval ⟨d,.binOp op t x y t2,ty,pos,af,gg⟩).run P w=.ok (.value r) w:=by
   intro u r hu hr;subst hu;unfold pnR at hr;rw [ho] at hr;dsimp only at hr;split at hr
   ·rename_i u2 hy
    have e2:=ha.look hy;have e3:=qV hr w
    have e4:(do pure (Next.value (<- (do eqGuard op t x y v u2;binOp op t v u2))):Sem Next).run P w=.ok (.value r) w:=by
     simp only [Sem.run_bind,e3];rfl
    simp only [execOp,e1,e2];exact e4
   ·cases hr
  have hf:(Kf T enc).rd w0 Z o [v]:=zz al he;cases o with
  |none=>
   have hf:[v]=[Value.pointer none]:=hf;exact key _ _ (by simpa using hf) h0.h
  |some x=>
   obtain ⟨b,A,C,hb,_⟩:=hf;exact key _ _ (by simpa using hb) (h1 b A.length).h
 ·cases hv
theorem LkV.pn{α:Type}{o:Option α}{T:TypeId}{enc:α->List Value}{v:Value}{e:Nat}(he:nth Fs e=some (.ri v (Kf T enc) o))(hv:KR (pnX l N fr i) (some v))(h0:KR (pnR P l N fr i (.pointer none)) (some (.bool false)))(h1:∀b k,KR (pnR P l N fr i (.pointer (some ⟨b,k,none⟩))) (some (.bool true))):
  LkV Fs fr P B N w0 Z (.pn e) l i (.bool o.isSome):=by
 have:=QH (B:=B) (h:=.pn e) (w0:=w0) (Z:=Z) he hv h0 h1
 grind
def swP(P:Program)(l:List Oper)(N:Nat)(fr:Fr)(i:Nat):Option (Option Addr×Nat×Nat×Int×Nat):=match cpC P l N fr i with
 |some (.slice a k c,some q,none,sz)=>some (a,k,c,q,sz)
 |_=>none
def swV(p:Option (Option Addr×Nat×Nat×Int×Nat))(m:Nat):Value:=match p with
 |some (a,_,c,q,sz)=>.slice (shd a c q.toNat sz) m (c-q.toNat)
 |none=>undef
def swK(p:Option (Option Addr×Nat×Nat×Int×Nat)):Option (Nat×Int):=match p with
 |some (_,k,_,q,_)=>some (k,q)
 |none=>none
theorem LkV.sw{α:Type}{q:Nat}{xs ys:List α}{lo:Int}(hq:nth Fs q=some (.oe (cut xs lo ((xs.length:Nat):Int)) ys))(hc:KR (swK (swP P l N fr i)) (some (xs.length,lo))):
  LkV Fs fr P B N w0 Z (.sw q) l i (swV (swP P l N fr i) ys.length):=by
 have hc:=hc.h;cases hs:swP P l N fr i with
 |none=>rw [hs] at hc;cases hc
 |some u=>
  obtain ⟨a,k,c,q',sz⟩:=u;rw [hs] at hc;simp only [swK,g9,o7] at hc;obtain ⟨rfl,rfl⟩:=hc;unfold swP at hs;split at hs
  ·rename_i a' k' c' q2 sz' hcp
   simp only [g9,o7] at hs;obtain ⟨rfl,rfl,rfl,rfl,rfl⟩:=hs;unfold cpC at hcp;split at hcp
   ·rename_i ho
    split at hcp
    ·rename_i h1 h2
     split at hcp
     ·rename_i hz
      split at hcp
      ·grind
      ·split at hcp
       ·rename_i h3
        cases hcp
        exact LkV.of ho rfl λal r w hr=>fN _ rfl h2 rfl h3 (zz al hq) h1 hz r w hr
       ·cases hcp
      ·grind
      ·cases hcp
     ·cases hcp
    ·cases hcp
   ·cases hcp
  ·cases hs
theorem EG{m:Nat}{b:Nat}(hb:b∈(cY (.slice (shd a c q sz) m (c-q))).toList):b∈(cY (.slice a n c)).toList:=by
 cases c with
 |zero=>rw [Nat.zero_sub,ez] at hb;cases hb
 |succ c=>
  cases a with
  |none=>
   have:shd none (c+1) q sz=none:=by grind [shd]
   rw [this] at hb;cases hb
  |some a=>
   by_cases hcq:c+1=q
   ·rw [hcq,Nat.sub_self,ez] at hb;cases hb
   ·have e1:shd (some a) (c+1) q sz=some (a.add (q*sz)):=by unfold shd;rw [d8 hcq];rfl
    rw [e1] at hb;rcases yn (c+1-q) with h0|h0
    ·grind [ez]
    ·rw [xL h0] at hb;rw [xL (Nat.succ_pos c)]
     have e2:(a.add (q*sz)).block=a.block:=by
      obtain ⟨b0,o0,s0⟩:=a;unfold Addr.add
      grind
     grind
end
section
variable {α:Type} {w0 w:World} {S0:List Nat} {L:List Item} {Fs:List Fa}
theorem St.sufN{R:Rp α}{xs ys:List α}(hst:St w0 S0 w L)(j:Nat)(hj:L[j]? =some (nI T R (.slice a n c) S xs none)){q:Int}(hc:cut xs q (xs.length:Int)=some ys):
  ∃S',St w0 S0 w (L.set j (nI T R (.slice (shd a c q.toNat R.sz) ys.length (c-q.toNat)) S' ys none)):=by
 obtain ⟨css,Ss,h⟩:=hst.all j _ hj;obtain ⟨h0,h1,h2,e⟩:=aY hc;have hys:ys=xs.drop q.toNat:=by rw [e];simp
 have hcc:cut css q (css.length:Int)=some (css.drop q.toNat):=by
  have:cut css q (css.length:Int)=some ((css.take (css.length:Int).toNat).drop q.toNat):=by
   unfold cut;rw [h.lc];simp [h0,h1]
  rw [this];simp
 have hrow:dJ w T R.sz (.slice a n c) css.length (jQ (fit R.sz) css):=by rw [h.lc];exact h.row
 have hs:=dJ.suf (enc:=fit R.sz) (λ_=>cZ _ _) hrow hcc;have hl:(css.drop q.toNat).length=ys.length:=by rw [hys];simp [h.lc]
 have hnd:=h.nd;rw [h.hS] at hnd;obtain ⟨n1,n2,n3⟩:=k7.1 hnd
 have hsub:∀b∈(Ss.drop q.toNat).flatten,b∈Ss.flatten:=λb hb=>by
  obtain ⟨s,hs1,hs2⟩:=k6.1 hb;exact k6.2 ⟨s,List.mem_of_mem_drop hs1,hs2⟩
 have hfl:Ss.flatten=(Ss.take q.toNat).flatten++(Ss.drop q.toNat).flatten:=by rw [<- yp,yg]
 have nds:(Ss.drop q.toNat).flatten.Nodup:=by grind
 have ndo:(cY (.slice (shd a c q.toNat R.sz) ys.length (c-q.toNat))).toList.Nodup:=cI
 have nd':((cY (.slice (shd a c q.toNat R.sz) ys.length (c-q.toNat))).toList++(Ss.drop q.toNat).flatten).Nodup:=
  k7.2 ⟨ndo,nds,λx hx y hy exy=>by grind [EG]⟩
 refine ⟨(cY (.slice (shd a c q.toNat R.sz) ys.length (c-q.toNat))).toList++(Ss.drop q.toNat).flatten,?_⟩;refine hst.upd j hj (w9 _ _) ⟨css.drop q.toNat,Ss.drop q.toNat,?_⟩ (λb hb=>.inl ?_) nd'
 ·refine ⟨by rw [<- hl];exact hs,hl,by rw [hys];simp [h.ls],rfl,nd',λ_ _ e=>(by cases e),λi cs S' x _ h3 h4 h5=> ?_⟩;rw [hys] at h5;rw [List.getElem?_drop] at h3 h4 h5;exact h.own _ cs S' x (λ_ e=>by cases e) h3 h4 h5
 ·show b∈S;rw [h.hS];have hb:b∈(cY (.slice (shd a c q.toNat R.sz) ys.length (c-q.toNat))).toList++(Ss.drop q.toNat).flatten:=hb
  grind [EG]
theorem Adm.sfN{j q n c:Nat}{T:TypeId}{R:Rp α}{a:Option Addr}{S:List Nat}{xs xs' ys:List α}{lo:Int}{L1:List Nat->List Item}(hq:nth Fs q=some (.oe (cut xs lo ((xs.length:Nat):Int)) ys))(hj:nth L j=some (nI T R (.slice a n c) S xs' none))(hxx:KR xs' xs)
  (hL:∀S',dc L j (nI T R (.slice (shd a c lo.toNat R.sz) ys.length (c-lo.toNat)) S' ys none)=some (L1 S')):Adm (.sfN j q) Fs L L1 (λ_=>Fs):=⟨λw0 Z w al s=>by
 have hj':L[j]? =some (nI T R (.slice a n c) S xs none):=by rw [<- zP,<- hxx.h];exact hj
 obtain ⟨S',s'⟩:=s.sufN j hj' (zz al hq)
 grind [qJ]⟩
theorem Adm.sfx{j q n c sz:Nat}{T:TypeId}{enc:α->List Value}{a:Option Addr}{xs xs' ys:List α}{lo:Int}{L1:List Item}(hq:nth Fs q=some (.oe (cut xs lo ((xs.length:Nat):Int)) ys))(hj:nth L j=some (qi (.slice a n c) T enc sz xs'))(hz:∀x,KR (enc x).length sz)(hxx:KR xs' xs)
  (hL:dc L j (qi (.slice (shd a c lo.toNat sz) ys.length (c-lo.toNat)) T enc sz ys)=some L1):Adm (.sfx j q) Fs L (λ_:Unit=>L1) (λ_=>Fs):=⟨λw0 Z w al s=>by
 have hj':L[j]? =some (qi (.slice a n c) T enc sz xs):=by rw [<- zP,<- hxx.h];exact hj
 exact ⟨(),by rw [qJ hL];exact s.sufRow j hj' (λx=>(hz x).h) (zz al hq),al⟩⟩
theorem Adm.ctr{j q n c sz:Nat}{T:TypeId}{enc:α->List Value}{a:Option Addr}{xs xs' ys:List α}{hi:Int}{L1:List Item}(hq:nth Fs q=some (.oe (cut xs 0 hi) ys))(hj:nth L j=some (qi (.slice a n c) T enc sz xs'))(hz:∀x,KR (enc x).length sz)(hxx:KR xs' xs)
  (hL:dc L j (qi (.slice a ys.length c) T enc sz ys)=some L1):Adm (.ctr j q) Fs L (λ_:Unit=>L1) (λ_=>Fs):=⟨λw0 Z w al s=>by
 have hj':L[j]? =some (qi (.slice a n c) T enc sz xs):=by rw [<- zP,<- hxx.h];exact hj
 exact ⟨(),by rw [qJ hL];exact s.cutRow j hj' (λx=>(hz x).h) (zz al hq),al⟩⟩
theorem GO.clr{ρ:Type}{hs:List H}{f:Option ρ}{r:ρ}{fr:Fr}{P:Program}{B:Func}{N:Nat}{w0:World}{Z:List Nat}{l:List Oper}{i:Nat}{Q:Exit->Act->World->Prop}{j q n c sz:Nat}{t e T:TypeId}{ats:List Nat}{x:Operand}{ty:TypeId}{pos:String}{af:Array Edge}{gdd:Option (Nat×Bool)}{enc:α->List Value}{a:Option Addr}{xs xs' ys:List α}{lo:Int}{z:α}{L1:List Item}
  (hq:nth Fs q=some (.oe (cut xs lo ((xs.length:Nat):Int)) ys)) (hj:nth L j=some (qi (.slice a n c) T enc sz xs')) (hz:∀x,KR (enc x).length sz) (hxx:KR xs' xs)
  (hl:vk l i=some ⟨none,.call ⟨.builtin .clear,[x].toArray,ats.toArray⟩,ty,pos,af,gdd⟩) (hg:KR (gd l fr ⟨none,.call ⟨.builtin .clear,[x].toArray,ats.toArray⟩,ty,pos,af,gdd⟩) (some true))
  (hx:KR (Go.Sx.look fr x) (some (.slice (Go.Sx.shd a c lo.toNat sz) ys.length (c-lo.toNat)))) (ha0:ats[0]? =some t) (ht:P.underlying t=some (.slice e))
  (hzz:KR ((aj P (zeroValue e)).map (·.cells.toList)) (some (enc z))) (h1:KR (eA (enc z)) true)
  (hL:dc L j (qi (.slice a n c) T enc sz (xs.take lo.toNat++List.replicate ys.length z))=some L1) (n':GO hs f r Fs L1 fr P B N w0 Z l (i+1) Q):GO (.clr j q z::hs) f r Fs L fr P B N w0 Z l i Q:=⟨λw al s hk=>by
 have hj':L[j]? =some (qi (.slice a n c) T enc sz xs):=by rw [<- zP,<- hxx.h];exact hj
 refine OW.clearR s j hj' (λx=>(hz x).h) hl hg.h (zz al hq) hx.h ha0 ht z hzz.h h1.h λw' s'=> ?_
 exact n'.o w' al (by grind [qJ]) hk⟩
theorem Adm.tp{A:Rp α}{B:World->List Nat->Rp α}{j:Nat}{h:Cv A B}{cs:List Value}{S:List Nat}{x:α}{L0 L1:World×List Nat×List Nat->List Item}(hj:nth L j=some (itI A cs S x))(hL:∀p,dc L j (itI (B p.1 (coS p.1 p.2.1)) cs p.2.2 x)=some (L0 p))(hA:∀p,vc (L0 p) (rC p.1 p.2.1)=some (L1 p)):
  Adm (.tp j h) Fs L L1 (λ_=>Fs):=⟨λw0 Z w al s=>by
 obtain ⟨wb,Sp,So,s'⟩:=s.toPool h j (by rw [<- zP];exact hj)
 exact ⟨(wb,Sp,So),by grind [vI,qJ],al⟩⟩
end
section
variable {ρ:Type} {hs:List H} {f:Option ρ} {r:ρ} {Fs:List Fa} {L:List Item} {fr:Fr} {P:Program} {B:Func} {N:Nat} {w0:World} {Z:List Nat} {Q:Exit->Act->World->Prop} {l:List Oper} {i:Nat}
theorem GO.nl{α:Type}{j m c sz:Nat}{qs:List Nat}{a:Option Addr}{T:TypeId}{enc:α->List Value}{xs:List α}{L1:List Item}(hj:nth L j=some (qi (.slice a m c) T enc sz xs))(hq:KR (AV fr qs) (AW (.slice a m c) qs))
  (hL:dc L j (qi (.slice a xs.length c) T enc sz xs)=some L1) (n:GO hs f r Fs L1 (reh (.slice a xs.length c) qs fr) P B N w0 Z l i Q):GO (.nl j qs::hs) f r Fs L fr P B N w0 Z l i Q:=⟨λw al s g b hb=>by
 have hm:=s.rlen hj;have hq:=hq.h;rw [hm] at hq hj
 have e1:L1=L:=by
  rw [qJ hL];have hj':L[j]? =some (qi (.slice a xs.length c) T enc sz xs):=by grind [zP]
  apply m6
  grind
 subst e1;exact n.o w al s g b (uG hb hq)⟩
theorem GP.fp{α:Type}{hs:List H}{done eff:List Nat}{pd:List (Nat×Pn)}{j:Nat}{T:TypeId}{enc:α->List Value}{u:Value}{S:List Nat}{o:Option α}{L1:α->Nat->List Value->List Value->List Item}{k:α->Option ρ}(hj:nth L j=some (itI (Kf T enc) [u] S o))(hL:∀y b A C,dc L j (db b T A (enc y) C)=some (L1 y b A C))
  (n:∀y b A C,u=.pointer (some ⟨b,A.length,none⟩)->GP hs (k y) r Fs (L1 y b A C) fr P B N w0 Z l done eff pd Q):GP (.fp j::hs) (o.bind k) r Fs L fr P B N w0 Z l done eff pd Q:=⟨λw a s e=>by
 obtain ⟨y,hy,hk⟩:=zI e;obtain ⟨b,A',C,hu,s2⟩:=Kc hj s hy;exact (n y b A' C hu).o w a (by rw [qJ (hL y b A' C)];exact s2) hk⟩
theorem GQ.rI{M:Nat}{fn:Func}{fr':Fr}{B0:Func}(hf:fn.results= #[])(n:GO hs f r Fs L ((dst l i,.tuple #[])::fr) P B N w0 Z l (i+1) Q):
 GQ (.rI::hs) f r Fs L fr' P B0 M w0 Z .normal (bodyPost P fn (IQ P l N Q i fr B)):=⟨λw a s q=>QW.end0 hf ⟨_,rfl,n.o w a s q⟩⟩
theorem Sim.nrowH{A B:List Item}{m m':Nat}{T':TypeId}{xs':List α}{h h':Option (Nat×List Value)}(h0:Ln m m')(h1:KR T T')(h2:KR xs xs')(h3:KR h h')(n:Sim A B):
 Sim (nI T R (.slice a m c) S xs h::A) (nI T' R (.slice a m' c) S xs' h'::B):=⟨by rw [h0.h,h1.h,h2.h,h3.h,n.e]⟩
theorem Sim.pool{A B:List Item}{Sp:List Nat}(n:Sim A B):Sim (rC wb Sp::A) (rC wb Sp::B):=⟨by rw [n.e]⟩
theorem Adm.opk{α ι:Type}{j b q:Nat}{S:List Nat}{L Lq:List Item}{Fs:List Fa}{T:TypeId}{R:Rp α}{x:α}{need:Fa}{cells:ι->α->List Value}{its:ι->α->List Item}{fcs:ι->α->List Fa}{h:OpK R need cells its fcs}
  {L0 L1:ι->List Item} {Fs1:ι->List Fa}
  (hj:nth L j=some (itI (vC T R) [.pointer (some ⟨b,0,none⟩)] S x)) (hq:nth Fs q=some need) (hN:dc L j nilI=some Lq) (hA:∀i,lw Lq (jT b T (cells i x)::its i x)=some (L0 i))
  (hL:∀i,fP (L0 i) (AQ j L.length L.length 0 (upto (L.length+1) (its i x).length)) []=some (L1 i)) (hd:∀i,KR (zQ (AQ j L.length L.length 0 (upto (L.length+1) (its i x).length))) true) (hF:∀i,lw Fs (fcs i x)=some (Fs1 i)):
  Adm (.opk j q h) Fs L L1 Fs1:=⟨λw0 Z w a s=>by
 have hj':L[j]? =some (itI (vC T R) [.pointer (some ⟨b,0,none⟩)] S x):=by grind [zP]
 have ho:=s.all j _ hj';obtain ⟨b',cs',S',h1,rfl,h3,h4,h5⟩:=ho;cases h1;obtain ⟨i,rfl,hp,hf⟩:=h.o w0 Z w _ _ _ ⟨zz a hq,trivial⟩ h5;refine ⟨i,?_,by rw [bJ (hF i)];exact LY w0 Z a hf⟩
 have hB:ak w (b::S') (jT b T (cells i x)::its i x):=ak.cons h4 (by simp [jT]) (by simp [jT]) (S2:=S') (by grind [jT]) hp (λc hc=>zcm _ hc);have s2:=s.burst j hj' hB;rw [<- qJ hN,<- bJ (hA i)] at s2;have:=xk (hL i);rw [i9] at this;rw [this];exact s2.keep _ (hd i).h⟩
theorem GO.here{ρ:Type}{hs:List H}{f:Option ρ}{r:ρ}{Fs:List Fa}{L:List Item}{fr:Fr}{P:Program}{B:Func}{N:Nat}{w0:World}{Z:List Nat}{l:List Oper}{i:Nat}{Q:Exit->Act->World->Prop}(h:GO hs f r Fs L fr P B N w0 Z l i Q):GO hs f r Fs L fr P B N w0 Z l i Q:=h
theorem GC.here{ρ:Type}{hs:List H}{f:Option ρ}{r:ρ}{Fs:List Fa}{L:List Item}{fr:Fr}{P:Program}{B:Func}{N:Nat}{w0:World}{Z:List Nat}{c:Code}{Q:Exit->Act->World->Prop}(h:GC hs f r Fs L fr P B N w0 Z c Q):GC hs f r Fs L fr P B N w0 Z c Q:=h
theorem GQ.here{ρ:Type}{hs:List H}{f:Option ρ}{r:ρ}{Fs:List Fa}{L:List Item}{fr:Fr}{P:Program}{B:Func}{N:Nat}{w0:World}{Z:List Nat}{e:Exit}{Q:Exit->Act->World->Prop}(h:GQ hs f r Fs L fr P B N w0 Z e Q):GQ hs f r Fs L fr P B N w0 Z e Q:=h
theorem GS.here{ρ:Type}{hs:List H}{f:Option ρ}{r:ρ}{Fs:List Fa}{L:List Item}{fr:Fr}{P:Program}{B:Func}{N:Nat}{w0:World}{Z:List Nat}{l:List Oper}{i:Nat}{m:Bool}{Q:Exit->Act->World->Prop}(h:GS hs f r Fs L fr P B N w0 Z l i c m Q):GS hs f r Fs L fr P B N w0 Z l i c m Q:=h
theorem GP.here{ρ:Type}{hs:List H}{f:Option ρ}{r:ρ}{Fs:List Fa}{L:List Item}{fr:Fr}{P:Program}{B:Func}{N:Nat}{w0:World}{Z:List Nat}{l:List Oper}{done eff:List Nat}{pd:List (Nat×Pn)}{Q:Exit->Act->World->Prop}(h:GP hs f r Fs L fr P B N w0 Z l done eff pd Q):GP hs f r Fs L fr P B N w0 Z l done eff pd Q:=h
theorem Adm.here{h0:AH}{Fs:List Fa}{L:List Item}{L1:ι->List Item}{Fs1:ι->List Fa}(h:Adm h0 Fs L L1 Fs1):Adm h0 Fs L L1 Fs1:=h
theorem jn.here{β:Type}{Fs:List Fa}{A:Rp β}{vs:ι->β->List Value}{its:ι->β->List Item}{fcs:ι->β->List Fa}(h:jn ks q Fs A vs its fcs):jn ks q Fs A vs its fcs:=h
theorem qK.here{β:Type}{ks:List Pa}{Fs:List Fa}{L:List Item}{A:Rp β}{js:List Nat}{vs:List Value}{y:β}(h:qK ks Fs L A js vs y):qK ks Fs L A js vs y:=h
theorem LkV.here{Fs:List Fa}{fr:Fr}{P:Program}{B:Func}{N:Nat}{w0:World}{Z:List Nat}{h0:LH}{l:List Oper}{i:Nat}(h:LkV Fs fr P B N w0 Z h0 l i v):LkV Fs fr P B N w0 Z h0 l i v:=h
theorem Giv.here{src:List Src}{Fs:List Fa}{L:List Item}{js:List Nat}{Fin:List Fa}(h:Giv src Fs L js Fin):Giv src Fs L js Fin:=h
theorem GQ.popN{σ τ:Type}{hs:List H}{Fs:List Fa}{L:List Item}{fr:Fr}{P:Program}{B:Func}{N:Nat}{w0:World}{Z:List Nat}{ex:Exit}{x x':σ}{k:σ->Option τ}{r':τ}{Q:Exit->Act->World->Prop}(hq:nth Fs q=some (.po k x r'))(n:GQ hs (k x') r' Fs L fr P B N w0 Z ex Q):GQ (.pop q::hs) (some x') x Fs L fr P B N w0 Z ex Q:=⟨λw a s e=>by
 cases e
 exact n.o w a s (zz a hq)⟩
theorem EH{w:World}{Sb:List Nat}{cs:List Value}{x:List α}(h:(Hl wb Sb enc sz).own w cs S x):eA cs=true:=by
 obtain ⟨v,rfl,_,hr⟩:=h;obtain ⟨_,a,c,rfl⟩:=Rd.len hr;rfl
structure QI {ρ ι:Type} (P:Program) (name:String) (v:Value) (args:List Value) (Fs:List Fa) (L:List Item) (f:Option ρ) (post:ρ->ι->Value×List Item):Prop where
 c:∀w r,bC w (fp L) Fs->St w (fp L) w L->f=some r->M6 P v name args w (RQ w (fp L) post r)
structure O4 {ρ ι:Type} (P:Program) (name:String) (v:Value) (args:List Value) (Fs:List Fa) (L:List Item) (f:Option ρ) (post:ρ->ι->Value×List Item):Prop where
 h:QI P name v args Fs L f post
theorem M6.mono{P:Program}{v:Value}{name:String}{args:List Value}{w:World}{R R':Ending->World->Prop}(h:M6 P v name args w R)(k:∀e w',R e w'->R' e w'):M6 P v name args w R':=by
 obtain ⟨a,b,h1,h2⟩:=h;exact ⟨a,b,h1,h2.mono k⟩
def icC(l:List Oper)(N:Nat)(fr:Fr)(i:Nat):Option (Value×String×List Value):=match okO l N fr i with
 |some ⟨_,.call ⟨.invoke x name,ys,_⟩,_,_,_,_⟩=>match look fr x,looks fr ys.toList with
  |some v,some us=>some (v,name,us)
  |_,_=>none
 |_=>none
theorem GO.ci{σ ι:Type}{S:Prop}{js rest:List Nat}{src:List Src}{name:String}{v:Value}{args:List Value}{o:Option σ}{k:σ->Option ρ}{post:σ->ι->Value×List Item}{Fin:List Fa}{Lin Lq Bq:List Item}{L1:σ->ι->List Item}[C:HasC o S]
  (hS:S->O4 P name v args Fin Lin o post) (hL:fP L js []=some Lq) (hM:Sim Lq Lin) (hg:Giv src Fs L js Fin) (hp:KR (icC l N fr i) (some (v,name,args))) (hB:fP L rest []=some Bq) (hJ:∀x q,lw (post x q).2 Bq=some (L1 x q))
  (hd:KR (zQ (js++rest)) true) (n:∀x q,GO hs (k x) r Fs (L1 x q) ((dst l i,(post x q).1)::fr) P B N w0 Z l (i+1) Q):GO (.ci js src rest::hs) (o.bind k) r Fs L fr P B N w0 Z l i Q:=⟨λw a s q=>by
 obtain ⟨x,hx,hk⟩:=zI q;have hp:=hp.h;unfold icC at hp;split at hp
 ·rename_i d' x' name' ys ats _ _ _ _ ho
  split at hp
  ·rename_i v' as' hv ha
   cases hp
   obtain ⟨d,hl,hg',hdd,hN⟩:=jD ho;have hde:=vl hl hdd;simp only at hdd;subst hdd;have e1:=xk hL;have e2:=xk hB;rw [hM.e] at e1;rw [i9] at e1 e2;subst e1 e2;refine OW.inv (ys:=ys.toList) (ats:=ats.toList) hl hg' hN hv ha ((hS C.c).h.c w x (hg.g w0 Z w a s) (s.part js (by have:=hd.h;exact dt this)) hx) ?_
   rintro e w' ⟨i',rfl,s'⟩;refine ⟨_,rfl,?_⟩;have h3:=(n x i').o w' a (by rw [bJ (hJ x i')];exact s.join hd.h s') hk
   grind
  ·cases hp
 ·cases hp⟩
end
section
variable {α β ρ:Type} {hs:List H} {h:LH} {f:Option ρ} {r:ρ} {Fs:List Fa} {L:List Item} {fr:Fr} {P:Program} {B:Func} {N:Nat} {w0:World} {Z:List Nat} {Q:Exit->Act->World->Prop} {l:List Oper} {i j q:Nat} {e:Exit} {wb:World} {Sb:List Nat} {T:TypeId} {enc:β->List Value} {sz:Nat} {he:∀x,(enc x).length=sz} {hp:0<sz}
theorem qK.rowF{xs:List β}(hj:nth L j=some (qi v T enc sz xs)):qK [.r j] Fs L (uq T enc sz he hp) [j] [v] xs:=
 qK.item hj λw ho=>EI ho
theorem qK.frz{g:Nat}{xs:List β}(hj:nth L j=some (Lu g enc sz xs)):qK [.pr j] Fs L (uq T enc sz he hp) [j] [.slice (some ⟨g,0,none⟩) xs.length xs.length] xs:=
 qK.item hj λw ho=>⟨_,rfl,by simp [Lu],(Lu g enc sz xs).lt w ho,λw' F h1 hF=>by
  obtain ⟨⟨h1,a,c,hv,hlc,hc⟩,_⟩:=(Lu g enc sz xs).loc w w' h1 ho;refine ⟨h1,a,c,hv,hlc,λt x f u hx hu=> ?_⟩;obtain ⟨b',o,ha,hn,hcell⟩:=hc t x f u hx hu
  have hb':b'=g:=by
   rw [ha] at hv;simp only [Value.slice.injEq,g9,Addr.mk.injEq] at hv;exact hv.1.1.symm
  subst hb';exact ⟨b',o,ha,hF b' (by simp [Lu]),hcell⟩⟩
theorem lO.rowF(hq:nth Fs q=some (.bo wb Sb)):lO [1] q Fs wb Sb (uq T enc sz he hp) (λ(i:Option Addr×Nat)y=>[.slice i.1 y.length i.2]) (λi y=>[.rb wb Sb (.slice i.1 y.length i.2) enc sz y,.rd (.slice i.1 y.length i.2) enc sz y]):=⟨by
 rintro w0 Z cs y a ⟨v,rfl,ho⟩;obtain ⟨_,p,c,rfl⟩:=Rd.len ho;exact ⟨(p,c),rfl,ho,ho.bor (zz a hq),trivial⟩⟩
theorem lM.rowF:lM [1] (uq T enc sz he hp) (λ(i:Option Addr×Nat)y=>[.slice i.1 y.length i.2]) (λi y=>[.rd (.slice i.1 y.length i.2) enc sz y]):=⟨by
 rintro w Z cs y ⟨v,rfl,h⟩;obtain ⟨_,a,c,rfl⟩:=Rd.len h;exact ⟨(a,c),rfl,h,trivial⟩⟩
def Q6(P:Program)(l:List Oper)(N:Nat)(fr:Fr)(i:Nat):Option Value:=match okO l N fr i with
 |some ⟨_,.convert t t' x,_,_,_,_⟩=>match Nat.beq t t',look fr x,P.underlying t with
  |true,some v,some (.slice e)=>match P.underlying e with
   |some (.int .u8)=>some v
   |_=>none
  |_,_,_=>none
 |_=>none
theorem GO.mkf{g n:Nat}{xs:List β}{Lq:List Item}(hj:nth L j=some (qi (.slice (some ⟨g,0,none⟩) n n) T enc sz xs))(hc:KR (Q6 P l N fr i) (some (.slice (some ⟨g,0,none⟩) n n)))(hen:∀x,(enc x).length=sz)(hn:KR xs.length n)(hn0:KR (Nat.blt 0 n) true)(hL:dc L j (Lu g enc sz xs)=some Lq)
  (k:GO hs f r Fs Lq ((dst l i,.slice (some ⟨g,0,none⟩) n n)::fr) P B N w0 Z l (i+1) Q):GO (.mkf j::hs) f r Fs L fr P B N w0 Z l i Q:=⟨λw a s e=>by
 have hc:=hc.h;unfold Q6 at hc;split at hc
 ·rename_i d' t t' x ty pos af gdd hok
  split at hc
  ·rename_i v el ht hx hu
   split at hc
   ·rename_i he
    cases hc
    obtain ⟨d,hl,hg,hd,hN⟩:=jD hok;simp only at hd;subst hd;obtain rfl:=t6 ht;refine OW.mark s j (by rw [<- zP];exact hj) hl hg hN hx hu he hen hn.h (by have:=hn0.h;simpa [u6] using this) λw' s'=> ?_
    have h1:=k.o w' a (by rw [qJ hL];exact s') e
    rw [vl hl rfl] at h1;exact h1
   ·cases hc
  ·cases hc
 ·cases hc⟩
def avC(P:Program)(l:List Oper)(N:Nat)(fr:Fr)(i:Nat):Option (Int×List Value×Nat×Nat×Bool):=match okO l N fr i with
 |some ⟨_,.index t x y,_,_,_,_⟩=>match look fr x,look fr y,P.underlying t with
  |some (.agg cs),some (.int .i64 k),some (.array n e)=>match aj P (sizeOf e),aj P (isAgg e) with
   |some z,some b=>some (k,cs.toList,n,z,b)
   |_,_=>none
  |_,_,_=>none
 |_=>none
theorem LkV.ai{n k sz:Nat}{t:Int}{a:Nat->β}(hq:nth Fs q=some (.oe (ain n t) k))(hc:KR (avC P l N fr i) (some (t,eG enc n a,n,sz,true)))(he:∀x,(enc x).length=sz):LkV Fs fr P B N w0 Z (.ai q sz enc a) l i (.agg (enc (a k)).toArray):=by
 have hc:=hc.h;unfold avC at hc;split at hc
 ·rename_i d' ty x y b' p' ty' pos af gdd hok
  split at hc
  ·rename_i cs kk m e hx hy ht
   split at hc
   ·rename_i z b hs hg
    simp only [g9,o7] at hc;obtain ⟨rfl,hcs,rfl,rfl,rfl⟩:=hc;refine LkV.of hok rfl λal b w hb=> ?_
    obtain ⟨h1,h2,h3,h4⟩:=rO (zz al hq);refine Lv (xs:=(List.range m).map a) (u:=a k) rfl ?_ hy ht hs hg he (by simp) ?_ b w hb
    ·rw [hx,<- lH,<- hcs]
    ·unfold idx;rw [d7 h1,h4];simp [h3]
   ·cases hc
  ·cases hc
 ·cases hc
end
end
open Go.RowKit
variable {α:Type} {S:List Nat} {v:Value} {sz:Nat} {T:TypeId} {i:Nat} {xs:List α} {x a:α}
theorem Hx{β:Type}{P:Nat->β->Prop}:∀n:Nat,(∀t,t<n->∃r,P t r)->∃rs:List β,rs.length=n/\∀t r,rs[t]? =some r->P t r
 |0,_=>⟨[],rfl,λt r h=>by simp at h⟩
 |n+1,h=>by
  obtain ⟨rs,hl,hp⟩:=Hx n λt ht=>h t (by omega)
  obtain ⟨r,hr⟩:=h n (by omega);refine ⟨rs++[r],by simp [hl],λt r' ht=> ?_⟩;rcases Nat.lt_or_ge t rs.length with h1|h1
  ·rw [x9 h1] at ht;exact hp t r' ht
  ·rw [y4 h1] at ht
   have h2:t-rs.length=0:=by
    rcases yn (t-rs.length) with h2|h2
    ·exact h2
    ·rw [RP (by simp;omega)] at ht;cases ht
   rw [h2] at ht;obtain rfl:r=r':=by simpa using ht
   have:t=n:=by omega
   subst this;exact hr
theorem RdN.rows{β:Type}{w:World}{D:World->List Nat->α->List Value->Prop}{enc:β->List Value}(g:β->α)(G:β->Prop)
  (hd:∀x cs,D w S x cs->∃r,g r=x/\enc r=cs/\G r) (h:RdN w S v D sz xs):∃rs:List β,rs.map g=xs/\Rd w S v enc sz rs/\∀r∈rs,G r:=by
 obtain ⟨hn,a,c,hv,hlc,hc⟩:=h
 obtain ⟨rs,hl,hp⟩:=Hx (P:=λt r=>xs[t]? =some (g r)/\G r/\∃b o,a=some ⟨b,o,none⟩/\b∉S/\∀f u,(enc r)[f]? =some u->w.cell? ⟨b,o+t*sz+f,none⟩=some u) xs.length λt ht=>by
  obtain ⟨cs,h1,b,o,h2⟩:=hc t xs[t] (zeg ht);obtain ⟨r,e1,e2,e3⟩:=hd _ _ h1;exact ⟨r,by rw [e1];exact zeg ht,e3,b,o,by rw [e2];exact h2⟩
 have hm:rs.map g=xs:=by
  refine m6 λt=> ?_
  rw [x5];cases ht:rs[t]? with
  |some r=>exact (hp t r ht).1.symm
  |none=>
   have:rs.length<=t:=by simpa using ht
   exact (RP (by omega)).symm
 refine ⟨rs,hm,⟨by omega,a,c,by rw [hl];exact hv,by omega,λt r f u hr hu=> ?_⟩,λr hr=> ?_⟩
 ·obtain ⟨_,_,b,o,h1,h2,h3⟩:=hp t r hr;exact ⟨b,o,h1,h2,h3 f u hu⟩
 ·obtain ⟨t,ht⟩:=v9 hr;exact (hp t r ht).2.1
theorem M0{α β γ:Type}{f:α->Option β}{g:α->Option γ}:∀{xs:List α} {u:Unit},xs.foldlM (λ(_:Unit)c=>(f c).bind λ_=>(g c).bind λ_=>some ()) ()=some u->∀x∈xs,(∃y,f x=some y)/\∃z,g x=some z
 |[],_,_=>by simp
 |x::xs,u,h=>by
  rw [List.foldlM_cons] at h;obtain ⟨u1,h1,h2⟩:=zI h;obtain ⟨y,hy,h1⟩:=zI h1;obtain ⟨z,hz,h1⟩:=zI h1;intro q hq;rcases j5.1 hq with rfl|hq
  ·exact ⟨⟨y,hy⟩,z,hz⟩
  ·exact M0 h2 q hq
section
variable {w w0:World} {S0:List Nat} {L:List Item} {α β γ:Type}
theorem St.toItF{enc:β->List Value}{ys:List β}(h:St w0 S0 w L)(j:Nat)(hj:L[j]? =some (qi v T enc sz ys))(he:∀x,(enc x).length=sz)(hp:0<sz):
 St w0 S0 w (L.set j (itI (uq T enc sz he hp) [v] (cY v).toList ys)):=h.turn j hj (EI (he:=he) (hp:=hp) (h.all j _ hj)) rfl
theorem St.fuseS{A1:Rp β}{A2:Rp γ}{v1 v2:Value}{S1 S2:List Nat}{y1:β}{y2:γ}{f:α->List Value->List Value}{hl:∀x vs,(f x vs).length=sz}{g:α->β×γ}(h:St w0 S0 w L)(R:Rp α)(hR:R=qL f sz hl g (jp A1 A2))(k j:Nat)(hkj:Nat.beq k j=false)
  (hk:L[k]? =some (itI A1 [v1] S1 y1)) (hj:L[j]? =some (itI A2 [v2] S2 y2)) (x:α) (hx:g x=(y1,y2)) {cs:List Value} (hcs:f x [v1,v2]=cs):St w0 S0 w ((L.set k (itI R cs (S1++S2) x)).set j nilI):=by
 have o1:=h.all k _ hk;have o2:=h.all j _ hj;have hd:∀b∈S1,b∉S2:=h.apart k j _ _ (p6 hkj) hk hj;refine h.fuse k j hkj hk hj (C:=itI R cs (S1++S2) x) ?_ ?_ (λb hb=>i5.1 hb)
 ·subst hR;exact ⟨[v1,v2],hcs.symm,by rw [hx];exact ⟨[v1],[v2],S1,S2,rfl,rfl,hd,o1,o2⟩⟩
 ·exact k7.2 ⟨h.nd k _ hk,h.nd j _ hj,λa ha b hb e=>by subst e;exact hd a ha hb⟩
theorem St.nRows{R:Rp α}{xs:List α}{enc:β->List Value}(h:St w0 S0 w L)(j:Nat)(hj:L[j]? =some (nI T R v S xs none))(g:β->α)(G:β->Prop)
  (he:∀r,(enc r).length=R.sz) (hd:∀w cs S' x,R.own w cs S' x->S'=[]/\∃r,g r=x/\enc r=cs/\G r):∃rs:List β,rs.map g=xs/\(∀r∈rs,G r)/\St w0 S0 w (L.set j (qi v T enc R.sz rs)):=by
 obtain ⟨css,Ss,hn⟩:=h.all j _ hj
 obtain ⟨rs,hl,hp⟩:=Hx (P:=λt r=>xs[t]? =some (g r)/\css[t]? =some (enc r)/\G r) xs.length λt ht=>by
  have h1:t<css.length:=by rw [hn.lc];exact ht
  have h2:t<Ss.length:=by rw [hn.ls];exact ht
  obtain ⟨_,r,e1,e2,e3⟩:=hd _ _ _ _ (hn.own t css[t] Ss[t] xs[t] (λ_ e=>by cases e) (zeg h1) (zeg h2) (zeg ht));exact ⟨r,by rw [e1];exact zeg ht,by rw [e2];exact zeg h1,e3⟩
 have hm:rs.map g=xs:=by
  refine m6 λt=> ?_
  rw [x5];cases ht:rs[t]? with
  |some r=>exact (hp t r ht).1.symm
  |none=>
   have:rs.length<=t:=by simpa using ht
   exact (RP (by omega)).symm
 have hm2:rs.map enc=css:=by
  refine m6 λt=> ?_
  rw [x5];cases ht:rs[t]? with
  |some r=>exact (hp t r ht).2.1.symm
  |none=>
   have:rs.length<=t:=by simpa using ht
   exact (RP (by have:=hn.lc;omega)).symm
 have hz:Ss.flatten=[]:=by
  rw [List.flatten_eq_nil_iff];intro S' hS';obtain ⟨t,ht⟩:=v9 hS';have h2:t<Ss.length:=(zes.1 ht).1;have h0:t<xs.length:=by rw [<- hn.ls];exact h2
  have h1:t<css.length:=by rw [hn.lc];exact h0
  exact (hd _ _ _ _ (hn.own t css[t] S' xs[t] (λ_ e=>by cases e) (zeg h1) ht (zeg h0))).1
 refine ⟨rs,hm,λr hr=>by obtain ⟨t,ht⟩:=v9 hr;exact (hp t r ht).2.2,h.turn j hj ?_ ?_⟩
 ·have:=hn.row;show dJ w T R.sz v rs.length (jQ enc rs);rw [hl,<- oB he,hm2];exact this
 ·show (cY v).toList=S;rw [hn.hS,hz,i9]
theorem St.nOfRows{enc:β->List Value}{rs:List β}(R:Rp α)(h:St w0 S0 w L)(j:Nat)(hs:sz=R.sz)(hj:L[j]? =some (qi v T enc sz rs))(g:β->α)(he:∀r,(enc r).length=sz)(hd:∀r∈rs,R.own w (enc r) [] (g r)):
  St w0 S0 w (L.set j (nI T R v (cY v).toList (rs.map g) none)):=by
 subst hs;have hr:=h.all j _ hj;have hz:(List.replicate rs.length ([]:List Nat)).flatten=[]:=by rw [List.flatten_eq_nil_iff];intro l hl;exact (List.mem_replicate.1 hl).2
 refine h.turn j hj ⟨rs.map enc,List.replicate rs.length [],?_,by simp,by simp,by rw [hz,i9],cI,(λ_ _ e=>by cases e),λi cs S' x _ hc hS hx=> ?_⟩ rfl
 ·rw [oB he,p8];exact hr
 ·rw [x5] at hc hx;cases hri:rs[i]? with
  |none=>rw [hri] at hc;cases hc
  |some r=>
   rw [hri] at hc hx;cases hc;cases hx;obtain rfl:S'=[]:=(List.mem_replicate.1 (zmg hS)).2;exact hd r (zmg hri)
theorem St.asRaw{enc:β->List Value}{rs:List β}(h:St w0 S0 w L)(j:Nat)(hj:L[j]? =some (qi v T enc sz rs))(he:∀r,(enc r).length=sz):St w0 S0 w (L.set j (qi v T (fit sz) sz (rs.map enc))):=by
 refine h.turn j hj ?_ rfl;show dJ w T sz v (rs.map enc).length (jQ (fit sz) (rs.map enc));rw [p8,oB he];exact h.all j _ hj
theorem Ke{R:Rp α}(w:World):(rD R [] [] []).Φ w:=⟨rfl,rfl,λi cs S x hc=>by simp at hc⟩
theorem St.bchNew(R:Rp α)(h:St w0 S0 w L):St w0 S0 w (L++[rD R [] [] []]):=
 h.push (w9 _ _) (Ke w) (λb hb=>by simp [rD] at hb) (by simp [rD])
theorem St.bchOn{R:Rp α}{css:List (List Value)}{Ss:List (List Nat)}{xs:List α}{cs:List Value}{x:α}(h:St w0 S0 w L)(k j:Nat)(hkj:Nat.beq k j=false)(hk:L[k]? =some (rD R css Ss xs))(hj:L[j]? =some (itI R cs S x)):
  St w0 S0 w ((L.set k (rD R (css++[cs]) (Ss++[S]) (xs++[x]))).set j nilI):=by
 have hne:k≠j:=p6 hkj;have h1:=h.bchOne j hj;have hlj:j<L.length:=(zes.1 hj).1;have h2:=h1.bchApp k j hkj (by rw [z5 (λe=>hne e.symm)];exact hk) (yh hlj)
 have e:((L.set j (rD R [cs] [S] [x])).set k (rD R (css++[cs]) (Ss++[S]) (xs++[x]))).set j nilI=(L.set k (rD R (css++[cs]) (Ss++[S]) (xs++[x]))).set j nilI:=by
  rw [List.set_comm _ _ (λe=>hne e.symm),yr]
 rw [e] at h2;exact h2
end
theorem sQ(h:xs[i]? =some x):Sx.idx xs (i:Int)=some x:=by
 have h1:i<xs.length:=(zes.1 h).1;unfold Sx.idx;rw [d7 (by omega)]
 simpa using h
theorem sR(h:xs[i]? =some x):xs.take (i+1)=xs.take i++[x]:=by
 rw [x7,h];rfl
theorem Hy{ys:List α}(h:xs.drop i=ys.drop i):xs[i]? =ys[i]? :=by
 have:=congrArg (·[0]?) h
 simpa [List.getElem?_drop] using this
theorem AZ{ys:List α}(h:xs.drop i=ys.drop i):(xs.set i a).drop (i+1)=ys.drop (i+1):=by
 rw [List.drop_set_of_lt (by omega)];have:=congrArg (List.drop 1) h
 simpa [yl,Nat.add_comm] using this
theorem rV{β:Type}{g:α->β}{b:α}(h:xs[i]? =some b)(e:g a=g b):(xs.set i a).map g=xs.map g:=by
 rw [ye,e];refine m6 λt=> ?_
 rw [yy];split
 ·rename_i h1
  subst h1;have:i<(xs.map g).length:=by rw [p8];exact (zes.1 h).1
  rw [d7 this,x5,h];rfl
 ·rfl
theorem A7(h:i<xs.length):(xs.set i a).take (i+1)=xs.take i++[a]:=by
 rw [sR (x:=a) (by rw [yh h]),List.take_set_of_le (l6 i)]
end
set_option maxRecDepth 10000
theorem wk{ρ:Type}{P:Program}{N:Nat}{c:Code}{f:Option ρ}{k:FuncId}{args:List Value}{Fs:List Fa}{L:List Item}{R:World->List Nat->ρ->Ending->World->Prop}{fn:Func}(hf:P.funcs[k]? =some fn)(hs:List H)
  (hb:fn.body=some c:=by rfl) (hN:fn.ntmps=N:=by rfl) (hz:Nat.ble args.length N=true:=by kernel_rfl)
  (n:∀w0 Z r,GC hs f r Fs L (rx 0 args) P fn N w0 Z c (bodyPost P fn (R w0 Z r)):=by
   repeat' (first
    |exact rfl
    |(refine KR.mk ?_;kernel_rfl)
    |((fail_if_success (fail_if_success (apply GO.here)));first|(refine GO.fo (by exact rfl) (λ_=>by exact rfl) ?_;intro _ _ e;subst e)|(refine GO.fO (by exact rfl) (λ_=>by exact rfl) (λ_=>by exact rfl) ?_;intro _ _ e;subst e)|(refine GO.fx (by assumption) ?_)|apply GO.mkf|apply GO.clr|apply GO.ci|apply GO.p|apply GO.k|apply GO.km|apply GO.kv|apply GO.nil|apply GO.nx|apply GO.ca|apply GO.bi|apply GO.bo|apply GO.st|apply GO.al|apply GO.bx|apply GO.sp|apply GO.ad|apply GO.sr|apply GO.rw|apply GO.ap|apply GO.mkS|apply GO.be|apply GO.bt|apply GO.sa|apply GO.sra|apply GO.srw|apply GO.spa|apply GO.sp1|apply GO.co|apply GO.ce|apply GO.cn|apply GO.il|apply GO.bn|apply GO.sn|apply GO.an|apply GO.ly|apply GO.lyx|apply GO.mN|apply GO.sg|apply GO.sx|apply GO.cp|apply GO.pw|apply GO.nd|apply GO.bxe|apply GO.ste|apply GO.vb|apply GO.mnN|apply GO.mlP|apply GO.mlR|apply GO.mq|apply GO.mh|apply GO.md|apply GO.ll|apply GO.nl|apply GO.bj)
    |((fail_if_success (fail_if_success (apply GQ.here)));first|(refine GQ.fx (by assumption) ?_)|apply GQ.mt|apply GQ.ms|apply GQ.bk|apply GQ.bg|apply GQ.next|apply GQ.then_ret|apply GQ.block_ret|apply GQ.then_exit|apply GQ.block_here|apply GQ.block_normal|apply GQ.block_on|apply GQ.rt|apply GQ.pop|apply GQ.popN|apply GQ.rc1|apply GQ.rc2|apply GQ.rc3|apply GQ.re|apply GQ.r0|apply GQ.ad|apply GQ.rn|apply GQ.rs|apply GQ.ri|apply GQ.nd|apply GQ.nl|apply GQ.nm|apply GQ.rI)
    |((fail_if_success (fail_if_success (apply GC.here)));first|(refine GC.fx (by assumption) ?_)|apply GC.dk|apply GC.ds|apply GC.dn|apply GC.ad|apply GC.seq|apply GC.block|apply GC.skip|apply GC.exit|apply GC.ret|apply GC.ck|apply GC.cs|apply GC.scB|apply GC.scC|apply GC.rgB|apply GC.plB|apply GC.br|apply GC.lb|apply GC.lc|apply GC.ct|apply GC.cf|apply GC.lg|apply GC.be|apply GC.nb|apply GC.stB|apply GC.tlB|apply GC.nl|apply GC.nm)
    |((fail_if_success (fail_if_success (apply GP.here)));first|(refine GP.fp (by exact rfl) (λ_ _ _ _=>by exact rfl) ?_;intro _ _ _ _ e;first|subst e|(generalize (‹(Nat×List Nat)×Value×List Nat›).2.1=u at e |-;subst e))|(refine GP.fO (by exact rfl) (λ_=>by exact rfl) (λ_=>by exact rfl) ?_;intro _ _ e;subst e)|(refine GP.fx (by assumption) ?_)|apply GP.p|apply GP.l1|apply GP.lm|apply GP.lv|apply GP.ac|apply GP.a2|apply GP.fin|apply GP.sp|apply GP.bi|apply GP.bo|apply GP.ad|apply GP.be|apply GP.bd|apply GP.bn|apply GP.bj|apply GP.bl)
    |((fail_if_success (fail_if_success (apply GS.here)));first|(refine GS.fO (by exact rfl) (λ_=>by exact rfl) (λ_=>by exact rfl) ?_;intro _ _ e;subst e)|(refine GS.fx (by assumption) ?_)|apply GS.sp|apply GS.ad|apply GS.be|apply GS.p|apply GS.k|apply GS.km|apply GS.kv|apply GS.bi|apply GS.bo|apply GS.fin|apply GS.on|apply GS.bn|apply GS.mlP|apply GS.bj)
    |(apply GC.dg;intro _ _ _ _ _)
    |intro _
    |(apply Nf.mk;(try dsimp only);(try exact rfl))
    |((fail_if_success (fail_if_success (apply Giv.here)));first|apply Giv.nil|apply Giv.rf|apply Giv.ro|apply Giv.rn|apply Giv.rb|apply Giv.rc|apply Giv.bj|apply Giv.bq|apply Giv.ru|apply Giv.dn|apply Giv.oN|apply Giv.po|apply Giv.sv|apply Giv.oi|apply Giv.fi)
    |((fail_if_success (fail_if_success (apply LkV.here)));first|apply LkV.ix|apply LkV.qu|apply LkV.re|apply LkV.hl|apply LkV.hr|apply LkV.si|apply LkV.ad|apply LkV.sq|apply LkV.cp|apply LkV.cu|apply LkV.cf|apply LkV.ai|apply LkV.sA|apply LkV.sU|apply LkV.nz|apply LkV.al|apply LkV.af|apply LkV.at|apply LkV.pn|apply LkV.sw)
    |((fail_if_success (fail_if_success (apply Adm.here)));first|apply Adm.nn|apply Adm.o0|apply Adm.s0|apply Adm.kp|apply Adm.nr|apply Adm.op|apply Adm.opk|apply Adm.sh|apply Adm.fp|apply Adm.fu|apply Adm.pt|apply Adm.no|apply Adm.nb|apply Adm.nb0s|apply Adm.nb0|apply Adm.shx|apply Adm.shw|apply Adm.ctr|apply Adm.nc|apply Adm.nd|apply Adm.s0x|apply Adm.ne|apply Adm.mb0|apply Adm.mb0r|apply Adm.mb|apply Adm.mbf|apply Adm.mbp|apply Adm.oi0|apply Adm.oi|apply Adm.sfN|apply Adm.sfx|apply Adm.tp)
    |((fail_if_success (fail_if_success (apply jn.here)));first|apply jn.dep|apply w8|apply jn.row|apply jn.nrow|apply jn.ptr|apply jn.bor|apply jn.any|apply jn.st|apply jn.len|apply jn.gho|apply jn.rdn|apply jn.mapn)
    |((fail_if_success (fail_if_success (apply qK.here)));first|apply qK.dep|apply qK.on|apply qK.os|apply qK.pair|apply qK.row|apply qK.rowF|apply qK.frz|apply qK.nrow|apply qK.rdn|apply qK.bor|apply qK.prn|apply qK.pb|apply qK.mapn|apply qK.it|apply qK.st|apply qK.len|apply qK.rdn|apply qK.gho)
    |apply CC.nil
    |apply CC.kq
    |apply CC.c1
    |apply CC.n1
    |apply Ex.u
    |apply Ex.p
    |apply Ln.s
    |apply Ln.t
    |apply Ln.k
    |apply Sim.nil
    |apply Sim.part
    |apply Sim.blk
    |apply Sim.row
    |apply Sim.itU
    |apply Sim.nrow
    |apply Sim.mapN
    |apply Sim.nrowH
    |apply Sim.pool
    |apply RV.t
    |apply RV.cN
    |apply JT.nil
    |apply Bn.f1
    |apply Bn.oo
    |apply Bn.l1
    |apply Bn.r1
    |apply Bn.n1
    |apply Bn.d1
    |apply Bn.c1
    |apply MP.sf
    |apply MP.so
    |apply CF.b1
    |apply Ka.nil
    |apply Ka.u
    |apply CF.o1
    |apply CF.p1
    |apply CF.r1
    |apply LvR.c1
    |apply LvR.nil
    |apply CD.nil
    |apply CD.b
    |apply CD.p
    |apply CD.t
    |apply EC.nil
    |apply EC.consS
    |apply EC.cons
    |apply Sim.sit
    |apply LZ.nil
    |apply LZ.cons
    |(apply Qz.mk;apply_assumption)
    |(apply O4.mk;apply_assumption)
    |(apply OZ.mk;apply_assumption)
    |(apply Q3.mk;intro h wb Sb;apply (h wb Sb))
    |apply Cel.ld
    |apply Cel.le
    |apply Cel.lr
    |apply Cel.cc
    |apply Cel.ca
    |apply Cel.ce
    |apply Cel.nh
    |apply pW.lE
    |apply pW.lN
    |apply pW.lR
    |apply pW.cN
    |apply pW.cA
    |apply pW.ce
    |apply pW.nH
    |apply ag.row
    |apply ag.nrow
    |apply ag.any
    |apply ag.ptr
    |apply ag.bor
    |apply ag.rdn
    |apply ag.len
    |apply ag.gho
    |apply ag.dep
    |apply ag.pair
    |apply ag.st
    |apply lO.row
    |apply lO.rowF
    |apply lO.pair
    |apply lO.st
    |apply lM.row
    |apply lM.rowF
    |apply lM.st
    |apply lM.pair)):OC P k args Fs L f R:=OC.start hs hf hb hN ⟨hz⟩ n
end Go.Sx
