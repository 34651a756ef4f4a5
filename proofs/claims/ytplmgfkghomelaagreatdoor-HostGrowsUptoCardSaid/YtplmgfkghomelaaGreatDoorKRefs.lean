/- Lemmas. -/
import Derived.Test.YtplmgfkghomelaaGreatDoorO1
import Derived.Test.YtplmgfkghomelaaGreatDoorKSound
set_option linter.unusedVariables false
set_option linter.unusedSimpArgs false
namespace Go.Proofs.YtplmgfkghomelaaGreatDoor
section
section
section
section
section
section
open Go.Sx
variable {α:Type} {m:List (Int×α)}
def goodM(k:Int)(ms:List Int):Prop:=ms.Nodup/\∀m∈ms,0<=m/\m<k
theorem goodM.take{k:Int}{ms:List Int}(h:goodM k ms)(i:Nat):goodM k (ms.take i):=
 ⟨h.1.sublist (List.take_sublist _ _),λm hm=>h.2 m (Qw hm)⟩
theorem oY{k:Int}{ms:List Int}{x:Int}(h:goodM k (ms++[x])):0<=x/\x<k/\x∉ms:=by
 have h2:=h.2 x (by simp);have h1:=j7.1 h.1
 grind
theorem eg{ms:List Int}{i:Nat}{x:Int}(h:ms[i]? =some x):ms.take (i+1)=ms.take i++[x]:=by
 rw [ye,h];rfl
theorem HD(p0:zU)(p2:List Int):OK (jI (eU p0 p2) (λ(s:Unit)=>(.inl ())) p2.length 0 ()) (λo=>match o with|.inl _=>goodM p0.maps p2|.inr r=>r=(2,p0)/\¬ goodM p0.maps p2):=by
 refine f9 (λi _=>goodM p0.maps (p2.take i)) ⟨by simp,by simp⟩ ?_ ?_
 ·intro i s again hi h k;unfold eU;refine f8 (i5 hi (λx hx=> ?_))
  have bad:(goodM p0.maps (p2.take (i+1))->False)->OK (some (Sum.inr (2,p0):Unit⊕(Int×zU))) (λo=>match o with|.inl _=>goodM p0.maps p2|.inr r=>r=(2,p0)/\¬ goodM p0.maps p2):=
   λhb=>b8 ⟨rfl,λhg=>hb (hg.take _)⟩
  have ts:=eg hx;refine f8 (b9 (λh1=>b8 ?_) (λh1=>b9 (λh2=>b8 ?_) (λh2=> ?_)))
  ·simp only [s9];refine bad (λhg=> ?_);rw [ts] at hg;have:=oY hg;simp at h1;omega
  ·simp only [s9];refine bad (λhg=> ?_);rw [ts] at hg;have:=oY hg;simp at h2;omega
  ·rw [uX (by omega)];simp only [zbs,gP];refine b8 ?_;simp only [zdq];split
   ·rename_i hc
    refine bad (λhg=> ?_);rw [ts] at hg;exact (oY hg).2.2 hc
   ·rename_i hc
    refine k _ ?_;rw [ts];simp at h1 h2;refine ⟨j7.2 ⟨h.1,by simp,λa ha b hb e=> ?_⟩,λm hm=> ?_⟩
    ·grind
    ·rcases f7.1 hm with hm|hm
     ·exact h.2 m hm
     grind
 grind
theorem Eh(xs:List Int)(h:xs.length*8<=140737488355328):qX xs=some xs:=by
 grind [qX,room]
open Classical in
theorem MG(p0:zU)(p:Int)(ms:List Int)(h:ms.length*8<=140737488355328):
  dd p0 p ms=some (if goodM p0.maps ms then (if (jM p0.held p).isSome then (42,p0) else (0,⟨p0.maps,mput p0.held p ms⟩)) else (2,p0)):=by
 obtain ⟨o,h1,h2⟩:=HD p0 ms
 grind [dd,jM,Eh]
def mdels{α:Type}(m:List (Int×α)):List Int->List (Int×α)
 |[]=>m
 |p::r=>mdels (mdel m p) r
theorem ut(m:List (Int×α))(l:List Int)(p:Int):mdels m (l++[p])=mdel (mdels m l) p:=by
 induction l generalizing m with
 |nil=>rfl
 |cons q r ih=>exact ih _
theorem MH(p0:zU)(ps:List Int):OK (jI (eR p0 ps) (λ(s:Unit)=>(.inl ())) ps.length 0 ()) (λo=>match o with|.inl _=>ps.Nodup|.inr r=>r=(2,p0)/\¬ ps.Nodup):=by
 refine f9 (λi _=>(ps.take i).Nodup) (by simp) ?_ ?_
 ·intro i s again hi h k;unfold eR;refine f8 (i5 hi (λx hx=> ?_));have ts:=eg hx;rw [uX (by omega)];simp only [zbs,gP];refine b9 (λhc=>b8 ⟨rfl,λhn=> ?_⟩) (λhc=>k _ ?_)
  ·have:=hn.sublist (List.take_sublist (i+1) ps)
   grind
  grind
 grind
theorem MI(p0:zU)(ps:List Int):OK (jI (eS p0 ps) (λ(s:Unit)=>(.inl ())) ps.length 0 ()) (λo=>match o with|.inl _=>∀p∈ps,(jM p0.held p).isSome=true|.inr r=>r=(41,p0)/\¬ ∀p∈ps,(jM p0.held p).isSome=true):=by
 refine f9 (λi _=>∀p∈ps.take i,(jM p0.held p).isSome=true) (by simp) ?_ ?_
 ·intro i s again hi h k;unfold eS;refine f8 (i5 hi (λx hx=> ?_));refine b9 (λhc=>b8 ⟨rfl,λhn=> ?_⟩) (λhc=>k _ ?_)
  ·grind
  ·rw [eg hx]
   grind
 grind
theorem MJ(ps:List Int)(p0:zU):jI (eT ps) (λ(s:zU)=>s) ps.length 0 p0=some ⟨p0.maps,mdels p0.held ps⟩:=by
 refine OK.is (f9 (λi s=>s=⟨p0.maps,mdels p0.held (ps.take i)⟩) rfl ?_ ?_)
 ·rintro i s again hi rfl k;unfold eT;refine f8 (i5 hi (λx hx=>k _ ?_));rw [eg hx,ut]
 grind
open Classical in
theorem MK(p0:zU)(ps:List Int):vU p0 ps=some (if ps.Nodup then (if ∀p∈ps,(jM p0.held p).isSome=true then (0,⟨p0.maps,mdels p0.held ps⟩) else (41,p0)) else (2,p0)):=by
 obtain ⟨o,h1,h2⟩:=MH p0 ps;unfold vU;rw [h1];rcases o with u|r
 ·obtain ⟨o,h3,h4⟩:=MI p0 ps
  grind [MJ]
 grind
theorem A8(m:List (Int×α))(k:Int)(x:α)(q:Int):jM (mput m k x) q=if k=q then some x else jM m q:=by
 induction m with
 |nil=>simp [mput,jM]
 |cons p m ih=>
  grind [mput,jM]
theorem JW(m:List (Int×α))(k:Int):(mdel m k).length<=m.length:=by
 induction m with
 |nil=>simp [mdel]
 |cons p m ih=>
  grind [mdel]
theorem HE(ps:List Int)(m:List (Int×α)):(mdels m ps).length<=m.length:=by
 induction ps generalizing m with
 |nil=>exact r7 _
 |cons p r ih=>exact t5 (ih _) (JW _ _)
theorem JX(m:List (Int×α))(k:Int)(x:α):(mput m k x).length<=m.length+1:=by
 induction m with
 |nil=>simp [mput]
 |cons p m ih=>
  grind [mput]
def Ei(m:List (Int×α)):Prop:=(m.map (·.1)).Nodup
theorem A9{k:Int}:jM m k=none↔k∉m.map (·.1):=by
 induction m with
 |nil=>simp [jM]
 |cons p m ih=>
  grind [jM]
theorem wx{k:Int}{x:α}(h:jM m k=none):mput m k x=m++[(k,x)]:=gO h
theorem Ei.mput{α:Type}{m:List (Int×α)}(h:Ei m){k:Int}{x:α}(hn:jM m k=none):Ei (mput m k x):=by
 rw [wx hn];unfold Ei;rw [t7];refine j7.2 ⟨h,by simp,λa ha b hb e=> ?_⟩;simp at hb;subst hb;subst e;exact A9.1 hn ha
theorem HF(m:List (Int×α))(k:Int):(mdel m k).Sublist m:=by
 induction m with
 |nil=>exact List.Sublist.refl _
 |cons p m ih=>
  grind [mdel]
theorem Ei.mdel{α:Type}{m:List (Int×α)}(h:Ei m)(k:Int):Ei (mdel m k):=h.sublist ((HF m k).map _)
theorem HG(h:Ei m)(k q:Int):jM (mdel m k) q=if k=q then none else jM m q:=by
 induction m with
 |nil=>simp [Sx.mdel,jM]
 |cons p m ih=>
  have hn:=r9.1 (show (p.1::m.map (·.1)).Nodup from h);unfold Sx.mdel;by_cases e:p.1==k
  ·have e':p.1=k:=by simpa using e
   rw [d6 e];by_cases e2:k=q
   ·rw [d6 e2];subst e2;exact A9.2 (by grind)
   grind [jM]
  ·have e':p.1≠k:=by simpa using e
   rw [d8 e];unfold jM;by_cases e3:p.1==q
   ·grind
   ·rw [d8 e3,d8 e3];exact ih hn.2
end
open Go.Sx
variable {α β:Type} {M W:Nat}
theorem HH(m:List (Int×α))(k:Int)(x:α)(q:Int):jM (tw m k x) q=if k=q/\(jM m k).isSome then some x else jM m q:=by
 induction m with
 |nil=>simp [tw,fW,jM]
 |cons p m ih=>
  by_cases h:p.1=k
  ·grind [tw,fW,jM]
  grind [tw,fW,jM]
theorem Ej(m:List (Int×α))(k:Int)(x:α):(tw m k x).map (·.1)=m.map (·.1):=by
 induction m with
 |nil=>simp [tw,fW]
 |cons p m ih=>
  grind [tw,fW]
theorem JY(m:List (Int×α))(k:Int)(x:α):(tw m k x).length=m.length:=by
 have:=congrArg List.length (Ej m k x)
 simpa using this
theorem HJ(f:α->β)(m:List (Int×α))(k:Int)(x y:α)(h:jM m k=some y)(hf:f x=f y):(tw m k x).map (λp=>(p.1,f p.2))=m.map (λp=>(p.1,f p.2)):=by
 induction m with
 |nil=>simp [tw,fW]
 |cons p m ih=>
  grind [jM,tw,fW]
theorem JZ(f:α->β)(m:List (Int×α))(k:Int):(mdel m k).map (λp=>(p.1,f p.2))=mdel (m.map (λp=>(p.1,f p.2))) k:=by
 induction m with
 |nil=>rfl
 |cons p m ih=>
  grind [mdel]
theorem J0(f:α->β)(m:List (Int×α))(k:Int):jM (m.map (λp=>(p.1,f p.2))) k=(jM m k).map f:=by
 induction m with
 |nil=>rfl
 |cons p m ih=>
  grind [jM]
theorem J1{m:List (Int×α)}{k:Int}{x:α}(h:jM m k=some x):(k,x)∈m:=by
 grind [ep]
structure fV (H M W:Nat) (n:Nat) (r:zb):Prop where
 QS:r.QS=H
 hl:r.Rg.QS.length=H
 maps:r.maps=M
 SX:r.RN.maps=M
 wk:r.Rb.in_.length=W
 SH:H<=4/\M<=4/\W<=4
 RP:n<=1000000000
 SN:0<=r.given
 given:r.given<=n
 SI:0<=r.Rg.Rq.last
 last:r.Rg.Rq.last<=n
 SJ:1<=r.Rb.Sk
 Sk:r.Rb.Sk<=n+1
 Tp:∀e∈r.Rb.in_,0<=e/\e<=r.Rb.Sk
 RR:Ei r.Re
 len:r.Re.length<=16
 prog:∀p x,jM r.Re p=some x->1<=p/\p<=r.given/\sN x.module.Maps/\(∀m∈x.module.Maps,m<M)/\x.module.Code.length<=64/\0<=x.RE/\x.RE<=r.Rb.Sk
 held:r.RN.held=r.Re.map (λp=>(p.1,p.2.module.Maps))
 Tw:r.waiting.Nodup
 SV:∀p,p∈r.waiting↔∃x,jM r.Re p=some x/\0<x.RE
theorem fV.mono{H n n':Nat}{r:zb}(h:fV H M W n r)(hn:n<=n')(hb:n'<=1000000000):fV H M W n' r:=
 {h with RP:=hb,given:=by have:=h.given;omega,last:=by have:=h.last;omega,Sk:=by have:=h.Sk;omega}
theorem fV.wlen{H n:Nat}{r:zb}(h:fV H M W n r):r.waiting.length<=r.Re.length:=by
 have hsub:r.waiting ⊆ r.Re.map (·.1):=λp hp=>by
  obtain ⟨x,hx,_⟩:=(h.SV p).1 hp;exact List.mem_map_of_mem (f:=λ(q:Int×zX)=>q.1) (J1 hx)
 have:=List.Nodup.length_le_of_subset h.Tw hsub
 simpa using this
theorem OD{H:Nat}(hH:1<=H)(hH4:H<=4)(hM:M<=4)(hW:1<=W)(hW4:W<=4):∃r,bH H M W=some (some r,0)/\fV H M W 0 r/\r.given=0/\r.Rg.Rq.last=0/\r.Re=[]/\r.waiting=[]/\r.Rb.in_=List.replicate W 0:=by
 have h1:iJ H=some (some ⟨⟨0⟩,List.replicate H ⟨0,0⟩⟩,0):=by
  grind [iJ,mkLen]
 have h2:kj M=some (some ⟨M,[]⟩,0):=by
  grind [kj]
 have h3:dT W=some (some ⟨1,List.replicate W 0⟩,0):=by
  grind [dT,mkLen]
 refine ⟨_,by unfold bH;rw [h1,h2,h3];rfl,?_,rfl,rfl,rfl,rfl,rfl⟩;exact {QS:=rfl,hl:=by simp,maps:=rfl,SX:=rfl,wk:=by simp,SH:=⟨hH4,hM,hW4⟩,RP:=by omega,SN:=by simp,given:=by simp,SI:=by simp,last:=by simp,SJ:=by simp,Sk:=by simp,Tp:=λe he=>by grind,RR:=k9,len:=by simp,prog:=λp x hx=>by simp [jM] at hx,held:=rfl,Tw:=k9,SV:=λp=>by simp [jM]}
theorem ML{h m w:Int}(hb:¬ (1<=h/\h<=4/\0<=m/\m<=4/\1<=w/\w<=4)):bH h m w=some (none,2):=by
 unfold bH iJ kj dT;by_cases h1:1<=h/\h<=4
 ·have e1:mkLen h 16=some h.toNat:=by unfold mkLen;rw [d6 ⟨by omega,by omega⟩]
  rw [d8 (by simp;omega),e1];by_cases h2:0<=m/\m<=4
  ·rw [d8 (by simp;omega)];rw [d6 (by simp;omega)];rfl
  ·rw [d6 (by simp;omega)];by_cases h3:1<=w/\w<=4
   ·have e3:mkLen w 8=some w.toNat:=by unfold mkLen;rw [d6 ⟨by omega,by omega⟩]
    rw [d8 (by simp;omega),e3];rfl
   ·rw [d6 (by simp;omega)];rfl
 ·rw [d6 (by simp;omega)];by_cases h2:0<=m/\m<=4
  ·rw [d8 (by simp;omega)];by_cases h3:1<=w/\w<=4
   ·have e3:mkLen w 8=some w.toNat:=by unfold mkLen;rw [d6 ⟨by omega,by omega⟩]
    rw [d8 (by simp;omega),e3];rfl
   ·rw [d6 (by simp;omega)];rfl
  ·rw [d6 (by simp;omega)];by_cases h3:1<=w/\w<=4
   ·have e3:mkLen w 8=some w.toNat:=by unfold mkLen;rw [d6 ⟨by omega,by omega⟩]
    rw [d8 (by simp;omega),e3];rfl
   ·rw [d6 (by simp;omega)];rfl
end
open Go.Sx
variable {H M W n:Nat} {r:zb}
def sS(maps:Int)(b:List Int):Option (zH×Int):=(dC 2199023255552 b).bind λd=>if d.2.2 !=0 then some (d.1,d.2.2) else
 (vT 2199023255552 d.1).bind λj=>if j.2 !=0 then some (d.1,j.2) else some (d.1,if d.1.Maps.any (λx=>decide (maps<=x)) then 41 else 0)
theorem Ft(maps:Int){b:List Int}(hb:b.length<=140737488355328):OK (sS maps b) (λv=>v.2=0->sN v.1.Maps/\(∀x∈v.1.Maps,x<maps)/\v.1.Code.length<=64):=by
 unfold sS;have hd0:=H5 hb;refine d5 hd0 (λd hd=>b9 (λhe=>b8 (λe=>absurd e (by simpa using he))) (λhe=> ?_));have hg:=hd (by simpa using he);refine d5 (JV d.1) (λj _=>b9 (λhe=>b8 (λe=>absurd e (by simpa using he))) (λ_=>b8 (λe=>⟨hg.1,λx hx=> ?_,hg.2⟩)))
 grind
def oa(r:zb)(m:zH):zb:={r with RN:=⟨r.RN.maps,mput r.RN.held (r.given+1) m.Maps⟩,given:=r.given+1,Re:=mput r.Re (r.given+1) ⟨m,0⟩}
theorem Ba(h:fV H M W n r):jM r.Re (r.given+1)=none:=by
 cases hg:jM r.Re (r.given+1) with
 |none=>rfl
 |some x=>have:=(h.prog _ _ hg).2.1;omega
theorem Ek(h:fV H M W n r)(p:Int):jM r.RN.held p=(jM r.Re p).map (·.module.Maps):=by rw [h.held];exact J0 (λ(x:zX)=>x.module.Maps) _ _
theorem MM(r:zb)(d:zH×Int×Int):OK (jI (vV r d) (λ(s:Unit)=>(.inl ())) d.1.Maps.length 0 ()) (λo=>match o with|.inl _=>∀x∈d.1.Maps,x<r.maps|.inr q=>q=(0,41,r)/\¬ ∀x∈d.1.Maps,x<r.maps):=by
 refine f9 (λi _=>∀x∈d.1.Maps.take i,x<r.maps) (by simp) ?_ ?_
 ·intro i s again hi hI k;unfold vV;refine f8 (i5 hi (λx hx=>b9 (λhc=>b8 ⟨rfl,λhall=> ?_⟩) (λhc=>k _ ?_)))
  ·have:=hall x (zmg hx);simp at hc;omega
  ·intro y hy;rw [eg hx] at hy
   grind
 grind
theorem MN(h:fV H M W n r){b:List Int}{v:zH×Int}(hv:sS r.maps b=some v)(hok:v.2=0->sN v.1.Maps/\(∀x∈v.1.Maps,x<r.maps)/\v.1.Code.length<=64):
  jo 2199023255552 r b=some (if v.2≠0 then (0,v.2,r) else if 16<=r.Re.length then (0,40,r) else (r.given+1,0,oa r v.1)):=by
 unfold sS at hv;unfold jo;cases hd:dC 2199023255552 b with
 |none=>rw [hd] at hv;simp at hv
 |some d=>
  rw [hd] at hv;simp only [zbs] at hv |-;by_cases he:d.2.2=0
  ·rw [d8 (by simp [he])] at hv |-;cases hj:vT 2199023255552 d.1 with
   |none=>rw [hj] at hv;simp at hv
   |some j=>
    rw [hj] at hv;simp only [zbs] at hv |-;by_cases hje:j.2=0
    ·rw [d8 (by simp [hje])] at hv |-;simp only [i4] at hv;obtain ⟨o,h1,h2⟩:=MM r d;rw [h1];simp only [zbs];cases o with
     |inr q=>
      grind
     |inl u=>
      have:d.1.Maps.any (λx=>decide (r.maps<=x))=false:=by
       grind
      rw [this] at hv;subst hv;have hgood:=hok rfl;simp only;by_cases hl:16<=r.Re.length
      ·grind
      ·rw [d8 (by simp;omega)];have hg0:=h.SN;have hg1:=h.given;have hb:=h.RP;have hw:w64 (r.given+1)=r.given+1:=fQ (by omega) (by omega);have hgm:goodM r.RN.maps d.1.Maps:=⟨hgood.1.2.1,λm hm=>⟨(hgood.1.1 m hm).1,by rw [h.SX,<- h.maps];exact hgood.2.1 m hm⟩⟩
       have hnone:jM r.RN.held (r.given+1)=none:=by grind [Ek,Ba]
       rw [hw,MG _ _ _ (by have:d.1.Maps.length<=4:=hgood.1.2.2;omega),d6 hgm,hnone];simp [hl,oa]
    grind
  grind
theorem HK(h:fV H M W n r)(hb:n+1<=1000000000){m:zH}(hl:¬ 16<=r.Re.length)(hok:sN m.Maps/\(∀x∈m.Maps,x<M)/\m.Code.length<=64):fV H M W (n+1) (oa r m):=by
 have hf:=Ba h;have hg0:=h.SN;have hg1:=h.given;refine {QS:=h.QS,hl:=h.hl,maps:=h.maps,SX:=h.SX,wk:=h.wk,SH:=h.SH,RP:=hb,SN:=by simp [oa];omega,given:=by simp [oa];omega,SI:=h.SI,last:=by have:=h.last;simp [oa];omega,SJ:=h.SJ,Sk:=by have:=h.Sk;simp [oa];omega,Tp:=h.Tp,RR:=h.RR.mput hf,len:= ?_,prog:= ?_,held:= ?_,Tw:=h.Tw,SV:= ?_}
 ·grind [JX,oa]
 ·intro p x hx;simp only [oa,A8] at hx |-;split at hx
  ·rename_i e
   cases hx
   exact ⟨by omega,by omega,hok.1,hok.2.1,hok.2.2,by simp,by have:=h.SJ;simp;omega⟩
  ·have:=h.prog p x hx
   grind
 ·simp only [oa];have e2:jM r.RN.held (r.given+1)=none:=by grind [Ek]
  rw [wx hf,wx e2,h.held];simp
 ·intro p;rw [show (oa r m).waiting=r.waiting from rfl,h.SV p]
  grind [oa,A8]
def Fu(r:zb)(t:zz):zb:={r with Rg:=t}
theorem Bb(h:fV H M W n r)(hb:n+1<=1000000000){t:zz}(h1:t.QS.length=H)(h2:0<=t.Rq.last)(h3:t.Rq.last<=n+1):fV H M W (n+1) (Fu r t):=
 {h.mono (n':=n+1) (by omega) hb with hl:=h1,SI:=h2,last:=by simp [Fu];omega}
theorem mZ{α:Type}{l:List α}{t:Int}(h0:0<=t)(h1:t<l.length):∃x,idx l t=some x/\l[t.toNat]? =some x:=by
 have hl:t.toNat<l.length:=by omega
 refine ⟨l[t.toNat],?_,zeg hl⟩;unfold idx
 grind
theorem uu(h:fV H M W n r){k p:Int}(h0:0<=k)(h1:k<H):xr r.Rg k p=some (r.Rg.Rq.last+1,0,⟨⟨r.Rg.Rq.last+1⟩,r.Rg.QS.set k.toNat ⟨r.Rg.Rq.last+1,p⟩⟩):=by
 have hb:=h.RP;have hl0:=h.SI;have hl1:=h.last;unfold xr ao aQ;rw [fQ (by omega) (by omega)];obtain ⟨x,hx,_⟩:=mZ (l:=r.Rg.QS) h0 (by rw [h.hl];omega);simp [hx]
structure El (r:zb) (k p:Int) (q:Int×Int×zb):Prop where
 no:q.2.1≠0->q.1=0/\q.2.2=r
 yes:q.2.1=0->q.1=r.Rg.Rq.last+1/\(∃x,jM r.Re p=some x/\x.RE=0)/\∃l,l.length=r.Rg.QS.length/\q.2.2=Fu r ⟨⟨r.Rg.Rq.last+1⟩,l⟩
 TL:0<=k->k<r.QS->jM r.Re p=none->q.1=0/\q.2.1=41
theorem Fv(h:fV H M W n r){k p:Int}(h0:0<=k)(h1:k<H):OK (vL r.Rg k p) (λq=>(q.2.1≠0/\q.1=0/\q.2.2=r.Rg)\/(q.2.1=0/\q.1=r.Rg.Rq.last+1/\∃l,l.length=r.Rg.QS.length/\q.2.2=⟨⟨r.Rg.Rq.last+1⟩,l⟩)):=by
 unfold vL jl jn;obtain ⟨x,hx,_⟩:=mZ (l:=r.Rg.QS) h0 (by rw [h.hl];omega);simp only [zbs,hx,uu h h0 h1];refine b9 (λ_=>b8 (.inl ⟨by simp,rfl,rfl⟩)) (λ_=>b9 (λ_=>b8 (.inl ⟨by simp,rfl,rfl⟩)) (λ_=>b8 (.inr ⟨rfl,rfl,_,?_,rfl⟩)));simp
theorem J2(h:fV H M W n r){k p:Int}(h0:0<=k)(h1:k<H):OK (aX r.Rg k p) (λq=>(q.2.1≠0/\q.1=0/\q.2.2=r.Rg)\/(q.2.1=0/\q.1=r.Rg.Rq.last+1/\∃l,l.length=r.Rg.QS.length/\q.2.2=⟨⟨r.Rg.Rq.last+1⟩,l⟩)):=by
 unfold aX jl jn;obtain ⟨x,hx,_⟩:=mZ (l:=r.Rg.QS) h0 (by rw [h.hl];omega);simp only [zbs,hx,uu h h0 h1];refine b9 (λ_=>b8 (.inl ⟨by simp,rfl,rfl⟩)) (λ_=>b9 (λ_=>b8 (.inl ⟨by simp,rfl,rfl⟩)) (λ_=>b8 (.inr ⟨rfl,rfl,_,?_,rfl⟩)));simp
theorem Bc(h:fV H M W n r)(k p:Int):OK (jy r k p) (El r k p):=by
 unfold jy;refine b9 (λhc=>b8 ⟨λ_=>⟨rfl,rfl⟩,λe=>by simp at e,λh0=>by simp at hc;omega⟩) (λh0=> ?_);refine b9 (λhc=>b8 ⟨λ_=>⟨rfl,rfl⟩,λe=>by simp at e,λ_ h1=>by simp at hc;omega⟩) (λh1=> ?_);have h0':0<=k:=by simp at h0;omega
 have h1':k<H:=by simp [h.QS] at h1;omega
 cases hg:jM r.Re p with
 |none=>
  refine j4 rfl ?_;exact b8 ⟨λ_=>⟨rfl,rfl⟩,λe=>by simp at e,λ_ _ _=>⟨rfl,rfl⟩⟩
 |some x=>
  refine m9 rfl ?_;simp only [zbs];refine b9 (λhc=>b8 ⟨λ_=>⟨rfl,rfl⟩,λe=>by simp at e,λ_ _ _=>⟨rfl,rfl⟩⟩) (λhc=> ?_);refine d5 (Fv h h0' h1') (λq hq=>b8 ?_);rcases hq with ⟨ha,hb,hc2⟩|⟨ha,hb,l,hl,hc2⟩
  ·exact ⟨λ_=>⟨hb,by rw [hc2]⟩,λe=>absurd e ha,λ_ _ hn=>by grind⟩
  ·exact ⟨λe=>absurd ha e,λ_=>⟨hb,⟨x,hg,by simpa using hc⟩,l,hl,by rw [hc2];rfl⟩,λ_ _ hn=>by grind⟩
theorem HL(h:fV H M W n r)(k p:Int):OK (jL r k p) (El r k p):=by
 unfold jL;refine b9 (λhc=>b8 ⟨λ_=>⟨rfl,rfl⟩,λe=>by simp at e,λh0=>by simp at hc;omega⟩) (λh0=> ?_);refine b9 (λhc=>b8 ⟨λ_=>⟨rfl,rfl⟩,λe=>by simp at e,λ_ h1=>by simp at hc;omega⟩) (λh1=> ?_);have h0':0<=k:=by simp at h0;omega
 have h1':k<H:=by simp [h.QS] at h1;omega
 cases hg:jM r.Re p with
 |none=>
  refine j4 rfl ?_;exact b8 ⟨λ_=>⟨rfl,rfl⟩,λe=>by simp at e,λ_ _ _=>⟨rfl,rfl⟩⟩
 |some x=>
  refine m9 rfl ?_;simp only [zbs];refine b9 (λhc=>b8 ⟨λ_=>⟨rfl,rfl⟩,λe=>by simp at e,λ_ _ _=>⟨rfl,rfl⟩⟩) (λhc=> ?_);refine d5 (J2 h h0' h1') (λq hq=>b8 ?_);rcases hq with ⟨ha,hb,hc2⟩|⟨ha,hb,l,hl,hc2⟩
  ·exact ⟨λ_=>⟨hb,by rw [hc2]⟩,λe=>absurd e ha,λ_ _ hn=>by grind⟩
  ·exact ⟨λe=>absurd ha e,λ_=>⟨hb,⟨x,hg,by simpa using hc⟩,l,hl,by rw [hc2];rfl⟩,λ_ _ hn=>by grind⟩
theorem El.inv(h:fV H M W n r)(hb:n+1<=1000000000){k p:Int}{q:Int×Int×zb}(hq:El r k p q):fV H M W (n+1) q.2.2:=by
 by_cases e:q.2.1=0
 ·obtain ⟨_,_,l,hl,e2⟩:=hq.yes e;rw [e2];have h0:=h.SI;have h1:=h.last;exact Bb h hb (by rw [hl];exact h.hl) (by simp;omega) (by simp;omega)
 ·rw [(hq.no e).2];exact h.mono (by omega) hb
end
open Go.Sx
variable {H M W n:Nat} {r:zb}
theorem Bd(h:fV H M W n r)(k:Int):OK (xI r.Rg [k]) (λq=>(q.1≠0/\q.2=r.Rg)\/(q.1=0/\∃l,l.length=r.Rg.QS.length/\q.2=⟨r.Rg.Rq,l⟩)):=by
 unfold xI;refine d5 (f9 (Q:=λo=>match o with|.inl _=>0<=k/\k<r.Rg.QS.length|.inr q=>q=(2,r.Rg)) (λi _=>i=0\/0<=k/\k<r.Rg.QS.length) (.inl rfl) (λi s again hi hI kk=> ?_) (λs hI=> ?_)) (λo ho=> ?_)
 ·have e:i=0:=by simp at hi;omega
  subst e;unfold ft jl;simp only [idx,Qx,k6,zbs,Int.natCast_zero,x5,s9,Int.toNat_zero];refine d5 (R:=λo=>o=false->0<=k/\k<r.Rg.QS.length) (b9 (λ_=>b8 (λe=>by cases e)) (λhc=> ?_)) (λo ho=>b9 (λ_=>b8 rfl) (λhf=>kk _ (.inr (ho hf))))
  grind [cut,gP,b8]
 ·grind
 ·cases o with
  |inr q=>exact b8 (.inl ⟨by rw [ho];simp,by rw [ho]⟩)
  |inl u=>
   obtain ⟨x,hx,hx2⟩:=mZ (l:=r.Rg.QS) ho.1 ho.2;refine d5 (f9 (Q:=λo=>match o with|.inl _=>True|.inr q=>q=(41,r.Rg)) (λi _=>True) trivial (λi s again hi hI kk=> ?_) (λs hI=>trivial)) (λo ho2=> ?_)
   ·have e:i=0:=by simp at hi;omega
    subst e;unfold fv jn;simp only [idx,Qx,zbs,Int.natCast_zero,x5,s9,Int.toNat_zero];rw [show (if 0<=k then r.Rg.QS[k.toNat]? else none)=some x from by grind];simp only [zbs];exact b9 (λ_=>b8 rfl) (λ_=>kk _ trivial)
   ·cases o with
    |inr q=>exact b8 (.inl ⟨by rw [ho2];simp,by rw [ho2]⟩)
    |inl u=>
     refine d5 (f9 (Q:=λt=>∃l,l.length=r.Rg.QS.length/\t=⟨r.Rg.Rq,l⟩) (λi t=>∃l,l.length=r.Rg.QS.length/\t=⟨r.Rg.Rq,l⟩) ⟨_,rfl,rfl⟩ (λi s again hi hI kk=> ?_) (λs hI=>hI)) (λt ht=>b8 (.inr ⟨rfl,ht⟩));have e:i=0:=by simp at hi;omega
     subst e;obtain ⟨l,hl,rfl⟩:=hI;unfold fw;obtain ⟨y,hy,_⟩:=mZ (l:=l) ho.1 (by rw [hl];exact ho.2)
     rw [show idx [k] ((0:Nat):Int)=some k from rfl]
     grind
theorem Fw(h:fV H M W n r)(hb:n+1<=1000000000){q:Int×zz}(hq:(q.1≠0/\q.2=r.Rg)\/(q.1=0/\∃l,l.length=r.Rg.QS.length/\q.2=⟨r.Rg.Rq,l⟩)):fV H M W (n+1) (Fu r q.2):=by
 have h0:=h.SI;have h1:=h.last;rcases hq with ⟨_,e⟩|⟨_,l,hl,e⟩
 ·rw [e];exact h.mono (by omega) hb
 ·rw [e];exact Bb h hb (by rw [hl];exact h.hl) h0 (by simp;omega)
def Fx(r:zb)(c:zC):zb:={r with Rb:=c}
theorem Be(h:fV H M W n r)(hb:n+1<=1000000000){c:zC}(h1:c.in_.length=W)(h2:r.Rb.Sk<=c.Sk)(h3:c.Sk<=r.Rb.Sk+1)(h4:∀e∈c.in_,0<=e/\e<=c.Sk):fV H M W (n+1) (Fx r c):=
 {h.mono (n':=n+1) (by omega) hb with wk:=h1,SJ:=by have:=h.SJ;simp [Fx];omega,Sk:=by have:=h.Sk;simp [Fx];omega,Tp:=h4,prog:=λp x hx=>by have:=h.prog p x hx;exact ⟨this.1,this.2.1,this.2.2.1,this.2.2.2.1,this.2.2.2.2.1,this.2.2.2.2.2.1,by simp [Fx];omega⟩}
theorem Em(h:fV H M W n r)(k:Int):OK (vh r.Rb k) (λq=>(q.2.1≠0/\q.1=0/\q.2.2=r.Rb)\/(q.2.1=0/\q.1≠0/\0<=k/\k<W/\r.Rb.in_[k.toNat]? =some 0/\q.2.2=⟨r.Rb.Sk,r.Rb.in_.set k.toNat r.Rb.Sk⟩)):=by
 unfold vh vg;simp only [zbs];refine b9 (λ_=>b8 (.inl ⟨by simp,rfl,rfl⟩)) (λhc=> ?_);simp only [Bool.not_eq_false',zae,zdq] at hc;obtain ⟨x,hx,hx2⟩:=mZ (l:=r.Rb.in_) hc.1 hc.2;rw [hx];simp only [zbs];refine b9 (λ_=>b8 (.inl ⟨by simp,rfl,rfl⟩)) (λh0=>b8 (.inr ⟨rfl,?_,hc.1,by rw [<- h.wk];exact hc.2,?_,rfl⟩))
 ·have:=h.SJ;simp;omega
 grind
theorem HM(h:fV H M W n r)(hb:n+1<=1000000000)(k:Int):fV H M W (n+1) (Fx r ⟨r.Rb.Sk,r.Rb.in_.set k.toNat r.Rb.Sk⟩):=by
 refine Be h hb (by simp [h.wk]) (x5 _) (by simp;omega) (λe he=> ?_);have h1:=h.SJ;rcases r6 he with h2|h2
 ·exact h.Tp e h2
 grind
theorem Eo(h:fV H M W n r)(k:Int):OK (vi r.Rb [k]) (λq=>(q.1≠0/\q.2=r.Rb/\(0<=k->k<W->r.Rb.in_[k.toNat]? =some 0))\/(q.1=0/\0<=k/\k<W/\q.2=⟨r.Rb.Sk,r.Rb.in_.set k.toNat 0⟩)):=by
 have hs:=h.SH;unfold vi;refine d5 (f9 (Q:=λo=>match o with|.inl _=>0<=k/\k<W|.inr q=>q=(2,r.Rb)/\¬ (0<=k/\k<W)) (λi f=>(i=0/\f=λ_=>false)\/(i=1/\0<=k/\k<W)) (.inl ⟨rfl,rfl⟩) (λi s again hi hI kk=> ?_) (λs hI=> ?_)) (λo ho=> ?_)
 ·have e:i=0:=by simp at hi;omega
  subst e;unfold fK vg;rw [show idx [k] ((0:Nat):Int)=some k from rfl];simp only [zbs];by_cases hk:0<=k/\k<W
  ·have ha:ain 4 k=some k.toNat:=by unfold ain;rw [d6 ⟨hk.1,by omega⟩]
   have e1:(!(decide (k>=0)&&decide (k<(r.Rb.in_.length:Int))))=false:=by rw [h.wk];simp;omega
   grind
  ·have e1:(!(decide (k>=0)&&decide (k<(r.Rb.in_.length:Int))))=true:=by rw [h.wk];simp;omega
   grind [b8]
 ·grind
 ·cases o with
  |inr q=>exact b8 (.inl ⟨by rw [ho.1];simp,by rw [ho.1],λh1 h2=>absurd ⟨h1,h2⟩ ho.2⟩)
  |inl u=>
   obtain ⟨x,hx,hx2⟩:=mZ (l:=r.Rb.in_) ho.1 (by rw [h.wk];exact ho.2)
   refine d5 (f9 (Q:=λo=>match o with|.inl _=>True|.inr q=>q=(41,r.Rb)/\x=0) (λi _=>True) trivial (λi s again hi hI kk=> ?_) (λs hI=>trivial)) (λo ho2=> ?_)
   ·have e:i=0:=by simp at hi;omega
    subst e;unfold fL;rw [show idx [k] ((0:Nat):Int)=some k from rfl];simp only [zbs,hx];exact b9 (λhc=>b8 ⟨rfl,by simpa using hc⟩) (λ_=>kk _ trivial)
   ·cases o with
    |inr q=>exact b8 (.inl ⟨by rw [ho2.1];simp,by rw [ho2.1],λ_ _=>by rw [hx2,ho2.2]⟩)
    |inl u=>
     refine d5 (f9 (Q:=λt=>t=⟨r.Rb.Sk,r.Rb.in_.set k.toNat 0⟩) (λi t=>(i=0/\t=r.Rb)\/(i=1/\t=⟨r.Rb.Sk,r.Rb.in_.set k.toNat 0⟩)) (.inl ⟨rfl,rfl⟩) (λi s again hi hI kk=> ?_) (λs hI=> ?_)) (λt ht=>b8 (.inr ⟨rfl,ho.1,ho.2,ht⟩))
     ·grind [fM,idx]
     grind
theorem HN(h:fV H M W n r)(hb:n+1<=1000000000)(k:Int):fV H M W (n+1) (Fx r ⟨r.Rb.Sk,r.Rb.in_.set k.toNat 0⟩):=by
 refine Be h hb (by simp [h.wk]) (x5 _) (by simp;omega) (λe he=> ?_);have h1:=h.SJ;rcases r6 he with h2|h2
 ·exact h.Tp e h2
 grind
theorem Fy(h:fV H M W n r):vq r.Rb=some (r.Rb.Sk+1,⟨r.Rb.Sk+1,r.Rb.in_⟩):=by
 have h1:=h.SJ;have h2:=h.Sk;have h3:=h.RP
 grind [vq,fQ]
theorem HO(c:zC)(e:Int)(hl:c.in_.length<=140737488355328):xM c e=some (decide (∀x∈c.in_,x=0\/e<=x)):=by
 unfold xM;have hroom:room c.in_.length 1=some ():=by grind [room]
 rw [hroom];simp only [zbs];refine OK.is (d5 (f9 (Q:=λo=>match o with|.inl _=>∀x∈c.in_,x=0\/e<=x|.inr q=>q=false/\¬ ∀x∈c.in_,x=0\/e<=x) (λi _=>∀x∈c.in_.take i,x=0\/e<=x) (by simp) (λi s again hi hI k=> ?_) (λs hI=>by grind)) (λo ho=> ?_))
 ·unfold gw;refine f8 (i5 hi (λx hx=>b9 (λhc=>b8 ⟨rfl,λhall=> ?_⟩) (λhc=>k _ ?_)))
  ·have:=hall x (zmg hx);simp at hc;omega
  ·intro y hy;rw [ye,hx] at hy
   grind
 grind [b8]
end
open Go.Sx
variable {H M W n:Nat} {r:zb}
theorem J3(h:fV H M W n r)(p:Int):OK (aC r.Rg [p]) (λl=>l.length<=4):=by
 have hs:=h.SH;have hl:=h.hl;unfold aC;refine d5 (f9 (Q:=λl=>l.length<=4) (λi l=>l.length<=i) (by simp) (λi s again hi hI k=> ?_) (λs hI=>by omega)) (λl h=>b8 h);unfold fP;refine f8 (i5 hi (λx hx=> ?_));simp only [gP,zbs];refine d5 (R:=λ_=>True) (b9 (λ_=>b8 trivial) (λ_=>b8 trivial)) (λo _=>b9 (λ_=> ?_) (λ_=>k _ (by omega)))
 grind [f8,OK.hasRoom]
def retired(r:zb)(p:Int)(x:zX):zb:=
 {r with Rb:=⟨r.Rb.Sk+1,r.Rb.in_⟩,Re:=tw r.Re p ⟨x.module,r.Rb.Sk+1⟩,waiting:=r.waiting++[p]}
theorem sT(h:fV H M W n r)(p:Int):OK (jc r p) (λq=>(q.2.1≠0/\q.1=0/\q.2.2=r)\/(q.2.1=0/\q.1=r.Rb.Sk+1/\∃x,jM r.Re p=some x/\x.RE=0/\q.2.2=retired r p x)):=by
 unfold jc;cases hg:jM r.Re p with
 |none=>exact m9 rfl (b8 (.inl ⟨by simp,rfl,rfl⟩))
 |some x=>
  refine j4 rfl ?_;simp only [zbs];refine b9 (λ_=>b8 (.inl ⟨by simp,rfl,rfl⟩)) (λh0=> ?_);refine d5 (J3 h p) (λl hl=>b9 (λ_=>b8 (.inl ⟨by simp,rfl,rfl⟩)) (λ_=> ?_));rw [Fy h];simp only [zbs];have hw:=h.wlen;have hl:=h.len;refine f8 (OK.hasRoom (by simp;omega) (b8 (.inr ⟨rfl,rfl,x,rfl,?_,rfl⟩)));have:=(h.prog p x hg).2.2.2.2.2.1;simp at h0;omega
theorem C8(h:fV H M W n r)(hb:n+1<=1000000000){p:Int}{x:zX}(hx:jM r.Re p=some x)(h0:x.RE=0):fV H M W (n+1) (retired r p x):=by
 have hn:=h.Sk;have hn1:=h.SJ
 have hget:∀q,jM (retired r p x).Re q=if p=q then some ⟨x.module,r.Rb.Sk+1⟩ else jM r.Re q:=by
  grind [retired,HH]
 refine {h.mono (n':=n+1) (by omega) hb with SJ:=by grind [retired],Sk:=by grind [retired],Tp:=λe he=> ?_,RR:= ?_,len:= ?_,prog:= ?_,held:= ?_,Tw:= ?_,SV:= ?_}
 ·have:=h.Tp e he
  grind [retired]
 ·unfold Ei;rw [show (retired r p x).Re.map (·.1)=r.Re.map (·.1) from Ej _ _ _];exact h.RR
 ·rw [show (retired r p x).Re.length=r.Re.length from JY _ _ _];exact h.len
 ·intro q y hy;rw [hget] at hy;split at hy
  ·rename_i e
   subst e;cases hy;have:=h.prog p x hx
   grind [retired]
  ·have:=h.prog q y hy
   grind [retired]
 ·show r.RN.held=_;rw [h.held];exact (HJ (λ(z:zX)=>z.module.Maps) r.Re p ⟨x.module,r.Rb.Sk+1⟩ x hx rfl).symm
 ·refine j7.2 ⟨h.Tw,by simp,λa ha b hb e=> ?_⟩;simp at hb;subst hb;subst e;obtain ⟨y,hy,hy0⟩:=(h.SV a).1 ha
  grind
 ·intro q;rw [hget];show q∈r.waiting++[p]↔_;simp only [f7,g9];by_cases e:p=q
  ·subst e;simp;omega
  ·have e2:¬ q=p:=λe2=>e e2.symm
   simp only [e2,or_false,d8 e];exact h.SV q
def tP(r:zb)(p:Int):Bool:=match jM r.Re p with
 |some x=>decide (∀e∈r.Rb.in_,e=0\/x.RE<=e)
 |none=>false
def ob(P:Int->Bool)(k:Int):List Int->List Int
 |[]=>[]
 |x::l=>if 0<k/\P x=true then x::ob P (k-1) l else ob P k l
theorem oZ(P:Int->Bool)(x:Int):∀(l:List Int)(k:Int),ob P k (l++[x])=ob P k l++(if ((ob P k l).length:Int)<k/\P x=true then [x] else [])
 |[],k=>by
  grind [ob]
 |y::l,k=>by
  simp only [z6,ob];split
  ·rename_i hc
   rw [oZ P x l (k-1)]
   grind
  ·exact oZ P x l k
def mE(r:zb)(most:Int):List Int:=ob (tP r) most r.waiting
theorem HP(h:fV H M W n r)(most:Int):OK (jI (xe r most) (λ(s:List Int)=>s) r.waiting.length 0 []) (λl=>l=mE r most):=by
 have hw:=h.wlen;have hl:=h.len;refine f9 (λi s=>s=ob (tP r) most (r.waiting.take i)/\s.length<=i) ⟨by simp [ob],by simp⟩ (λi s again hi hI k=> ?_) (λs hI=> ?_)
 ·obtain ⟨rfl,hsl⟩:=hI;unfold xe;refine f8 (i5 hi (λx hx=> ?_));obtain ⟨y,hy,_⟩:=(h.SV x).1 (zmg hx);have hs:tP r x=decide (∀e∈r.Rb.in_,e=0\/y.RE<=e):=by grind [tP]
  have e1:ob (tP r) most (r.waiting.take (i+1))=ob (tP r) most (r.waiting.take i)++(if ((ob (tP r) most (r.waiting.take i)).length:Int)<most/\tP r x=true then [x] else []):=by
   rw [eg hx,oZ]
  simp only [hy,zbs,HO _ _ (show r.Rb.in_.length<=140737488355328 by have h1:=h.wk;have h2:=h.SH;omega)];refine d5 (R:=λo=>o=decide (((ob (tP r) most (r.waiting.take i)).length:Int)<most/\tP r x=true)) (b9 (λhc=>b8 ?_) (λhc=>b8 ?_)) (λo ho=> ?_)
  ·grind
  ·grind
  ·subst ho;refine b9 (λhc=>f8 (OK.hasRoom (by simp;omega) (k _ ?_))) (λhc=>k _ ?_)
   ·grind
   grind
 ·rw [List.take_length] at hI;exact hI.1
theorem sV(l:List Int)(x:Int):jf x l=some (decide (x∈l)):=by
 grind [jf,gP]
theorem J4(g:List Int)(p0:List Int)(hp:p0.length<=16)(r11:Nat)(hr:r11<p0.length)(hx:∃x,p0[r11]? =some x/\x∈g)(hpre:∀j,j<r11->∀x,p0[j]? =some x->x∉g):
  OK (loop (xl g) 2199023255552 (p0,(r11:Int),((r11:Int)+1))) (λo=>o.1.length=p0.length/\∃k:Nat,o.2=(k:Int)/\k<=p0.length/\o.1.take k=p0.filter (λx=>decide (x∉g))):=by
 refine OK.rounds (λs=>s.1.length=p0.length/\∃k j:Nat,s.2.1=(k:Int)/\s.2.2=(j:Int)/\k<j/\j<=p0.length/\s.1.take k=(p0.take j).filter (λx=>decide (x∉g))/\s.1.drop j=p0.drop j) (λs=>p0.length-s.2.2.toNat) ?_ 2199023255552 _ ?_ (by simp;omega)
 ·rintro ⟨s,k0,j0⟩ again ⟨h1,k,j,e1,e2,h3,h4,h5,h6⟩ kk;simp only at e1 e2 h1 h5 h6;subst e1;subst e2;unfold xl;simp only [h1];by_cases hj:j<p0.length
  ·refine m9 (by simp;omega) ?_;refine f8 (i5 (by omega) (λx hx=> ?_))
   have hxp:p0[j]? =some x:=by
    have e:=congrArg (λl=>l[0]?) h6
    grind
   rw [sV];simp only [zbs];have hw:w64 ((j:Int)+1)=((j+1:Nat):Int):=by grind [fQ]
   have hwk:w64 ((k:Int)+1)=((k+1:Nat):Int):=by grind [fQ]
   have hd:s.drop (j+1)=p0.drop (j+1):=by
    have e:=congrArg (List.drop 1) h6
    simpa [yp] using e
   have htk:p0.take (j+1)=p0.take j++[x]:=eg hxp;rw [hw];refine b9 (λhc=> ?_) (λhc=> ?_)
   ·have hng:x∉g:=by simpa using hc
    refine f8 (i5 (by omega) (λy hy=> ?_));rw [hwk];refine kk _ ⟨by simpa using h1,k+1,j+1,rfl,rfl,by omega,by omega,?_,?_⟩ (by simp;omega)
    ·simp only [k6];rw [htk,z7,<- h5];have:(s.set k x)[k]? =some x:=by grind
     rw [ye,this];simp only [Option.toList_some,List.filter_cons,hng,not_false_eq_true,decide_true,s9,List.filter_nil]
     congr 1
     exact List.take_set_of_le (by omega)
    ·simp only [k6];rw [List.drop_set_of_lt (by omega)];exact hd
   ·have hg:x∈g:=by simpa using hc
    refine kk _ ⟨h1,k,j+1,rfl,rfl,by omega,by omega,?_,hd⟩ (by simp;omega)
    grind
  ·refine j4 (by simp;omega) (b8 ⟨h1,k,rfl,by omega,?_⟩)
   grind
 ·obtain ⟨x,hx,hxg⟩:=hx;refine ⟨rfl,r11,r11+1,rfl,by simp,by omega,by omega,?_,rfl⟩;simp only;rw [eg hx,z7]
  have e1:(p0.take r11).filter (λx=>decide (x∉g))=p0.take r11:=by
   refine List.filter_eq_self.2 (λy hy=> ?_);obtain ⟨j,hj,e⟩:=t8.1 hy
   grind
  rw [e1];simp [hxg]
theorem sL(p0 g:List Int)(hp:p0.length<=16):qR 2199023255552 p0 g=some (p0.filter (λx=>decide (x∉g))):=by
 refine OK.is ?_;unfold qR
 have hix:OK (jw p0 g) (λi=>(i= -1/\∀x∈p0,x∉g)\/∃j:Nat,i=(j:Int)/\j<p0.length/\(∃x,p0[j]? =some x/\x∈g)/\∀q,q<j->∀x,p0[q]? =some x->x∉g):=by
  unfold jw;refine d5 (f9 (Q:=λo=>match o with|.inl _=>∀x∈p0,x∉g|.inr i=>∃j:Nat,i=(j:Int)/\j<p0.length/\(∃x,p0[j]? =some x/\x∈g)/\∀q,q<j->∀x,p0[q]? =some x->x∉g) (λi _=>∀q,q<i->∀x,p0[q]? =some x->x∉g) (λq hq=>by omega) (λi s again hi hI k=> ?_) (λs hI=> ?_)) (λo ho=> ?_)
  ·unfold aA;refine f8 (i5 hi (λx hx=> ?_));rw [sV];simp only [zbs];refine b9 (λhc=>b8 ⟨i,rfl,hi,⟨x,hx,by simpa using hc⟩,hI⟩) (λhc=>k _ (λq hq y hy=> ?_))
   grind
  ·intro x hx;obtain ⟨j,hj,e⟩:=t8.1 hx;exact hI j hj x (by grind)
  grind [b8]
 refine d5 hix (λi hi=> ?_);rcases hi with ⟨rfl,hall⟩|⟨j,rfl,hj,hx,hpre⟩
 ·refine m9 (by simp) (b8 ?_);exact (List.filter_eq_self.2 (λx hx=>by grind)).symm
 ·refine j4 (by simp) ?_
  grind [fQ,d5,J4,cut,b8]
end
open Go.Sx
variable {H M W n:Nat} {r:zb}
theorem Ei.mdels{α:Type}{m:List (Int×α)}(h:Ei m)(g:List Int):Ei (mdels m g):=by
 induction g generalizing m with
 |nil=>exact h
 |cons x g ih=>exact ih (h.mdel x)
theorem Fz{α:Type}{m:List (Int×α)}(h:Ei m)(g:List Int)(q:Int):jM (mdels m g) q=if q∈g then none else jM m q:=by
 induction g generalizing m with
 |nil=>simp [mdels]
 |cons x g ih=>
  simp only [mdels];rw [ih (h.mdel x),HG h]
  grind
theorem HQ{α β:Type}(f:α->β)(g:List Int)(m:List (Int×α)):(mdels m g).map (λp=>(p.1,f p.2))=mdels (m.map (λp=>(p.1,f p.2))) g:=by
 induction g generalizing m with
 |nil=>rfl
 |cons x g ih=>simp only [mdels];rw [ih,JZ]
def gJ(r:zb)(g:List Int):zb:=
 {r with RN:=⟨r.RN.maps,mdels r.RN.held g⟩,Re:=mdels r.Re g,waiting:=r.waiting.filter (λx=>decide (x∉g))}
theorem J5(p:zU)(x:Int):∃e,vU p [x]=some (e,⟨p.maps,mdel p.held x⟩):=by
 rw [MK,d6 (by simp)];by_cases h:(jM p.held x).isSome=true
 ·rw [d6 (by simpa using h)];exact ⟨_,rfl⟩
 ·rw [d8 (by simpa using h)]
  have:jM p.held x=none:=by cases hh:jM p.held x with
   |none=>rfl
   |some v=>rw [hh] at h;simp at h
  rw [oy this];exact ⟨_,rfl⟩
theorem HR(r:zb)(g:List Int):jI (xf g) (λ(s:zb)=>s) g.length 0 r=some {r with RN:=⟨r.RN.maps,mdels r.RN.held g⟩,Re:=mdels r.Re g}:=by
 refine OK.is (f9 (λi s=>s={r with RN:=⟨r.RN.maps,mdels r.RN.held (g.take i)⟩,Re:=mdels r.Re (g.take i)}) rfl (λi s again hi hI k=> ?_) (λs hI=> ?_))
 ·subst hI;unfold xf;refine f8 (i5 hi (λx hx=> ?_));obtain ⟨e,he⟩:=J5 ⟨r.RN.maps,mdels r.RN.held (g.take i)⟩ x
  grind [eg,ut]
 grind
theorem HS(h:fV H M W n r)(most:Int):jx 2199023255552 r most=some (mE r most,gJ r (mE r most)):=by
 refine OK.is ?_;unfold jx;refine d5 (HP h most) (λg hg=> ?_);rw [HR];simp only [zbs];have hw:=h.wlen;have hl:=h.len;rw [sL _ _ (by omega)];simp only [zbs];exact b8 (by rw [hg];rfl)
theorem sW(h:fV H M W n r)(g:List Int)(q:Int):jM (gJ r g).Re q=if q∈g then none else jM r.Re q:=Fz h.RR g q
theorem C9(h:fV H M W n r)(hb:n+1<=1000000000)(most:Int):fV H M W (n+1) (gJ r (mE r most)):=by
 have h':=h.mono (n':=n+1) (by omega) hb;refine {QS:=h'.QS,hl:=h'.hl,maps:=h'.maps,SX:=h'.SX,wk:=h'.wk,SH:=h'.SH,RP:=hb,SN:=h'.SN,given:=h'.given,SI:=h'.SI,last:=h'.last,SJ:=h'.SJ,Sk:=h'.Sk,Tp:=h'.Tp,RR:=h.RR.mdels _,len:= ?_,prog:=λp x hx=> ?_,held:= ?_,Tw:=h.Tw.sublist List.filter_sublist,SV:=λp=> ?_}
 ·have:=HE (mE r most) r.Re;have h2:=h.len
  grind [gJ]
 ·rw [sW h] at hx;split at hx
  ·cases hx
  ·exact h.prog p x hx
 ·simp only [gJ];rw [h.held];exact (HQ (λ(z:zX)=>z.module.Maps) _ _).symm
 ·rw [sW h];simp only [gJ,List.mem_filter,zdq,h.SV p]
  grind
theorem HT(h:fV H M W n r)(p:Int):ja r p=some (match jM r.Re p with|some x=>(x.module,true)|none=>(⟨[],[]⟩,false)):=by
 unfold ja;cases hg:jM r.Re p with
 |none=>rfl
 |some x=>
  have hx:=h.prog p x hg;have h4:x.module.Maps.length<=4:=hx.2.2.1.2.2;have h64:=hx.2.2.2.2.1;rw [d8 (by simp)];simp only [zbs];rw [Eh _ (by omega)];unfold zQ room;rw [d6 (by simp;omega)];rfl
end
open Go.Sx
theorem Pst.bind2{α β:Type}{o:Option α}{f:α->Option β}{R:α->Prop}{Q:β->Prop}(h0:Pst o R)(h:∀x,R x->Pst (f x) Q):Pst (o.bind f) Q:=λr e=>by
 obtain ⟨x,h1,hx⟩:=zF e;exact h x (h0 x h1) r hx
theorem m8:type_of% @Pst.bind2:=Pst.bind2
theorem Ke{fu:Nat}{M:zp}{S:zl}{r:qU×EM}(h:sO fu (pk M S)=some r):∃M1 S1,qI fu M S=some (r.1,M1,S1)/\r.2=pk M1 S1:=by
 rw [MF] at h;obtain ⟨⟨a,M1,S1⟩,h1,rfl⟩:=yy.1 h;exact ⟨M1,S1,h1,rfl⟩
theorem FF{M:zp}{S:zl}{c:zk}{r:Int×EM}(h:lC (pk M S) c=some r):∃M1,jA M c S=some (r.1,M1)/\r.2=pk M1 S:=by
 rw [HA] at h;obtain ⟨⟨e,M1⟩,h1,rfl⟩:=yy.1 h;exact ⟨M1,h1,rfl⟩
inductive ON:zp->zl->List zk->List qU->Nat->Prop
 |stop {M M1:zp} {S S1:zl} {a:qU} {rs:List zk}:qI 2199023255552 M S=some (a,M1,S1)->a.QJ=4->M1.steps=w64 (M.steps+1)->ON M S rs [a] 0
 | ask {M M1 M2 : zp} {S S1 : zl} {a : qU} {c : zk} {rs : List zk} {l : List qU} {n : Nat} : qI 2199023255552 M S = some (a, M1, S1) -> a.QJ = 2 -> jA M1 c S1 = some (0, M2) ->
   M2.steps=w64 (M.steps+1)->ON M2 S1 rs l n->ON M S (c::rs) (a::l) (n+1)
 |go {M M1:zp} {S S1:zl} {a:qU} {rs:List zk} {l:List qU} {n:Nat}:qI 2199023255552 M S=some (a,M1,S1)->a.QJ=1\/a.QJ=3->M1.steps=w64 (M.steps+1)->ON M1 S1 rs l n->ON M S rs (a::l) n
def Pk(m:zH)(E:qO):zp:=⟨E,m,λ_=>0,λ_=>0,0,0,0⟩
theorem H6{m:zH}(h1:m.Maps.length*8<=140737488355328)(h2:m.Code.length*40<=140737488355328){o:Option zj}(h:xj 2199023255552 m=some (o,0,0))(E:qO)(S:zl):
  eP 2199023255552 m E S=some (some (Pk m E),0,⟨⟨λ_=>0⟩,S.Rl⟩):=by
 unfold eP;rw [D3 h];simp only [zbs];rw [d8 (by simp)];simp only [bD,Me h1,Mf h2,zbs];rfl
theorem Kf{m:zH}{o:Option zj}{p e:Int}(h:xj 2199023255552 m=some (o,p,e))(he:e≠0)(E:qO)(S:zl):
  eP 2199023255552 m E S=some (none,e,S):=by
 grind [eP,D3]
def U5(t:qB):Prop:=u64 t.SQ/\u64 t.RY/\u64 t.Sz/\u64 t.Calls/\u64 t.Sum
def uz(t u:qB):qB:=⟨xX (t.SQ+u.SQ),xX (t.RY+u.RY),xX (t.Sz+u.Sz),xX (t.Calls+u.Calls),xX (t.Sum+u.Sum)⟩
theorem Kg(t u:qB):U5 (uz t u):=⟨jY _,jY _,jY _,jY _,jY _⟩
theorem Qp{x:Int}(h:u64 x):xX (0+x)=x:=by rw [Int.zero_add,xW h.1 h.2]
theorem OO{t u:qB}(h:U5 t):nE [t,u]=some (uz t u):=by
 obtain ⟨a,b,c,d,e⟩:=h;show some (uz (uz ⟨0,0,0,0,0⟩ t) u)=_
 grind [uz,Qp]
theorem Ew{h:Int}(h0:0<=h)(h1:h<4):eK h=some true:=by
 grind [eK]
theorem P5{h:Int}(h0:0<=h)(h1:h<4):ain 4 h=some h.toNat:=by grind [ain]
theorem OP{st:zW}{h:Int}(h0:0<=h)(h1:h<4)(hu:U5 (st.QS h.toNat))(s c v:Int):bR st h s c v=some (0,⟨aset st.QS h.toNat (uz (st.QS h.toNat) ⟨1,0,s,c,v⟩)⟩):=by
 grind [bR,Ew,P5,OO]
def Ey(t:qB):qB:={t with RY:=xX (t.RY+1)}
theorem H7{st:zW}{h:Int}(h0:0<=h)(h1:h<4):vI st [h]=some (0,⟨aset st.QS h.toNat (Ey (st.QS h.toNat))⟩):=by
 unfold vI
 have e1:jI (vG st [h]) (λ(s127:Unit)=>(.inl ())) ([h]).length 0 ()=some (.inl ()):=by
  show vG st [h] 0 _ ()=_;unfold vG;have:idx [h] ((0:Nat):Int)=some h:=rfl;rw [this];simp only [zbs,Ew h0 h1];rfl
 have e2:jI (vH [h]) (λ(s284:zW)=>s284) ([h]).length 0 st=some ⟨aset st.QS h.toNat (Ey (st.QS h.toNat))⟩:=by
  show vH [h] 0 _ st=_;unfold vH;have:idx [h] ((0:Nat):Int)=some h:=rfl;rw [this];simp only [zbs,P5 h0 h1];rfl
 grind
def Pm(st:zW):Prop:=∀i,U5 (st.QS i)
theorem Pm.aset{st:zW}(h:Pm st)(k:Nat){t:qB}(ht:U5 t):Pm ⟨Go.Sx.aset st.QS k t⟩:=by
 intro i;show U5 (Go.Sx.aset st.QS k t i);unfold Go.Sx.aset;split
 ·exact ht
 ·exact h i
theorem H8{t:qB}(h:U5 t):U5 (Ey t):=⟨h.1,jY _,h.2.2.1,h.2.2.2.1,h.2.2.2.2⟩
end Go.Proofs.YtplmgfkghomelaaGreatDoor
namespace Go.Proofs.YtplmgfkghomelaaGreatDoor.KH
open Go.Sx
theorem Ea{σ ρ:Type}{body:Nat->(σ->Option ρ)->σ->Option ρ}{out:σ->ρ}{I:σ->Prop}{Q:ρ->Prop}
  (h:∀i s (again:σ->Option ρ),I s->(∀s',I s'->Pst (again s') Q)->Pst (body i again s) Q) (ho:∀s,I s->Q (out s)):
  ∀(n i:Nat)(s:σ),I s->Pst (jI body out n i s) Q
 |0,i,s,hi=>g8 (ho s hi)
 |n+1,i,s,hi=>h i s _ hi λs' hs=>Ea h ho n (i+1) s' hs
def VM(l:List zq):Prop:=∀p∈l,u64 p.Rz
theorem z64:u64 0:=⟨by decide,by decide⟩
theorem VM.at{l:List zq}(h:VM l){t:Int}:Pst (Go.Sx.idx l t) (λp=>u64 p.Rz):=λp e=>by
 unfold Go.Sx.idx at e;split at e
 ·exact h p (zmg e)
 ·cases e
theorem nW{fu:Nat}{b:ql}(h:VM b.QK){op k x:Int}(hx:u64 x):Pst (jK fu b op k x) (λr=>VM r.2.QK/\u64 r.1.Rz):=by
 unfold jK;refine j8 (g8 ⟨h,z64⟩) (i7 λf=> ?_);refine m8 (R:=λo=>u64 o.Rz) (j8 (m8 h.at λp hp=>g8 hp) (g8 z64)) λo ho=> ?_
 refine j8 (j8 (m8 (R:=VM) (λl e p hp=> ?_) λl hl=>g8 ⟨hl,ho⟩) (g8 ⟨h,ho⟩)) ?_
 ·obtain ⟨i,j,_,_,_,_,rfl⟩:=nL e;rcases f7.1 hp with hp|hp
  ·exact h p (Qw hp)
  ·exact h p (List.mem_of_mem_drop hp)
 refine i7 λg=>j8 (j8 (g8 ⟨h,z64⟩) ?_) (g8 ⟨h,ho⟩)
 refine m8 (R:=λb:ql=>VM b.QK) (j8 (m8 (R:=λq=>VM q.1) (λq e p hp=> ?_) λq hq=>g8 hq) (g8 h)) λb2 hb2=> ?_
 ·obtain ⟨i,_,_,_,rfl⟩:=Ar e;rcases f7.1 hp with hp|hp
  ·rcases f7.1 hp with hp|hp
   ·exact h p (Qw hp)
   ·rw [g9.1 hp];exact z64
  ·exact h p (List.mem_of_mem_drop hp)
 refine m8 (R:=λq:Int×zk=>u64 q.1/\u64 q.2.Rz) (j8 (g8 ⟨jY _,jY _⟩) (g8 ⟨hx,ho⟩)) λq hq=> ?_
 refine i7 λy=>g8 ⟨λp hp=> ?_,hq.2⟩
 rcases r6 hp with hp|rfl
 ·exact hb2 p hp
 ·exact hq.1
theorem oX{fu:Nat}{a:qy}{k:Int}:Pst (xB fu a k) (λr=>r.RS=a.RS):=by
 unfold xB;exact i7 λ_=>g8 rfl
theorem CY{fu:Nat}{a:qy}{k:Int}:Pst (xV fu a k) (λr=>r.RS=a.RS):=by
 unfold xV;exact m8 oX λr hr=>i7 λ_=>g8 hr
theorem JR{fu:Nat}{a:qy}(h:VM a.RS.QK){op k x:Int}(hx:u64 x):Pst (dM fu a op k x) (λr=>VM r.2.RS.QK/\u64 r.1.Rz):=by
 unfold dM;refine m8 (nW h hx) λr hr=> ?_
 refine m8 (R:=λo:qy×zk=>VM o.1.RS.QK/\u64 o.2.Rz) (j8 ?_ (g8 hr)) λo ho=> ?_
 ·refine m8 (R:=λe:qy×zk=>VM e.1.RS.QK) ?_ λe he=>m8 (nW he hx) λq hq=>g8 hq
  unfold cy;refine i7 λy=>m8 (nW (b:=r.2) (op:=3) (k:=y) hr.1 z64) λs hs=> ?_
  exact m8 oX λd hd=>g8 (by show VM d.RS.QK;rw [hd];exact hs.1)
 ·refine j8 (g8 ⟨ho.1,ho.2⟩) (i7 λg=>j8 (m8 CY λd hd=>g8 ⟨by show VM d.RS.QK;rw [hd];exact ho.1,ho.2⟩) (j8 (m8 oX λd hd=>g8 ⟨by show VM d.RS.QK;rw [hd];exact ho.1,ho.2⟩) (g8 ⟨ho.1,ho.2⟩)))
def shv(s:qj):List zq:=match s with
 |.inl b=>b.QK
 |.inr a=>a.RS.QK
theorem Fi{fu:Nat}{s:qj}(h:VM (shv s)){op k x:Int}(hx:u64 x):Pst (jC fu s op k x) (λr=>VM (shv r.2)/\u64 r.1.Rz):=by
 cases s with
 |inl b=>unfold jC;exact m8 (nW h hx) λr hr=>g8 hr
 |inr a=>unfold jC;exact m8 (JR h hx) λr hr=>g8 hr
structure Fj (o:zc):Prop where
 maps:∀s∈o.maps,VM (shv s)
 QO:∀r∈o.QO,u64 r.Item.Rz
theorem AP{fu:Nat}{o:zc}(h:Fj o):Pst (jF fu o) (λq=>u64 q.1.Rs.Rz/\∀s∈q.2.2.maps,VM (shv s)):=by
 unfold jF;refine j8 (g8 ⟨z64,h.maps⟩) ?_;refine m8 (R:=λx=>u64 x.Item.Rz) (λx e=> ?_) λx hx=>i7 λys=>j8 (i7 λs=>i7 λps=>g8 ⟨z64,h.maps⟩) ?_
 ·unfold Go.Sx.idx at e;split at e
  ·exact h.QO x (zmg e)
  ·cases e
 refine m8 (R:=λs=>VM (shv s)) (λs e=> ?_) λs hs=>m8 (Fi hs hx) λq hq=>g8 ⟨hq.2,λt ht=> ?_⟩
 ·unfold Go.Sx.idx at e;split at e
  ·exact h.maps s (zmg e)
  ·cases e
 ·rcases r6 ht with ht|rfl
  ·exact h.maps t ht
  ·exact hq.1
theorem CZ{d:je}{s:qj}(h:dU d=some (some s,0)):shv s=[]:=by
 unfold dU at h;split at h
 ·rcases rK d.Th with e|⟨b,e,_,hp⟩
  ·rw [e] at h;cases h
  ·rw [e] at h;simp [ae] at h;subst h;exact hp
 ·split at h
  ·unfold oO at h;rcases rK d.Th with e|⟨b,e,_,hp⟩
   ·rw [e] at h;simp [ae] at h
   ·rw [e] at h;simp [ae] at h;subst h;exact hp
  ·cases h
theorem C1{s n:Int}{ds:List je}{o:zc}{e:Int}(h:bI s n ds=some (some o,e)):Fj o:=by
 have:Pst (bI s n ds) (λq=>∀o,q.1=some o->Fj o):=by
  unfold bI;refine j8 (g8 λo e=>by cases e) ?_;refine m8 (R:=λq=>match q with|.inl o=>Fj o|.inr z=>z.1=none) (λq e=> ?_) λq hq=> ?_
  ·exact Ea (I:=λo=>Fj o) (Q:=λq=>match q with|.inl o=>Fj o|.inr z=>z.1=none) (λi o again ho ha=>by
    unfold gZ;refine i7 λd=> ?_
    intro q hq;rcases AN d with ⟨e,he,hne⟩|⟨m,hm,_⟩
    ·rw [he] at hq;simp only [zbs,ae] at hq;split at hq
     ·cases hq;rfl
     ·cases hq
    ·have hm2:=CZ hm;rw [hm] at hq;simp only [zbs,ae] at hq;rw [d8 (by simp)] at hq;revert q;refine i7 λ_=>ha _ ⟨λt ht=> ?_,ho.QO⟩
     rcases f7.1 ht with ht|ht
     ·exact ho.maps t ht
     ·rw [g9.1 ht,hm2];exact λp hp=>by cases hp) (λo ho=>ho) _ _ _ ⟨λt ht=>(by cases ht),λr hr=>(by cases hr)⟩ q e
  ·cases q with
   |inl o=>exact g8 λo2 e=>by cases e;exact hq
   |inr z=>exact g8 λo2 e=>by rw [show z.1=none from hq] at e;cases e
 exact this _ h o rfl
open Go.Sx
theorem Fk{c:zR}{fu:Nat}(h0:0<=c.QP)(h4:c.QP<=4)(hfu:10<fu):
  ∃o,loop (mL c) fu ([],0)=some o/\match o with
   |.inl os=>(os.length:Int)=c.QP/\∀(i:Nat)(x:zc),os[i]? =some x->iw x/\x.QO=[]/\x.QV=false/\x.RL=c.QP/\x.Si=i/\x.maps.length=c.Maps.length/\Fj x
   |.inr z=>z.1=none/\z.2≠0:=by
 refine hY (λm s=>(s.1.length:Int)=s.2/\s.2<=c.QP/\s.2+m=c.QP/\∀(i:Nat)(x:zc),s.1[i]? =some x->iw x/\x.QO=[]/\x.QV=false/\x.RL=c.QP/\x.Si=i/\(x.maps.length=c.Maps.length/\Fj x)) _ (λm s again hI ha=> ?_) fu c.QP.toNat ([],0) (by omega) ⟨rfl,h0,by grind,λi x hx=>by simp at hx⟩;obtain ⟨rs,i⟩:=s;obtain ⟨a1,a2,a3,a4⟩:=hI;have a1:(rs.length:Int)=i:=a1;have a2:i<=c.QP:=a2;have a3:i+m=c.QP:=a3;unfold mL;show ∃r,(if decide (i<c.QP)=true then _ else _)=some r/\_;by_cases hc:i<c.QP
 ·rw [d6 (by simpa using hc)];rcases AO i c.QP c.Maps with ⟨e,hn,hne⟩|⟨r,hn,hr,b1,b2,b3,b4,b5,_⟩
  ·exact ⟨.inr (none,e),by grind [ae],rfl,hne⟩
  ·rw [show bI (rs,i).2 c.QP c.Maps=_ from hn,zbs];simp only [ae];rw [d8 (by simp)];obtain ⟨u,hu⟩:=cD (m:=rs.length+[r].length) (b:=8) (by grind);rw [hu,zbs,qr (by omega) (by omega)];refine ha (m-1) _ (by omega) ⟨?_,?_,?_,λj x hx=> ?_⟩
   ·grind
   ·grind
   ·grind
   ·have hx:(rs++[r])[j]? =some x:=hx;rcases Nat.lt_or_ge j rs.length with hj|hj
    ·grind
    ·rw [u7 hj] at hx
     have hj2:j-rs.length=0:=by
      grind
     grind [C1]
 ·rw [d8 (by simpa using hc)]
  grind
end Go.Proofs.YtplmgfkghomelaaGreatDoor.KH
