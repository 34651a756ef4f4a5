/- Lemmas. -/
import Derived.Test.YtplmgfkghomelaaGreatDoorF1
set_option linter.unusedVariables false
set_option linter.unusedSimpArgs false
namespace Go.Proofs.YtplmgfkghomelaaGreatDoor.KH
section
section
open Go.Sx
theorem nQ{σ ρ:Type}{body:Nat->(σ->Option ρ)->σ->Option ρ}{out:σ->ρ}(I:Nat->σ->Prop)(Q:ρ->Prop){N:Nat}
  (h:∀i s (again:σ->Option ρ),i<N->I i s->(∀s',I (i+1) s'->∃r,again s'=some r/\Q r)->∃r,body i again s=some r/\Q r) (ho:∀s,I N s->Q (out s)):
  ∀(n i:Nat)(s:σ),i+n=N->I i s->∃r,jI body out n i s=some r/\Q r
 |0,i,s,e,hi=>⟨_,rfl,ho s (by rw [<- e];exact hi)⟩
 |n+1,i,s,e,hi=>h i s _ (by omega) hi λs' hs=>nQ I Q h ho n (i+1) s' (by omega) hs
theorem pI{α:Type}{xs:List α}{i:Nat}(h:i<xs.length):Go.Sx.idx xs (i:Int)=some xs[i]:=by
 unfold Go.Sx.idx
 grind
theorem nR{α:Type}{xs:List α}{t:Int}(h0:0<=t)(h1:t<xs.length):∃x,Go.Sx.idx xs t=some x/\xs[t.toNat]? =some x:=by
 have h2:t.toNat<xs.length:=by omega
 refine ⟨xs[t.toNat],?_,zeg h2⟩;unfold Go.Sx.idx
 grind
theorem cD{m b:Nat}(h:m*b<=140737488355328):∃u,room m b=some u:=by
 unfold room;rw [d6 h];exact ⟨_,rfl⟩
def kin(k:zo)(m:Int)(n:Nat):List Int:=((List.range n).filter (λi:Nat=>decide ((k.QN[i]?).map (λt:qq=>t.QU)=some m))).map (λi:Nat=>(i:Int))
theorem G2{k:zo}{m:Int}{n:Nat}:(kin k m n).length<=n:=by
 grind [kin]
theorem G3{k:zo}{m x:Int}{n:Nat}(h:x∈kin k m n):∃(i:Nat)(t:qq),x=i/\i<n/\k.QN[i]? =some t/\t.QU=m:=by
 grind [kin]
theorem uh{k:zo}{m:Int}(hn:k.QN.length<=64):dJ k m=some (kin k m k.QN.length):=by
 obtain ⟨r,h1,rfl⟩:=nQ (body:=gy k m) (out:=λs=>s) (N:=k.QN.length) (λi s=>s=kin k m i) (λr=>r=kin k m k.QN.length) (λi s again hi hs ha=>by
  subst hs;unfold gy;rw [pI hi];simp only [zbs]
  have e:kin k m (i+1)=kin k m i++(if k.QN[i].QU=m then [(i:Int)] else []):=by
   unfold kin;rw [List.range_succ,z7,t7]
   grind
  by_cases hm:k.QN[i].QU=m
  ·rw [d6 (by simpa using hm)]
   obtain ⟨u,hu⟩:=cD (m:=(kin k m i).length+[(i:Int)].length) (b:=8) (by
    grind [G2])
   grind
  grind) (λs h=>h) k.QN.length 0 [] (by omega) rfl
 grind [dJ]
def Laid(a b:zo)(ps:List Bool)(n:Nat):Prop:=b.LE=a.LE/\b.QN.length=a.QN.length/\∀(i:Nat)(t:qq),a.QN[i]? =some t->
 ∃u,b.QN[i]? =some u/\u.Sh=t.Sh/\u.QU=if i<n then (if t.QU=2 then 2 else if ps[i]? =some true then 1 else 0) else t.QU
theorem Cy{k:zo}{ps:List Bool}(hl:ps.length=k.QN.length):∃b,dX k ps=some (0,b)/\Laid k b ps ps.length:=by
 obtain ⟨b,h1,h2⟩:=nQ (body:=fE ps) (out:=λs=>s) (N:=ps.length) (λi s=>Laid k s ps i) (λr=>Laid k r ps ps.length) (λi s again hi hs ha=>by
  obtain ⟨e1,e2,e3⟩:=hs;have hi2:i<s.QN.length:=by omega
  unfold fE;rw [pI hi,zbs,pI hi2,zbs];have hk:i<k.QN.length:=by omega
  have e4:=e3 i _ (zeg hk);obtain ⟨u,hu,up,um⟩:=e4;rw [zeg hi2] at hu;obtain rfl:=i8 hu;rw [d8 (by omega)] at um
  have step:∀md:Int,(md=if k.QN[i].QU=2 then 2 else if ps[i]? =some true then 1 else 0)->Laid k (zo.mk (s.QN.set (Int.toNat (i:Int)) (qq.mk md s.QN[i].Sh)) s.LE) ps (i+1):=by
   intro md hmd;refine ⟨e1,by grind,λj t hj=> ?_⟩
   grind
  by_cases hm:s.QN[i].QU=2
  ·rw [d6 (by simpa using hm)];refine ha _ ⟨e1,e2,λj t hj=> ?_⟩
   grind
  grind) (λs h=>h) ps.length 0 k (by omega) ⟨rfl,rfl,λi t h=>⟨t,h,rfl,by grind⟩⟩
 refine ⟨b,?_,h2⟩;unfold dX
 grind
def iU(r:zw):Prop:=1<=r.room/\r.room<=16/\(r.waiting.length:Int)<=r.room
theorem Cz(n:Int)(g:zO):(kn n g=some (none,2))\/∃r,kn n g=some (some r,0)/\iU r/\r.waiting=[]/\r.SO=false:=by
 unfold kn;split
 ·exact .inl rfl
 ·rename_i h
  simp only [Bool.or_false,q8,zdq,not_or] at h;refine .inr ⟨_,rfl,⟨by grind,by show n<=16;omega,by grind⟩,rfl,rfl⟩
theorem mC{r:zw}(h:iU r)(ev:qO)(g:zO):∃n e r' g',vy r ev g=some (n,e,r',g')/\iU r'/\r'.SO=r.SO/\((e=0/\r.SO=false/\r'.waiting=r.waiting++[zZ.mk n ev])\/(e≠0/\r'.waiting=r.waiting)):=by
 obtain ⟨h1,h2,h3⟩:=h;unfold vy;split
 ·exact ⟨_,_,_,_,rfl,⟨h1,h2,h3⟩,rfl,.inr ⟨by decide,rfl⟩⟩
 ·split
  ·exact ⟨_,_,_,_,rfl,⟨h1,h2,h3⟩,rfl,.inr ⟨by decide,rfl⟩⟩
  ·rename_i hs hr
   have hr':(r.waiting.length:Int)≠r.room:=by simpa using hr
   obtain ⟨u,hu⟩:=cD (m:=r.waiting.length+1) (b:=24) (by omega);unfold cm;simp only [zbs];rw [show ([(zZ.mk (w64 (g.last+1)) ev)]).length=1 from rfl,hu];refine ⟨_,_,_,_,rfl,⟨h1,h2,?_⟩,rfl,.inl ⟨rfl,by simpa using hs,rfl⟩⟩
   grind
theorem mD(r:zw):∃c,aV r=some c/\c.Sl=(r.waiting.length:Int):=⟨_,rfl,rfl⟩
theorem pJ{r:zw}(h:iU r)(g:zO){q:zZ}{qs:List zZ}(hw:r.waiting=q::qs):∃r',bp r g=some (q,true,r')/\iU r'/\r'.waiting=qs/\r'.SO=r.SO:=by
 obtain ⟨h1,h2,h3⟩:=h;unfold bp;rw [hw];rw [d8 (by simp;omega)];have e1:Go.Sx.idx (q::qs) 0=some q:=rfl
 have e2:cut (q::qs) 1 ((q::qs).length:Int)=some qs:=by
  unfold cut;rw [d6 (by simp;omega)];simp
 rw [e1,zbs,e2,zbs];refine ⟨_,rfl,⟨h1,h2,?_⟩,rfl,rfl⟩
 grind
open Go.Sx
def Jx(a b:zo):Prop:=b.QN.length=a.QN.length/\∀i:Nat,(b.QN[i]?).map (·.QU)=(a.QN[i]?).map (·.QU)
theorem AE{k:zo}{t:Int}(h0:0<=t)(h1:t<k.QN.length):∃k',vS k t=some (t,true,k')/\Jx k k':=by
 obtain ⟨x,hx,hg⟩:=nR h0 h1;unfold vS;rw [hx,zbs];refine ⟨_,rfl,by grind,λi=> ?_⟩
 grind
theorem wj{k:zo}(hn:k.QN.length<=64):az k=some (kin k 1 k.QN.length):=by
 grind [az,uh]
theorem wl{k:zo}(hn:k.QN.length<=64):bU k=some (kin k 2 k.QN.length):=by
 grind [bU,uh]
def Mr(k:zo)(o:Option (Int×Bool×zo)):Prop:=
 (kin k 1 k.QN.length=[]/\o=some (0,false,k))\/∃x k',x∈kin k 1 k.QN.length/\o=some (x,true,k')/\Jx k k'
theorem Jy{k:zo}{x:Int}(h:x∈kin k 1 k.QN.length):Mr k ((vS k x).bind λr=>some (r.1,r.2.1,r.2.2)):=by
 obtain ⟨i,t,rfl,hi,_⟩:=G3 h;obtain ⟨k',h1,h2⟩:=AE (k:=k) (t:=(i:Int)) (by omega) (by omega);exact .inr ⟨_,k',h,by rw [h1];rfl,h2⟩
theorem AF{k:zo}(hn:k.QN.length<=64)(c:Int):Mr k (db k c):=by
 unfold db;rw [wj hn,zbs];by_cases h0:kin k 1 k.QN.length=[]
 ·rw [d6 (by rw [h0];rfl)];exact .inl ⟨h0,rfl⟩
 have hl:0<(kin k 1 k.QN.length).length:=List.length_pos_iff.2 h0;have hl2:=G2 (k:=k) (m:=1) (n:=k.QN.length);rw [d8 (by simp;omega)];have hz:nz ((kin k 1 k.QN.length).length:Int)=some ():=by grind [nz]
 rw [hz,zbs];generalize hn2:((kin k 1 k.QN.length).length:Int)=n at*
 have hnp:0<n:=by omega
 have hm:=Int.tmod_lt_of_pos c hnp
 have hm2: -n<c.tmod n:=by
  have:=Int.lt_tmod_of_pos c hnp;omega
 obtain ⟨o,ho,h1,h2⟩:∃o,(if decide (c.tmod n<0) then some (w64 (c.tmod n+n)) else some (c.tmod n))=some o/\0<=o/\o<n:=by
  grind [qr]
 rw [ho,zbs];obtain ⟨x,hx,hg⟩:=nR (xs:=kin k 1 k.QN.length) h1 (by omega)
 grind [Jy]
theorem mU{k:zo}{t:Nat}{x:qq}(ht:k.QN[t]? =some x)(hm:x.QU≠2):
  aO k [(t:Int)]=some (0,zo.mk (k.QN.set t (qq.mk 2 x.Sh)) k.LE):=by
 have hl:t<k.QN.length:=(zes.1 ht).1;have e1:Go.Sx.idx [(t:Int)] ((0:Nat):Int)=some (t:Int):=rfl;have e2:Go.Sx.idx k.QN (t:Int)=some x:=by rw [pI hl];rw [zeg hl] at ht;exact ht
 unfold aO fa;simp only [t6,yu,jI,iK,iL,iM,e1,e2,zbs]
 grind
open Go.Sx
variable {x:Int} {l:List zq} {i:Nat}
theorem Oo(x:Int):xX x=x%18446744073709551616:=by
 show IntKind.u64.wrap x=_;simp [IntKind.wrap,IntKind.bits,IntKind.signed]
theorem Qe(h0:0<=x)(h1:x<=1000):w64 (ic .u64 (xX (w64 x)) 1)=x / 2:=by
 rw [qr (x:=x) (by omega) (by omega),Oo,Int.emod_eq_of_lt h0 (by omega)]
 have e:ic .u64 x 1=x / 2:=by
  show x.fdiv (2^(min (Int.toNat 1) IntKind.u64.bits))=_;rw [Int.fdiv_eq_ediv_of_nonneg _ (by grind)];rfl
 grind [qr]
def pv:List zq->Int->Option Int
 |[],_=>none
 |p::l,k=>if p.RH=k then some p.Rz else pv l k
def pk(l:List zq):List Int:=l.map (·.RH)
theorem sK{k:Int}:pv l k=none↔k∉pk l:=by
 induction l with
 |nil=>simp [pv,pk]
 |cons p l ih=>
  grind [pv,pk]
theorem PL(hn:(pk l).Nodup){p:zq}(h:l[i]? =some p):pv l p.RH=some p.Rz:=by
 induction l generalizing i with
 |nil=>simp at h
 |cons q l ih=>
  grind [pk,pv]
theorem AM{a b:List zq}{k:Int}:pv (a++b) k=(match pv a k with|some x=>some x|none=>pv b k):=by
 induction a with
 |nil=>rfl
 |cons p a ih=>
  grind [pv]
theorem Ho{a b:List zq}:pk (a++b)=pk a++pk b:=t7
theorem JK{p:zq}(h:l[i]? =some p):l=l.take i++p::l.drop (i+1):=by
 obtain ⟨hl,rfl⟩:=zes.1 h
 conv=>lhs;rw [<- yi i l,List.drop_eq_getElem_cons hl]
theorem Oq(hn:(pk l).Nodup){p:zq}(h:l[i]? =some p)(x:Int)(q:Int):pv (l.set i ⟨p.RH,x⟩) q=if q=p.RH then some x else pv l q:=by
 induction l generalizing i with
 |nil=>simp at h
 |cons r l ih=>
  obtain ⟨n1,n2⟩:=r9.1 (show (r.RH::pk l).Nodup from hn);cases i with
  |zero=>
   grind [pv]
  |succ i=>
   grind [pk,pv]
theorem K6{p:zq}(h:l[i]? =some p)(x:Int):pk (l.set i ⟨p.RH,x⟩)=pk l:=by
 unfold pk;rw [ym];apply l8
 grind
theorem Ot(hn:(pk l).Nodup){p:zq}(h:l[i]? =some p)(q:Int):pv (l.take i++l.drop (i+1)) q=if q=p.RH then none else pv l q:=by
 have e:=JK h;have hn2:=hn;rw [e,Ho] at hn2;obtain ⟨n1,n2,n3⟩:=j7.1 hn2;obtain ⟨n4,n5⟩:=r9.1 (show (p.RH::pk (l.drop (i+1))).Nodup from n2);have hna:p.RH∉pk (l.take i):=λhm=>n3 _ hm p.RH (by simp [pk]) rfl
 by_cases hq:q=p.RH
 ·subst hq;rw [d6 rfl,AM,sK.2 hna];exact sK.2 n4
 grind [AM,pv]
theorem K7:(pk (l.take i++l.drop (i+1))).Sublist (pk l):=by
 have h:(l.take i++l.drop (i+1)).Sublist l:=by
  rw [<- List.eraseIdx_eq_take_drop_succ]
  grind
 exact h.map _
def CQ(v:Option Int)(n:Nat)(cap op x:Int):zk:=
 if op=0 then ⟨0,v.isSome,v.getD 0,false,0,0⟩
 else if op=1 then ⟨0,v.isSome,0,false,0,0⟩
 else if op=3 then ⟨0,v.isSome,v.getD 0,false,0,0⟩
 else if v=none/\(n:Int)=cap then ⟨40,false,0,false,0,0⟩
 else ⟨0,v.isSome,if op=4 then xX (v.getD 0+x) else v.getD 0,false,0,0⟩
def K8(v:Option Int)(n:Nat)(cap op x:Int):Option Int:=
 if op=3 then none
 else if op=2\/op=4 then (if v=none/\(n:Int)=cap then none else some (if op=4 then xX (v.getD 0+x) else x))
 else v
def K9(v:Option Int)(n:Nat)(cap op:Int):Nat:=
 if op=3 then (if v.isSome then n-1 else n)
 else if (op=2\/op=4)/\v=none/\(n:Int)≠cap then n+1
 else n
structure Pf (l l':List zq) (cap op k x:Int):Prop where
 TA:∀q,pv l' q=if q=k then K8 (pv l k) l.length cap op x else pv l q
 len:l'.length=K9 (pv l k) l.length cap op
 nd:(pk l').Nodup
def Srt(l:List zq):Prop:=(pk l).Pairwise (· < ·)
theorem Srt.nd(h:Srt l):(pk l).Nodup:=h.imp (λa=>by omega)
structure Found (l:List zq) (k:Int) (i:Nat):Prop where
 le:i<=l.length
 TK:∀p∈l.take i,p.RH<k
 TE:∀p∈l.drop i,k<=p.RH
theorem CR(h:Srt l){j:Nat}{p q:zq}(hij:i<j)(hi:l[i]? =some p)(hj:l[j]? =some q):p.RH<q.RH:=by
 obtain ⟨hli,rfl⟩:=zes.1 hi;obtain ⟨hlj,rfl⟩:=zes.1 hj;have:=List.pairwise_iff_getElem.1 h i j (by grind [pk]) (by grind [pk]) hij
 grind [pk]
theorem CS{fu:Nat}(hfu:17<fu)(hs:Srt l)(hl:l.length<=16)(k:Int):
  OK (zM fu l k) (λr=>∃i:Nat,r.1=(i:Int)/\Found l k i/\r.2=(pv l k).isSome/\(r.2=true->∃p,l[i]? =some p/\p.RH=k)):=by
 unfold zM
 refine d5 (R:=λi=>∃n:Nat,i=(n:Int)/\Found l k n)
  (OK.rounds (λs=>∃a b:Nat,s.1=(a:Int)/\s.2=(b:Int)/\a<=b/\b<=l.length/\(∀p∈l.take a,p.RH<k)/\∀p∈l.drop b,k<=p.RH) (λs=>s.2.toNat-s.1.toNat) ?_ fu _ ⟨0,l.length,rfl,rfl,by omega,by omega,by simp,by simp⟩ (by simp;omega)) ?_
 ·rintro ⟨s1,s2⟩ again ⟨a,b,e1,e2,hab,hb,hlo,hhi⟩ kk;simp only at e1 e2;subst e1;subst e2;unfold qG;refine b9 (λh=> ?_) (λh=> ?_)
  ·have h:(a:Int)<b:=by simpa using h
   simp only;rw [Qe (x:=(a:Int)+b) (by omega) (by omega)];have em:((a:Int)+b) / 2=(((a+b) / 2:Nat):Int):=by omega
   rw [em];have hm1:a<=(a+b) / 2:=by omega
   have hm2:(a+b) / 2<b:=by omega
   refine f8 (i5 (by omega) (λp hp=> ?_));unfold vC;by_cases c:p.RH<k
   ·simp only [c,decide_true,s9,zbs];refine m9 (by decide) ?_;rw [qr (by omega) (by omega)];refine kk _ ⟨(a+b) / 2+1,b,by simp,rfl,by omega,hb,λq hq=> ?_,hhi⟩ (by simp;omega);rw [ye,hp] at hq;rcases f7.1 hq with hq|hq
    ·obtain ⟨j,hj,rfl⟩:=t8.1 hq;have hjl:j<(a+b) / 2:=by simp at hj;omega
     have:=CR hs hjl (p:=l[j]'(by omega)) (zeg (by omega)) hp
     grind
    grind
   ·simp only [c,decide_false,zfe,if_false];refine d5 (R:=λz=>¬ z<0) ?_ (λz hz=> ?_)
    ·refine b9 (λ_=>b8 (by decide)) (λ_=>b8 (by decide))
    ·refine j4 (by simpa using hz) ?_;refine kk _ ⟨a,(a+b) / 2,rfl,rfl,by omega,by omega,hlo,λq hq=> ?_⟩ (by simp;omega);obtain ⟨j,hj,rfl⟩:=t8.1 hq;rw [List.getElem_drop];have hjl:(a+b) / 2+j<l.length:=by simp at hj;omega
     cases j with
     |zero=>
      grind
     |succ j=>
      have:=CR hs (show (a+b) / 2<(a+b) / 2+(j+1) by omega) hp (zeg hjl);omega
  ·have h:¬ (a:Int)<b:=by simpa using h
   have:a=b:=by omega
   subst this;exact b8 ⟨a,rfl,hb,hlo,hhi⟩
 ·rintro i ⟨n,rfl,hf⟩
  have hlow:k∉pk (l.take n):=λhm=>by
   obtain ⟨p,hp,e⟩:=yn.1 hm;have:=hf.TK p hp;omega
  have hsp:pv l k=pv (l.drop n) k:=by
   conv=>lhs;rw [<- yi n l,AM,sK.2 hlow]
  refine d5 (R:=λb=>b=(pv l k).isSome/\(b=true->∃p,l[n]? =some p/\p.RH=k)) ?_ (λb hb=>b8 ⟨n,rfl,hf,hb.1,hb.2⟩);refine b9 (λc=> ?_) (λc=> ?_)
  ·have c:(n:Int)<l.length:=by simpa using c
   refine f8 (i5 (by omega) (λp hp=> ?_))
   have hd:l.drop n=p::l.drop (n+1):=by
    obtain ⟨hlt,rfl⟩:=zes.1 hp;exact List.drop_eq_getElem_cons hlt
   have hk:k<=p.RH:=hf.TE p (by grind);unfold vC;by_cases e:p.RH=k
   ·grind [b8,pv]
   ·have c1:¬ p.RH<k:=by omega
    have c2:p.RH>k:=by omega
    simp only [c1,c2,decide_false,decide_true,zfe,if_false,s9,zbs];refine b8 ⟨?_,λh=>by simp at h⟩;rw [hsp]
    have:k∉pk (l.drop n):=λhm=>by
     obtain ⟨q,hq,e2⟩:=yn.1 hm;rw [hd] at hq;rcases i9.1 hq with rfl|hq
     ·exact e e2
     ·obtain ⟨j,hj,rfl⟩:=t8.1 hq;rw [List.getElem_drop] at e2;have hjl:n+1+j<l.length:=by simp at hj;omega
      have:=CR hs (show n<n+1+j by omega) hp (zeg hjl);omega
    rw [sK.2 this];rfl
  ·have c:¬ (n:Int)<l.length:=by simpa using c
   refine b8 ⟨?_,λh=>by cases h⟩;rw [hsp,x9 (by omega)];rfl
theorem MA(hs:Srt l){k:Int}(hf:Found l k i)(hn:k∉pk l)(x:Int):Srt (l.take i++[⟨k,x⟩]++l.drop i):=by
 unfold Srt;rw [Ho,Ho];have h1:(pk (l.take i)).Pairwise (· < ·):=List.Pairwise.sublist (List.Sublist.map _ (List.take_sublist _ _)) hs;have h2:(pk (l.drop i)).Pairwise (· < ·):=List.Pairwise.sublist (List.Sublist.map _ (List.drop_sublist _ _)) hs
 have hlow:∀a∈pk (l.take i),a<k:=λa ha=>by
  obtain ⟨p,hp,rfl⟩:=yn.1 ha;exact hf.TK p hp
 have hhigh:∀a∈pk (l.drop i),k<a:=λa ha=>by
  obtain ⟨p,hp,rfl⟩:=yn.1 ha;have:=hf.TE p hp;have:¬ k=p.RH:=λe=>hn (by rw [e];exact List.mem_map_of_mem (List.mem_of_mem_drop hp))
  omega
 grind [pk]
structure BB (c:Int) (b:ql):Prop where
 cap:b.cap=c
 c1:1<=c
 TF:c<=16
 len:(b.QK.length:Int)<=c
 Tv:Srt b.QK
theorem BB.done{c op k:Int}{b:ql}(h:BB c b)(hs:Srt l)(hd:Pf b.QK l c op k x):BB c ⟨b.cap,l⟩:=by
 refine {h with len:= ?_,Tv:=hs};have:=hd.len;have:=h.len
 grind [K9]
theorem wo{fu:Nat}(hfu:17<fu){cap:Int}{b:ql}(h:BB cap b){op:Int}(h0:0<=op)(h4:op<=4)(k x:Int):
  OK (jK fu b op k x) (λo=>o.1=CQ (pv b.QK k) b.QK.length cap op x/\∃l,o.2=⟨b.cap,l⟩/\Srt l/\Pf b.QK l cap op k x):=by
 have hl:b.QK.length<=16:=by have:=h.len;have:=h.TF;omega
 have hnd:=h.Tv.nd
 have same:∀(hop:op=0\/op=1\/(op=3/\pv b.QK k=none)\/((op=2\/op=4)/\pv b.QK k=none/\(b.QK.length:Int)=cap)),Pf b.QK b.QK cap op k x:=by
  intro hop;refine ⟨λq=> ?_,?_,hnd⟩
  ·grind [K8]
  grind [K9]
 unfold jK;refine j4 (by simp;omega) ?_;unfold fc;refine d5 (R:=λr=>∃i:Nat,r.1=(i:Int)/\Found b.QK k i/\r.2=(pv b.QK k).isSome/\(r.2=true->∃p,b.QK[i]? =some p/\p.RH=k)) (d5 (CS hfu h.Tv hl k) (λr hr=>b8 hr)) ?_;rintro ⟨r1,r2⟩ ⟨i,e1,hf,e2,hp⟩;simp only at e1 e2 hp |-;subst e1;subst e2;have hval:∀p,b.QK[i]? =some p->p.RH=k->pv b.QK k=some p.Rz:=λp hq e=>by grind [PL]
 refine d5 (R:=λo=>o=⟨0,(pv b.QK k).isSome,if op=1 then 0 else (pv b.QK k).getD 0,false,0,0⟩) ?_ (λo ho=> ?_)
 ·refine b9 (λc=> ?_) (λc=> ?_)
  ·grind [f8,i5,b8]
  ·refine b8 ?_;by_cases e:op=1
   ·simp [e]
   ·have:(pv b.QK k).isSome=false:=by
     grind
    have hn:pv b.QK k=none:=by simpa using this
    simp [hn]
 subst ho;refine b9 (λe=> ?_) (λe3=> ?_)
 ·have e:op=3:=by simpa using e
  subst e;refine b9 (λc=> ?_) (λc=> ?_)
  ·obtain ⟨p,hpi,hk⟩:=hp c;have hlt:=(zes.1 hpi).1;unfold qf K0;rw [qr (by omega) (by omega),d6 ⟨by omega,by omega,by omega⟩];have e5:((i:Int)+1).toNat=i+1:=by omega
   simp only [zbs,k6,e5];refine b8 ⟨by simp [CQ],_,rfl,?_,λq=> ?_,?_,hnd.sublist K7⟩
   ·exact List.Pairwise.sublist K7 h.Tv
   ·grind [Ot,K8]
   grind [K9]
  ·have hn:pv b.QK k=none:=by simpa using c
   refine b8 ⟨by simp [CQ],_,rfl,h.Tv,same (.inr (.inr (.inl ⟨rfl,hn⟩)))⟩
 have n3:¬ op=3:=by simpa using e3
 refine d5 (R:=λb=>b=decide (op=2\/op=4)) ?_ (λz hz=> ?_)
 ·refine b9 (λe=>b8 ?_) (λe=>b8 ?_)
  ·grind
  grind
 subst hz;refine b9 (λe=> ?_) (λe=> ?_)
 ·have e:op=2\/op=4:=by simpa using e
  have n0:¬ op=0:=by omega
  have n1:¬ op=1:=by omega
  refine b9 (λc=> ?_) (λc=> ?_)
  ·have hn:pv b.QK k=none:=by simp at c;exact c.1
   have hfull:(b.QK.length:Int)=cap:=by simp at c;have:=h.cap;omega
   refine b8 ⟨?_,_,rfl,h.Tv,same (.inr (.inr (.inr ⟨e,hn,hfull⟩)))⟩
   grind [CQ]
  ·have hnf:¬ (pv b.QK k=none/\(b.QK.length:Int)=cap):=by
    rintro ⟨a1,a2⟩;have:=h.cap
    grind
   have hbv:K8 (pv b.QK k) b.QK.length cap op x=some (if op=4 then xX ((pv b.QK k).getD 0+x) else x):=by
    grind [K8]
   refine d5 (R:=λ(m:ql)=>m.cap=b.cap/\m.QK.length=(if pv b.QK k=none then b.QK.length+1 else b.QK.length)/\Srt m.QK/\(∃p,m.QK[i]? =some p/\p.RH=k)/\∀q,q≠k->pv m.QK q=pv b.QK q) ?_ (λm hm=> ?_)
   ·refine b9 (λc2=> ?_) (λc2=> ?_)
    ·have hn:pv b.QK k=none:=by simpa using c2
     have hfl:=hf.le;unfold qg Nv;rw [d6 ⟨by omega,by omega,by simp;omega⟩];simp only [zbs,k6];refine b8 ⟨rfl,?_,MA h.Tv hf (sK.1 hn) 0,⟨⟨k,0⟩,?_,rfl⟩,λq hq=> ?_⟩
     ·grind
     ·grind
     ·have hkq:¬ k=q:=λz=>hq z.symm
      conv=>rhs;rw [<- yi i b.QK,AM]
      grind [AM,pv]
    ·have hs:(pv b.QK k).isSome=true:=by simpa using c2
     have hn:¬ pv b.QK k=none:=λe=>by grind
     exact b8 ⟨rfl,by rw [d8 hn],h.Tv,hp hs,λq _=>rfl⟩
   obtain ⟨m1,m2,m3,⟨p,hpi,hk⟩,m5⟩:=hm;refine d5 (R:=λo=>o=((if op=4 then xX ((pv b.QK k).getD 0+x) else x),CQ (pv b.QK k) b.QK.length cap op x)) ?_ (λo ho=> ?_)
   ·refine b9 (λe4=>b8 ?_) (λe4=>b8 ?_)
    ·grind [CQ]
    grind [CQ]
   subst ho;refine f8 (i5 (zes.1 hpi).1 (λy hy=>b8 ?_));rw [hpi] at hy;cases hy;refine ⟨rfl,_,by rw [m1],?_,λq=> ?_,?_,?_⟩
   ·grind [Srt,pk,K6]
   ·rw [hbv];subst hk;rw [show Int.toNat (i:Int)=i from rfl,Oq m3.nd hpi]
    grind
   ·grind [K9,pv]
   ·rw [show pk (m.QK.set (Int.toNat (i:Int)) ⟨p.RH,_⟩)=pk m.QK from K6 hpi _];exact m3.nd
 ·have e:¬ (op=2\/op=4):=by simpa using e
  have e01:op=0\/op=1:=by omega
  refine b8 ⟨?_,_,rfl,h.Tv,same (by grind)⟩
  grind [CQ]
theorem fF{l:List Int}{k:Int}(h:l[i]? =some x):(l.take (i+1)).filter (· !=k)=(l.take i).filter (· !=k)++if x !=k then [x] else []:=by
 rw [ye,h,z7]
 grind
theorem CT(l:List Int)(k:Int)(hl:l.length<=100):OK (qP l k) (λi=>(i= -1/\k∉l)\/∃n:Nat,i=(n:Int)/\l[n]? =some k/\k∉l.take n):=by
 unfold qP;refine d5 (R:=λo=>match o with|.inl _=>k∉l|.inr i=>∃n:Nat,i=(n:Int)/\l[n]? =some k/\k∉l.take n) (f9 (λi _=>k∉l.take i) (by simp) ?_ ?_) ?_
 ·intro i s again hi h kk;unfold xT bm;refine f8 (i5 hi (λy hy=> ?_));simp only [zbs];refine b9 (λhe=>b8 ?_) (λhe=>kk _ ?_)
  ·grind
  ·have hne:¬ y=k:=by simpa using he
   rw [ye,hy]
   grind
 ·grind
 grind [b8]
theorem dh{l:List Int}{k:Int}(h:k∉l):l.filter (· !=k)=l:=by
 refine List.filter_eq_self.2 (λx hx=> ?_)
 grind
theorem sL{fu:Nat}(hfu:101<fu)(l:List Int)(k:Int)(hl:l.length<=100):qJ fu l k=some (l.filter (· !=k)):=by
 refine OK.is ?_;unfold qJ;refine d5 (CT l k hl) (λi hi=> ?_);refine b9 (λc=> ?_) (λc=> ?_)
 ·grind [b8,dh]
 ·rcases hi with ⟨rfl,hn⟩|⟨n,rfl,hk,hn⟩
  ·simp at c
  have hlt:=(zes.1 hk).1
  refine d5 (R:=λs=>∃m:Nat,s.2=(m:Int)/\m<=l.length/\s.1.length=l.length/\s.1.take m=l.filter (· !=k))
   (OK.rounds (λs=>∃a b:Nat,s.2.1=(a:Int)/\s.2.2=(b:Int)/\a<b/\b<=l.length/\s.1.length=l.length/\s.1.take a=(l.take b).filter (· !=k)/\s.1.drop b=l.drop b) (λs=>l.length-s.2.2.toNat) ?_ fu _ ?_ ?_) ?_
  ·rintro ⟨s,s1,s2⟩ again ⟨a,b,e1,e2,hab,hb,hsl,ht,hd⟩ kk;simp only at e1 e2 hsl ht hd;subst e1;subst e2;unfold xH bm;simp only;refine b9 (λh=> ?_) (λh=> ?_)
   ·have h:(b:Int)<s.length:=by simpa using h
    refine f8 (i5 (by omega) (λy hy=> ?_))
    have hyl:l[b]? =some y:=by
     have:=congrArg (λz=>z[0]?) hd
     grind
    simp only [zbs];refine b9 (λe=> ?_) (λe=> ?_)
    ·have e:¬ y=k:=by simpa using e
     refine f8 (i5 (by omega) (λz hz=> ?_));rw [qr (by omega) (by omega),qr (by omega) (by omega)];refine kk _ ⟨a+1,b+1,by simp,by simp,by omega,by omega,by simp [hsl],?_,?_⟩ (by simp;omega)
     ·rw [fF hyl,d6 (by simpa using e),<- ht];show (s.set a y).take (a+1)=_;rw [ye,ya (by omega),List.take_set_of_le (by omega)];rfl
     ·show (s.set a y).drop (b+1)=_;rw [List.drop_set_of_lt (by omega)];have:=congrArg (List.drop 1) hd;rw [yp,yp] at this
      grind
    ·have e:y=k:=by simpa using e
     rw [qr (by omega) (by omega)];refine kk _ ⟨a,b+1,rfl,by simp,by omega,by omega,hsl,?_,?_⟩ (by simp;omega)
     ·rw [fF hyl,d8 (by simpa using e),i6,<- ht]
     ·have:=congrArg (List.drop 1) hd;rw [yp,yp] at this
      grind
   grind [b8]
  ·refine ⟨n,n+1,rfl,by grind [qr],by omega,by omega,rfl,?_,rfl⟩;rw [fF hk];simp [dh hn]
  ·grind
  ·rintro ⟨s,z⟩ ⟨m,e1,hm,hsl,ht⟩;simp only at e1 hsl ht |-;subst e1;rw [vX rfl (by omega)];simp only [zbs];rw [mR rfl (by simp;omega)];simp only [zbs,k6];refine b8 ?_;rw [<- ht,Qy (by simp;omega),z8,Nat.min_self]
end
open Go.Sx
structure LB (c:Int) (a:qy):Prop where
 bb:BB c a.RS
 nd:a.Sa.Nodup
 mem:∀k,k∈a.Sa↔(pv a.RS.QK k).isSome=true
 len:a.Sa.length=a.RS.QK.length
theorem nU{l:List Int}{k:Int}(hn:l.Nodup)(h:k∈l):(l.filter (· !=k)).length+1=l.length:=by
 induction l with
 |nil=>cases h
 |cons a l ih=>
  grind [dh]
theorem La{l:List Int}{k q:Int}:q∈l.filter (· !=k)↔q∈l/\q≠k:=by grind
theorem LB.out{c:Int}{b:ql}{o:List Int}(h:LB c ⟨b,o⟩){k:Int}{l:List zq}(hb:BB c ⟨b.cap,l⟩)(hv:∀q,pv l q=if q=k then none else pv b.QK q)(hl:l.length=if (pv b.QK k).isSome then b.QK.length-1 else b.QK.length):LB c ⟨⟨b.cap,l⟩,o.filter (· !=k)⟩:=by
 refine ⟨hb,h.nd.filter _,λq=> ?_,?_⟩
 ·show q∈o.filter (· !=k)↔(pv l q).isSome=true;rw [La,hv q];have hm:q∈o↔(pv b.QK q).isSome=true:=h.mem q
  grind
 ·show (o.filter (· !=k)).length=l.length;have hm:k∈o↔(pv b.QK k).isSome=true:=h.mem k;have hlen:o.length=b.QK.length:=h.len;by_cases e:k∈o
  ·have:=nU (show o.Nodup from h.nd) e
   grind
  ·rw [hl,d8 (λz=>e (hm.2 z)),dh e];exact hlen
theorem CU{fu:Nat}(hfu:101<fu)(a:qy)(k:Int)(hl:a.Sa.length<=100):xB fu a k=some ⟨a.RS,a.Sa.filter (· !=k)⟩:=by
 unfold xB;rw [sL hfu _ _ hl];rfl
theorem JM{fu:Nat}(hfu:101<fu)(a:qy)(k:Int)(hl:a.Sa.length<=100):xV fu a k=some ⟨a.RS,k::a.Sa.filter (· !=k)⟩:=by
 unfold xV;rw [CU hfu a k hl,zbs];have h1:(a.Sa.filter (· !=k)).length<=100:=t5 (List.length_filter_le _ _) hl
 grind [jB,Nv]
theorem LB.le{c:Int}{a:qy}(h:LB c a):a.Sa.length<=16:=by
 have h1:=h.len;have h2:=h.bb.len;have h3:=h.bb.TF;omega
theorem JN{fu:Nat}(hfu:101<fu){c:Int}{a:qy}(h:LB c a)(h1:1<=a.RS.QK.length)(p:zk):
  OK (cy fu a p) (λr=>LB c r.1/\r.1.RS.QK.length+1=a.RS.QK.length/\∀q,pv a.RS.QK q=none->pv r.1.RS.QK q=none):=by
 obtain ⟨b,o⟩:=a;have hl:o.length=b.QK.length:=h.len;have hle:o.length<=16:=h.le;have h1:1<=b.QK.length:=h1;unfold cy;show OK ((Go.Sx.idx o (w64 ((o.length:Int)-1))).bind _) _;rw [qr (by omega) (by omega)];obtain ⟨x,hx,hg⟩:=nR (xs:=o) (t:=(o.length:Int)-1) (by omega) (by omega);rw [hx,zbs];have hxo:x∈o:=zmg hg;have hxs:(pv b.QK x).isSome=true:=(h.mem x).1 hxo;obtain ⟨r,hr,e1,l,e2,hs,hd⟩:=wo (fu:=fu) (by omega) h.bb (op:=3) (by omega) (by omega) x 0;obtain ⟨r1,r2⟩:=r;have e2:r2=⟨b.cap,l⟩:=e2;subst e2;rw [show jK fu b 3 x 0=_ from hr,zbs];have hv:∀q,pv l q=if q=x then none else pv b.QK q:=hd.TA
 have hlen:l.length=if (pv b.QK x).isSome then b.QK.length-1 else b.QK.length:=hd.len
 have hn:=h.out (h.bb.done hs hd) hv hlen;rw [show xB fu ⟨⟨b.cap,l⟩,o⟩ x=some ⟨⟨b.cap,l⟩,o.filter (· !=x)⟩ from CU hfu ⟨⟨b.cap,l⟩,o⟩ x (by grind),zbs];refine ⟨_,rfl,hn,?_,λq hq=> ?_⟩
 ·grind
 ·show pv l q=none;rw [hv q];split
  ·rfl
  ·exact hq
theorem Hp{fu:Nat}(hfu:101<fu){c:Int}{b:ql}{o:List Int}(h:LB c ⟨b,o⟩){op k x:Int}(h0:0<=op)(h4:op<=4){l:List zq}(hs:Srt l)(hd:Pf b.QK l c op k x)
  (hne:¬ ((op=2\/op=4)/\pv b.QK k=none/\(b.QK.length:Int)=c)) {found:Bool} (hf:op=0->found=(pv b.QK k).isSome) (res:zk):
  OK ((if (op==2) then some (op==2) else if (op==4) then some (op==4) else if (op==0) then some found else some false).bind λo150=>
   if o150 then (xV fu ⟨⟨b.cap,l⟩,o⟩ k).bind λr161=>some (res,r161)
   else if (op==3) then (xB fu ⟨⟨b.cap,l⟩,o⟩ k).bind λr176=>some (res,r176) else some (res,(⟨⟨b.cap,l⟩,o⟩:qy))) (λr=>LB c r.2):=by
 have hle:o.length<=16:=h.le;have hlen:o.length=b.QK.length:=h.len;have hb:=h.bb.done hs hd;have hm:∀q,q∈o↔(pv b.QK q).isSome=true:=h.mem
 have touch:(pv l k).isSome=true->(∀q,q≠k->pv l q=pv b.QK q)->l.length=(if (pv b.QK k).isSome then b.QK.length else b.QK.length+1)->OK ((xV fu ⟨⟨b.cap,l⟩,o⟩ k).bind λr161=>some (res,r161)) (λr=>LB c r.2):=by
  intro hk hq hl;rw [JM hfu ⟨⟨b.cap,l⟩,o⟩ k (by grind)];refine ⟨_,rfl,hb,?_,λq=> ?_,?_⟩
  ·show (k::o.filter (· !=k)).Nodup;exact r9.2 ⟨λz=>(La.1 z).2 rfl,h.nd.filter _⟩
  ·grind
  ·show (k::o.filter (· !=k)).length=l.length;rw [t6,hl];by_cases e:k∈o
   ·have:=nU (show o.Nodup from h.nd) e
    grind
   grind [dh]
 have same:(∀q,pv l q=pv b.QK q)->l.length=b.QK.length->LB c ⟨⟨b.cap,l⟩,o⟩:=λhq hl=>⟨hb,h.nd,λq=>by grind,by grind⟩
 have hcase:op=0\/op=1\/op=2\/op=3\/op=4:=by omega
 have hv:=hd.TA;have hlb:=hd.len;rcases hcase with rfl|rfl|rfl|rfl|rfl
 ·have hq:∀q,pv l q=pv b.QK q:=λq=>by
   rw [hv q];split
   ·rename_i e;subst e;rfl
   ·rfl
  have hl2:l.length=b.QK.length:=hlb;simp only [show ((0:Int)==2)=false from rfl,show ((0:Int)==4)=false from rfl,show ((0:Int)==0)=true from rfl,show ((0:Int)==3)=false from rfl,zfe,if_false,s9,zbs];cases hfo:found with
  |true=>
   grind
  |false=>
   simp only [zfe,if_false];exact ⟨_,rfl,same hq hl2⟩
 ·have hq:∀q,pv l q=pv b.QK q:=λq=>by
   rw [hv q];split
   ·rename_i e;subst e;rfl
   ·rfl
  have hl2:l.length=b.QK.length:=hlb;simp only [show ((1:Int)==2)=false from rfl,show ((1:Int)==4)=false from rfl,show ((1:Int)==0)=false from rfl,show ((1:Int)==3)=false from rfl,zfe,if_false,zbs];exact ⟨_,rfl,same hq hl2⟩
 ·simp only [show ((2:Int)==2)=true from rfl,s9,zbs];have hc:¬ (pv b.QK k=none/\(b.QK.length:Int)=c):=λz=>hne ⟨.inl rfl,z⟩
  refine touch ?_ (λq e=>by rw [hv q,d8 e]) ?_
  ·grind [K8]
  ·rw [hlb];unfold K9;rw [d8 (by decide)];cases hp:pv b.QK k with
   |none=>rw [d6 ⟨.inl rfl,rfl,λz=>hc ⟨hp,z⟩⟩,d8 (by simp)]
   |some v=>rw [d8 (λz=>by cases z.2.1),d6 (show (some v).isSome=true from rfl)]
 ·simp only [show ((3:Int)==2)=false from rfl,show ((3:Int)==4)=false from rfl,show ((3:Int)==0)=false from rfl,show ((3:Int)==3)=true from rfl,zfe,if_false,s9,zbs];rw [CU hfu ⟨⟨b.cap,l⟩,o⟩ k (by grind)];exact ⟨_,rfl,h.out hb hv hlb⟩
 ·simp only [show ((4:Int)==2)=false from rfl,show ((4:Int)==4)=true from rfl,zfe,if_false,s9,zbs];have hc:¬ (pv b.QK k=none/\(b.QK.length:Int)=c):=λz=>hne ⟨.inr rfl,z⟩
  refine touch ?_ (λq e=>by rw [hv q,d8 e]) ?_
  ·grind [K8]
  ·rw [hlb];unfold K9;rw [d8 (by decide)];cases hp:pv b.QK k with
   |none=>rw [d6 ⟨.inr rfl,rfl,λz=>hc ⟨hp,z⟩⟩,d8 (by simp)]
   |some v=>rw [d8 (λz=>by cases z.2.1),d6 (show (some v).isSome=true from rfl)]
open Go.Sx
variable {c:Int} {v:Option Int} {n:Nat} {x:Int}
theorem LB.same{b:ql}{o:List Int}(h:LB c ⟨b,o⟩){l:List zq}(hb:BB c ⟨b.cap,l⟩)(hq:∀q,pv l q=pv b.QK q)(hl:l.length=b.QK.length):LB c ⟨⟨b.cap,l⟩,o⟩:=
 ⟨hb,h.nd,λq=>by show q∈o↔(pv l q).isSome=true;rw [hq q];exact h.mem q,by show o.length=l.length;rw [hl];exact h.len⟩
theorem Hq{op:Int}(hop:op=2\/op=4)(hv:v=none)(hn:(n:Int)=c):(CQ v n c op x).E=40:=by
 grind [CQ]
theorem Hr{op:Int}(h:¬ ((op=2\/op=4)/\v=none/\(n:Int)=c))(h0:0<=op)(h4:op<=4):(CQ v n c op x).E=0:=by
 grind [CQ]
theorem JO{op:Int}(h:op=0):(CQ v n c op x).Found=v.isSome:=by subst h;rfl
theorem Ou{fu:Nat}(hfu:101<fu){a:qy}(h:LB c a){op:Int}(h0:0<=op)(h4:op<=4)(k x:Int):OK (dM fu a op k x) (λr=>LB c r.2):=by
 obtain ⟨b,o⟩:=a;unfold dM;obtain ⟨⟨r1,r2⟩,hr,e1,l,e2,hs,hd⟩:=wo (fu:=fu) (by omega) h.bb h0 h4 k x;have f1:r1=CQ (pv b.QK k) b.QK.length c op x:=e1;have e2:r2=⟨b.cap,l⟩:=e2;subst e2;rw [show jK fu b op k x=_ from hr,zbs];have hb:=h.bb.done hs hd;by_cases hfull:(op=2\/op=4)/\pv b.QK k=none/\(b.QK.length:Int)=c
 ·obtain ⟨hop,hv,hn⟩:=hfull;have hE:r1.E=40:=by grind [Hq]
  have hq:∀q,pv l q=pv b.QK q:=λq=>by
   rw [hd.TA q]
   grind [K8]
  have hl:l.length=b.QK.length:=by
   rw [hd.len]
   grind [K9]
  have h2:=h.same hb hq hl;have hc1:=h.bb.c1;obtain ⟨m,hm,h3,h5,h6⟩:=JN hfu h2 (by grind) (zk.mk 0 false 0 false 0 0);obtain ⟨⟨b3,o3⟩,m2⟩:=m;have h5:b3.QK.length+1=l.length:=h5;have hv3:pv b3.QK k=none:=h6 k (by grind);obtain ⟨⟨r3,r4⟩,hr3,e3,l4,e4,hs4,hd4⟩:=wo (fu:=fu) (by omega) h3.bb h0 h4 k x;have f3:r3=CQ (pv b3.QK k) b3.QK.length c op x:=e3;have e4:r4=⟨b3.cap,l4⟩:=e4;subst e4;have hne:¬ ((op=2\/op=4)/\pv b3.QK k=none/\(b3.QK.length:Int)=c):=λz=>by grind
  have hE3:r3.E=0:=by grind [Hr]
  rw [d6 (by simp [hE]),hm];simp only [zbs];rw [show jK fu b3 op k x=_ from hr3];simp only [zbs];rw [d8 (by simp [hE3])];exact Hp hfu h3 h0 h4 hs4 hd4 hne (found:=r3.Found) (λe=>by grind) _
 ·have hE:r1.E=0:=by rw [f1];exact Hr hfull h0 h4
  rw [d8 (by simp [hE])];simp only [zbs];rw [d8 (by simp [hE])];exact Hp hfu h h0 h4 hs hd hfull (found:=r1.Found) (λe=>by grind [JO]) _
def mV(s:qj):Prop:=match s with
 |.inl b=>∃c,BB c b
 |.inr a=>∃c,LB c a
theorem JP{fu:Nat}(hfu:101<fu){s:qj}(h:mV s){op:Int}(h0:0<=op)(h4:op<=4)(k x:Int):OK (jC fu s op k x) (λr=>mV r.2):=by
 cases s with
 |inl b=>
  obtain ⟨c,h⟩:=h;obtain ⟨r,hr,e1,l,e2,hs,hd⟩:=wo (fu:=fu) (by omega) h h0 h4 k x;unfold jC;refine ⟨(r.1,.inl r.2),by grind,c,?_⟩;show BB c r.2;rw [e2];exact h.done hs hd
 |inr a=>
  obtain ⟨c,h⟩:=h;obtain ⟨r,hr,h2⟩:=Ou hfu h h0 h4 k x;unfold jC;exact ⟨(r.1,.inr r.2),by grind,c,h2⟩
theorem uo{b:ql}(h:BB c b):vp b=some b.QK:=by
 have h1:=h.len;have h2:=h.TF;unfold vp zy;obtain ⟨u,hu⟩:=cD (m:=([]:List zq).length+b.QK.length) (b:=16) (by simp;omega);rw [hu];rfl
theorem CV{s:qj}(h:mV s):OK (jv s) (λr=>r.length<=16):=by
 cases s with
 |inl b=>
  obtain ⟨c,h⟩:=h;have h1:=h.len;have h2:=h.TF;unfold jv;exact ⟨b.QK,by grind [uo],by omega⟩
 |inr a=>
  obtain ⟨c,h⟩:=h;have h1:=h.bb.len;have h2:=h.bb.TF;unfold jv;exact ⟨a.RS.QK,by simp only [uo h.bb,zbs],by omega⟩
theorem rK(n:Int):gY n=some (none,2)\/∃b,gY n=some (some b,0)/\BB n b/\b.QK=[]:=by
 unfold gY;split
 ·exact .inl rfl
 ·rename_i h
  simp only [q8,zdq,not_or] at h;exact .inr ⟨_,rfl,⟨rfl,by omega,by omega,by grind,List.Pairwise.nil⟩,rfl⟩
theorem AN(d:je):(∃e,dU d=some (none,e)/\e≠0)\/∃s,dU d=some (some s,0)/\mV s:=by
 unfold dU;split
 ·rcases rK d.Th with h|⟨b,h,hb,_⟩
  ·rw [h];exact .inl ⟨2,rfl,by decide⟩
  ·rw [h];exact .inr ⟨_,rfl,_,hb⟩
 ·split
  ·unfold oO;rcases rK d.Th with h|⟨b,h,hb,hp⟩
   ·rw [h];exact .inl ⟨2,rfl,by decide⟩
   ·rw [h];exact .inr ⟨_,rfl,_,⟨hb,k9,λk=>by rw [hp];simp [pv],by rw [hp];rfl⟩⟩
  grind
end
open Go.Sx
def P4(o:zc)(r:zr):Prop:=0<=r.Item.Rv/\r.Item.Rv<o.maps.length/\(r.Sj=true\/(0<=r.Item.Op/\r.Item.Op<5))
structure iw (o:zc):Prop where
 s1:1<=o.RL
 s4:o.RL<=4
 m4:o.maps.length<=4
 all:∀s∈o.maps,mV s
 SL:∀r∈o.QO,P4 o r
theorem wq{x:Int}(h0:0<=x)(h1:x<=1000):xX x=x:=by rw [Oo];omega
theorem JQ{k n:Int}(h1:1<=n)(h4:n<=4):OK (ak k n) (λ_=>True):=by
 unfold ak;rw [d8 (by simp;omega)];have hz:nz (xX n)=some ():=by unfold nz;rw [wq (by omega) (by omega),d8 (by omega)]
 rw [hz];exact ⟨_,rfl,trivial⟩
theorem CX{o:zc}(h1:1<=o.RL)(h4:o.RL<=4)(r:zr):OK (xN o r) (λb=>b=true->P4 o r):=by
 unfold xN;split
 ·exact ⟨_,rfl,λz=>by cases z⟩
 ·rename_i hm
  simp only [q8,zdq,not_or] at hm;split
  ·rename_i hw
   exact ⟨_,rfl,λ_=>⟨by omega,by omega,.inl hw⟩⟩
  ·split
   ·split
    ·rename_i h5 h6
     have h5':=yd h5;have h6':=yd h6;obtain ⟨q,hq,_⟩:=JQ (k:=r.Item.RH) h1 h4;rw [hq];exact ⟨_,rfl,λ_=>⟨by omega,by omega,.inr ⟨by omega,h6'⟩⟩⟩
    ·exact ⟨_,rfl,λz=>by cases z⟩
   ·exact ⟨_,rfl,λz=>by cases z⟩
theorem nV{fu:Nat}(hfu:101<fu){o:zc}(h:iw o):OK (jF fu o) (λq=>iw q.2.2/\q.2.2.maps.length=o.maps.length/\
  ((o.QO=[]/\q.2.1=false/\q.2.2=o)\/∃x xs,o.QO=x::xs/\q.2.1=true/\q.2.2.QO=xs/\q.1.To=x.RT/\q.1.SD=x.SD/\q.1.Sj=x.Sj/\q.1.Item=x.Item/\q.1.Pairs.length<=16)):=by
 unfold jF;cases hl:o.QO with
 |nil=>
  rw [d6 (by rfl)];exact ⟨_,rfl,h,rfl,.inl ⟨rfl,rfl,rfl⟩⟩
 |cons x xs=>
  rw [d8 (by simp;omega)];have e1:Go.Sx.idx (x::xs) 0=some x:=rfl
  have e2:cut (x::xs) 1 ((x::xs).length:Int)=some xs:=by
   unfold cut;rw [d6 (by simp;omega)];simp
  rw [e1,zbs,e2,zbs];obtain ⟨f1,f2,f3⟩:=h.SL x (by rw [hl];exact zcs)
  obtain ⟨s,hs,hg⟩:=nR f1 f2;have hso:=h.all s (zmg hg);split
  ·rw [hs,zbs];obtain ⟨ps,hp,hp2⟩:=CV hso;rw [hp,zbs];exact ⟨_,rfl,⟨h.s1,h.s4,h.m4,h.all,λr hr=>h.SL r (by rw [hl];exact zcm _ hr)⟩,rfl,.inr ⟨x,xs,rfl,rfl,rfl,rfl,rfl,rfl,rfl,hp2⟩⟩
  ·rename_i hw
   rw [hs,zbs]
   have f3':0<=x.Item.Op/\x.Item.Op<5:=by
    rcases f3 with f3|f3
    ·exact absurd f3 hw
    ·exact f3
   obtain ⟨q,hq,hq2⟩:=JP hfu hso f3'.1 (by omega) x.Item.RH x.Item.Rz;rw [hq,zbs];refine ⟨_,rfl,⟨h.s1,h.s4,by show (o.maps.set _ _).length<=4;rw [j5];exact h.m4,λt ht=> ?_,λr hr=> ?_⟩,by show (o.maps.set _ _).length=_;rw [j5],.inr ⟨x,xs,rfl,rfl,rfl,rfl,rfl,rfl,rfl,by simp⟩⟩
   ·rcases r6 ht with ht|rfl
    ·exact h.all t ht
    ·exact hq2
   ·obtain ⟨g1,g2,g3⟩:=h.SL r (by rw [hl];exact zcm _ hr)
    exact ⟨g1,by show r.Item.Rv<((o.maps.set _ _).length:Int);rw [j5];exact g2,g3⟩
theorem pX{o:zc}(hb:o.QO.length*56<=140737488355328):vn o=some o.QO:=by
 unfold vn qm;obtain ⟨u,hu⟩:=cD (m:=([]:List zr).length+o.QO.length) (b:=56) (by simpa using hb);rw [hu];rfl
theorem AO(s n:Int)(ds:List je):(∃e,bI s n ds=some (none,e)/\e≠0)\/∃o,bI s n ds=some (some o,0)/\iw o/\o.QO=[]/\o.QV=false/\o.RL=n/\o.Si=s/\o.maps.length=ds.length/\1<=n/\n<=4/\0<=s/\s<n:=by
 unfold bI;split
 ·exact .inl ⟨2,rfl,by decide⟩
 ·rename_i hc
  simp only [q8,zdq,not_or] at hc;obtain ⟨⟨⟨⟨c1,c2⟩,c3⟩,c4⟩,c5⟩:=hc
  obtain ⟨q,h1,h2⟩:=nQ (body:=gZ ds) (out:=λs=>.inl s) (N:=ds.length) (λi o=>o.Si=s/\o.RL=n/\o.QO=[]/\o.QV=false/\o.maps.length=i/\∀x∈o.maps,mV x)
   (λq=>match q with
    |.inl o=>o.Si=s/\o.RL=n/\o.QO=[]/\o.QV=false/\o.maps.length=ds.length/\∀x∈o.maps,mV x
    |.inr z=>z.1=none/\z.2≠0) (λi o again hi hs ha=>by
   obtain ⟨a1,a2,a3,a4,a5,a6⟩:=hs;unfold gZ;rw [pI hi,zbs];rcases AN ds[i] with ⟨e,he,hne⟩|⟨m,hm,hmo⟩
   ·rw [he,zbs];exact ⟨.inr (none,e),by simp [ae,hne],rfl,hne⟩
   ·rw [hm,zbs];simp only [ae];rw [d8 (by simp)];obtain ⟨u,hu⟩:=cD (m:=o.maps.length+[m].length) (b:=16) (by simp only [t6,yu];omega);rw [hu,zbs];refine ha _ ⟨a1,a2,a3,a4,by show (o.maps++[m]).length=i+1;rw [k7,a5];rfl,λx hx=> ?_⟩;rcases f7.1 hx with hx|hx
    ·exact a6 x hx
    ·rw [g9.1 hx];exact hmo) (λs h=>h) ds.length 0 (zc.mk s n [] [] false) (by omega) ⟨rfl,rfl,rfl,rfl,rfl,λx hx=>by cases hx⟩
  rw [h1,zbs];cases q with
  |inl o=>
   obtain ⟨a1,a2,a3,a4,a5,a6⟩:=h2;exact .inr ⟨o,rfl,⟨by omega,by omega,by omega,a6,λr hr=>by rw [a3] at hr;cases hr⟩,a3,a4,a2,a1,a5,by omega,by omega,by omega,by omega⟩
  |inr z=>
   obtain ⟨z1,z2⟩:=z;obtain ⟨rfl,h3⟩:z1=none/\z2≠0:=h2;exact .inl ⟨z2,rfl,h3⟩
set_option maxRecDepth 100000
open Go.Sx
theorem JT:cB 2199023255552=some true:=by decide+kernel
open Go.Sx
theorem hY{σ ρ:Type}{body:(σ->Option ρ)->σ->Option ρ}(I:Nat->σ->Prop)(Q:ρ->Prop)
  (h:∀m s (again:σ->Option ρ),I m s->(∀m' s',m'<m->I m' s'->∃r,again s'=some r/\Q r)->∃r,body again s=some r/\Q r):
  ∀(fu m:Nat)(s:σ),m<fu->I m s->∃r,loop body fu s=some r/\Q r
 |0,m,s,e,_=>absurd e (Nat.not_lt_zero _)
 |fu+1,m,s,e,hi=>h m s _ hi λm' s' hm hs=>hY I Q h fu m' s' (by omega) hs
theorem Hs{c:zR}{fu:Nat}(h0:0<=c.QY)(h4:c.QY<=4)(hfu:10<fu):
  ∃o,loop (mK c) fu ([],0)=some o/\match o with
   |.inl rs=>(rs.length:Int)=c.QY/\∀r∈rs,iU r/\r.waiting=[]/\r.SO=false
   |.inr z=>z.1=none/\z.2≠0:=by
 refine hY (λm s=>(s.1.length:Int)=s.2/\s.2<=c.QY/\s.2+m=c.QY/\∀r∈s.1,iU r/\r.waiting=[]/\r.SO=false) _ (λm s again hI ha=> ?_) fu c.QY.toNat ([],0) (by omega) ⟨rfl,h0,by grind,λr hr=>by cases hr⟩;obtain ⟨rs,i⟩:=s;obtain ⟨a1,a2,a3,a4⟩:=hI;have a1:(rs.length:Int)=i:=a1;have a2:i<=c.QY:=a2;have a3:i+m=c.QY:=a3;unfold mK;show ∃r,(if decide (i<c.QY)=true then _ else _)=some r/\_;by_cases hc:i<c.QY
 ·rw [d6 (by simpa using hc)];rcases Cz c.RJ (zO.mk 0) with hn|⟨r,hn,hr⟩
  ·exact ⟨.inr (none,2),by rw [hn];rfl,rfl,by decide⟩
  ·rw [hn,zbs];simp only [ae];rw [d8 (by simp)];obtain ⟨u,hu⟩:=cD (m:=rs.length+[r].length) (b:=8) (by grind);rw [hu,zbs,qr (by omega) (by omega)];refine ha (m-1) _ (by omega) ⟨?_,?_,?_,λx hx=> ?_⟩
   ·grind
   ·grind
   ·grind
   grind
 ·rw [d8 (by simpa using hc)]
  grind
end Go.Proofs.YtplmgfkghomelaaGreatDoor.KH
namespace Go.Proofs.YtplmgfkghomelaaGreatDoor
open Go.Sx
structure EM where
 Ra:qO
 module:zH
 RC:zl
 regs:Nat->Int
 LE:Nat->Int
 Rj:Int
 steps:Int
 state:Int
def wv(fu:Nat)(p0:EM)(p1:Int):Option (qU×EM):=
 (lh p1).bind λr29=>
 if r29.2 then
  (idx p0.module.Maps (p0.regs 1)).bind λx49=>
  (xS fu p1).bind λr64=>
  (if decide (((r64).length:Int)>2) then
   some (p0.regs 3)
  else
   some 0).bind λo78=>
  some ((qU.mk 2 p0.Rj (zh.mk x49 r29.1 (p0.regs 2) o78) 0),{p0 with state:=1})
 else
  (if (p1==5) then
   (jT p0.RC.Rl (w64 (p0.regs 1))).bind λr133=>
   some ({p0 with RC:=(zl.mk p0.RC.RF r133.2.2),regs:=(aset p0.regs 0 r133.1)},(qU.mk 1 p0.Rj (zh.mk 0 0 0 0) r133.1))
  else
   some ({p0 with regs:=(aset p0.regs 0 0)},(qU.mk 3 p0.Rj (zh.mk 0 0 0 0) (p0.regs 1)))).bind λo121=>
  some (o121.2,(EM.mk o121.1.Ra o121.1.module o121.1.RC o121.1.regs o121.1.LE (w64 (o121.1.Rj+1)) o121.1.steps o121.1.state))
def gI(p0:EM)(p1:zf):Option Int:=
 if (p1.B==8) then
  some (xX p1.RA)
 else
  (ain 8 p1.B).bind λi12=>
  some (p0.regs i12)
def AY(p0:EM)(p1:zf):Option (Int×EM):=
 if (p1.Op==0) then
  (gI p0 p1).bind λr31=>
  (ain 8 p1.D).bind λi35=>
  some (1,{p0 with regs:=(aset p0.regs i35 r31)})
 else
  if (p1.Op==11) then
   (gI p0 p1).bind λr68=>
   (xG p0.RC.RF (w64 r68)).bind λr72=>
   (ain 8 p1.D).bind λi76=>
   some (1,{p0 with regs:=(aset p0.regs i76 r72.1)})
  else
   if (p1.Op==12) then
    (ain 8 p1.A).bind λi108=>
    (gI p0 p1).bind λr110=>
    (xq p0.RC.RF (w64 r110) (p0.regs i108)).bind λr114=>
    some (1,{p0 with RC:=(zl.mk r114.2 p0.RC.Rl)})
   else
    if (p1.Op==13) then
     (ain 8 p1.D).bind λi140=>
     if (p1.RA==1) then
      some (1,{p0 with regs:=(aset (aset p0.regs i140 p0.Ra.A) i140 p0.Ra.B)})
     else
      some (1,{p0 with regs:=(aset p0.regs i140 p0.Ra.A)})
    else
     if (p1.Op==14) then
      (ain 8 p1.D).bind λi173=>
      some (1,{p0 with regs:=(aset p0.regs i173 (xX p1.RA))})
     else
      if (p1.Op==15) then
       some (w64 (p1.D+1),p0)
      else
       if (p1.Op==20) then
        ((ain 8 p1.A).bind λi210=>
        if ((p0.regs i210) !=0) then
         (ain 64 p0.Rj).bind λi213=>
         some (decide ((p0.LE i213)<p1.RA))
        else
         some false).bind λo206=>
        if o206 then
         (ain 64 p0.Rj).bind λi238=>
         some (w64 (0-p1.D),{p0 with LE:=(aset p0.LE i238 (w64 ((p0.LE i238)+1)))})
        else
         (ain 64 p0.Rj).bind λi262=>
         some (1,{p0 with LE:=(aset p0.LE i262 0)})
       else
        (ain 8 p1.A).bind λi293=>
        (gI p0 p1).bind λr295=>
        (fT p1.Op (p0.regs i293) r295).bind λr299=>
        if r299.2 then
         (ain 8 p1.D).bind λi311=>
         some (1,{p0 with regs:=(aset p0.regs i311 r299.1)})
        else
         (gI p0 p1).bind λr327=>
         (aP p1.Op (p0.regs i293) r327).bind λr331=>
         if r331.1 then
          some (w64 (p1.D+1),p0)
         else
          some (1,p0)
def sO(fu:Nat)(p0:EM):Option (qU×EM):=
 if (p0.state==1) then
  some ((qU.mk 5 p0.Rj (zh.mk 0 0 0 0) 0),p0)
 else
  if (p0.state==2) then
   (idx p0.module.Code p0.Rj).bind λx37=>
   (ain 8 x37.A).bind λi43=>
   some ((qU.mk 6 p0.Rj (zh.mk 0 0 0 0) (p0.regs i43)),p0)
  else
   (idx p0.module.Code p0.Rj).bind λx62=>
   if (x62.Op==21) then
    (wv fu {p0 with steps:=(w64 (p0.steps+1))} x62.RA).bind λr80=>
    some (r80.1,r80.2)
   else
    if (x62.Op==22) then
     (ain 8 x62.A).bind λi96=>
     some ((qU.mk 4 p0.Rj (zh.mk 0 0 0 0) (p0.regs i96)),{p0 with steps:=(w64 (p0.steps+1)),state:=2})
    else
     (AY {p0 with steps:=(w64 (p0.steps+1))} x62).bind λr132=>
     some ((qU.mk 1 p0.Rj (zh.mk 0 0 0 0) 0),(EM.mk r132.2.Ra r132.2.module r132.2.RC r132.2.regs r132.2.LE (w64 (p0.Rj+r132.1)) r132.2.steps r132.2.state))
def lC(p0:EM)(p1:zk):Option (Int×EM):=
 if (p0.state !=1) then
  some (2,p0)
 else
  (idx p0.module.Code p0.Rj).bind λx36=>
  (gh x36.RA p1).bind λr42=>
  some (0,{p0 with regs:=(aset p0.regs 0 r42),Rj:=(w64 (p0.Rj+1)),state:=0})
def pk(M:zp)(S:zl):EM:={M with RC:=S}
theorem Br.ite{α β:Type}{f:α->β}{c:Bool}{A B:Option β}{A' B':Option α}(h1:A=A'.map f)(h2:B=B'.map f):(if c then A else B)=(if c then A' else B').map f:=by
 grind
theorem Br.bind{α β γ:Type}{f:α->β}{o:Option γ}{A:γ->Option β}{A':γ->Option α}(h:∀x,A x=(A' x).map f):o.bind A=(o.bind A').map f:=by
 cases o with
 |none=>rfl
 |some x=>exact h x
theorem k8:type_of% @Br.bind:=Br.bind
theorem Br.bind2{α β γ δ:Type}{f:α->β}{g:γ->δ}{o:Option δ}{o':Option γ}{A:δ->Option β}{A':γ->Option α}(ho:o=o'.map g)(h:∀x,A (g x)=(A' x).map f):o.bind A=(o'.bind A').map f:=by
 subst ho;cases o' with
 |none=>rfl
 |some x=>exact h x
def pk2{α:Type}(r:α×zp×zl):α×EM:=(r.1,pk r.2.1 r.2.2)
theorem OC(M:zp)(S:zl)(i:zf):AY (pk M S) i=(ju M i S).map pk2:=by
 unfold AY ju;refine Br.ite (k8 λ_=>k8 λ_=>rfl) ?_;refine Br.ite (k8 λ_=>k8 λ_=>k8 λ_=>rfl) ?_;refine Br.ite (k8 λ_=>k8 λ_=>k8 λ_=>rfl) ?_;refine Br.ite (k8 λ_=>Br.ite rfl rfl) ?_;refine Br.ite (k8 λ_=>rfl) ?_;refine Br.ite rfl ?_;refine Br.ite (k8 λ_=>Br.ite (k8 λ_=>rfl) (k8 λ_=>rfl)) ?_;exact k8 λ_=>k8 λ_=>k8 λ_=>Br.ite (k8 λ_=>rfl) (k8 λ_=>k8 λ_=>Br.ite rfl rfl)
theorem ME(fu:Nat)(M:zp)(S:zl)(k:Int):wv fu (pk M S) k=(jS fu M k S).map pk2:=by
 unfold wv jS;refine k8 λ_=>Br.ite (k8 λ_=>k8 λ_=>k8 λ_=>rfl) ?_
 exact Br.bind2 (g:=λo:zp×zl×qU=>(pk o.1 o.2.1,o.2.2)) (Br.ite (k8 λ_=>rfl) rfl) (λ_=>rfl)
theorem MF(fu:Nat)(M:zp)(S:zl):sO fu (pk M S)=(qI fu M S).map pk2:=by
 unfold sO qI;refine Br.ite rfl (Br.ite (k8 λ_=>k8 λ_=>rfl) (k8 λ_=>Br.ite ?_ (Br.ite (k8 λ_=>rfl) ?_)))
 ·exact Br.bind2 (g:=pk2) (ME fu {M with steps:=w64 (M.steps+1)} S _) (λ_=>rfl)
 ·exact Br.bind2 (g:=pk2) (OC {M with steps:=w64 (M.steps+1)} S _) (λ_=>rfl)
theorem HA(M:zp)(S:zl)(r:zk):lC (pk M S) r=(jA M r S).map (λx=>(x.1,pk x.2 S)):=by
 unfold lC jA;exact Br.ite rfl (k8 λ_=>k8 λ_=>rfl)
end Go.Proofs.YtplmgfkghomelaaGreatDoor
