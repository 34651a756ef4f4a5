/- Lemmas. -/
import Derived.Test.YtplmgfkghomelaaGreatDoorF1
set_option linter.unusedVariables false
set_option linter.unusedSimpArgs false
namespace Go.Proofs.YtplmgfkghomelaaGreatDoor.KH
section
section
open Go.Sx
theorem mK{σ ρ:Type}{body:Nat->(σ->Option ρ)->σ->Option ρ}{out:σ->ρ}(I:Nat->σ->Prop)(Q:ρ->Prop){N:Nat}
  (h:∀i s (again:σ->Option ρ),i<N->I i s->(∀s',I (i+1) s'->∃r,again s'=some r/\Q r)->∃r,body i again s=some r/\Q r) (ho:∀s,I N s->Q (out s)):
  ∀(n i:Nat)(s:σ),i+n=N->I i s->∃r,jN body out n i s=some r/\Q r
 |0,i,s,e,hi=>⟨_,rfl,ho s (by rw [<- e];exact hi)⟩
 |n+1,i,s,e,hi=>h i s _ (by omega) hi λs' hs=>mK I Q h ho n (i+1) s' (by omega) hs
theorem nu{α:Type}{xs:List α}{i:Nat}(h:i<xs.length):Go.Sx.idx xs (i:Int)=some xs[i]:=by
 unfold Go.Sx.idx
 grind
theorem oF{α:Type}{xs:List α}{t:Int}(h0:0<=t)(h1:t<xs.length):∃x,Go.Sx.idx xs t=some x/\xs[t.toNat]? =some x:=by
 have h2:t.toNat<xs.length:=by omega
 refine ⟨xs[t.toNat],?_,zeg h2⟩;unfold Go.Sx.idx
 grind
theorem cG{m b:Nat}(h:m*b<=140737488355328):∃u,room m b=some u:=by
 unfold room;rw [d7 h];exact ⟨_,rfl⟩
def kin(k:zo)(m:Int)(n:Nat):List Int:=((List.range n).filter (λi:Nat=>decide ((k.Sd[i]?).map (λt:qw=>t.Si)=some m))).map (λi:Nat=>(i:Int))
theorem HT{k:zo}{m:Int}{n:Nat}:(kin k m n).length<=n:=by
 grind [kin]
theorem HU{k:zo}{m x:Int}{n:Nat}(h:x∈kin k m n):∃(i:Nat)(t:qw),x=i/\i<n/\k.Sd[i]? =some t/\t.Si=m:=by
 grind [kin]
theorem FT{k:zo}{m:Int}(hn:k.Sd.length<=64):dN k m=some (kin k m k.Sd.length):=by
 obtain ⟨r,h1,rfl⟩:=mK (body:=gJ k m) (out:=λs=>s) (N:=k.Sd.length) (λi s=>s=kin k m i) (λr=>r=kin k m k.Sd.length) (λi s again hi hs ha=>by
  subst hs;unfold gJ;rw [nu hi];simp only [zbs]
  have e:kin k m (i+1)=kin k m i++(if k.Sd[i].Si=m then [(i:Int)] else []):=by
   unfold kin;rw [List.range_succ,y8,u5]
   grind
  by_cases hm:k.Sd[i].Si=m
  ·rw [d7 (by simpa using hm)]
   obtain ⟨u,hu⟩:=cG (m:=(kin k m i).length+[(i:Int)].length) (b:=8) (by
    grind [HT])
   grind
  grind) (λs h=>h) k.Sd.length 0 [] (by omega) rfl
 grind [dN]
def Laid(a b:zo)(ps:List Bool)(n:Nat):Prop:=b.LE=a.LE/\b.Sd.length=a.Sd.length/\∀(i:Nat)(t:qw),a.Sd[i]? =some t->
 ∃u,b.Sd[i]? =some u/\u.Tz=t.Tz/\u.Si=if i<n then (if t.Si=2 then 2 else if ps[i]? =some true then 1 else 0) else t.Si
theorem Dg{k:zo}{ps:List Bool}(hl:ps.length=k.Sd.length):∃b,dX k ps=some (0,b)/\Laid k b ps ps.length:=by
 obtain ⟨b,h1,h2⟩:=mK (body:=fK ps) (out:=λs=>s) (N:=ps.length) (λi s=>Laid k s ps i) (λr=>Laid k r ps ps.length) (λi s again hi hs ha=>by
  obtain ⟨e1,e2,e3⟩:=hs;have hi2:i<s.Sd.length:=by omega
  unfold fK;rw [nu hi,zbs,nu hi2,zbs];have hk:i<k.Sd.length:=by omega
  have e4:=e3 i _ (zeg hk);obtain ⟨u,hu,up,um⟩:=e4;rw [zeg hi2] at hu;obtain rfl:=j4 hu;rw [d8 (by omega)] at um
  have step:∀md:Int,(md=if k.Sd[i].Si=2 then 2 else if ps[i]? =some true then 1 else 0)->Laid k (zo.mk (s.Sd.set (Int.toNat (i:Int)) (qw.mk md s.Sd[i].Tz)) s.LE) ps (i+1):=by
   intro md hmd;refine ⟨e1,by grind,λj t hj=> ?_⟩
   grind
  by_cases hm:s.Sd[i].Si=2
  ·rw [d7 (by simpa using hm)];refine ha _ ⟨e1,e2,λj t hj=> ?_⟩
   grind
  grind) (λs h=>h) ps.length 0 k (by omega) ⟨rfl,rfl,λi t h=>⟨t,h,rfl,by grind⟩⟩
 refine ⟨b,?_,h2⟩;unfold dX
 grind
def ku(r:zq):Prop:=1<=r.room/\r.room<=16/\(r.waiting.length:Int)<=r.room
theorem Dh(n:Int)(g:zJ):(kN n g=some (none,2))\/∃r,kN n g=some (some r,0)/\ku r/\r.waiting=[]/\r.Tu=false/\r.room=n/\r.counts=⟨0,0,0,0,0⟩:=by
 unfold kN;split
 ·exact .inl rfl
 ·rename_i h
  simp only [Bool.or_false,q7,zdq,not_or] at h;refine .inr ⟨_,rfl,⟨by grind,by show n<=16;omega,by grind⟩,rfl,rfl,rfl,rfl⟩
theorem iL{r:zq}(h:ku r)(ev:qv)(g:zJ):∃n e r' g',xj r ev g=some (n,e,r',g')/\ku r'/\r'.Tu=r.Tu/\((e=0/\r.Tu=false/\r'.waiting=r.waiting++[zY.mk n ev])\/(e≠0/\r'.waiting=r.waiting)):=by
 obtain ⟨h1,h2,h3⟩:=h;unfold xj;split
 ·exact ⟨_,_,_,_,rfl,⟨h1,h2,h3⟩,rfl,.inr ⟨by decide,rfl⟩⟩
 ·split
  ·exact ⟨_,_,_,_,rfl,⟨h1,h2,h3⟩,rfl,.inr ⟨by decide,rfl⟩⟩
  ·rename_i hs hr
   have hr':(r.waiting.length:Int)≠r.room:=by simpa using hr
   obtain ⟨u,hu⟩:=cG (m:=r.waiting.length+1) (b:=24) (by omega);unfold aD;simp only [zbs];rw [show ([(zY.mk (w64 (g.last+1)) ev)]).length=1 from rfl,hu];refine ⟨_,_,_,_,rfl,⟨h1,h2,?_⟩,rfl,.inl ⟨rfl,by simpa using hs,rfl⟩⟩
   grind
theorem nv(r:zq):∃c,xM r=some c/\c.Tp=(r.waiting.length:Int):=⟨_,rfl,rfl⟩
theorem me{r:zq}(h:ku r)(g:zJ){q:zY}{qs:List zY}(hw:r.waiting=q::qs):∃r',xZ r g=some (q,true,r')/\ku r'/\r'.waiting=qs/\r'.Tu=r.Tu:=by
 obtain ⟨h1,h2,h3⟩:=h;unfold xZ;rw [hw];rw [d8 (by simp;omega)];have e1:Go.Sx.idx (q::qs) 0=some q:=rfl
 have e2:cut (q::qs) 1 ((q::qs).length:Int)=some qs:=by
  unfold cut;rw [d7 (by simp;omega)];simp
 rw [e1,zbs,e2,zbs];refine ⟨_,rfl,⟨h1,h2,?_⟩,rfl,rfl⟩
 grind
open Go.Sx
def Kx(a b:zo):Prop:=b.Sd.length=a.Sd.length/\∀i:Nat,(b.Sd[i]?).map (·.Si)=(a.Sd[i]?).map (·.Si)
theorem Bo{k:zo}{t:Int}(h0:0<=t)(h1:t<k.Sd.length):∃k',vU k t=some (t,true,k')/\Kx k k'/\k'.LE=w64 (k.LE+1):=by
 obtain ⟨x,hx,hg⟩:=oF h0 h1;unfold vU;rw [hx,zbs];refine ⟨_,rfl,⟨by grind,λi=> ?_⟩,rfl⟩
 grind
theorem oI{k:zo}(hn:k.Sd.length<=64):aC k=some (kin k 1 k.Sd.length):=by
 grind [aC,FT]
def Ky(k:zo)(o:Option (Int×Bool×zo)):Prop:=
 (kin k 1 k.Sd.length=[]/\o=some (0,false,k))\/∃x k',x∈kin k 1 k.Sd.length/\o=some (x,true,k')/\Kx k k'/\k'.LE=w64 (k.LE+1)
theorem EU{k:zo}{x:Int}(h:x∈kin k 1 k.Sd.length):Ky k ((vU k x).bind λr=>some (r.1,r.2.1,r.2.2)):=by
 obtain ⟨i,t,rfl,hi,_⟩:=HU h;obtain ⟨k',h1,h2⟩:=Bo (k:=k) (t:=(i:Int)) (by omega) (by omega);exact .inr ⟨_,k',h,by rw [h1];rfl,h2⟩
theorem Bp{k:zo}(hn:k.Sd.length<=64)(c:Int):Ky k (df k c):=by
 unfold df;rw [oI hn,zbs];by_cases h0:kin k 1 k.Sd.length=[]
 ·rw [d7 (by rw [h0];rfl)];exact .inl ⟨h0,rfl⟩
 have hl:0<(kin k 1 k.Sd.length).length:=List.length_pos_iff.2 h0;have hl2:=HT (k:=k) (m:=1) (n:=k.Sd.length);rw [d8 (by simp;omega)];have hz:nz ((kin k 1 k.Sd.length).length:Int)=some ():=by grind [nz]
 rw [hz,zbs];generalize hn2:((kin k 1 k.Sd.length).length:Int)=n at*
 have hnp:0<n:=by omega
 have hm:=Int.tmod_lt_of_pos c hnp
 have hm2: -n<c.tmod n:=by
  have:=Int.lt_tmod_of_pos c hnp;omega
 obtain ⟨o,ho,h1,h2⟩:∃o,(if decide (c.tmod n<0) then some (w64 (c.tmod n+n)) else some (c.tmod n))=some o/\0<=o/\o<n:=by
  grind [qt]
 rw [ho,zbs];obtain ⟨x,hx,hg⟩:=oF (xs:=kin k 1 k.Sd.length) h1 (by omega)
 grind [EU]
theorem Bs{k:zo}(hn:k.Sd.length<=64):Ky k (dp k):=by
 unfold dp;rw [oI hn,zbs];generalize hr:kin k 1 k.Sd.length=rs
 obtain ⟨r,h1,h2⟩:=mK (body:=fa k rs) (out:=λs=>(s.1,s.2)) (N:=rs.length) (λi s=>(i=0/\s.2=false)\/(0<i/\s.2=true/\s.1∈rs)) (λr=>(rs=[]/\r.2=false)\/(r.2=true/\r.1∈rs)) (λi s again hi hs ha=>by
  unfold fa;rw [nu hi,zbs];have hm:rs[i]∈rs:=ym hi
  have look:∀x∈rs,∃t,Go.Sx.idx k.Sd x=some t:=by
   intro x hx;obtain ⟨j,t,rfl,hj,ht,_⟩:=HU (k:=k) (m:=1) (n:=k.Sd.length) (by rw [hr];exact hx)
   exact ⟨_,nu hj⟩
  rcases hs with ⟨rfl,h0⟩|⟨hp,h0,hin⟩
  ·rw [h0];simp only [Bool.not_false,q9,zbs];exact ha _ (.inr ⟨by omega,rfl,hm⟩)
  ·rw [h0];obtain ⟨t1,e1⟩:=look _ hm;obtain ⟨t2,e2⟩:=look _ hin;simp only [Bool.not_true,zfe,x3,e1,e2,zbs];split
   ·exact ha _ (.inr ⟨by omega,rfl,hm⟩)
   ·exact ha _ (.inr ⟨by omega,rfl,hin⟩)) (λs hs=>by
  rcases hs with ⟨h0,h3⟩|⟨_,h3,h4⟩
  ·exact .inl ⟨RW.1 h0,h3⟩
  ·exact .inr ⟨h3,h4⟩) rs.length 0 (0,false) (by omega) (.inl ⟨rfl,rfl⟩)
 rw [h1,zbs];rcases h2 with ⟨h0,h3⟩|⟨h3,h4⟩
 ·rw [d7 (by rw [h3];rfl)];exact .inl ⟨by rw [hr];exact h0,rfl⟩
 ·rw [d8 (by rw [h3];simp)];exact EU (by rw [hr];exact h4)
theorem nS{k:zo}{t:Nat}{x:qw}(ht:k.Sd[t]? =some x)(hm:x.Si≠2):
  aT k [(t:Int)]=some (0,zo.mk (k.Sd.set t (qw.mk 2 x.Tz)) k.LE):=by
 have hl:t<k.Sd.length:=(zes.1 ht).1;have e1:Go.Sx.idx [(t:Int)] ((0:Nat):Int)=some (t:Int):=rfl;have e2:Go.Sx.idx k.Sd (t:Int)=some x:=by rw [nu hl];rw [zeg hl] at ht;exact ht
 unfold aT fe;simp only [v8,yz,jN,iZ,ka,kb,e1,e2,zbs]
 grind
open Go.Sx
variable {x:Int} {l:List zr} {i:Nat}
theorem PG(x:Int):xS x=x%18446744073709551616:=by
 show IntKind.u64.wrap x=_;simp [IntKind.wrap,IntKind.bits,IntKind.signed]
theorem Ro(h0:0<=x)(h1:x<=1000):w64 (iE .u64 (xS (w64 x)) 1)=x / 2:=by
 rw [qt (x:=x) (by omega) (by omega),PG,Int.emod_eq_of_lt h0 (by omega)]
 have e:iE .u64 x 1=x / 2:=by
  show x.fdiv (2^(min (Int.toNat 1) IntKind.u64.bits))=_;rw [Int.fdiv_eq_ediv_of_nonneg _ (by grind)];rfl
 grind [qt]
def pv:List zr->Int->Option Int
 |[],_=>none
 |p::l,k=>if p.Tc=k then some p.SV else pv l k
def pk(l:List zr):List Int:=l.map (·.Tc)
theorem td{k:Int}:pv l k=none↔k∉pk l:=by
 induction l with
 |nil=>simp [pv,pk]
 |cons p l ih=>
  grind [pv,pk]
theorem QN(hn:(pk l).Nodup){p:zr}(h:l[i]? =some p):pv l p.Tc=some p.SV:=by
 induction l generalizing i with
 |nil=>simp at h
 |cons q l ih=>
  grind [pk,pv]
theorem Bv{a b:List zr}{k:Int}:pv (a++b) k=(match pv a k with|some x=>some x|none=>pv b k):=by
 induction a with
 |nil=>rfl
 |cons p a ih=>
  grind [pv]
theorem Ia{a b:List zr}:pk (a++b)=pk a++pk b:=u5
theorem KC{p:zr}(h:l[i]? =some p):l=l.take i++p::l.drop (i+1):=by
 obtain ⟨hl,rfl⟩:=zes.1 h
 conv=>lhs;rw [<- yg i l,RK hl]
theorem PH(hn:(pk l).Nodup){p:zr}(h:l[i]? =some p)(x:Int)(q:Int):pv (l.set i ⟨p.Tc,x⟩) q=if q=p.Tc then some x else pv l q:=by
 induction l generalizing i with
 |nil=>simp at h
 |cons r l ih=>
  obtain ⟨n1,n2⟩:=r9.1 (show (r.Tc::pk l).Nodup from hn);cases i with
  |zero=>
   grind [pv]
  |succ i=>
   grind [pk,pv]
theorem Me{p:zr}(h:l[i]? =some p)(x:Int):pk (l.set i ⟨p.Tc,x⟩)=pk l:=by
 unfold pk;rw [ye];apply m6
 grind
theorem PI(hn:(pk l).Nodup){p:zr}(h:l[i]? =some p)(q:Int):pv (l.take i++l.drop (i+1)) q=if q=p.Tc then none else pv l q:=by
 have e:=KC h;have hn2:=hn;rw [e,Ia] at hn2;obtain ⟨n1,n2,n3⟩:=k7.1 hn2;obtain ⟨n4,n5⟩:=r9.1 (show (p.Tc::pk (l.drop (i+1))).Nodup from n2);have hna:p.Tc∉pk (l.take i):=λhm=>n3 _ hm p.Tc (by simp [pk]) rfl
 by_cases hq:q=p.Tc
 ·subst hq;rw [d7 rfl,Bv,td.2 hna];exact td.2 n4
 grind [Bv,pv]
theorem Mf:(pk (l.take i++l.drop (i+1))).Sublist (pk l):=by
 have h:(l.take i++l.drop (i+1)).Sublist l:=by
  rw [<- List.eraseIdx_eq_take_drop_succ]
  grind
 exact h.map _
def Dz(v:Option Int)(n:Nat)(cap op x:Int):zk:=
 if op=0 then ⟨0,v.isSome,v.getD 0,false,0,0⟩
 else if op=1 then ⟨0,v.isSome,0,false,0,0⟩
 else if op=3 then ⟨0,v.isSome,v.getD 0,false,0,0⟩
 else if v=none/\(n:Int)=cap then ⟨40,false,0,false,0,0⟩
 else ⟨0,v.isSome,if op=4 then xS (v.getD 0+x) else v.getD 0,false,0,0⟩
def Mg(v:Option Int)(n:Nat)(cap op x:Int):Option Int:=
 if op=3 then none
 else if op=2\/op=4 then (if v=none/\(n:Int)=cap then none else some (if op=4 then xS (v.getD 0+x) else x))
 else v
def Mh(v:Option Int)(n:Nat)(cap op:Int):Nat:=
 if op=3 then (if v.isSome then n-1 else n)
 else if (op=2\/op=4)/\v=none/\(n:Int)≠cap then n+1
 else n
structure Qn (l l':List zr) (cap op k x:Int):Prop where
 UI:∀q,pv l' q=if q=k then Mg (pv l k) l.length cap op x else pv l q
 len:l'.length=Mh (pv l k) l.length cap op
 nd:(pk l').Nodup
def Srt(l:List zr):Prop:=(pk l).Pairwise (· < ·)
theorem Srt.nd(h:Srt l):(pk l).Nodup:=h.imp (λa=>by omega)
structure Found (l:List zr) (k:Int) (i:Nat):Prop where
 le:i<=l.length
 low:∀p∈l.take i,p.Tc<k
 high:∀p∈l.drop i,k<=p.Tc
theorem DA(h:Srt l){j:Nat}{p q:zr}(hij:i<j)(hi:l[i]? =some p)(hj:l[j]? =some q):p.Tc<q.Tc:=by
 obtain ⟨hli,rfl⟩:=zes.1 hi;obtain ⟨hlj,rfl⟩:=zes.1 hj;have:=List.pairwise_iff_getElem.1 h i j (by grind [pk]) (by grind [pk]) hij
 grind [pk]
theorem DB{fu:Nat}(hfu:17<fu)(hs:Srt l)(hl:l.length<=16)(k:Int):
  OK (zM fu l k) (λr=>∃i:Nat,r.1=(i:Int)/\Found l k i/\r.2=(pv l k).isSome/\(r.2=true->∃p,l[i]? =some p/\p.Tc=k)):=by
 unfold zM
 refine d6 (R:=λi=>∃n:Nat,i=(n:Int)/\Found l k n)
  (OK.rounds (λs=>∃a b:Nat,s.1=(a:Int)/\s.2=(b:Int)/\a<=b/\b<=l.length/\(∀p∈l.take a,p.Tc<k)/\∀p∈l.drop b,k<=p.Tc) (λs=>s.2.toNat-s.1.toNat) ?_ fu _ ⟨0,l.length,rfl,rfl,by omega,by omega,by simp,by simp⟩ (by simp;omega)) ?_
 ·rintro ⟨s1,s2⟩ again ⟨a,b,e1,e2,hab,hb,hlo,hhi⟩ kk;simp only at e1 e2;subst e1;subst e2;unfold qI;refine d5 (λh=> ?_) (λh=> ?_)
  ·have h:(a:Int)<b:=by simpa using h
   simp only;rw [Ro (x:=(a:Int)+b) (by omega) (by omega)];have em:((a:Int)+b) / 2=(((a+b) / 2:Nat):Int):=by omega
   rw [em];have hm1:a<=(a+b) / 2:=by omega
   have hm2:(a+b) / 2<b:=by omega
   refine f9 (i7 (by omega) (λp hp=> ?_));unfold vG;by_cases c:p.Tc<k
   ·simp only [c,decide_true,q9,zbs];refine m9 (by decide) ?_;rw [qt (by omega) (by omega)];refine kk _ ⟨(a+b) / 2+1,b,by simp,rfl,by omega,hb,λq hq=> ?_,hhi⟩ (by simp;omega);rw [x7,hp] at hq;rcases i5.1 hq with hq|hq
    ·obtain ⟨j,hj,rfl⟩:=t9.1 hq;have hjl:j<(a+b) / 2:=by simp at hj;omega
     have:=DA hs hjl (p:=l[j]'(by omega)) (zeg (by omega)) hp
     grind
    grind
   ·simp only [c,decide_false,zfe,x3];refine d6 (R:=λz=>¬ z<0) ?_ (λz hz=> ?_)
    ·refine d5 (λ_=>b9 (by decide)) (λ_=>b9 (by decide))
    ·refine j8 (by simpa using hz) ?_;refine kk _ ⟨a,(a+b) / 2,rfl,rfl,by omega,by omega,hlo,λq hq=> ?_⟩ (by simp;omega);obtain ⟨j,hj,rfl⟩:=t9.1 hq;rw [List.getElem_drop];have hjl:(a+b) / 2+j<l.length:=by simp at hj;omega
     cases j with
     |zero=>
      grind
     |succ j=>
      have:=DA hs (show (a+b) / 2<(a+b) / 2+(j+1) by omega) hp (zeg hjl);omega
  ·have h:¬ (a:Int)<b:=by simpa using h
   have:a=b:=by omega
   subst this;exact b9 ⟨a,rfl,hb,hlo,hhi⟩
 ·rintro i ⟨n,rfl,hf⟩
  have hlow:k∉pk (l.take n):=λhm=>by
   obtain ⟨p,hp,e⟩:=yj.1 hm;have:=hf.low p hp;omega
  have hsp:pv l k=pv (l.drop n) k:=by
   conv=>lhs;rw [<- yg n l,Bv,td.2 hlow]
  refine d6 (R:=λb=>b=(pv l k).isSome/\(b=true->∃p,l[n]? =some p/\p.Tc=k)) ?_ (λb hb=>b9 ⟨n,rfl,hf,hb.1,hb.2⟩);refine d5 (λc=> ?_) (λc=> ?_)
  ·have c:(n:Int)<l.length:=by simpa using c
   refine f9 (i7 (by omega) (λp hp=> ?_))
   have hd:l.drop n=p::l.drop (n+1):=by
    obtain ⟨hlt,rfl⟩:=zes.1 hp;exact RK hlt
   have hk:k<=p.Tc:=hf.high p (by grind);unfold vG;by_cases e:p.Tc=k
   ·grind [b9,pv]
   ·have c1:¬ p.Tc<k:=by omega
    have c2:p.Tc>k:=by omega
    simp only [c1,c2,decide_false,decide_true,zfe,x3,q9,zbs];refine b9 ⟨?_,λh=>by simp at h⟩;rw [hsp]
    have:k∉pk (l.drop n):=λhm=>by
     obtain ⟨q,hq,e2⟩:=yj.1 hm;rw [hd] at hq;rcases j5.1 hq with rfl|hq
     ·exact e e2
     ·obtain ⟨j,hj,rfl⟩:=t9.1 hq;rw [List.getElem_drop] at e2;have hjl:n+1+j<l.length:=by simp at hj;omega
      have:=DA hs (show n<n+1+j by omega) hp (zeg hjl);omega
    rw [td.2 this];rfl
  ·have c:¬ (n:Int)<l.length:=by simpa using c
   refine b9 ⟨?_,λh=>by cases h⟩;rw [hsp,x8 (by omega)];rfl
theorem Ny(hs:Srt l){k:Int}(hf:Found l k i)(hn:k∉pk l)(x:Int):Srt (l.take i++[⟨k,x⟩]++l.drop i):=by
 unfold Srt;rw [Ia,Ia];have h1:(pk (l.take i)).Pairwise (· < ·):=List.Pairwise.sublist (List.Sublist.map _ (List.take_sublist _ _)) hs;have h2:(pk (l.drop i)).Pairwise (· < ·):=List.Pairwise.sublist (List.Sublist.map _ (List.drop_sublist _ _)) hs
 have hlow:∀a∈pk (l.take i),a<k:=λa ha=>by
  obtain ⟨p,hp,rfl⟩:=yj.1 ha;exact hf.low p hp
 have hhigh:∀a∈pk (l.drop i),k<a:=λa ha=>by
  obtain ⟨p,hp,rfl⟩:=yj.1 ha;have:=hf.high p hp;have:¬ k=p.Tc:=λe=>hn (by rw [e];exact List.mem_map_of_mem (List.mem_of_mem_drop hp))
  omega
 grind [pk]
structure BB (c:Int) (b:qp):Prop where
 cap:b.cap=c
 c1:1<=c
 UN:c<=16
 len:(b.Sc.length:Int)<=c
 UD:Srt b.Sc
theorem BB.done{c op k:Int}{b:qp}(h:BB c b)(hs:Srt l)(hd:Qn b.Sc l c op k x):BB c ⟨b.cap,l⟩:=by
 refine {h with len:= ?_,UD:=hs};have:=hd.len;have:=h.len
 grind [Mh]
theorem wQ{fu:Nat}(hfu:17<fu){cap:Int}{b:qp}(h:BB cap b){op:Int}(h0:0<=op)(h4:op<=4)(k x:Int):
  OK (jP fu b op k x) (λo=>o.1=Dz (pv b.Sc k) b.Sc.length cap op x/\∃l,o.2=⟨b.cap,l⟩/\Srt l/\Qn b.Sc l cap op k x):=by
 have hl:b.Sc.length<=16:=by have:=h.len;have:=h.UN;omega
 have hnd:=h.UD.nd
 have same:∀(hop:op=0\/op=1\/(op=3/\pv b.Sc k=none)\/((op=2\/op=4)/\pv b.Sc k=none/\(b.Sc.length:Int)=cap)),Qn b.Sc b.Sc cap op k x:=by
  intro hop;refine ⟨λq=> ?_,?_,hnd⟩
  ·grind [Mg]
  grind [Mh]
 unfold jP;refine j8 (by simp;omega) ?_;unfold fh;refine d6 (R:=λr=>∃i:Nat,r.1=(i:Int)/\Found b.Sc k i/\r.2=(pv b.Sc k).isSome/\(r.2=true->∃p,b.Sc[i]? =some p/\p.Tc=k)) (d6 (DB hfu h.UD hl k) (λr hr=>b9 hr)) ?_;rintro ⟨r1,r2⟩ ⟨i,e1,hf,e2,hp⟩;simp only at e1 e2 hp |-;subst e1;subst e2;have hval:∀p,b.Sc[i]? =some p->p.Tc=k->pv b.Sc k=some p.SV:=λp hq e=>by grind [QN]
 refine d6 (R:=λo=>o=⟨0,(pv b.Sc k).isSome,if op=1 then 0 else (pv b.Sc k).getD 0,false,0,0⟩) ?_ (λo ho=> ?_)
 ·refine d5 (λc=> ?_) (λc=> ?_)
  ·grind [f9,i7,b9]
  ·refine b9 ?_;by_cases e:op=1
   ·simp [e]
   ·have:(pv b.Sc k).isSome=false:=by
     grind
    have hn:pv b.Sc k=none:=by simpa using this
    simp [hn]
 subst ho;refine d5 (λe=> ?_) (λe3=> ?_)
 ·have e:op=3:=by simpa using e
  subst e;refine d5 (λc=> ?_) (λc=> ?_)
  ·obtain ⟨p,hpi,hk⟩:=hp c;have hlt:=(zes.1 hpi).1;unfold ql L9;rw [qt (by omega) (by omega),d7 ⟨by omega,by omega,by omega⟩];have e5:((i:Int)+1).toNat=i+1:=by omega
   simp only [zbs,k8,e5];refine b9 ⟨by simp [Dz],_,rfl,?_,λq=> ?_,?_,hnd.sublist Mf⟩
   ·exact List.Pairwise.sublist Mf h.UD
   ·grind [PI,Mg]
   grind [Mh]
  ·have hn:pv b.Sc k=none:=by simpa using c
   refine b9 ⟨by simp [Dz],_,rfl,h.UD,same (.inr (.inr (.inl ⟨rfl,hn⟩)))⟩
 have n3:¬ op=3:=by simpa using e3
 refine d6 (R:=λb=>b=decide (op=2\/op=4)) ?_ (λz hz=> ?_)
 ·refine d5 (λe=>b9 ?_) (λe=>b9 ?_)
  ·grind
  grind
 subst hz;refine d5 (λe=> ?_) (λe=> ?_)
 ·have e:op=2\/op=4:=by simpa using e
  have n0:¬ op=0:=by omega
  have n1:¬ op=1:=by omega
  refine d5 (λc=> ?_) (λc=> ?_)
  ·have hn:pv b.Sc k=none:=by simp at c;exact c.1
   have hfull:(b.Sc.length:Int)=cap:=by simp at c;have:=h.cap;omega
   refine b9 ⟨?_,_,rfl,h.UD,same (.inr (.inr (.inr ⟨e,hn,hfull⟩)))⟩
   grind [Dz]
  ·have hnf:¬ (pv b.Sc k=none/\(b.Sc.length:Int)=cap):=by
    rintro ⟨a1,a2⟩;have:=h.cap
    grind
   have hbv:Mg (pv b.Sc k) b.Sc.length cap op x=some (if op=4 then xS ((pv b.Sc k).getD 0+x) else x):=by
    grind [Mg]
   refine d6 (R:=λ(m:qp)=>m.cap=b.cap/\m.Sc.length=(if pv b.Sc k=none then b.Sc.length+1 else b.Sc.length)/\Srt m.Sc/\(∃p,m.Sc[i]? =some p/\p.Tc=k)/\∀q,q≠k->pv m.Sc q=pv b.Sc q) ?_ (λm hm=> ?_)
   ·refine d5 (λc2=> ?_) (λc2=> ?_)
    ·have hn:pv b.Sc k=none:=by simpa using c2
     have hfl:=hf.le;unfold qm OE;rw [d7 ⟨by omega,by omega,by simp;omega⟩];simp only [zbs,k8];refine b9 ⟨rfl,?_,Ny h.UD hf (td.1 hn) 0,⟨⟨k,0⟩,?_,rfl⟩,λq hq=> ?_⟩
     ·grind
     ·grind
     ·have hkq:¬ k=q:=λz=>hq z.symm
      conv=>rhs;rw [<- yg i b.Sc,Bv]
      grind [Bv,pv]
    ·have hs:(pv b.Sc k).isSome=true:=by simpa using c2
     have hn:¬ pv b.Sc k=none:=λe=>by grind
     exact b9 ⟨rfl,by rw [d8 hn],h.UD,hp hs,λq _=>rfl⟩
   obtain ⟨m1,m2,m3,⟨p,hpi,hk⟩,m5⟩:=hm;refine d6 (R:=λo=>o=((if op=4 then xS ((pv b.Sc k).getD 0+x) else x),Dz (pv b.Sc k) b.Sc.length cap op x)) ?_ (λo ho=> ?_)
   ·refine d5 (λe4=>b9 ?_) (λe4=>b9 ?_)
    ·grind [Dz]
    grind [Dz]
   subst ho;refine f9 (i7 (zes.1 hpi).1 (λy hy=>b9 ?_));rw [hpi] at hy;cases hy;refine ⟨rfl,_,by rw [m1],?_,λq=> ?_,?_,?_⟩
   ·grind [Srt,pk,Me]
   ·rw [hbv];subst hk;rw [show Int.toNat (i:Int)=i from rfl,PH m3.nd hpi]
    grind
   ·grind [Mh,pv]
   ·rw [show pk (m.Sc.set (Int.toNat (i:Int)) ⟨p.Tc,_⟩)=pk m.Sc from Me hpi _];exact m3.nd
 ·have e:¬ (op=2\/op=4):=by simpa using e
  have e01:op=0\/op=1:=by omega
  refine b9 ⟨?_,_,rfl,h.UD,same (by grind)⟩
  grind [Dz]
theorem fM{l:List Int}{k:Int}(h:l[i]? =some x):(l.take (i+1)).filter (· !=k)=(l.take i).filter (· !=k)++if x !=k then [x] else []:=by
 rw [x7,h,y8]
 grind
theorem DC(l:List Int)(k:Int)(hl:l.length<=100):OK (qU l k) (λi=>(i= -1/\k∉l)\/∃n:Nat,i=(n:Int)/\l[n]? =some k/\k∉l.take n):=by
 unfold qU;refine d6 (R:=λo=>match o with|.inl _=>k∉l|.inr i=>∃n:Nat,i=(n:Int)/\l[n]? =some k/\k∉l.take n) (i4 (λi _=>k∉l.take i) (by simp) ?_ ?_) ?_
 ·intro i s again hi h kk;unfold xU bv;refine f9 (i7 hi (λy hy=> ?_));simp only [zbs];refine d5 (λhe=>b9 ?_) (λhe=>kk _ ?_)
  ·grind
  ·have hne:¬ y=k:=by simpa using he
   rw [x7,hy]
   grind
 ·grind
 grind [b9]
theorem dr{l:List Int}{k:Int}(h:k∉l):l.filter (· !=k)=l:=by
 refine List.filter_eq_self.2 (λx hx=> ?_)
 grind
theorem tf{fu:Nat}(hfu:101<fu)(l:List Int)(k:Int)(hl:l.length<=100):qO fu l k=some (l.filter (· !=k)):=by
 refine OK.is ?_;unfold qO;refine d6 (DC l k hl) (λi hi=> ?_);refine d5 (λc=> ?_) (λc=> ?_)
 ·grind [b9,dr]
 ·rcases hi with ⟨rfl,hn⟩|⟨n,rfl,hk,hn⟩
  ·simp at c
  have hlt:=(zes.1 hk).1
  refine d6 (R:=λs=>∃m:Nat,s.2=(m:Int)/\m<=l.length/\s.1.length=l.length/\s.1.take m=l.filter (· !=k))
   (OK.rounds (λs=>∃a b:Nat,s.2.1=(a:Int)/\s.2.2=(b:Int)/\a<b/\b<=l.length/\s.1.length=l.length/\s.1.take a=(l.take b).filter (· !=k)/\s.1.drop b=l.drop b) (λs=>l.length-s.2.2.toNat) ?_ fu _ ?_ ?_) ?_
  ·rintro ⟨s,s1,s2⟩ again ⟨a,b,e1,e2,hab,hb,hsl,ht,hd⟩ kk;simp only at e1 e2 hsl ht hd;subst e1;subst e2;unfold xI bv;simp only;refine d5 (λh=> ?_) (λh=> ?_)
   ·have h:(b:Int)<s.length:=by simpa using h
    refine f9 (i7 (by omega) (λy hy=> ?_))
    have hyl:l[b]? =some y:=by
     have:=congrArg (λz=>z[0]?) hd
     grind
    simp only [zbs];refine d5 (λe=> ?_) (λe=> ?_)
    ·have e:¬ y=k:=by simpa using e
     refine f9 (i7 (by omega) (λz hz=> ?_));rw [qt (by omega) (by omega),qt (by omega) (by omega)];refine kk _ ⟨a+1,b+1,by simp,by simp,by omega,by omega,by simp [hsl],?_,?_⟩ (by simp;omega)
     ·rw [fM hyl,d7 (by simpa using e),<- ht];show (s.set a y).take (a+1)=_;rw [x7,yh (by omega),List.take_set_of_le (by omega)];rfl
     ·show (s.set a y).drop (b+1)=_;rw [List.drop_set_of_lt (by omega)];have:=congrArg (List.drop 1) hd;rw [yl,yl] at this
      grind
    ·have e:y=k:=by simpa using e
     rw [qt (by omega) (by omega)];refine kk _ ⟨a,b+1,rfl,by simp,by omega,by omega,hsl,?_,?_⟩ (by simp;omega)
     ·rw [fM hyl,d8 (by simpa using e),i9,<- ht]
     ·have:=congrArg (List.drop 1) hd;rw [yl,yl] at this
      grind
   grind [b9]
  ·refine ⟨n,n+1,rfl,by grind [qt],by omega,by omega,rfl,?_,rfl⟩;rw [fM hk];simp [dr hn]
  ·grind
  ·rintro ⟨s,z⟩ ⟨m,e1,hm,hsl,ht⟩;simp only at e1 hsl ht |-;subst e1;rw [vX rfl (by omega)];simp only [zbs];rw [nO rfl (by simp;omega)];simp only [zbs,k8];refine b9 ?_;rw [<- ht,y6 (by simp;omega),z7,Nat.min_self]
end
open Go.Sx
structure LB (c:Int) (a:qB):Prop where
 bb:BB c a.Tq
 nd:a.Tx.Nodup
 mem:∀k,k∈a.Tx↔(pv a.Tq.Sc k).isSome=true
 len:a.Tx.length=a.Tq.Sc.length
theorem oJ{l:List Int}{k:Int}(hn:l.Nodup)(h:k∈l):(l.filter (· !=k)).length+1=l.length:=by
 induction l with
 |nil=>cases h
 |cons a l ih=>
  grind [dr]
theorem Mi{l:List Int}{k q:Int}:q∈l.filter (· !=k)↔q∈l/\q≠k:=by grind
theorem LB.out{c:Int}{b:qp}{o:List Int}(h:LB c ⟨b,o⟩){k:Int}{l:List zr}(hb:BB c ⟨b.cap,l⟩)(hv:∀q,pv l q=if q=k then none else pv b.Sc q)(hl:l.length=if (pv b.Sc k).isSome then b.Sc.length-1 else b.Sc.length):LB c ⟨⟨b.cap,l⟩,o.filter (· !=k)⟩:=by
 refine ⟨hb,h.nd.filter _,λq=> ?_,?_⟩
 ·show q∈o.filter (· !=k)↔(pv l q).isSome=true;rw [Mi,hv q];have hm:q∈o↔(pv b.Sc q).isSome=true:=h.mem q
  grind
 ·show (o.filter (· !=k)).length=l.length;have hm:k∈o↔(pv b.Sc k).isSome=true:=h.mem k;have hlen:o.length=b.Sc.length:=h.len;by_cases e:k∈o
  ·have:=oJ (show o.Nodup from h.nd) e
   grind
  ·rw [hl,d8 (λz=>e (hm.2 z)),dr e];exact hlen
theorem DD{fu:Nat}(hfu:101<fu)(a:qB)(k:Int)(hl:a.Tx.length<=100):xD fu a k=some ⟨a.Tq,a.Tx.filter (· !=k)⟩:=by
 unfold xD;rw [tf hfu _ _ hl];rfl
theorem KD{fu:Nat}(hfu:101<fu)(a:qB)(k:Int)(hl:a.Tx.length<=100):xW fu a k=some ⟨a.Tq,k::a.Tx.filter (· !=k)⟩:=by
 unfold xW;rw [DD hfu a k hl,zbs];have h1:(a.Tx.filter (· !=k)).length<=100:=s9 (List.length_filter_le _ _) hl
 grind [jG,OE]
theorem LB.le{c:Int}{a:qB}(h:LB c a):a.Tx.length<=16:=by
 have h1:=h.len;have h2:=h.bb.len;have h3:=h.bb.UN;omega
theorem KE{fu:Nat}(hfu:101<fu){c:Int}{a:qB}(h:LB c a)(h1:1<=a.Tq.Sc.length)(p:zk):
  OK (cB fu a p) (λr=>LB c r.1/\r.1.Tq.Sc.length+1=a.Tq.Sc.length/\∀q,pv a.Tq.Sc q=none->pv r.1.Tq.Sc q=none):=by
 obtain ⟨b,o⟩:=a;have hl:o.length=b.Sc.length:=h.len;have hle:o.length<=16:=h.le;have h1:1<=b.Sc.length:=h1;unfold cB;show OK ((Go.Sx.idx o (w64 ((o.length:Int)-1))).bind _) _;rw [qt (by omega) (by omega)];obtain ⟨x,hx,hg⟩:=oF (xs:=o) (t:=(o.length:Int)-1) (by omega) (by omega);rw [hx,zbs];have hxo:x∈o:=zmg hg;have hxs:(pv b.Sc x).isSome=true:=(h.mem x).1 hxo;obtain ⟨r,hr,e1,l,e2,hs,hd⟩:=wQ (fu:=fu) (by omega) h.bb (op:=3) (by omega) (by omega) x 0;obtain ⟨r1,r2⟩:=r;have e2:r2=⟨b.cap,l⟩:=e2;subst e2;rw [show jP fu b 3 x 0=_ from hr,zbs];have hv:∀q,pv l q=if q=x then none else pv b.Sc q:=hd.UI
 have hlen:l.length=if (pv b.Sc x).isSome then b.Sc.length-1 else b.Sc.length:=hd.len
 have hn:=h.out (h.bb.done hs hd) hv hlen;rw [show xD fu ⟨⟨b.cap,l⟩,o⟩ x=some ⟨⟨b.cap,l⟩,o.filter (· !=x)⟩ from DD hfu ⟨⟨b.cap,l⟩,o⟩ x (by grind),zbs];refine ⟨_,rfl,hn,?_,λq hq=> ?_⟩
 ·grind
 ·show pv l q=none;rw [hv q];split
  ·rfl
  ·exact hq
theorem Ib{fu:Nat}(hfu:101<fu){c:Int}{b:qp}{o:List Int}(h:LB c ⟨b,o⟩){op k x:Int}(h0:0<=op)(h4:op<=4){l:List zr}(hs:Srt l)(hd:Qn b.Sc l c op k x)
  (hne:¬ ((op=2\/op=4)/\pv b.Sc k=none/\(b.Sc.length:Int)=c)) {found:Bool} (hf:op=0->found=(pv b.Sc k).isSome) (res:zk):
  OK ((if (op==2) then some (op==2) else if (op==4) then some (op==4) else if (op==0) then some found else some false).bind λo150=>
   if o150 then (xW fu ⟨⟨b.cap,l⟩,o⟩ k).bind λr161=>some (res,r161)
   else if (op==3) then (xD fu ⟨⟨b.cap,l⟩,o⟩ k).bind λr176=>some (res,r176) else some (res,(⟨⟨b.cap,l⟩,o⟩:qB))) (λr=>LB c r.2):=by
 have hle:o.length<=16:=h.le;have hlen:o.length=b.Sc.length:=h.len;have hb:=h.bb.done hs hd;have hm:∀q,q∈o↔(pv b.Sc q).isSome=true:=h.mem
 have touch:(pv l k).isSome=true->(∀q,q≠k->pv l q=pv b.Sc q)->l.length=(if (pv b.Sc k).isSome then b.Sc.length else b.Sc.length+1)->OK ((xW fu ⟨⟨b.cap,l⟩,o⟩ k).bind λr161=>some (res,r161)) (λr=>LB c r.2):=by
  intro hk hq hl;rw [KD hfu ⟨⟨b.cap,l⟩,o⟩ k (by grind)];refine ⟨_,rfl,hb,?_,λq=> ?_,?_⟩
  ·show (k::o.filter (· !=k)).Nodup;exact r9.2 ⟨λz=>(Mi.1 z).2 rfl,h.nd.filter _⟩
  ·grind
  ·show (k::o.filter (· !=k)).length=l.length;rw [v8,hl];by_cases e:k∈o
   ·have:=oJ (show o.Nodup from h.nd) e
    grind
   grind [dr]
 have same:(∀q,pv l q=pv b.Sc q)->l.length=b.Sc.length->LB c ⟨⟨b.cap,l⟩,o⟩:=λhq hl=>⟨hb,h.nd,λq=>by grind,by grind⟩
 have hcase:op=0\/op=1\/op=2\/op=3\/op=4:=by omega
 have hv:=hd.UI;have hlb:=hd.len;rcases hcase with rfl|rfl|rfl|rfl|rfl
 ·have hq:∀q,pv l q=pv b.Sc q:=λq=>by
   rw [hv q];split
   ·rename_i e;subst e;rfl
   ·rfl
  have hl2:l.length=b.Sc.length:=hlb;simp only [show ((0:Int)==2)=false from rfl,show ((0:Int)==4)=false from rfl,show ((0:Int)==0)=true from rfl,show ((0:Int)==3)=false from rfl,zfe,x3,q9,zbs];cases hfo:found with
  |true=>
   grind
  |false=>
   simp only [zfe,x3];exact ⟨_,rfl,same hq hl2⟩
 ·have hq:∀q,pv l q=pv b.Sc q:=λq=>by
   rw [hv q];split
   ·rename_i e;subst e;rfl
   ·rfl
  have hl2:l.length=b.Sc.length:=hlb;simp only [show ((1:Int)==2)=false from rfl,show ((1:Int)==4)=false from rfl,show ((1:Int)==0)=false from rfl,show ((1:Int)==3)=false from rfl,zfe,x3,zbs];exact ⟨_,rfl,same hq hl2⟩
 ·simp only [show ((2:Int)==2)=true from rfl,q9,zbs];have hc:¬ (pv b.Sc k=none/\(b.Sc.length:Int)=c):=λz=>hne ⟨.inl rfl,z⟩
  refine touch ?_ (λq e=>by rw [hv q,d8 e]) ?_
  ·grind [Mg]
  ·rw [hlb];unfold Mh;rw [d8 (by decide)];cases hp:pv b.Sc k with
   |none=>rw [d7 ⟨.inl rfl,rfl,λz=>hc ⟨hp,z⟩⟩,d8 (by simp)]
   |some v=>rw [d8 (λz=>by cases z.2.1),d7 (show (some v).isSome=true from rfl)]
 ·simp only [show ((3:Int)==2)=false from rfl,show ((3:Int)==4)=false from rfl,show ((3:Int)==0)=false from rfl,show ((3:Int)==3)=true from rfl,zfe,x3,q9,zbs];rw [DD hfu ⟨⟨b.cap,l⟩,o⟩ k (by grind)];exact ⟨_,rfl,h.out hb hv hlb⟩
 ·simp only [show ((4:Int)==2)=false from rfl,show ((4:Int)==4)=true from rfl,zfe,x3,q9,zbs];have hc:¬ (pv b.Sc k=none/\(b.Sc.length:Int)=c):=λz=>hne ⟨.inr rfl,z⟩
  refine touch ?_ (λq e=>by rw [hv q,d8 e]) ?_
  ·grind [Mg]
  ·rw [hlb];unfold Mh;rw [d8 (by decide)];cases hp:pv b.Sc k with
   |none=>rw [d7 ⟨.inr rfl,rfl,λz=>hc ⟨hp,z⟩⟩,d8 (by simp)]
   |some v=>rw [d8 (λz=>by cases z.2.1),d7 (show (some v).isSome=true from rfl)]
open Go.Sx
variable {c:Int} {v:Option Int} {n:Nat} {x:Int}
theorem LB.same{b:qp}{o:List Int}(h:LB c ⟨b,o⟩){l:List zr}(hb:BB c ⟨b.cap,l⟩)(hq:∀q,pv l q=pv b.Sc q)(hl:l.length=b.Sc.length):LB c ⟨⟨b.cap,l⟩,o⟩:=
 ⟨hb,h.nd,λq=>by show q∈o↔(pv l q).isSome=true;rw [hq q];exact h.mem q,by show o.length=l.length;rw [hl];exact h.len⟩
theorem Ic{op:Int}(hop:op=2\/op=4)(hv:v=none)(hn:(n:Int)=c):(Dz v n c op x).E=40:=by
 grind [Dz]
theorem Ie{op:Int}(h:¬ ((op=2\/op=4)/\v=none/\(n:Int)=c))(h0:0<=op)(h4:op<=4):(Dz v n c op x).E=0:=by
 grind [Dz]
theorem KF{op:Int}(h:op=0):(Dz v n c op x).Found=v.isSome:=by subst h;rfl
theorem PJ{fu:Nat}(hfu:101<fu){a:qB}(h:LB c a){op:Int}(h0:0<=op)(h4:op<=4)(k x:Int):OK (dQ fu a op k x) (λr=>LB c r.2):=by
 obtain ⟨b,o⟩:=a;unfold dQ;obtain ⟨⟨r1,r2⟩,hr,e1,l,e2,hs,hd⟩:=wQ (fu:=fu) (by omega) h.bb h0 h4 k x;have f1:r1=Dz (pv b.Sc k) b.Sc.length c op x:=e1;have e2:r2=⟨b.cap,l⟩:=e2;subst e2;rw [show jP fu b op k x=_ from hr,zbs];have hb:=h.bb.done hs hd;by_cases hfull:(op=2\/op=4)/\pv b.Sc k=none/\(b.Sc.length:Int)=c
 ·obtain ⟨hop,hv,hn⟩:=hfull;have hE:r1.E=40:=by grind [Ic]
  have hq:∀q,pv l q=pv b.Sc q:=λq=>by
   rw [hd.UI q]
   grind [Mg]
  have hl:l.length=b.Sc.length:=by
   rw [hd.len]
   grind [Mh]
  have h2:=h.same hb hq hl;have hc1:=h.bb.c1;obtain ⟨m,hm,h3,h5,h6⟩:=KE hfu h2 (by grind) (zk.mk 0 false 0 false 0 0);obtain ⟨⟨b3,o3⟩,m2⟩:=m;have h5:b3.Sc.length+1=l.length:=h5;have hv3:pv b3.Sc k=none:=h6 k (by grind);obtain ⟨⟨r3,r4⟩,hr3,e3,l4,e4,hs4,hd4⟩:=wQ (fu:=fu) (by omega) h3.bb h0 h4 k x;have f3:r3=Dz (pv b3.Sc k) b3.Sc.length c op x:=e3;have e4:r4=⟨b3.cap,l4⟩:=e4;subst e4;have hne:¬ ((op=2\/op=4)/\pv b3.Sc k=none/\(b3.Sc.length:Int)=c):=λz=>by grind
  have hE3:r3.E=0:=by grind [Ie]
  rw [d7 (by simp [hE]),hm];simp only [zbs];rw [show jP fu b3 op k x=_ from hr3];simp only [zbs];rw [d8 (by simp [hE3])];exact Ib hfu h3 h0 h4 hs4 hd4 hne (found:=r3.Found) (λe=>by grind) _
 ·have hE:r1.E=0:=by rw [f1];exact Ie hfull h0 h4
  rw [d8 (by simp [hE])];simp only [zbs];rw [d8 (by simp [hE])];exact Ib hfu h h0 h4 hs hd hfull (found:=r1.Found) (λe=>by grind [KF]) _
def nT(s:qo):Prop:=match s with
 |.inl b=>∃c,BB c b
 |.inr a=>∃c,LB c a
theorem KG{fu:Nat}(hfu:101<fu){s:qo}(h:nT s){op:Int}(h0:0<=op)(h4:op<=4)(k x:Int):OK (jH fu s op k x) (λr=>nT r.2):=by
 cases s with
 |inl b=>
  obtain ⟨c,h⟩:=h;obtain ⟨r,hr,e1,l,e2,hs,hd⟩:=wQ (fu:=fu) (by omega) h h0 h4 k x;unfold jH;refine ⟨(r.1,.inl r.2),by grind,c,?_⟩;show BB c r.2;rw [e2];exact h.done hs hd
 |inr a=>
  obtain ⟨c,h⟩:=h;obtain ⟨r,hr,h2⟩:=PJ hfu h h0 h4 k x;unfold jH;exact ⟨(r.1,.inr r.2),by grind,c,h2⟩
theorem uS{b:qp}(h:BB c b):vq b=some b.Sc:=by
 have h1:=h.len;have h2:=h.UN;unfold vq zO;obtain ⟨u,hu⟩:=cG (m:=([]:List zr).length+b.Sc.length) (b:=16) (by simp;omega);rw [hu];rfl
theorem DE{s:qo}(h:nT s):OK (jz s) (λr=>r.length<=16):=by
 cases s with
 |inl b=>
  obtain ⟨c,h⟩:=h;have h1:=h.len;have h2:=h.UN;unfold jz;exact ⟨b.Sc,by grind [uS],by omega⟩
 |inr a=>
  obtain ⟨c,h⟩:=h;have h1:=h.bb.len;have h2:=h.bb.UN;unfold jz;exact ⟨a.Tq.Sc,by simp only [uS h.bb,zbs],by omega⟩
theorem sd(n:Int):ir n=some (none,2)\/∃b,ir n=some (some b,0)/\BB n b/\b.Sc=[]:=by
 unfold ir;split
 ·exact .inl rfl
 ·rename_i h
  simp only [q7,zdq,not_or] at h;exact .inr ⟨_,rfl,⟨rfl,by omega,by omega,by grind,List.Pairwise.nil⟩,rfl⟩
theorem Bw(d:jL):(∃e,dV d=some (none,e)/\e≠0)\/∃s,dV d=some (some s,0)/\nT s:=by
 unfold dV;split
 ·rcases sd d.Ur with h|⟨b,h,hb,_⟩
  ·rw [h];exact .inl ⟨2,rfl,by decide⟩
  ·rw [h];exact .inr ⟨_,rfl,_,hb⟩
 ·split
  ·unfold pu;rcases sd d.Ur with h|⟨b,h,hb,hp⟩
   ·rw [h];exact .inl ⟨2,rfl,by decide⟩
   ·rw [h];exact .inr ⟨_,rfl,_,⟨hb,l8,λk=>by rw [hp];simp [pv],by rw [hp];rfl⟩⟩
  grind
end
open Go.Sx
def Rc(o:zc)(r:zt):Prop:=0<=r.Item.SO/\r.Item.SO<o.maps.length/\(r.TB=true\/(0<=r.Item.Op/\r.Item.Op<5))
structure iM (o:zc):Prop where
 s1:1<=o.Te
 s4:o.Te<=4
 m4:o.maps.length<=4
 all:∀s∈o.maps,nT s
 TX:∀r∈o.Se,Rc o r
theorem wR{x:Int}(h0:0<=x)(h1:x<=1000):xS x=x:=by rw [PG];omega
theorem KI{k n:Int}(h1:1<=n)(h4:n<=4):OK (aq k n) (λ_=>True):=by
 unfold aq;rw [d8 (by simp;omega)];have hz:nz (xS n)=some ():=by unfold nz;rw [wR (by omega) (by omega),d8 (by omega)]
 rw [hz];exact ⟨_,rfl,trivial⟩
theorem DF{o:zc}(h1:1<=o.Te)(h4:o.Te<=4)(r:zt):OK (xN o r) (λb=>b=true->Rc o r):=by
 unfold xN;split
 ·exact ⟨_,rfl,λz=>by cases z⟩
 ·rename_i hm
  simp only [q7,zdq,not_or] at hm;split
  ·rename_i hw
   exact ⟨_,rfl,λ_=>⟨by omega,by omega,.inl hw⟩⟩
  ·split
   ·split
    ·rename_i h5 h6
     have h5':=yc h5;have h6':=yc h6;obtain ⟨q,hq,_⟩:=KI (k:=r.Item.Tc) h1 h4;rw [hq];exact ⟨_,rfl,λ_=>⟨by omega,by omega,.inr ⟨by omega,h6'⟩⟩⟩
    ·exact ⟨_,rfl,λz=>by cases z⟩
   ·exact ⟨_,rfl,λz=>by cases z⟩
theorem oK{fu:Nat}(hfu:101<fu){o:zc}(h:iM o):OK (jK fu o) (λq=>iM q.2.2/\q.2.2.maps.length=o.maps.length/\
  ((o.Se=[]/\q.2.1=false/\q.2.2=o)\/∃x xs,o.Se=x::xs/\q.2.1=true/\q.2.2.Se=xs/\q.1.To=x.Tt/\q.1.TT=x.TT/\q.1.TB=x.TB/\q.1.Item=x.Item/\q.1.Pairs.length<=16)):=by
 unfold jK;cases hl:o.Se with
 |nil=>
  rw [d7 (by rfl)];exact ⟨_,rfl,h,rfl,.inl ⟨rfl,rfl,rfl⟩⟩
 |cons x xs=>
  rw [d8 (by simp;omega)];have e1:Go.Sx.idx (x::xs) 0=some x:=rfl
  have e2:cut (x::xs) 1 ((x::xs).length:Int)=some xs:=by
   unfold cut;rw [d7 (by simp;omega)];simp
  rw [e1,zbs,e2,zbs];obtain ⟨f1,f2,f3⟩:=h.TX x (by grind);obtain ⟨s,hs,hg⟩:=oF f1 f2;have hso:=h.all s (zmg hg);split
  ·rw [hs,zbs];obtain ⟨ps,hp,hp2⟩:=DE hso;rw [hp,zbs];exact ⟨_,rfl,⟨h.s1,h.s4,h.m4,h.all,λr hr=>h.TX r (by grind)⟩,rfl,.inr ⟨x,xs,rfl,rfl,rfl,rfl,rfl,rfl,rfl,hp2⟩⟩
  ·rename_i hw
   rw [hs,zbs]
   have f3':0<=x.Item.Op/\x.Item.Op<5:=by
    grind
   obtain ⟨q,hq,hq2⟩:=KG hfu hso f3'.1 (by omega) x.Item.Tc x.Item.SV;rw [hq,zbs];refine ⟨_,rfl,⟨h.s1,h.s4,by show (o.maps.set _ _).length<=4;rw [j7];exact h.m4,λt ht=> ?_,λr hr=> ?_⟩,by grind,.inr ⟨x,xs,rfl,rfl,rfl,rfl,rfl,rfl,rfl,by simp⟩⟩
   ·rcases p9 ht with ht|rfl
    ·exact h.all t ht
    ·exact hq2
   ·obtain ⟨g1,g2,g3⟩:=h.TX r (by grind);exact ⟨g1,by grind,g3⟩
theorem rF{o:zc}(hb:o.Se.length*56<=140737488355328):vn o=some o.Se:=by
 unfold vn qr;obtain ⟨u,hu⟩:=cG (m:=([]:List zt).length+o.Se.length) (b:=56) (by simpa using hb);rw [hu];rfl
theorem Bx(s n:Int)(ds:List jL):(∃e,bO s n ds=some (none,e)/\e≠0)\/∃o,bO s n ds=some (some o,0)/\iM o/\o.Se=[]/\o.Sk=false/\o.Te=n/\o.TA=s/\o.maps.length=ds.length/\1<=n/\n<=4/\0<=s/\s<n:=by
 unfold bO;split
 ·grind
 ·rename_i hc
  simp only [q7,zdq,not_or] at hc;obtain ⟨⟨⟨⟨c1,c2⟩,c3⟩,c4⟩,c5⟩:=hc
  obtain ⟨q,h1,h2⟩:=mK (body:=iu ds) (out:=λs=>.inl s) (N:=ds.length) (λi o=>o.TA=s/\o.Te=n/\o.Se=[]/\o.Sk=false/\o.maps.length=i/\∀x∈o.maps,nT x)
   (λq=>match q with
    |.inl o=>o.TA=s/\o.Te=n/\o.Se=[]/\o.Sk=false/\o.maps.length=ds.length/\∀x∈o.maps,nT x
    |.inr z=>z.1=none/\z.2≠0) (λi o again hi hs ha=>by
   obtain ⟨a1,a2,a3,a4,a5,a6⟩:=hs;unfold iu;rw [nu hi,zbs];rcases Bw ds[i] with ⟨e,he,hne⟩|⟨m,hm,hmo⟩
   ·rw [he,zbs];exact ⟨.inr (none,e),by simp [vB,hne],rfl,hne⟩
   ·rw [hm,zbs];simp only [vB];rw [d8 (by simp)];obtain ⟨u,hu⟩:=cG (m:=o.maps.length+[m].length) (b:=16) (by grind);rw [hu,zbs];refine ha _ ⟨a1,a2,a3,a4,by grind,λx hx=> ?_⟩
    grind) (λs h=>h) ds.length 0 (zc.mk s n [] [] false) (by omega) ⟨rfl,rfl,rfl,rfl,rfl,λx hx=>by cases hx⟩
  rw [h1,zbs];cases q with
  |inl o=>
   obtain ⟨a1,a2,a3,a4,a5,a6⟩:=h2;exact .inr ⟨o,rfl,⟨by omega,by omega,by omega,a6,λr hr=>by grind⟩,a3,a4,a2,a1,a5,by omega,by omega,by omega,by omega⟩
  |inr z=>
   grind
set_option maxRecDepth 100000
open Go.Sx
open Go.Sx
theorem oM{σ ρ:Type}{body:(σ->Option ρ)->σ->Option ρ}(I:Nat->σ->Prop)(Q:ρ->Prop)
  (h:∀m s (again:σ->Option ρ),I m s->(∀m' s',m'<m->I m' s'->∃r,again s'=some r/\Q r)->∃r,body again s=some r/\Q r):
  ∀(fu m:Nat)(s:σ),m<fu->I m s->∃r,loop body fu s=some r/\Q r
 |0,m,s,e,_=>absurd e (Nat.not_lt_zero _)
 |fu+1,m,s,e,hi=>h m s _ hi λm' s' hm hs=>oM I Q h fu m' s' (by omega) hs
theorem Ig{c:zH}{fu:Nat}(h0:0<=c.Sj)(h4:c.Sj<=4)(hfu:10<fu):
  ∃o,loop (nF c) fu ([],0)=some o/\match o with
   |.inl rs=>(rs.length:Int)=c.Sj/\∀r∈rs,ku r/\r.waiting=[]/\r.Tu=false/\r.room=c.SS/\r.counts=⟨0,0,0,0,0⟩
   |.inr z=>z.1=none/\z.2≠0:=by
 refine oM (λm s=>(s.1.length:Int)=s.2/\s.2<=c.Sj/\s.2+m=c.Sj/\∀r∈s.1,ku r/\r.waiting=[]/\r.Tu=false/\r.room=c.SS/\r.counts=⟨0,0,0,0,0⟩) _ (λm s again hI ha=> ?_) fu c.Sj.toNat ([],0) (by omega) ⟨rfl,h0,by grind,λr hr=>by cases hr⟩;obtain ⟨rs,i⟩:=s;obtain ⟨a1,a2,a3,a4⟩:=hI;have a1:(rs.length:Int)=i:=a1;have a2:i<=c.Sj:=a2;have a3:i+m=c.Sj:=a3;unfold nF;show ∃r,(if decide (i<c.Sj)=true then _ else _)=some r/\_;by_cases hc:i<c.Sj
 ·rw [d7 (by simpa using hc)];rcases Dh c.SS (zJ.mk 0) with hn|⟨r,hn,hr⟩
  ·exact ⟨.inr (none,2),by rw [hn];rfl,rfl,by decide⟩
  ·rw [hn,zbs];simp only [vB];rw [d8 (by simp)];obtain ⟨u,hu⟩:=cG (m:=rs.length+[r].length) (b:=8) (by grind);rw [hu,zbs,qt (by omega) (by omega)];refine ha (m-1) _ (by omega) ⟨?_,?_,?_,λx hx=> ?_⟩
   ·grind
   ·grind
   ·grind
   grind
 ·rw [d8 (by simpa using hc)]
  grind
end Go.Proofs.YtplmgfkghomelaaGreatDoor.KH
namespace Go.Proofs.YtplmgfkghomelaaGreatDoor
open Go.Sx
structure EM where
 Sz:qv
 module:zC
 SY:zl
 regs:Nat->Int
 LE:Nat->Int
 SB:Int
 steps:Int
 state:Int
def wU(fu:Nat)(p0:EM)(p1:Int):Option (qZ×EM):=
 (lY p1).bind λr29=>
 if r29.2 then
  (idx p0.module.Maps (p0.regs 1)).bind λx49=>
  (xT fu p1).bind λr64=>
  (if decide (((r64).length:Int)>2) then
   some (p0.regs 3)
  else
   some 0).bind λo78=>
  some ((qZ.mk 2 p0.SB (zg.mk x49 r29.1 (p0.regs 2) o78) 0),{p0 with state:=1})
 else
  (if (p1==5) then
   (jY p0.SY.SF (w64 (p0.regs 1))).bind λr133=>
   some ({p0 with SY:=(zl.mk p0.SY.Tb r133.2.2),regs:=(aset p0.regs 0 r133.1)},(qZ.mk 1 p0.SB (zg.mk 0 0 0 0) r133.1))
  else
   some ({p0 with regs:=(aset p0.regs 0 0)},(qZ.mk 3 p0.SB (zg.mk 0 0 0 0) (p0.regs 1)))).bind λo121=>
  some (o121.2,(EM.mk o121.1.Sz o121.1.module o121.1.SY o121.1.regs o121.1.LE (w64 (o121.1.SB+1)) o121.1.steps o121.1.state))
def gW(p0:EM)(p1:zf):Option Int:=
 if (p1.B==8) then
  some (xS p1.SU)
 else
  (ain 8 p1.B).bind λi12=>
  some (p0.regs i12)
def BI(p0:EM)(p1:zf):Option (Int×EM):=
 if (p1.Op==0) then
  (gW p0 p1).bind λr31=>
  (ain 8 p1.D).bind λi35=>
  some (1,{p0 with regs:=(aset p0.regs i35 r31)})
 else
  if (p1.Op==11) then
   (gW p0 p1).bind λr68=>
   (xH p0.SY.Tb (w64 r68)).bind λr72=>
   (ain 8 p1.D).bind λi76=>
   some (1,{p0 with regs:=(aset p0.regs i76 r72.1)})
  else
   if (p1.Op==12) then
    (ain 8 p1.A).bind λi108=>
    (gW p0 p1).bind λr110=>
    (xr p0.SY.Tb (w64 r110) (p0.regs i108)).bind λr114=>
    some (1,{p0 with SY:=(zl.mk r114.2 p0.SY.SF)})
   else
    if (p1.Op==13) then
     (ain 8 p1.D).bind λi140=>
     if (p1.SU==1) then
      some (1,{p0 with regs:=(aset (aset p0.regs i140 p0.Sz.A) i140 p0.Sz.B)})
     else
      some (1,{p0 with regs:=(aset p0.regs i140 p0.Sz.A)})
    else
     if (p1.Op==14) then
      (ain 8 p1.D).bind λi173=>
      some (1,{p0 with regs:=(aset p0.regs i173 (xS p1.SU))})
     else
      if (p1.Op==15) then
       some (w64 (p1.D+1),p0)
      else
       if (p1.Op==20) then
        ((ain 8 p1.A).bind λi210=>
        if ((p0.regs i210) !=0) then
         (ain 64 p0.SB).bind λi213=>
         some (decide ((p0.LE i213)<p1.SU))
        else
         some false).bind λo206=>
        if o206 then
         (ain 64 p0.SB).bind λi238=>
         some (w64 (0-p1.D),{p0 with LE:=(aset p0.LE i238 (w64 ((p0.LE i238)+1)))})
        else
         (ain 64 p0.SB).bind λi262=>
         some (1,{p0 with LE:=(aset p0.LE i262 0)})
       else
        (ain 8 p1.A).bind λi293=>
        (gW p0 p1).bind λr295=>
        (ga p1.Op (p0.regs i293) r295).bind λr299=>
        if r299.2 then
         (ain 8 p1.D).bind λi311=>
         some (1,{p0 with regs:=(aset p0.regs i311 r299.1)})
        else
         (gW p0 p1).bind λr327=>
         (aU p1.Op (p0.regs i293) r327).bind λr331=>
         if r331.1 then
          some (w64 (p1.D+1),p0)
         else
          some (1,p0)
def ti(fu:Nat)(p0:EM):Option (qZ×EM):=
 if (p0.state==1) then
  some ((qZ.mk 5 p0.SB (zg.mk 0 0 0 0) 0),p0)
 else
  if (p0.state==2) then
   (idx p0.module.Code p0.SB).bind λx37=>
   (ain 8 x37.A).bind λi43=>
   some ((qZ.mk 6 p0.SB (zg.mk 0 0 0 0) (p0.regs i43)),p0)
  else
   (idx p0.module.Code p0.SB).bind λx62=>
   if (x62.Op==21) then
    (wU fu {p0 with steps:=(w64 (p0.steps+1))} x62.SU).bind λr80=>
    some (r80.1,r80.2)
   else
    if (x62.Op==22) then
     (ain 8 x62.A).bind λi96=>
     some ((qZ.mk 4 p0.SB (zg.mk 0 0 0 0) (p0.regs i96)),{p0 with steps:=(w64 (p0.steps+1)),state:=2})
    else
     (BI {p0 with steps:=(w64 (p0.steps+1))} x62).bind λr132=>
     some ((qZ.mk 1 p0.SB (zg.mk 0 0 0 0) 0),(EM.mk r132.2.Sz r132.2.module r132.2.SY r132.2.regs r132.2.LE (w64 (p0.SB+r132.1)) r132.2.steps r132.2.state))
def ml(p0:EM)(p1:zk):Option (Int×EM):=
 if (p0.state !=1) then
  some (2,p0)
 else
  (idx p0.module.Code p0.SB).bind λx36=>
  (gw x36.SU p1).bind λr42=>
  some (0,{p0 with regs:=(aset p0.regs 0 r42),SB:=(w64 (p0.SB+1)),state:=0})
def pk(M:zp)(S:zl):EM:={M with SY:=S}
theorem Br.ite{α β:Type}{f:α->β}{c:Bool}{A B:Option β}{A' B':Option α}(h1:A=A'.map f)(h2:B=B'.map f):(if c then A else B)=(if c then A' else B').map f:=by
 grind
theorem Br.bind{α β γ:Type}{f:α->β}{o:Option γ}{A:γ->Option β}{A':γ->Option α}(h:∀x,A x=(A' x).map f):o.bind A=(o.bind A').map f:=by
 cases o with
 |none=>rfl
 |some x=>exact h x
theorem k9:type_of% @Br.bind:=Br.bind
theorem Br.bind2{α β γ δ:Type}{f:α->β}{g:γ->δ}{o:Option δ}{o':Option γ}{A:δ->Option β}{A':γ->Option α}(ho:o=o'.map g)(h:∀x,A (g x)=(A' x).map f):o.bind A=(o'.bind A').map f:=by
 subst ho;cases o' with
 |none=>rfl
 |some x=>exact h x
def pk2{α:Type}(r:α×zp×zl):α×EM:=(r.1,pk r.2.1 r.2.2)
theorem PQ(M:zp)(S:zl)(i:zf):BI (pk M S) i=(jy M i S).map pk2:=by
 unfold BI jy;refine Br.ite (k9 λ_=>k9 λ_=>rfl) ?_;refine Br.ite (k9 λ_=>k9 λ_=>k9 λ_=>rfl) ?_;refine Br.ite (k9 λ_=>k9 λ_=>k9 λ_=>rfl) ?_;refine Br.ite (k9 λ_=>Br.ite rfl rfl) ?_;refine Br.ite (k9 λ_=>rfl) ?_;refine Br.ite rfl ?_;refine Br.ite (k9 λ_=>Br.ite (k9 λ_=>rfl) (k9 λ_=>rfl)) ?_;exact k9 λ_=>k9 λ_=>k9 λ_=>Br.ite (k9 λ_=>rfl) (k9 λ_=>k9 λ_=>Br.ite rfl rfl)
theorem ND(fu:Nat)(M:zp)(S:zl)(k:Int):wU fu (pk M S) k=(jW fu M k S).map pk2:=by
 unfold wU jW;refine k9 λ_=>Br.ite (k9 λ_=>k9 λ_=>k9 λ_=>rfl) ?_
 exact Br.bind2 (g:=λo:zp×zl×qZ=>(pk o.1 o.2.1,o.2.2)) (Br.ite (k9 λ_=>rfl) rfl) (λ_=>rfl)
theorem NE(fu:Nat)(M:zp)(S:zl):ti fu (pk M S)=(qN fu M S).map pk2:=by
 unfold ti qN;refine Br.ite rfl (Br.ite (k9 λ_=>k9 λ_=>rfl) (k9 λ_=>Br.ite ?_ (Br.ite (k9 λ_=>rfl) ?_)))
 ·exact Br.bind2 (g:=pk2) (ND fu {M with steps:=w64 (M.steps+1)} S _) (λ_=>rfl)
 ·exact Br.bind2 (g:=pk2) (PQ {M with steps:=w64 (M.steps+1)} S _) (λ_=>rfl)
theorem Ip(M:zp)(S:zl)(r:zk):ml (pk M S) r=(jF M r S).map (λx=>(x.1,pk x.2 S)):=by
 unfold ml jF;exact Br.ite rfl (k9 λ_=>k9 λ_=>rfl)
end Go.Proofs.YtplmgfkghomelaaGreatDoor
