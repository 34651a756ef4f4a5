/- Lemmas. -/
import Derived.Test.YtplmgfkghomelaaGreatDoorF1
set_option linter.all false
namespace Go.Proofs.YtplmgfkghomelaaGreatDoor.KH
open Go.Sx
variable {l h:List zt}{i n y C:Nat}{x c m z B:Int}{a:qA}{o:List Int}{v:Option Int}{r:zp}{d:zn}{g:List Bool}{q:zY}{b:List zY}{e:ql}{f:zt}{A:qp}{found:Bool}{D:qn}{E:zc}
theorem nB{b c:Type}{body:Nat->(b->Option c)->b->Option c}{out:b->c}(I:Nat->b->Prop)(Q:c->Prop){N:Nat}
  (h:∀i s (a:b->Option c),i<N->I i s->(∀d,I (i+1) d->∃r,a d=some r/\Q r)->∃r,body i a s=some r/\Q r) (g:∀s,I N s->Q (out s)):
  ∀(n i:Nat)(s:b),i+n=N->I i s->∃r,jM body out n i s=some r/\Q r
 |0,i,s,e,f=>⟨_,rfl,g s (by rw [<- e];exact f)⟩
 |n+1,i,s,e,f=>h i s _ (by omega) f λd j=>nB I Q h g n (i+1) d (by omega) j
theorem og{a:Type}{x:List a}(h:i<x.length):Go.Sx.idx x (i:Int)=some x[i]:=by
 unfold Go.Sx.idx
 grind
theorem pA{a:Type}{xs:List a}{t:Int}(b:0<=t)(c:t<xs.length):∃x,Go.Sx.idx xs t=some x/\xs[t.toNat]? =some x:=by
 have h:t.toNat<xs.length:=by omega
 refine ⟨xs[t.toNat],?_,zeg h⟩;unfold Go.Sx.idx
 grind
theorem cX{m b:Nat}(h:m*b<=140737488355328):∃u,room m b=some u:=by
 unfold room;rw [d7 h];exact ⟨_,rfl⟩
def kin(k:zn)(m:Int)(n:Nat):List Int:=((List.range n).filter (λi:Nat=>decide ((k.SU[i]?).map (λt:ql=>t.SY)=some m))).map (λi:Nat=>(i:Int))
theorem DR{k:zn}:(kin k m n).length<=n:=by
 grind [kin]
theorem Iz{k:zn}(h:x∈kin k m n):∃(i:Nat)(t:ql),x=i/\i<n/\k.SU[i]? =some t/\t.SY=m:=by
 grind [kin]
theorem wI(j:d.SU.length<=64):ef d m=some (kin d m d.SU.length):=by
 obtain ⟨r,k,rfl⟩:=nB (body:=gX d m) (out:=λs=>s) (N:=d.SU.length) (λi s=>s=kin d m i) (λr=>r=kin d m d.SU.length) (λi s a c f l=>by
  subst f;unfold gX;rw [og c];simp only [zbs]
  have e:kin d m (i+1)=kin d m i++(if d.SU[i].SY=m then [(i:Int)] else []):=by
   unfold kin;rw [List.range_succ,z6,o7]
   grind
  by_cases g:d.SU[i].SY=m
  ·rw [d7 (by simpa using g)]
   obtain ⟨u,n⟩:=cX (m:=(kin d m i).length+[(i:Int)].length) (b:=8) (by
    grind [DR])
   grind
  grind) (λs h=>h) d.SU.length 0 [] (by omega) rfl
 grind [ef]
def Laid(a b:zn)(g:List Bool)(n:Nat):Prop:=b.LT=a.LT/\b.SU.length=a.SU.length/\∀(i:Nat)(t:ql),a.SU[i]? =some t->
 ∃u,b.SU[i]? =some u/\u.Uk=t.Uk/\u.SY=if i<n then (if t.SY=2 then 2 else if g[i]? =some true then 1 else 0) else t.SY
theorem DS{k:zn}(hl:g.length=k.SU.length):∃b,eG k g=some (0,b)/\Laid k b g g.length:=by
 obtain ⟨b,B,f⟩:=nB (body:=gh g) (out:=λs=>s) (N:=g.length) (λi s=>Laid k s g i) (λr=>Laid k r g g.length) (λi s c l n o=>by
  obtain ⟨e,p,q⟩:=n;have a:i<s.SU.length:=by omega
  unfold gh;rw [og l,zbs,og a,zbs];have v:i<k.SU.length:=by omega
  have w:=q i _ (zeg v);obtain ⟨u,d,up,x⟩:=w;rw [zeg a] at d;obtain rfl:=j6 d;rw [d8 (by omega)] at x
  have step:∀m:Int,(m=if k.SU[i].SY=2 then 2 else if g[i]? =some true then 1 else 0)->Laid k (zn.mk (s.SU.set (Int.toNat (i:Int)) (ql.mk m s.SU[i].Uk)) s.LT) g (i+1):=by
   intro m y;refine ⟨e,by grind,λj t z=> ?_⟩
   grind
  by_cases A:s.SU[i].SY=2
  ·rw [d7 (by simpa using A)];refine o _ ⟨e,p,λj t z=> ?_⟩
   grind
  grind) (λs h=>h) g.length 0 k (by omega) ⟨rfl,rfl,λi t h=>⟨t,h,rfl,by grind⟩⟩
 refine ⟨b,?_,f⟩;unfold eG
 grind
def kU(r:zp):Prop:=1<=r.room/\r.room<=16/\(r.waiting.length:Int)<=r.room
theorem DT(n:Int)(g:zM):(lD n g=some (none,2))\/∃r,lD n g=some (some r,0)/\kU r/\r.waiting=[]/\r.Uf=false/\r.room=n/\r.counts=⟨0,0,0,0,0⟩:=by
 unfold lD;split
 ·exact .inl rfl
 ·rename_i h
  simp only [Bool.or_false,s9,zdq,not_or] at h;refine .inr ⟨_,rfl,⟨by grind,by show n<=16;omega,by grind⟩,rfl,rfl,rfl,rfl⟩
theorem kh(h:kU r)(c:qr)(g:zM):∃n e a j,xj r c g=some (n,e,a,j)/\kU a/\a.Uf=r.Uf/\((e=0/\r.Uf=false/\a.waiting=r.waiting++[zY.mk n c])\/(e≠0/\a.waiting=r.waiting)):=by
 obtain ⟨d,f,i⟩:=h;unfold xj;split
 ·exact ⟨_,_,_,_,rfl,⟨d,f,i⟩,rfl,.inr ⟨by decide,rfl⟩⟩
 ·split
  ·exact ⟨_,_,_,_,rfl,⟨d,f,i⟩,rfl,.inr ⟨by decide,rfl⟩⟩
  ·rename_i k l
   have o:(r.waiting.length:Int)≠r.room:=by simpa using l
   obtain ⟨u,p⟩:=cX (m:=r.waiting.length+1) (b:=24) (by omega);unfold aJ;simp only [zbs];rw [show ([(zY.mk (w64 (g.last+1)) c)]).length=1 from rfl,p];refine ⟨_,_,_,_,rfl,⟨d,f,?_⟩,rfl,.inl ⟨rfl,by simpa using k,rfl⟩⟩
   grind
theorem oh(r:zp):∃c,bu r=some c/\c.Uc=(r.waiting.length:Int):=⟨_,rfl,rfl⟩
theorem mM(h:kU r)(g:zM)(c:r.waiting=q::b):∃a,vf r g=some (q,true,a)/\kU a/\a.waiting=b/\a.Uf=r.Uf:=by
 obtain ⟨d,e,j⟩:=h;unfold vf;rw [c];rw [d8 (by simp;omega)];have f:Go.Sx.idx (q::b) 0=some q:=rfl
 have i:cut (q::b) 1 ((q::b).length:Int)=some b:=by
  unfold cut;rw [d7 (by simp;omega)];simp
 rw [f,zbs,i,zbs];refine ⟨_,rfl,⟨d,e,?_⟩,rfl,rfl⟩
 grind
open Go.Sx
def K8(a b:zn):Prop:=b.SU.length=a.SU.length/\∀i:Nat,(b.SU[i]?).map (·.SY)=(a.SU[i]?).map (·.SY)
theorem Cd{k:zn}{t:Int}(h:0<=t)(b:t<k.SU.length):∃a,aa k t=some (t,true,a)/\K8 k a/\a.LT=w64 (k.LT+1):=by
 obtain ⟨x,c,d⟩:=pA h b;unfold aa;rw [c,zbs];refine ⟨_,rfl,⟨by grind,λi=> ?_⟩,rfl⟩
 grind
theorem lP(h:d.SU.length<=64):xG d=some (kin d 1 d.SU.length):=by
 grind [xG,wI]
theorem AE(h:d.SU.length<=64):cD d=some (kin d 2 d.SU.length):=by
 grind [cD,wI]
def K9(k:zn)(o:Option (Int×Bool×zn)):Prop:=
 (kin k 1 k.SU.length=[]/\o=some (0,false,k))\/∃x a,x∈kin k 1 k.SU.length/\o=some (x,true,a)/\K8 k a/\a.LT=w64 (k.LT+1)
theorem FD(h:x∈kin d 1 d.SU.length):K9 d ((aa d x).bind λr=>some (r.1,r.2.1,r.2.2)):=by
 obtain ⟨i,t,rfl,e,_⟩:=Iz h;obtain ⟨a,b,c⟩:=Cd (k:=d) (t:=(i:Int)) (by omega) (by omega);exact .inr ⟨_,a,h,by rw [b];rfl,c⟩
theorem su{k:zn}(b:k.SU.length<=64)(c:Int):K9 k (dx k c):=by
 unfold dx;rw [lP b,zbs];by_cases a:kin k 1 k.SU.length=[]
 ·rw [d7 (by rw [a];rfl)];exact .inl ⟨a,rfl⟩
 have hl:0<(kin k 1 k.SU.length).length:=List.length_pos_iff.2 a;have d:=DR (k:=k) (m:=1) (n:=k.SU.length);rw [d8 (by simp;omega)];have e:nz ((kin k 1 k.SU.length).length:Int)=some ():=by grind [nz]
 rw [e,zbs];generalize f:((kin k 1 k.SU.length).length:Int)=n at*
 have h:0<n:=by omega
 have l:=Int.tmod_lt_of_pos c h
 have g: -n<c.tmod n:=by
  have:=Int.lt_tmod_of_pos c h;omega
 obtain ⟨o,i,j,p⟩:∃o,(if decide (c.tmod n<0) then some (w64 (c.tmod n+n)) else some (c.tmod n))=some o/\0<=o/\o<n:=by
  grind [qe]
 rw [i,zbs];obtain ⟨x,q,r⟩:=pA (xs:=kin k 1 k.SU.length) j (by omega)
 grind [FD]
theorem Ce{k:zn}(q:k.SU.length<=64):K9 k (dD k):=by
 unfold dD;rw [lP q,zbs];generalize d:kin k 1 k.SU.length=a
 obtain ⟨r,u,v⟩:=nB (body:=fB k a) (out:=λs=>(s.1,s.2)) (N:=a.length) (λi s=>(i=0/\s.2=false)\/(0<i/\s.2=true/\s.1∈a)) (λr=>(a=[]/\r.2=false)\/(r.2=true/\r.1∈a)) (λi s e p f g=>by
  unfold fB;rw [og p,zbs];have l:a[i]∈a:=yo p
  have look:∀x∈a,∃t,Go.Sx.idx k.SU x=some t:=by
   intro x w;obtain ⟨j,t,rfl,y,B,_⟩:=Iz (k:=k) (m:=1) (n:=k.SU.length) (by rw [d];exact w)
   exact ⟨_,og y⟩
  rcases f with ⟨rfl,h⟩|⟨C,h,c⟩
  ·rw [h];simp only [Bool.not_false,s7,zbs];exact g _ (.inr ⟨by omega,rfl,l⟩)
  ·rw [h];obtain ⟨D,z⟩:=look _ l;obtain ⟨E,A⟩:=look _ c;simp only [Bool.not_true,zfe,ya,z,A,zbs];split
   ·exact g _ (.inr ⟨by omega,rfl,l⟩)
   ·exact g _ (.inr ⟨by omega,rfl,c⟩)) (λs f=>by
  rcases f with ⟨h,b⟩|⟨_,b,o⟩
  ·exact .inl ⟨SN.1 h,b⟩
  ·exact .inr ⟨b,o⟩) a.length 0 (0,false) (by omega) (.inl ⟨rfl,rfl⟩)
 rw [u,zbs];rcases v with ⟨h,b⟩|⟨b,o⟩
 ·rw [d7 (by rw [b];rfl)];exact .inl ⟨by rw [d];exact h,rfl⟩
 ·rw [d8 (by rw [b];simp)];exact FD (by rw [d];exact o)
theorem oG(h:d.SU[i]? =some e)(c:e.SY≠2):
  aY d [(i:Int)]=some (0,zn.mk (d.SU.set i (ql.mk 2 e.Uk)) d.LT):=by
 have hl:i<d.SU.length:=(zes.1 h).1;have a:Go.Sx.idx [(i:Int)] ((0:Nat):Int)=some (i:Int):=rfl;have b:Go.Sx.idx d.SU (i:Int)=some e:=by rw [og hl];rw [zeg hl] at h;exact h
 unfold aY fF;simp only [u5,y9,jM,kH,kJ,kK,a,b,zbs]
 grind
open Go.Sx
theorem Qj(x:Int):xZ x=x%18446744073709551616:=by
 show IntKind.u64.wrap x=_;simp [IntKind.wrap,IntKind.bits,IntKind.signed]
theorem R6(h:0<=x)(a:x<=1000):w64 (iU .u64 (xZ (w64 x)) 1)=x / 2:=by
 rw [qe (x:=x) (by omega) (by omega),Qj,Int.emod_eq_of_lt h (by omega)]
 have e:iU .u64 x 1=x / 2:=by
  show x.fdiv (2^(min (Int.toNat 1) IntKind.u64.bits))=_;rw [Int.fdiv_eq_ediv_of_nonneg _ (by grind)];rfl
 grind [qe]
def pv:List zt->Int->Option Int
 |[],_=>none
 |p::l,k=>if p.TQ=k then some p.TL else pv l k
def pk(l:List zt):List Int:=l.map (·.TQ)
theorem uo:pv l x=none↔x∉pk l:=by
 induction l with
 |nil=>simp [pv,pk]
 |cons p l i=>
  grind [pv,pk]
theorem Rs(a:(pk l).Nodup)(h:l[i]? =some f):pv l f.TQ=some f.TL:=by
 induction l generalizing i with
 |nil=>simp at h
 |cons q l b=>
  grind [pk,pv]
theorem Ci:pv (l++h) c=(match pv l c with|some x=>some x|none=>pv h c):=by
 induction l with
 |nil=>rfl
 |cons p l i=>
  grind [pv]
theorem IM:pk (l++h)=pk l++pk h:=o7
theorem Ld(h:l[i]? =some f):l=l.take i++f::l.drop (i+1):=by
 obtain ⟨hl,rfl⟩:=zes.1 h
 conv=>lhs;rw [<- yp i l,SK hl]
theorem Qk(a:(pk l).Nodup)(h:l[i]? =some f)(x:Int)(q:Int):pv (l.set i ⟨f.TQ,x⟩) q=if q=f.TQ then some x else pv l q:=by
 induction l generalizing i with
 |nil=>simp at h
 |cons r l b=>
  obtain ⟨n,c⟩:=t9.1 (show (r.TQ::pk l).Nodup from a);cases i with
  |zero=>
   grind [pv]
  |succ i=>
   grind [pk,pv]
theorem MO(h:l[i]? =some f)(x:Int):pk (l.set i ⟨f.TQ,x⟩)=pk l:=by
 unfold pk;rw [yg];apply o5
 grind
theorem Ql(c:(pk l).Nodup)(h:l[i]? =some f)(q:Int):pv (l.take i++l.drop (i+1)) q=if q=f.TQ then none else pv l q:=by
 have e:=Ld h;have a:=c;rw [e,IM] at a;obtain ⟨m,n,d⟩:=l6.1 a;obtain ⟨g,o⟩:=t9.1 (show (f.TQ::pk (l.drop (i+1))).Nodup from n);have b:f.TQ∉pk (l.take i):=λj=>d _ j f.TQ (by simp [pk]) rfl
 by_cases k:q=f.TQ
 ·subst k;rw [d7 rfl,Ci,uo.2 b];exact uo.2 g
 grind [Ci,pv]
theorem MP:(pk (l.take i++l.drop (i+1))).Sublist (pk l):=by
 have h:(l.take i++l.drop (i+1)).Sublist l:=by
  rw [<- List.eraseIdx_eq_take_drop_succ]
  grind
 exact h.map _
def D9(v:Option Int)(n:Nat)(cap op x:Int):zk:=
 if op=0 then ⟨0,v.isSome,v.getD 0,false,0,0⟩
 else if op=1 then ⟨0,v.isSome,0,false,0,0⟩
 else if op=3 then ⟨0,v.isSome,v.getD 0,false,0,0⟩
 else if v=none/\(n:Int)=cap then ⟨40,false,0,false,0,0⟩
 else ⟨0,v.isSome,if op=4 then xZ (v.getD 0+x) else v.getD 0,false,0,0⟩
def MQ(v:Option Int)(n:Nat)(cap op x:Int):Option Int:=
 if op=3 then none
 else if op=2\/op=4 then (if v=none/\(n:Int)=cap then none else some (if op=4 then xZ (v.getD 0+x) else x))
 else v
def MR(v:Option Int)(n:Nat)(cap op:Int):Nat:=
 if op=3 then (if v.isSome then n-1 else n)
 else if (op=2\/op=4)/\v=none/\(n:Int)≠cap then n+1
 else n
structure Q0 (l l':List zt) (cap op k x:Int):Prop where
 Vw:∀q,pv l' q=if q=k then MQ (pv l k) l.length cap op x else pv l q
 len:l'.length=MR (pv l k) l.length cap op
 nd:(pk l').Nodup
def Srt(l:List zt):Prop:=(pk l).Pairwise (· < ·)
theorem Srt.nd(h:Srt l):(pk l).Nodup:=h.imp (λa=>by omega)
structure Found (l:List zt) (k:Int) (i:Nat):Prop where
 le:i<=l.length
 low:∀p∈l.take i,p.TQ<k
 high:∀p∈l.drop i,k<=p.TQ
theorem Ea{l:List zt}(h:Srt l){p:zt}(a:i<n)(b:l[i]? =some p)(c:l[n]? =some f):p.TQ<f.TQ:=by
 obtain ⟨d,rfl⟩:=zes.1 b;obtain ⟨e,rfl⟩:=zes.1 c;have:=List.pairwise_iff_getElem.1 h i n (by grind [pk]) (by grind [pk]) a
 grind [pk]
theorem Eb(J:17<y)(B:Srt l)(hl:l.length<=16)(k:Int):
  OK (zO y l k) (λr=>∃i:Nat,r.1=(i:Int)/\Found l k i/\r.2=(pv l k).isSome/\(r.2=true->∃p,l[i]? =some p/\p.TQ=k)):=by
 unfold zO
 refine d6 (R:=λi=>∃n:Nat,i=(n:Int)/\Found l k n)
  (OK.rounds (λs=>∃a b:Nat,s.1=(a:Int)/\s.2=(b:Int)/\a<=b/\b<=l.length/\(∀p∈l.take a,p.TQ<k)/\∀p∈l.drop b,k<=p.TQ) (λs=>s.2.toNat-s.1.toNat) ?_ y _ ⟨0,l.length,rfl,rfl,by omega,by omega,by simp,by simp⟩ (by simp;omega)) ?_
 ·rintro ⟨S,T⟩ C ⟨a,b,G,m,K,o,t,u⟩ I;simp only at G m;subst G;subst m;unfold qH;refine d5 (λh=> ?_) (λh=> ?_)
  ·have h:(a:Int)<b:=by simpa using h
   simp only;rw [R6 (x:=(a:Int)+b) (by omega) (by omega)];have em:((a:Int)+b) / 2=(((a+b) / 2:Nat):Int):=by omega
   rw [em];have L:a<=(a+b) / 2:=by omega
   have M:(a+b) / 2<b:=by omega
   refine g9 (j4 (by omega) (λp g=> ?_));unfold vM;by_cases c:p.TQ<k
   ·simp only [c,decide_true,s7,zbs];refine o8 (by decide) ?_;rw [qe (by omega) (by omega)];refine I _ ⟨(a+b) / 2+1,b,by simp,rfl,by omega,o,λq d=> ?_,u⟩ (by simp;omega);rw [yc,g] at d;rcases g8.1 d with d|d
    ·obtain ⟨j,v,rfl⟩:=w7.1 d;have f:j<(a+b) / 2:=by simp at v;omega
     have:=Ea B f (p:=l[j]'(by omega)) (zeg (by omega)) g
     grind
    grind
   ·simp only [c,decide_false,zfe,ya];refine d6 (R:=λz=>¬ z<0) ?_ (λz N=> ?_)
    ·refine d5 (λ_=>b9 (by decide)) (λ_=>b9 (by decide))
    ·refine j8 (by simpa using N) ?_;refine I _ ⟨a,(a+b) / 2,rfl,rfl,by omega,by omega,t,λq d=> ?_⟩ (by simp;omega);obtain ⟨j,v,rfl⟩:=w7.1 d;rw [List.getElem_drop];have f:(a+b) / 2+j<l.length:=by simp at v;omega
     cases j with
     |zero=>
      grind
     |succ j=>
      have:=Ea B (show (a+b) / 2<(a+b) / 2+(j+1) by omega) g (zeg f);omega
  ·have h:¬ (a:Int)<b:=by simpa using h
   have:a=b:=by omega
   subst this;exact b9 ⟨a,rfl,o,t,u⟩
 ·rintro i ⟨n,rfl,D⟩
  have w:k∉pk (l.take n):=λE=>by
   obtain ⟨p,g,e⟩:=x8.1 E;have:=D.low p g;omega
  have A:pv l k=pv (l.drop n) k:=by
   conv=>lhs;rw [<- yp n l,Ci,uo.2 w]
  refine d6 (R:=λb=>b=(pv l k).isSome/\(b=true->∃p,l[n]? =some p/\p.TQ=k)) ?_ (λb o=>b9 ⟨n,rfl,D,o.1,o.2⟩);refine d5 (λc=> ?_) (λc=> ?_)
  ·have c:(n:Int)<l.length:=by simpa using c
   refine g9 (j4 (by omega) (λp g=> ?_))
   have O:l.drop n=p::l.drop (n+1):=by
    obtain ⟨F,rfl⟩:=zes.1 g;exact SK F
   have U:k<=p.TQ:=D.high p (by grind);unfold vM;by_cases e:p.TQ=k
   ·grind [b9,pv]
   ·have P:¬ p.TQ<k:=by omega
    have Q:p.TQ>k:=by omega
    simp only [P,Q,decide_false,decide_true,zfe,ya,s7,zbs];refine b9 ⟨?_,λh=>by simp at h⟩;rw [A]
    have:k∉pk (l.drop n):=λE=>by
     obtain ⟨q,d,m⟩:=x8.1 E;rw [O] at d;rcases j9.1 d with rfl|d
     ·exact e m
     ·obtain ⟨j,v,rfl⟩:=w7.1 d;rw [List.getElem_drop] at m;have f:n+1+j<l.length:=by simp at v;omega
      have:=Ea B (show n<n+1+j by omega) g (zeg f);omega
    rw [uo.2 this];rfl
  ·have c:¬ (n:Int)<l.length:=by simpa using c
   refine b9 ⟨?_,λh=>by cases h⟩;rw [A,yi (by omega)];rfl
theorem N6(f:Srt l)(g:Found l c i)(k:c∉pk l)(x:Int):Srt (l.take i++[⟨c,x⟩]++l.drop i):=by
 unfold Srt;rw [IM,IM];have m:(pk (l.take i)).Pairwise (· < ·):=List.Pairwise.sublist (List.Sublist.map _ (List.take_sublist _ _)) f;have n:(pk (l.drop i)).Pairwise (· < ·):=List.Pairwise.sublist (List.Sublist.map _ (List.drop_sublist _ _)) f
 have j:∀a∈pk (l.take i),a<c:=λa b=>by
  obtain ⟨p,h,rfl⟩:=x8.1 b;exact g.low p h
 have d:∀a∈pk (l.drop i),c<a:=λa b=>by
  obtain ⟨p,h,rfl⟩:=x8.1 b;have:=g.high p h;have:¬ c=p.TQ:=λe=>k (by rw [e];exact List.mem_map_of_mem (List.mem_of_mem_drop h))
  omega
 grind [pk]
structure BB (c:Int) (b:qp):Prop where
 cap:b.cap=c
 c1:1<=c
 VB:c<=16
 len:(b.Ta.length:Int)<=c
 Vs:Srt b.Ta
theorem BB.done(h:BB c A)(a:Srt l)(b:Q0 A.Ta l c m z x):BB c ⟨A.cap,l⟩:=by
 refine {h with len:= ?_,Vs:=a};have:=b.len;have:=h.len
 grind [MR]
theorem AJ{fu:Nat}(g:17<fu)(h:BB B A){op:Int}(Y:0<=op)(Z:op<=4)(k x:Int):
  OK (jO fu A op k x) (λo=>o.1=D9 (pv A.Ta k) A.Ta.length B op x/\∃l,o.2=⟨A.cap,l⟩/\Srt l/\Q0 A.Ta l B op k x):=by
 have hl:A.Ta.length<=16:=by have:=h.len;have:=h.VB;omega
 have f:=h.Vs.nd
 have s:∀(j:op=0\/op=1\/(op=3/\pv A.Ta k=none)\/((op=2\/op=4)/\pv A.Ta k=none/\(A.Ta.length:Int)=B)),Q0 A.Ta A.Ta B op k x:=by
  intro j;refine ⟨λq=> ?_,?_,f⟩
  ·grind [MQ]
  grind [MR]
 unfold jO;refine j8 (by simp;omega) ?_;unfold fH;refine d6 (R:=λr=>∃i:Nat,r.1=(i:Int)/\Found A.Ta k i/\r.2=(pv A.Ta k).isSome/\(r.2=true->∃p,A.Ta[i]? =some p/\p.TQ=k)) (d6 (Eb g h.Vs hl k) (λr K=>b9 K)) ?_;rintro ⟨r1,r2⟩ ⟨i,w,C,D,n⟩;simp only at w D n |-;subst w;subst D;have E:∀p,A.Ta[i]? =some p->p.TQ=k->pv A.Ta k=some p.TL:=λp F e=>by grind [Rs]
 refine d6 (R:=λo=>o=⟨0,(pv A.Ta k).isSome,if op=1 then 0 else (pv A.Ta k).getD 0,false,0,0⟩) ?_ (λo t=> ?_)
 ·refine d5 (λc=> ?_) (λc=> ?_)
  ·grind [g9,j4,b9]
  ·refine b9 ?_;by_cases e:op=1
   ·simp [e]
   ·have:(pv A.Ta k).isSome=false:=by
     grind
    have b:pv A.Ta k=none:=by simpa using this
    simp [b]
 subst t;refine d5 (λe=> ?_) (λL=> ?_)
 ·have e:op=3:=by simpa using e
  subst e;refine d5 (λc=> ?_) (λc=> ?_)
  ·obtain ⟨p,a,G⟩:=n c;have M:=(zes.1 a).1;unfold qi ML;rw [qe (by omega) (by omega),d7 ⟨by omega,by omega,by omega⟩];have N:((i:Int)+1).toNat=i+1:=by omega
   simp only [zbs,l8,N];refine b9 ⟨by simp [D9],_,rfl,?_,λq=> ?_,?_,f.sublist MP⟩
   ·exact List.Pairwise.sublist MP h.Vs
   ·grind [Ql,MQ]
   grind [MR]
  ·have b:pv A.Ta k=none:=by simpa using c
   refine b9 ⟨by simp [D9],_,rfl,h.Vs,s (.inr (.inr (.inl ⟨rfl,b⟩)))⟩
 have n3:¬ op=3:=by simpa using L
 refine d6 (R:=λA=>A=decide (op=2\/op=4)) ?_ (λz O=> ?_)
 ·refine d5 (λe=>b9 ?_) (λe=>b9 ?_)
  ·grind
  grind
 subst O;refine d5 (λe=> ?_) (λe=> ?_)
 ·have e:op=2\/op=4:=by simpa using e
  have n0:¬ op=0:=by omega
  have n1:¬ op=1:=by omega
  refine d5 (λc=> ?_) (λc=> ?_)
  ·have b:pv A.Ta k=none:=by simp at c;exact c.1
   have d:(A.Ta.length:Int)=B:=by simp at c;have:=h.cap;omega
   refine b9 ⟨?_,_,rfl,h.Vs,s (.inr (.inr (.inr ⟨e,b,d⟩)))⟩
   grind [D9]
  ·have P:¬ (pv A.Ta k=none/\(A.Ta.length:Int)=B):=by
    rintro ⟨a1,a2⟩;have:=h.cap
    grind
   have u:MQ (pv A.Ta k) A.Ta.length B op x=some (if op=4 then xZ ((pv A.Ta k).getD 0+x) else x):=by
    grind [MQ]
   refine d6 (R:=λ(m:qp)=>m.cap=A.cap/\m.Ta.length=(if pv A.Ta k=none then A.Ta.length+1 else A.Ta.length)/\Srt m.Ta/\(∃p,m.Ta[i]? =some p/\p.TQ=k)/\∀q,q≠k->pv m.Ta q=pv A.Ta q) ?_ (λm Q=> ?_)
   ·refine d5 (λv=> ?_) (λv=> ?_)
    ·have b:pv A.Ta k=none:=by simpa using v
     have S:=C.le;unfold qj Pm;rw [d7 ⟨by omega,by omega,by simp;omega⟩];simp only [zbs,l8];refine b9 ⟨rfl,?_,N6 h.Vs C (uo.1 b) 0,⟨⟨k,0⟩,?_,rfl⟩,λq F=> ?_⟩
     ·grind
     ·grind
     ·have T:¬ k=q:=λz=>F z.symm
      conv=>rhs;rw [<- yp i A.Ta,Ci]
      grind [Ci,pv]
    ·have U:(pv A.Ta k).isSome=true:=by simpa using v
     have b:¬ pv A.Ta k=none:=λe=>by grind
     exact b9 ⟨rfl,by rw [d8 b],h.Vs,n U,λq _=>rfl⟩
   obtain ⟨V,m2,I,⟨p,a,G⟩,m5⟩:=Q;refine d6 (R:=λo=>o=((if op=4 then xZ ((pv A.Ta k).getD 0+x) else x),D9 (pv A.Ta k) A.Ta.length B op x)) ?_ (λo t=> ?_)
   ·refine d5 (λW=>b9 ?_) (λW=>b9 ?_)
    ·grind [D9]
    grind [D9]
   subst t;refine g9 (j4 (zes.1 a).1 (λy J=>b9 ?_));rw [a] at J;cases J;refine ⟨rfl,_,by rw [V],?_,λq=> ?_,?_,?_⟩
   ·grind [Srt,pk,MO]
   ·rw [u];subst G;rw [show Int.toNat (i:Int)=i from rfl,Qk I.nd a]
    grind
   ·grind [MR,pv]
   ·rw [show pk (m.Ta.set (Int.toNat (i:Int)) ⟨p.TQ,_⟩)=pk m.Ta from MO a _];exact I.nd
 ·have e:¬ (op=2\/op=4):=by simpa using e
  have X:op=0\/op=1:=by omega
  refine b9 ⟨?_,_,rfl,h.Vs,s (by grind)⟩
  grind [D9]
theorem gj(h:o[i]? =some x):(o.take (i+1)).filter (· !=c)=(o.take i).filter (· !=c)++if x !=c then [x] else []:=by
 rw [yc,h,z6]
 grind
theorem Ec(l:List Int)(k:Int)(hl:l.length<=100):OK (qU l k) (λi=>(i= -1/\k∉l)\/∃n:Nat,i=(n:Int)/\l[n]? =some k/\k∉l.take n):=by
 unfold qU;refine d6 (R:=λo=>match o with|.inl _=>k∉l|.inr i=>∃n:Nat,i=(n:Int)/\l[n]? =some k/\k∉l.take n) (i7 (λi _=>k∉l.take i) (by simp) ?_ ?_) ?_
 ·intro i s a c h d;unfold xX bE;refine g9 (j4 c (λy e=> ?_));simp only [zbs];refine d5 (λb=>b9 ?_) (λb=>d _ ?_)
  ·grind
  ·have f:¬ y=k:=by simpa using b
   rw [yc,e]
   grind
 ·grind
 grind [b9]
theorem dF(h:c∉o):o.filter (· !=c)=o:=by
 refine List.filter_eq_self.2 (λx a=> ?_)
 grind
theorem uq(v:101<C)(l:List Int)(k:Int)(hl:l.length<=100):qN C l k=some (l.filter (· !=k)):=by
 refine OK.is ?_;unfold qN;refine d6 (Ec l k hl) (λi w=> ?_);refine d5 (λc=> ?_) (λc=> ?_)
 ·grind [b9,dF]
 ·rcases w with ⟨rfl,q⟩|⟨n,rfl,r,q⟩
  ·simp at c
  have x:=(zes.1 r).1
  refine d6 (R:=λs=>∃m:Nat,s.2=(m:Int)/\m<=l.length/\s.1.length=l.length/\s.1.take m=l.filter (· !=k))
   (OK.rounds (λs=>∃a b:Nat,s.2.1=(a:Int)/\s.2.2=(b:Int)/\a<b/\b<=l.length/\s.1.length=l.length/\s.1.take a=(l.take b).filter (· !=k)/\s.1.drop b=l.drop b) (λs=>l.length-s.2.2.toNat) ?_ C _ ?_ ?_) ?_
  ·rintro ⟨s,B,D⟩ p ⟨a,b,g,t,A,E,d,f,o⟩ u;simp only at g t d f o;subst g;subst t;unfold xN bE;simp only;refine d5 (λh=> ?_) (λh=> ?_)
   ·have h:(b:Int)<s.length:=by simpa using h
    refine g9 (j4 (by omega) (λy F=> ?_))
    have j:l[b]? =some y:=by
     have:=congrArg (λz=>z[0]?) o
     grind
    simp only [zbs];refine d5 (λe=> ?_) (λe=> ?_)
    ·have e:¬ y=k:=by simpa using e
     refine g9 (j4 (by omega) (λz G=> ?_));rw [qe (by omega) (by omega),qe (by omega) (by omega)];refine u _ ⟨a+1,b+1,by simp,by simp,by omega,by omega,by simp [d],?_,?_⟩ (by simp;omega)
     ·rw [gj j,d7 (by simpa using e),<- f];show (s.set a y).take (a+1)=_;rw [yc,yr (by omega),List.take_set_of_le (by omega)];rfl
     ·show (s.set a y).drop (b+1)=_;rw [List.drop_set_of_lt (by omega)];have:=congrArg (List.drop 1) o;rw [yu,yu] at this
      grind
    ·have e:y=k:=by simpa using e
     rw [qe (by omega) (by omega)];refine u _ ⟨a,b+1,rfl,by simp,by omega,by omega,d,?_,?_⟩ (by simp;omega)
     ·rw [gj j,d8 (by simpa using e),j7,<- f]
     ·have:=congrArg (List.drop 1) o;rw [yu,yu] at this
      grind
   grind [b9]
  ·refine ⟨n,n+1,rfl,by grind [qe],by omega,by omega,rfl,?_,rfl⟩;rw [gj r];simp [dF q]
  ·grind
  ·rintro ⟨s,z⟩ ⟨m,g,I,d,f⟩;simp only at g d f |-;subst g;rw [ag rfl (by omega)];simp only [zbs];rw [oE rfl (by simp;omega)];simp only [zbs,l8];refine b9 ?_;rw [<- f,Su (by simp;omega),SC,Nat.min_self]
open Go.Sx
structure LB (c:Int) (a:qA):Prop where
 bb:BB c a.Uh
 nd:a.Un.Nodup
 mem:∀k,k∈a.Un↔(pv a.Uh.Ta k).isSome=true
 len:a.Un.length=a.Uh.Ta.length
theorem pG(b:o.Nodup)(h:x∈o):(o.filter (· !=x)).length+1=o.length:=by
 induction o with
 |nil=>cases h
 |cons a o i=>
  grind [dF]
theorem MS:c∈o.filter (· !=x)↔c∈o/\c≠x:=by grind
theorem LB.out(h:LB c ⟨A,o⟩)(d:BB c ⟨A.cap,l⟩)(f:∀q,pv l q=if q=x then none else pv A.Ta q)(hl:l.length=if (pv A.Ta x).isSome then A.Ta.length-1 else A.Ta.length):LB c ⟨⟨A.cap,l⟩,o.filter (· !=x)⟩:=by
 refine ⟨d,h.nd.filter _,λq=> ?_,?_⟩
 ·show q∈o.filter (· !=x)↔(pv l q).isSome=true;rw [MS,f q];have b:q∈o↔(pv A.Ta q).isSome=true:=h.mem q
  grind
 ·show (o.filter (· !=x)).length=l.length;have b:x∈o↔(pv A.Ta x).isSome=true:=h.mem x;have a:o.length=A.Ta.length:=h.len;by_cases e:x∈o
  ·have:=pG (show o.Nodup from h.nd) e
   grind
  ·rw [hl,d8 (λz=>e (b.2 z)),dF e];exact a
theorem Ed(h:101<i)(a:qA)(k:Int)(hl:a.Un.length<=100):xI i a k=some ⟨a.Uh,a.Un.filter (· !=k)⟩:=by
 unfold xI;rw [uq h _ _ hl];rfl
theorem Le(h:101<i)(a:qA)(k:Int)(hl:a.Un.length<=100):va i a k=some ⟨a.Uh,k::a.Un.filter (· !=k)⟩:=by
 unfold va;rw [Ed h a k hl,zbs];have b:(a.Un.filter (· !=k)).length<=100:=p9 (List.length_filter_le _ _) hl
 grind [jE,Pm]
theorem LB.le(h:LB c a):a.Un.length<=16:=by
 have b:=h.len;have d:=h.bb.len;have e:=h.bb.VB;omega
theorem Lg(e:101<i)(h:LB c a)(k:1<=a.Uh.Ta.length)(p:zk):
  OK (cR i a p) (λr=>LB c r.1/\r.1.Uh.Ta.length+1=a.Uh.Ta.length/\∀q,pv a.Uh.Ta q=none->pv r.1.Uh.Ta q=none):=by
 obtain ⟨b,o⟩:=a;have hl:o.length=b.Ta.length:=h.len;have n:o.length<=16:=h.le;have k:1<=b.Ta.length:=k;unfold cR;show OK ((Go.Sx.idx o (w64 ((o.length:Int)-1))).bind _) _;rw [qe (by omega) (by omega)];obtain ⟨x,s,u⟩:=pA (xs:=o) (t:=(o.length:Int)-1) (by omega) (by omega);rw [s,zbs];have f:x∈o:=zmg u;have v:(pv b.Ta x).isSome=true:=(h.mem x).1 f;obtain ⟨r,w,C,l,g,y,j⟩:=AJ (fu:=i) (by omega) h.bb (op:=3) (by omega) (by omega) x 0;obtain ⟨D,z⟩:=r;have g:z=⟨b.cap,l⟩:=g;subst g;rw [show jO i b 3 x 0=_ from w,zbs];have m:∀q,pv l q=if q=x then none else pv b.Ta q:=j.Vw
 have d:l.length=if (pv b.Ta x).isSome then b.Ta.length-1 else b.Ta.length:=j.len
 have A:=h.out (h.bb.done y j) m d;rw [show xI i ⟨⟨b.cap,l⟩,o⟩ x=some ⟨⟨b.cap,l⟩,o.filter (· !=x)⟩ from Ed e ⟨⟨b.cap,l⟩,o⟩ x (by grind),zbs];refine ⟨_,rfl,A,?_,λq B=> ?_⟩
 ·grind
 ·show pv l q=none;rw [m q];split
  ·rfl
  ·exact B
theorem IP(j:101<i)(h:LB c ⟨A,o⟩)(K:0<=m)(L:m<=4)(G:Srt l)(y:Q0 A.Ta l c m B x)
  (k:¬ ((m=2\/m=4)/\pv A.Ta B=none/\(A.Ta.length:Int)=c)) (M:m=0->found=(pv A.Ta B).isSome) (d:zk):
  OK ((if (m==2) then some (m==2) else if (m==4) then some (m==4) else if (m==0) then some found else some false).bind λn=>
   if n then (va i ⟨⟨A.cap,l⟩,o⟩ B).bind λa=>some (d,a)
   else if (m==3) then (xI i ⟨⟨A.cap,l⟩,o⟩ B).bind λp=>some (d,p) else some (d,(⟨⟨A.cap,l⟩,o⟩:qA))) (λr=>LB c r.2):=by
 have I:o.length<=16:=h.le;have F:o.length=A.Ta.length:=h.len;have C:=h.bb.done G y;have N:∀q,q∈o↔(pv A.Ta q).isSome=true:=h.mem
 have t:(pv l B).isSome=true->(∀q,q≠B->pv l q=pv A.Ta q)->l.length=(if (pv A.Ta B).isSome then A.Ta.length else A.Ta.length+1)->OK ((va i ⟨⟨A.cap,l⟩,o⟩ B).bind λa=>some (d,a)) (λr=>LB c r.2):=by
  intro O u hl;rw [Le j ⟨⟨A.cap,l⟩,o⟩ B (by grind)];refine ⟨_,rfl,C,?_,λq=> ?_,?_⟩
  ·show (B::o.filter (· !=B)).Nodup;exact t9.2 ⟨λz=>(MS.1 z).2 rfl,h.nd.filter _⟩
  ·grind
  ·show (B::o.filter (· !=B)).length=l.length;rw [u5,hl];by_cases e:B∈o
   ·have:=pG (show o.Nodup from h.nd) e
    grind
   grind [dF]
 have s:(∀q,pv l q=pv A.Ta q)->l.length=A.Ta.length->LB c ⟨⟨A.cap,l⟩,o⟩:=λu hl=>⟨C,h.nd,λq=>by grind,by grind⟩
 have f:m=0\/m=1\/m=2\/m=3\/m=4:=by omega
 have w:=y.Vw;have b:=y.len;rcases f with rfl|rfl|rfl|rfl|rfl
 ·have u:∀q,pv l q=pv A.Ta q:=λq=>by
   rw [w q];split
   ·rename_i e;subst e;rfl
   ·rfl
  have g:l.length=A.Ta.length:=b;simp only [show ((0:Int)==2)=false from rfl,show ((0:Int)==4)=false from rfl,show ((0:Int)==0)=true from rfl,show ((0:Int)==3)=false from rfl,zfe,ya,s7,zbs];cases J:found with
  |true=>
   grind
  |false=>
   simp only [zfe,ya];exact ⟨_,rfl,s u g⟩
 ·have u:∀q,pv l q=pv A.Ta q:=λq=>by
   rw [w q];split
   ·rename_i e;subst e;rfl
   ·rfl
  have g:l.length=A.Ta.length:=b;simp only [show ((1:Int)==2)=false from rfl,show ((1:Int)==4)=false from rfl,show ((1:Int)==0)=false from rfl,show ((1:Int)==3)=false from rfl,zfe,ya,zbs];exact ⟨_,rfl,s u g⟩
 ·simp only [show ((2:Int)==2)=true from rfl,s7,zbs];have D:¬ (pv A.Ta B=none/\(A.Ta.length:Int)=c):=λz=>k ⟨.inl rfl,z⟩
  refine t ?_ (λq e=>by rw [w q,d8 e]) ?_
  ·grind [MQ]
  ·rw [b];unfold MR;rw [d8 (by decide)];cases E:pv A.Ta B with
   |none=>rw [d7 ⟨.inl rfl,rfl,λz=>D ⟨E,z⟩⟩,d8 (by simp)]
   |some v=>rw [d8 (λz=>by cases z.2.1),d7 (show (some v).isSome=true from rfl)]
 ·simp only [show ((3:Int)==2)=false from rfl,show ((3:Int)==4)=false from rfl,show ((3:Int)==0)=false from rfl,show ((3:Int)==3)=true from rfl,zfe,ya,s7,zbs];rw [Ed j ⟨⟨A.cap,l⟩,o⟩ B (by grind)];exact ⟨_,rfl,h.out C w b⟩
 ·simp only [show ((4:Int)==2)=false from rfl,show ((4:Int)==4)=true from rfl,zfe,ya,s7,zbs];have D:¬ (pv A.Ta B=none/\(A.Ta.length:Int)=c):=λz=>k ⟨.inr rfl,z⟩
  refine t ?_ (λq e=>by rw [w q,d8 e]) ?_
  ·grind [MQ]
  ·rw [b];unfold MR;rw [d8 (by decide)];cases E:pv A.Ta B with
   |none=>rw [d7 ⟨.inr rfl,rfl,λz=>D ⟨E,z⟩⟩,d8 (by simp)]
   |some v=>rw [d8 (λz=>by cases z.2.1),d7 (show (some v).isSome=true from rfl)]
open Go.Sx
theorem LB.same(h:LB c ⟨A,o⟩)(a:BB c ⟨A.cap,l⟩)(b:∀q,pv l q=pv A.Ta q)(hl:l.length=A.Ta.length):LB c ⟨⟨A.cap,l⟩,o⟩:=
 ⟨a,h.nd,λq=>by show q∈o↔(pv l q).isSome=true;rw [b q];exact h.mem q,by show o.length=l.length;rw [hl];exact h.len⟩
theorem IR(h:m=2\/m=4)(a:v=none)(b:(n:Int)=c):(D9 v n c m x).E=40:=by
 grind [D9]
theorem IU(h:¬ ((m=2\/m=4)/\v=none/\(n:Int)=c))(a:0<=m)(b:m<=4):(D9 v n c m x).E=0:=by
 grind [D9]
theorem Lh(h:m=0):(D9 v n c m x).Found=v.isSome:=by subst h;rfl
theorem Qm(g:101<i)(h:LB c a)(j:0<=B)(n:B<=4)(k x:Int):OK (ek i a B k x) (λr=>LB c r.2):=by
 obtain ⟨b,o⟩:=a;unfold ek;obtain ⟨⟨p,K⟩,L,M,l,u,G,s⟩:=AJ (fu:=i) (by omega) h.bb j n k x;have N:p=D9 (pv b.Ta k) b.Ta.length c B x:=M;have u:K=⟨b.cap,l⟩:=u;subst u;rw [show jO i b B k x=_ from L,zbs];have O:=h.bb.done G s;by_cases d:(B=2\/B=4)/\pv b.Ta k=none/\(b.Ta.length:Int)=c
 ·obtain ⟨P,Z,hn⟩:=d;have t:p.E=40:=by grind [IR]
  have Q:∀q,pv l q=pv b.Ta q:=λq=>by
   rw [s.Vw q]
   grind [MQ]
  have hl:l.length=b.Ta.length:=by
   rw [s.len]
   grind [MR]
  have R:=h.same O Q hl;have S:=h.bb.c1;obtain ⟨m,T,I,J,U⟩:=Lg g R (by grind) (zk.mk 0 false 0 false 0 0);obtain ⟨⟨f,o3⟩,m2⟩:=m;have J:f.Ta.length+1=l.length:=J;have V:pv f.Ta k=none:=U k (by grind);obtain ⟨⟨v,W⟩,w,X,Y,y,A,C⟩:=AJ (fu:=i) (by omega) I.bb j n k x;have f3:v=D9 (pv f.Ta k) f.Ta.length c B x:=X;have y:W=⟨f.cap,Y⟩:=y;subst y;have D:¬ ((B=2\/B=4)/\pv f.Ta k=none/\(f.Ta.length:Int)=c):=λz=>by grind
  have F:v.E=0:=by grind [IU]
  rw [d7 (by simp [t]),T];simp only [zbs];rw [show jO i f B k x=_ from w];simp only [zbs];rw [d8 (by simp [F])];exact IP g I j n A C D (found:=v.Found) (λe=>by grind) _
 ·have t:p.E=0:=by rw [N];exact IU d j n
  rw [d8 (by simp [t])];simp only [zbs];rw [d8 (by simp [t])];exact IP g h j n G s d (found:=p.Found) (λe=>by grind [Lh]) _
def oH(s:qn):Prop:=match s with
 |.inl b=>∃c,BB c b
 |.inr a=>∃c,LB c a
theorem Li(d:101<i)(h:oH D)(e:0<=m)(f:m<=4)(k x:Int):OK (jF i D m k x) (λr=>oH r.2):=by
 cases D with
 |inl b=>
  obtain ⟨c,h⟩:=h;obtain ⟨r,g,q,l,j,n,o⟩:=AJ (fu:=i) (by omega) h e f k x;unfold jF;refine ⟨(r.1,.inl r.2),by grind,c,?_⟩;show BB c r.2;rw [j];exact h.done n o
 |inr a=>
  obtain ⟨c,h⟩:=h;obtain ⟨r,g,p⟩:=Qm d h e f k x;unfold jF;exact ⟨(r.1,.inr r.2),by grind,c,p⟩
theorem wN(h:BB c A):vy A=some A.Ta:=by
 have d:=h.len;have e:=h.VB;unfold vy zy;obtain ⟨u,a⟩:=cX (m:=([]:List zt).length+A.Ta.length) (b:=16) (by simp;omega);rw [a];rfl
theorem Ee(h:oH D):OK (jx D) (λr=>r.length<=16):=by
 cases D with
 |inl b=>
  obtain ⟨c,h⟩:=h;have d:=h.len;have e:=h.VB;unfold jx;exact ⟨b.Ta,by grind [wN],by omega⟩
 |inr a=>
  obtain ⟨c,h⟩:=h;have d:=h.bb.len;have e:=h.bb.VB;unfold jx;exact ⟨a.Uh.Ta,by simp only [wN h.bb,zbs],by omega⟩
theorem tw(n:Int):iJ n=some (none,2)\/∃b,iJ n=some (some b,0)/\BB n b/\b.Ta=[]:=by
 unfold iJ;split
 ·exact .inl rfl
 ·rename_i h
  simp only [s9,zdq,not_or] at h;exact .inr ⟨_,rfl,⟨rfl,by omega,by omega,by grind,List.Pairwise.nil⟩,rfl⟩
theorem Cj(d:jJ):(∃e,eE d=some (none,e)/\e≠0)\/∃s,eE d=some (some s,0)/\oH s:=by
 unfold eE;split
 ·rcases tw d.Vg with h|⟨b,h,a,_⟩
  ·rw [h];exact .inl ⟨2,rfl,by decide⟩
  ·rw [h];exact .inr ⟨_,rfl,_,a⟩
 ·split
  ·unfold rx;rcases tw d.Vg with h|⟨b,h,a,c⟩
   ·rw [h];exact .inl ⟨2,rfl,by decide⟩
   ·rw [h];exact .inr ⟨_,rfl,_,⟨a,o4,λk=>by rw [c];simp [pv],by rw [c];rfl⟩⟩
  grind
open Go.Sx
def RS(o:zc)(r:zq):Prop:=0<=r.Item.TB/\r.Item.TB<o.maps.length/\(r.Up=true\/(0<=r.Item.Op/\r.Item.Op<5))
structure ko (o:zc):Prop where
 s1:1<=o.TR
 s4:o.TR<=4
 m4:o.maps.length<=4
 all:∀s∈o.maps,oH s
 UL:∀r∈o.SX,RS o r
theorem AK(h:0<=x)(a:x<=1000):xZ x=x:=by rw [Qj];omega
theorem Lj{k:Int}(a:1<=x)(b:x<=4):OK (ay k x) (λ_=>True):=by
 unfold ay;rw [d8 (by simp;omega)];have h:nz (xZ x)=some ():=by unfold nz;rw [AK (by omega) (by omega),d8 (by omega)]
 rw [h];exact ⟨_,rfl,trivial⟩
theorem Ef(a:1<=E.TR)(c:E.TR<=4)(r:zq):OK (xR E r) (λb=>b=true->RS E r):=by
 unfold xR;split
 ·exact ⟨_,rfl,λz=>by cases z⟩
 ·rename_i d
  simp only [s9,zdq,not_or] at d;split
  ·rename_i e
   exact ⟨_,rfl,λ_=>⟨by omega,by omega,.inl e⟩⟩
  ·split
   ·split
    ·rename_i f g
     have i:=yd f;have h:=yd g;obtain ⟨q,j,_⟩:=Lj (k:=r.Item.TQ) a c;rw [j];exact ⟨_,rfl,λ_=>⟨by omega,by omega,.inr ⟨by omega,h⟩⟩⟩
    ·exact ⟨_,rfl,λz=>by cases z⟩
   ·exact ⟨_,rfl,λz=>by cases z⟩
theorem pH(c:101<i)(h:ko E):OK (jI i E) (λq=>ko q.2.2/\q.2.2.maps.length=E.maps.length/\
  ((E.SX=[]/\q.2.1=false/\q.2.2=E)\/∃x a,E.SX=x::a/\q.2.1=true/\q.2.2.SX=a/\q.1.To=x.Ud/\q.1.UI=x.UI/\q.1.Up=x.Up/\q.1.Item=x.Item/\q.1.Pairs.length<=16)):=by
 unfold jI;cases hl:E.SX with
 |nil=>
  rw [d7 (by rfl)];exact ⟨_,rfl,h,rfl,.inl ⟨rfl,rfl,rfl⟩⟩
 |cons x a=>
  rw [d8 (by simp;omega)];have l:Go.Sx.idx (x::a) 0=some x:=rfl
  have m:cut (x::a) 1 ((x::a).length:Int)=some a:=by
   unfold cut;rw [d7 (by simp;omega)];simp
  rw [l,zbs,m,zbs];obtain ⟨n,o,A⟩:=h.UL x (by grind);obtain ⟨s,k,p⟩:=pA n o;have b:=h.all s (zmg p);split
  ·rw [k,zbs];obtain ⟨g,u,d⟩:=Ee b;rw [u,zbs];exact ⟨_,rfl,⟨h.s1,h.s4,h.m4,h.all,λr v=>h.UL r (by grind)⟩,rfl,.inr ⟨x,a,rfl,rfl,rfl,rfl,rfl,rfl,rfl,d⟩⟩
  ·rename_i B
   rw [k,zbs]
   have f:0<=x.Item.Op/\x.Item.Op<5:=by
    grind
   obtain ⟨q,w,e⟩:=Li c b f.1 (by omega) x.Item.TQ x.Item.TL;rw [w,zbs];refine ⟨_,rfl,⟨h.s1,h.s4,by show (E.maps.set _ _).length<=4;rw [k7];exact h.m4,λt j=> ?_,λr v=> ?_⟩,by grind,.inr ⟨x,a,rfl,rfl,rfl,rfl,rfl,rfl,rfl,by simp⟩⟩
   ·rcases r7 j with j|rfl
    ·exact h.all t j
    ·exact e
   ·obtain ⟨y,C,z⟩:=h.UL r (by grind);exact ⟨y,by grind,z⟩
theorem sN(h:E.SX.length*56<=140737488355328):vv E=some E.SX:=by
 unfold vv qq;obtain ⟨u,a⟩:=cX (m:=([]:List zq).length+E.SX.length) (b:=56) (by simpa using h);rw [a];rfl
theorem Ck(s n:Int)(d:List jJ):(∃e,bZ s n d=some (none,e)/\e≠0)\/∃o,bZ s n d=some (some o,0)/\ko o/\o.SX=[]/\o.SZ=false/\o.TR=n/\o.Uo=s/\o.maps.length=d.length/\1<=n/\n<=4/\0<=s/\s<n:=by
 unfold bZ;split
 ·grind
 ·rename_i l
  simp only [s9,zdq,not_or] at l;obtain ⟨⟨⟨⟨I,J⟩,K⟩,L⟩,M⟩:=l
  obtain ⟨q,w,y⟩:=nB (body:=iK d) (out:=λs=>.inl s) (N:=d.length) (λi o=>o.Uo=s/\o.TR=n/\o.SX=[]/\o.SZ=false/\o.maps.length=i/\∀x∈o.maps,oH x)
   (λq=>match q with
    |.inl o=>o.Uo=s/\o.TR=n/\o.SX=[]/\o.SZ=false/\o.maps.length=d.length/\∀x∈o.maps,oH x
    |.inr z=>z.1=none/\z.2≠0) (λi o c A B C=>by
   obtain ⟨f,g,j,k,p,t⟩:=B;unfold iK;rw [og A,zbs];rcases Cj d[i] with ⟨e,D,a⟩|⟨m,E,F⟩
   ·rw [D,zbs];exact ⟨.inr (none,e),by simp [vW,a],rfl,a⟩
   ·rw [E,zbs];simp only [vW];rw [d8 (by simp)];obtain ⟨u,G⟩:=cX (m:=o.maps.length+[m].length) (b:=16) (by grind);rw [G,zbs];refine C _ ⟨f,g,j,k,by grind,λx v=> ?_⟩
    grind) (λs h=>h) d.length 0 (zc.mk s n [] [] false) (by omega) ⟨rfl,rfl,rfl,rfl,rfl,λx v=>by cases v⟩
  rw [w,zbs];cases q with
  |inl o=>
   obtain ⟨f,g,j,k,p,t⟩:=y;exact .inr ⟨o,rfl,⟨by omega,by omega,by omega,t,λr O=>by grind⟩,j,k,g,f,p,by omega,by omega,by omega,by omega⟩
  |inr z=>
   grind
set_option maxRecDepth 100000
open Go.Sx
open Go.Sx
theorem lQ{b c:Type}{body:(b->Option c)->b->Option c}(I:Nat->b->Prop)(Q:c->Prop)
  (h:∀m s (a:b->Option c),I m s->(∀d f,d<m->I d f->∃r,a f=some r/\Q r)->∃r,body a s=some r/\Q r):
  ∀(fu m:Nat)(s:b),m<fu->I m s->∃r,loop body fu s=some r/\Q r
 |0,m,s,e,_=>absurd e (Nat.not_lt_zero _)
 |fu+1,m,s,e,g=>h m s _ g λd f j i=>lQ I Q h fu d f (by omega) i
theorem IV{c:zG}{fu:Nat}(l:0<=c.Ti)(v:c.Ti<=4)(n:10<fu):
  ∃o,loop (oy c) fu ([],0)=some o/\match o with
   |.inl a=>(a.length:Int)=c.Ti/\∀r∈a,kU r/\r.waiting=[]/\r.Uf=false/\r.room=c.TM/\r.counts=⟨0,0,0,0,0⟩
   |.inr z=>z.1=none/\z.2≠0:=by
 refine lQ (λm s=>(s.1.length:Int)=s.2/\s.2<=c.Ti/\s.2+m=c.Ti/\∀r∈s.1,kU r/\r.waiting=[]/\r.Uf=false/\r.room=c.TM/\r.counts=⟨0,0,0,0,0⟩) _ (λm s d p q=> ?_) fu c.Ti.toNat ([],0) (by omega) ⟨rfl,l,by grind,λr e=>by cases e⟩;obtain ⟨a,i⟩:=s;obtain ⟨f,g,j,w⟩:=p;have f:(a.length:Int)=i:=f;have g:i<=c.Ti:=g;have j:i+m=c.Ti:=j;unfold oy;show ∃r,(if decide (i<c.Ti)=true then _ else _)=some r/\_;by_cases k:i<c.Ti
 ·rw [d7 (by simpa using k)];rcases DT c.TM (zM.mk 0) with h|⟨r,h,e⟩
  ·exact ⟨.inr (none,2),by rw [h];rfl,rfl,by decide⟩
  ·rw [h,zbs];simp only [vW];rw [d8 (by simp)];obtain ⟨u,t⟩:=cX (m:=a.length+[r].length) (b:=8) (by grind);rw [t,zbs,qe (by omega) (by omega)];refine q (m-1) _ (by omega) ⟨?_,?_,?_,λx y=> ?_⟩
   ·grind
   ·grind
   ·grind
   grind
 ·rw [d8 (by simpa using k)]
  grind
end Go.Proofs.YtplmgfkghomelaaGreatDoor.KH
namespace Go.Proofs.YtplmgfkghomelaaGreatDoor
open Go.Sx
variable {a:Type}
structure EM where
 Tq:qr
 module:zE
 TK:zm
 regs:Nat->Int
 LT:Nat->Int
 Tt:Int
 steps:Int
 state:Int
def AN(f:Nat)(p:EM)(b:Int):Option (qT×EM):=
 (mI b).bind λa=>
 if a.2 then
  (idx p.module.Maps (p.regs 1)).bind λx=>
  (xW f b).bind λc=>
  (if decide (((c).length:Int)>2) then
   some (p.regs 3)
  else
   some 0).bind λd=>
  some ((qT.mk 2 p.Tt (zg.mk x a.1 (p.regs 2) d) 0),{p with state:=1})
 else
  (if (b==5) then
   (xa p.TK.Tx (w64 (p.regs 1))).bind λr=>
   some ({p with TK:=(zm.mk p.TK.TP r.2.2),regs:=(aset p.regs 0 r.1)},(qT.mk 1 p.Tt (zg.mk 0 0 0 0) r.1))
  else
   some ({p with regs:=(aset p.regs 0 0)},(qT.mk 3 p.Tt (zg.mk 0 0 0 0) (p.regs 1)))).bind λo=>
  some (o.2,(EM.mk o.1.Tq o.1.module o.1.TK o.1.regs o.1.LT (w64 (o.1.Tt+1)) o.1.steps o.1.state))
def ip(a:EM)(p:zf):Option Int:=
 if (p.B==8) then
  some (xZ p.TJ)
 else
  (ain 8 p.B).bind λi=>
  some (a.regs i)
def Cx(p:EM)(a:zf):Option (Int×EM):=
 if (a.Op==0) then
  (ip p a).bind λs=>
  (ain 8 a.D).bind λt=>
  some (1,{p with regs:=(aset p.regs t s)})
 else
  if (a.Op==11) then
   (ip p a).bind λu=>
   (xM p.TK.TP (w64 u)).bind λv=>
   (ain 8 a.D).bind λw=>
   some (1,{p with regs:=(aset p.regs w v.1)})
  else
   if (a.Op==12) then
    (ain 8 a.A).bind λd=>
    (ip p a).bind λe=>
    (xt p.TK.TP (w64 e) (p.regs d)).bind λf=>
    some (1,{p with TK:=(zm.mk f.2 p.TK.Tx)})
   else
    if (a.Op==13) then
     (ain 8 a.D).bind λi=>
     if (a.TJ==1) then
      some (1,{p with regs:=(aset (aset p.regs i p.Tq.A) i p.Tq.B)})
     else
      some (1,{p with regs:=(aset p.regs i p.Tq.A)})
    else
     if (a.Op==14) then
      (ain 8 a.D).bind λg=>
      some (1,{p with regs:=(aset p.regs g (xZ a.TJ))})
     else
      if (a.Op==15) then
       some (w64 (a.D+1),p)
      else
       if (a.Op==20) then
        ((ain 8 a.A).bind λh=>
        if ((p.regs h) !=0) then
         (ain 64 p.Tt).bind λj=>
         some (decide ((p.LT j)<a.TJ))
        else
         some false).bind λo=>
        if o then
         (ain 64 p.Tt).bind λb=>
         some (w64 (0-a.D),{p with LT:=(aset p.LT b (w64 ((p.LT b)+1)))})
        else
         (ain 64 p.Tt).bind λk=>
         some (1,{p with LT:=(aset p.LT k 0)})
       else
        (ain 8 a.A).bind λc=>
        (ip p a).bind λl=>
        (gB a.Op (p.regs c) l).bind λr=>
        if r.2 then
         (ain 8 a.D).bind λm=>
         some (1,{p with regs:=(aset p.regs m r.1)})
        else
         (ip p a).bind λn=>
         (aZ a.Op (p.regs c) n).bind λq=>
         if q.1 then
          some (w64 (a.D+1),p)
         else
          some (1,p)
def uu(f:Nat)(p:EM):Option (qT×EM):=
 if (p.state==1) then
  some ((qT.mk 5 p.Tt (zg.mk 0 0 0 0) 0),p)
 else
  if (p.state==2) then
   (idx p.module.Code p.Tt).bind λb=>
   (ain 8 b.A).bind λi=>
   some ((qT.mk 6 p.Tt (zg.mk 0 0 0 0) (p.regs i)),p)
  else
   (idx p.module.Code p.Tt).bind λx=>
   if (x.Op==21) then
    (AN f {p with steps:=(w64 (p.steps+1))} x.TJ).bind λa=>
    some (a.1,a.2)
   else
    if (x.Op==22) then
     (ain 8 x.A).bind λc=>
     some ((qT.mk 4 p.Tt (zg.mk 0 0 0 0) (p.regs c)),{p with steps:=(w64 (p.steps+1)),state:=2})
    else
     (Cx {p with steps:=(w64 (p.steps+1))} x).bind λr=>
     some ((qT.mk 1 p.Tt (zg.mk 0 0 0 0) 0),(EM.mk r.2.Tq r.2.module r.2.TK r.2.regs r.2.LT (w64 (p.Tt+r.1)) r.2.steps r.2.state))
def mX(p:EM)(a:zk):Option (Int×EM):=
 if (p.state !=1) then
  some (2,p)
 else
  (idx p.module.Code p.Tt).bind λx=>
  (gM x.TJ a).bind λr=>
  some (0,{p with regs:=(aset p.regs 0 r),Tt:=(w64 (p.Tt+1)),state:=0})
def pk(M:zr)(S:zm):EM:={M with TK:=S}
theorem Br.ite{a b:Type}{f:a->b}{c:Bool}{A B:Option b}{d e:Option a}(h:A=d.map f)(g:B=e.map f):(if c then A else B)=(if c then d else e).map f:=by
 grind
theorem Br.bind{c b:Type}{f:a->c}{o:Option b}{A:b->Option c}{d:b->Option a}(h:∀x,A x=(d x).map f):o.bind A=(o.bind d).map f:=by
 cases o with
 |none=>rfl
 |some x=>exact h x
theorem m9:type_of% @Br.bind:=Br.bind
theorem Br.bind2{a e b c:Type}{f:a->e}{g:b->c}{o:Option c}{d:Option b}{A:c->Option e}{i:b->Option a}(j:o=d.map g)(h:∀x,A (g x)=(i x).map f):o.bind A=(d.bind i).map f:=by
 subst j;cases d with
 |none=>rfl
 |some x=>exact h x
def pk2{a:Type}(r:a×zr×zm):a×EM:=(r.1,pk r.2.1 r.2.2)
theorem Qt(M:zr)(S:zm)(i:zf):Cx (pk M S) i=(jw M i S).map pk2:=by
 unfold Cx jw;refine Br.ite (m9 λ_=>m9 λ_=>rfl) ?_;refine Br.ite (m9 λ_=>m9 λ_=>m9 λ_=>rfl) ?_;refine Br.ite (m9 λ_=>m9 λ_=>m9 λ_=>rfl) ?_;refine Br.ite (m9 λ_=>Br.ite rfl rfl) ?_;refine Br.ite (m9 λ_=>rfl) ?_;refine Br.ite rfl ?_;refine Br.ite (m9 λ_=>Br.ite (m9 λ_=>rfl) (m9 λ_=>rfl)) ?_;exact m9 λ_=>m9 λ_=>m9 λ_=>Br.ite (m9 λ_=>rfl) (m9 λ_=>m9 λ_=>Br.ite rfl rfl)
theorem Oa(f:Nat)(M:zr)(S:zm)(k:Int):AN f (pk M S) k=(jY f M k S).map pk2:=by
 unfold AN jY;refine m9 λ_=>Br.ite (m9 λ_=>m9 λ_=>m9 λ_=>rfl) ?_
 exact Br.bind2 (g:=λo:zr×zm×qT=>(pk o.1 o.2.1,o.2.2)) (Br.ite (m9 λ_=>rfl) rfl) (λ_=>rfl)
theorem Ob(f:Nat)(M:zr)(S:zm):uu f (pk M S)=(qM f M S).map pk2:=by
 unfold uu qM;refine Br.ite rfl (Br.ite (m9 λ_=>m9 λ_=>rfl) (m9 λ_=>Br.ite ?_ (Br.ite (m9 λ_=>rfl) ?_)))
 ·exact Br.bind2 (g:=pk2) (Oa f {M with steps:=w64 (M.steps+1)} S _) (λ_=>rfl)
 ·exact Br.bind2 (g:=pk2) (Qt {M with steps:=w64 (M.steps+1)} S _) (λ_=>rfl)
theorem I3(M:zr)(S:zm)(r:zk):mX (pk M S) r=(jD M r S).map (λx=>(x.1,pk x.2 S)):=by
 unfold mX jD;exact Br.ite rfl (m9 λ_=>m9 λ_=>rfl)
end Go.Proofs.YtplmgfkghomelaaGreatDoor
