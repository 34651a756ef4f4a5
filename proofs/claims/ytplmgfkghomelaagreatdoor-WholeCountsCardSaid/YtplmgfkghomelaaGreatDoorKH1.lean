/- Lemmas. -/
import Derived.Test.YtplmgfkghomelaaGreatDoorF1
set_option linter.all false
namespace Go.Proofs.YtplmgfkghomelaaGreatDoor.KH
open Go.Sx
variable {l h:List zt}{i n y C:Nat}{x c m z B:Int}{a:qA}{o:List Int}{v:Option Int}{r:zr}{d:zo}{g:List Bool}{q:zZ}{b:List zZ}{e:qr}{f:zt}{A:qp}{found:Bool}{D:qm}{E:zc}
theorem nf{b c:Type}{body:Nat->(b->Option c)->b->Option c}{out:b->c}(I:Nat->b->Prop)(Q:c->Prop){N:Nat}
  (h:∀i s (a:b->Option c),i<N->I i s->(∀d,I (i+1) d->∃r,a d=some r/\Q r)->∃r,body i a s=some r/\Q r) (g:∀s,I N s->Q (out s)):
  ∀(n i:Nat)(s:b),i+n=N->I i s->∃r,jM body out n i s=some r/\Q r
 |0,i,s,e,f=>⟨_,rfl,g s (by rw [<- e];exact f)⟩
 |n+1,i,s,e,f=>h i s _ (by omega) f λd j=>nf I Q h g n (i+1) d (by omega) j
theorem nO{a:Type}{x:List a}(h:i<x.length):Go.Sx.idx x (i:Int)=some x[i]:=by
 unfold Go.Sx.idx
 grind
theorem oX{a:Type}{xs:List a}{t:Int}(b:0<=t)(c:t<xs.length):∃x,Go.Sx.idx xs t=some x/\xs[t.toNat]? =some x:=by
 have h:t.toNat<xs.length:=by omega
 refine ⟨xs[t.toNat],?_,zeg h⟩;unfold Go.Sx.idx
 grind
theorem cQ{m b:Nat}(h:m*b<=140737488355328):∃u,room m b=some u:=by
 unfold room;rw [d8 h];exact ⟨_,rfl⟩
def kin(k:zo)(m:Int)(n:Nat):List Int:=((List.range n).filter (λi:Nat=>decide ((k.Sn[i]?).map (λt:qr=>t.Su)=some m))).map (λi:Nat=>(i:Int))
theorem Ig{k:zo}:(kin k m n).length<=n:=by
 grind [kin]
theorem Ih{k:zo}(h:x∈kin k m n):∃(i:Nat)(t:qr),x=i/\i<n/\k.Sn[i]? =some t/\t.Su=m:=by
 grind [kin]
theorem Gd(j:d.Sn.length<=64):dV d m=some (kin d m d.Sn.length):=by
 obtain ⟨r,k,rfl⟩:=nf (body:=gT d m) (out:=λs=>s) (N:=d.Sn.length) (λi s=>s=kin d m i) (λr=>r=kin d m d.Sn.length) (λi s a c f l=>by
  subst f;unfold gT;rw [nO c];simp only [zbs]
  have e:kin d m (i+1)=kin d m i++(if d.Sn[i].Su=m then [(i:Int)] else []):=by
   unfold kin;rw [List.range_succ,y9,t9]
   grind
  by_cases g:d.Sn[i].Su=m
  ·rw [d8 (by simpa using g)]
   obtain ⟨u,n⟩:=cQ (m:=(kin d m i).length+[(i:Int)].length) (b:=8) (by
    grind [Ig])
   grind
  grind) (λs h=>h) d.Sn.length 0 [] (by omega) rfl
 grind [dV]
def Mt(a b:zo)(g:List Bool)(n:Nat):Prop:=b.Si=a.Si/\b.Sn.length=a.Sn.length/\∀(i:Nat)(t:qr),a.Sn[i]? =some t->
 ∃u,b.Sn[i]? =some u/\u.TN=t.TN/\u.Su=if i<n then (if t.Su=2 then 2 else if g[i]? =some true then 1 else 0) else t.Su
theorem DD{k:zo}(hl:g.length=k.Sn.length):∃b,et k g=some (0,b)/\Mt k b g g.length:=by
 obtain ⟨b,B,f⟩:=nf (body:=fZ g) (out:=λs=>s) (N:=g.length) (λi s=>Mt k s g i) (λr=>Mt k r g g.length) (λi s c l n o=>by
  obtain ⟨e,p,q⟩:=n;have a:i<s.Sn.length:=by omega
  unfold fZ;rw [nO l,zbs,nO a,zbs];have v:i<k.Sn.length:=by omega
  have w:=q i _ (zeg v);obtain ⟨u,d,up,x⟩:=w;rw [zeg a] at d;obtain rfl:=j4 d;rw [d7 (by omega)] at x
  have step:∀m:Int,(m=if k.Sn[i].Su=2 then 2 else if g[i]? =some true then 1 else 0)->Mt k (zo.mk (s.Sn.set (Int.toNat (i:Int)) (qr.mk m s.Sn[i].TN)) s.Si) g (i+1):=by
   intro m y;refine ⟨e,by grind,λj t z=> ?_⟩
   grind
  by_cases A:s.Sn[i].Su=2
  ·rw [d8 (by simpa using A)];refine o _ ⟨e,p,λj t z=> ?_⟩
   grind
  grind) (λs h=>h) g.length 0 k (by omega) ⟨rfl,rfl,λi t h=>⟨t,h,rfl,by grind⟩⟩
 refine ⟨b,?_,f⟩;unfold et
 grind
def kF(r:zr):Prop:=1<=r.room/\r.room<=16/\(r.waiting.length:Int)<=r.room
theorem DE(n:Int)(g:zJ):(lf n g=some (none,2))\/∃r,lf n g=some (some r,0)/\kF r/\r.waiting=[]/\r.TK=false/\r.room=n/\r.Sj=⟨0,0,0,0,0⟩:=by
 unfold lf;split
 ·exact .inl rfl
 ·rename_i h
  simp only [Bool.or_false,r6,zdq,not_or] at h;refine .inr ⟨_,rfl,⟨by grind,by show n<=16;omega,by grind⟩,rfl,rfl,rfl,rfl⟩
theorem iU(h:kF r)(c:qt)(g:zJ):∃n e a j,xi r c g=some (n,e,a,j)/\kF a/\a.TK=r.TK/\((e=0/\r.TK=false/\a.waiting=r.waiting++[zZ.mk n c])\/(e≠0/\a.waiting=r.waiting)):=by
 obtain ⟨d,f,i⟩:=h;unfold xi;split
 ·exact ⟨_,_,_,_,rfl,⟨d,f,i⟩,rfl,.inr ⟨by decide,rfl⟩⟩
 ·split
  ·exact ⟨_,_,_,_,rfl,⟨d,f,i⟩,rfl,.inr ⟨by decide,rfl⟩⟩
  ·rename_i k l
   have o:(r.waiting.length:Int)≠r.room:=by simpa using l
   obtain ⟨u,p⟩:=cQ (m:=r.waiting.length+1) (b:=24) (by omega);unfold aH;simp only [zbs];rw [show ([(zZ.mk (w64 (g.last+1)) c)]).length=1 from rfl,p];refine ⟨_,_,_,_,rfl,⟨d,f,?_⟩,rfl,.inl ⟨rfl,by simpa using k,rfl⟩⟩
   grind
theorem nP(r:zr):∃c,xM r=some c/\c.Tx=(r.waiting.length:Int):=⟨_,rfl,rfl⟩
theorem mA(h:kF r)(g:zJ)(c:r.waiting=q::b):∃a,va r g=some (q,true,a)/\kF a/\a.waiting=b/\a.TK=r.TK:=by
 obtain ⟨d,e,j⟩:=h;unfold va;rw [c];rw [d7 (by simp;omega)];have f:Go.Sx.idx (q::b) 0=some q:=rfl
 have i:cut (q::b) 1 ((q::b).length:Int)=some b:=by
  unfold cut;rw [d8 (by simp;omega)];simp
 rw [f,zbs,i,zbs];refine ⟨_,rfl,⟨d,e,?_⟩,rfl,rfl⟩
 grind
open Go.Sx
def KN(a b:zo):Prop:=b.Sn.length=a.Sn.length/\∀i:Nat,(b.Sn[i]?).map (·.Su)=(a.Sn[i]?).map (·.Su)
theorem BW{k:zo}{t:Int}(h:0<=t)(b:t<k.Sn.length):∃a,vX k t=some (t,true,a)/\KN k a/\a.Si=w64 (k.Si+1):=by
 obtain ⟨x,c,d⟩:=oX h b;unfold vX;rw [c,zbs];refine ⟨_,rfl,⟨by grind,λi=> ?_⟩,rfl⟩
 grind
theorem ph(h:d.Sn.length<=64):aG d=some (kin d 1 d.Sn.length):=by
 grind [aG,Gd]
def KO(k:zo)(o:Option (Int×Bool×zo)):Prop:=
 (kin k 1 k.Sn.length=[]/\o=some (0,false,k))\/∃x a,x∈kin k 1 k.Sn.length/\o=some (x,true,a)/\KN k a/\a.Si=w64 (k.Si+1)
theorem Fl(h:x∈kin d 1 d.Sn.length):KO d ((vX d x).bind λr=>some (r.1,r.2.1,r.2.2)):=by
 obtain ⟨i,t,rfl,e,_⟩:=Ih h;obtain ⟨a,b,c⟩:=BW (k:=d) (t:=(i:Int)) (by omega) (by omega);exact .inr ⟨_,a,h,by rw [b];rfl,c⟩
theorem BX{k:zo}(b:k.Sn.length<=64)(c:Int):KO k (dt k c):=by
 unfold dt;rw [ph b,zbs];by_cases a:kin k 1 k.Sn.length=[]
 ·rw [d8 (by rw [a];rfl)];exact .inl ⟨a,rfl⟩
 have hl:0<(kin k 1 k.Sn.length).length:=List.length_pos_iff.2 a;have d:=Ig (k:=k) (m:=1) (n:=k.Sn.length);rw [d7 (by simp;omega)];have e:nz ((kin k 1 k.Sn.length).length:Int)=some ():=by grind [nz]
 rw [e,zbs];generalize f:((kin k 1 k.Sn.length).length:Int)=n at*
 have h:0<n:=by omega
 have l:=Int.tmod_lt_of_pos c h
 have g: -n<c.tmod n:=by
  have:=Int.lt_tmod_of_pos c h;omega
 obtain ⟨o,i,j,p⟩:∃o,(if decide (c.tmod n<0) then some (w64 (c.tmod n+n)) else some (c.tmod n))=some o/\0<=o/\o<n:=by
  grind [qo]
 rw [i,zbs];obtain ⟨x,q,r⟩:=oX (xs:=kin k 1 k.Sn.length) j (by omega)
 grind [Fl]
theorem BY{k:zo}(q:k.Sn.length<=64):KO k (dy k):=by
 unfold dy;rw [ph q,zbs];generalize d:kin k 1 k.Sn.length=a
 obtain ⟨r,u,v⟩:=nf (body:=fw k a) (out:=λs=>(s.1,s.2)) (N:=a.length) (λi s=>(i=0/\s.2=false)\/(0<i/\s.2=true/\s.1∈a)) (λr=>(a=[]/\r.2=false)\/(r.2=true/\r.1∈a)) (λi s e p f g=>by
  unfold fw;rw [nO p,zbs];have l:a[i]∈a:=yn p
  have look:∀x∈a,∃t,Go.Sx.idx k.Sn x=some t:=by
   intro x w;obtain ⟨j,t,rfl,y,B,_⟩:=Ih (k:=k) (m:=1) (n:=k.Sn.length) (by rw [d];exact w)
   exact ⟨_,nO y⟩
  rcases f with ⟨rfl,h⟩|⟨C,h,c⟩
  ·rw [h];simp only [Bool.not_false,q9,zbs];exact g _ (.inr ⟨by omega,rfl,l⟩)
  ·rw [h];obtain ⟨D,z⟩:=look _ l;obtain ⟨E,A⟩:=look _ c;simp only [Bool.not_true,zfe,x4,z,A,zbs];split
   ·exact g _ (.inr ⟨by omega,rfl,l⟩)
   ·exact g _ (.inr ⟨by omega,rfl,c⟩)) (λs f=>by
  rcases f with ⟨h,b⟩|⟨_,b,o⟩
  ·exact .inl ⟨Sh.1 h,b⟩
  ·exact .inr ⟨b,o⟩) a.length 0 (0,false) (by omega) (.inl ⟨rfl,rfl⟩)
 rw [u,zbs];rcases v with ⟨h,b⟩|⟨b,o⟩
 ·rw [d8 (by rw [b];rfl)];exact .inl ⟨by rw [d];exact h,rfl⟩
 ·rw [d7 (by rw [b];simp)];exact Fl (by rw [d];exact o)
theorem oq(h:d.Sn[i]? =some e)(c:e.Su≠2):
  bm d [(i:Int)]=some (0,zo.mk (d.Sn.set i (qr.mk 2 e.TN)) d.Si):=by
 have hl:i<d.Sn.length:=(zes.1 h).1;have a:Go.Sx.idx [(i:Int)] ((0:Nat):Int)=some (i:Int):=rfl;have b:Go.Sx.idx d.Sn (i:Int)=some e:=by rw [nO hl];rw [zeg hl] at h;exact h
 unfold bm fB;simp only [u7,y4,jM,kr,kt,ku,a,b,zbs]
 grind
open Go.Sx
theorem P3(x:Int):xW x=x%18446744073709551616:=by
 show IntKind.u64.wrap x=_;simp [IntKind.wrap,IntKind.bits,IntKind.signed]
theorem RH(h:0<=x)(a:x<=1000):w64 (iN .u64 (xW (w64 x)) 1)=x / 2:=by
 rw [qo (x:=x) (by omega) (by omega),P3,Int.emod_eq_of_lt h (by omega)]
 have e:iN .u64 x 1=x / 2:=by
  show x.fdiv (2^(min (Int.toNat 1) IntKind.u64.bits))=_;rw [Int.fdiv_eq_ediv_of_nonneg _ (by grind)];rfl
 grind [qo]
def pv:List zt->Int->Option Int
 |[],_=>none
 |p::l,k=>if p.Ts=k then some p.Tp else pv l k
def pk(l:List zt):List Int:=l.map (·.Ts)
theorem tO:pv l x=none↔x∉pk l:=by
 induction l with
 |nil=>simp [pv,pk]
 |cons p l i=>
  grind [pv,pk]
theorem Q6(a:(pk l).Nodup)(h:l[i]? =some f):pv l f.Ts=some f.Tp:=by
 induction l generalizing i with
 |nil=>simp at h
 |cons q l b=>
  grind [pk,pv]
theorem B4:pv (l++h) c=(match pv l c with|some x=>some x|none=>pv h c):=by
 induction l with
 |nil=>rfl
 |cons p l i=>
  grind [pv]
theorem Iv:pk (l++h)=pk l++pk h:=t9
theorem KT(h:l[i]? =some f):l=l.take i++f::l.drop (i+1):=by
 obtain ⟨hl,rfl⟩:=zes.1 h
 conv=>lhs;rw [<- yg i l,Sd hl]
theorem P4(a:(pk l).Nodup)(h:l[i]? =some f)(x:Int)(q:Int):pv (l.set i ⟨f.Ts,x⟩) q=if q=f.Ts then some x else pv l q:=by
 induction l generalizing i with
 |nil=>simp at h
 |cons r l b=>
  obtain ⟨n,c⟩:=s7.1 (show (r.Ts::pk l).Nodup from a);cases i with
  |zero=>
   grind [pv]
  |succ i=>
   grind [pk,pv]
theorem Mz(h:l[i]? =some f)(x:Int):pk (l.set i ⟨f.Ts,x⟩)=pk l:=by
 unfold pk;rw [yb];apply l8
 grind
theorem P5(c:(pk l).Nodup)(h:l[i]? =some f)(q:Int):pv (l.take i++l.drop (i+1)) q=if q=f.Ts then none else pv l q:=by
 have e:=KT h;have a:=c;rw [e,Iv] at a;obtain ⟨m,n,d⟩:=k7.1 a;obtain ⟨g,o⟩:=s7.1 (show (f.Ts::pk (l.drop (i+1))).Nodup from n);have b:f.Ts∉pk (l.take i):=λj=>d _ j f.Ts (by simp [pk]) rfl
 by_cases k:q=f.Ts
 ·subst k;rw [d8 rfl,B4,tO.2 b];exact tO.2 g
 grind [B4,pv]
theorem MA:(pk (l.take i++l.drop (i+1))).Sublist (pk l):=by
 have h:(l.take i++l.drop (i+1)).Sublist l:=by
  rw [<- List.eraseIdx_eq_take_drop_succ]
  grind
 exact h.map _
def DU(v:Option Int)(n:Nat)(cap op x:Int):zk:=
 if op=0 then ⟨0,v.isSome,v.getD 0,false,0,0⟩
 else if op=1 then ⟨0,v.isSome,0,false,0,0⟩
 else if op=3 then ⟨0,v.isSome,v.getD 0,false,0,0⟩
 else if v=none/\(n:Int)=cap then ⟨40,false,0,false,0,0⟩
 else ⟨0,v.isSome,if op=4 then xW (v.getD 0+x) else v.getD 0,false,0,0⟩
def MB(v:Option Int)(n:Nat)(cap op x:Int):Option Int:=
 if op=3 then none
 else if op=2\/op=4 then (if v=none/\(n:Int)=cap then none else some (if op=4 then xW (v.getD 0+x) else x))
 else v
def MC(v:Option Int)(n:Nat)(cap op:Int):Nat:=
 if op=3 then (if v.isSome then n-1 else n)
 else if (op=2\/op=4)/\v=none/\(n:Int)≠cap then n+1
 else n
structure QH (l l':List zt) (cap op k x:Int):Prop where
 UW:∀q,pv l' q=if q=k then MB (pv l k) l.length cap op x else pv l q
 len:l'.length=MC (pv l k) l.length cap op
 nd:(pk l').Nodup
def Srt(l:List zt):Prop:=(pk l).Pairwise (· < ·)
theorem Srt.nd(h:Srt l):(pk l).Nodup:=h.imp (λa=>by omega)
structure Found (l:List zt) (k:Int) (i:Nat):Prop where
 le:i<=l.length
 low:∀p∈l.take i,p.Ts<k
 high:∀p∈l.drop i,k<=p.Ts
theorem DV{l:List zt}(h:Srt l){p:zt}(a:i<n)(b:l[i]? =some p)(c:l[n]? =some f):p.Ts<f.Ts:=by
 obtain ⟨d,rfl⟩:=zes.1 b;obtain ⟨e,rfl⟩:=zes.1 c;have:=List.pairwise_iff_getElem.1 h i n (by grind [pk]) (by grind [pk]) a
 grind [pk]
theorem DW(J:17<y)(B:Srt l)(hl:l.length<=16)(k:Int):
  OK (zK y l k) (λr=>∃i:Nat,r.1=(i:Int)/\Found l k i/\r.2=(pv l k).isSome/\(r.2=true->∃p,l[i]? =some p/\p.Ts=k)):=by
 unfold zK
 refine d6 (R:=λi=>∃n:Nat,i=(n:Int)/\Found l k n)
  (OK.rounds (λs=>∃a b:Nat,s.1=(a:Int)/\s.2=(b:Int)/\a<=b/\b<=l.length/\(∀p∈l.take a,p.Ts<k)/\∀p∈l.drop b,k<=p.Ts) (λs=>s.2.toNat-s.1.toNat) ?_ y _ ⟨0,l.length,rfl,rfl,by omega,by omega,by simp,by simp⟩ (by simp;omega)) ?_
 ·rintro ⟨S,T⟩ C ⟨a,b,G,m,K,o,t,u⟩ I;simp only at G m;subst G;subst m;unfold qH;refine d5 (λh=> ?_) (λh=> ?_)
  ·have h:(a:Int)<b:=by simpa using h
   simp only;rw [RH (x:=(a:Int)+b) (by omega) (by omega)];have em:((a:Int)+b) / 2=(((a+b) / 2:Nat):Int):=by omega
   rw [em];have L:a<=(a+b) / 2:=by omega
   have M:(a+b) / 2<b:=by omega
   refine f9 (i7 (by omega) (λp g=> ?_));unfold vI;by_cases c:p.Ts<k
   ·simp only [c,decide_true,q9,zbs];refine m9 (by decide) ?_;rw [qo (by omega) (by omega)];refine I _ ⟨(a+b) / 2+1,b,by simp,rfl,by omega,o,λq d=> ?_,u⟩ (by simp;omega);rw [x6,g] at d;rcases g8.1 d with d|d
    ·obtain ⟨j,v,rfl⟩:=u5.1 d;have f:j<(a+b) / 2:=by simp at v;omega
     have:=DV B f (p:=l[j]'(by omega)) (zeg (by omega)) g
     grind
    grind
   ·simp only [c,decide_false,zfe,x4];refine d6 (R:=λz=>¬ z<0) ?_ (λz N=> ?_)
    ·refine d5 (λ_=>b9 (by decide)) (λ_=>b9 (by decide))
    ·refine j6 (by simpa using N) ?_;refine I _ ⟨a,(a+b) / 2,rfl,rfl,by omega,by omega,t,λq d=> ?_⟩ (by simp;omega);obtain ⟨j,v,rfl⟩:=u5.1 d;rw [List.getElem_drop];have f:(a+b) / 2+j<l.length:=by simp at v;omega
     cases j with
     |zero=>
      grind
     |succ j=>
      have:=DV B (show (a+b) / 2<(a+b) / 2+(j+1) by omega) g (zeg f);omega
  ·have h:¬ (a:Int)<b:=by simpa using h
   have:a=b:=by omega
   subst this;exact b9 ⟨a,rfl,o,t,u⟩
 ·rintro i ⟨n,rfl,D⟩
  have w:k∉pk (l.take n):=λE=>by
   obtain ⟨p,g,e⟩:=ym.1 E;have:=D.low p g;omega
  have A:pv l k=pv (l.drop n) k:=by
   conv=>lhs;rw [<- yg n l,B4,tO.2 w]
  refine d6 (R:=λb=>b=(pv l k).isSome/\(b=true->∃p,l[n]? =some p/\p.Ts=k)) ?_ (λb o=>b9 ⟨n,rfl,D,o.1,o.2⟩);refine d5 (λc=> ?_) (λc=> ?_)
  ·have c:(n:Int)<l.length:=by simpa using c
   refine f9 (i7 (by omega) (λp g=> ?_))
   have O:l.drop n=p::l.drop (n+1):=by
    obtain ⟨F,rfl⟩:=zes.1 g;exact Sd F
   have U:k<=p.Ts:=D.high p (by grind);unfold vI;by_cases e:p.Ts=k
   ·grind [b9,pv]
   ·have P:¬ p.Ts<k:=by omega
    have Q:p.Ts>k:=by omega
    simp only [P,Q,decide_false,decide_true,zfe,x4,q9,zbs];refine b9 ⟨?_,λh=>by simp at h⟩;rw [A]
    have:k∉pk (l.drop n):=λE=>by
     obtain ⟨q,d,m⟩:=ym.1 E;rw [O] at d;rcases j5.1 d with rfl|d
     ·exact e m
     ·obtain ⟨j,v,rfl⟩:=u5.1 d;rw [List.getElem_drop] at m;have f:n+1+j<l.length:=by simp at v;omega
      have:=DV B (show n<n+1+j by omega) g (zeg f);omega
    rw [tO.2 this];rfl
  ·have c:¬ (n:Int)<l.length:=by simpa using c
   refine b9 ⟨?_,λh=>by cases h⟩;rw [A,ye (by omega)];rfl
theorem NR(f:Srt l)(g:Found l c i)(k:c∉pk l)(x:Int):Srt (l.take i++[⟨c,x⟩]++l.drop i):=by
 unfold Srt;rw [Iv,Iv];have m:(pk (l.take i)).Pairwise (· < ·):=List.Pairwise.sublist (List.Sublist.map _ (List.take_sublist _ _)) f;have n:(pk (l.drop i)).Pairwise (· < ·):=List.Pairwise.sublist (List.Sublist.map _ (List.drop_sublist _ _)) f
 have j:∀a∈pk (l.take i),a<c:=λa b=>by
  obtain ⟨p,h,rfl⟩:=ym.1 b;exact g.low p h
 have d:∀a∈pk (l.drop i),c<a:=λa b=>by
  obtain ⟨p,h,rfl⟩:=ym.1 b;have:=g.high p h;have:¬ c=p.Ts:=λe=>k (by rw [e];exact List.mem_map_of_mem (List.mem_of_mem_drop h))
  omega
 grind [pk]
structure BB (c:Int) (b:qp):Prop where
 cap:b.cap=c
 c1:1<=c
 Vb:c<=16
 len:(b.Sq.length:Int)<=c
 US:Srt b.Sq
theorem BB.done(h:BB c A)(a:Srt l)(b:QH A.Sq l c m z x):BB c ⟨A.cap,l⟩:=by
 refine {h with len:= ?_,US:=a};have:=b.len;have:=h.len
 grind [MC]
theorem Aw{fu:Nat}(g:17<fu)(h:BB B A){op:Int}(Y:0<=op)(Z:op<=4)(k x:Int):
  OK (jO fu A op k x) (λo=>o.1=DU (pv A.Sq k) A.Sq.length B op x/\∃l,o.2=⟨A.cap,l⟩/\Srt l/\QH A.Sq l B op k x):=by
 have hl:A.Sq.length<=16:=by have:=h.len;have:=h.Vb;omega
 have f:=h.US.nd
 have s:∀(j:op=0\/op=1\/(op=3/\pv A.Sq k=none)\/((op=2\/op=4)/\pv A.Sq k=none/\(A.Sq.length:Int)=B)),QH A.Sq A.Sq B op k x:=by
  intro j;refine ⟨λq=> ?_,?_,f⟩
  ·grind [MB]
  grind [MC]
 unfold jO;refine j6 (by simp;omega) ?_;unfold fD;refine d6 (R:=λr=>∃i:Nat,r.1=(i:Int)/\Found A.Sq k i/\r.2=(pv A.Sq k).isSome/\(r.2=true->∃p,A.Sq[i]? =some p/\p.Ts=k)) (d6 (DW g h.US hl k) (λr K=>b9 K)) ?_;rintro ⟨r1,r2⟩ ⟨i,w,C,D,n⟩;simp only at w D n |-;subst w;subst D;have E:∀p,A.Sq[i]? =some p->p.Ts=k->pv A.Sq k=some p.Tp:=λp F e=>by grind [Q6]
 refine d6 (R:=λo=>o=⟨0,(pv A.Sq k).isSome,if op=1 then 0 else (pv A.Sq k).getD 0,false,0,0⟩) ?_ (λo t=> ?_)
 ·refine d5 (λc=> ?_) (λc=> ?_)
  ·grind [f9,i7,b9]
  ·refine b9 ?_;by_cases e:op=1
   ·simp [e]
   ·have:(pv A.Sq k).isSome=false:=by
     grind
    have b:pv A.Sq k=none:=by simpa using this
    simp [b]
 subst t;refine d5 (λe=> ?_) (λL=> ?_)
 ·have e:op=3:=by simpa using e
  subst e;refine d5 (λc=> ?_) (λc=> ?_)
  ·obtain ⟨p,a,G⟩:=n c;have M:=(zes.1 a).1;unfold qi Mr;rw [qo (by omega) (by omega),d8 ⟨by omega,by omega,by omega⟩];have N:((i:Int)+1).toNat=i+1:=by omega
   simp only [zbs,k8,N];refine b9 ⟨by simp [DU],_,rfl,?_,λq=> ?_,?_,f.sublist MA⟩
   ·exact List.Pairwise.sublist MA h.US
   ·grind [P5,MB]
   grind [MC]
  ·have b:pv A.Sq k=none:=by simpa using c
   refine b9 ⟨by simp [DU],_,rfl,h.US,s (.inr (.inr (.inl ⟨rfl,b⟩)))⟩
 have n3:¬ op=3:=by simpa using L
 refine d6 (R:=λA=>A=decide (op=2\/op=4)) ?_ (λz O=> ?_)
 ·refine d5 (λe=>b9 ?_) (λe=>b9 ?_)
  ·grind
  grind
 subst O;refine d5 (λe=> ?_) (λe=> ?_)
 ·have e:op=2\/op=4:=by simpa using e
  have n0:¬ op=0:=by omega
  have n1:¬ op=1:=by omega
  refine d5 (λc=> ?_) (λc=> ?_)
  ·have b:pv A.Sq k=none:=by simp at c;exact c.1
   have d:(A.Sq.length:Int)=B:=by simp at c;have:=h.cap;omega
   refine b9 ⟨?_,_,rfl,h.US,s (.inr (.inr (.inr ⟨e,b,d⟩)))⟩
   grind [DU]
  ·have P:¬ (pv A.Sq k=none/\(A.Sq.length:Int)=B):=by
    rintro ⟨a1,a2⟩;have:=h.cap
    grind
   have u:MB (pv A.Sq k) A.Sq.length B op x=some (if op=4 then xW ((pv A.Sq k).getD 0+x) else x):=by
    grind [MB]
   refine d6 (R:=λ(m:qp)=>m.cap=A.cap/\m.Sq.length=(if pv A.Sq k=none then A.Sq.length+1 else A.Sq.length)/\Srt m.Sq/\(∃p,m.Sq[i]? =some p/\p.Ts=k)/\∀q,q≠k->pv m.Sq q=pv A.Sq q) ?_ (λm Q=> ?_)
   ·refine d5 (λv=> ?_) (λv=> ?_)
    ·have b:pv A.Sq k=none:=by simpa using v
     have S:=C.le;unfold qj O3;rw [d8 ⟨by omega,by omega,by simp;omega⟩];simp only [zbs,k8];refine b9 ⟨rfl,?_,NR h.US C (tO.1 b) 0,⟨⟨k,0⟩,?_,rfl⟩,λq F=> ?_⟩
     ·grind
     ·grind
     ·have T:¬ k=q:=λz=>F z.symm
      conv=>rhs;rw [<- yg i A.Sq,B4]
      grind [B4,pv]
    ·have U:(pv A.Sq k).isSome=true:=by simpa using v
     have b:¬ pv A.Sq k=none:=λe=>by grind
     exact b9 ⟨rfl,by rw [d7 b],h.US,n U,λq _=>rfl⟩
   obtain ⟨V,m2,I,⟨p,a,G⟩,m5⟩:=Q;refine d6 (R:=λo=>o=((if op=4 then xW ((pv A.Sq k).getD 0+x) else x),DU (pv A.Sq k) A.Sq.length B op x)) ?_ (λo t=> ?_)
   ·refine d5 (λW=>b9 ?_) (λW=>b9 ?_)
    ·grind [DU]
    grind [DU]
   subst t;refine f9 (i7 (zes.1 a).1 (λy J=>b9 ?_));rw [a] at J;cases J;refine ⟨rfl,_,by rw [V],?_,λq=> ?_,?_,?_⟩
   ·grind [Srt,pk,Mz]
   ·rw [u];subst G;rw [show Int.toNat (i:Int)=i from rfl,P4 I.nd a]
    grind
   ·grind [MC,pv]
   ·rw [show pk (m.Sq.set (Int.toNat (i:Int)) ⟨p.Ts,_⟩)=pk m.Sq from Mz a _];exact I.nd
 ·have e:¬ (op=2\/op=4):=by simpa using e
  have X:op=0\/op=1:=by omega
  refine b9 ⟨?_,_,rfl,h.US,s (by grind)⟩
  grind [DU]
theorem ga(h:o[i]? =some x):(o.take (i+1)).filter (· !=c)=(o.take i).filter (· !=c)++if x !=c then [x] else []:=by
 rw [x6,h,y9]
 grind
theorem DX(l:List Int)(k:Int)(hl:l.length<=100):OK (qU l k) (λi=>(i= -1/\k∉l)\/∃n:Nat,i=(n:Int)/\l[n]? =some k/\k∉l.take n):=by
 unfold qU;refine d6 (R:=λo=>match o with|.inl _=>k∉l|.inr i=>∃n:Nat,i=(n:Int)/\l[n]? =some k/\k∉l.take n) (g9 (λi _=>k∉l.take i) (by simp) ?_ ?_) ?_
 ·intro i s a c h d;unfold xU bJ;refine f9 (i7 c (λy e=> ?_));simp only [zbs];refine d5 (λb=>b9 ?_) (λb=>d _ ?_)
  ·grind
  ·have f:¬ y=k:=by simpa using b
   rw [x6,e]
   grind
 ·grind
 grind [b9]
theorem dB(h:c∉o):o.filter (· !=c)=o:=by
 refine List.filter_eq_self.2 (λx a=> ?_)
 grind
theorem tP(v:101<C)(l:List Int)(k:Int)(hl:l.length<=100):qM C l k=some (l.filter (· !=k)):=by
 refine OK.is ?_;unfold qM;refine d6 (DX l k hl) (λi w=> ?_);refine d5 (λc=> ?_) (λc=> ?_)
 ·grind [b9,dB]
 ·rcases w with ⟨rfl,q⟩|⟨n,rfl,r,q⟩
  ·simp at c
  have x:=(zes.1 r).1
  refine d6 (R:=λs=>∃m:Nat,s.2=(m:Int)/\m<=l.length/\s.1.length=l.length/\s.1.take m=l.filter (· !=k))
   (OK.rounds (λs=>∃a b:Nat,s.2.1=(a:Int)/\s.2.2=(b:Int)/\a<b/\b<=l.length/\s.1.length=l.length/\s.1.take a=(l.take b).filter (· !=k)/\s.1.drop b=l.drop b) (λs=>l.length-s.2.2.toNat) ?_ C _ ?_ ?_) ?_
  ·rintro ⟨s,B,D⟩ p ⟨a,b,g,t,A,E,d,f,o⟩ u;simp only at g t d f o;subst g;subst t;unfold xI bJ;simp only;refine d5 (λh=> ?_) (λh=> ?_)
   ·have h:(b:Int)<s.length:=by simpa using h
    refine f9 (i7 (by omega) (λy F=> ?_))
    have j:l[b]? =some y:=by
     have:=congrArg (λz=>z[0]?) o
     grind
    simp only [zbs];refine d5 (λe=> ?_) (λe=> ?_)
    ·have e:¬ y=k:=by simpa using e
     refine f9 (i7 (by omega) (λz G=> ?_));rw [qo (by omega) (by omega),qo (by omega) (by omega)];refine u _ ⟨a+1,b+1,by simp,by simp,by omega,by omega,by simp [d],?_,?_⟩ (by simp;omega)
     ·rw [ga j,d8 (by simpa using e),<- f];show (s.set a y).take (a+1)=_;rw [x6,yh (by omega),List.take_set_of_le (by omega)];rfl
     ·show (s.set a y).drop (b+1)=_;rw [List.drop_set_of_lt (by omega)];have:=congrArg (List.drop 1) o;rw [yj,yj] at this
      grind
    ·have e:y=k:=by simpa using e
     rw [qo (by omega) (by omega)];refine u _ ⟨a,b+1,rfl,by simp,by omega,by omega,d,?_,?_⟩ (by simp;omega)
     ·rw [ga j,d7 (by simpa using e),i9,<- f]
     ·have:=congrArg (List.drop 1) o;rw [yj,yj] at this
      grind
   grind [b9]
  ·refine ⟨n,n+1,rfl,by grind [qo],by omega,by omega,rfl,?_,rfl⟩;rw [ga r];simp [dB q]
  ·grind
  ·rintro ⟨s,z⟩ ⟨m,g,I,d,f⟩;simp only at g d f |-;subst g;rw [ab rfl (by omega)];simp only [zbs];rw [oh rfl (by simp;omega)];simp only [zbs,k8];refine b9 ?_;rw [<- f,y7 (by simp;omega),z8,Nat.min_self]
open Go.Sx
structure LB (c:Int) (a:qA):Prop where
 bb:BB c a.TG
 nd:a.TM.Nodup
 mem:∀k,k∈a.TM↔(pv a.TG.Sq k).isSome=true
 len:a.TM.length=a.TG.Sq.length
theorem pi(b:o.Nodup)(h:x∈o):(o.filter (· !=x)).length+1=o.length:=by
 induction o with
 |nil=>cases h
 |cons a o i=>
  grind [dB]
theorem MD:c∈o.filter (· !=x)↔c∈o/\c≠x:=by grind
theorem LB.out(h:LB c ⟨A,o⟩)(d:BB c ⟨A.cap,l⟩)(f:∀q,pv l q=if q=x then none else pv A.Sq q)(hl:l.length=if (pv A.Sq x).isSome then A.Sq.length-1 else A.Sq.length):LB c ⟨⟨A.cap,l⟩,o.filter (· !=x)⟩:=by
 refine ⟨d,h.nd.filter _,λq=> ?_,?_⟩
 ·show q∈o.filter (· !=x)↔(pv l q).isSome=true;rw [MD,f q];have b:q∈o↔(pv A.Sq q).isSome=true:=h.mem q
  grind
 ·show (o.filter (· !=x)).length=l.length;have b:x∈o↔(pv A.Sq x).isSome=true:=h.mem x;have a:o.length=A.Sq.length:=h.len;by_cases e:x∈o
  ·have:=pi (show o.Nodup from h.nd) e
   grind
  ·rw [hl,d7 (λz=>e (b.2 z)),dB e];exact a
theorem DY(h:101<i)(a:qA)(k:Int)(hl:a.TM.length<=100):xD i a k=some ⟨a.TG,a.TM.filter (· !=k)⟩:=by
 unfold xD;rw [tP h _ _ hl];rfl
theorem KU(h:101<i)(a:qA)(k:Int)(hl:a.TM.length<=100):xX i a k=some ⟨a.TG,k::a.TM.filter (· !=k)⟩:=by
 unfold xX;rw [DY h a k hl,zbs];have b:(a.TM.filter (· !=k)).length<=100:=q8 (List.length_filter_le _ _) hl
 grind [jF,O3]
theorem LB.le(h:LB c a):a.TM.length<=16:=by
 have b:=h.len;have d:=h.bb.len;have e:=h.bb.Vb;omega
theorem KV(e:101<i)(h:LB c a)(k:1<=a.TG.Sq.length)(p:zk):
  OK (cJ i a p) (λr=>LB c r.1/\r.1.TG.Sq.length+1=a.TG.Sq.length/\∀q,pv a.TG.Sq q=none->pv r.1.TG.Sq q=none):=by
 obtain ⟨b,o⟩:=a;have hl:o.length=b.Sq.length:=h.len;have n:o.length<=16:=h.le;have k:1<=b.Sq.length:=k;unfold cJ;show OK ((Go.Sx.idx o (w64 ((o.length:Int)-1))).bind _) _;rw [qo (by omega) (by omega)];obtain ⟨x,s,u⟩:=oX (xs:=o) (t:=(o.length:Int)-1) (by omega) (by omega);rw [s,zbs];have f:x∈o:=zmg u;have v:(pv b.Sq x).isSome=true:=(h.mem x).1 f;obtain ⟨r,w,C,l,g,y,j⟩:=Aw (fu:=i) (by omega) h.bb (op:=3) (by omega) (by omega) x 0;obtain ⟨D,z⟩:=r;have g:z=⟨b.cap,l⟩:=g;subst g;rw [show jO i b 3 x 0=_ from w,zbs];have m:∀q,pv l q=if q=x then none else pv b.Sq q:=j.UW
 have d:l.length=if (pv b.Sq x).isSome then b.Sq.length-1 else b.Sq.length:=j.len
 have A:=h.out (h.bb.done y j) m d;rw [show xD i ⟨⟨b.cap,l⟩,o⟩ x=some ⟨⟨b.cap,l⟩,o.filter (· !=x)⟩ from DY e ⟨⟨b.cap,l⟩,o⟩ x (by grind),zbs];refine ⟨_,rfl,A,?_,λq B=> ?_⟩
 ·grind
 ·show pv l q=none;rw [m q];split
  ·rfl
  ·exact B
theorem Iw(j:101<i)(h:LB c ⟨A,o⟩)(K:0<=m)(L:m<=4)(G:Srt l)(y:QH A.Sq l c m B x)
  (k:¬ ((m=2\/m=4)/\pv A.Sq B=none/\(A.Sq.length:Int)=c)) (M:m=0->found=(pv A.Sq B).isSome) (d:zk):
  OK ((if (m==2) then some (m==2) else if (m==4) then some (m==4) else if (m==0) then some found else some false).bind λn=>
   if n then (xX i ⟨⟨A.cap,l⟩,o⟩ B).bind λa=>some (d,a)
   else if (m==3) then (xD i ⟨⟨A.cap,l⟩,o⟩ B).bind λp=>some (d,p) else some (d,(⟨⟨A.cap,l⟩,o⟩:qA))) (λr=>LB c r.2):=by
 have I:o.length<=16:=h.le;have F:o.length=A.Sq.length:=h.len;have C:=h.bb.done G y;have N:∀q,q∈o↔(pv A.Sq q).isSome=true:=h.mem
 have t:(pv l B).isSome=true->(∀q,q≠B->pv l q=pv A.Sq q)->l.length=(if (pv A.Sq B).isSome then A.Sq.length else A.Sq.length+1)->OK ((xX i ⟨⟨A.cap,l⟩,o⟩ B).bind λa=>some (d,a)) (λr=>LB c r.2):=by
  intro O u hl;rw [KU j ⟨⟨A.cap,l⟩,o⟩ B (by grind)];refine ⟨_,rfl,C,?_,λq=> ?_,?_⟩
  ·show (B::o.filter (· !=B)).Nodup;exact s7.2 ⟨λz=>(MD.1 z).2 rfl,h.nd.filter _⟩
  ·grind
  ·show (B::o.filter (· !=B)).length=l.length;rw [u7,hl];by_cases e:B∈o
   ·have:=pi (show o.Nodup from h.nd) e
    grind
   grind [dB]
 have s:(∀q,pv l q=pv A.Sq q)->l.length=A.Sq.length->LB c ⟨⟨A.cap,l⟩,o⟩:=λu hl=>⟨C,h.nd,λq=>by grind,by grind⟩
 have f:m=0\/m=1\/m=2\/m=3\/m=4:=by omega
 have w:=y.UW;have b:=y.len;rcases f with rfl|rfl|rfl|rfl|rfl
 ·have u:∀q,pv l q=pv A.Sq q:=λq=>by
   rw [w q];split
   ·rename_i e;subst e;rfl
   ·rfl
  have g:l.length=A.Sq.length:=b;simp only [show ((0:Int)==2)=false from rfl,show ((0:Int)==4)=false from rfl,show ((0:Int)==0)=true from rfl,show ((0:Int)==3)=false from rfl,zfe,x4,q9,zbs];cases J:found with
  |true=>
   grind
  |false=>
   simp only [zfe,x4];exact ⟨_,rfl,s u g⟩
 ·have u:∀q,pv l q=pv A.Sq q:=λq=>by
   rw [w q];split
   ·rename_i e;subst e;rfl
   ·rfl
  have g:l.length=A.Sq.length:=b;simp only [show ((1:Int)==2)=false from rfl,show ((1:Int)==4)=false from rfl,show ((1:Int)==0)=false from rfl,show ((1:Int)==3)=false from rfl,zfe,x4,zbs];exact ⟨_,rfl,s u g⟩
 ·simp only [show ((2:Int)==2)=true from rfl,q9,zbs];have D:¬ (pv A.Sq B=none/\(A.Sq.length:Int)=c):=λz=>k ⟨.inl rfl,z⟩
  refine t ?_ (λq e=>by rw [w q,d7 e]) ?_
  ·grind [MB]
  ·rw [b];unfold MC;rw [d7 (by decide)];cases E:pv A.Sq B with
   |none=>rw [d8 ⟨.inl rfl,rfl,λz=>D ⟨E,z⟩⟩,d7 (by simp)]
   |some v=>rw [d7 (λz=>by cases z.2.1),d8 (show (some v).isSome=true from rfl)]
 ·simp only [show ((3:Int)==2)=false from rfl,show ((3:Int)==4)=false from rfl,show ((3:Int)==0)=false from rfl,show ((3:Int)==3)=true from rfl,zfe,x4,q9,zbs];rw [DY j ⟨⟨A.cap,l⟩,o⟩ B (by grind)];exact ⟨_,rfl,h.out C w b⟩
 ·simp only [show ((4:Int)==2)=false from rfl,show ((4:Int)==4)=true from rfl,zfe,x4,q9,zbs];have D:¬ (pv A.Sq B=none/\(A.Sq.length:Int)=c):=λz=>k ⟨.inr rfl,z⟩
  refine t ?_ (λq e=>by rw [w q,d7 e]) ?_
  ·grind [MB]
  ·rw [b];unfold MC;rw [d7 (by decide)];cases E:pv A.Sq B with
   |none=>rw [d8 ⟨.inr rfl,rfl,λz=>D ⟨E,z⟩⟩,d7 (by simp)]
   |some v=>rw [d7 (λz=>by cases z.2.1),d8 (show (some v).isSome=true from rfl)]
open Go.Sx
theorem LB.same(h:LB c ⟨A,o⟩)(a:BB c ⟨A.cap,l⟩)(b:∀q,pv l q=pv A.Sq q)(hl:l.length=A.Sq.length):LB c ⟨⟨A.cap,l⟩,o⟩:=
 ⟨a,h.nd,λq=>by show q∈o↔(pv l q).isSome=true;rw [b q];exact h.mem q,by show o.length=l.length;rw [hl];exact h.len⟩
theorem Ix(h:m=2\/m=4)(a:v=none)(b:(n:Int)=c):(DU v n c m x).E=40:=by
 grind [DU]
theorem Iy(h:¬ ((m=2\/m=4)/\v=none/\(n:Int)=c))(a:0<=m)(b:m<=4):(DU v n c m x).E=0:=by
 grind [DU]
theorem KW(h:m=0):(DU v n c m x).Found=v.isSome:=by subst h;rfl
theorem P6(g:101<i)(h:LB c a)(j:0<=B)(n:B<=4)(k x:Int):OK (dY i a B k x) (λr=>LB c r.2):=by
 obtain ⟨b,o⟩:=a;unfold dY;obtain ⟨⟨p,K⟩,L,M,l,u,G,s⟩:=Aw (fu:=i) (by omega) h.bb j n k x;have N:p=DU (pv b.Sq k) b.Sq.length c B x:=M;have u:K=⟨b.cap,l⟩:=u;subst u;rw [show jO i b B k x=_ from L,zbs];have O:=h.bb.done G s;by_cases d:(B=2\/B=4)/\pv b.Sq k=none/\(b.Sq.length:Int)=c
 ·obtain ⟨P,Z,hn⟩:=d;have t:p.E=40:=by grind [Ix]
  have Q:∀q,pv l q=pv b.Sq q:=λq=>by
   rw [s.UW q]
   grind [MB]
  have hl:l.length=b.Sq.length:=by
   rw [s.len]
   grind [MC]
  have R:=h.same O Q hl;have S:=h.bb.c1;obtain ⟨m,T,I,J,U⟩:=KV g R (by grind) (zk.mk 0 false 0 false 0 0);obtain ⟨⟨f,o3⟩,m2⟩:=m;have J:f.Sq.length+1=l.length:=J;have V:pv f.Sq k=none:=U k (by grind);obtain ⟨⟨v,W⟩,w,X,Y,y,A,C⟩:=Aw (fu:=i) (by omega) I.bb j n k x;have f3:v=DU (pv f.Sq k) f.Sq.length c B x:=X;have y:W=⟨f.cap,Y⟩:=y;subst y;have D:¬ ((B=2\/B=4)/\pv f.Sq k=none/\(f.Sq.length:Int)=c):=λz=>by grind
  have F:v.E=0:=by grind [Iy]
  rw [d8 (by simp [t]),T];simp only [zbs];rw [show jO i f B k x=_ from w];simp only [zbs];rw [d7 (by simp [F])];exact Iw g I j n A C D (found:=v.Found) (λe=>by grind) _
 ·have t:p.E=0:=by rw [N];exact Iy d j n
  rw [d7 (by simp [t])];simp only [zbs];rw [d7 (by simp [t])];exact Iw g h j n G s d (found:=p.Found) (λe=>by grind [KW]) _
def ot(s:qm):Prop:=match s with
 |.inl b=>∃c,BB c b
 |.inr a=>∃c,LB c a
theorem KX(d:101<i)(h:ot D)(e:0<=m)(f:m<=4)(k x:Int):OK (jG i D m k x) (λr=>ot r.2):=by
 cases D with
 |inl b=>
  obtain ⟨c,h⟩:=h;obtain ⟨r,g,q,l,j,n,o⟩:=Aw (fu:=i) (by omega) h e f k x;unfold jG;refine ⟨(r.1,.inl r.2),by grind,c,?_⟩;show BB c r.2;rw [j];exact h.done n o
 |inr a=>
  obtain ⟨c,h⟩:=h;obtain ⟨r,g,p⟩:=P6 d h e f k x;unfold jG;exact ⟨(r.1,.inr r.2),by grind,c,p⟩
theorem wC(h:BB c A):vt A=some A.Sq:=by
 have d:=h.len;have e:=h.Vb;unfold vt zN;obtain ⟨u,a⟩:=cQ (m:=([]:List zt).length+A.Sq.length) (b:=16) (by simp;omega);rw [a];rfl
theorem DZ(h:ot D):OK (jy D) (λr=>r.length<=16):=by
 cases D with
 |inl b=>
  obtain ⟨c,h⟩:=h;have d:=h.len;have e:=h.Vb;unfold jy;exact ⟨b.Sq,by grind [wC],by omega⟩
 |inr a=>
  obtain ⟨c,h⟩:=h;have d:=h.bb.len;have e:=h.bb.Vb;unfold jy;exact ⟨a.TG.Sq,by simp only [wC h.bb,zbs],by omega⟩
theorem sN(n:Int):iE n=some (none,2)\/∃b,iE n=some (some b,0)/\BB n b/\b.Sq=[]:=by
 unfold iE;split
 ·exact .inl rfl
 ·rename_i h
  simp only [r6,zdq,not_or] at h;exact .inr ⟨_,rfl,⟨rfl,by omega,by omega,by grind,List.Pairwise.nil⟩,rfl⟩
theorem B5(d:jL):(∃e,ek d=some (none,e)/\e≠0)\/∃s,ek d=some (some s,0)/\ot s:=by
 unfold ek;split
 ·rcases sN d.UC with h|⟨b,h,a,_⟩
  ·rw [h];exact .inl ⟨2,rfl,by decide⟩
  ·rw [h];exact .inr ⟨_,rfl,_,a⟩
 ·split
  ·unfold pS;rcases sN d.UC with h|⟨b,h,a,c⟩
   ·rw [h];exact .inl ⟨2,rfl,by decide⟩
   ·rw [h];exact .inr ⟨_,rfl,_,⟨a,m6,λk=>by rw [c];simp [pv],by rw [c];rfl⟩⟩
  grind
open Go.Sx
def Rx(o:zc)(r:zp):Prop:=0<=r.Item.Tc/\r.Item.Tc<o.maps.length/\(r.TQ=true\/(0<=r.Item.Op/\r.Item.Op<5))
structure iV (o:zc):Prop where
 s1:1<=o.Tt
 s4:o.Tt<=4
 m4:o.maps.length<=4
 all:∀s∈o.maps,ot s
 Uj:∀r∈o.Sr,Rx o r
theorem Ax(h:0<=x)(a:x<=1000):xW x=x:=by rw [P3];omega
theorem KY{k:Int}(a:1<=x)(b:x<=4):OK (av k x) (λ_=>True):=by
 unfold av;rw [d7 (by simp;omega)];have h:nz (xW x)=some ():=by unfold nz;rw [Ax (by omega) (by omega),d7 (by omega)]
 rw [h];exact ⟨_,rfl,trivial⟩
theorem D0(a:1<=E.Tt)(c:E.Tt<=4)(r:zp):OK (xN E r) (λb=>b=true->Rx E r):=by
 unfold xN;split
 ·exact ⟨_,rfl,λz=>by cases z⟩
 ·rename_i d
  simp only [r6,zdq,not_or] at d;split
  ·rename_i e
   exact ⟨_,rfl,λ_=>⟨by omega,by omega,.inl e⟩⟩
  ·split
   ·split
    ·rename_i f g
     have i:=yd f;have h:=yd g;obtain ⟨q,j,_⟩:=KY (k:=r.Item.Ts) a c;rw [j];exact ⟨_,rfl,λ_=>⟨by omega,by omega,.inr ⟨by omega,h⟩⟩⟩
    ·exact ⟨_,rfl,λz=>by cases z⟩
   ·exact ⟨_,rfl,λz=>by cases z⟩
theorem pj(c:101<i)(h:iV E):OK (jJ i E) (λq=>iV q.2.2/\q.2.2.maps.length=E.maps.length/\
  ((E.Sr=[]/\q.2.1=false/\q.2.2=E)\/∃x a,E.Sr=x::a/\q.2.1=true/\q.2.2.Sr=a/\q.1.To=x.TJ/\q.1.Ug=x.Ug/\q.1.TQ=x.TQ/\q.1.Item=x.Item/\q.1.Pairs.length<=16)):=by
 unfold jJ;cases hl:E.Sr with
 |nil=>
  rw [d8 (by rfl)];exact ⟨_,rfl,h,rfl,.inl ⟨rfl,rfl,rfl⟩⟩
 |cons x a=>
  rw [d7 (by simp;omega)];have l:Go.Sx.idx (x::a) 0=some x:=rfl
  have m:cut (x::a) 1 ((x::a).length:Int)=some a:=by
   unfold cut;rw [d8 (by simp;omega)];simp
  rw [l,zbs,m,zbs];obtain ⟨n,o,A⟩:=h.Uj x (by grind);obtain ⟨s,k,p⟩:=oX n o;have b:=h.all s (zmg p);split
  ·rw [k,zbs];obtain ⟨g,u,d⟩:=DZ b;rw [u,zbs];exact ⟨_,rfl,⟨h.s1,h.s4,h.m4,h.all,λr v=>h.Uj r (by grind)⟩,rfl,.inr ⟨x,a,rfl,rfl,rfl,rfl,rfl,rfl,rfl,d⟩⟩
  ·rename_i B
   rw [k,zbs]
   have f:0<=x.Item.Op/\x.Item.Op<5:=by
    grind
   obtain ⟨q,w,e⟩:=KX c b f.1 (by omega) x.Item.Ts x.Item.Tp;rw [w,zbs];refine ⟨_,rfl,⟨h.s1,h.s4,by show (E.maps.set _ _).length<=4;rw [j8];exact h.m4,λt j=> ?_,λr v=> ?_⟩,by grind,.inr ⟨x,a,rfl,rfl,rfl,rfl,rfl,rfl,rfl,by simp⟩⟩
   ·rcases q7 j with j|rfl
    ·exact h.all t j
    ·exact e
   ·obtain ⟨y,C,z⟩:=h.Uj r (by grind);exact ⟨y,by grind,z⟩
theorem sb(h:E.Sr.length*56<=140737488355328):vp E=some E.Sr:=by
 unfold vp qq;obtain ⟨u,a⟩:=cQ (m:=([]:List zp).length+E.Sr.length) (b:=56) (by simpa using h);rw [a];rfl
theorem B6(s n:Int)(d:List jL):(∃e,bW s n d=some (none,e)/\e≠0)\/∃o,bW s n d=some (some o,0)/\iV o/\o.Sr=[]/\o.Sv=false/\o.Tt=n/\o.TP=s/\o.maps.length=d.length/\1<=n/\n<=4/\0<=s/\s<n:=by
 unfold bW;split
 ·grind
 ·rename_i l
  simp only [r6,zdq,not_or] at l;obtain ⟨⟨⟨⟨I,J⟩,K⟩,L⟩,M⟩:=l
  obtain ⟨q,w,y⟩:=nf (body:=iF d) (out:=λs=>.inl s) (N:=d.length) (λi o=>o.TP=s/\o.Tt=n/\o.Sr=[]/\o.Sv=false/\o.maps.length=i/\∀x∈o.maps,ot x)
   (λq=>match q with
    |.inl o=>o.TP=s/\o.Tt=n/\o.Sr=[]/\o.Sv=false/\o.maps.length=d.length/\∀x∈o.maps,ot x
    |.inr z=>z.1=none/\z.2≠0) (λi o c A B C=>by
   obtain ⟨f,g,j,k,p,t⟩:=B;unfold iF;rw [nO A,zbs];rcases B5 d[i] with ⟨e,D,a⟩|⟨m,E,F⟩
   ·rw [D,zbs];exact ⟨.inr (none,e),by simp [vT,a],rfl,a⟩
   ·rw [E,zbs];simp only [vT];rw [d7 (by simp)];obtain ⟨u,G⟩:=cQ (m:=o.maps.length+[m].length) (b:=16) (by grind);rw [G,zbs];refine C _ ⟨f,g,j,k,by grind,λx v=> ?_⟩
    grind) (λs h=>h) d.length 0 (zc.mk s n [] [] false) (by omega) ⟨rfl,rfl,rfl,rfl,rfl,λx v=>by cases v⟩
  rw [w,zbs];cases q with
  |inl o=>
   obtain ⟨f,g,j,k,p,t⟩:=y;exact .inr ⟨o,rfl,⟨by omega,by omega,by omega,t,λr O=>by grind⟩,j,k,g,f,p,by omega,by omega,by omega,by omega⟩
  |inr z=>
   grind
set_option maxRecDepth 100000
open Go.Sx
open Go.Sx
theorem lF{b c:Type}{body:(b->Option c)->b->Option c}(I:Nat->b->Prop)(Q:c->Prop)
  (h:∀m s (a:b->Option c),I m s->(∀d f,d<m->I d f->∃r,a f=some r/\Q r)->∃r,body a s=some r/\Q r):
  ∀(fu m:Nat)(s:b),m<fu->I m s->∃r,loop body fu s=some r/\Q r
 |0,m,s,e,_=>absurd e (Nat.not_lt_zero _)
 |fu+1,m,s,e,g=>h m s _ g λd f j i=>lF I Q h fu d f (by omega) i
theorem Iz{c:zH}{fu:Nat}(l:0<=c.SA)(v:c.SA<=4)(n:10<fu):
  ∃o,loop (nY c) fu ([],0)=some o/\match o with
   |.inl a=>(a.length:Int)=c.SA/\∀r∈a,kF r/\r.waiting=[]/\r.TK=false/\r.room=c.Td/\r.Sj=⟨0,0,0,0,0⟩
   |.inr z=>z.1=none/\z.2≠0:=by
 refine lF (λm s=>(s.1.length:Int)=s.2/\s.2<=c.SA/\s.2+m=c.SA/\∀r∈s.1,kF r/\r.waiting=[]/\r.TK=false/\r.room=c.Td/\r.Sj=⟨0,0,0,0,0⟩) _ (λm s d p q=> ?_) fu c.SA.toNat ([],0) (by omega) ⟨rfl,l,by grind,λr e=>by cases e⟩;obtain ⟨a,i⟩:=s;obtain ⟨f,g,j,w⟩:=p;have f:(a.length:Int)=i:=f;have g:i<=c.SA:=g;have j:i+m=c.SA:=j;unfold nY;show ∃r,(if decide (i<c.SA)=true then _ else _)=some r/\_;by_cases k:i<c.SA
 ·rw [d8 (by simpa using k)];rcases DE c.Td (zJ.mk 0) with h|⟨r,h,e⟩
  ·exact ⟨.inr (none,2),by rw [h];rfl,rfl,by decide⟩
  ·rw [h,zbs];simp only [vT];rw [d7 (by simp)];obtain ⟨u,t⟩:=cQ (m:=a.length+[r].length) (b:=8) (by grind);rw [t,zbs,qo (by omega) (by omega)];refine q (m-1) _ (by omega) ⟨?_,?_,?_,λx y=> ?_⟩
   ·grind
   ·grind
   ·grind
   grind
 ·rw [d7 (by simpa using k)]
  grind
end Go.Proofs.YtplmgfkghomelaaGreatDoor.KH
namespace Go.Proofs.YtplmgfkghomelaaGreatDoor
open Go.Sx
variable {a:Type}
structure EM where
 SK:qt
 module:zD
 Tn:zm
 regs:Nat->Int
 Si:Nat->Int
 SO:Int
 steps:Int
 state:Int
def AA(f:Nat)(p:EM)(b:Int):Option (qT×EM):=
 (mu b).bind λa=>
 if a.2 then
  (idx p.module.Maps (p.regs 1)).bind λx=>
  (xT f b).bind λc=>
  (if decide (((c).length:Int)>2) then
   some (p.regs 3)
  else
   some 0).bind λd=>
  some ((qT.mk 2 p.SO (zg.mk x a.1 (p.regs 2) d) 0),{p with state:=1})
 else
  (if (b==5) then
   (jX p.Tn.SQ (w64 (p.regs 1))).bind λr=>
   some ({p with Tn:=(zm.mk p.Tn.Tr r.2.2),regs:=(aset p.regs 0 r.1)},(qT.mk 1 p.SO (zg.mk 0 0 0 0) r.1))
  else
   some ({p with regs:=(aset p.regs 0 0)},(qT.mk 3 p.SO (zg.mk 0 0 0 0) (p.regs 1)))).bind λo=>
  some (o.2,(EM.mk o.1.SK o.1.module o.1.Tn o.1.regs o.1.Si (w64 (o.1.SO+1)) o.1.steps o.1.state))
def ii(a:EM)(p:zf):Option Int:=
 if (p.B==8) then
  some (xW p.Tm)
 else
  (ain 8 p.B).bind λi=>
  some (a.regs i)
def Cg(p:EM)(a:zf):Option (Int×EM):=
 if (a.Op==0) then
  (ii p a).bind λs=>
  (ain 8 a.D).bind λt=>
  some (1,{p with regs:=(aset p.regs t s)})
 else
  if (a.Op==11) then
   (ii p a).bind λu=>
   (xH p.Tn.Tr (w64 u)).bind λv=>
   (ain 8 a.D).bind λw=>
   some (1,{p with regs:=(aset p.regs w v.1)})
  else
   if (a.Op==12) then
    (ain 8 a.A).bind λd=>
    (ii p a).bind λe=>
    (xq p.Tn.Tr (w64 e) (p.regs d)).bind λf=>
    some (1,{p with Tn:=(zm.mk f.2 p.Tn.SQ)})
   else
    if (a.Op==13) then
     (ain 8 a.D).bind λi=>
     if (a.Tm==1) then
      some (1,{p with regs:=(aset (aset p.regs i p.SK.A) i p.SK.B)})
     else
      some (1,{p with regs:=(aset p.regs i p.SK.A)})
    else
     if (a.Op==14) then
      (ain 8 a.D).bind λg=>
      some (1,{p with regs:=(aset p.regs g (xW a.Tm))})
     else
      if (a.Op==15) then
       some (w64 (a.D+1),p)
      else
       if (a.Op==20) then
        ((ain 8 a.A).bind λh=>
        if ((p.regs h) !=0) then
         (ain 64 p.SO).bind λj=>
         some (decide ((p.Si j)<a.Tm))
        else
         some false).bind λo=>
        if o then
         (ain 64 p.SO).bind λb=>
         some (w64 (0-a.D),{p with Si:=(aset p.Si b (w64 ((p.Si b)+1)))})
        else
         (ain 64 p.SO).bind λk=>
         some (1,{p with Si:=(aset p.Si k 0)})
       else
        (ain 8 a.A).bind λc=>
        (ii p a).bind λl=>
        (gw a.Op (p.regs c) l).bind λr=>
        if r.2 then
         (ain 8 a.D).bind λm=>
         some (1,{p with regs:=(aset p.regs m r.1)})
        else
         (ii p a).bind λn=>
         (bp a.Op (p.regs c) n).bind λq=>
         if q.1 then
          some (w64 (a.D+1),p)
         else
          some (1,p)
def tV(f:Nat)(p:EM):Option (qT×EM):=
 if (p.state==1) then
  some ((qT.mk 5 p.SO (zg.mk 0 0 0 0) 0),p)
 else
  if (p.state==2) then
   (idx p.module.Code p.SO).bind λb=>
   (ain 8 b.A).bind λi=>
   some ((qT.mk 6 p.SO (zg.mk 0 0 0 0) (p.regs i)),p)
  else
   (idx p.module.Code p.SO).bind λx=>
   if (x.Op==21) then
    (AA f {p with steps:=(w64 (p.steps+1))} x.Tm).bind λa=>
    some (a.1,a.2)
   else
    if (x.Op==22) then
     (ain 8 x.A).bind λc=>
     some ((qT.mk 4 p.SO (zg.mk 0 0 0 0) (p.regs c)),{p with steps:=(w64 (p.steps+1)),state:=2})
    else
     (Cg {p with steps:=(w64 (p.steps+1))} x).bind λr=>
     some ((qT.mk 1 p.SO (zg.mk 0 0 0 0) 0),(EM.mk r.2.SK r.2.module r.2.Tn r.2.regs r.2.Si (w64 (p.SO+r.1)) r.2.steps r.2.state))
def mH(p:EM)(a:zk):Option (Int×EM):=
 if (p.state !=1) then
  some (2,p)
 else
  (idx p.module.Code p.SO).bind λx=>
  (gG x.Tm a).bind λr=>
  some (0,{p with regs:=(aset p.regs 0 r),SO:=(w64 (p.SO+1)),state:=0})
def pk(M:zq)(S:zm):EM:={M with Tn:=S}
theorem Br.ite{a b:Type}{f:a->b}{c:Bool}{A B:Option b}{d e:Option a}(h:A=d.map f)(g:B=e.map f):(if c then A else B)=(if c then d else e).map f:=by
 grind
theorem Br.bind{c b:Type}{f:a->c}{o:Option b}{A:b->Option c}{d:b->Option a}(h:∀x,A x=(d x).map f):o.bind A=(o.bind d).map f:=by
 cases o with
 |none=>rfl
 |some x=>exact h x
theorem l6:type_of% @Br.bind:=Br.bind
theorem Br.bind2{a e b c:Type}{f:a->e}{g:b->c}{o:Option c}{d:Option b}{A:c->Option e}{i:b->Option a}(j:o=d.map g)(h:∀x,A (g x)=(i x).map f):o.bind A=(d.bind i).map f:=by
 subst j;cases d with
 |none=>rfl
 |some x=>exact h x
def pk2{a:Type}(r:a×zq×zm):a×EM:=(r.1,pk r.2.1 r.2.2)
theorem Qd(M:zq)(S:zm)(i:zf):Cg (pk M S) i=(jx M i S).map pk2:=by
 unfold Cg jx;refine Br.ite (l6 λ_=>l6 λ_=>rfl) ?_;refine Br.ite (l6 λ_=>l6 λ_=>l6 λ_=>rfl) ?_;refine Br.ite (l6 λ_=>l6 λ_=>l6 λ_=>rfl) ?_;refine Br.ite (l6 λ_=>Br.ite rfl rfl) ?_;refine Br.ite (l6 λ_=>rfl) ?_;refine Br.ite rfl ?_;refine Br.ite (l6 λ_=>Br.ite (l6 λ_=>rfl) (l6 λ_=>rfl)) ?_;exact l6 λ_=>l6 λ_=>l6 λ_=>Br.ite (l6 λ_=>rfl) (l6 λ_=>l6 λ_=>Br.ite rfl rfl)
theorem NV(f:Nat)(M:zq)(S:zm)(k:Int):AA f (pk M S) k=(jV f M k S).map pk2:=by
 unfold AA jV;refine l6 λ_=>Br.ite (l6 λ_=>l6 λ_=>l6 λ_=>rfl) ?_
 exact Br.bind2 (g:=λo:zq×zm×qT=>(pk o.1 o.2.1,o.2.2)) (Br.ite (l6 λ_=>rfl) rfl) (λ_=>rfl)
theorem NW(f:Nat)(M:zq)(S:zm):tV f (pk M S)=(qL f M S).map pk2:=by
 unfold tV qL;refine Br.ite rfl (Br.ite (l6 λ_=>l6 λ_=>rfl) (l6 λ_=>Br.ite ?_ (Br.ite (l6 λ_=>rfl) ?_)))
 ·exact Br.bind2 (g:=pk2) (NV f {M with steps:=w64 (M.steps+1)} S _) (λ_=>rfl)
 ·exact Br.bind2 (g:=pk2) (Qd {M with steps:=w64 (M.steps+1)} S _) (λ_=>rfl)
theorem IH(M:zq)(S:zm)(r:zk):mH (pk M S) r=(jE M r S).map (λx=>(x.1,pk x.2 S)):=by
 unfold mH jE;exact Br.ite rfl (l6 λ_=>l6 λ_=>rfl)
end Go.Proofs.YtplmgfkghomelaaGreatDoor
