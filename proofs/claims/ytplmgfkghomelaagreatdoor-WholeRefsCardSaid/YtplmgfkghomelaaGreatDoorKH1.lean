/- Lemmas. -/
import Derived.Test.YtplmgfkghomelaaGreatDoorF1
set_option linter.all false
namespace Go.Proofs.YtplmgfkghomelaaGreatDoor.KH
open Go.Sx
variable {l h:List zr}{i n y C:Nat}{x c m z B:Int}{a:qB}{o:List Int}{v:Option Int}{r:zp}{d:zn}{g:List Bool}{q:qa}{b:List qa}{e:qn}{f:zr}{A:qo}{found:Bool}{D:qm}{E:zc}
theorem nS{b c:Type}{body:Nat->(b->Option c)->b->Option c}{out:b->c}(I:Nat->b->Prop)(Q:c->Prop){N:Nat}
  (h:∀i s (a:b->Option c),i<N->I i s->(∀d,I (i+1) d->∃r,a d=some r/\Q r)->∃r,body i a s=some r/\Q r) (g:∀s,I N s->Q (out s)):
  ∀(n i:Nat)(s:b),i+n=N->I i s->∃r,jN body out n i s=some r/\Q r
 |0,i,s,e,f=>⟨_,rfl,g s (by rw [<- e];exact f)⟩
 |n+1,i,s,e,f=>h i s _ (by omega) f λd j=>nS I Q h g n (i+1) d (by omega) j
theorem oE{a:Type}{x:List a}(h:i<x.length):Go.Sx.idx x (i:Int)=some x[i]:=by
 unfold Go.Sx.idx
 grind
theorem pM{a:Type}{xs:List a}{t:Int}(b:0<=t)(c:t<xs.length):∃x,Go.Sx.idx xs t=some x/\xs[t.toNat]? =some x:=by
 have h:t.toNat<xs.length:=by omega
 refine ⟨xs[t.toNat],?_,zeg h⟩;unfold Go.Sx.idx
 grind
theorem cX{m b:Nat}(h:m*b<=140737488355328):∃u,room m b=some u:=by
 unfold room;rw [d7 h];exact ⟨_,rfl⟩
def kin(k:zn)(m:Int)(n:Nat):List Int:=((List.range n).filter (λi:Nat=>decide ((k.Ub[i]?).map (λt:qn=>t.Ua)=some m))).map (λi:Nat=>(i:Int))
theorem I5{k:zn}:(kin k m n).length<=n:=by
 grind [kin]
theorem I6{k:zn}(h:x∈kin k m n):∃(i:Nat)(t:qn),x=i/\i<n/\k.Ub[i]? =some t/\t.Ua=m:=by
 grind [kin]
theorem GX(j:d.Ub.length<=64):ek d m=some (kin d m d.Ub.length):=by
 obtain ⟨r,k,rfl⟩:=nS (body:=ig d m) (out:=λs=>s) (N:=d.Ub.length) (λi s=>s=kin d m i) (λr=>r=kin d m d.Ub.length) (λi s a c f l=>by
  subst f;unfold ig;rw [oE c];simp only [zbs]
  have e:kin d m (i+1)=kin d m i++(if d.Ub[i].Ua=m then [(i:Int)] else []):=by
   unfold kin;rw [List.range_succ,yt,k8]
   grind
  by_cases g:d.Ub[i].Ua=m
  ·rw [d7 (by simpa using g)]
   obtain ⟨u,n⟩:=cX (m:=(kin d m i).length+[(i:Int)].length) (b:=8) (by
    grind [I5])
   grind
  grind) (λs h=>h) d.Ub.length 0 [] (by omega) rfl
 grind [ek]
def Laid(a b:zn)(g:List Bool)(n:Nat):Prop:=b.LT=a.LT/\b.Ub.length=a.Ub.length/\∀(i:Nat)(t:qn),a.Ub[i]? =some t->
 ∃u,b.Ub[i]? =some u/\u.Vo=t.Vo/\u.Ua=if i<n then (if t.Ua=2 then 2 else if g[i]? =some true then 1 else 0) else t.Ua
theorem Ed{k:zn}(hl:g.length=k.Ub.length):∃b,eJ k g=some (0,b)/\Laid k b g g.length:=by
 obtain ⟨b,B,f⟩:=nS (body:=gu g) (out:=λs=>s) (N:=g.length) (λi s=>Laid k s g i) (λr=>Laid k r g g.length) (λi s c l n o=>by
  obtain ⟨e,p,q⟩:=n;have a:i<s.Ub.length:=by omega
  unfold gu;rw [oE l,zbs,oE a,zbs];have v:i<k.Ub.length:=by omega
  have w:=q i _ (zeg v);obtain ⟨u,d,up,x⟩:=w;rw [zeg a] at d;obtain rfl:=i8 d;rw [d8 (by omega)] at x
  have step:∀m:Int,(m=if k.Ub[i].Ua=2 then 2 else if g[i]? =some true then 1 else 0)->Laid k (zn.mk (s.Ub.set (Int.toNat (i:Int)) (qn.mk m s.Ub[i].Vo)) s.LT) g (i+1):=by
   intro m y;refine ⟨e,by grind,λj t z=> ?_⟩
   grind
  by_cases A:s.Ub[i].Ua=2
  ·rw [d7 (by simpa using A)];refine o _ ⟨e,p,λj t z=> ?_⟩
   grind
  grind) (λs h=>h) g.length 0 k (by omega) ⟨rfl,rfl,λi t h=>⟨t,h,rfl,by grind⟩⟩
 refine ⟨b,?_,f⟩;unfold eJ
 grind
def lB(r:zp):Prop:=1<=r.room/\r.room<=16/\(r.waiting.length:Int)<=r.room
theorem Ee(n:Int)(g:zL):(lU n g=some (none,2))\/∃r,lU n g=some (some r,0)/\lB r/\r.waiting=[]/\r.Vj=false/\r.room=n/\r.counts=⟨0,0,0,0,0⟩:=by
 unfold lU;split
 ·exact .inl rfl
 ·rename_i h
  simp only [Bool.or_false,s7,zdq,not_or] at h;refine .inr ⟨_,rfl,⟨by grind,by show n<=16;omega,by grind⟩,rfl,rfl,rfl,rfl⟩
theorem kD(h:lB r)(c:qr)(g:zL):∃n e a j,xo r c g=some (n,e,a,j)/\lB a/\a.Vj=r.Vj/\((e=0/\r.Vj=false/\a.waiting=r.waiting++[qa.mk n c])\/(e≠0/\a.waiting=r.waiting)):=by
 obtain ⟨d,f,i⟩:=h;unfold xo;split
 ·exact ⟨_,_,_,_,rfl,⟨d,f,i⟩,rfl,.inr ⟨by decide,rfl⟩⟩
 ·split
  ·exact ⟨_,_,_,_,rfl,⟨d,f,i⟩,rfl,.inr ⟨by decide,rfl⟩⟩
  ·rename_i k l
   have o:(r.waiting.length:Int)≠r.room:=by simpa using l
   obtain ⟨u,p⟩:=cX (m:=r.waiting.length+1) (b:=24) (by omega);unfold aL;simp only [zbs];rw [show ([(qa.mk (w64 (g.last+1)) c)]).length=1 from rfl,p];refine ⟨_,_,_,_,rfl,⟨d,f,?_⟩,rfl,.inl ⟨rfl,by simpa using k,rfl⟩⟩
   grind
theorem oF(r:zp):∃c,bB r=some c/\c.Vi=(r.waiting.length:Int):=⟨_,rfl,rfl⟩
theorem ni(h:lB r)(g:zL)(c:r.waiting=q::b):∃a,vj r g=some (q,true,a)/\lB a/\a.waiting=b/\a.Vj=r.Vj:=by
 obtain ⟨d,e,j⟩:=h;unfold vj;rw [c];rw [d8 (by simp;omega)];have f:Go.Sx.idx (q::b) 0=some q:=rfl
 have i:cut (q::b) 1 ((q::b).length:Int)=some b:=by
  unfold cut;rw [d7 (by simp;omega)];simp
 rw [f,zbs,i,zbs];refine ⟨_,rfl,⟨d,e,?_⟩,rfl,rfl⟩
 grind
open Go.Sx
def LN(a b:zn):Prop:=b.Ub.length=a.Ub.length/\∀i:Nat,(b.Ub[i]?).map (·.Ua)=(a.Ub[i]?).map (·.Ua)
theorem Cj{k:zn}{t:Int}(h:0<=t)(b:t<k.Ub.length):∃a,ag k t=some (t,true,a)/\LN k a/\a.LT=w64 (k.LT+1):=by
 obtain ⟨x,c,d⟩:=pM h b;unfold ag;rw [c,zbs];refine ⟨_,rfl,⟨by grind,λi=> ?_⟩,rfl⟩
 grind
theorem pU(h:d.Ub.length<=64):aK d=some (kin d 1 d.Ub.length):=by
 grind [aK,GX]
def LO(k:zn)(o:Option (Int×Bool×zn)):Prop:=
 (kin k 1 k.Ub.length=[]/\o=some (0,false,k))\/∃x a,x∈kin k 1 k.Ub.length/\o=some (x,true,a)/\LN k a/\a.LT=w64 (k.LT+1)
theorem FY(h:x∈kin d 1 d.Ub.length):LO d ((ag d x).bind λr=>some (r.1,r.2.1,r.2.2)):=by
 obtain ⟨i,t,rfl,e,_⟩:=I6 h;obtain ⟨a,b,c⟩:=Cj (k:=d) (t:=(i:Int)) (by omega) (by omega);exact .inr ⟨_,a,h,by rw [b];rfl,c⟩
theorem Ck{k:zn}(b:k.Ub.length<=64)(c:Int):LO k (dB k c):=by
 unfold dB;rw [pU b,zbs];by_cases a:kin k 1 k.Ub.length=[]
 ·rw [d7 (by rw [a];rfl)];exact .inl ⟨a,rfl⟩
 have hl:0<(kin k 1 k.Ub.length).length:=List.length_pos_iff.2 a;have d:=I5 (k:=k) (m:=1) (n:=k.Ub.length);rw [d8 (by simp;omega)];have e:nz ((kin k 1 k.Ub.length).length:Int)=some ():=by grind [nz]
 rw [e,zbs];generalize f:((kin k 1 k.Ub.length).length:Int)=n at*
 have h:0<n:=by omega
 have l:=Int.tmod_lt_of_pos c h
 have g: -n<c.tmod n:=by
  have:=Int.lt_tmod_of_pos c h;omega
 obtain ⟨o,i,j,p⟩:∃o,(if decide (c.tmod n<0) then some (w64 (c.tmod n+n)) else some (c.tmod n))=some o/\0<=o/\o<n:=by
  grind [qq]
 rw [i,zbs];obtain ⟨x,q,r⟩:=pM (xs:=kin k 1 k.Ub.length) j (by omega)
 grind [FY]
theorem Cl{k:zn}(q:k.Ub.length<=64):LO k (dH k):=by
 unfold dH;rw [pU q,zbs];generalize d:kin k 1 k.Ub.length=a
 obtain ⟨r,u,v⟩:=nS (body:=fG k a) (out:=λs=>(s.1,s.2)) (N:=a.length) (λi s=>(i=0/\s.2=false)\/(0<i/\s.2=true/\s.1∈a)) (λr=>(a=[]/\r.2=false)\/(r.2=true/\r.1∈a)) (λi s e p f g=>by
  unfold fG;rw [oE p,zbs];have l:a[i]∈a:=yi p
  have look:∀x∈a,∃t,Go.Sx.idx k.Ub x=some t:=by
   intro x w;obtain ⟨j,t,rfl,y,B,_⟩:=I6 (k:=k) (m:=1) (n:=k.Ub.length) (by rw [d];exact w)
   exact ⟨_,oE y⟩
  rcases f with ⟨rfl,h⟩|⟨C,h,c⟩
  ·rw [h];simp only [Bool.not_false,q9,zbs];exact g _ (.inr ⟨by omega,rfl,l⟩)
  ·rw [h];obtain ⟨D,z⟩:=look _ l;obtain ⟨E,A⟩:=look _ c;simp only [Bool.not_true,zfe,x5,z,A,zbs];split
   ·exact g _ (.inr ⟨by omega,rfl,l⟩)
   ·exact g _ (.inr ⟨by omega,rfl,c⟩)) (λs f=>by
  rcases f with ⟨h,b⟩|⟨_,b,o⟩
  ·exact .inl ⟨TK.1 h,b⟩
  ·exact .inr ⟨b,o⟩) a.length 0 (0,false) (by omega) (.inl ⟨rfl,rfl⟩)
 rw [u,zbs];rcases v with ⟨h,b⟩|⟨b,o⟩
 ·rw [d7 (by rw [b];rfl)];exact .inl ⟨by rw [d];exact h,rfl⟩
 ·rw [d8 (by rw [b];simp)];exact FY (by rw [d];exact o)
theorem oX(h:d.Ub[i]? =some e)(c:e.Ua≠2):
  bf d [(i:Int)]=some (0,zn.mk (d.Ub.set i (qn.mk 2 e.Vo)) d.LT):=by
 have hl:i<d.Ub.length:=(zes.1 h).1;have a:Go.Sx.idx [(i:Int)] ((0:Nat):Int)=some (i:Int):=rfl;have b:Go.Sx.idx d.Ub (i:Int)=some e:=by rw [oE hl];rw [zeg hl] at h;exact h
 unfold bf fN;simp only [u4,yj,jN,kY,kZ,lf,a,b,zbs]
 grind
open Go.Sx
theorem Q0(x:Int):vc x=x%18446744073709551616:=by
 show IntKind.u64.wrap x=_;simp [IntKind.wrap,IntKind.bits,IntKind.signed]
theorem S8(h:0<=x)(a:x<=1000):w64 (kr .u64 (vc (w64 x)) 1)=x / 2:=by
 rw [qq (x:=x) (by omega) (by omega),Q0,Int.emod_eq_of_lt h (by omega)]
 have e:kr .u64 x 1=x / 2:=by
  show x.fdiv (2^(min (Int.toNat 1) IntKind.u64.bits))=_;rw [Int.fdiv_eq_ediv_of_nonneg _ (by grind)];rfl
 grind [qq]
def pv:List zr->Int->Option Int
 |[],_=>none
 |p::l,k=>if p.UV=k then some p.UQ else pv l k
def pk(l:List zr):List Int:=l.map (·.UV)
theorem uD:pv l x=none↔x∉pk l:=by
 induction l with
 |nil=>simp [pv,pk]
 |cons p l i=>
  grind [pv,pk]
theorem Sn(a:(pk l).Nodup)(h:l[i]? =some f):pv l f.UV=some f.UQ:=by
 induction l generalizing i with
 |nil=>simp at h
 |cons q l b=>
  grind [pk,pv]
theorem Cp:pv (l++h) c=(match pv l c with|some x=>some x|none=>pv h c):=by
 induction l with
 |nil=>rfl
 |cons p l i=>
  grind [pv]
theorem Jm:pk (l++h)=pk l++pk h:=k8
theorem LR(h:l[i]? =some f):l=l.take i++f::l.drop (i+1):=by
 obtain ⟨hl,rfl⟩:=zes.1 h
 conv=>lhs;rw [<- x9 i l,TQ hl]
theorem Q1(a:(pk l).Nodup)(h:l[i]? =some f)(x:Int)(q:Int):pv (l.set i ⟨f.UV,x⟩) q=if q=f.UV then some x else pv l q:=by
 induction l generalizing i with
 |nil=>simp at h
 |cons r l b=>
  obtain ⟨n,c⟩:=q7.1 (show (r.UV::pk l).Nodup from a);cases i with
  |zero=>
   grind [pv]
  |succ i=>
   grind [pk,pv]
theorem Nr(h:l[i]? =some f)(x:Int):pk (l.set i ⟨f.UV,x⟩)=pk l:=by
 unfold pk;rw [yo];apply o4
 grind
theorem Q2(c:(pk l).Nodup)(h:l[i]? =some f)(q:Int):pv (l.take i++l.drop (i+1)) q=if q=f.UV then none else pv l q:=by
 have e:=LR h;have a:=c;rw [e,Jm] at a;obtain ⟨m,n,d⟩:=k6.1 a;obtain ⟨g,o⟩:=q7.1 (show (f.UV::pk (l.drop (i+1))).Nodup from n);have b:f.UV∉pk (l.take i):=λj=>d _ j f.UV (by simp [pk]) rfl
 by_cases k:q=f.UV
 ·subst k;rw [d7 rfl,Cp,uD.2 b];exact uD.2 g
 grind [Cp,pv]
theorem Ns:(pk (l.take i++l.drop (i+1))).Sublist (pk l):=by
 have h:(l.take i++l.drop (i+1)).Sublist l:=by
  rw [<- TW]
  grind
 exact h.map _
def Ew(v:Option Int)(n:Nat)(cap op x:Int):zk:=
 if op=0 then ⟨0,v.isSome,v.getD 0,false,0,0⟩
 else if op=1 then ⟨0,v.isSome,0,false,0,0⟩
 else if op=3 then ⟨0,v.isSome,v.getD 0,false,0,0⟩
 else if v=none/\(n:Int)=cap then ⟨40,false,0,false,0,0⟩
 else ⟨0,v.isSome,if op=4 then vc (v.getD 0+x) else v.getD 0,false,0,0⟩
def Nt(v:Option Int)(n:Nat)(cap op x:Int):Option Int:=
 if op=3 then none
 else if op=2\/op=4 then (if v=none/\(n:Int)=cap then none else some (if op=4 then vc (v.getD 0+x) else x))
 else v
def Nu(v:Option Int)(n:Nat)(cap op:Int):Nat:=
 if op=3 then (if v.isSome then n-1 else n)
 else if (op=2\/op=4)/\v=none/\(n:Int)≠cap then n+1
 else n
structure RR (l l':List zr) (cap op k x:Int):Prop where
 WF:∀q,pv l' q=if q=k then Nt (pv l k) l.length cap op x else pv l q
 len:l'.length=Nu (pv l k) l.length cap op
 nd:(pk l').Nodup
def Srt(l:List zr):Prop:=(pk l).Pairwise (· < ·)
theorem Srt.nd(h:Srt l):(pk l).Nodup:=h.imp (λa=>by omega)
structure Found (l:List zr) (k:Int) (i:Nat):Prop where
 le:i<=l.length
 low:∀p∈l.take i,p.UV<k
 high:∀p∈l.drop i,k<=p.UV
theorem Ey{l:List zr}(h:Srt l){p:zr}(a:i<n)(b:l[i]? =some p)(c:l[n]? =some f):p.UV<f.UV:=by
 obtain ⟨d,rfl⟩:=zes.1 b;obtain ⟨e,rfl⟩:=zes.1 c;have:=List.pairwise_iff_getElem.1 h i n (by grind [pk]) (by grind [pk]) a
 grind [pk]
theorem Ez(J:17<y)(B:Srt l)(hl:l.length<=16)(k:Int):
  OK (zO y l k) (λr=>∃i:Nat,r.1=(i:Int)/\Found l k i/\r.2=(pv l k).isSome/\(r.2=true->∃p,l[i]? =some p/\p.UV=k)):=by
 unfold zO
 refine d6 (R:=λi=>∃n:Nat,i=(n:Int)/\Found l k n)
  (OK.rounds (λs=>∃a b:Nat,s.1=(a:Int)/\s.2=(b:Int)/\a<=b/\b<=l.length/\(∀p∈l.take a,p.UV<k)/\∀p∈l.drop b,k<=p.UV) (λs=>s.2.toNat-s.1.toNat) ?_ y _ ⟨0,l.length,rfl,rfl,by omega,by omega,by simp,by simp⟩ (by simp;omega)) ?_
 ·rintro ⟨S,T⟩ C ⟨a,b,G,m,K,o,t,u⟩ I;simp only at G m;subst G;subst m;unfold qI;refine d5 (λh=> ?_) (λh=> ?_)
  ·have h:(a:Int)<b:=by simpa using h
   simp only;rw [S8 (x:=(a:Int)+b) (by omega) (by omega)];have em:((a:Int)+b) / 2=(((a+b) / 2:Nat):Int):=by omega
   rw [em];have L:a<=(a+b) / 2:=by omega
   have M:(a+b) / 2<b:=by omega
   refine g9 (i9 (by omega) (λp g=> ?_));unfold vP;by_cases c:p.UV<k
   ·simp only [c,decide_true,q9,zbs];refine o9 (by decide) ?_;rw [qq (by omega) (by omega)];refine I _ ⟨(a+b) / 2+1,b,by simp,rfl,by omega,o,λq d=> ?_,u⟩ (by simp;omega);rw [yh,g] at d;rcases f8.1 d with d|d
    ·obtain ⟨j,v,rfl⟩:=w6.1 d;have f:j<(a+b) / 2:=by simp at v;omega
     have:=Ey B f (p:=l[j]'(by omega)) (zeg (by omega)) g
     grind
    grind
   ·simp only [c,decide_false,zfe,x5];refine d6 (R:=λz=>¬ z<0) ?_ (λz N=> ?_)
    ·refine d5 (λ_=>b9 (by decide)) (λ_=>b9 (by decide))
    ·refine j7 (by simpa using N) ?_;refine I _ ⟨a,(a+b) / 2,rfl,rfl,by omega,by omega,t,λq d=> ?_⟩ (by simp;omega);obtain ⟨j,v,rfl⟩:=w6.1 d;rw [List.getElem_drop];have f:(a+b) / 2+j<l.length:=by simp at v;omega
     cases j with
     |zero=>
      grind
     |succ j=>
      have:=Ey B (show (a+b) / 2<(a+b) / 2+(j+1) by omega) g (zeg f);omega
  ·have h:¬ (a:Int)<b:=by simpa using h
   have:a=b:=by omega
   subst this;exact b9 ⟨a,rfl,o,t,u⟩
 ·rintro i ⟨n,rfl,D⟩
  have w:k∉pk (l.take n):=λE=>by
   obtain ⟨p,g,e⟩:=x2.1 E;have:=D.low p g;omega
  have A:pv l k=pv (l.drop n) k:=by
   conv=>lhs;rw [<- x9 n l,Cp,uD.2 w]
  refine d6 (R:=λb=>b=(pv l k).isSome/\(b=true->∃p,l[n]? =some p/\p.UV=k)) ?_ (λb o=>b9 ⟨n,rfl,D,o.1,o.2⟩);refine d5 (λc=> ?_) (λc=> ?_)
  ·have c:(n:Int)<l.length:=by simpa using c
   refine g9 (i9 (by omega) (λp g=> ?_))
   have O:l.drop n=p::l.drop (n+1):=by
    obtain ⟨F,rfl⟩:=zes.1 g;exact TQ F
   have U:k<=p.UV:=D.high p (by grind);unfold vP;by_cases e:p.UV=k
   ·grind [b9,pv]
   ·have P:¬ p.UV<k:=by omega
    have Q:p.UV>k:=by omega
    simp only [P,Q,decide_false,decide_true,zfe,x5,q9,zbs];refine b9 ⟨?_,λh=>by simp at h⟩;rw [A]
    have:k∉pk (l.drop n):=λE=>by
     obtain ⟨q,d,m⟩:=x2.1 E;rw [O] at d;rcases j5.1 d with rfl|d
     ·exact e m
     ·obtain ⟨j,v,rfl⟩:=w6.1 d;rw [List.getElem_drop] at m;have f:n+1+j<l.length:=by simp at v;omega
      have:=Ey B (show n<n+1+j by omega) g (zeg f);omega
    rw [uD.2 this];rfl
  ·have c:¬ (n:Int)<l.length:=by simpa using c
   refine b9 ⟨?_,λh=>by cases h⟩;rw [A,yr (by omega)];rfl
theorem OQ(f:Srt l)(g:Found l c i)(k:c∉pk l)(x:Int):Srt (l.take i++[⟨c,x⟩]++l.drop i):=by
 unfold Srt;rw [Jm,Jm];have m:(pk (l.take i)).Pairwise (· < ·):=List.Pairwise.sublist (List.Sublist.map _ (List.take_sublist _ _)) f;have n:(pk (l.drop i)).Pairwise (· < ·):=List.Pairwise.sublist (List.Sublist.map _ (List.drop_sublist _ _)) f
 have j:∀a∈pk (l.take i),a<c:=λa b=>by
  obtain ⟨p,h,rfl⟩:=x2.1 b;exact g.low p h
 have d:∀a∈pk (l.drop i),c<a:=λa b=>by
  obtain ⟨p,h,rfl⟩:=x2.1 b;have:=g.high p h;have:¬ c=p.UV:=λe=>k (by rw [e];exact List.mem_map_of_mem (List.mem_of_mem_drop h))
  omega
 grind [pk]
structure BB (c:Int) (b:qo):Prop where
 cap:b.cap=c
 c1:1<=c
 WK:c<=16
 len:(b.Ug.length:Int)<=c
 WB:Srt b.Ug
theorem BB.done(h:BB c A)(a:Srt l)(b:RR A.Ug l c m z x):BB c ⟨A.cap,l⟩:=by
 refine {h with len:= ?_,WB:=a};have:=b.len;have:=h.len
 grind [Nu]
theorem AU{fu:Nat}(g:17<fu)(h:BB B A){op:Int}(Y:0<=op)(Z:op<=4)(k x:Int):
  OK (jR fu A op k x) (λo=>o.1=Ew (pv A.Ug k) A.Ug.length B op x/\∃l,o.2=⟨A.cap,l⟩/\Srt l/\RR A.Ug l B op k x):=by
 have hl:A.Ug.length<=16:=by have:=h.len;have:=h.WK;omega
 have f:=h.WB.nd
 have s:∀(j:op=0\/op=1\/(op=3/\pv A.Ug k=none)\/((op=2\/op=4)/\pv A.Ug k=none/\(A.Ug.length:Int)=B)),RR A.Ug A.Ug B op k x:=by
  intro j;refine ⟨λq=> ?_,?_,f⟩
  ·grind [Nt]
  grind [Nu]
 unfold jR;refine j7 (by simp;omega) ?_;unfold fQ;refine d6 (R:=λr=>∃i:Nat,r.1=(i:Int)/\Found A.Ug k i/\r.2=(pv A.Ug k).isSome/\(r.2=true->∃p,A.Ug[i]? =some p/\p.UV=k)) (d6 (Ez g h.WB hl k) (λr K=>b9 K)) ?_;rintro ⟨r1,r2⟩ ⟨i,w,C,D,n⟩;simp only at w D n |-;subst w;subst D;have E:∀p,A.Ug[i]? =some p->p.UV=k->pv A.Ug k=some p.UQ:=λp F e=>by grind [Sn]
 refine d6 (R:=λo=>o=⟨0,(pv A.Ug k).isSome,if op=1 then 0 else (pv A.Ug k).getD 0,false,0,0⟩) ?_ (λo t=> ?_)
 ·refine d5 (λc=> ?_) (λc=> ?_)
  ·grind [g9,i9,b9]
  ·refine b9 ?_;by_cases e:op=1
   ·simp [e]
   ·have:(pv A.Ug k).isSome=false:=by
     grind
    have b:pv A.Ug k=none:=by simpa using this
    simp [b]
 subst t;refine d5 (λe=> ?_) (λL=> ?_)
 ·have e:op=3:=by simpa using e
  subst e;refine d5 (λc=> ?_) (λc=> ?_)
  ·obtain ⟨p,a,G⟩:=n c;have M:=(zes.1 a).1;unfold qj Nl;rw [qq (by omega) (by omega),d7 ⟨by omega,by omega,by omega⟩];have N:((i:Int)+1).toNat=i+1:=by omega
   simp only [zbs,l6,N];refine b9 ⟨by simp [Ew],_,rfl,?_,λq=> ?_,?_,f.sublist Ns⟩
   ·exact List.Pairwise.sublist Ns h.WB
   ·grind [Q2,Nt]
   grind [Nu]
  ·have b:pv A.Ug k=none:=by simpa using c
   refine b9 ⟨by simp [Ew],_,rfl,h.WB,s (.inr (.inr (.inl ⟨rfl,b⟩)))⟩
 have n3:¬ op=3:=by simpa using L
 refine d6 (R:=λA=>A=decide (op=2\/op=4)) ?_ (λz O=> ?_)
 ·refine d5 (λe=>b9 ?_) (λe=>b9 ?_)
  ·grind
  grind
 subst O;refine d5 (λe=> ?_) (λe=> ?_)
 ·have e:op=2\/op=4:=by simpa using e
  have n0:¬ op=0:=by omega
  have n1:¬ op=1:=by omega
  refine d5 (λc=> ?_) (λc=> ?_)
  ·have b:pv A.Ug k=none:=by simp at c;exact c.1
   have d:(A.Ug.length:Int)=B:=by simp at c;have:=h.cap;omega
   refine b9 ⟨?_,_,rfl,h.WB,s (.inr (.inr (.inr ⟨e,b,d⟩)))⟩
   grind [Ew]
  ·have P:¬ (pv A.Ug k=none/\(A.Ug.length:Int)=B):=by
    rintro ⟨a1,a2⟩;have:=h.cap
    grind
   have u:Nt (pv A.Ug k) A.Ug.length B op x=some (if op=4 then vc ((pv A.Ug k).getD 0+x) else x):=by
    grind [Nt]
   refine d6 (R:=λ(m:qo)=>m.cap=A.cap/\m.Ug.length=(if pv A.Ug k=none then A.Ug.length+1 else A.Ug.length)/\Srt m.Ug/\(∃p,m.Ug[i]? =some p/\p.UV=k)/\∀q,q≠k->pv m.Ug q=pv A.Ug q) ?_ (λm Q=> ?_)
   ·refine d5 (λv=> ?_) (λv=> ?_)
    ·have b:pv A.Ug k=none:=by simpa using v
     have S:=C.le;unfold qk P6;rw [d7 ⟨by omega,by omega,by simp;omega⟩];simp only [zbs,l6];refine b9 ⟨rfl,?_,OQ h.WB C (uD.1 b) 0,⟨⟨k,0⟩,?_,rfl⟩,λq F=> ?_⟩
     ·grind
     ·grind
     ·have T:¬ k=q:=λz=>F z.symm
      conv=>rhs;rw [<- x9 i A.Ug,Cp]
      grind [Cp,pv]
    ·have U:(pv A.Ug k).isSome=true:=by simpa using v
     have b:¬ pv A.Ug k=none:=λe=>by grind
     exact b9 ⟨rfl,by rw [d8 b],h.WB,n U,λq _=>rfl⟩
   obtain ⟨V,m2,I,⟨p,a,G⟩,m5⟩:=Q;refine d6 (R:=λo=>o=((if op=4 then vc ((pv A.Ug k).getD 0+x) else x),Ew (pv A.Ug k) A.Ug.length B op x)) ?_ (λo t=> ?_)
   ·refine d5 (λW=>b9 ?_) (λW=>b9 ?_)
    ·grind [Ew]
    grind [Ew]
   subst t;refine g9 (i9 (zes.1 a).1 (λy J=>b9 ?_));rw [a] at J;cases J;refine ⟨rfl,_,by rw [V],?_,λq=> ?_,?_,?_⟩
   ·grind [Srt,pk,Nr]
   ·rw [u];subst G;rw [show Int.toNat (i:Int)=i from rfl,Q1 I.nd a]
    grind
   ·grind [Nu,pv]
   ·rw [show pk (m.Ug.set (Int.toNat (i:Int)) ⟨p.UV,_⟩)=pk m.Ug from Nr a _];exact I.nd
 ·have e:¬ (op=2\/op=4):=by simpa using e
  have X:op=0\/op=1:=by omega
  refine b9 ⟨?_,_,rfl,h.WB,s (by grind)⟩
  grind [Ew]
theorem gw(h:o[i]? =some x):(o.take (i+1)).filter (· !=c)=(o.take i).filter (· !=c)++if x !=c then [x] else []:=by
 rw [yh,h,yt]
 grind
theorem EA(l:List Int)(k:Int)(hl:l.length<=100):OK (qU l k) (λi=>(i= -1/\k∉l)\/∃n:Nat,i=(n:Int)/\l[n]? =some k/\k∉l.take n):=by
 unfold qU;refine d6 (R:=λo=>match o with|.inl _=>k∉l|.inr i=>∃n:Nat,i=(n:Int)/\l[n]? =some k/\k∉l.take n) (i5 (λi _=>k∉l.take i) (by simp) ?_ ?_) ?_
 ·intro i s a c h d;unfold xZ bJ;refine g9 (i9 c (λy e=> ?_));simp only [zbs];refine d5 (λb=>b9 ?_) (λb=>d _ ?_)
  ·grind
  ·have f:¬ y=k:=by simpa using b
   rw [yh,e]
   grind
 ·grind
 grind [b9]
theorem dK(h:c∉o):o.filter (· !=c)=o:=by
 refine List.filter_eq_self.2 (λx a=> ?_)
 grind
theorem uE(v:101<C)(l:List Int)(k:Int)(hl:l.length<=100):qN C l k=some (l.filter (· !=k)):=by
 refine OK.is ?_;unfold qN;refine d6 (EA l k hl) (λi w=> ?_);refine d5 (λc=> ?_) (λc=> ?_)
 ·grind [b9,dK]
 ·rcases w with ⟨rfl,q⟩|⟨n,rfl,r,q⟩
  ·simp at c
  have x:=(zes.1 r).1
  refine d6 (R:=λs=>∃m:Nat,s.2=(m:Int)/\m<=l.length/\s.1.length=l.length/\s.1.take m=l.filter (· !=k))
   (OK.rounds (λs=>∃a b:Nat,s.2.1=(a:Int)/\s.2.2=(b:Int)/\a<b/\b<=l.length/\s.1.length=l.length/\s.1.take a=(l.take b).filter (· !=k)/\s.1.drop b=l.drop b) (λs=>l.length-s.2.2.toNat) ?_ C _ ?_ ?_) ?_
  ·rintro ⟨s,B,D⟩ p ⟨a,b,g,t,A,E,d,f,o⟩ u;simp only at g t d f o;subst g;subst t;unfold xQ bJ;simp only;refine d5 (λh=> ?_) (λh=> ?_)
   ·have h:(b:Int)<s.length:=by simpa using h
    refine g9 (i9 (by omega) (λy F=> ?_))
    have j:l[b]? =some y:=by
     have:=congrArg (λz=>z[0]?) o
     grind
    simp only [zbs];refine d5 (λe=> ?_) (λe=> ?_)
    ·have e:¬ y=k:=by simpa using e
     refine g9 (i9 (by omega) (λz G=> ?_));rw [qq (by omega) (by omega),qq (by omega) (by omega)];refine u _ ⟨a+1,b+1,by simp,by simp,by omega,by omega,by simp [d],?_,?_⟩ (by simp;omega)
     ·rw [gw j,d7 (by simpa using e),<- f];show (s.set a y).take (a+1)=_;rw [yh,yy (by omega),List.take_set_of_le (by omega)];rfl
     ·show (s.set a y).drop (b+1)=_;rw [List.drop_set_of_lt (by omega)];have:=congrArg (List.drop 1) o;rw [y4,y4] at this
      grind
    ·have e:y=k:=by simpa using e
     rw [qq (by omega) (by omega)];refine u _ ⟨a,b+1,rfl,by simp,by omega,by omega,d,?_,?_⟩ (by simp;omega)
     ·rw [gw j,d8 (by simpa using e),i4,<- f]
     ·have:=congrArg (List.drop 1) o;rw [y4,y4] at this
      grind
   grind [b9]
  ·refine ⟨n,n+1,rfl,by grind [qq],by omega,by omega,rfl,?_,rfl⟩;rw [gw r];simp [dK q]
  ·grind
  ·rintro ⟨s,z⟩ ⟨m,g,I,d,f⟩;simp only at g d f |-;subst g;rw [am rfl (by omega)];simp only [zbs];rw [oU rfl (by simp;omega)];simp only [zbs,l6];refine b9 ?_;rw [<- f,Tx (by simp;omega),Ty,Nat.min_self]
open Go.Sx
structure LB (c:Int) (a:qB):Prop where
 bb:BB c a.Vl
 nd:a.Vr.Nodup
 mem:∀k,k∈a.Vr↔(pv a.Vl.Ug k).isSome=true
 len:a.Vr.length=a.Vl.Ug.length
theorem pV(b:o.Nodup)(h:x∈o):(o.filter (· !=x)).length+1=o.length:=by
 induction o with
 |nil=>cases h
 |cons a o i=>
  grind [dK]
theorem Nv:c∈o.filter (· !=x)↔c∈o/\c≠x:=by grind
theorem LB.out(h:LB c ⟨A,o⟩)(d:BB c ⟨A.cap,l⟩)(f:∀q,pv l q=if q=x then none else pv A.Ug q)(hl:l.length=if (pv A.Ug x).isSome then A.Ug.length-1 else A.Ug.length):LB c ⟨⟨A.cap,l⟩,o.filter (· !=x)⟩:=by
 refine ⟨d,h.nd.filter _,λq=> ?_,?_⟩
 ·show q∈o.filter (· !=x)↔(pv l q).isSome=true;rw [Nv,f q];have b:q∈o↔(pv A.Ug q).isSome=true:=h.mem q
  grind
 ·show (o.filter (· !=x)).length=l.length;have b:x∈o↔(pv A.Ug x).isSome=true:=h.mem x;have a:o.length=A.Ug.length:=h.len;by_cases e:x∈o
  ·have:=pV (show o.Nodup from h.nd) e
   grind
  ·rw [hl,d8 (λz=>e (b.2 z)),dK e];exact a
theorem EB(h:101<i)(a:qB)(k:Int)(hl:a.Vr.length<=100):xL i a k=some ⟨a.Vl,a.Vr.filter (· !=k)⟩:=by
 unfold xL;rw [uE h _ _ hl];rfl
theorem LS(h:101<i)(a:qB)(k:Int)(hl:a.Vr.length<=100):vd i a k=some ⟨a.Vl,k::a.Vr.filter (· !=k)⟩:=by
 unfold vd;rw [EB h a k hl,zbs];have b:(a.Vr.filter (· !=k)).length<=100:=t8 (TT _ _) hl
 grind [jF,P6]
theorem LB.le(h:LB c a):a.Vr.length<=16:=by
 have b:=h.len;have d:=h.bb.len;have e:=h.bb.WK;omega
theorem LU(e:101<i)(h:LB c a)(k:1<=a.Vl.Ug.length)(p:zk):
  OK (cT i a p) (λr=>LB c r.1/\r.1.Vl.Ug.length+1=a.Vl.Ug.length/\∀q,pv a.Vl.Ug q=none->pv r.1.Vl.Ug q=none):=by
 obtain ⟨b,o⟩:=a;have hl:o.length=b.Ug.length:=h.len;have n:o.length<=16:=h.le;have k:1<=b.Ug.length:=k;unfold cT;show OK ((Go.Sx.idx o (w64 ((o.length:Int)-1))).bind _) _;rw [qq (by omega) (by omega)];obtain ⟨x,s,u⟩:=pM (xs:=o) (t:=(o.length:Int)-1) (by omega) (by omega);rw [s,zbs];have f:x∈o:=zmg u;have v:(pv b.Ug x).isSome=true:=(h.mem x).1 f;obtain ⟨r,w,C,l,g,y,j⟩:=AU (fu:=i) (by omega) h.bb (op:=3) (by omega) (by omega) x 0;obtain ⟨D,z⟩:=r;have g:z=⟨b.cap,l⟩:=g;subst g;rw [show jR i b 3 x 0=_ from w,zbs];have m:∀q,pv l q=if q=x then none else pv b.Ug q:=j.WF
 have d:l.length=if (pv b.Ug x).isSome then b.Ug.length-1 else b.Ug.length:=j.len
 have A:=h.out (h.bb.done y j) m d;rw [show xL i ⟨⟨b.cap,l⟩,o⟩ x=some ⟨⟨b.cap,l⟩,o.filter (· !=x)⟩ from EB e ⟨⟨b.cap,l⟩,o⟩ x (by grind),zbs];refine ⟨_,rfl,A,?_,λq B=> ?_⟩
 ·grind
 ·show pv l q=none;rw [m q];split
  ·rfl
  ·exact B
theorem Jn(j:101<i)(h:LB c ⟨A,o⟩)(K:0<=m)(L:m<=4)(G:Srt l)(y:RR A.Ug l c m B x)
  (k:¬ ((m=2\/m=4)/\pv A.Ug B=none/\(A.Ug.length:Int)=c)) (M:m=0->found=(pv A.Ug B).isSome) (d:zk):
  OK ((if (m==2) then some (m==2) else if (m==4) then some (m==4) else if (m==0) then some found else some false).bind λn=>
   if n then (vd i ⟨⟨A.cap,l⟩,o⟩ B).bind λa=>some (d,a)
   else if (m==3) then (xL i ⟨⟨A.cap,l⟩,o⟩ B).bind λp=>some (d,p) else some (d,(⟨⟨A.cap,l⟩,o⟩:qB))) (λr=>LB c r.2):=by
 have I:o.length<=16:=h.le;have F:o.length=A.Ug.length:=h.len;have C:=h.bb.done G y;have N:∀q,q∈o↔(pv A.Ug q).isSome=true:=h.mem
 have t:(pv l B).isSome=true->(∀q,q≠B->pv l q=pv A.Ug q)->l.length=(if (pv A.Ug B).isSome then A.Ug.length else A.Ug.length+1)->OK ((vd i ⟨⟨A.cap,l⟩,o⟩ B).bind λa=>some (d,a)) (λr=>LB c r.2):=by
  intro O u hl;rw [LS j ⟨⟨A.cap,l⟩,o⟩ B (by grind)];refine ⟨_,rfl,C,?_,λq=> ?_,?_⟩
  ·show (B::o.filter (· !=B)).Nodup;exact q7.2 ⟨λz=>(Nv.1 z).2 rfl,h.nd.filter _⟩
  ·grind
  ·show (B::o.filter (· !=B)).length=l.length;rw [u4,hl];by_cases e:B∈o
   ·have:=pV (show o.Nodup from h.nd) e
    grind
   grind [dK]
 have s:(∀q,pv l q=pv A.Ug q)->l.length=A.Ug.length->LB c ⟨⟨A.cap,l⟩,o⟩:=λu hl=>⟨C,h.nd,λq=>by grind,by grind⟩
 have f:m=0\/m=1\/m=2\/m=3\/m=4:=by omega
 have w:=y.WF;have b:=y.len;rcases f with rfl|rfl|rfl|rfl|rfl
 ·have u:∀q,pv l q=pv A.Ug q:=λq=>by
   rw [w q];split
   ·rename_i e;subst e;rfl
   ·rfl
  have g:l.length=A.Ug.length:=b;simp only [show ((0:Int)==2)=false from rfl,show ((0:Int)==4)=false from rfl,show ((0:Int)==0)=true from rfl,show ((0:Int)==3)=false from rfl,zfe,x5,q9,zbs];cases J:found with
  |true=>
   grind
  |false=>
   simp only [zfe,x5];exact ⟨_,rfl,s u g⟩
 ·have u:∀q,pv l q=pv A.Ug q:=λq=>by
   rw [w q];split
   ·rename_i e;subst e;rfl
   ·rfl
  have g:l.length=A.Ug.length:=b;simp only [show ((1:Int)==2)=false from rfl,show ((1:Int)==4)=false from rfl,show ((1:Int)==0)=false from rfl,show ((1:Int)==3)=false from rfl,zfe,x5,zbs];exact ⟨_,rfl,s u g⟩
 ·simp only [show ((2:Int)==2)=true from rfl,q9,zbs];have D:¬ (pv A.Ug B=none/\(A.Ug.length:Int)=c):=λz=>k ⟨.inl rfl,z⟩
  refine t ?_ (λq e=>by rw [w q,d8 e]) ?_
  ·grind [Nt]
  ·rw [b];unfold Nu;rw [d8 (by decide)];cases E:pv A.Ug B with
   |none=>rw [d7 ⟨.inl rfl,rfl,λz=>D ⟨E,z⟩⟩,d8 (by simp)]
   |some v=>rw [d8 (λz=>by cases z.2.1),d7 (show (some v).isSome=true from rfl)]
 ·simp only [show ((3:Int)==2)=false from rfl,show ((3:Int)==4)=false from rfl,show ((3:Int)==0)=false from rfl,show ((3:Int)==3)=true from rfl,zfe,x5,q9,zbs];rw [EB j ⟨⟨A.cap,l⟩,o⟩ B (by grind)];exact ⟨_,rfl,h.out C w b⟩
 ·simp only [show ((4:Int)==2)=false from rfl,show ((4:Int)==4)=true from rfl,zfe,x5,q9,zbs];have D:¬ (pv A.Ug B=none/\(A.Ug.length:Int)=c):=λz=>k ⟨.inr rfl,z⟩
  refine t ?_ (λq e=>by rw [w q,d8 e]) ?_
  ·grind [Nt]
  ·rw [b];unfold Nu;rw [d8 (by decide)];cases E:pv A.Ug B with
   |none=>rw [d7 ⟨.inr rfl,rfl,λz=>D ⟨E,z⟩⟩,d8 (by simp)]
   |some v=>rw [d8 (λz=>by cases z.2.1),d7 (show (some v).isSome=true from rfl)]
open Go.Sx
theorem LB.same(h:LB c ⟨A,o⟩)(a:BB c ⟨A.cap,l⟩)(b:∀q,pv l q=pv A.Ug q)(hl:l.length=A.Ug.length):LB c ⟨⟨A.cap,l⟩,o⟩:=
 ⟨a,h.nd,λq=>by show q∈o↔(pv l q).isSome=true;rw [b q];exact h.mem q,by show o.length=l.length;rw [hl];exact h.len⟩
theorem Jo(h:m=2\/m=4)(a:v=none)(b:(n:Int)=c):(Ew v n c m x).E=40:=by
 grind [Ew]
theorem Jp(h:¬ ((m=2\/m=4)/\v=none/\(n:Int)=c))(a:0<=m)(b:m<=4):(Ew v n c m x).E=0:=by
 grind [Ew]
theorem LV(h:m=0):(Ew v n c m x).Found=v.isSome:=by subst h;rfl
theorem Q3(g:101<i)(h:LB c a)(j:0<=B)(n:B<=4)(k x:Int):OK (ez i a B k x) (λr=>LB c r.2):=by
 obtain ⟨b,o⟩:=a;unfold ez;obtain ⟨⟨p,K⟩,L,M,l,u,G,s⟩:=AU (fu:=i) (by omega) h.bb j n k x;have N:p=Ew (pv b.Ug k) b.Ug.length c B x:=M;have u:K=⟨b.cap,l⟩:=u;subst u;rw [show jR i b B k x=_ from L,zbs];have O:=h.bb.done G s;by_cases d:(B=2\/B=4)/\pv b.Ug k=none/\(b.Ug.length:Int)=c
 ·obtain ⟨P,Z,hn⟩:=d;have t:p.E=40:=by grind [Jo]
  have Q:∀q,pv l q=pv b.Ug q:=λq=>by
   rw [s.WF q]
   grind [Nt]
  have hl:l.length=b.Ug.length:=by
   rw [s.len]
   grind [Nu]
  have R:=h.same O Q hl;have S:=h.bb.c1;obtain ⟨m,T,I,J,U⟩:=LU g R (by grind) (zk.mk 0 false 0 false 0 0);obtain ⟨⟨f,o3⟩,m2⟩:=m;have J:f.Ug.length+1=l.length:=J;have V:pv f.Ug k=none:=U k (by grind);obtain ⟨⟨v,W⟩,w,X,Y,y,A,C⟩:=AU (fu:=i) (by omega) I.bb j n k x;have f3:v=Ew (pv f.Ug k) f.Ug.length c B x:=X;have y:W=⟨f.cap,Y⟩:=y;subst y;have D:¬ ((B=2\/B=4)/\pv f.Ug k=none/\(f.Ug.length:Int)=c):=λz=>by grind
  have F:v.E=0:=by grind [Jp]
  rw [d7 (by simp [t]),T];simp only [zbs];rw [show jR i f B k x=_ from w];simp only [zbs];rw [d8 (by simp [F])];exact Jn g I j n A C D (found:=v.Found) (λe=>by grind) _
 ·have t:p.E=0:=by rw [N];exact Jp d j n
  rw [d8 (by simp [t])];simp only [zbs];rw [d8 (by simp [t])];exact Jn g h j n G s d (found:=p.Found) (λe=>by grind [LV]) _
def oY(s:qm):Prop:=match s with
 |.inl b=>∃c,BB c b
 |.inr a=>∃c,LB c a
theorem LW(d:101<i)(h:oY D)(e:0<=m)(f:m<=4)(k x:Int):OK (jG i D m k x) (λr=>oY r.2):=by
 cases D with
 |inl b=>
  obtain ⟨c,h⟩:=h;obtain ⟨r,g,q,l,j,n,o⟩:=AU (fu:=i) (by omega) h e f k x;unfold jG;refine ⟨(r.1,.inl r.2),by grind,c,?_⟩;show BB c r.2;rw [j];exact h.done n o
 |inr a=>
  obtain ⟨c,h⟩:=h;obtain ⟨r,g,p⟩:=Q3 d h e f k x;unfold jG;exact ⟨(r.1,.inr r.2),by grind,c,p⟩
theorem wX(h:BB c A):vB A=some A.Ug:=by
 have d:=h.len;have e:=h.WK;unfold vB zB;obtain ⟨u,a⟩:=cX (m:=([]:List zr).length+A.Ug.length) (b:=16) (by simp;omega);rw [a];rfl
theorem EC(h:oY D):OK (jz D) (λr=>r.length<=16):=by
 cases D with
 |inl b=>
  obtain ⟨c,h⟩:=h;have d:=h.len;have e:=h.WK;unfold jz;exact ⟨b.Ug,by grind [wX],by omega⟩
 |inr a=>
  obtain ⟨c,h⟩:=h;have d:=h.bb.len;have e:=h.bb.WK;unfold jz;exact ⟨a.Vl.Ug,by simp only [wX h.bb,zbs],by omega⟩
theorem tM(n:Int):iX n=some (none,2)\/∃b,iX n=some (some b,0)/\BB n b/\b.Ug=[]:=by
 unfold iX;split
 ·exact .inl rfl
 ·rename_i h
  simp only [s7,zdq,not_or] at h;exact .inr ⟨_,rfl,⟨rfl,by omega,by omega,by grind,List.Pairwise.nil⟩,rfl⟩
theorem Cq(d:jM):(∃e,eH d=some (none,e)/\e≠0)\/∃s,eH d=some (some s,0)/\oY s:=by
 unfold eH;split
 ·rcases tM d.Wo with h|⟨b,h,a,_⟩
  ·rw [h];exact .inl ⟨2,rfl,by decide⟩
  ·rw [h];exact .inr ⟨_,rfl,_,a⟩
 ·split
  ·unfold rQ;rcases tM d.Wo with h|⟨b,h,a,c⟩
   ·rw [h];exact .inl ⟨2,rfl,by decide⟩
   ·rw [h];exact .inr ⟨_,rfl,_,⟨a,o5,λk=>by rw [c];simp [pv],by rw [c];rfl⟩⟩
  grind
open Go.Sx
def SS(o:zc)(r:zq):Prop:=0<=r.Item.UI/\r.Item.UI<o.maps.length/\(r.Vw=true\/(0<=r.Item.Op/\r.Item.Op<5))
structure kF (o:zc):Prop where
 s1:1<=o.UX
 s4:o.UX<=4
 m4:o.maps.length<=4
 all:∀s∈o.maps,oY s
 VR:∀r∈o.TZ,SS o r
theorem AV(h:0<=x)(a:x<=1000):vc x=x:=by rw [Q0];omega
theorem LX{k:Int}(a:1<=x)(b:x<=4):OK (aA k x) (λ_=>True):=by
 unfold aA;rw [d8 (by simp;omega)];have h:nz (vc x)=some ():=by unfold nz;rw [AV (by omega) (by omega),d8 (by omega)]
 rw [h];exact ⟨_,rfl,trivial⟩
theorem ED(a:1<=E.UX)(c:E.UX<=4)(r:zq):OK (xU E r) (λb=>b=true->SS E r):=by
 unfold xU;split
 ·exact ⟨_,rfl,λz=>by cases z⟩
 ·rename_i d
  simp only [s7,zdq,not_or] at d;split
  ·rename_i e
   exact ⟨_,rfl,λ_=>⟨by omega,by omega,.inl e⟩⟩
  ·split
   ·split
    ·rename_i f g
     have i:=yq f;have h:=yq g;obtain ⟨q,j,_⟩:=LX (k:=r.Item.UV) a c;rw [j];exact ⟨_,rfl,λ_=>⟨by omega,by omega,.inr ⟨by omega,h⟩⟩⟩
    ·exact ⟨_,rfl,λz=>by cases z⟩
   ·exact ⟨_,rfl,λz=>by cases z⟩
theorem pW(c:101<i)(h:kF E):OK (jJ i E) (λq=>kF q.2.2/\q.2.2.maps.length=E.maps.length/\
  ((E.TZ=[]/\q.2.1=false/\q.2.2=E)\/∃x a,E.TZ=x::a/\q.2.1=true/\q.2.2.TZ=a/\q.1.To=x.Vf/\q.1.VN=x.VN/\q.1.Vw=x.Vw/\q.1.Item=x.Item/\q.1.Pairs.length<=16)):=by
 unfold jJ;cases hl:E.TZ with
 |nil=>
  rw [d7 (by rfl)];exact ⟨_,rfl,h,rfl,.inl ⟨rfl,rfl,rfl⟩⟩
 |cons x a=>
  rw [d8 (by simp;omega)];have l:Go.Sx.idx (x::a) 0=some x:=rfl
  have m:cut (x::a) 1 ((x::a).length:Int)=some a:=by
   unfold cut;rw [d7 (by simp;omega)];simp
  rw [l,zbs,m,zbs];obtain ⟨n,o,A⟩:=h.VR x (by grind);obtain ⟨s,k,p⟩:=pM n o;have b:=h.all s (zmg p);split
  ·rw [k,zbs];obtain ⟨g,u,d⟩:=EC b;rw [u,zbs];exact ⟨_,rfl,⟨h.s1,h.s4,h.m4,h.all,λr v=>h.VR r (by grind)⟩,rfl,.inr ⟨x,a,rfl,rfl,rfl,rfl,rfl,rfl,rfl,d⟩⟩
  ·rename_i B
   rw [k,zbs]
   have f:0<=x.Item.Op/\x.Item.Op<5:=by
    grind
   obtain ⟨q,w,e⟩:=LW c b f.1 (by omega) x.Item.UV x.Item.UQ;rw [w,zbs];refine ⟨_,rfl,⟨h.s1,h.s4,by show (E.maps.set _ _).length<=4;rw [j8];exact h.m4,λt j=> ?_,λr v=> ?_⟩,by grind,.inr ⟨x,a,rfl,rfl,rfl,rfl,rfl,rfl,rfl,by simp⟩⟩
   ·rcases r9 j with j|rfl
    ·exact h.all t j
    ·exact e
   ·obtain ⟨y,C,z⟩:=h.VR r (by grind);exact ⟨y,by grind,z⟩
theorem ti(h:E.TZ.length*56<=140737488355328):vx E=some E.TZ:=by
 unfold vx qp;obtain ⟨u,a⟩:=cX (m:=([]:List zq).length+E.TZ.length) (b:=56) (by simpa using h);rw [a];rfl
theorem Ct(s n:Int)(d:List jM):(∃e,cg s n d=some (none,e)/\e≠0)\/∃o,cg s n d=some (some o,0)/\kF o/\o.TZ=[]/\o.Ue=false/\o.UX=n/\o.Vu=s/\o.maps.length=d.length/\1<=n/\n<=4/\0<=s/\s<n:=by
 unfold cg;split
 ·grind
 ·rename_i l
  simp only [s7,zdq,not_or] at l;obtain ⟨⟨⟨⟨I,J⟩,K⟩,L⟩,M⟩:=l
  obtain ⟨q,w,y⟩:=nS (body:=iY d) (out:=λs=>.inl s) (N:=d.length) (λi o=>o.Vu=s/\o.UX=n/\o.TZ=[]/\o.Ue=false/\o.maps.length=i/\∀x∈o.maps,oY x)
   (λq=>match q with
    |.inl o=>o.Vu=s/\o.UX=n/\o.TZ=[]/\o.Ue=false/\o.maps.length=d.length/\∀x∈o.maps,oY x
    |.inr z=>z.1=none/\z.2≠0) (λi o c A B C=>by
   obtain ⟨f,g,j,k,p,t⟩:=B;unfold iY;rw [oE A,zbs];rcases Cq d[i] with ⟨e,D,a⟩|⟨m,E,F⟩
   ·rw [D,zbs];exact ⟨.inr (none,e),by simp [vK,a],rfl,a⟩
   ·rw [E,zbs];simp only [vK];rw [d8 (by simp)];obtain ⟨u,G⟩:=cX (m:=o.maps.length+[m].length) (b:=16) (by grind);rw [G,zbs];refine C _ ⟨f,g,j,k,by grind,λx v=> ?_⟩
    grind) (λs h=>h) d.length 0 (zc.mk s n [] [] false) (by omega) ⟨rfl,rfl,rfl,rfl,rfl,λx v=>by cases v⟩
  rw [w,zbs];cases q with
  |inl o=>
   obtain ⟨f,g,j,k,p,t⟩:=y;exact .inr ⟨o,rfl,⟨by omega,by omega,by omega,t,λr O=>by grind⟩,j,k,g,f,p,by omega,by omega,by omega,by omega⟩
  |inr z=>
   grind
set_option maxRecDepth 100000
open Go.Sx
open Go.Sx
theorem mf{b c:Type}{body:(b->Option c)->b->Option c}(I:Nat->b->Prop)(Q:c->Prop)
  (h:∀m s (a:b->Option c),I m s->(∀d f,d<m->I d f->∃r,a f=some r/\Q r)->∃r,body a s=some r/\Q r):
  ∀(fu m:Nat)(s:b),m<fu->I m s->∃r,loop body fu s=some r/\Q r
 |0,m,s,e,_=>absurd e (Nat.not_lt_zero _)
 |fu+1,m,s,e,g=>h m s _ g λd f j i=>mf I Q h fu d f (by omega) i
theorem Jq{c:zH}{fu:Nat}(l:0<=c.Up)(v:c.Up<=4)(n:10<fu):
  ∃o,loop (oO c) fu ([],0)=some o/\match o with
   |.inl a=>(a.length:Int)=c.Up/\∀r∈a,lB r/\r.waiting=[]/\r.Vj=false/\r.room=c.UT/\r.counts=⟨0,0,0,0,0⟩
   |.inr z=>z.1=none/\z.2≠0:=by
 refine mf (λm s=>(s.1.length:Int)=s.2/\s.2<=c.Up/\s.2+m=c.Up/\∀r∈s.1,lB r/\r.waiting=[]/\r.Vj=false/\r.room=c.UT/\r.counts=⟨0,0,0,0,0⟩) _ (λm s d p q=> ?_) fu c.Up.toNat ([],0) (by omega) ⟨rfl,l,by grind,λr e=>by cases e⟩;obtain ⟨a,i⟩:=s;obtain ⟨f,g,j,w⟩:=p;have f:(a.length:Int)=i:=f;have g:i<=c.Up:=g;have j:i+m=c.Up:=j;unfold oO;show ∃r,(if decide (i<c.Up)=true then _ else _)=some r/\_;by_cases k:i<c.Up
 ·rw [d7 (by simpa using k)];rcases Ee c.UT (zL.mk 0) with h|⟨r,h,e⟩
  ·exact ⟨.inr (none,2),by rw [h];rfl,rfl,by decide⟩
  ·rw [h,zbs];simp only [vK];rw [d8 (by simp)];obtain ⟨u,t⟩:=cX (m:=a.length+[r].length) (b:=8) (by grind);rw [t,zbs,qq (by omega) (by omega)];refine q (m-1) _ (by omega) ⟨?_,?_,?_,λx y=> ?_⟩
   ·grind
   ·grind
   ·grind
   grind
 ·rw [d8 (by simpa using k)]
  grind
end Go.Proofs.YtplmgfkghomelaaGreatDoor.KH
namespace Go.Proofs.YtplmgfkghomelaaGreatDoor
open Go.Sx
variable {a:Type}
structure EM where
 Uv:qr
 module:zE
 UP:zm
 regs:Nat->Int
 LT:Nat->Int
 Uw:Int
 steps:Int
 state:Int
def AY(f:Nat)(p:EM)(b:Int):Option (qT×EM):=
 (mZ b).bind λa=>
 if a.2 then
  (idx p.module.Maps (p.regs 1)).bind λx=>
  (xY f b).bind λc=>
  (if decide (((c).length:Int)>2) then
   some (p.regs 3)
  else
   some 0).bind λd=>
  some ((qT.mk 2 p.Uw (zg.mk x a.1 (p.regs 2) d) 0),{p with state:=1})
 else
  (if (b==5) then
   (xc p.UP.Uz (w64 (p.regs 1))).bind λr=>
   some ({p with UP:=(zm.mk p.UP.UU r.2.2),regs:=(aset p.regs 0 r.1)},(qT.mk 1 p.Uw (zg.mk 0 0 0 0) r.1))
  else
   some ({p with regs:=(aset p.regs 0 0)},(qT.mk 3 p.Uw (zg.mk 0 0 0 0) (p.regs 1)))).bind λo=>
  some (o.2,(EM.mk o.1.Uv o.1.module o.1.UP o.1.regs o.1.LT (w64 (o.1.Uw+1)) o.1.steps o.1.state))
def iE(a:EM)(p:zf):Option Int:=
 if (p.B==8) then
  some (vc p.UN)
 else
  (ain 8 p.B).bind λi=>
  some (a.regs i)
def CG(p:EM)(a:zf):Option (Int×EM):=
 if (a.Op==0) then
  (iE p a).bind λs=>
  (ain 8 a.D).bind λt=>
  some (1,{p with regs:=(aset p.regs t s)})
 else
  if (a.Op==11) then
   (iE p a).bind λu=>
   (xP p.UP.UU (w64 u)).bind λv=>
   (ain 8 a.D).bind λw=>
   some (1,{p with regs:=(aset p.regs w v.1)})
  else
   if (a.Op==12) then
    (ain 8 a.A).bind λd=>
    (iE p a).bind λe=>
    (xz p.UP.UU (w64 e) (p.regs d)).bind λf=>
    some (1,{p with UP:=(zm.mk f.2 p.UP.Uz)})
   else
    if (a.Op==13) then
     (ain 8 a.D).bind λi=>
     if (a.UN==1) then
      some (1,{p with regs:=(aset (aset p.regs i p.Uv.A) i p.Uv.B)})
     else
      some (1,{p with regs:=(aset p.regs i p.Uv.A)})
    else
     if (a.Op==14) then
      (ain 8 a.D).bind λg=>
      some (1,{p with regs:=(aset p.regs g (vc a.UN))})
     else
      if (a.Op==15) then
       some (w64 (a.D+1),p)
      else
       if (a.Op==20) then
        ((ain 8 a.A).bind λh=>
        if ((p.regs h) !=0) then
         (ain 64 p.Uw).bind λj=>
         some (decide ((p.LT j)<a.UN))
        else
         some false).bind λo=>
        if o then
         (ain 64 p.Uw).bind λb=>
         some (w64 (0-a.D),{p with LT:=(aset p.LT b (w64 ((p.LT b)+1)))})
        else
         (ain 64 p.Uw).bind λk=>
         some (1,{p with LT:=(aset p.LT k 0)})
       else
        (ain 8 a.A).bind λc=>
        (iE p a).bind λl=>
        (gJ a.Op (p.regs c) l).bind λr=>
        if r.2 then
         (ain 8 a.D).bind λm=>
         some (1,{p with regs:=(aset p.regs m r.1)})
        else
         (iE p a).bind λn=>
         (bm a.Op (p.regs c) n).bind λq=>
         if q.1 then
          some (w64 (a.D+1),p)
         else
          some (1,p)
def uG(f:Nat)(p:EM):Option (qT×EM):=
 if (p.state==1) then
  some ((qT.mk 5 p.Uw (zg.mk 0 0 0 0) 0),p)
 else
  if (p.state==2) then
   (idx p.module.Code p.Uw).bind λb=>
   (ain 8 b.A).bind λi=>
   some ((qT.mk 6 p.Uw (zg.mk 0 0 0 0) (p.regs i)),p)
  else
   (idx p.module.Code p.Uw).bind λx=>
   if (x.Op==21) then
    (AY f {p with steps:=(w64 (p.steps+1))} x.UN).bind λa=>
    some (a.1,a.2)
   else
    if (x.Op==22) then
     (ain 8 x.A).bind λc=>
     some ((qT.mk 4 p.Uw (zg.mk 0 0 0 0) (p.regs c)),{p with steps:=(w64 (p.steps+1)),state:=2})
    else
     (CG {p with steps:=(w64 (p.steps+1))} x).bind λr=>
     some ((qT.mk 1 p.Uw (zg.mk 0 0 0 0) 0),(EM.mk r.2.Uv r.2.module r.2.UP r.2.regs r.2.LT (w64 (p.Uw+r.1)) r.2.steps r.2.state))
def nt(p:EM)(a:zk):Option (Int×EM):=
 if (p.state !=1) then
  some (2,p)
 else
  (idx p.module.Code p.Uw).bind λx=>
  (gU x.UN a).bind λr=>
  some (0,{p with regs:=(aset p.regs 0 r),Uw:=(w64 (p.Uw+1)),state:=0})
def pk(M:zt)(S:zm):EM:={M with UP:=S}
theorem Br.ite{a b:Type}{f:a->b}{c:Bool}{A B:Option b}{d e:Option a}(h:A=d.map f)(g:B=e.map f):(if c then A else B)=(if c then d else e).map f:=by
 grind
theorem Br.bind{c b:Type}{f:a->c}{o:Option b}{A:b->Option c}{d:b->Option a}(h:∀x,A x=(d x).map f):o.bind A=(o.bind d).map f:=by
 cases o with
 |none=>rfl
 |some x=>exact h x
theorem m9:type_of% @Br.bind:=Br.bind
theorem Br.bind2{a e b c:Type}{f:a->e}{g:b->c}{o:Option c}{d:Option b}{A:c->Option e}{i:b->Option a}(j:o=d.map g)(h:∀x,A (g x)=(i x).map f):o.bind A=(d.bind i).map f:=by
 subst j;cases d with
 |none=>rfl
 |some x=>exact h x
def pk2{a:Type}(r:a×zt×zm):a×EM:=(r.1,pk r.2.1 r.2.2)
theorem Ra(M:zt)(S:zm)(i:zf):CG (pk M S) i=(jy M i S).map pk2:=by
 unfold CG jy;refine Br.ite (m9 λ_=>m9 λ_=>rfl) ?_;refine Br.ite (m9 λ_=>m9 λ_=>m9 λ_=>rfl) ?_;refine Br.ite (m9 λ_=>m9 λ_=>m9 λ_=>rfl) ?_;refine Br.ite (m9 λ_=>Br.ite rfl rfl) ?_;refine Br.ite (m9 λ_=>rfl) ?_;refine Br.ite rfl ?_;refine Br.ite (m9 λ_=>Br.ite (m9 λ_=>rfl) (m9 λ_=>rfl)) ?_;exact m9 λ_=>m9 λ_=>m9 λ_=>Br.ite (m9 λ_=>rfl) (m9 λ_=>m9 λ_=>Br.ite rfl rfl)
theorem OV(f:Nat)(M:zt)(S:zm)(k:Int):AY f (pk M S) k=(jZ f M k S).map pk2:=by
 unfold AY jZ;refine m9 λ_=>Br.ite (m9 λ_=>m9 λ_=>m9 λ_=>rfl) ?_
 exact Br.bind2 (g:=λo:zt×zm×qT=>(pk o.1 o.2.1,o.2.2)) (Br.ite (m9 λ_=>rfl) rfl) (λ_=>rfl)
theorem OX(f:Nat)(M:zt)(S:zm):uG f (pk M S)=(qM f M S).map pk2:=by
 unfold uG qM;refine Br.ite rfl (Br.ite (m9 λ_=>m9 λ_=>rfl) (m9 λ_=>Br.ite ?_ (Br.ite (m9 λ_=>rfl) ?_)))
 ·exact Br.bind2 (g:=pk2) (OV f {M with steps:=w64 (M.steps+1)} S _) (λ_=>rfl)
 ·exact Br.bind2 (g:=pk2) (Ra {M with steps:=w64 (M.steps+1)} S _) (λ_=>rfl)
theorem Jy(M:zt)(S:zm)(r:zk):nt (pk M S) r=(jE M r S).map (λx=>(x.1,pk x.2 S)):=by
 unfold nt jE;exact Br.ite rfl (m9 λ_=>m9 λ_=>rfl)
end Go.Proofs.YtplmgfkghomelaaGreatDoor
