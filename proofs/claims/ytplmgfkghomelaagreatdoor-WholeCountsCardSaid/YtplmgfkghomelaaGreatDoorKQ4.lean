/- Lemmas. -/
import Derived.Test.YtplmgfkghomelaaGreatDoorKT2
import Derived.Test.YtplmgfkghomelaaGreatDoorD1
set_option linter.all false
namespace Go.Proofs.YtplmgfkghomelaaGreatDoor.KH
open Go.Sx
variable {c:zH}{l:List zd}{d:List (List zO)}{H n z:Nat}{h:za}{x:zd}{R:Int}{a:qZ}
def row(l:List zd)(z:Nat):List Int:=[(cE 4 z l:Int),(cE 5 z l:Int),(cE 10 z l:Int),(cE 9 z l:Int)]
def tab(H:Nat)(l:List zd):List (List Int):=(List.range H).map (row l)
theorem wF(h:z<H):(tab H l)[z]? =some (row l z):=by
 simp [tab,h]
theorem AE:(tab H l).length=H:=by simp [tab]
theorem IS(h:fV x)(z:Nat):row (l++[x]) z=row l z:=by
 obtain ⟨a,b,c,d⟩:=h;simp [row,nQ,wE,a,b,c,d]
theorem IT(h:fV x):tab H (l++[x])=tab H l:=by
 unfold tab;rw [show row (l++[x])=row l from funext λz=>IS h z]
theorem K7(c:z<H)(h:x.SS=z)(d:x.TO=R)(a:(R=4/\n=0)\/(R=5/\n=1)\/(R=10/\n=2)\/(R=9/\n=3)):tab H (l++[x])=(tab H l).set z ((row l z).set n ((cE R z l:Int)+1))/\(row l z)[n]? =some (cE R z l:Int):=by
 refine ⟨l8 λi=> ?_,by rcases a with ⟨rfl,rfl⟩|⟨rfl,rfl⟩|⟨rfl,rfl⟩|⟨rfl,rfl⟩<;>rfl⟩;rw [yo,AE];by_cases b:i<H
 ·rw [wF b,wF b];by_cases e:z=i
  ·subst e;rw [d8 rfl,d8 c];rcases a with ⟨rfl,rfl⟩|⟨rfl,rfl⟩|⟨rfl,rfl⟩|⟨rfl,rfl⟩<;>simp [row,nQ,wE,d,h]
  ·rw [d7 e];have:¬ ((z:Int)=i):=by omega
   simp [row,nQ,wE,h,this]
 ·rw [d7 (by omega),yp (by rw [AE];omega),yp (by rw [AE];omega)]
theorem Gt(M:H<=4)(hl:l.length<9223372036854775807)(A:∀e∈l,fV e\/(0<=e.SS/\e.SS<H)):xu 2199023255552 l (H:Int)=some (tab H l,true):=by
 unfold xu;rw [show mkLen (H:Int) 24=some H by grind [mkLen],zbs]
 obtain ⟨o,B,rfl⟩:=lF (body:=dh (H:Int)) (λm s=>∃i:Nat,s=(List.replicate i (List.replicate 4 0)++List.replicate m [],(i:Int))/\i+m=H) (λo=>o=List.replicate H (List.replicate 4 0)) (λm s a u n=>by
  obtain ⟨i,rfl,e⟩:=u;unfold dh;by_cases c:i<H
  ·obtain ⟨m,rfl⟩:∃k,m=k+1:=⟨m-1,by omega⟩
   rw [d8 (by simpa using c),show mkLen 4 8=some 4 from rfl,zbs];have C:(List.replicate i (List.replicate 4 (0:Int))++List.replicate (m+1) [])[i]? =some []:=by simp
   show OK ((Go.Sx.idx (List.replicate i (List.replicate 4 (0:Int))++List.replicate (m+1) []) (i:Int)).bind _) _;rw [zV C,zbs];refine n m _ (by omega) ⟨i+1,?_,by omega⟩;rw [qo (by omega) (by omega)];simp only [o4,Int.natCast_add,Int.cast_ofNat_Int,and_true];refine l8 λq=> ?_
   grind
  ·rw [d7 (by simpa using c)];have:m=0:=by omega
   subst this;obtain rfl:i=H:=by omega
   exact ⟨_,rfl,by simp⟩) 2199023255552 H (List.replicate H [],0) (by omega) ⟨0,by simp,by omega⟩
 rw [B,zbs]
 have D:List.replicate H (List.replicate 4 (0:Int))=tab H []:=by
  refine l8 λi=> ?_
  by_cases c:i<H
  ·rw [wF c,List.getElem?_replicate,d8 c];rfl
  ·rw [yp (by simp;omega),yp (by rw [AE];omega)]
 obtain ⟨o,E,rfl⟩:OK (jM (di l (H:Int)) (λ(d:(List (List Int)))=>(.inl d)) l.length 0 (List.replicate H (List.replicate 4 0))) (λo=>o=.inl (tab H l)):=by
  refine g9 (λi s=>s=tab H (l.take i)) D (λi s a c u n=> ?_) (λs F=>by rw [F,List.take_length]);subst u;unfold di;refine f9 (i7 c λx v=> ?_);have w:=Gs
  have key:∀(m:Int)(k:Nat),x.TO=m->((m=4/\k=0)\/(m=5/\k=1)\/(m=10/\k=2)\/(m=9/\k=3))->OK (if decide ((k:Int)<0) then a (tab H (l.take i)) else
    (if decide (x.SS<0) then some true else some (decide (x.SS>=(H:Int)))).bind λf=>if f then some (.inr (([]:List (List Int)),false)) else
     (Go.Sx.idx (tab H (l.take i)) x.SS).bind λb=>(Go.Sx.idx b (k:Int)).bind λg=>a ((tab H (l.take i)).set (Int.toNat x.SS) (b.set (Int.toNat (k:Int)) (w64 (g+1))))) (λo=>o=.inl (tab H l)):=λm k G I=>by
   rcases A x (zmg v) with J|⟨N,O⟩
   ·obtain ⟨P,Q,R,S⟩:=J;omega
   obtain ⟨z,y⟩:∃z:Nat,x.SS=z:=⟨x.SS.toNat,by omega⟩
   have j:z<H:=by omega
   obtain ⟨K,L⟩:=K7 (l:=l.take i) j y G I;have:=w m z (l.take i);have:(l.take i).length<=l.length:=by simp;omega
   rw [d7 (by simp),y,d7 (by simp),zbs,d7 (by simp;omega),zV (wF j),zbs,zV L,zbs,qo (by omega) (by omega)];refine n _ ?_;rw [mB v,K];rfl
  by_cases p:x.TO=4
  ·rw [d8 (by simpa using p)];exact key 4 0 p (by simp)
  rw [d7 (by simpa using p)];by_cases r:x.TO=5
  ·rw [d8 (by simpa using r)];exact key 5 1 r (by simp)
  rw [d7 (by simpa using r)];by_cases h:x.TO=10
  ·rw [d8 (by simpa using h)];exact key 10 2 h (by simp)
  rw [d7 (by simpa using h)];by_cases t:x.TO=9
  ·rw [d8 (by simpa using t)];exact key 9 3 t (by simp)
  rw [d7 (by simpa using t)];simp only [zbs];rw [d8 (by simp)];refine n _ ?_;rw [mB v,IT ⟨p,r,t,h⟩]
 rw [E];rfl
theorem gL(a:HI c d n h):(h.rings.length:Int)=c.SA/\h.SH.length<9223372036854775807:=⟨a.rg,by have:=a.Ua;have:=a.Tv;omega⟩
theorem tY(a:aR c d)(b:HI c d n h)(e:HQ R h):xu 2199023255552 h.SH c.SA=some (tab h.rings.length h.SH,true):=by
 obtain ⟨f,g⟩:=gL b;have:=a.hk;rw [<- f];exact Gt (by omega) g e.mark
theorem K8(y:aR c d)(k:HI c d n h)(t:HQ a.C.Td h):jM (aO a h (tab h.rings.length h.SH,true) (h.rings.map lH)) (λ(l:Unit)=>(.inl ())) (h.rings.map lH).length 0 ()=some (.inl ()):=by
 obtain ⟨D,E,F,G,I,J⟩:=k.sizes y;obtain ⟨K,L⟩:=gL k;refine OK.is (g9 (λi _=>True) trivial (λi s m j _ u=> ?_) (λs _=>rfl));rw [o8] at j;have o:=zeg j;obtain ⟨M,v,p,g,N⟩:=t.cnt i _ o;have q:=(k.ring _ (zmg o)).1;have O:=Gs 4 i h.SH;unfold aO;rw [zV (show (h.rings.map lH)[i]? =some (lH h.rings[i]) by simp [o]),zbs,zV (wF j)];obtain ⟨b,z,r⟩:=AD (h:=h) (by omega) (by omega);simp only [zbs];rw [show Go.Sx.idx (row h.SH i) 0=some (cE 4 i h.SH:Int) from rfl,show Go.Sx.idx (row h.SH i) 1=some (cE 5 i h.SH:Int) from rfl,show Go.Sx.idx (row h.SH i) 2=some (cE 10 i h.SH:Int) from rfl,show Go.Sx.idx (row h.SH i) 3=some (cE 9 i h.SH:Int) from rfl,z];simp only [zbs];rw [d7 (by simp [lH,v]),d7 (by simp [lH,p]),d7 (by simp [lH,g])]
 have e:w64 (w64 (h.rings[i].Sj.TC+h.rings[i].Sj.Tf)+(h.rings[i].waiting.length:Int))=h.rings[i].Sj.SZ:=by
  rw [v,p,g,qo (x:=(cE 5 i h.SH:Int)+_) (by omega) (by omega),qo (by omega) (by omega)];omega
 rw [d7 (by simp [lH,e])];simp only [zbs];rw [show decide ((lH h.rings[i]).Tx>a.C.Td)=false from decide_eq_false (by show ¬ ((h.rings[i].waiting.length:Int)>a.C.Td);have:=q.2.2;omega),d7 Bool.false_ne_true]
 have A:b=true->cE 5 i h.SH=cE 9 i h.SH:=λe=>by
  have:=t.run i j;rw [mP (f:=pN i) (λw B=>by simp [pN,(r.1 e).2 w B])] at this;exact this
 cases b with
 |true=>
  rw [d8 rfl,zbs,d7 (by simp [lH,p,A rfl])];exact u _ trivial
 |false=>exact u _ trivial
theorem Ea.rings(f:HI c d n h)(i:aR c d)(k:HJ h.or.length h.LE.length h.Fd.length h)(g:Ea h):∀r∈h.rings,r.waiting=[]:=by
 cases a:h.Sk with
 |true=>exact k.TK a
 |false=>
  obtain ⟨s,t,u,v,x,y⟩:=f.sizes i;obtain ⟨w,b⟩:∃w,w∈h.LE:=List.exists_mem_of_length_pos (by omega);obtain ⟨j,l⟩:=p9 b;have m:¬ O6 h w:=λz=>g.no _ (.w j w l z)
  have o:=f.Ud w b;have A:=g.crew w b;intro r p;refine Classical.byContradiction λe=>m ⟨λ_=>⟨?_,.inr ⟨r,p,e⟩⟩,λz=>by omega⟩
  cases q:w.Sv with
  |true=>rw [o q] at a;cases a
  |false=>rfl
theorem N5(g:KF c d h):HQ c.Td h:=by
 obtain ⟨r,os,v,k,a,x,y,A,B,C,D,⟨l,m⟩,⟨n,b⟩,rfl⟩:=g.is;obtain ⟨E,i,F,o,G⟩:=WJ.new (H:=c.SA.toNat) (K:=c.Maps.length) (by have:=g.hk;omega);rw [a] at i;obtain rfl:=j4 i;refine ⟨(λe p=>by cases p),λz r j=> ?_,λz j=> ?_⟩
 ·obtain ⟨I,q,J,s,t⟩:=b r (zmg j);rw [t,q];exact ⟨s,rfl,rfl,rfl,rfl⟩
 ·show 0=0+eQ (pN z) (List.replicate c.Sl.toNat (mC k));rw [x7];refine (mP (f:=pN z) λw u=> ?_).symm;rw [R6 u];simp [pN,mC,o]
abbrev IQ(R:Int)(h:za):Prop:=HJ' h/\HQ R h
theorem K9(a:aR c d):AC c d (IQ R):=(K4 a).and (λ_ h=>h.withK _) (λb _ h e=>Q9 a b h e)
theorem wholeCounts_law(a:qZ)(Q:∀s∈a.Tl,∀c∈s,Fit c):jZ 2199023255552 a=some true:=by
 refine OK.is ?_;unfold jZ;rw [K6,zbs];refine j6 rfl ?_;rcases N4 Q with e|⟨h,e,u⟩
 ·rw [e];exact b9 rfl
 rw [e,zbs];simp only [vT];refine j6 rfl ?_;have p:=u.shape Q;have S:=K9 (R:=a.C.Td) p
 obtain ⟨o,D,g,n1,U,v,A⟩:=lF (body:=aP 2199023255552 a) (λm s=>∃n i:Nat,s.2=(i:Int)/\i+m=601/\HB a.C a.Tl (phi h) n s.1/\IQ a.C.Td s.1) (λo=>∃g n,o=.inl g/\HB a.C a.Tl (phi h) n g/\IQ a.C.Td g) (λm s t V K=>by
  obtain ⟨n,i,e,em,v,A⟩:=V;obtain ⟨g,i2⟩:=s;simp only at e v A;subst e;unfold aP;by_cases E:(i:Int)<=a.Th.length/\i<600
  ·refine m9 (by simp;omega) ?_
   obtain ⟨J,l,W,d,j⟩:∃J l,(if decide ((i:Int)<((a.Th).length:Int)) then (Go.Sx.idx a.Th (i:Int)).bind λx=>(aa 2199023255552 g x).bind λy=>some y.2.2 else some g)=some l/\HB a.C a.Tl (phi h) J l/\IQ a.C.Td l:=by
    by_cases hl:i<a.Th.length
    ·rw [d8 (by simpa using hl),zV (zeg hl),zbs];obtain ⟨r,D,X⟩:=Av p v.inv a.Th[i];rw [D];obtain ⟨Y,Z,_⟩:=IP p S v A X;exact ⟨_,_,rfl,Y,Z⟩
    ·rw [d7 (by simpa using hl)];exact ⟨n,g,rfl,v,A⟩
   show OK (Option.bind (if decide ((i:Int)<((a.Th).length:Int)) then _ else _) _) _;rw [W,zbs];obtain ⟨s1,s2,s3,s4,s5,s6⟩:=d.inv.sizes p;obtain ⟨b,u,F⟩:=AD (h:=l) (by omega) (by omega)
   obtain ⟨q,hq⟩:∃q,(if ((i:Int).tmod 5 !=0)=true then (xE l).bind λz=>if (!z)=true then some (decide ((i:Int)<((a.Th).length:Int))) else some false else some false)=some q:=by
    rw [u];simp only [zbs];split
    ·split<;>exact ⟨_,rfl⟩
    ·exact ⟨_,rfl⟩
   show OK (Option.bind (if ((i:Int).tmod 5 !=0)=true then _ else _) _) _;rw [hq,zbs]
   have next:OK (t (l,w64 ((i:Int)+1))) (λo=>∃g n,o=.inl g/\HB a.C a.Tl (phi h) n g/\IQ a.C.Td g):=by
    rw [qo (by omega) (by omega)];exact K (m-1) _ (by omega) ⟨J,i+1,rfl,by omega,d,j⟩
   refine d5 (λ_=>next) λ_=> ?_
   rw [My d.inv,zbs,tY p d.inv j.2,zbs,Fy (by have:=(gL d.inv).1;have:=p.hk;omega),zbs];refine j6 (by have:=(gL d.inv).1;simp [this]) ?_;rw [K8 p d.inv j.2];exact next
  ·refine j6 (by simp;omega) ?_;exact b9 ⟨g,n,rfl,v,A⟩) 2199023255552 601 (h,0) (by omega) ⟨0,0,rfl,rfl,N3 u,(Jh u).Vc,N5 u⟩
 rw [D,U];simp only [zbs];obtain ⟨J,l,d,j,B,G⟩:=N2 p S v A [];have B:=B.done p d.inv j.1;obtain ⟨s1,s2,s3,s4,s5,s6⟩:=d.inv.sizes p;have L:=(gL d.inv).1;have hhk:=p.hk;rw [G];simp only [zbs];rw [My d.inv,zbs,tY p d.inv j.2,zbs,Fy (by omega),zbs];simp only;rw [d7 (by simp),d7 (by simp [L])];obtain ⟨b,u,F⟩:=AD (h:=l) (by omega) (by omega);have M:b=true:=F.2 ⟨λk hk=>(B.Uu k hk).1,B.crew⟩;subst M;rw [u];simp only [zbs];refine j6 rfl ?_;have N:=B.rings d.inv p j.1
 obtain ⟨o,D,rfl⟩:OK (jM (aQ (tab l.rings.length l.SH,true) (l.rings.map lH)) (λ(O:Unit)=>(.inl ())) (l.rings.map lH).length 0 ()) (λo=>o=.inl ()):=by
  refine g9 (λi _=>True) trivial (λi s t E _ K=> ?_) (λs _=>rfl);rw [o8] at E;have P:=zeg E;obtain ⟨a0,a4,a5,a10,T⟩:=j.2.cnt i _ P;have l4:=Gs 4 i l.SH;have hl:=(gL d.inv).2;have h9:=j.2.run i E;rw [mP (f:=pN i) (λw N=>by simp [pN,B.crew w N])] at h9;have I:=N _ (zmg P);unfold aQ;rw [zV (show (l.rings.map lH)[i]? =some (lH l.rings[i]) by simp [P]),zbs,zV (wF E),zbs,show Go.Sx.idx (row l.SH i) 3=some (cE 9 i l.SH:Int) from rfl,zbs];rw [d7 (by simp [lH,I]),zbs];refine j6 ?_ (K _ trivial);simp only [lH];rw [I] at T;rw [qo (by omega) (by omega)];simp;simp at T;omega
 rw [D];exact b9 rfl
end Go.Proofs.YtplmgfkghomelaaGreatDoor.KH
namespace Go.Proofs.YtplmgfkghomelaaGreatDoor
open Go.Sx
variable {n:Int}{x:zO}
theorem KH.lit_u64(h:(Lit.int .u64 n).wf=true):u64 n:=by
 simp only [Lit.wf,zae,zdq] at h;exact ⟨h.1,Int.lt_of_le_of_lt h.2 (by decide)⟩
theorem KH.fitG(h:ta x):KH.Fit x:=by
 have c:reachBytes<=140737488355328:=by decide
 obtain ⟨_,g,⟨d,a⟩,_,_,_,ge,⟨e,_⟩⟩:=h;exact ⟨by omega,by omega,⟨KH.lit_u64 ge.1,KH.lit_u64 ge.2⟩,KH.lit_u64 g.2.2.2,λi b=>KH.lit_u64 (a i b).2.2.2⟩
theorem rZ(p:qZ)(g:ki p):∃f,jZ f p=some true:=by
 obtain ⟨gc,⟨d,a⟩,_⟩:=g;exact ⟨2199023255552,KH.wholeCounts_law p (λs h c b=>KH.fitG ((a s h).2 c b))⟩
end Go.Proofs.YtplmgfkghomelaaGreatDoor
