/- Lemmas. -/
import Derived.Test.YtplmgfkghomelaaGreatDoorKQ8
import Derived.Test.YtplmgfkghomelaaGreatDoorD1
set_option linter.all false
namespace Go.Proofs.YtplmgfkghomelaaGreatDoor.KH
open Go.Sx
variable {M m G j n:Nat}{P:List (List Int×Int)}{c:zH}{g:List (List zF)}{h:za}{A:zy}{a p:List Int}{v:List zy}{d i q e:Int}{f:zE}{o:zd}{x:zF}{b:qw}{r:zb}{l:List ze}
theorem Px(d:KG c g h):HV h:=by
 obtain ⟨r,os,j,w,e,m,f,n,o,i,q,_,_,rfl⟩:=d.is
 have b:LD (g.map tg)=[]:=by
  unfold LD;rw [List.map_map,List.flatten_eq_nil_iff];intro l hl;obtain ⟨s,_,rfl⟩:=x2.1 hl;show ldA (tg s)++ldP (tg s)=[]
  rw [uR (k:=tg s) (.inl rfl)];simp [ldA,tg]
 refine ⟨?_,?_,λp a=> ?_,(λp a=>by cases a),?_⟩
 ·show []=(List.range r.given.toNat).map _;rw [f];rfl
 ·show List.Perm ((LD (g.map tg)).map _) [];rw [b];exact .nil
 ·rw [show p∈LD (g.map tg)↔p∈ [] by rw [b]] at a;cases a
 ·show []=r.waiting.map _;rw [i];rfl
theorem NB(l:List Int)(x:Int):bu l x=some (decide (x∈l)):=by
 unfold bu
 obtain ⟨o,c,h⟩:OK (jN (gv l x) (λ(d:Unit)=>(.inl ())) l.length 0 ()) (λo=>match o with|.inl _=>x∉l|.inr r=>r=true/\x∈l):=by
  refine i5 (λi _=>x∉l.take i) (by simp) (λi s a f g j=> ?_) (λs k=>by simpa using k);unfold gv;refine g9 (i9 f λy b=>d5 (λe=>b9 ⟨rfl,?_⟩) (λe=>j _ ?_))
  ·have e:y=x:=by simpa using e
   rw [<- e];exact zmg b
  ·rw [iN b];have e:y≠x:=by simpa using e
   simp [g];exact λz=>e z.symm
 rw [c];cases o with
 |inl _=>simp [h]
 |inr r=>simp [h.1,h.2]
def dm(b:List Int):List Int:=((xa 2199023255552 b).map (λr=>r.1.Maps)).getD []
def cnt(g:List Int)(P:List (List Int×Int))(m:Nat):Nat:=P.countP (λp=>decide (p.2∉g)&&decide ((m:Int)∈dm p.1))
def wv(M:Nat)(g:List Int)(P:List (List Int×Int)):List Int:=(List.range M).map (λm=>((cnt g P m:Nat):Int))
theorem SA(h:m<M):(wv M a P)[m]? =some ((cnt a P m:Nat):Int):=by
 unfold wv;rw [o8,TJ h];rfl
theorem Rq{g:List Int}:cnt g P m<=P.length:=List.countP_le_length
theorem SB{G:Nat}(I:v[j]? =some A)(K:xa 2199023255552 p=some (f,q,e))(r:pg f.Maps)(L:∀x∈f.Maps,x<(M:Int))(Y:P.length<=100000):
  ∀w,loop (jU (a,d) M v (i,w,(j:Int)) (f,q,e)) 2199023255552 (wv M a P,0)=some (.inl (wv M a (P++[(p,A.N)]))):=by
 intro w;have y:dm p=f.Maps:=by unfold dm;rw [K];rfl
 have J:=r.2.2;by_cases l:A.N∈a
 ·have O:wv M a (P++[(p,A.N)])=wv M a P:=by
   unfold wv cnt;simp [List.countP_append,l]
  rw [O];show jU _ _ _ _ _ _ _=_;unfold jU;by_cases h:(0:Int)<(f.Maps.length:Int)
  ·rw [d7 (decide_eq_true h),show Go.Sx.idx v (i,w,(j:Int)).2.2=_ from zX I];simp only [zbs];rw [show bu (a,d).1 A.N=_ from NB a A.N];simp [l]
  ·rw [d8 (by simpa using h)];rfl
 ·obtain ⟨o,Q,R⟩:=mf (body:=jU (a,d) M v (i,w,(j:Int)) (f,q,e)) (λk s=>∃t:Nat,t+k=f.Maps.length/\s=((List.range M).map (λx=>((cnt a P x+(if (x:Int)∈f.Maps.take t then 1 else 0):Nat):Int)),(t:Int))) (λo=>o=.inl (wv M a (P++[(p,A.N)]))) (λk s B S T=>by
   obtain ⟨t,Z,rfl⟩:=S;unfold jU;by_cases h:t<f.Maps.length
   ·have C:=zeg h;have U:=r.1 _ (yi h);have D:=L _ (yi h);rw [d7 (by simpa using h),show Go.Sx.idx v (i,w,(j:Int)).2.2=_ from zX I];simp only [zbs];rw [show bu (a,d).1 A.N=_ from NB a A.N];simp only [zbs];rw [d7 (by simp [l]),zX C,zbs,d8 (by simp;omega)];obtain ⟨z,n⟩:∃z:Nat,f.Maps[t]=(z:Int):=⟨f.Maps[t].toNat,by omega⟩
    rw [n] at D |-;have b:z<M:=by omega
    have E:(z:Int)∉f.Maps.take t:=λF=>by
     have c:=r.2.1;rw [<- x9 t f.Maps] at c;refine (k6.1 c).2.2 _ F _ ?_ rfl;rw [<- n];exact List.mem_drop_iff_getElem.2 ⟨0,by omega,by simp⟩
    rw [zX (show ((List.range M).map (λx:Nat=>((cnt a P x+(if (x:Int)∈f.Maps.take t then 1 else 0):Nat):Int)))[z]? =some ((cnt a P z:Nat):Int) by rw [o8,TJ b,t6,d8 E];rfl),zbs];have hc:=Rq (g:=a) (P:=P) (m:=z);refine T (k-1) _ (by omega) ⟨t+1,by omega,?_⟩;rw [qq (by omega) (by omega),qq (by omega) (by omega)];refine Prod.ext ?_ rfl;show (((List.range M).map _).set (z:Int).toNat _)=_;rw [show ((z:Nat):Int).toNat=z from rfl];refine o4 λu=> ?_
    rw [y7];simp only [m6,List.length_range];by_cases e:z=u
    ·subst e;rw [d7 rfl,d7 b,o8,TJ b,t6,d7 (by rw [iN C,n];simp)];rfl
    ·rw [d8 e,o8,o8];by_cases V:u<M
     ·have W:(u:Int)≠(z:Int):=by omega
      have X:((u:Int)∈f.Maps.take (t+1))↔(u:Int)∈f.Maps.take t:=by rw [iN C,n];simp [W]
      rw [TJ V];simp only [t6,X]
     ·rw [TA (by simp;omega)];rfl
   ·obtain rfl:t=f.Maps.length:=by omega
    rw [d8 (by simp)];refine ⟨_,rfl,?_⟩;rw [TF];simp only;unfold wv cnt
    congr 1
    refine Tv λx _=> ?_
    rw [List.countP_append];simp [l,y]) 2199023255552 f.Maps.length (wv M a P,0) (by omega) ⟨0,by omega,by unfold wv;simp⟩
  rw [Q,R]
theorem Mw(h:o.Uf[j]? =some x)(a:o.Ud[j]? =some A):(((o.Uf.zip o.Ud).take (j+1)).filter (λp=>p.1.TY==4&&p.2.E==0)).map (λp=>(p.1.Uq,p.2.N))=(((o.Uf.zip o.Ud).take j).filter (λp=>p.1.TY==4&&p.2.E==0)).map (λp=>(p.1.Uq,p.2.N))++one x A:=by
 have b:(o.Uf.zip o.Ud)[j]? =some (x,A):=by rw [List.getElem?_zip_eq_some];exact ⟨h,a⟩
 rw [iN b,yt,k8]
 congr 1
 unfold one;by_cases e:x.TY=4/\A.E=0
 ·simp [e]
 ·simp [e]
def fz(l:List (zF×zy)):List (List Int×Int):=(l.filter (λp=>p.1.TY==4&&p.2.E==0)).map (λp=>(p.1.Uq,p.2.N))
theorem SC{g:List Int}{k:zd}(K:b.UG[n]? =some k.Uf)(hl:k.Ud.length=k.Uf.length)(L:k.Uf.length<=64)(W:P.length<=1000)(X:G<=1000000000)
  (Y:P.length+(ldA k).length<=G) (i:∀x∈k.Uf,x.Uq.length<=140737488355328) (O:∀p∈ldA k,∃m q,xa 2199023255552 p.1=some (m,q,0)/\pg m.Maps/\∀x∈m.Maps,x<(M:Int)):
  loop (vH 2199023255552 b (g,d) M n k.Ud) 2199023255552 (((G-P.length:Nat):Int),wv M g P,0)=some (.inl (((G-(P++ldA k).length:Nat):Int),wv M g (P++ldA k))):=by
 have Z:(k.Uf.zip k.Ud).length=k.Uf.length:=by rw [List.length_zip,hl];omega
 have a:∀j,(fz ((k.Uf.zip k.Ud).take j)).Sublist (ldA k):=λj=>((List.take_sublist j _).filter _).map _
 obtain ⟨o,l,rfl⟩:=mf (body:=vH 2199023255552 b (g,d) M n k.Ud) (λt s=>∃j:Nat,j+t=k.Uf.length/\s=(((G-(P++fz ((k.Uf.zip k.Ud).take j)).length:Nat):Int),wv M g (P++fz ((k.Uf.zip k.Ud).take j)),(j:Int))) (λo=>o=.inl (((G-(P++ldA k).length:Nat):Int),wv M g (P++ldA k))) (λt s v Q D=>by
  obtain ⟨j,ht,rfl⟩:=Q;have R:=(a j).length_le;unfold vH;by_cases F:j<k.Uf.length
  ·obtain ⟨x,w⟩:∃x,k.Uf[j]? =some x:=⟨_,zeg F⟩
   obtain ⟨A,y⟩:∃A,k.Ud[j]? =some A:=⟨_,zeg (by omega)⟩
   have h:fz ((k.Uf.zip k.Ud).take (j+1))=fz ((k.Uf.zip k.Ud).take j)++one x A:=Mw w y;have f:=(a (j+1)).length_le;rw [d7 (by simp;omega),zX K,zbs,zbs,d7 (by simpa using F)];rw [zbs];have B:=zX w;have r:=zX y;simp only [B,zbs];have I:w64 ((j:Int)+1)=((j+1:Nat):Int):=by rw [qq (by omega) (by omega)];rfl
   by_cases u:x.TY=4/\A.E=0
   ·have l:one x A=[(x.Uq,A.N)]:=d7 u;rw [l] at h;obtain ⟨m,q,J,S,T⟩:=O (x.Uq,A.N) ((a (j+1)).subset (by rw [h];simp));rw [d8 (by simp [u.1]),r,zbs,zbs,d8 (by simp [u.2]),xi (by simp;exact i x (zmg w)),zbs,Tr,show xa 2199023255552 x.Uq=_ from J,zbs,d8 (by simp)]
    have C:(P++fz ((k.Uf.zip k.Ud).take j)).length<=100000:=by
     rw [l8];have:=(TT (λp:zF×zy=>p.1.TY==4&&p.2.E==0) ((k.Uf.zip k.Ud).take j))
     simp only [fz,m6];simp only [yw] at this;omega
    rw [SB (G:=G) y J S T C,zbs];refine D (t-1) _ (by omega) ⟨j+1,by omega,?_⟩;rw [I,h,<- u6];refine Prod.ext ?_ rfl;show w64 _=((_:Nat):Int)
    rw [h] at f;simp only [l8,List.length_singleton] at f |-;rw [qq (by omega) (by omega)];omega
   ·have l:one x A=[]:=d8 u
    have U:(if (x.TY !=4)=true then some true else (Go.Sx.idx k.Ud (j:Int)).bind λc=>some (c.E !=0))=some true:=by
     by_cases e:x.TY=4
     ·have V:A.E≠0:=λz=>u ⟨e,z⟩
      rw [d8 (by simp [e]),r];simp [V]
     ·rw [d7 (by simp [e])]
    rw [U,zbs,d7 rfl,I];exact D (t-1) _ (by omega) ⟨j+1,by omega,by rw [h,l,i4]⟩
  ·obtain rfl:j=k.Uf.length:=by omega
   rw [d8 (by simp;omega),zbs,d8 (by decide)];refine ⟨_,rfl,?_⟩;rw [s9 (by omega)];rfl) 2199023255552 k.Uf.length (((G-P.length:Nat):Int),wv M g P,0) (by omega) ⟨0,by omega,by simp [fz]⟩
 exact l
theorem Rs(f:fK G M j n r)(u:told 12 l=(List.range r.given.toNat).map (λi:Nat=>((i+1:Nat):Int)))(w:(P.map (·.2)).Perm (told 12 l))
  (A:∀p∈P,∃m q,xa 2199023255552 p.1=some (m,q,0)/\pg m.Maps/\(∀x∈m.Maps,x<r.maps)/\(p.2∈told 13 l\/∃x,ja r.Uj p.2=some x/\x.module.Maps=m.Maps)) (B:∀p∈told 13 l,p<=r.given/\ja r.Uj p=none) (m:Nat):(holds m r.UY.held).length=cnt (told 13 l) P m:=by
 have g:∀p∈P,p.2∉told 13 l->∃x,ja r.Uj p.2=some x/\x.module.Maps=dm p.1:=λp h c=>by
  obtain ⟨v,q,C,_,_,D⟩:=A p h;rcases D with z|⟨x,E,F⟩
  ·exact absurd z c
  ·exact ⟨x,E,by unfold dm;rw [C];exact F⟩
 have o:(P.map (·.2)).Nodup:=by
  refine w.nodup_iff.2 ?_;rw [u];exact List.Pairwise.map _ (λa b e z=>e (by simp at z;omega)) List.nodup_range
 have I:cnt (told 13 l) P m=((P.filter (λp=>decide (p.2∉told 13 l)&&decide ((m:Int)∈dm p.1))).map (·.2)).length:=by
  rw [m6];exact List.countP_eq_length_filter
 rw [I];refine List.Perm.length_eq ((List.perm_ext_iff_of_nodup ?_ ?_).2 λN=> ?_)
 ·unfold holds;rw [f.held];refine List.Nodup.sublist ((List.filter_sublist).map _) ?_;rw [List.map_map];exact f.Vc
 ·exact o.sublist ((List.filter_sublist).map _)
 ·unfold holds;rw [f.held];simp only [x2,List.mem_filter,zae,zdq];constructor
  ·rintro ⟨_,⟨⟨⟨N,x⟩,hx,rfl⟩,s⟩,rfl⟩;have k:=Me f.Vc hx;obtain ⟨K,L,_⟩:=f.prog N x k;have J:N∈P.map (·.2):=w.mem_iff.2 (by rw [u];exact x2.2 ⟨(N-1).toNat,List.mem_range.2 (by omega),by omega⟩)
   obtain ⟨p,h,rfl⟩:=x2.1 J;have c:p.2∉told 13 l:=λz=>by rw [(B _ z).2] at k;cases k
   obtain ⟨y,d,t⟩:=g p h c;have d:ja r.Uj p.2=some y:=d;rw [show ja r.Uj p.2=some x from k] at d;cases d;exact ⟨p,⟨h,c,by rw [<- t];exact s⟩,rfl⟩
  ·rintro ⟨p,⟨h,c,s⟩,rfl⟩;obtain ⟨y,d,t⟩:=g p h c;exact ⟨(p.2,y.module.Maps),⟨⟨(p.2,y),Gc d,rfl⟩,by rw [t];exact s⟩,rfl⟩
theorem Py(f:aQ c g)(b:HI c g n h):dJ h=some ((List.range c.Maps.length).map (λm:Nat=>(((holds (m:Int) h.Fd.UY.held).length:Nat):Int))):=by
 have j:=f.mp;have hl:=b.UO.len;unfold dJ;rw [b.Ur,xi (by omega),zbs]
 have:jN (fH h) (λ(a:(List Int))=>a) c.Maps.length 0 ([]:List Int)=some ((List.range c.Maps.length).map (λm:Nat=>(((holds (m:Int) h.Fd.UY.held).length:Nat):Int))):=by
  refine OK.is (i5 (λi s=>s=(List.range i).map (λm:Nat=>(((holds (m:Int) h.Fd.UY.held).length:Nat):Int))) rfl (λi s d o e k=> ?_) (λs l=>l));subst e;unfold fH;rw [L8 _ _ (by rw [b.UO.held,m6];omega) (by omega) (by rw [b.UO.Wa];omega),zbs,xi (by simp;omega),zbs];refine k _ ?_;rw [List.range_succ,k8];rfl
 rw [this];rfl
theorem wholeRefs_law(b:qw)(hf:∀s∈b.UG,∀c∈s,Fit c):xC 2199023255552 b=some true:=by
 refine OK.is ?_;unfold xC gK;rw [L7,zbs];refine j7 rfl ?_;rcases O7 hf with e|⟨h,e,R⟩
 ·rw [e];exact b9 rfl
 rw [e,zbs];simp only [vK];have q:=R.shape hf;have K:=(FZ R).1;have hW:=q.wk;have hSh:=q.sh;have hCl:=q.cl;have hMp:=q.mp;have hl1:h.or.length=b.UG.length:=K.cl
 have hK:=(L5 q).and (J:=λg=>HE g.or.length g.LE.length g.Fn.length g/\HV g) (λhst S=>⟨S.1.withK hst,S.2.same rfl rfl rfl rfl rfl rfl rfl rfl⟩) (λ{n h t h'}a hJ S hv=>by
  obtain ⟨l1,l2,l3⟩:=J6 hv;rw [l1,l2,l3];exact ⟨Su q a rfl rfl rfl hJ S.1 hv,Sz q a S.1 S.2 hv⟩)
 have hE0:HE h.or.length h.LE.length h.Fn.length h:=by
  have h1:=K.cr;have h2:=K.own.len;rw [hl1,show h.LE.length=b.C.Uc.toNat by omega,show h.Fn.length=b.C.Ui.toNat by omega];exact O3 R
 obtain ⟨n',g,hR,⟨L,_,M⟩,hD,V⟩:=O5 q hK (O6 R) ⟨(J7 R).more,hE0,Px R⟩ b.Vg;have hD:=hD.done q hR.inv L;have a:=hR.inv;rw [V];simp only [zbs];refine j7 rfl ?_;rw [QZ a,zbs];have hlb:g.Un.length<=20000000000:=by have:=a.VI;have:=a.UZ;omega
 have hg0:=a.UO.VJ;have hg1:=a.UO.given;have hbd:=a.UZ;have d:=M.came
 obtain ⟨o,h1,rfl⟩:OK (jN (bP g.Un) (λ(A:(List Int)×Int)=>(.inl (A.1,A.2))) g.Un.length 0 (([]:List Int),0)) (λo=>o=.inl (told 13 g.Un,g.Fd.given)):=by
  refine i5 (λi s=>s=(told 13 (g.Un.take i),((told 12 (g.Un.take i)).length:Int))) rfl (λi s r T N U=> ?_) (λs O=> ?_)
  ·subst N;unfold bP;refine g9 (i9 T λx u=> ?_)
   have hl13:(told 13 (g.Un.take i)).length<=i:=by
    have:=TT (λe:ze=>e.UW==13) (g.Un.take i);simp only [told,m6];simp only [yw] at this;omega
   have h2:(if (x.UW==13)=true then (room ((told 13 (g.Un.take i)).length+([x.UA]:List Int).length) 8).bind λ_=>some (told 13 (g.Un.take i)++[x.UA]) else some (told 13 (g.Un.take i)))=some (told 13 (g.Un.take (i+1))):=by
    rw [iN u,dP];by_cases e:x.UW=13
    ·rw [d7 (by simp [e]),xi (by simp;omega)];simp [told,e]
    ·rw [d8 (by simp [e]),rz (l:=[x]) (λy P=>by rw [g8.1 P];exact e),i4]
   rw [show (if (x.UW==13)=true then (room ((told 13 (g.Un.take i),((told 12 (g.Un.take i)).length:Int)).1.length+([x.UA]:List Int).length) 8).bind λ_=>some ((told 13 (g.Un.take i),((told 12 (g.Un.take i)).length:Int)).1++[x.UA]) else some (told 13 (g.Un.take i),((told 12 (g.Un.take i)).length:Int)).1)=_ from h2,zbs];have B:told 12 g.Un=told 12 (g.Un.take (i+1))++told 12 (g.Un.drop (i+1)):=by rw [<- dP,x9]
   have hlen:(told 12 (g.Un.take i)).length<=g.Fd.given.toNat:=by
    have D:=congrArg List.length B;rw [d,iN u,dP] at D;simp only [m6,List.length_range,l8] at D;omega
   by_cases e:x.UW=12
   ·have D:told 12 [x]=[x.UA]:=by simp [told,e]
    have h4:told 12 (g.Un.take (i+1))=told 12 (g.Un.take i)++[x.UA]:=by rw [iN u,dP,D]
    have h5:x.UA=((told 12 (g.Un.take i)).length:Int)+1:=by
     have h6:(told 12 g.Un)[(told 12 (g.Un.take i)).length]? =some x.UA:=by rw [B,h4];simp
     rw [d,o8] at h6;obtain ⟨v,h7,h8⟩:=yp.1 h6;have:=(zes.1 h7).2;simp at this;omega
    refine o9 (by simp [e]) ?_;have hw:w64 (((told 12 (g.Un.take i)).length:Int)+1)=((told 12 (g.Un.take i)).length:Int)+1:=qq (by omega) (by omega);rw [show w64 ((told 13 (g.Un.take i),((told 12 (g.Un.take i)).length:Int)).2+1)=_ from hw];refine j7 (by simp [h5]) (U _ ?_);rw [h4,l8];rfl
   ·refine j7 (by simp [e]) (U _ ?_);rw [iN u,dP,dP,rz (m:=12) (l:=[x]) (λy P=>by rw [g8.1 P];exact e),i4]
  ·rw [O,TF];refine congrArg (λz=>Sum.inl (told 13 g.Un,z)) ?_;show ((told 12 g.Un).length:Int)=_;rw [d,m6,List.length_range];omega
 rw [h1,zbs];simp only;rw [show mkLen (b.C.Maps.length:Int) 8=some b.C.Maps.length by unfold mkLen;rw [d7 ⟨by omega,by omega⟩];rfl,zbs];have hw0:∀k∈g.or,ld k=ldA k:=λk w=>by unfold ld;rw [uR (.inl (hD.Vq k w).1),i4]
 have Q:LD g.or=(g.or.map ldA).flatten:=by unfold LD;rw [Tv hw0]
 have W:(LD g.or).length=g.Fd.given.toNat:=by
  have:=M.Wl.length_eq;rw [d,m6,m6,List.length_range] at this;exact this
 have X:=q.sl;have F:=a.cl;obtain ⟨G,hG⟩:∃G:Nat,g.Fd.given=(G:Int):=⟨g.Fd.given.toNat,by omega⟩
 have Y:g.Fd.given.toNat=G:=by omega
 have I:∀k∈g.or,k.Ud.length=k.Uf.length/\k.Uf∈b.UG:=λk w=>by
  obtain ⟨t,ht⟩:=q8 w;obtain ⟨s,O,hc⟩:=a.at ht;have:=(hD.Vq k w).2;have:=hc.ans;exact ⟨by omega,by rw [hc.Uf];exact zmg O⟩
 have Z:∀k∈g.or,(ldA k).length<=64:=λk w=>by
  obtain ⟨q1,q2⟩:=I k w;have q3:=X _ q2;have:=TT (λp:zF×zy=>p.1.TY==4&&p.2.E==0) (k.Uf.zip k.Ud);simp only [ldA,m6];simp only [List.length_zip] at this;omega
 have hsub:∀i,(LD g.or).length=((g.or.take i).map ldA).flatten.length+((g.or.drop i).map ldA).flatten.length:=λi=>by
  rw [Q,<- l8,<- yx,<- k8,x9]
 obtain ⟨o,h2,rfl⟩:OK (jN (bQ 2199023255552 b g (told 13 g.Un,g.Fd.given) b.C.Maps.length) (λ(f:Int×(List Int))=>(.inl (f.1,f.2))) (b.UG).length 0 (g.Fd.given,(List.replicate b.C.Maps.length 0))) (λo=>o=.inl (0,wv b.C.Maps.length (told 13 g.Un) (LD g.or))):=by
  refine i5 (λi s=>s=(((G-((g.or.take i).map ldA).flatten.length:Nat):Int),wv b.C.Maps.length (told 13 g.Un) ((g.or.take i).map ldA).flatten)) ?_ (λi s r T N U=> ?_) (λs O=> ?_)
  ·simp only [List.take_zero,List.map_nil,List.flatten_nil];refine Prod.ext (by simp [hG]) ?_;show List.replicate _ (0:Int)=wv _ _ [];unfold wv cnt;simp [List.map_const']
  ·subst N;obtain ⟨k,w⟩:∃k,g.or[i]? =some k:=⟨_,zeg (show i<g.or.length by rw [F];exact T)⟩
   have hkm:=zmg w;obtain ⟨s,O,hc⟩:=a.at w;obtain ⟨q1,q2⟩:=I k hkm
   have hb1:((g.or.take i).map ldA).flatten.length<=1000:=by
    have D:∀l:List zd,(∀k∈l,(ldA k).length<=64)->(l.map ldA).flatten.length<=64*l.length:=λl=>by
     induction l with
     |nil=>intro _;simp
     |cons x l ih=>
      intro u;have h4:=u x zcs;have h5:=ih λy P=>u y (zcm _ P)
      simp only [p9,yb,l8,u4];omega
    have h4:=D (g.or.take i) λy P=>Z y (Tz P)
    have h5:(g.or.take i).length<=4:=by simp;omega
    omega
   have hnx:((g.or.take (i+1)).map ldA).flatten=((g.or.take i).map ldA).flatten++ldA k:=by rw [iN w];simp
   have hsi:=hsub (i+1);rw [hnx,W,Y,l8] at hsi;unfold bQ;rw [G4 q a w,zbs,SC (g:=told 13 g.Un) (G:=G) (k:=k) (by rw [hc.Uf];exact O) q1 (X _ q2) hb1 (by omega) (by omega) (λx u=>(hf _ q2 x u).VY) (λp hp=> ?_),zbs]
   ·exact U _ (by rw [hnx])
   ·obtain ⟨m,j,z1,z2,z3,_⟩:=M.Wm p (by rw [Q];exact j9.2 ⟨_,List.mem_map_of_mem hkm,hp⟩)
    exact ⟨m,j,z1,z2,λx u=>by have:=z3 x u;rw [a.UO.maps] at this;exact this⟩
  ·rw [O,<- F,TF,<- Q,W,Y];simp
 rw [h2,zbs];simp only;rw [Py q a,zbs];refine j7 (by simp) ?_;rw [xi (by omega),zbs]
 obtain ⟨o,D,rfl⟩:OK (jN (bR (0,wv b.C.Maps.length (told 13 g.Un) (LD g.or)) ((List.range b.C.Maps.length).map (λm:Nat=>(((holds (m:Int) g.Fd.UY.held).length:Nat):Int)))) (λ(s33004:Unit)=>(.inl ())) b.C.Maps.length 0 ()) (λo=>o=.inl ()):=by
  refine i5 (λ_ _=>True) trivial (λi _ r T _ U=> ?_) (λ_ _=>rfl);unfold bR
  rw [zX (show ((List.range b.C.Maps.length).map (λm:Nat=>(((holds (m:Int) g.Fd.UY.held).length:Nat):Int)))[i]? =some (((holds (i:Int) g.Fd.UY.held).length:Nat):Int) by rw [o8,TJ T];rfl),zbs,
   show Go.Sx.idx ((0:Int),wv b.C.Maps.length (told 13 g.Un) (LD g.or)).2 (i:Int)=_ from zX (SA T),zbs,Rs a.UO M.came M.Wl M.Wm M.Wj]
  exact j7 (by simp) (U _ trivial)
 rw [D];exact b9 rfl
end Go.Proofs.YtplmgfkghomelaaGreatDoor.KH
namespace Go.Proofs.YtplmgfkghomelaaGreatDoor
open Go.Sx
variable {n:Int}{x:zF}
theorem KH.lit_u64(h:(Lit.int .u64 n).wf=true):u64 n:=by
 simp only [Lit.wf,zae,zdq] at h;exact ⟨h.1,Int.lt_of_le_of_lt h.2 (by decide)⟩
theorem KH.fitG(h:ua x):KH.Fit x:=by
 have c:reachBytes<=140737488355328:=by decide
 obtain ⟨_,g,⟨d,a⟩,_,_,_,ge,⟨e,_⟩⟩:=h;exact ⟨by omega,by omega,⟨KH.lit_u64 ge.1,KH.lit_u64 ge.2⟩,KH.lit_u64 g.2.2.2,λi b=>KH.lit_u64 (a i b).2.2.2⟩
theorem wE(p:qw)(g:kT p):∃f,xC f p=some true:=by
 obtain ⟨gc,⟨d,a⟩,_⟩:=g;exact ⟨2199023255552,KH.wholeRefs_law p (λs h c b=>KH.fitG ((a s h).2 c b))⟩
end Go.Proofs.YtplmgfkghomelaaGreatDoor
