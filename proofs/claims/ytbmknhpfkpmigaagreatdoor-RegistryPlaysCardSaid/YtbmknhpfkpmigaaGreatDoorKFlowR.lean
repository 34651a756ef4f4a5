/- Texts KFlowR, KSem, KArith, KSound, KSound2 of this proof. -/
import Derived.Test.YtbmknhpfkpmigaaGreatDoorKSpan2
set_option linter.unusedVariables false
set_option linter.unusedSimpArgs false
namespace Go.Proofs.YtbmknhpfkpmigaaGreatDoor
open Go.Sx
theorem zpO (n:Int):qn n=some (zg6 n):=by
 unfold qn zg6
 congr 1
 rw [Bool.eq_iff_iff];simp;omega
theorem zl8 (i:ze):qY i=some (zpS i):=by
 unfold qY zpS
 rw [zpO]
 cases zg6 i.B<;>cases h:(i.Imm==0)<;>simp [h]
theorem zbL (i:ze):jg i=some (qj i):=by
 unfold jg qj xY jz inB
 simp only [zpO,zl8,zbs,Option.bind_fun_some,ge_iff_le,Bool.and_assoc]
 refine zcC (jR (jR rfl)) ?_
 refine zcC (jR (jR rfl)) ?_
 refine zcC (jR (jR rfl)) ?_
 refine zcC (jR (jR (jR ?_))) ?_
 ·cases h:(i.Imm==0)
  ·simp only [zfe,if_false]
   congr 1
   rw [Bool.eq_iff_iff];simp at h |-;omega
  ·simp at h;simp [h]
 refine zcC (jR (jR (jR (jR rfl)))) ?_
 refine zcC rfl ?_
 refine zcC (jR (jR (jR rfl))) ?_
 refine zcC (jR (jR (jR (jR (jR rfl))))) ?_
 refine zcC rfl ?_
 refine zcC (jR (jR (jR rfl))) rfl
section
variable {p:ze} {x:Bool} {o d a b m:Int}
end
theorem zgM (i:ze):xK i=some (zF i):=by
 unfold xK
 rw [zbL]
 simp only [zbs,jz]
 cases hr:qj i with
 | false=>simp [zF,zb0,zd2,hr]
 | true=>
  cases h15:(i.Op==15) with
  | true=>
   have hj:inB i.Op 15 19=true:=by simp at h15;simp [inB,h15]
   have:=ziE (i:=i) (by simp [zb0,hr,hj])
   simp [zF,zb0,hr,hj,qN (x:=i.D+1) (by omega) (by omega)]
   simpa using h15
  | false=>
   have e15:i.Op ≠ 15:=by simpa using h15
   cases hj:inB i.Op 16 19 with
   | true=>
    have hj2:inB i.Op 15 19=true:=by simp [inB] at hj |-;omega
    have:=ziE (i:=i) (by simp [zb0,hr,hj2])
    have hj3:(decide (i.Op>=16)&&decide (i.Op<=19))=true:=hj
    simp [zF,zb0,hr,hj2,hj3,qN (x:=i.D+1) (by omega) (by omega),e15]
   | false=>
    have hj2:inB i.Op 15 19=false:=by
     cases h:inB i.Op 15 19 with
     | false=>rfl
     | true=>
      simp [inB] at h hj
      omega
    have hj3:(decide (i.Op>=16)&&decide (i.Op<=19))=false:=hj
    cases hl:(i.Op==20) with
    | true=>
     have:=ziF (i:=i) (by simp [zd2,hr,hl])
     have e:w64 (0-i.D)= -i.D:=by rw [qN (by omega) (by omega)];omega
     simp only [hl,hj3,e,zF,zb0,zd2,hr,hj2]
     rfl
    | false=>
     simp [zF,zb0,zd2,hr,hj2,hj3,hl]
theorem znb (code:List ze) (hn:code.length<=64):qf (zbt code) (fun _=>(.inl ())) code.length 0 ()=some (zeS (zbb (zaB code) code.length 0)):=by
 refine zdE (zaB code) (N:=code.length) ?_
 intro j again hj
 unfold zbt
 have hx:code[j]? =some code[j]:=zeg hj
 generalize hi:code[j]=x at hx
 have hg:=zeq x
 have e1:w64 ((j:Int)+(zF x).1)=j+(zF x).1:=qN (by omega) (by omega)
 have e2:w64 ((code.length:Int)-1)=code.length-1:=qN (by omega) (by omega)
 have e3:w64 ((j:Int)+1)=j+1:=qN (by omega) (by omega)
 have e4:(((j:Int)+1)==code.length)=((j:Int)==code.length-1):=by rw [Bool.eq_iff_iff];simp;omega
 have e5:decide ((j:Int)+(zF x).1>code.length-1)=decide ((j:Int)+(zF x).1>=code.length):=by rw [Bool.eq_iff_iff];simp;omega
 simp only [zgl hj,hi,zbs,zbL,zgM,e1,e2,e3,e4,e5,zaB,hx,zjK]
 rcases zft (qj x) with h1 | h1
 ·rcases zft ((zF x).2.1&&(decide ((j:Int)+(zF x).1<0)||decide ((j:Int)+(zF x).1>=code.length))) with h2 | h2
  ·simp only [h1,h2];rfl
  ·rcases zft ((zF x).2.2&&((j:Int)==code.length-1)) with h3 | h3
   ·simp only [h1,h2,h3];rfl
   ·simp only [h1,h2,h3];rfl
 ·simp only [h1];rfl
theorem znc {code:List ze} (hn:code.length<=64) (hD:zhr code) (fu:Nat) (hf:100<=fu):OK (vE fu code) (fun B=>B.length=code.length/\ ∀ p,p<code.length->B[p]? =some (bod code code.length p)):=by
 unfold vE
 refine OK.bind (OK.mkl (by omega) (by simp;omega) ?_)
 simp only [Int.toNat_natCast]
 refine OK.bind2 (R:=fun B=>B.length=code.length/\ ∀ p,p<code.length->B[p]? =some (bod code code.length p)) ?_ (fun x hx=>OK.ret hx)
 refine OK.count (fun i B=>B.length=code.length/\ ∀ p,p<code.length->B[p]? =some (bod code i p)) ⟨by simp,fun p hp=>by simp [hp,bod]⟩ ?_ (fun s h=>h)
 intro a B again ha ⟨hl,hB⟩ k
 unfold zcN
 refine OK.bind (OK.getN ha (fun x hx=> ?_))
 refine OK.ite (fun h=> ?_) (fun h=> ?_)
 ·have ho:x.Op ≠ 20:=by simpa using h
  refine k _ ⟨hl,fun p hp=> ?_⟩
  rw [hB p hp,zgm]
  have:jf code p a=false:=by simp [jf,hx,ho]
  simp [this]
 ·have ho:x.Op=20:=by simpa using h
  have hd:=hD.loop hx ho
  have e1:w64 ((a:Int)-x.D)=a-x.D:=qN (by omega) (by omega)
  rw [e1]
  refine OK.bind2 (R:=fun B=>B.length=code.length/\ ∀ p,p<code.length->B[p]? =some (bod code (a+1) p)) ?_ (fun B' h'=>k B' h')
  refine OK.rounds (fun s:List (List Int)×Int=>(a:Int)-x.D<=s.2/\s.2<=a+1/\s.1.length=code.length/\ ∀ p:Nat,p<code.length->s.1[p]? =some (if (p:Int)<s.2 then bod code (a+1) p else bod code a p))
   (fun s=>((a:Int)+1-s.2).toNat) ?_ fu _ ⟨by omega,by omega,hl,fun p hp=> ?_⟩ (by omega)
  ·rintro ⟨B1,q⟩ again ⟨h1,h2,h3,h4⟩ k2
   simp only at h1 h2 h3 h4
   unfold zcM
   refine OK.ite (fun hc=> ?_) (fun hc=> ?_)
   ·have hq:q<=a:=by simpa using hc
    have hq0:0<=q:=by omega
    have hq1:q<B1.length:=by omega
    refine OK.bind (OK.get hq0 hq1 (fun y hy=> ?_))
    have hy2:=h4 q.toNat (by omega)
    rw [hy2] at hy
    have hqq:((q.toNat:Nat):Int)=q:=by omega
    rw [if_neg (by omega)] at hy
    cases hy
    have hbl:=zkJ code a q.toNat
    refine OK.bind (OK.hasRoom (by simp;omega) ?_)
    have e2:w64 (q+1)=q+1:=qN (by omega) (by omega)
    rw [e2]
    refine k2 _ ⟨?_,?_,?_,fun p hp=> ?_⟩ ?_
    ·show (a:Int)-x.D<=q+1;omega
    ·show q+1<=(a:Int)+1;omega
    ·simpa using h3
    ·simp only
     rw [zq8]
     by_cases hpq:q.toNat=p
     ·subst hpq
      rw [if_pos rfl,if_pos (by omega),if_pos (by omega),zgm]
      have:jf code q.toNat a=true:=by simp [jf,hx,ho];omega
      rw [this];rfl
     ·rw [if_neg hpq,h4 p hp]
      by_cases hlt:(p:Int)<q
      ·rw [if_pos hlt,if_pos (by omega)]
      ·rw [if_neg hlt,if_neg (by omega)]
    ·simp only;omega
   ·have hq: ¬ q<=a:=by simpa using hc
    refine OK.ret ⟨h3,fun p hp=> ?_⟩
    rw [h4 p hp]
    by_cases hlt:(p:Int)<q
    ·rw [if_pos hlt]
    ·rw [if_neg hlt,zgm]
     have:jf code p a=false:=by simp [jf,hx,ho];omega
     simp [this]
  ·simp only
   rw [hB p hp]
   by_cases hlt:(p:Int)<a-x.D
   ·rw [if_pos hlt,zgm]
    have:jf code p a=false:=by simp [jf,hx,ho];omega
    simp [this]
   ·rw [if_neg hlt]
theorem zpP (l:List Int) (m:Int):vj l m=some (l.contains m):=by
 unfold vj
 rw [zdE (fun i=>if (l[i]? ==some m) then some true else none) (N:=l.length)]
 ·simp only [zbs]
  cases hf:zbb (fun i=>if (l[i]? ==some m) then some true else none) l.length 0 with
  | some v=>
   obtain ⟨j,_,h2,h3,_⟩:=zbX hf
   split at h3
   ·rename_i h
    cases h3
    have:m∈l:=zmg (by simpa using h)
    simp [zeS,this]
   ·cases h3
  | none=>
   have:=zcx hf
   have hm:m ∉ l:=by
    intro hm
    obtain ⟨j,hj,rfl⟩:=List.mem_iff_getElem.1 hm
    have:=this j (by omega) (by omega)
    simp [hj] at this
   simp [zeS,hm]
 ·intro j again hj
  unfold zd1
  simp only [zgl hj,zbs,zeg hj]
  rcases zft (l[j]==m) with h | h
  ·simp [h]
  ·simp [h]
open Classical in
theorem zrE {code:List ze} {B:List (List Int)} (hn:code.length<=64) (hB: ∀ p,p<code.length->B[p]? =some (bod code code.length p)) (hBl:B.length=code.length) {l m:Nat} (hl:l<code.length) (hm:m<code.length):
  OK (qf (zav B l m) (fun (s:Int×Bool)=>(s.1,s.2)) code.length 0 (0,true)) (fun s=>(0<s.1↔ ∃ p,p<code.length/\jf code p m=true/\jf code p l=true)/\(s.2=false↔ ∃ p,p<code.length/\jf code p m=true/\jf code p l=false)):=by
 refine OK.count (fun (i:Nat) (s:Int×Bool)=>0<=s.1/\s.1<=(i:Int)/\(0<s.1↔ ∃ p,p<i/\jf code p m=true/\jf code p l=true)/\(s.2=false↔ ∃ p,p<i/\jf code p m=true/\jf code p l=false)) ⟨by simp,by simp,by simp,by simp⟩ ?_ (fun s h=>h.2.2)
 rintro i ⟨b,al⟩ again hi ⟨h0,h1,h2,h3⟩ k
 simp only at h0 h1 h2 h3
 unfold zav
 refine OK.bind (OK.getN (by omega) (fun x hx=> ?_))
 rw [hB i hi] at hx
 cases hx
 simp only [zpP,zkK hm,zkK hl,zbs]
 have step: ∀ {P:Nat->Prop},(∃ p,p<i+1/\P p)↔(∃ p,p<i/\P p)\/P i:=by
  intro P
  constructor
  ·rintro ⟨p,hp,h⟩
   rcases Nat.lt_or_ge p i with h4 | h4
   ·exact .inl ⟨p,h4,h⟩
   ·have:p=i:=by omega
    subst this;exact .inr h
  ·rintro (⟨p,hp,h⟩ | h)
   ·exact ⟨p,by omega,h⟩
   ·exact ⟨i,by omega,h⟩
 refine OK.ite (fun hc=> ?_) (fun hc=> ?_)
 ·refine OK.ite (fun hd=> ?_) (fun hd=> ?_)
  ·have e:w64 (b+1)=b+1:=qN (by omega) (by omega)
   rw [e]
   refine k _ ⟨by simp only;omega,by simp only;omega,?_,?_⟩
   ·simp only [step,hc,hd];simp;omega
   ·simp only [step,h3,hc,hd];simp
  ·refine k _ ⟨h0,by simp only;omega,?_,?_⟩
   ·simp only [step,h2,hc,hd];simp
   ·simp only [step,hc,hd];simp
 ·refine k _ ⟨h0,by simp only;omega,?_,?_⟩
  ·simp only [step,h2,hc];simp
  ·simp only [step,h3,hc];simp
theorem zkL {code:List ze} (hn:code.length<=64) (hD:zhr code) {B:List (List Int)} (hB: ∀ p,p<code.length->B[p]? =some (bod code code.length p)) (hBl:B.length=code.length) (fu:Nat):
  ∃ o,zi3 (Cr code) code.length o/\xR fu code B=some (match o with | some l=>((l:Int),true) | none=>(0,false)):=by
 have main:qf (zax code B) (fun _=>(.inl ())) code.length 0 ()=some (zeS (zbb (fun l=>pick (Cr code l) ((l:Int),true)) code.length 0)):=by
  refine zdE _ (N:=code.length) ?_
  intro l again hl
  have hx:=zeg hl
  generalize hi:code[l]=x at hx
  unfold zax
  simp only [zgl hl,hi,zbs]
  rcases zft (x.Op != 20) with h | h
  ·rw [zfP (by rintro ⟨m,_,il,im,e1,e2,_⟩;rw [hx] at e1;cases e1;simp [e2] at h)]
   simp [h]
  ·have ho:x.Op=20:=by simpa using h
   have hr:room l 1=some ():=by unfold room;rw [if_pos (by omega)]
   have inner:qf (zaw code B l) (fun _=>(.inl ())) l 0 ()=some (zeS (zbb (fun m=>pick (Crs code l m) ((l:Int),true)) l 0)):=by
    refine zdE _ (N:=l) ?_
    intro m again hm
    have hmc:m<code.length:=by omega
    have hy:=zeg hmc
    generalize hj:code[m]=y at hy
    unfold zaw
    simp only [zgl hmc,hj,zbs]
    rcases zft (y.Op != 20) with h' | h'
    ·rw [zfP (by rintro ⟨il,im,_,_,e3,e4,_⟩;rw [hy] at e3;cases e3;simp [e4] at h')]
     simp [h']
    ·have ho':y.Op=20:=by simpa using h'
     obtain ⟨s,hs,q1,q2⟩:=zrE hn hB hBl hl hmc
     have hcr:=zql hD hm hx ho hy ho'
     rw [hs]
     simp only [h',zbs]
     by_cases hc:Crs code l m
     ·rw [zhC hc]
      have c:=hcr.1 hc
      have c1:=q1.2 c.1
      have c2:=q2.2 c.2
      simp [c1,c2]
     ·rw [zfP hc]
      have c: ¬ (0<s.1/\s.2=false):=fun ⟨c1,c2⟩=>hc (hcr.2 ⟨q1.1 c1,q2.1 c2⟩)
      have:(decide (s.1>0)&& !s.2)=false:=by
       cases h5:(decide (s.1>0)&& !s.2) with
       | false=>rfl
       | true=>exfalso;apply c;simpa using h5
      simp [this]
   simp only [h,hr,inner,zbs]
   obtain ⟨o,ho1,ho2⟩:=zdF (X:=Crs code l) (n:=l) (v:=fun _=>((l:Int),true))
   rw [ho2]
   cases o with
   | none=>rw [zfP (fun ⟨m,h1,h2⟩=>ho1 m h1 h2)];simp [zeS]
   | some m=>rw [zhC ⟨m,ho1.1,ho1.2.1⟩];simp [zeS]
 obtain ⟨o,h1,h2⟩:=zdF (X:=Cr code) (n:=code.length) (v:=fun l=>((l:Int),true))
 refine ⟨o,h1,?_⟩
 unfold xR
 rw [main,h2]
 cases o<;>rfl
theorem zkM {code:List ze} (hn:code.length<=64) (hD:zhr code) {B:List (List Int)} (hB: ∀ p,p<code.length->B[p]? =some (bod code code.length p)) (hBl:B.length=code.length) (fu:Nat) (hf:100<=fu):
  xS fu code B=some (match zbb (fun p=>pick (En code p) ((p:Int),true)) code.length 0 with | some v=>v | none=>(0,false)):=by
 have main:qf (zaz fu code B) (fun _=>(.inl ())) code.length 0 ()=some (zeS (zbb (fun p=>pick (En code p) ((p:Int),true)) code.length 0)):=by
  refine zdE _ (N:=code.length) ?_
  intro p again hp
  have hx:=zeg hp
  generalize hi:code[p]=x at hx
  have hg:=zeq x
  have e1:w64 ((p:Int)+(zF x).1)=p+(zF x).1:=qN (by omega) (by omega)
  unfold zaz
  simp only [zgl hp,hi,zbs,zgM]
  rcases zft ((!(zF x).2.1)||decide ((zF x).1<0)) with h | h
  ·rw [zfP]
   ·simp only [h];rfl
   ·rintro ⟨i',hi',c1,c2,_⟩
    rw [hx] at hi';cases hi'
    simp [c1] at h;omega
  ·have h':(zF x).2.1=true/\0<=(zF x).1:=by simpa using h
   have hne:=zqn x h'.1
   have hb:=hD.leads hx h'.1
   generalize hd:(zF x).1=d at e1 hb h' hne hg
   have ht:((p:Int)+d).toNat<code.length:=by omega
   have hbt:=hB _ ht
   have hbp:=hB p hp
   have hbl:=zkJ code code.length ((p:Int)+d).toNat
   generalize hbo:bod code code.length ((p:Int)+d).toNat=bt at hbt hbl
   have hit:idx B ((p:Int)+d)=some bt:=by unfold Go.Sx.idx;rw [if_pos hb.1,hbt]
   have hip:idx B (p:Int)=some (bod code code.length p):=by unfold Go.Sx.idx;rw [if_pos (by omega)];simpa using hbp
   generalize hX0:EnX code p d=X
   have hin:OK (loop (zay code B p (zF x)) fu 0) (fun r=>(r= .inr ((p:Int),true)/\ ∃ a∈bt,X a)\/(r= .inl ()/\ ∀ a∈bt,¬ X a)):=by
    refine OK.rounds (fun s:Int=>0<=s/\s<=bt.length/\ ∀ (k:Nat) (a:Int),(k:Int)<s->bt[k]? =some a-> ¬ X a) (fun s=>((bt.length:Int)-s).toNat) ?_ fu 0 ⟨by omega,by omega,fun k a hk=>by omega⟩ (by omega)
    rintro s again ⟨s0,s1,s2⟩ k2
    unfold zay
    simp only [hd,e1,hit,zbs]
    refine OK.ite (fun hc=> ?_) (fun hc=> ?_)
    ·have hc':s<bt.length:=by simpa using hc
     refine OK.bind (OK.get s0 hc' (fun a ha=> ?_))
     obtain ⟨q,hq,hcv,rfl⟩:=zhB.1 (by rw [hbo];exact zmg ha)
     have hq2:=zeg hq
     generalize hqi:code[q]=ia at hq2
     have hop:ia.Op=20:=by
      unfold jf at hcv;rw [hq2] at hcv;simp at hcv;exact hcv.1.1
     have dl:=hD.loop hq2 hop
     have e2:w64 ((q:Int)-ia.D)=q-ia.D:=qN (by omega) (by omega)
     have e3:w64 (s+1)=s+1:=qN (by omega) (by omega)
     simp only [hip,zbs,zpP,zkK hq,zgl hq,hqi,e2]
     rcases zft (jf code p q) with cv | cv
     ·simp only [cv,zbs]
      refine OK.bind (OK.ite (fun h5=>absurd h5 (by simp)) (fun _=>OK.ret ?_))
      refine OK.ite (fun h5=>absurd h5 (by simp)) (fun _=> ?_)
      rw [e3]
      refine k2 _ ⟨by omega,by omega,fun k a hk hka=> ?_⟩ (by omega)
      rcases Int.lt_or_le k s with h6 | h6
      ·exact s2 k a h6 hka
      ·have:k=s.toNat:=by omega
       subst this
       rw [ha] at hka;cases hka
       rw [<- hX0]
       rintro ⟨q',ia',e4,_,_,e5,_⟩
       have:q=q':=by omega
       subst this
       rw [cv] at e5;cases e5
     ·simp only [cv,zbs]
      refine OK.bind (OK.ite (fun h5=>OK.ret ?_) (fun h5=>absurd h5 (by simp)))
      refine OK.ite (fun h5=>OK.ret ?_) (fun h5=> ?_)
      ·exact .inl ⟨rfl,_,zmg ha,by rw [<- hX0];exact ⟨q,ia,rfl,hq,hq2,cv,by simpa using h5⟩⟩
      ·rw [e3]
       refine k2 _ ⟨by omega,by omega,fun k a hk hka=> ?_⟩ (by omega)
       rcases Int.lt_or_le k s with h6 | h6
       ·exact s2 k a h6 hka
       ·have:k=s.toNat:=by omega
        subst this
        rw [ha] at hka;cases hka
        rw [<- hX0]
        rintro ⟨q',ia',e4,_,e6,_,e7⟩
        have:q=q':=by omega
        subst this
        rw [hq2] at e6;cases e6
        exact e7 (by simpa using h5)
    ·have hc': ¬ s<bt.length:=by simpa using hc
     refine OK.ret (.inr ⟨rfl,fun a ha=> ?_⟩)
     obtain ⟨k,hk,rfl⟩:=List.mem_iff_getElem.1 ha
     exact s2 k _ (by omega) (zeg hk)
   obtain ⟨r,hr,hcase⟩:=hin
   have hX:(∃ a∈bt,X a)↔En code p:=by
    rw [<- hX0]
    constructor
    ·rintro ⟨a,ha,q,ia,rfl,hq,hq2,cv,hne2⟩
     rw [<- hbo] at ha
     obtain ⟨q',_,hcv,e⟩:=zhB.1 ha
     have:q=q':=by omega
     subst this
     have hop:ia.Op=20:=by
      unfold jf at hcv;rw [hq2] at hcv;simp at hcv;exact hcv.1.1
     exact ⟨x,hx,h'.1,by rw [hd];omega,q,ia,_,hq,hq2,hop,by rw [hd];omega,hcv,cv,by omega⟩
    ·rintro ⟨i',hi',c1,c2,a,ia,t,ha,hia,hop,ht2,v1,v2,v3⟩
     rw [hx] at hi';cases hi'
     rw [hd] at ht2
     have:((p:Int)+d).toNat=t:=by omega
     subst this
     refine ⟨a,by rw [<- hbo];exact zhB.2 ⟨a,ha,v1,rfl⟩,a,ia,rfl,ha,hia,v2,by omega⟩
   rw [hd] at h
   simp only [h,hr,zbs]
   rcases hcase with ⟨rfl,hc⟩ | ⟨rfl,hc⟩
   ·rw [zhC (hX.1 hc)];rfl
   ·rw [zfP (fun h9=>by obtain ⟨a,ha,h10⟩:=hX.2 h9;exact hc a ha h10)];rfl
 unfold xS
 rw [main]
 cases zbb (fun p=>pick (En code p) ((p:Int),true)) code.length 0<;>rfl
theorem zqp {code:List ze} (hn:code.length<=64) (hD:zhr code) {B:List (List Int)} (hB: ∀ p,p<code.length->B[p]? =some (bod code code.length p)) (hBl:B.length=code.length) (fu:Nat) (hf:100<=fu):
  OK (zaI fu code B) (fun S=>mn S=mn (zhE code code.length)):=by
 unfold zaI
 refine OK.bind2 (R:=fun S=>mn S=mn (zhE code code.length)) ?_ (fun x hx=>OK.ret hx)
 refine OK.count (fun (i:Nat) (s:Int)=>mn s=mn (zhE code i)/\0<=s/\s<=65536*i) (by simp [zhE]) ?_ (fun s h=>h.1)
 intro p s again hp ⟨hs,s0,s1⟩ k
 unfold zdx
 have hbp:=hB p hp
 have hip:idx B (p:Int)=some (bod code code.length p):=by unfold Go.Sx.idx;rw [if_pos (by omega)];simpa using hbp
 have hbl:=zkJ code code.length p
 let prodB:List Int->Int:=fun l=>l.foldl (fun s a=>s*((code[a.toNat]?.map (·.Imm)).getD 0+1)) 1
 have hprod: ∀ k,prodB (bod code k p)=zeE code p k:=by
  intro k
  induction k with
  | zero=>rfl
  | succ k ih=>
   rw [zgm]
   unfold zeE
   cases hk:code[k]? with
   | none=>
    have:jf code p k=false:=by simp [jf,hk]
    simp [this,ih]
   | some i=>
    simp only
    cases hc:jf code p k with
    | false=>simp [ih]
    | true=>
     simp only [if_true]
     show (bod code k p++ [(k:Int)]).foldl _ 1=_
     rw [List.foldl_append]
     have ih':(bod code k p).foldl (fun s a=>s*((code[a.toNat]?.map (·.Imm)).getD 0+1)) 1=zeE code p k:=ih
     rw [ih']
     simp [hk]
 have himm: ∀ (j:Nat) (a:Int),(bod code code.length p)[j]? =some a-> ∃ (q:Nat) (i:ze),a=q/\q<code.length/\code[q]? =some i/\1<=i.Imm/\i.Imm<=255:=by
  intro j a ha
  obtain ⟨q,hq,hcv,rfl⟩:=zhB.1 (zmg ha)
  have hq2:=zeg hq
  have:=hD.loop hq2 (zjN hq2 hcv)
  exact ⟨q,_,rfl,hq,hq2,by omega,by omega⟩
 have htm:=hprod code.length
 generalize bod code code.length p=bt at hip hbl himm htm
 have mono: ∀ (n i:Nat),i+n=bt.length->1<=prodB (bt.take i)->prodB (bt.take i)<=prodB bt:=by
  intro n
  induction n with
  | zero=>intro i hi _;rw [List.take_of_length_le (by omega)];omega
  | succ n ih=>
   intro i hi h1
   have hlt:i<bt.length:=by omega
   have hget:=zeg hlt
   obtain ⟨q,im,e,_,hq,i1,i2⟩:=himm i _ hget
   have htake:prodB (bt.take (i+1))=prodB (bt.take i)*(im.Imm+1):=by
    show (bt.take (i+1)).foldl _ 1=_
    rw [List.take_add_one,hget,List.foldl_append]
    simp [e,hq]
    rfl
   have h2:prodB (bt.take i)*1<=prodB (bt.take i)*(im.Imm+1):=Int.mul_le_mul_of_nonneg_left (by omega) (by omega)
   have h3:=ih (i+1) (by omega) (by rw [htake];omega)
   rw [htake] at h3
   omega
 have hl:OK (loop (zbK code B p) fu (1,0)) (fun t=>mn t=mn (zeE code p code.length)/\1<=t/\t<=65536):=by
  refine OK.rounds (fun (s:Int×Int)=>0<=s.2/\s.2<=bt.length/\s.1=prodB (bt.take s.2.toNat)/\1<=s.1/\s.1<=65536) (fun s=>((bt.length:Int)-s.2).toNat) ?_ fu _ ⟨by simp,by simp,by simp [prodB],by simp,by simp⟩ (by simp;omega)
  rintro ⟨t,j⟩ again ⟨j0,j1,ht,t1,t2⟩ k2
  simp only at j0 j1 ht t1 t2
  unfold zbK
  simp only [hip,zbs]
  have stop:(¬ j<bt.length\/ ¬ t<=256)->mn t=mn (zeE code p code.length):=by
   intro h
   rw [<- htm]
   rcases h with h | h
   ·rw [ht,List.take_of_length_le (by omega)]
   ·have h5:=mono (bt.length-j.toNat) j.toNat (by omega) (by rw [<- ht];omega)
    rw [<- ht] at h5
    unfold mn
    split<;>split<;>omega
  refine OK.bind (OK.ite (fun hc=>OK.ret ?_) (fun hc=>OK.ret ?_))
  ·refine OK.ite (fun hd=> ?_) (fun hd=> ?_)
   ·have hj:j<bt.length:=by simpa using hc
    have ht3:t<=256:=by simpa using hd
    refine OK.bind (OK.get j0 hj (fun a ha=> ?_))
    obtain ⟨q,im,rfl,hq1,hq,i1,i2⟩:=himm _ _ ha
    refine OK.bind (OK.getN hq1 (fun y hy=> ?_))
    rw [hq] at hy;cases hy
    have m1:t*(im.Imm+1)<=256*256:=Int.mul_le_mul (by omega) (by omega) (by omega) (by omega)
    have m0:1*1<=t*(im.Imm+1):=Int.mul_le_mul (by omega) (by omega) (by omega) (by omega)
    have e1:w64 (im.Imm+1)=im.Imm+1:=qN (by omega) (by omega)
    have e2:w64 (t*(im.Imm+1))=t*(im.Imm+1):=qN (by omega) (by omega)
    have e3:w64 (j+1)=j+1:=qN (by omega) (by omega)
    rw [e1,e2,e3]
    refine k2 _ ⟨by simp only;omega,by simp only;omega,?_,by simp only;omega,by simp only;omega⟩ (by simp only;omega)
    simp only
    have:(j+1).toNat=j.toNat+1:=by omega
    rw [this]
    show _=(bt.take (j.toNat+1)).foldl _ 1
    rw [List.take_add_one,ha,List.foldl_append,ht]
    simp [hq]
    rfl
   ·exact OK.ret ⟨stop (.inr (by simpa using hd)),t1,t2⟩
  ·refine OK.ite (fun hd=>absurd hd (by simp)) (fun hd=> ?_)
   exact OK.ret ⟨stop (.inl (by simpa using hc)),t1,t2⟩
 refine OK.bind2 hl ?_
 rintro t ⟨ht,t1,t2⟩
 rw [qN (by omega) (by omega)]
 refine k _ ⟨?_,by omega,by omega⟩
 have h3:=zgo hD p code.length
 have h4:=zfW hD p
 rw [zjO,<- zm8 (by omega) (by omega),<- zm8 (a:=zhE code p) (by omega) (by omega),ht,hs]
theorem zl9 (code:List ze) (fu:Nat) (hf:100<=fu): ∃ r,zbj code=some r/\xZ fu code=some r/\(r.2=0->r.1=0/\zii code)/\(zii code->r.2=0):=by
 unfold zbj xZ
 by_cases h0:code.length=0
 ·refine ⟨(0,10),?_,?_,by simp,fun h=>by have:=h.n1;omega⟩<;>simp [h0]
 ·have e0:((code.length:Int)==0)=false:=by simp;exact fun h=>h0 (by simp [h])
  by_cases h1:64<code.length
  ·have e1:decide ((code.length:Int)>64)=true:=by simp;omega
   refine ⟨(0,11),?_,?_,by simp,fun h=>by have:=h.n64;omega⟩<;>simp only [e0,e1]<;>rfl
  ·have e1:decide ((code.length:Int)>64)=false:=by simp;omega
   have hn:code.length<=64:=by omega
   simp only [e0,e1,zjL code hn,znb code hn,zbs]
   cases hp:zbb (zaB code) code.length 0 with
   | some v=>
    obtain ⟨j,_,h2,h3,_⟩:=zbX hp
    have hne:v.2 ≠ 0:=by
     unfold zaB at h3
     split at h3
     ·split at h3
      ·cases h3
      ·rename_i h4;cases h3;exact h4
     ·cases h3
    refine ⟨v,?_,?_,fun h=>absurd h hne,fun h=> ?_⟩
    ·have:(v.2 != 0)=true:=by simpa using hne
     simp [this]
    ·rfl
    ·rw [zjM h.fine] at hp;cases hp
   | none=>
    have hD:=zm7 hp
    obtain ⟨B,hB0,hBl,hB⟩:=znc hn hD fu hf
    obtain ⟨o,o1,o2⟩:=ziw hn hD
    obtain ⟨o',o1',o2'⟩:=zkL hn hD hB hBl fu
    have:=zi3.unique o1 o1'
    subst this
    simp only [zeS,hB0,o2,o2',zbs,Option.getD_none]
    cases o with
    | some l=>
     refine ⟨((l:Int),31),by simp,by simp,by simp,fun h=>absurd o1.2.1 (h.cr l o1.1)⟩
    | none=>
     simp only [zkM hn hD hB hBl fu hf,zbs]
     obtain ⟨p,p1,p2⟩:=zdF (X:=En code) (n:=code.length) (v:=fun p=>((p:Int),(31:Int)))
     obtain ⟨p',p1',p2'⟩:=zdF (X:=En code) (n:=code.length) (v:=fun p=>((p:Int),true))
     have:=zi3.unique p1 p1'
     subst this
     rw [p2,p2']
     cases p with
     | some l=>exact ⟨((l:Int),31),by simp,by simp,by simp,fun h=>absurd p1.2.1 (h.en l p1.1)⟩
     | none=>
      obtain ⟨S,hS,hS2⟩:=zqp hn hD hB hBl fu hf
      simp only [zlw hn hD,hS,zbs,Option.map_none,Option.getD_none]
      have hS3:decide (S>256)=decide (mn (zhE code code.length)>256):=by
       rw [<- hS2,Bool.eq_iff_iff];unfold mn;simp;split<;>omega
      rw [hS3]
      have hmn:=zna (zhE code code.length)
      by_cases hc:mn (zhE code code.length)>256
      ·refine ⟨(0,32),by simp [hc],by simp [hc],by simp,fun h=> ?_⟩
       have:=h.cost;omega
      ·refine ⟨(0,0),by simp [hc],by simp [hc],fun _=>⟨rfl,⟨by omega,hn,hD,o1,p1,?_⟩⟩,fun _=>rfl⟩
       unfold mn at hc
       split at hc<;>omega
end Go.Proofs.YtbmknhpfkpmigaaGreatDoor
namespace Go.Proofs.YtbmknhpfkpmigaaGreatDoor
open Go.Sx
def inS (s:zc) (n:Int):Prop:=s.Lo<=n/\n<=s.Hi
def sem (x:zb) (n:Int):Prop:=(x.Ki=1->inS x.Sp n)/\(x.Ki=2->n=x.Map)
def u64 (n:Int):Prop:=0<=n/\n<18446744073709551616
def ar (op x y:Int):Int:=
 if op==1 then jy (x+y) else if op==2 then jy (x-y) else if op==3 then jy (x*y)
 else if op==4 then (if y==0 then 0 else jy (x.tdiv y)) else if op==5 then (if y==0 then x else x.tmod y)
 else if op==6 then zex .u64 x y else if op==7 then bOr .u64 x y else if op==8 then zio .u64 x y
 else if op==9 then zgJ .u64 x y else if op==10 then zb4 .u64 x y else 0
theorem zpg {op x y:Int} (hx:u64 x) (hy:u64 y):zeB op x y=some (ar op x y,decide (1<=op)&&decide (op<=10)):=by
 obtain ⟨r,h1,_,_,h4⟩:=zlL (op:=op) hx.1 hx.2 hy.1 hy.2
 rw [h1,<- h4]
 have key:r.1=ar op x y:=by
  unfold zeB at h1
  unfold ar
  rcases zft (op==1) with e | e
  ·rw [if_pos e] at h1 |-;cases h1;rfl
  rw [if_neg (by simp [e])] at h1 |-
  rcases zft (op==2) with e | e
  ·rw [if_pos e] at h1 |-;cases h1;rfl
  rw [if_neg (by simp [e])] at h1 |-
  rcases zft (op==3) with e | e
  ·rw [if_pos e] at h1 |-;cases h1;rfl
  rw [if_neg (by simp [e])] at h1 |-
  rcases zft (op==4) with e | e
  ·rw [if_pos e] at h1 |-
   rcases zft (y==0) with e2 | e2
   ·rw [if_pos e2] at h1 |-;cases h1;rfl
   ·rw [if_neg (by simp [e2])] at h1 |-
    rw [zeF (by simpa using e2)] at h1
    cases h1;rfl
  rw [if_neg (by simp [e])] at h1 |-
  rcases zft (op==5) with e | e
  ·rw [if_pos e] at h1 |-
   rcases zft (y==0) with e2 | e2
   ·rw [if_pos e2] at h1 |-;cases h1;rfl
   ·rw [if_neg (by simp [e2])] at h1 |-
    rw [zeF (by simpa using e2)] at h1
    cases h1;rfl
  rw [if_neg (by simp [e])] at h1 |-
  rcases zft (op==6) with e | e
  ·rw [if_pos e] at h1 |-;cases h1;rfl
  rw [if_neg (by simp [e])] at h1 |-
  rcases zft (op==7) with e | e
  ·rw [if_pos e] at h1 |-;cases h1;rfl
  rw [if_neg (by simp [e])] at h1 |-
  rcases zft (op==8) with e | e
  ·rw [if_pos e] at h1 |-;cases h1;rfl
  rw [if_neg (by simp [e])] at h1 |-
  rcases zft (op==9) with e | e
  ·rw [if_pos e] at h1 |-
   rw [zdJ hy.1] at h1
   cases h1;rfl
  rw [if_neg (by simp [e])] at h1 |-
  rcases zft (op==10) with e | e
  ·rw [if_pos e] at h1 |-
   rw [zdJ hy.1] at h1
   cases h1;rfl
  rw [if_neg (by simp [e])] at h1 |-
  cases h1;rfl
 rw [<- key]
theorem SW.in_ {s:zc} {n:Int} (h:SW s) (hn:inS s n):u64 n:=⟨by have:=h.1;have:=hn.1;omega,by have:=h.2.2;have:=hn.2;omega⟩
section
variable {a b:zc} {x y:Int}
def hl (op x y:Int):Bool:=if op==16 then x==y else if op==17 then x != y else if op==18 then decide (x<y) else if op==19 then decide (x>=y) else false
theorem zph (op x y:Int):zbJ op x y=some (hl op x y,inB op 16 19):=by
 obtain ⟨r,h1,h2⟩:=zlA op x y
 rw [h1,<- h2]
 have key:r.1=hl op x y:=by
  unfold zbJ at h1
  unfold hl
  rcases zft (op==16) with e | e
  ·rw [if_pos e] at h1 |-;cases h1;rfl
  rw [if_neg (by simp [e])] at h1 |-
  rcases zft (op==17) with e | e
  ·rw [if_pos e] at h1 |-;cases h1;rfl
  rw [if_neg (by simp [e])] at h1 |-
  rcases zft (op==18) with e | e
  ·rw [if_pos e] at h1 |-;cases h1;rfl
  rw [if_neg (by simp [e])] at h1 |-
  rcases zft (op==19) with e | e
  ·rw [if_pos e] at h1 |-;cases h1;rfl
  rw [if_neg (by simp [e])] at h1 |-
  cases h1;rfl
 rw [<- key]
end
end Go.Proofs.YtbmknhpfkpmigaaGreatDoor
namespace Go.Proofs.YtbmknhpfkpmigaaGreatDoor
open Go.Sx
theorem zrd (n:Nat) (h:n<18446744073709551616):zex .u64 (n:Int) 1=((n % 2:Nat):Int):=by
 rw [zht (by omega) (by omega) (by omega) (by omega)]
 have:(1:Int).toNat=1:=rfl
 rw [this,Nat.and_one_is_mod];rfl
theorem zr1 {n i:Nat} (hi:i<=64):zb4 .u64 (n:Int) (jy (i:Int))=((n / 2 ^ i:Nat):Int):=by
 rw [wuN (by omega)];exact zg8 i hi
theorem zsn {n i:Nat} (hi:i<=64):zgJ .u64 (n:Int) (jy (i:Int))=((n*2 ^ i % 18446744073709551616:Nat):Int):=by
 rw [wuN (by omega),zfw]
 have:min (i:Int).toNat 64=i:=by simp;omega
 rw [this,Int.natCast_emod,Int.natCast_mul,Int.natCast_pow]
 rfl
theorem orN {a b:Nat} (ha:a<18446744073709551616) (hb:b<18446744073709551616):bOr .u64 (a:Int) (b:Int)=((a ||| b:Nat):Int):=by
 rw [zhX (by omega) (by omega) (by omega) (by omega)];rfl
theorem zmY {s c i:Nat} (hs:s<2 ^ i):s ||| c*2 ^ i=s+c*2 ^ i:=by
 have:=Nat.two_pow_add_eq_or_of_lt hs c
 rw [Nat.or_comm,Nat.mul_comm,<- this,Nat.add_comm]
theorem ze4 (a i:Nat):a % 2 ^ (i+1)=a % 2 ^ i+2 ^ i*(a / 2 ^ i % 2):=by
 rw [Nat.pow_succ,Nat.mod_mul]
theorem zoP {i:Nat} (h:i<64):2 ^ i*2<=18446744073709551616:=by
 have:2 ^ (i+1)<=2 ^ 64:=Nat.pow_le_pow_right (by decide) h
 rw [Nat.pow_succ] at this;exact this
theorem zmZ {a b i:Nat} (ha:a<18446744073709551616) (hb:b<18446744073709551616) (hi:i<64) (again:(Int×Int)->Option Int):
  jE a b i again ((((a % 2 ^ i+b % 2 ^ i) % 2 ^ i:Nat):Int),(((a % 2 ^ i+b % 2 ^ i) / 2 ^ i:Nat):Int))=
  again ((((a % 2 ^ (i+1)+b % 2 ^ (i+1)) % 2 ^ (i+1):Nat):Int),(((a % 2 ^ (i+1)+b % 2 ^ (i+1)) / 2 ^ (i+1):Nat):Int)):=by
 have h64:=zoP hi
 have hp:0<2 ^ i:=Nat.pow_pos (by decide)
 rw [jE]
 generalize hx:a / 2 ^ i % 2=x
 generalize hy:b / 2 ^ i % 2=y
 have hx2:x<2:=by omega
 have hy2:y<2:=by omega
 have hA:a % 2 ^ (i+1)=a % 2 ^ i+2 ^ i*x:=by rw [ze4,hx]
 have hB:b % 2 ^ (i+1)=b % 2 ^ i+2 ^ i*y:=by rw [ze4,hy]
 have la:a % 2 ^ i<2 ^ i:=Nat.mod_lt _ hp
 have lb:b % 2 ^ i<2 ^ i:=Nat.mod_lt _ hp
 generalize hu:a % 2 ^ i=u at*
 generalize hv:b % 2 ^ i=v at*
 generalize hc:(u+v) / 2 ^ i=c
 generalize hs:(u+v) % 2 ^ i=s
 have hsum:u+v=s+2 ^ i*c:=by rw [<- hs,<- hc,Nat.mod_add_div]
 have hsl:s<2 ^ i:=by rw [<- hs];exact Nat.mod_lt _ hp
 have hc2:c<2:=by rw [<- hc];exact Nat.div_lt_of_lt_mul (by omega)
 have e1:zex .u64 (zb4 .u64 (a:Int) (jy (i:Int))) 1=(x:Int):=by
  rw [zr1 (by omega),zrd _ (Nat.lt_of_le_of_lt (Nat.div_le_self _ _) ha),hx]
 have e2:zex .u64 (zb4 .u64 (b:Int) (jy (i:Int))) 1=(y:Int):=by
  rw [zr1 (by omega),zrd _ (Nat.lt_of_le_of_lt (Nat.div_le_self _ _) hb),hy]
 simp only [e1,e2]
 have e3:jy (jy ((x:Int)+(y:Int))+(c:Int))=((x+y+c:Nat):Int):=by
  rw [show (x:Int)+(y:Int)=((x+y:Nat):Int) by push_cast;rfl,wuN (by omega),show ((x+y:Nat):Int)+(c:Int)=((x+y+c:Nat):Int) by push_cast;rfl,wuN (by omega)]
 simp only [e3]
 rw [zrd _ (by omega),zsn (by omega),show (1:Int)=((1:Nat):Int) from rfl,zg8 1 (by omega)]
 have hm:(x+y+c) % 2*2 ^ i<18446744073709551616:=by
  have:(x+y+c) % 2<=1:=by omega
  calc _<=1*2 ^ i:=Nat.mul_le_mul_right _ this
   _<_:=by omega
 rw [Nat.mod_eq_of_lt hm,orN (by omega) hm,zmY hsl]
 have hS:a % 2 ^ (i+1)+b % 2 ^ (i+1)=s+2 ^ i*(x+y+c):=by
  rw [hA,hB]
  have:u+2 ^ i*x+(v+2 ^ i*y)=(u+v)+2 ^ i*(x+y):=by rw [Nat.mul_add];omega
  rw [this,hsum,Nat.add_assoc,<- Nat.mul_add,Nat.add_comm c]
 rw [hS]
 have d1:(s+2 ^ i*(x+y+c)) % 2 ^ (i+1)=s+(x+y+c) % 2*2 ^ i:=by
  rw [Nat.pow_succ,Nat.mod_mul,Nat.add_mul_mod_self_left,Nat.mod_eq_of_lt hsl,Nat.add_mul_div_left _ _ hp,Nat.div_eq_of_lt hsl,Nat.zero_add,Nat.mul_comm]
 have d2:(s+2 ^ i*(x+y+c)) / 2 ^ (i+1)=(x+y+c) / 2 ^ 1:=by
  rw [Nat.pow_succ,<- Nat.div_div_eq_div_mul,Nat.add_mul_div_left _ _ hp,Nat.div_eq_of_lt hsl,Nat.zero_add]
 rw [d1,d2]
theorem zm0 {a b:Nat} (ha:a<18446744073709551616) (hb:b<18446744073709551616): ∀ (n i:Nat),i+n=64->
  qf (jE a b) (fun (s:Int×Int)=>s.1) n i ((((a % 2 ^ i+b % 2 ^ i) % 2 ^ i:Nat):Int),(((a % 2 ^ i+b % 2 ^ i) / 2 ^ i:Nat):Int))=some (((a+b) % 18446744073709551616:Nat):Int):=by
 intro n
 induction n with
 | zero=>
  intro i hi
  have:i=64:=by omega
  subst this
  have ea:a % 2 ^ 64=a:=Nat.mod_eq_of_lt ha
  have eb:b % 2 ^ 64=b:=Nat.mod_eq_of_lt hb
  rw [ea,eb];rfl
 | succ n ih=>
  intro i hi
  show jE a b i (qf (jE a b) (fun (s:Int×Int)=>s.1) n (i+1)) _=_
  rw [zmZ ha hb (by omega)]
  exact ih (i+1) (by omega)
theorem zl2 {a b:Nat} (ha:a<18446744073709551616) (hb:b<18446744073709551616):qC a b=some (((a+b) % 18446744073709551616:Nat):Int):=by
 have:=zm0 ha hb 64 0 rfl
 simp only [Nat.pow_zero,Nat.mod_one,Nat.div_one,Nat.add_zero] at this
 rw [qC]
 show (qf (jE a b) (fun (s:Int×Int)=>s.1) 64 0 (((0:Nat):Int),((0:Nat):Int))).bind _=_
 rw [this];rfl
theorem zqd {b:Nat} (hb:b<18446744073709551616):zio .u64 18446744073709551615 (b:Int)=((18446744073709551615-b:Nat):Int):=by
 rw [zjd]
 have e1:BitVec.ofInt 64 18446744073709551615=BitVec.allOnes 64:=by decide
 rw [e1,BitVec.allOnes_xor,BitVec.toNat_not,zhW (by omega) (by omega)]
 have:(b:Int).toNat=b:=rfl
 rw [this]
 have:2 ^ 64-1-b=18446744073709551615-b:=rfl
 rw [this];omega
theorem zpE {a b:Nat} (ha:a<18446744073709551616) (hb:b<18446744073709551616):va a b=some (((a+(18446744073709551616-b)) % 18446744073709551616:Nat):Int):=by
 rw [va,zqd hb,show (1:Int)=((1:Nat):Int) from rfl,zl2 (by omega) (by omega)]
 show (qC _ _).bind _=_
 rw [zl2 ha (Nat.mod_lt _ (by decide))]
 show some _=some _
 congr 2
 omega
theorem zl3 {a b:Nat} (ha:a<18446744073709551616) (hb:b<18446744073709551616): ∀ (n i:Nat),i+n=64->
  qf (xd b) (fun (s:Int×Int)=>s.2) n i (((a*2 ^ i % 18446744073709551616:Nat):Int),((a*(b % 2 ^ i) % 18446744073709551616:Nat):Int))=some ((a*b % 18446744073709551616:Nat):Int):=by
 intro n
 induction n with
 | zero=>
  intro i hi
  have:i=64:=by omega
  subst this
  have eb:b % 2 ^ 64=b:=Nat.mod_eq_of_lt hb
  rw [eb];rfl
 | succ n ih=>
  intro i hi
  show xd b i (qf (xd b) (fun (s:Int×Int)=>s.2) n (i+1)) _=_
  have m1:a*2 ^ i % 18446744073709551616<18446744073709551616:=Nat.mod_lt _ (by decide)
  have m2:a*(b % 2 ^ i) % 18446744073709551616<18446744073709551616:=Nat.mod_lt _ (by decide)
  have e2:zex .u64 (zb4 .u64 (b:Int) (jy (i:Int))) 1=((b / 2 ^ i % 2:Nat):Int):=by
   rw [zr1 (by omega),zrd _ (Nat.lt_of_le_of_lt (Nat.div_le_self _ _) hb)]
  have hn:(a*2 ^ i % 18446744073709551616+a*2 ^ i % 18446744073709551616) % 18446744073709551616=a*2 ^ (i+1) % 18446744073709551616:=by
   rw [<- Nat.add_mod,Nat.pow_succ,<- Nat.mul_assoc];congr 1;omega
  rw [xd]
  simp only [e2]
  rw [zl2 m1 m1,zl2 m2 m1,hn]
  have hq:(if (((b / 2 ^ i % 2:Nat):Int)==1)=true then (some (((a*(b % 2 ^ i) % 18446744073709551616+a*2 ^ i % 18446744073709551616) % 18446744073709551616:Nat):Int)).bind (fun r=>some r) else some ((a*(b % 2 ^ i) % 18446744073709551616:Nat):Int))=some ((a*(b % 2 ^ (i+1)) % 18446744073709551616:Nat):Int):=by
   rw [ze4 b i]
   by_cases h:b / 2 ^ i % 2=1
   ·rw [h]
    rw [if_pos (by decide)]
    show some _=some _
    rw [<- Nat.add_mod,Nat.mul_one,<- Nat.mul_add]
   ·have h0:b / 2 ^ i % 2=0:=by omega
    rw [h0,if_neg (by decide),Nat.mul_zero,Nat.add_zero]
  rw [hq]
  exact ih (i+1) (by omega)
theorem zry {a b:Nat} (ha:a<18446744073709551616) (hb:b<18446744073709551616):vX a b=some ((a*b % 18446744073709551616:Nat):Int):=by
 have:=zl3 ha hb 64 0 rfl
 simp only [Nat.pow_zero,Nat.mod_one,Nat.mul_zero,Nat.mul_one,Nat.zero_mod,Nat.mod_eq_of_lt ha] at this
 rw [vX]
 show (qf (xd b) (fun (s:Int×Int)=>s.2) 64 0 ((a:Int),((0:Nat):Int))).bind _=_
 rw [this];rfl
theorem nnN (n:Nat):nn (n:Int)=some ():=zdJ (by omega)
theorem zl4 {a b i:Nat} (ha:a<18446744073709551616) (hb:b<18446744073709551616) (h0:0<b) (hi:i<64) (again:(Int×Int×Int)->Option (Int×Int)):
  xe a b again (((a / 2 ^ (i+1) / b*2 ^ (i+1):Nat):Int),((a / 2 ^ (i+1) % b:Nat):Int),(i:Int))=
  again (((a / 2 ^ i / b*2 ^ i:Nat):Int),((a / 2 ^ i % b:Nat):Int),(i:Int)-1):=by
 have hp:0<2 ^ i:=Nat.pow_pos (by decide)
 have h64:=zoP hi
 have hA:a / 2 ^ i=2*(a / 2 ^ (i+1))+a / 2 ^ i % 2:=by
  rw [Nat.pow_succ,<- Nat.div_div_eq_div_mul];omega
 have hA64:a / 2 ^ i<18446744073709551616:=Nat.lt_of_le_of_lt (Nat.div_le_self _ _) ha
 generalize hx:a / 2 ^ i % 2=x at hA
 generalize hu:a / 2 ^ (i+1)=u at hA |-
 have hx2:x<2:=by omega
 have hqr:u=b*(u / b)+u % b:=(Nat.div_add_mod u b).symm
 have hrl:u % b<b:=Nat.mod_lt _ h0
 generalize hq:u / b=q at*
 generalize hr:u % b=r at*
 have hu64:u*2 ^ (i+1)<=a:=by rw [<- hu];exact Nat.div_mul_le_self _ _
 have hq64:q*2 ^ (i+1)<=a:=Nat.le_trans (Nat.mul_le_mul_right _ (by rw [<- hq];exact Nat.div_le_self _ _)) hu64
 have d0:decide ((i:Int)>=0)=true:=by simp
 have e1:zex .u64 (zb4 .u64 (a:Int) (jy (i:Int))) 1=(x:Int):=by
  rw [zr1 (by omega),zrd _ hA64,hx]
 have e2:zgJ .u64 (r:Int) 1=((r*2 % 18446744073709551616:Nat):Int):=by
  have:=zsn (n:=r) (i:=1) (by omega)
  rw [show jy ((1:Nat):Int)=1 from by decide] at this
  exact this
 have hor:r*2 % 18446744073709551616 ||| x=r*2 % 18446744073709551616+x:=by
  have h2:r*2 % 18446744073709551616=r % 9223372036854775808*2 ^ 1:=by omega
  rw [h2,Nat.or_comm,zmY (by omega),Nat.add_comm]
 have e3:bOr .u64 (zgJ .u64 (r:Int) 1) (zex .u64 (zb4 .u64 (a:Int) (jy (i:Int))) 1)=((r*2 % 18446744073709551616+x:Nat):Int):=by
  rw [e1,e2,orN (Nat.mod_lt _ (by decide)) (by omega),hor]
 have e4:zb4 .u64 (r:Int) 63=((r / 9223372036854775808:Nat):Int):=zg8 63 (by omega)
 rw [xe]
 simp only [d0,if_true]
 have en:nn (jy (i:Int))=some ():=by rw [wuN (by omega)];exact nnN i
 rw [en,e3,e4]
 have ew:w64 ((i:Int)-1)=(i:Int)-1:=qN (by omega) (by omega)
 rw [ew]
 simp only [zbs]
 by_cases hc:b<=2*r+x
 ·
  have hcond:(((r / 9223372036854775808:Nat):Int)==1||decide (((r*2 % 18446744073709551616+x:Nat):Int)>=(b:Int)))=true:=by
   by_cases h:r / 9223372036854775808=1
   ·rw [h];rfl
   ·have h0':r / 9223372036854775808=0:=by omega
    have:r*2 % 18446744073709551616=2*r:=by omega
    rw [this]
    have:decide (((2*r+x:Nat):Int)>=(b:Int))=true:=decide_eq_true (by omega)
    rw [this,Bool.or_true]
  rw [if_pos hcond,zpE (by omega) hb]
  have e5:((r*2 % 18446744073709551616+x+(18446744073709551616-b)) % 18446744073709551616)=2*r+x-b:=by omega
  rw [e5]
  have hdiv:a / 2 ^ i / b=2*q+1:=by
   rw [hA,hqr]
   have:2*(b*q+r)+x=(2*r+x-b)+b*(2*q+1):=by rw [Nat.mul_add b,<- Nat.mul_assoc,Nat.mul_comm b 2,Nat.mul_assoc,Nat.mul_add 2];omega
   rw [this,Nat.add_mul_div_left _ _ h0,Nat.div_eq_of_lt (by omega),Nat.zero_add]
  have hmod:a / 2 ^ i % b=2*r+x-b:=by
   rw [hA,hqr]
   have:2*(b*q+r)+x=(2*r+x-b)+b*(2*q+1):=by rw [Nat.mul_add b,<- Nat.mul_assoc,Nat.mul_comm b 2,Nat.mul_assoc,Nat.mul_add 2];omega
   rw [this,Nat.add_mul_mod_self_left,Nat.mod_eq_of_lt (by omega)]
  simp only [zbs]
  have e6:zgJ .u64 1 (jy (i:Int))=((1*2 ^ i:Nat):Int):=by
   rw [show (1:Int)=((1:Nat):Int) from rfl,zsn (by omega),Nat.mod_eq_of_lt (by omega)]
  have e7:q*2 ^ (i+1) ||| 1*2 ^ i=(2*q+1)*2 ^ i:=by
   have h2:q*2 ^ (i+1)=q*2*2 ^ i:=by rw [Nat.pow_succ,Nat.mul_assoc,Nat.mul_comm 2]
   have h3:(2*q+1)*2 ^ i=q*2*2 ^ i+2 ^ i:=by rw [Nat.add_mul,Nat.one_mul,Nat.mul_comm 2 q]
   rw [Nat.or_comm,Nat.one_mul,zmY (Nat.pow_lt_pow_right (by decide) (by omega)),h2,h3]
   omega
  rw [e6,orN (by omega) (by omega),e7,hdiv,hmod]
 ·have hcond:(((r / 9223372036854775808:Nat):Int)==1||decide (((r*2 % 18446744073709551616+x:Nat):Int)>=(b:Int)))=false:=by
   have h0':r / 9223372036854775808=0:=by omega
   have:r*2 % 18446744073709551616=2*r:=by omega
   rw [this,h0']
   have:decide (((2*r+x:Nat):Int)>=(b:Int))=false:=decide_eq_false (by omega)
   rw [this];rfl
  rw [if_neg (by rw [hcond];decide)]
  have e5:r*2 % 18446744073709551616+x=2*r+x:=by omega
  rw [e5]
  have hdiv:a / 2 ^ i / b=2*q:=by
   rw [hA,hqr]
   have:2*(b*q+r)+x=(2*r+x)+b*(2*q):=by rw [<- Nat.mul_assoc,Nat.mul_comm b 2,Nat.mul_assoc,Nat.mul_add 2];omega
   rw [this,Nat.add_mul_div_left _ _ h0,Nat.div_eq_of_lt (by omega),Nat.zero_add]
  have hmod:a / 2 ^ i % b=2*r+x:=by
   rw [hA,hqr]
   have:2*(b*q+r)+x=(2*r+x)+b*(2*q):=by rw [<- Nat.mul_assoc,Nat.mul_comm b 2,Nat.mul_assoc,Nat.mul_add 2];omega
   rw [this,Nat.add_mul_mod_self_left,Nat.mod_eq_of_lt (by omega)]
  have h2:q*2 ^ (i+1)=2*q*2 ^ i:=by rw [Nat.pow_succ,Nat.mul_comm (2 ^ i) 2,<- Nat.mul_assoc,Nat.mul_comm q 2]
  rw [hdiv,hmod,h2]
theorem zl5 {a b:Nat} (ha:a<18446744073709551616) (hb:b<18446744073709551616) (h0:0<b): ∀ (i n:Nat),i<=64->i<n->
  loop (xe a b) n (((a / 2 ^ i / b*2 ^ i:Nat):Int),((a / 2 ^ i % b:Nat):Int),(i:Int)-1)=some (((a / b:Nat):Int),((a % b:Nat):Int)):=by
 intro i
 induction i with
 | zero=>
  intro n _ hn
  obtain ⟨n,rfl⟩: ∃ k,n=k+1:=⟨n-1,by omega⟩
  rw [loop,xe]
  simp
 | succ i ih=>
  intro n hi hn
  obtain ⟨n,rfl⟩: ∃ k,n=k+1:=⟨n-1,by omega⟩
  rw [loop,show (((i+1:Nat):Int)-1)=(i:Int) by omega,zl4 ha hb h0 (by omega)]
  exact ih n (by omega) (by omega)
theorem zpF {a b fu:Nat} (ha:a<18446744073709551616) (hb:b<18446744073709551616) (h0:0<b) (hf:70<=fu):vY fu a b=some (((a / b:Nat):Int),((a % b:Nat):Int)):=by
 have:=zl5 ha hb h0 64 fu (by omega) (by omega)
 have e:a / 2 ^ 64=0:=Nat.div_eq_of_lt ha
 rw [e,Nat.zero_div,Nat.zero_mul,Nat.zero_mod] at this
 rw [vY]
 show (loop (xe a b) fu (((0:Nat):Int),((0:Nat):Int),((64:Nat):Int)-1)).bind _=_
 rw [this];rfl
theorem zoQ {b:Nat} (hb:b<18446744073709551616): ∀ (k n a i:Nat),a<18446744073709551616->(a ≠ 0->a % 2 ^ (64-k)=0)->k<=64->k<n->i<=b->
  loop (jJ 9 b) n ((a:Int),(i:Int))=some ((a*2 ^ (b-i) % 18446744073709551616:Nat):Int):=by
 intro k
 induction k with
 | zero=>
  intro n a i ha hz _ hn hi
  obtain ⟨n,rfl⟩: ∃ q,n=q+1:=⟨n-1,by omega⟩
  have h0:a=0:=by
   by_cases h:a=0
   ·exact h
   ·have:=hz h
    rw [Nat.mod_eq_of_lt (by simpa using ha)] at this
    exact this
  subst h0
  rw [loop,jJ]
  simp
 | succ k ih=>
  intro n a i ha hz hk hn hi
  obtain ⟨n,rfl⟩: ∃ q,n=q+1:=⟨n-1,by omega⟩
  rw [loop,jJ]
  by_cases h0:a=0
  ·subst h0;simp
  ·by_cases hib:i=b
   ·subst hib
    simp [Nat.mod_eq_of_lt ha]
   ·have hc:(decide ((i:Int)<(b:Int))&&decide ((a:Int)>0))=true:=by
     rw [decide_eq_true (by omega),decide_eq_true (by omega)];rfl
    simp only [hc,if_true]
    rw [if_pos (by decide),zl2 ha ha]
    show loop (jJ 9 b) n (_,_)=_
    rw [show (i:Int)+1=((i+1:Nat):Int) by push_cast;rfl,wuN (by omega),ih n _ (i+1) (Nat.mod_lt _ (by decide)) ?_ (by omega) (by omega) (by omega)]
    ·congr 2
     rw [Nat.mod_mul_mod]
     congr 1
     have:b-i=(b-(i+1))+1:=by omega
     rw [this,Nat.pow_succ,Nat.mul_comm (2 ^ _) 2,<- Nat.mul_assoc]
     congr 1;omega
    ·intro _
     have h1:=hz h0
     have hdiv:2 ^ (64-(k+1)) ∣ a:=Nat.dvd_of_mod_eq_zero h1
     have hd2:2 ^ (64-k) ∣ a+a:=by
      have e:64-k=(64-(k+1))+1:=by omega
      rw [e,Nat.pow_succ]
      obtain ⟨c,hc⟩:=hdiv
      exact ⟨c,by rw [hc];rw [Nat.mul_assoc,Nat.mul_comm 2 c,<- Nat.mul_assoc];omega⟩
     have hd3:2 ^ (64-k) ∣ 18446744073709551616:=by
      have:(18446744073709551616:Nat)=2 ^ 64:=by decide
      rw [this];exact Nat.pow_dvd_pow 2 (by omega)
     exact Nat.mod_eq_zero_of_dvd ((Nat.dvd_mod_iff hd3).2 hd2)
theorem zoR {b:Nat} (hb:b<18446744073709551616): ∀ (k n a i:Nat),a<18446744073709551616->a<2 ^ k->k<n->i<=b->
  loop (jJ 10 b) n ((a:Int),(i:Int))=some ((a / 2 ^ (b-i):Nat):Int):=by
 intro k
 induction k with
 | zero=>
  intro n a i _ ha hn hi
  obtain ⟨n,rfl⟩: ∃ q,n=q+1:=⟨n-1,by omega⟩
  have h0:a=0:=by simpa using ha
  subst h0
  rw [loop,jJ]
  simp
 | succ k ih=>
  intro n a i ha64 ha hn hi
  obtain ⟨n,rfl⟩: ∃ q,n=q+1:=⟨n-1,by omega⟩
  rw [loop,jJ]
  by_cases h0:a=0
  ·subst h0;simp
  ·by_cases hib:i=b
   ·subst hib;simp
   ·have hc:(decide ((i:Int)<(b:Int))&&decide ((a:Int)>0))=true:=by
     rw [decide_eq_true (by omega),decide_eq_true (by omega)];rfl
    simp only [hc,if_true]
    rw [if_neg (by decide)]
    have e2:jy ((a:Int).tdiv 2)=((a / 2:Nat):Int):=by
     rw [show (2:Int)=((2:Nat):Int) from rfl,zgv,wuN (by omega)]
    rw [e2,show (i:Int)+1=((i+1:Nat):Int) by push_cast;rfl,wuN (by omega),ih n _ (i+1) (by omega) (by rw [Nat.pow_succ] at ha;omega) (by omega) (by omega)]
    have:b-i=(b-(i+1))+1:=by omega
    rw [this,Nat.pow_succ,Nat.mul_comm (2 ^ _) 2,Nat.div_div_eq_div_mul]
theorem zm1 {a b:Nat} (hb:64<=b):a*2 ^ b % 18446744073709551616=0:=by
 have:b=64+(b-64):=by omega
 rw [this,Nat.pow_add,<- Nat.mul_assoc,Nat.mul_comm a,Nat.mul_assoc]
 exact Nat.mul_mod_right _ _
theorem zkE {a b:Nat}:zgJ .u64 (a:Int) (b:Int)=((a*2 ^ b % 18446744073709551616:Nat):Int):=by
 rw [zfw,show (b:Int).toNat=b from rfl]
 by_cases h:b<=64
 ·rw [Nat.min_eq_left h,Int.natCast_emod,Int.natCast_mul,Int.natCast_pow];rfl
 ·have e:a*2 ^ b % 18446744073709551616=a*2 ^ 64 % 18446744073709551616:=by rw [zm1 (by omega),zm1 (by omega)]
  rw [Nat.min_eq_right (by omega),e,Int.natCast_emod,Int.natCast_mul,Int.natCast_pow];rfl
theorem zm2 {a b:Nat} (ha:a<18446744073709551616):zb4 .u64 (a:Int) (b:Int)=((a / 2 ^ b:Nat):Int):=by
 rw [zhY (by omega),show (b:Int).toNat=b from rfl,show (a:Int).toNat=a from rfl]
 by_cases h:b<=64
 ·rw [Nat.min_eq_left h]
 ·have h1:a / 2 ^ 64=0:=Nat.div_eq_of_lt ha
  have h2:a / 2 ^ b=0:=Nat.div_eq_of_lt (Nat.lt_of_lt_of_le ha (Nat.pow_le_pow_right (show 0<2 by decide) (show 64<=b by omega)))
  rw [Nat.min_eq_right (by omega),h1,h2]
theorem zpG (x y:Int):zie .u64 x y=((BitVec.ofInt 64 x &&& ~~~ BitVec.ofInt 64 y).toNat:Int) % 18446744073709551616:=rfl
theorem bvN {a:Nat} (ha:a<18446744073709551616):(BitVec.ofNat 64 a).toNat=a:=by
 rw [BitVec.toNat_ofNat,Nat.mod_eq_of_lt ha]
theorem zr2 {a:Nat} (ha:a<18446744073709551616):(~~~ BitVec.ofNat 64 a).toNat=18446744073709551615-a:=by
 rw [BitVec.toNat_not,bvN ha]
theorem zsG {x y:Nat} (hx:x<18446744073709551616) (hy:y<18446744073709551616):x ||| y<18446744073709551616:=Nat.or_lt_two_pow (n:=64) hx hy
theorem zpH (a b:Nat) (ha:a<18446744073709551616) (hb:b<18446744073709551616):
  18446744073709551615-((18446744073709551615-a) ||| (18446744073709551615-b))=a &&& b/\18446744073709551615-((18446744073709551615-a) &&& (18446744073709551615-b))=a ||| b:=by
 constructor
 ·have h:=congrArg BitVec.toNat (show ~~~(~~~ BitVec.ofNat 64 a ||| ~~~ BitVec.ofNat 64 b)=BitVec.ofNat 64 a &&& BitVec.ofNat 64 b by ext i;simp)
  rw [BitVec.toNat_not,BitVec.toNat_or,zr2 ha,zr2 hb,BitVec.toNat_and,bvN ha,bvN hb] at h
  exact h
 ·have h:=congrArg BitVec.toNat (show ~~~(~~~ BitVec.ofNat 64 a &&& ~~~ BitVec.ofNat 64 b)=BitVec.ofNat 64 a ||| BitVec.ofNat 64 b by ext i;simp)
  rw [BitVec.toNat_not,BitVec.toNat_and,zr2 ha,zr2 hb,BitVec.toNat_or,bvN ha,bvN hb] at h
  exact h
theorem bvI {a:Nat}:BitVec.ofInt 64 (a:Int)=BitVec.ofNat 64 a:=by
 apply BitVec.eq_of_toNat_eq
 simp [BitVec.toNat_ofInt]
theorem zqe {a b:Nat} (ha:a<18446744073709551616) (hb:b<18446744073709551616):bOr .u64 (zie .u64 (a:Int) (b:Int)) (zie .u64 (b:Int) (a:Int))=zio .u64 (a:Int) (b:Int):=by
 have m (x:BitVec 64):((x.toNat:Int) % 18446744073709551616)=(x.toNat:Int):=by have:=x.isLt;omega
 have o (x:BitVec 64):BitVec.ofInt 64 (x.toNat:Int)=x:=by rw [bvI,BitVec.ofNat_toNat,BitVec.setWidth_eq]
 rw [zpG,zpG,m,m,zk6,o,o,zjd,bvI,bvI]
 congr 2
 have:(BitVec.ofNat 64 a &&& ~~~ BitVec.ofNat 64 b ||| BitVec.ofNat 64 b &&& ~~~ BitVec.ofNat 64 a)=BitVec.ofNat 64 a ^^^ BitVec.ofNat 64 b:=by
  ext i
  simp only [BitVec.getElem_or,BitVec.getElem_and,BitVec.getElem_not,BitVec.getElem_xor]
  cases (BitVec.ofNat 64 a)[i]<;>cases (BitVec.ofNat 64 b)[i]<;>rfl
 rw [this]
theorem zsH {x:Int} (h:u64 x): ∃ n:Nat,x=n/\n<18446744073709551616:=⟨x.toNat,by have:=h.1;omega,by have:=h.2;omega⟩
theorem zoS {fu:Nat} (hf:70<=fu) {op x y:Int} (hx:u64 x) (hy:u64 y) (h1:1<=op) (h2:op<=10):qx fu op x y=some (ar op x y,true):=by
 obtain ⟨a,rfl,ha⟩:=zsH hx
 obtain ⟨b,rfl,hb⟩:=zsH hy
 have hop:op=1\/op=2\/op=3\/op=4\/op=5\/op=6\/op=7\/op=8\/op=9\/op=10:=by omega
 rcases hop with rfl | rfl | rfl | rfl | rfl | rfl | rfl | rfl | rfl | rfl
 ·simp only [qx,ar,Int.reduceBEq,if_true]
  rw [zl2 ha hb,zda,zbs]
  try rfl
 ·simp only [qx,ar,Int.reduceBEq,if_true,zfe,if_false]
  rw [zpE ha hb,zda]
  show some _=some _
  congr 2;omega
 ·simp only [qx,ar,Int.reduceBEq,if_true,zfe,if_false]
  rw [zry ha hb,zda,zbs]
  try rfl
 ·simp only [qx,ar,Int.reduceBEq,if_true,zfe,if_false,zbs]
  by_cases h0:b=0
  ·subst h0;rfl
  ·have hd:decide ((b:Int)>0)=true:=decide_eq_true (by omega)
   have hz:((b:Int)==0)=false:=by simp;omega
   simp only [hd,if_true,zpF ha hb (by omega) hf,hz,zgv,wuN (Nat.lt_of_le_of_lt (Nat.div_le_self a b) ha),zfe,if_false,zbs]
 ·simp only [qx,ar,Int.reduceBEq,if_true,zfe,if_false,zbs]
  by_cases h0:b=0
  ·subst h0;rfl
  ·have hd:decide ((b:Int)>0)=true:=decide_eq_true (by omega)
   have hz:((b:Int)==0)=false:=by simp;omega
   simp only [hd,if_true,zpF ha hb (by omega) hf,hz,zfe,if_false,zbs]
   rfl
 ·simp only [qx,ar,Int.reduceBEq,if_true,zfe,if_false,zbs]
  rw [zqd ha,zqd hb,zhX (by omega) (by omega) (by omega) (by omega),zht (by omega) (by omega) (by omega) (by omega)]
  have e:=zpH a b ha hb
  rw [show ((18446744073709551615-a:Nat):Int).toNat=18446744073709551615-a from rfl,show ((18446744073709551615-b:Nat):Int).toNat=18446744073709551615-b from rfl,zqd (zsG (by omega) (by omega)),e.1];rfl
 ·simp only [qx,ar,Int.reduceBEq,if_true,zfe,if_false,zbs]
  rw [zqd ha,zqd hb,zht (by omega) (by omega) (by omega) (by omega),zhX (by omega) (by omega) (by omega) (by omega)]
  have e:=zpH a b ha hb
  rw [show ((18446744073709551615-a:Nat):Int).toNat=18446744073709551615-a from rfl,show ((18446744073709551615-b:Nat):Int).toNat=18446744073709551615-b from rfl,zqd (Nat.lt_of_le_of_lt Nat.and_le_left (by omega)),e.2];rfl
 ·simp only [qx,ar,Int.reduceBEq,if_true,zfe,if_false,zbs]
  rw [zqe ha hb]
 ·simp only [qx,ar,Int.reduceBEq,if_true,zfe,if_false,zbs]
  have:=zoQ hb 64 fu a 0 ha (by intro _;simp [Nat.mod_one]) (by omega) (by omega) (by omega)
  rw [show ((0:Nat):Int)=0 from rfl] at this
  rw [this,zkE];rfl
 ·simp only [qx,ar,Int.reduceBEq,if_true,zfe,if_false,zbs]
  have:=zoR hb 64 fu a 0 ha ha (by omega) (by omega)
  rw [show ((0:Nat):Int)=0 from rfl] at this
  rw [this,zm2 ha];rfl
end Go.Proofs.YtbmknhpfkpmigaaGreatDoor
namespace Go.Proofs.YtbmknhpfkpmigaaGreatDoor
open Go.Sx
def zsW (k:Nat->zb) (regs:Nat->Int):Prop:= ∀ r,r<8->sem (k r) (regs r)
def zr6 (i:ze) (regs:Nat->Int):Int:=if i.B==8 then jy i.Imm else regs i.B.toNat
inductive Stp (i:ze) (p:Nat) (regs:Nat->Int):Nat->(Nat->Int)->Prop
 | set:i.Op=0->Stp i p regs (p+1) (zcg regs i.D.toNat (zr6 i regs))
 | arith:1<=i.Op->i.Op<=10->Stp i p regs (p+1) (zcg regs i.D.toNat (ar i.Op (regs i.A.toNat) (zr6 i regs)))
 | any (v:Int):i.Op=11\/i.Op=13->u64 v->Stp i p regs (p+1) (zcg regs i.D.toNat v)
 | store:i.Op=12->Stp i p regs (p+1) regs
 | map:i.Op=14->Stp i p regs (p+1) (zcg regs i.D.toNat i.Imm)
 | jump (q:Nat):i.Op=15->(q:Int)=p+(i.D+1)->Stp i p regs q regs
 | yes (q:Nat):16<=i.Op->i.Op<=19->hl i.Op (regs i.A.toNat) (zr6 i regs)=true->(q:Int)=p+(i.D+1)->Stp i p regs q regs
 | no:16<=i.Op->i.Op<=19->hl i.Op (regs i.A.toNat) (zr6 i regs)=false->Stp i p regs (p+1) regs
 | back (q:Nat):i.Op=20->(q:Int)=p-i.D->Stp i p regs q regs
 | on:i.Op=20->Stp i p regs (p+1) regs
 | call (v:Int):i.Op=21->(∀ s,zea i.Imm=some (s,true)->0<=v/\v<=s.most)->Stp i p regs (p+1) (zcg regs 0 v)
end Go.Proofs.YtbmknhpfkpmigaaGreatDoor
namespace Go.Proofs.YtbmknhpfkpmigaaGreatDoor
open Go.Sx
theorem znS {i:ze} (hr:qj i=true) (h1:15<=i.Op) (h2:i.Op<=19):zF i=(i.D+1,true,i.Op != 15):=by
 unfold zF
 have hj:zb0 i=true:=by simp [zb0,hr,inB,h1,h2]
 rw [if_pos hj]
def At (j:zf) (q:Nat) (regs:Nat->Int):Prop:=j.any[q]? =some true/\ ∃ x,j.ca[q]? =some x/\zsW x regs
end Go.Proofs.YtbmknhpfkpmigaaGreatDoor
