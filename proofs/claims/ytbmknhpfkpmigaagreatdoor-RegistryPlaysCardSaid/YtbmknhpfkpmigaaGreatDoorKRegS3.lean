/- Texts KRegS3, KRegS4, KRegS5, KRegS6, KRegS7, K1RegistryPlays of this proof. -/
import Derived.Test.YtbmknhpfkpmigaaGreatDoorKDecR2
import Derived.Test.YtbmknhpfkpmigaaGreatDoorD1
set_option linter.unusedVariables false
set_option linter.unusedSimpArgs false
namespace Go.Proofs.YtbmknhpfkpmigaaGreatDoor
open Go.Sx
theorem zaE {σ ρ:Type} {body:Nat->(σ->Option ρ)->σ->Option ρ} {out:σ->ρ} {s:σ}:qf body out 1 0 s=body 0 (fun s=>some (out s)) s:=rfl
theorem zbM {α:Type} (x:α):idx [x] ((0:Nat):Int)=some x:=rfl
section
variable {H M n:Nat} {r:za} {m:zd}
def zrK (m:zd) (k:Int):zl:=⟨m.T.Hooks,m.T.Last,m.T.Steps++ [⟨k,0,0⟩]⟩
def zqK (r:za) (k:Int):zo:=⟨r.Table.Versions,r.Table.hooks.set k.toNat ⟨0,0⟩⟩
def zss (H M n:Nat) (r:za) (m:zd) (P:Option (Int×zo)) (Q:Option (Int×zl)):Prop:=
 ∃ e t u,P=some (e,t)/\Q=some (e,u)/\zej H M n (zgR r t) ⟨m.Ms,u,m.C,m.Progs,m.Line⟩
theorem zk0 (h:zej H M n r m) (hb:n+1<=1000) {fu:Nat} (hfu:1000<fu) (k:Int):
  zss H M (n+1) r m (jV r.Table [k]) (qt fu m.T [k]):=by
 have hm:=h.mono hb
 have hself:zgR r r.Table=r:=rfl
 have ht:=h.tl
 have hlen:=h.inv.hl
 have hrange:(k<0\/(H:Int)<=k)\/(0<=k/\k<H):=by omega
 rcases hrange with hout | ⟨h0,h1⟩
 ·refine ⟨2,r.Table,m.T,?_,?_,hm⟩
  ·have hkn:zY r.Table k=some false:=by
    unfold zY
    simp [hlen];omega
   unfold jV
   rw [List.length_singleton,zaE,za7,zbM]
   simp [hkn]
  ·unfold qt
   rw [List.length_singleton,zaE,vm,zbM]
   rcases hout with q | q
   ·simp [q]
   ·by_cases q2:k<0
    ·simp [q2]
    ·simp [q2,h.hooks,q]
 ·obtain ⟨x,hx,hc,hv0,hv⟩:=h.cur k.toNat (by omega)
  have ek:((k.toNat:Nat):Int)=k:=by omega
  rw [ek] at hc
  have hix:idx r.Table.hooks k=some x:=by
   unfold Go.Sx.idx
   rw [if_pos h0];exact hx
  have hkn:zY r.Table k=some true:=by
   unfold zY
   simp [hlen];omega
  have htk:qr r.Table k=some (decide (x.version>0)):=by
   unfold qr
   rw [hix];rfl
  have hcur:=zja (fu:=fu) m.T k (by omega) (by omega)
  rw [hc] at hcur
  have a1:jV r.Table [k]=some (if x.version>0 then (0,zqK r k) else (41,r.Table)):=by
   unfold jV
   rw [List.length_singleton,zaE,za7,zbM,zaE,zcO,zbM,zaE,zcP,zbM]
   have cn:cut [k] 0 0=some []:=rfl
   by_cases q:x.version>0<;>simp [hkn,htk,cn,zaF,q,hix,zqK]
  have a2:qt fu m.T [k]=some (if x.version>0 then (0,zrK m k) else (41,m.T)):=by
   have r1:room 0 1=some ():=rfl
   have r2:room (m.T.Steps.length+1) 24=some ():=by unfold Go.Sx.room;rw [if_pos (by omega)]
   unfold qt
   rw [List.length_singleton,zaE,vm,zbM,zaE,za8,zbM,zaE,za9,zbM]
   have n1: ¬ k<0:=by omega
   have n2: ¬ m.T.Hooks<=k:=by rw [h.hooks];omega
   by_cases q:x.version>0<;>simp [n1,n2,r1,r2,hcur,q,qf,zrK]
  by_cases q:x.version>0
  ·refine ⟨0,zqK r k,zrK m k,by rw [a1,if_pos q],by rw [a2,if_pos q],?_⟩
   have hi:zeQ H M 2 (n+1) (zgR r (zqK r k)):=zj4 h.inv hb (by simp [zqK,hlen]) h.inv.last0 (by have:=h.inv.last;simp [zqK];omega)
   refine {hm with inv:=hi,last:=h.last,tl:=by simp [zrK];exact h.tl,cur:=fun j hj=> ?_}
   obtain ⟨y,hy,hcy,hvy⟩:=h.cur j hj
   simp only [zrK,zqK,zgR,zhP]
   by_cases e:k=(j:Int)
   ·subst e
    rw [if_pos rfl]
    refine ⟨⟨0,0⟩,?_,rfl,by simp,by simp⟩
    rw [Int.toNat_natCast,List.getElem?_set_self (by omega)]
   ·rw [if_neg e]
    exact ⟨y,by rw [List.getElem?_set_ne (by omega)];exact hy,hcy,hvy⟩
  ·exact ⟨41,r.Table,m.T,by rw [a1,if_neg q],by rw [a2,if_neg q],hm⟩
def zj5 (m:zd) (c:zj):zd:=⟨m.Ms,m.T,c,m.Progs,m.Line⟩
theorem zhQ (h:zej H M n r m) (hb:n+1<=1000) {c:zt} {d:zx} (hi:zeQ H M 2 (n+1) (zfY r c)) (h1:ziH (m.C.Steps++ [d])=c.now) (h2: ∀ w:Nat,w<2->c.in_[w]? =some (inE (m.C.Steps++ [d]) w)):
  zej H M (n+1) (zfY r c) (zj5 m ⟨m.C.Workers,m.C.Steps++ [d]⟩):=
 {h.mono hb with inv:=hi,cl:=by simp [zj5];exact h.cl,now:=h1,ins:=h2,wk:=h.wk}
def zst (H M n:Nat) (r:za) (m:zd) (P:Option (Int×Int×zt)) (Q:Option (Int×Int×zj)):Prop:=
 ∃ a e t u,P=some (a,e,t)/\Q=some (a,e,u)/\zej H M n (zfY r t) (zj5 m u)
theorem zml (h:zej H M n r m) (hb:n+1<=1000) {fu:Nat} (hfu:1000<fu) (k:Int):
  zst H M (n+1) r m (zad r.Clock k) (jX fu m.C k):=by
 have hm:=h.mono hb
 have hcl:=h.cl
 have hwk:=h.inv.wk
 have hrange:(k<0\/2<=k)\/(0<=k/\k<2):=by omega
 unfold zad vf jX
 rcases hrange with hout | ⟨h0,h1⟩
 ·refine ⟨0,2,r.Clock,m.C,?_,?_,hm⟩
  ·simp [hwk];omega
  ·rw [if_pos (by simp [h.wk];omega)]
 ·have hin:=h.ins k.toNat (by omega)
  have ek:((k.toNat:Nat):Int)=k:=by omega
  rw [ek] at hin
  have hix:idx r.Clock.in_ k=some (inE m.C.Steps k):=by
   unfold Go.Sx.idx
   rw [if_pos h0];exact hin
  have hbd:=zgt m.C.Steps k
  rw [if_neg (by simp [h.wk];omega),zlG m.C k (by omega) (by omega)]
  have hkn:(decide (k>=0)&&decide (k<(r.Clock.in_.length:Int)))=true:=by simp [hwk];omega
  simp only [zbs,hkn,hix,Bool.not_true,zfe,if_false]
  by_cases q:inE m.C.Steps k=0
  ·rw [if_neg (by simp [q]),if_neg (by simp [q])]
   have hr:room (m.C.Steps.length+1) 16=some ():=by unfold Go.Sx.room;rw [if_pos (by omega)]
   have e1:ziH (m.C.Steps++ [⟨1,k⟩])=r.Clock.now:=by rw [zcd,if_neg (by simp),h.now]
   have hN:=zkZ (fu:=fu) (zj.mk m.C.Workers (m.C.Steps++ [⟨1,k⟩])) (by simp;omega) (by simp;omega)
   simp only [e1] at hN
   refine ⟨r.Clock.now,0,⟨r.Clock.now,r.Clock.in_.set k.toNat r.Clock.now⟩,⟨m.C.Workers,m.C.Steps++ [⟨1,k⟩]⟩,rfl,?_,?_⟩
   ·simp [hr,hN]
   ·refine zhQ h hb (zny h.inv hb k) e1 (fun w hw=> ?_)
    rw [zgs,if_neg (by simp)]
    by_cases e:k=(w:Int)
    ·subst e
     rw [if_pos ⟨rfl,rfl⟩,Int.toNat_natCast,List.getElem?_set_self (by omega),h.now]
    ·rw [if_neg (fun q=>e q.1),if_neg (by exact e),List.getElem?_set_ne (by omega)]
     exact h.ins w hw
  ·rw [if_pos (by simpa using q),if_pos (by simp;omega)]
   exact ⟨0,42,r.Clock,m.C,rfl,rfl,hm⟩
def zsu (H M n:Nat) (r:za) (m:zd) (P:Option (Int×zt)) (Q:Option (Int×zj)):Prop:=
 ∃ e t u,P=some (e,t)/\Q=some (e,u)/\zej H M n (zfY r t) (zj5 m u)
theorem zmm (h:zej H M n r m) (hb:n+1<=1000) {fu:Nat} (hfu:1000<fu) (k:Int):
  zsu H M (n+1) r m (zaf r.Clock [k]) (jY fu m.C [k]):=by
 have hm:=h.mono hb
 have hcl:=h.cl
 have hwk:=h.inv.wk
 have hrange:(k<0\/2<=k)\/(0<=k/\k<2):=by omega
 unfold zaf jY
 rw [List.length_singleton,zaE,zcZ,zbM,zaE,zc0,zbM,zaE,zc1,zbM]
 rw [zaE,zbp,zbM,zaE,zbq,zbM,zaE,zbr,zbM]
 unfold vf
 rcases hrange with hout | ⟨h0,h1⟩
 ·refine ⟨2,r.Clock,m.C,?_,?_,hm⟩
  ·have hkn:(decide (k>=0)&&decide (k<(r.Clock.in_.length:Int)))=false:=by simp [hwk];omega
   simp only [zbs,hkn]
   simp
  ·by_cases q2:k<0
   ·simp [q2]
   ·have:2<=k:=by omega
    simp [q2,h.wk,this]
 ·have hin:=h.ins k.toNat (by omega)
  have ek:((k.toNat:Nat):Int)=k:=by omega
  rw [ek] at hin
  have hix:idx r.Clock.in_ k=some (inE m.C.Steps k):=by
   unfold Go.Sx.idx
   rw [if_pos h0];exact hin
  have hbd:=zgt m.C.Steps k
  have hkn:(decide (k>=0)&&decide (k<(r.Clock.in_.length:Int)))=true:=by simp [hwk];omega
  have ha:ain 4 k=some k.toNat:=by unfold Go.Sx.ain;rw [if_pos (by omega)]
  have r1:room 0 1=some ():=rfl
  have hI:=zlG (fu:=fu) m.C k (by omega) (by omega)
  have n1: ¬ k<0:=by omega
  have n2: ¬ (2:Int)<=k:=by omega
  by_cases q:inE m.C.Steps k=0
  ·refine ⟨41,r.Clock,m.C,?_,?_,hm⟩
   ·simp only [zbs,hkn]
    simp [ha,hix,q]
   ·simp [n1,n2,h.wk,r1,qf,hI,q]
  ·have hp:inE m.C.Steps k>0:=by omega
   have hr:room (m.C.Steps.length+1) 16=some ():=by unfold Go.Sx.room;rw [if_pos (by omega)]
   refine ⟨0,⟨r.Clock.now,r.Clock.in_.set k.toNat 0⟩,⟨m.C.Workers,m.C.Steps++ [⟨2,k⟩]⟩,?_,?_,?_⟩
   ·simp only [zbs,hkn]
    simp [ha,hix,q]
   ·simp [n1,n2,h.wk,r1,qf,hI,hp,hr]
   ·refine zhQ h hb (znz h.inv hb k) (by rw [zcd,if_neg (by simp),h.now]) (fun w hw=> ?_)
    rw [zgs,if_neg (by simp),if_neg (by simp)]
    by_cases e:k=(w:Int)
    ·subst e
     rw [if_pos rfl,Int.toNat_natCast,List.getElem?_set_self (by omega)]
    ·rw [if_neg (by exact e),List.getElem?_set_ne (by omega)]
     exact h.ins w hw
theorem zg7 (h:zej H M n r m) (hb:n+1<=1000) {fu:Nat} (hfu:1000<fu):
  ∃ u,qI fu m.C=some (r.Clock.now+1,u)/\u=⟨m.C.Workers,m.C.Steps++ [⟨3,0⟩]⟩/\zej H M (n+1) (zfY r ⟨r.Clock.now+1,r.Clock.in_⟩) (zj5 m u):=by
 have hcl:=h.cl
 have hr:room (m.C.Steps.length+1) 16=some ():=by unfold Go.Sx.room;rw [if_pos (by omega)]
 have e1:ziH (m.C.Steps++ [⟨3,0⟩])=r.Clock.now+1:=by rw [zcd,if_pos rfl,h.now]
 have hN:=zkZ (fu:=fu) (zj.mk m.C.Workers (m.C.Steps++ [⟨3,0⟩])) (by simp;omega) (by simp;omega)
 simp only [e1] at hN
 refine ⟨_,?_,rfl,zhQ h hb (zkT h.inv hb) e1 (fun w hw=> ?_)⟩
 ·unfold qI
  simp [hr,hN]
 ·rw [zgs,if_pos rfl]
  exact h.ins w hw
end
end Go.Proofs.YtbmknhpfkpmigaaGreatDoor
namespace Go.Proofs.YtbmknhpfkpmigaaGreatDoor
open Go.Sx
section
variable {H M n:Nat} {r:za} {m:zd}
def zd3 (t:zo) (p:Int) (H:Nat):List Int:=((List.range H).filter (fun k=>match t.hooks[k]? with | some x=>decide (x.version>0)&&decide (x.prog=p) | none=>false)).map (fun k=>((k:Nat):Int))
theorem zhR (t:zo) (p:Int) (H:Nat) {x:qW} (hx:t.hooks[H]? =some x):zd3 t p (H+1)=zd3 t p H++(if x.version>0/\x.prog=p then [((H:Nat):Int)] else []):=by
 unfold zd3
 rw [List.range_succ,List.filter_append,List.map_append]
 congr 1
 by_cases h:x.version>0/\x.prog=p
 ·rw [if_pos h];simp [hx,h.1,h.2]
 ·rw [if_neg h]
  have:(decide (x.version>0)&&decide (x.prog=p))=false:=by simpa using h
  simp [hx,this]
theorem ziJ (t:zo) (p:Int) (H:Nat):(zd3 t p H).length<=H:=by
 unfold zd3
 rw [List.length_map]
 have:=List.length_filter_le (fun k=>match t.hooks[k]? with | some x=>decide (x.version>0)&&decide (x.prog=p) | none=>false) (List.range H)
 simpa using this
theorem zpa (h:zej H M n r m) (p:Int):zac r.Table [p]=some (zd3 r.Table p H):=by
 have hs:=h.inv.small
 have hl:=h.inv.hl
 apply OK.is
 unfold zac
 refine OK.bind2 (OK.count (Q:=fun o=>o=zd3 r.Table p H) (fun i s=>s=zd3 r.Table p i) rfl ?_ (fun s hs'=>by rw [hs',hl])) (fun _ q=>OK.ret q)
 rintro i s again hi rfl k
 unfold zcY
 refine OK.bind (OK.getN hi (fun x hx=> ?_))
 have hw:=zhR r.Table p i hx
 have hlen:=ziJ r.Table p i
 have hr:room ((zd3 r.Table p i).length+ [(i:Int)].length) 8=some ():=by unfold Go.Sx.room;rw [if_pos (by simp;omega)]
 by_cases q1:x.version>0
 ·by_cases q2:x.prog=p
  ·rw [if_pos ⟨q1,q2⟩] at hw
   simp only [q1,decide_true,if_true,zaF,q2,zbs,List.mem_singleton,hr]
   exact k _ hw.symm
  ·rw [if_neg (fun q=>q2 q.2),List.append_nil] at hw
   simp only [q1,decide_true,if_true,zaF,q2,zbs,List.mem_singleton,decide_false,zfe,if_false]
   exact k _ hw.symm
 ·rw [if_neg (fun q=>q1 q.1),List.append_nil] at hw
  simp only [q1,decide_false,zfe,if_false,zbs]
  exact k _ hw.symm
theorem znI (h:zej H M n r m) {fu:Nat} (hfu:1000<fu) (p:Int):jW fu m.T [p]=some (zd3 r.Table p H):=by
 have hs:=h.inv.small
 have hl:=h.inv.hl
 have htl:=h.tl
 have hbd:=h.inv.bound
 apply OK.is
 unfold jW
 refine OK.bind2 (OK.rounds (Q:=fun o=>o=zd3 r.Table p H) (fun s=> ∃ i:Nat,i<=H/\s.2=(i:Int)/\s.1=zd3 r.Table p i) (fun s=>((H:Int)-s.2).toNat) ?_ fu _ ⟨0,by omega,rfl,rfl⟩ (by simp;omega)) (fun _ q=>OK.ret q)
 rintro ⟨l,x⟩ again ⟨i,hi,rfl,rfl⟩ k
 unfold zbo
 refine OK.ite (fun hc=> ?_) (fun hc=> ?_)
 ·have hlt:i<H:=by simpa [h.hooks] using hc
  obtain ⟨x,hx,hcu,hv0,hv⟩:=h.cur i hlt
  have hcur:=zja (fu:=fu) m.T i (by omega) (by omega)
  rw [hcu] at hcur
  have hw:=zhR r.Table p i hx
  have hlen:=ziJ r.Table p i
  have hr:room ((zd3 r.Table p i).length+1) 8=some ():=by unfold Go.Sx.room;rw [if_pos (by omega)]
  have hwi:w64 ((i:Int)+1)=((i+1:Nat):Int):=by rw [zH (by omega) (by omega)];omega
  simp only [hcur,zbs,List.length_singleton,zaE]
  rw [zbn,zbM]
  simp only [zfe,if_false,zbs]
  by_cases q1:x.version>0
  ·by_cases q2:x.prog=p
   ·rw [if_pos ⟨q1,q2⟩] at hw
    rw [if_pos (by simp [q1,q2]),hr]
    simp only [zbs,hwi]
    exact k _ ⟨i+1,by omega,rfl,hw.symm⟩ (by simp only;omega)
   ·rw [if_neg (fun q=>q2 q.2),List.append_nil] at hw
    have q3: ¬ p=x.prog:=fun e=>q2 e.symm
    rw [if_neg (by simp [q3])]
    simp only [hwi]
    exact k _ ⟨i+1,by omega,rfl,hw.symm⟩ (by simp only;omega)
  ·rw [if_neg (fun q=>q1 q.1),List.append_nil] at hw
   rw [if_neg (by simp [q1])]
   simp only [hwi]
   exact k _ ⟨i+1,by omega,rfl,hw.symm⟩ (by simp only;omega)
 ·have:i=H:=by simp [h.hooks] at hc;omega
  subst this
  exact OK.ret rfl
theorem zk1 (h:zej H M n r m) (hb:n+1<=1000) {fu:Nat} (hfu:1000<fu) (p:Int):
  zqH H M (n+1) (jM r p) (ja fu m p):=by
 have hm:=h.mono hb
 obtain ⟨s,hs,hcase⟩:=zlH h p
 have hw:=zpa h p
 have hw2:=znI h hfu p
 unfold jM ja
 simp only [hs,zbs,hw,hw2]
 rcases hcase with ⟨y,q1,q2,rfl⟩ | ⟨y,q1,q2,rfl⟩ | ⟨q1,rfl⟩
 ·rw [q1]
  have nz: ¬ y.retiring>0:=by omega
  by_cases hz:0<(zd3 r.Table p H).length
  ·refine ⟨0,42,r,m,?_,?_,hm⟩
   ·simp [nz,hz]
   ·simp [hz]
  ·obtain ⟨u,ha,rfl,hsim⟩:=zg7 h hb hfu
   obtain ⟨hp1,hpg,hg3⟩:=h.inv.prog p y q1
   have hpl:=h.pl
   have hgv:=h.inv.given
   have hbd:=h.inv.bound
   have hwl:=h.inv.wlen
   have hln:=h.inv.len
   have hnw:=h.inv.now
   have hnw1:=h.inv.now1
   have hlt:(p-1).toNat<m.Progs.length:=by omega
   obtain ⟨X,hP⟩: ∃ X,m.Progs[(p-1).toNat]? =some X:=⟨_,zeg hlt⟩
   have hM:=h.prog _ _ hP
   have ep:(((p-1).toNat:Nat):Int)+1=p:=by omega
   rw [ep,q1] at hM
   have hix:idx m.Progs (p-1)=some X:=by
    unfold Go.Sx.idx
    rw [if_pos (by omega)];exact hP
   have hr1:room (r.waiting.length+ [p].length) 8=some ():=by unfold Go.Sx.room;rw [if_pos (by simp;omega)]
   have hr2:room (m.Line.length+ [p].length) 8=some ():=by rw [h.line];exact hr1
   have hr1':room (r.waiting.length+1) 8=some ():=hr1
   have hr2':room (m.Line.length+1) 8=some ():=hr2
   refine ⟨r.Clock.now+1,0,zbv r p y,⟨m.Ms,m.T,⟨m.C.Workers,m.C.Steps++ [⟨3,0⟩]⟩,m.Progs.set (p-1).toNat ⟨X.M,1,r.Clock.now+1⟩,m.Line++ [p]⟩,?_,?_,?_⟩
   ·simp [nz,hz,ziG h.inv,hr1',zbv]
   ·have hwp:w64 (p-1)=p-1:=zH (by omega) (by omega)
    simp [hz,ha,hix,hr2',hwp]
   ·have hi:=zkU h.inv hb q1 q2
    refine {hm with inv:=hi,cl:=hsim.cl,now:=hsim.now,ins:=hsim.ins,wk:=h.wk,pl:=by simp [zbv];exact h.pl,line:=by simp [zbv,h.line],sml:=fun P hP'=> ?_,prog:=fun i P hi'=> ?_}
    rotate_left
    ·rcases List.mem_or_eq_of_mem_set hP' with q | q
     ·exact h.sml P q
     ·subst q;exact h.sml X (zmg hP)
    simp only [zbv]
    rw [zj3]
    rw [List.getElem?_set] at hi'
    by_cases e:(p-1).toNat=i
    ·rw [if_pos e,if_pos hlt] at hi'
     cases hi'
     rw [if_pos ⟨by omega,by rw [q1];rfl⟩]
     exact ⟨hM.1,.inr ⟨rfl,rfl,by simp;omega⟩⟩
    ·rw [if_neg e] at hi'
     rw [if_neg (fun q=>e (by omega))]
     exact h.prog i P hi'
 ·rw [q1]
  refine ⟨0,42,r,m,?_,?_,hm⟩
  ·simp [q2]
  ·simp
 ·rw [q1]
  exact ⟨0,41,r,m,by simp,by simp,hm⟩
end
end Go.Proofs.YtbmknhpfkpmigaaGreatDoor
namespace Go.Proofs.YtbmknhpfkpmigaaGreatDoor
open Go.Sx
section
variable {H M n:Nat} {r:za} {m:zd}
theorem zpb (h:zej H M n r m):r.Clock.in_= [inE m.C.Steps 0,inE m.C.Steps 1]:=by
 have h0:=h.ins 0 (by omega)
 have h1:=h.ins 1 (by omega)
 have hw:=h.inv.wk
 match hq:r.Clock.in_,hw with
 | [a,b],_=>
  rw [hq] at h0 h1
  simp at h0 h1
  rw [h0,h1]
theorem zpc {fu:Nat} (hfu:1000<fu) {c:zj} (hwk:c.Workers=2) (hcl:c.Steps.length<=1000) (e:Int):xi fu c e=some (decide (∀ x∈ [inE c.Steps 0,inE c.Steps 1],x=0\/e<=x)):=by
 obtain ⟨g,rfl⟩: ∃ g,fu=g+3:=⟨fu-3,by omega⟩
 have h0:=zlG (fu:=g+3) c 0 (by omega) hcl
 have h1:=zlG (fu:=g+3) c 1 (by omega) hcl
 have b0:=zgt c.Steps 0
 have b1:=zgt c.Steps 1
 unfold xi
 rw [zE,xu,if_pos (by simp [hwk]),h0]
 simp only [zbs]
 have w1:w64 ((0:Int)+1)=1:=rfl
 have w2:w64 ((1:Int)+1)=2:=rfl
 by_cases q0:inE c.Steps 0>0/\inE c.Steps 0<e
 ·rw [if_pos (by simpa using q0)]
  simp only [zbs,Option.some.injEq]
  symm
  rw [decide_eq_false_iff_not]
  intro hall
  rcases hall _ (zcs) with h | h<;>omega
 ·rw [if_neg (by simpa using q0),w1,zE,xu,if_pos (by simp [hwk]),h1]
  simp only [zbs]
  by_cases q1:inE c.Steps 1>0/\inE c.Steps 1<e
  ·rw [if_pos (by simpa using q1)]
   simp only [zbs,Option.some.injEq]
   symm
   rw [decide_eq_false_iff_not]
   intro hall
   rcases hall (inE c.Steps 1) (by simp) with h | h<;>omega
  ·rw [if_neg (by simpa using q1),w2,zE,xu,if_neg (by simp [hwk])]
   simp only [zbs,Option.some.injEq]
   symm
   rw [zdq]
   intro x hx
   simp only [List.mem_cons,znm,or_false] at hx
   rcases hx with rfl | rfl<;>omega
def zgu (g:List Int) (P:List zm):List zm:=P.mapIdx (fun i p=>if ((i:Int)+1)∈g then ⟨p.M,2,p.Epoch⟩ else p)
theorem zdI (g:List Int) (P:List zm) (i:Nat):(zgu g P)[i]? =P[i]?.map (fun p=>if ((i:Int)+1)∈g then ⟨p.M,2,p.Epoch⟩ else p):=by
 unfold zgu
 rw [List.getElem?_mapIdx]
theorem znJ (g:List Int) (P:List zm):(zgu g P).length=P.length:=by unfold zgu;simp
theorem znK (P:List zm):zgu [] P=P:=by
 apply List.ext_getElem?
 intro i
 rw [zdI]
 cases P[i]? <;>simp
theorem zmn (g:List Int) (P:List zm) (k:Nat) {p:zm} (hp:(zgu g P)[k]? =some p):(zgu g P).set k ⟨p.M,2,p.Epoch⟩=zgu (g++ [(k:Int)+1]) P:=by
 apply List.ext_getElem?
 intro i
 have hlt:k<(zgu g P).length:=(zes.1 hp).1
 rw [List.getElem?_set,zdI,zdI]
 rw [zdI] at hp
 by_cases e:k=i
 ·subst e
  rw [if_pos rfl,if_pos hlt]
  cases hq:P[k]? with
  | none=>rw [hq] at hp;simp at hp
  | some q=>
   rw [hq] at hp
   simp only [Option.map_some,Option.some.injEq] at hp
   simp only [Option.map_some,List.mem_append,List.mem_singleton,or_true,if_true,Option.some.injEq]
   rw [<- hp]
   split<;>rfl
 ·rw [if_neg e]
  cases P[i]? with
  | none=>rfl
  | some q=>
   have: ¬ ((i:Int)+1=(k:Int)+1):=by omega
   simp only [Option.map_some,List.mem_append,List.mem_singleton,this,or_false]
theorem zf0 {l:List Int} (hnd:l.Nodup) {i:Nat} {x:Int} (hx:l[i]? =some x):x ∉ l.take i:=by
 intro hm
 obtain ⟨j,hj,hjx⟩:=List.mem_iff_getElem.1 hm
 rw [List.length_take] at hj
 have hlt:i<l.length:=(zes.1 hx).1
 have h1:l[j]'(by omega)=x:=by rw [List.getElem_take] at hjx;exact hjx
 have h2:l[i]=x:=(zes.1 hx).2
 exact (List.pairwise_iff_getElem.1 hnd) j i (by omega) hlt (by omega) (by rw [h1,h2])
theorem zmo (h:zej H M n r m) {fu:Nat} (hfu:1000<fu) (most:Int):
  qv fu m most=some (zdH r most,⟨m.Ms,m.T,m.C,zgu (zdH r most) m.Progs,r.waiting.filter (fun x=>decide (x ∉ zdH r most))⟩):=by
 have hwl:=h.inv.wlen
 have hln:=h.inv.len
 have hbd:=h.inv.bound
 have hcl:=h.cl
 have hpl:=h.pl
 have hgv:=h.inv.given
 have hil:=zpb h
 apply OK.is
 unfold qv
 refine OK.bind2 (OK.rounds (Q:=fun o=>o=((⟨m.Ms,m.T,m.C,zgu (zdH r most) m.Progs,r.waiting⟩:zd),zdH r most,r.waiting.filter (fun x=>decide (x ∉ zdH r most))))
  (fun s=> ∃ i:Nat,i<=r.waiting.length/\s.2.2.2=(i:Int)/\s.2.1=zbl (zb5 r) most (r.waiting.take i)/\s.1=⟨m.Ms,m.T,m.C,zgu (zbl (zb5 r) most (r.waiting.take i)) m.Progs,r.waiting⟩/\s.2.2.1=(r.waiting.take i).filter (fun x=>decide (x ∉ zbl (zb5 r) most (r.waiting.take i))))
  (fun s=>((r.waiting.length:Int)-s.2.2.2).toNat) ?_ fu _ ⟨0,by omega,rfl,rfl,by simp [zbl,znK,<- h.line],rfl⟩ (by simp;omega)) (fun o q=>by subst q;exact OK.ret rfl)
 rintro ⟨a,g,l,x⟩ again ⟨i,hi,rfl,rfl,rfl,rfl⟩ k
 unfold zao
 refine OK.ite (fun hc=> ?_) (fun hc=> ?_)
 ·have hlt:i<r.waiting.length:=by simpa using hc
  have hwi:w64 ((i:Int)+1)=((i+1:Nat):Int):=by rw [zH (by omega) (by omega)];omega
  refine OK.bind (OK.getN hlt (fun y hy=> ?_))
  have ht:=zdl hy
  have hmem:y∈r.waiting:=zmg hy
  obtain ⟨z,hz,hz0⟩:=(h.inv.wait y).1 hmem
  obtain ⟨hy1,hyg,_⟩:=h.inv.prog y z hz
  have hylt:(y-1).toNat<m.Progs.length:=by omega
  obtain ⟨X,hX⟩: ∃ X,m.Progs[(y-1).toNat]? =some X:=⟨_,zeg hylt⟩
  have ey:(((y-1).toNat:Nat):Int)+1=y:=by omega
  have hM:=h.prog _ _ hX
  rw [ey,hz] at hM
  have hEp:z.retiring=X.Epoch:=by
   rcases hM.2 with ⟨_,q⟩ | ⟨_,q,_⟩
   ·omega
   ·exact q
  have hnot:y ∉ zbl (zb5 r) most (r.waiting.take i):=fun q=>zf0 h.inv.wnd hy ((zgr _ _ _).subset q)
  have hgX:(zgu (zbl (zb5 r) most (r.waiting.take i)) m.Progs)[(y-1).toNat]? =some X:=by
   rw [zdI,hX]
   simp only [Option.map_some,ey,hnot,if_false]
  have hwy:w64 (y-1)=y-1:=zH (by omega) (by omega)
  have hix:idx (zgu (zbl (zb5 r) most (r.waiting.take i)) m.Progs) (w64 (y-1))=some X:=by
   rw [hwy]
   unfold Go.Sx.idx
   rw [if_pos (by omega)];exact hgX
  have hsafe:=zpc hfu (c:=m.C) h.wk (by omega) X.Epoch
  rw [<- hil] at hsafe
  have hsP:zb5 r y=decide (∀ x∈r.Clock.in_,x=0\/X.Epoch<=x):=by
   unfold zb5
   rw [hz]
   simp only [hEp]
  simp only [hix,zbs,hsafe]
  rw [<- hsP]
  have hsn:=zfv (zb5 r) y (r.waiting.take i) most
  rw [<- ht] at hsn
  have hlen:(zbl (zb5 r) most (r.waiting.take i)).length<=16:=by
   have:=(zgr (zb5 r) (r.waiting.take i) most).length_le
   simp at this;omega
  by_cases q:((zbl (zb5 r) most (r.waiting.take i)).length:Int)<most/\zb5 r y=true
  ·rw [if_pos q] at hsn
   rw [if_pos (by simp [q.1,q.2])]
   have hr:room ((zbl (zb5 r) most (r.waiting.take i)).length+ [y].length) 8=some ():=by unfold Go.Sx.room;rw [if_pos (by simp;omega)]
   rw [hr]
   simp only [zbs,hwi]
   apply k
   rotate_left
   ·simp only;omega
   refine ⟨i+1,by omega,rfl,hsn.symm,?_,?_⟩
   ·rw [hsn,hwy,zmn _ _ _ hgX,ey]
   ·rw [hsn,ht,List.filter_append]
    have e1:([y]:List Int).filter (fun x=>decide (x ∉ zbl (zb5 r) most (r.waiting.take i)++ [y]))= []:=by simp
    rw [e1,List.append_nil]
    apply List.filter_congr
    intro x hx
    have hne: ¬ x=y:=fun e=>zf0 h.inv.wnd hy (e ▸ hx)
    simp [hne]
  ·rw [if_neg q,List.append_nil] at hsn
   rw [if_neg (by simp only [zae,zdq];exact fun z=>q ⟨z.2,z.1⟩)]
   have hlf:((r.waiting.take i).filter (fun x=>decide (x ∉ zbl (zb5 r) most (r.waiting.take i)))).length<=16:=by
    have:=List.length_filter_le (fun x=>decide (x ∉ zbl (zb5 r) most (r.waiting.take i))) (r.waiting.take i)
    rw [List.length_take] at this;omega
   have hr:room (((r.waiting.take i).filter (fun x=>decide (x ∉ zbl (zb5 r) most (r.waiting.take i)))).length+ [y].length) 8=some ():=by unfold Go.Sx.room;rw [if_pos (by simp only [List.length_singleton];omega)]
   rw [hr]
   simp only [zbs,hwi]
   apply k
   rotate_left
   ·simp only;omega
   refine ⟨i+1,by omega,rfl,hsn.symm,by rw [hsn],?_⟩
   rw [hsn,ht,List.filter_append]
   congr 1
   simp [hnot]
 ·have:i=r.waiting.length:=by simp at hc;omega
  subst this
  refine OK.ret ?_
  rw [List.take_length]
  rfl
theorem zk2 (h:zej H M n r m) (hb:n+1<=1000) {fu:Nat} (hfu:1000<fu) (most:Int):
  ∃ g r' m',zL fu r most=some (g,r')/\qv fu m most=some (g,m')/\zej H M (n+1) r' m':=by
 have hm:=h.mono hb
 refine ⟨_,_,_,(zdK (show 1000<=fu by omega) r most).h _ (znE h.inv most),zmo h hfu most,?_⟩
 refine {hm with inv:=zkV h.inv hb most,pl:=by rw [show (zfb r (zdH r most)).given=r.given from rfl];simp only [znJ];exact h.pl,line:=rfl,sml:=fun P hP=> ?_,prog:=fun i P hi=> ?_}
 rotate_left
 ·obtain ⟨i,hi⟩:=List.getElem?_of_mem hP
  simp only at hi
  rw [zdI] at hi
  cases hq:m.Progs[i]? with
  | none=>rw [hq] at hi;cases hi
  | some Q=>
   rw [hq] at hi
   simp only [Option.map_some,Option.some.injEq] at hi
   have:=h.sml Q (zmg hq)
   subst hi
   split<;>exact this
 simp only at hi
 rw [zdI] at hi
 rw [zfZ h.inv]
 cases hq:m.Progs[i]? with
 | none=>rw [hq] at hi;cases hi
 | some Q=>
  rw [hq] at hi
  simp only [Option.map_some,Option.some.injEq] at hi
  by_cases e:((i:Int)+1)∈zdH r most
  ·rw [if_pos e] at hi |-
   subst hi
   rfl
  ·rw [if_neg e] at hi |-
   subst hi
   exact h.prog i Q hq
end
end Go.Proofs.YtbmknhpfkpmigaaGreatDoor
namespace Go.Proofs.YtbmknhpfkpmigaaGreatDoor
open Go.Sx
section
variable {H M n:Nat} {r:za} {m:zd}
def zmp (r:za) (Q:zr->Bool) (i:Nat):Bool:=match qO r.progs ((i:Int)+1) with
 | some x=>Q x
 | none=>false
def zhS (r:za) (Q:zr->Bool) (k:Nat):List Int:=((List.range k).filter (zmp r Q)).map (fun (i:Nat)=>((i:Int)+1))
theorem zhT (r:za) (Q:zr->Bool) (k:Nat):zhS r Q (k+1)=zhS r Q k++(if zmp r Q k=true then [(k:Int)+1] else []):=by
 unfold zhS
 rw [List.range_succ,List.filter_append,List.map_append]
 congr 1
 by_cases h:zmp r Q k=true
 ·rw [if_pos h];simp [h]
 ·rw [if_neg h];simp [h]
theorem zjb (r:za) (Q:zr->Bool) (k:Nat):(zhS r Q k).length<=k:=by
 unfold zhS
 rw [List.length_map]
 have:=List.length_filter_le (zmp r Q) (List.range k)
 rw [List.length_range] at this
 exact this
theorem zpd (r:za) (Q:zr->Bool) (k:Nat) (a:Int):a∈zhS r Q k↔ ∃ i:Nat,i<k/\a=(i:Int)+1/\zmp r Q i=true:=by
 unfold zhS
 simp only [List.mem_map,List.mem_filter,List.mem_range]
 constructor
 ·rintro ⟨i,⟨h1,h2⟩,rfl⟩;exact ⟨i,h1,rfl,h2⟩
 ·rintro ⟨i,h1,rfl,h2⟩;exact ⟨i,⟨h1,h2⟩,rfl⟩
theorem zhU (r:za) (Q:zr->Bool) (k:Nat):(zhS r Q k).Pairwise (fun x y=>x<y):=by
 unfold zhS
 rw [List.pairwise_map]
 refine (List.Pairwise.filter _ (List.pairwise_lt_range (n:=k))).imp ?_
 intro a b hab
 omega
theorem ziK (r:za) (Q:zr->Bool) (k:Nat):(zhS r Q k).Nodup:=(zhU r Q k).imp (fun h=>by omega)
theorem zjc (h:zej H M n r m) (Q:zr->Bool):((r.progs.filter (fun e=>Q e.2)).map (·.1)).Perm (zhS r Q m.Progs.length):=by
 have hpl:=h.pl
 refine (List.perm_ext_iff_of_nodup ?_ (ziK _ _ _)).2 (fun a=> ?_)
 ·exact h.inv.keys.sublist (List.filter_sublist.map _)
 ·rw [zpd]
  simp only [List.mem_map,List.mem_filter]
  constructor
  ·rintro ⟨e,⟨he,hq⟩,rfl⟩
   have hg:=zo6 h.inv.keys he
   obtain ⟨h1,h2,_⟩:=h.inv.prog _ _ hg
   refine ⟨(e.1-1).toNat,by omega,by omega,?_⟩
   unfold zmp
   rw [show (((e.1-1).toNat:Nat):Int)+1=e.1 by omega,hg]
   exact hq
  ·rintro ⟨i,hi,rfl,hs⟩
   unfold zmp at hs
   cases hg:qO r.progs ((i:Int)+1) with
   | none=>rw [hg] at hs;cases hs
   | some x=>
    rw [hg] at hs
    exact ⟨((i:Int)+1,x),⟨zlE hg,hs⟩,rfl⟩
theorem zk3 (h:zej H M n r m) {i:Nat} {P:zm} (hP:m.Progs[i]? =some P):zmp r (fun _=>true) i=decide (P.State<2):=by
 have hM:=h.prog i P hP
 unfold zmp
 cases hg:qO r.progs ((i:Int)+1) with
 | none=>rw [hg] at hM;simp [show P.State=2 from hM]
 | some x=>
  rw [hg] at hM
  rcases hM.2 with ⟨q,_⟩ | ⟨q,_⟩<;>simp [q]
theorem zmq (h:zej H M n r m) {i:Nat} {P:zm} (hP:m.Progs[i]? =some P):zmp r (fun x=>x.retiring==0) i=(P.State==0):=by
 have hM:=h.prog i P hP
 unfold zmp
 cases hg:qO r.progs ((i:Int)+1) with
 | none=>rw [hg] at hM;simp [show P.State=2 from hM]
 | some x=>
  rw [hg] at hM
  rcases hM.2 with ⟨q,z⟩ | ⟨q,_,z⟩
  ·simp [q,z]
  ·have: ¬ x.retiring=0:=by omega
   simp [q,this]
theorem state_holds (h:zej H M n r m) {i:Nat} {P:zm} (hP:m.Progs[i]? =some P) (k:Int):zmp r (fun x=>decide (k∈x.mo.Ms)) i=(decide (P.State<2)&&decide (k∈P.M.Ms)):=by
 have hM:=h.prog i P hP
 unfold zmp
 cases hg:qO r.progs ((i:Int)+1) with
 | none=>rw [hg] at hM;simp [show P.State=2 from hM]
 | some x=>
  rw [hg] at hM
  rcases hM.2 with ⟨q,_⟩ | ⟨q,_⟩<;>simp [q,hM.1]
theorem znL (h:zej H M n r m):(zhS r (fun _=>true) m.Progs.length).length=r.progs.length:=by
 have:=(zjc h (fun _=>true)).length_eq
 rw [<- this]
 simp
theorem zmr (h:zej H M n r m) {fu:Nat} (hfu:1000<fu):loop (jP m) fu (0,0)=some (r.progs.length:Int):=by
 have hpl:=h.pl
 have hgv:=h.inv.given
 have hbd:=h.inv.bound
 apply OK.is
 refine OK.rounds (Q:=fun o=>o=(r.progs.length:Int)) (fun s=> ∃ i:Nat,i<=m.Progs.length/\s.2=(i:Int)/\s.1=((zhS r (fun _=>true) i).length:Int)) (fun s=>((m.Progs.length:Int)-s.2).toNat) ?_ fu _ ⟨0,by omega,rfl,rfl⟩ (by simp;omega)
 rintro ⟨a,x⟩ again ⟨i,hi,rfl,rfl⟩ k
 unfold jP
 refine OK.ite (fun hc=> ?_) (fun hc=> ?_)
 ·have hlt:i<m.Progs.length:=by simpa using hc
  have hwi:w64 ((i:Int)+1)=((i+1:Nat):Int):=by rw [zH (by omega) (by omega)];omega
  refine OK.bind (OK.getN hlt (fun P hP=> ?_))
  have hs:=zhT r (fun _=>true) i
  rw [zk3 h hP] at hs
  have hlen:=zjb r (fun _=>true) i
  simp only [hwi]
  refine OK.ite (fun q=> ?_) (fun q=> ?_)
  ·rw [if_pos q] at hs
   rw [zH (by omega) (by omega)]
   exact k _ ⟨i+1,by omega,rfl,by rw [hs];simp⟩ (by simp only;omega)
  ·rw [if_neg (by rw [q];decide),List.append_nil] at hs
   exact k _ ⟨i+1,by omega,rfl,by rw [hs]⟩ (by simp only;omega)
 ·have:i=m.Progs.length:=by simp at hc;omega
  subst this
  exact OK.ret (by rw [znL h])
theorem znM (m:zd) (d:zg×Int×Int):OK (qf (jO m d) (fun (s:Unit)=>(.inl ())) d.1.Ms.length 0 ()) (fun o=>match o with | .inl _=> ∀ x∈d.1.Ms,x<m.Ms | .inr q=>q=(0,41,m)/\ ¬ ∀ x∈d.1.Ms,x<m.Ms):=by
 refine OK.count (fun i _=> ∀ x∈d.1.Ms.take i,x<m.Ms) (by simp) ?_ ?_
 ·intro i s again hi hI k
  unfold jO
  refine OK.bind (OK.getN hi (fun x hx=>OK.ite (fun hc=>OK.ret ⟨rfl,fun q=> ?_⟩) (fun hc=>k _ ?_)))
  ·have:=q x (zmg hx)
   simp at hc;omega
  ·intro y hy
   rw [zdl hx] at hy
   rcases List.mem_append.1 hy with q | q
   ·exact hI y q
   ·simp at q;subst q;simp at hc;omega
 ·intro s hI
  rw [List.take_length] at hI
  exact hI
theorem znN (h:zej H M n r m) (hb:n+1<=1000) {fu:Nat} (hfu:1000<fu) {b:List Int} (hB: ∀ x∈b,zfq x) (hl:b.length<=140737488355328):
    zqH H M (n+1) (zM fu r b) (qH fu m b):=by
  have hm:=h.mono hb
  obtain ⟨mm,p,q,e,hd1,hd2⟩:=zjJ hB hl (fu:=fu) (by omega)
  obtain ⟨v,hv,hok⟩:=zmh r.maps hl
  have hmr:=h.inv.maps
  have hok':v.2=0->zhJ v.1.Ms/\(∀ x∈v.1.Ms,x<(M:Int))/\v.1.Co.length<=64:=fun z=>by rw [<- hmr];exact hok z
  have hL:=(zbC (show 1000<=fu by omega) r b).h _ (zqE h.inv hv hok)
  have hpl:=h.pl
  have hgv:=h.inv.given
  have hbd:=h.inv.bound
  unfold zhL at hv
  rw [hd1] at hv
  simp only [zbs] at hv
  have hR:qH fu m b=if (e != 0) then some (0,e,m) else (xz fu mm).bind fun r80=>if (r80.2.2 != 0) then some (0,r80.2.2,m) else (qf (jO m (mm,q,e)) (fun (s287:Unit)=>(.inl ())) (mm.Ms).length 0 ()).bind fun o207=>match o207 with
        | .inl t209 =>
          (loop (jP m) fu (0,0)).bind fun o542=>
          if decide (o542>=16) then
            some (0,40,m)
          else
            (room (m.Progs.length+([(zm.mk mm 0 0)]).length) 64).bind fun u796=>
            some ((((m.Progs++ [(zm.mk mm 0 0)])).length:Int),0,(zd.mk m.Ms m.T m.C (m.Progs++ [(zm.mk mm 0 0)]) m.Line))
        | .inr r=>some r:=by
    unfold qH
    rw [hd2]
    rfl
  by_cases he:e=0
  · subst he
    rw [if_neg (by simp)] at hv
    obtain ⟨kn,jp,je,hj1,hj2⟩:=zmX (fu:=fu) (by omega) mm
    rw [hj1] at hv
    simp only [zbs] at hv
    rw [if_neg (by simp),hj2] at hR
    simp only [zbs] at hR
    by_cases hje:je=0
    · subst hje
      rw [if_neg (by simp)] at hv hR
      cases hv
      obtain ⟨o,ho,hoc⟩:=znM m (mm,q,0)
      simp only at ho
      rw [ho] at hR
      simp only [zbs] at hR
      have hmm:=h.maps
      cases o with
      | inr z =>
        obtain ⟨rfl,hz⟩:=hoc
        have ha:mm.Ms.any (fun x=>decide (r.maps<=x))=true:=by
          apply Classical.byContradiction
          intro hn
          apply hz
          intro x hx
          apply Classical.byContradiction
          intro hlt
          exact hn (List.any_eq_true.2 ⟨x,hx,by simp only [zdq];rw [hmr];rw [hmm] at hlt;omega⟩)
        simp only [ha,if_true] at hL
        exact ⟨0,41,r,m,by rw [hL];rfl,hR,hm⟩
      | inl z =>
        simp only at hoc
        have ha:mm.Ms.any (fun x=>decide (r.maps<=x))=false:=by
          rw [Bool.eq_false_iff]
          intro hn
          obtain ⟨x,hx,hle⟩:=List.any_eq_true.1 hn
          have:=hoc x hx
          simp only [zdq] at hle
          omega
        simp only [ha,zfe,if_false] at hL hok'
        simp only at hR
        rw [zmr h hfu] at hR
        simp only [zbs] at hR
        by_cases hf:16<=r.progs.length
        · rw [if_neg (by simp), if_pos hf] at hL
          rw [if_pos (by simp;omega)] at hR
          exact ⟨0,40,r,m,hL,hR,hm⟩
        · rw [if_neg (by simp), if_neg hf] at hL
          rw [if_neg (by simp;omega)] at hR
          have hr:room (m.Progs.length+ [(⟨mm,0,0⟩:zm)].length) 64=some ():=by unfold Go.Sx.room;rw [if_pos (by simp;omega)]
          rw [hr] at hR
          simp only [zbs] at hR
          have hlen:(((m.Progs++ [(⟨mm,0,0⟩:zm)])).length:Int)=r.given+1:=by simp;omega
          rw [hlen] at hR
          have hi:=znx h.inv hb hf (hok' trivial)
          have hfr:=zhM h.inv
          refine ⟨r.given+1,0,_,_,hL,hR,?_⟩
          refine {hm with inv:=hi,pl:=by simp only [hlen];rfl,line:=h.line,sml:=fun P hP=> ?_,prog:=fun i P hP=> ?_}
          rotate_left
          · rcases List.mem_append.1 hP with q | q
            · exact h.sml P q
            · simp at q;subst q;exact (hok' trivial).1.2.2
          simp only [zgq]
          rw [zhK]
          rw [List.getElem?_append] at hP
          by_cases hlt:i<m.Progs.length
          · rw [if_pos hlt] at hP
            rw [if_neg (by omega)]
            exact h.prog i P hP
          · rw [if_neg hlt] at hP
            have hi0:i=m.Progs.length:=by
              have:=(zes.1 hP).1
              simp at this;omega
            subst hi0
            simp at hP
            subst hP
            rw [if_pos (by omega)]
            exact ⟨rfl,.inl ⟨rfl,rfl⟩⟩
    · rw [if_pos (by simpa using hje)] at hv hR
      cases hv
      simp only [ne_eq,hje,not_false_eq_true,if_true] at hL
      exact ⟨0,je,r,m,hL,hR,hm⟩
  · rw [if_pos (by simpa using he)] at hv hR
    cases hv
    simp only [ne_eq,he,not_false_eq_true,if_true] at hL
    exact ⟨0,e,r,m,hL,hR,hm⟩
end
end Go.Proofs.YtbmknhpfkpmigaaGreatDoor
namespace Go.Proofs.YtbmknhpfkpmigaaGreatDoor
open Go.Sx
theorem zhV (a:List Int):xM a a=some true:=by
 unfold xM
 rw [if_neg (by simp)]
 refine OK.is (OK.bind2 (OK.count (Q:=fun o=> ∃ u,o= .inl u) (fun _ _=>True) trivial (fun i s again hi _ k=> ?_) (fun s _=>⟨s,rfl⟩)) (fun o ho=>by obtain ⟨u,rfl⟩:=ho;exact OK.ret rfl))
 unfold zdA
 obtain ⟨x,hx⟩: ∃ x,a[i]? =some x:=⟨_,zeg hi⟩
 rw [zdG hx]
 simp only [zbs,bne_self_eq_false,zfe,if_false]
 exact k _ trivial
theorem zj6 (m:zg):xO m m=some true:=by
 unfold xO
 rw [if_neg (by simp)]
 refine OK.is (OK.bind2 (OK.count (Q:=fun o=> ∃ u,o= .inl u) (fun _ _=>True) trivial (fun i s again hi _ k=> ?_) (fun s _=>⟨(),rfl⟩)) (fun o ho=> ?_))
 ·unfold zdB
  obtain ⟨x,hx,_⟩:=zkS (l:=m.Ms) (t:=(i:Int)) (by omega) (by omega)
  simp only [hx,zbs,bne_self_eq_false,zfe,if_false]
  exact k _ trivial
 ·obtain ⟨u,rfl⟩:=ho
  refine OK.bind2 (OK.count (Q:=fun o=> ∃ u,o= .inl u) (fun _ _=>True) trivial (fun i s again hi _ k=> ?_) (fun s _=>⟨(),rfl⟩)) (fun o ho=> ?_)
  ·unfold zdC
   obtain ⟨x,hx,_⟩:=zkS (l:=m.Co) (t:=(i:Int)) (by omega) (by omega)
   simp only [hx,zbs,beq_self_eq_true,Bool.and_self,Bool.not_true,zfe,if_false]
   exact k _ trivial
  ·obtain ⟨u,rfl⟩:=ho
   exact OK.ret rfl
section
variable {H M n:Nat} {r:za} {m:zd}
theorem zpe (h:zej H M n r m) {fu:Nat} (hfu:1002<fu):jw fu m=some (zhS r (fun x=>x.retiring==0) m.Progs.length):=by
 have hpl:=h.pl
 have hgv:=h.inv.given
 have hbd:=h.inv.bound
 apply OK.is
 unfold jw
 refine OK.bind2 (OK.rounds (Q:=fun o=>o=zhS r (fun x=>x.retiring==0) m.Progs.length) (fun s=> ∃ i:Nat,i<=m.Progs.length/\s.2=(i:Int)/\s.1=zhS r (fun x=>x.retiring==0) i) (fun s=>((m.Progs.length:Int)-s.2).toNat) ?_ fu _ ⟨0,by omega,rfl,rfl⟩ (by simp;omega)) (fun _ q=>OK.ret q)
 rintro ⟨a,x⟩ again ⟨i,hi,rfl,rfl⟩ k
 unfold zaZ
 refine OK.ite (fun hc=> ?_) (fun hc=> ?_)
 ·have hlt:i<m.Progs.length:=by simpa using hc
  have hwi:w64 ((i:Int)+1)=((i+1:Nat):Int):=by rw [zH (by omega) (by omega)];omega
  refine OK.bind (OK.getN hlt (fun P hP=> ?_))
  have hs:=zhT r (fun x=>x.retiring==0) i
  rw [zmq h hP] at hs
  have hlen:=zjb r (fun x=>x.retiring==0) i
  simp only [hwi]
  refine OK.ite (fun q=> ?_) (fun q=> ?_)
  ·rw [if_pos q] at hs
   have hr:room ((zhS r (fun x=>x.retiring==0) i).length+ [((i+1:Nat):Int)].length) 8=some ():=by unfold Go.Sx.room;rw [if_pos (by simp only [List.length_singleton];omega)]
   rw [hr]
   simp only [zbs]
   exact k _ ⟨i+1,by omega,rfl,by rw [hs];simp⟩ (by simp only;omega)
  ·rw [if_neg (by rw [q];decide),List.append_nil] at hs
   exact k _ ⟨i+1,by omega,rfl,by rw [hs]⟩ (by simp only;omega)
 ·have:i=m.Progs.length:=by simp at hc;omega
  subst this
  exact OK.ret rfl
theorem znO (h:zej H M n r m):qP r=some (zhS r (fun x=>x.retiring==0) m.Progs.length):=by
 rw [zqG h.inv,znF (zkW h.inv) (ziK _ _ _) ((zhU _ _ _).imp (fun q=>by omega)) (fun a=>(zjc h (fun x=>x.retiring==0)).mem_iff)]
theorem zpf (h:zej H M n r m) {fu:Nat} (hfu:1002<fu) (k:Int) (s:Int×Int) {i:Nat} {P:zm} (hs2:s.2=(i:Int)) (hP:m.Progs[i]? =some P) (hnd:P.State<2->P.M.Ms.Nodup/\P.M.Ms.length<=4) (hany:P.M.Ms.length<=1000) {a:Int} (ha:0<=a) (ha2:a<=1000000):
  loop (xN m k s) fu (a,0)=some (a+if P.State<2/\k∈P.M.Ms then 1 else 0):=by
 apply OK.is
 refine OK.rounds (Q:=fun o=>o=a+if P.State<2/\k∈P.M.Ms then 1 else 0) (fun t=> ∃ j:Nat,j<=P.M.Ms.length/\t.2=(j:Int)/\t.1=a+if P.State<2/\k∈P.M.Ms.take j then 1 else 0) (fun t=>((P.M.Ms.length:Int)-t.2).toNat) ?_ fu _ ⟨0,by omega,rfl,by simp⟩ (by simp;omega)
 rintro ⟨x,y⟩ again ⟨j,hj,rfl,rfl⟩ kk
 unfold xN
 simp only [hs2]
 rw [zdG hP]
 simp only [zbs]
 refine OK.ite (fun hc=> ?_) (fun hc=> ?_)
 ·have hlt:j<P.M.Ms.length:=by simpa using hc
  have hwi:w64 ((j:Int)+1)=((j+1:Nat):Int):=by rw [zH (by omega) (by omega)];omega
  obtain ⟨z,hz⟩: ∃ z,P.M.Ms[j]? =some z:=⟨_,zeg hlt⟩
  have ht:=zdl hz
  simp only [hwi]
  by_cases q:P.State<2
  ·obtain ⟨hn,h4⟩:=hnd q
   rw [if_pos (by simpa using q),zdG hz]
   simp only [zbs]
   by_cases e:z=k
   ·subst e
    have hnot:z ∉ P.M.Ms.take j:=zf0 hn hz
    rw [if_pos (by simp),if_neg (fun w=>hnot w.2),zH (by omega) (by omega)]
    exact kk _ ⟨j+1,by omega,rfl,by rw [ht,if_pos ⟨q,by simp⟩];omega⟩ (by simp only;omega)
   ·rw [if_neg (by simpa using e)]
    refine kk _ ⟨j+1,by omega,rfl,?_⟩ (by simp only;omega)
    rw [ht]
    have:(k∈P.M.Ms.take j++ [z])=(k∈P.M.Ms.take j):=by simp [show ¬ k=z from fun w=>e w.symm]
    simp only [this]
  ·rw [if_neg (by simpa using q)]
   simp only [zbs,zfe,if_false]
   exact kk _ ⟨j+1,by omega,rfl,by rw [if_neg (fun w=>q w.1),if_neg (fun w=>q w.1)]⟩ (by simp only;omega)
 ·have:j=P.M.Ms.length:=by simp at hc;omega
  subst this
  exact OK.ret (by rw [List.take_length])
end
section
variable {H M n:Nat} {r:za} {m:zd}
theorem znP (h:zej H M n r m) {fu:Nat} (hfu:1002<fu) (k:Int):jk fu m k=some ((holds k r.Refs.held).length:Int):=by
 have hpl:=h.pl
 have hgv:=h.inv.given
 have hbd:=h.inv.bound
 have hfin:(holds k r.Refs.held).length=(zhS r (fun x=>decide (k∈x.mo.Ms)) m.Progs.length).length:=by
  rw [<- (zjc h (fun x=>decide (k∈x.mo.Ms))).length_eq]
  unfold holds
  rw [h.inv.held,List.length_map,List.length_map,List.filter_map,List.length_map]
  rfl
 rw [hfin]
 apply OK.is
 unfold jk
 refine OK.bind2 (OK.rounds (Q:=fun o=>o=((zhS r (fun x=>decide (k∈x.mo.Ms)) m.Progs.length).length:Int)) (fun s=> ∃ i:Nat,i<=m.Progs.length/\s.2=(i:Int)/\s.1=((zhS r (fun x=>decide (k∈x.mo.Ms)) i).length:Int)) (fun s=>((m.Progs.length:Int)-s.2).toNat) ?_ fu _ ⟨0,by omega,rfl,rfl⟩ (by simp;omega)) (fun _ q=>OK.ret q)
 rintro ⟨a,x⟩ again ⟨i,hi,rfl,rfl⟩ kk
 unfold zaN
 refine OK.ite (fun hc=> ?_) (fun hc=> ?_)
 ·have hlt:i<m.Progs.length:=by simpa using hc
  have hwi:w64 ((i:Int)+1)=((i+1:Nat):Int):=by rw [zH (by omega) (by omega)];omega
  obtain ⟨P,hP⟩: ∃ P,m.Progs[i]? =some P:=⟨_,zeg hlt⟩
  have hM:=h.prog i P hP
  have hlen:=zjb r (fun x=>decide (k∈x.mo.Ms)) i
  have h4:=h.sml P (zmg hP)
  have hnd:P.State<2->P.M.Ms.Nodup/\P.M.Ms.length<=4:=by
   intro q
   refine ⟨?_,h4⟩
   cases hg:qO r.progs ((i:Int)+1) with
   | none=>rw [hg] at hM;have:P.State=2:=hM;omega
   | some x=>
    rw [hg] at hM
    have:=(h.inv.prog _ x hg).2.2.1
    rw [hM.1] at this
    exact this.2.1
  have hl:=zpf h hfu k (((zhS r (fun x=>decide (k∈x.mo.Ms)) i).length:Int),(i:Int)) rfl hP hnd (by omega) (a:=((zhS r (fun x=>decide (k∈x.mo.Ms)) i).length:Int)) (by omega) (by omega)
  simp only [hl,zbs,hwi]
  have hs:=zhT r (fun x=>decide (k∈x.mo.Ms)) i
  rw [state_holds h hP] at hs
  refine kk _ ⟨i+1,by omega,rfl,?_⟩ (by simp only;omega)
  rw [hs,List.length_append]
  by_cases q:P.State<2/\k∈P.M.Ms
  ·rw [if_pos q,if_pos (by simp [q.1,q.2])];simp
  ·rw [if_neg q,if_neg (by simpa using q)];simp
 ·have:i=m.Progs.length:=by simp at hc;omega
  subst this
  exact OK.ret rfl
theorem zms (h:zej H M n r m) {fu:Nat} (hfu:1002<fu):zah fu r m=some true:=by
 have hs:=h.inv.small
 have hbd:=h.inv.bound
 have hpl:=h.pl
 have hgv:=h.inv.given
 apply OK.is
 unfold zah
 rw [znO h,zpe h hfu]
 simp only [zbs,zhV]
 rw [if_neg (by simp),zkX h.inv,h.line]
 simp only [zbs,zhV]
 rw [if_neg (by simp),zkZ m.C (by have:=h.cl;omega) (by have:=h.cl;omega)]
 unfold xl zca
 simp only [zbs,h.last,h.now,bne_self_eq_false,zfe,if_false]
 refine OK.bind2 (OK.rounds (Q:=fun o=> ∃ u,o= .inl u) (fun s=> ∃ i:Nat,i<=M/\s=(i:Int)) (fun s=>((M:Int)-s).toNat) ?_ fu _ ⟨0,by omega,rfl⟩ (by simp;omega)) (fun o ho=> ?_)
 ·rintro s again ⟨i,hi,rfl⟩ k
  unfold zc2
  refine OK.ite (fun hc=> ?_) (fun hc=>OK.ret ⟨(),rfl⟩)
  have hlt:i<M:=by simpa [h.maps] using hc
  have hlen:=h.inv.len
  have hheld:r.Refs.held.length*8<=140737488355328:=by rw [h.inv.held];simp;omega
  rw [zo0 r.Refs i hheld (by omega) (by rw [h.inv.rmaps];omega),znP h hfu]
  simp only [zbs,bne_self_eq_false,zfe,if_false]
  have hwi:w64 ((i:Int)+1)=((i+1:Nat):Int):=by rw [zH (by omega) (by omega)];omega
  rw [hwi]
  exact k _ ⟨i+1,by omega,rfl⟩ (by omega)
 obtain ⟨u,rfl⟩:=ho
 refine OK.bind2 (OK.rounds (Q:=fun o=> ∃ u,o= .inl u) (fun s=> ∃ i:Nat,i<=H/\s=(i:Int)) (fun s=>((H:Int)-s).toNat) ?_ fu _ ⟨0,by omega,rfl⟩ (by simp;omega)) (fun o ho=> ?_)
 ·rintro s again ⟨i,hi,rfl⟩ k
  unfold zc3
  refine OK.ite (fun hc=> ?_) (fun hc=>OK.ret ⟨(),rfl⟩)
  have hlt:i<H:=by simpa [h.hooks] using hc
  obtain ⟨x,hx,hcu,hv0,hv⟩:=h.cur i hlt
  have htl:=h.tl
  have hcur:=zja (fu:=fu) m.T i (by omega) (by omega)
  rw [hcu] at hcur
  have hP:vn r.Table (i:Int)=some (x.version,x.prog,decide (x.version>0)):=by
   unfold vn zY qr
   rw [zdG hx]
   have hkn:(decide ((i:Int)>=0)&&decide ((i:Int)<(r.Table.hooks.length:Int)))=true:=by simp [h.inv.hl];omega
   simp only [zbs,hkn,Bool.not_true,zfe,if_false]
   by_cases q:x.version>0
   ·simp [q]
   ·have e0:x.version=0:=by omega
    simp [e0,hv e0]
  rw [hP,hcur]
  simp only [zbs,bne_self_eq_false,beq_self_eq_true,Bool.not_true,Bool.or_self,zfe,if_false]
  have hwi:w64 ((i:Int)+1)=((i+1:Nat):Int):=by rw [zH (by omega) (by omega)];omega
  rw [hwi]
  exact k _ ⟨i+1,by omega,rfl⟩ (by omega)
 obtain ⟨u,rfl⟩:=ho
 refine OK.bind2 (OK.rounds (Q:=fun o=> ∃ u,o= .inl u) (fun s=> ∃ i:Nat,i<=12/\s=(i:Int)) (fun s=>((12:Int)-s).toNat) ?_ fu _ ⟨0,by omega,rfl⟩ (by simp;omega)) (fun o ho=> ?_)
 ·rintro s again ⟨i,hi,rfl⟩ k
  unfold zc4
  refine OK.ite (fun hc=> ?_) (fun hc=>OK.ret ⟨(),rfl⟩)
  have hlt:i<12:=by simp at hc;omega
  have hwi:w64 ((i:Int)+1)=((i+1:Nat):Int):=by rw [zH (by omega) (by omega)];omega
  have hwm:w64 ((i:Int)-1)=(i:Int)-1:=zH (by omega) (by omega)
  have hne:=zj6 (⟨[],[]⟩:zg)
  rw [znG h.inv]
  simp only [zbs,hwi,hwm]
  have next:OK (again ((i+1:Nat):Int)) (fun o=> ∃ u,o= .inl u):=k _ ⟨i+1,by omega,rfl⟩ (by omega)
  cases hg:qO r.progs (i:Int) with
  | none=>
   simp only
   have hno:(if decide ((i:Int)>=1)=true then if decide ((i:Int)<=((m.Progs).length:Int))=true then (idx m.Progs ((i:Int)-1)).bind fun x2598=>some (decide (x2598.State<2)) else some false else some false)=some false:=by
    by_cases q1:(i:Int)>=1
    ·by_cases q2:(i:Int)<=((m.Progs).length:Int)
     ·obtain ⟨j,rfl⟩: ∃ j,i=j+1:=⟨i-1,by omega⟩
      obtain ⟨P,hP⟩: ∃ P,m.Progs[j]? =some P:=⟨_,zeg (by omega)⟩
      have hM:=h.prog j P hP
      have e1:((j:Int)+1)=((j+1:Nat):Int):=by omega
      rw [e1,hg] at hM
      have e2:(((j+1:Nat):Int)-1)=(j:Int):=by omega
      rw [if_pos (by simpa using q1),if_pos (by simpa using q2),e2,zdG hP]
      simp [show P.State=2 from hM]
     ·rw [if_pos (by simpa using q1),if_neg (by simpa using q2)]
    ·rw [if_neg (by simpa using q1)]
   rw [hno]
   simp only [zbs,beq_self_eq_true,Bool.not_true,zfe,if_false,Bool.not_false,if_true,hne]
   exact next
  | some x=>
   simp only
   obtain ⟨h1,h2,_⟩:=h.inv.prog _ x hg
   obtain ⟨j,rfl⟩: ∃ j,i=j+1:=⟨i-1,by omega⟩
   obtain ⟨P,hP⟩: ∃ P,m.Progs[j]? =some P:=⟨_,zeg (by omega)⟩
   have hM:=h.prog j P hP
   have e1:((j:Int)+1)=((j+1:Nat):Int):=by omega
   rw [e1,hg] at hM
   have e2:(((j+1:Nat):Int)-1)=(j:Int):=by omega
   have hst:decide (P.State<2)=true:=by rcases hM.2 with ⟨q,_⟩ | ⟨q,_⟩<;>simp [q]
   rw [e2,zdG hP]
   rw [if_pos (by simp;omega),if_pos (by simp;omega)]
   simp only [zbs,hst,beq_self_eq_true,Bool.not_true,zfe,if_false,if_true,hM.1,zj6]
   exact next
 obtain ⟨u,rfl⟩:=ho
 exact OK.ret rfl
end
theorem zj7 {fu:Nat}: ∀ (k:Nat) (b:List Int) (i f:Nat),i+k=b.length->k<f->b.length<=140737488355328->loop xT f (b,(i:Int))=some ()
 | 0,b,i,f+1,h,hf,hl=>by
  rw [zE,xT,if_neg (by simp;omega)]
 | k+1,b,i,f+1,h,hf,hl=>by
  have hlt:i<b.length:=by omega
  obtain ⟨x,hx⟩: ∃ x,b[i]? =some x:=⟨_,zeg hlt⟩
  rw [zE,xT,if_pos (by simpa using hlt),zdG hx]
  simp only [zbs]
  have hwi:w64 ((i:Int)+1)=((i+1:Nat):Int):=by rw [zH (by omega) (by omega)];omega
  rw [hwi]
  exact zj7 (fu:=fu) k _ (i+1) f (by simp;omega) (by omega) (by simpa using hl)
section
variable {H M n:Nat} {r:za} {m:zd}
theorem zmt (h:zej H M n r m) (hb:n+1<=1000) {fu:Nat} (hfu:1002<fu) (o:qD) (hB: ∀ x∈o.Bytes,zfq x) (hl:o.Bytes.length<=140737488355328) (hlf:o.Bytes.length<fu):
  ∃ r' m',zag fu r m o=some (true,r',m')/\zej H M (n+1) r' m':=by
 have hfu':1000<fu:=by omega
 unfold zag
 by_cases k0:o.Ki=0
 ·rw [if_pos (by simpa using k0)]
  have hr:room (([]:List Int).length+o.Bytes.length) 1=some ():=by unfold Go.Sx.room;rw [if_pos (by simp;omega)]
  obtain ⟨a,e,r',m',h1,h2,h3⟩:=znN h hb hfu' hB hl
  have hz:=zj7 (fu:=fu) o.Bytes.length o.Bytes 0 fu (by omega) hlf hl
  have hz':loop xT fu (o.Bytes,0)=some ():=hz
  refine ⟨r',m',?_,h3⟩
  simp only [hr,List.nil_append,h1,h2,hz',zbs]
  simp [sEq]
 rw [if_neg (by simpa using k0)]
 by_cases k1:o.Ki=1
 ·rw [if_pos (by simpa using k1)]
  obtain ⟨a,e,r',m',h1,h2,h3⟩:=ziI h hb hfu' o.A o.B false
  have h1':zG r o.A o.B=some (a,e,r'):=h1
  exact ⟨r',m',by simp [h1',h2],h3⟩
 rw [if_neg (by simpa using k1)]
 by_cases k2:o.Ki=2
 ·rw [if_pos (by simpa using k2)]
  obtain ⟨a,e,r',m',h1,h2,h3⟩:=ziI h hb hfu' o.A o.B true
  have h1':qi r o.A o.B=some (a,e,r'):=h1
  exact ⟨r',m',by simp [h1',h2],h3⟩
 rw [if_neg (by simpa using k2)]
 by_cases k3:o.Ki=3
 ·rw [if_pos (by simpa using k3)]
  obtain ⟨e,t,u,h1,h2,h3⟩:=zk0 h hb hfu' o.A
  exact ⟨_,_,by simp [h1,h2];first | exact ⟨rfl,rfl⟩ | rfl,h3⟩
 rw [if_neg (by simpa using k3)]
 by_cases k4:o.Ki=4
 ·rw [if_pos (by simpa using k4)]
  obtain ⟨a,e,r',m',h1,h2,h3⟩:=zk1 h hb hfu' o.B
  exact ⟨r',m',by simp [h1,h2],h3⟩
 rw [if_neg (by simpa using k4)]
 by_cases k5:o.Ki=5
 ·rw [if_pos (by simpa using k5)]
  obtain ⟨g,r',m',h1,h2,h3⟩:=zk2 h hb hfu' o.A
  exact ⟨r',m',by simp [h1,h2,zhV],h3⟩
 rw [if_neg (by simpa using k5)]
 by_cases k6:o.Ki=6
 ·rw [if_pos (by simpa using k6)]
  obtain ⟨a,e,t,u,h1,h2,h3⟩:=zml h hb hfu' o.A
  exact ⟨_,_,by simp [h1,h2];first | exact ⟨rfl,rfl⟩ | rfl,h3⟩
 rw [if_neg (by simpa using k6)]
 by_cases k7:o.Ki=7
 ·rw [if_pos (by simpa using k7)]
  obtain ⟨e,t,u,h1,h2,h3⟩:=zmm h hb hfu' o.A
  exact ⟨_,_,by simp [h1,h2];first | exact ⟨rfl,rfl⟩ | rfl,h3⟩
 rw [if_neg (by simpa using k7)]
 obtain ⟨u,h1,_,h3⟩:=zg7 h hb hfu'
 exact ⟨_,_,by simp [ziG h.inv,h1];exact ⟨rfl,rfl⟩,h3⟩
end
theorem zqL {H M:Nat} (hH:1<=H) (hH4:H<=4) (hM:M<=4): ∃ r m,qy H M 2=some (some r,0)/\jU H M 2=some (some m,0)/\zej H M 0 r m:=by
 obtain ⟨r,h1,h2,h3,h4,h5,h6,h7⟩:=zrI (W:=2) hH hH4 hM (by omega) (by omega)
 have hN:jU H M 2=some (some ⟨M,⟨H,0,[]⟩,⟨2,[]⟩,[],[]⟩,0):=by
  unfold jU
  rw [if_neg (by simp;omega)]
 have h1':qy H M 2=some (some r,0):=h1
 have ht:r.Table=⟨⟨0⟩,List.replicate H ⟨0,0⟩⟩/\r.Clock=⟨1,List.replicate 2 0⟩:=by
  have a1:zcI H=some (some ⟨⟨0⟩,List.replicate H ⟨0,0⟩⟩,0):=by
   unfold zcI
   rw [if_neg (by simp;omega)]
   have:mkLen (H:Int) 16=some H:=by unfold mkLen;rw [if_pos ⟨by omega,by simp;omega⟩];simp
   simp [this]
  have a2:zc8 M=some (some ⟨M,[]⟩,0):=by
   unfold zc8
   rw [if_neg (by simp;omega)]
  have a3:za4 2=some (some ⟨1,List.replicate 2 0⟩,0):=by
   unfold za4
   rw [if_neg (by simp)]
   have:mkLen (2:Int) 8=some 2:=by decide
   simp [this]
  have e:qy H M 2=some (some ⟨⟨⟨0⟩,List.replicate H ⟨0,0⟩⟩,⟨M,[]⟩,⟨1,List.replicate 2 0⟩,H,M,0,[],[]⟩,0):=by
   unfold qy
   rw [a1,a2,a3]
   rfl
  rw [h1'] at e
  simp only [Option.some.injEq,Prod.mk.injEq,and_true] at e
  subst e
  exact ⟨rfl,rfl⟩
 refine ⟨r,_,h1',hN,{inv:=h2,maps:=rfl,hooks:=rfl,last:=h4.symm,tl:=by simp,cur:=fun k hk=> ?_,wk:=rfl,cl:=by simp,now:=by rw [ht.2];rfl,ins:=fun w hw=> ?_,pl:=by rw [h3];rfl,prog:=fun i P hP=>by simp at hP,line:=h6.symm,sml:=fun P hP=>by simp at hP}⟩
 ·refine ⟨⟨0,0⟩,?_,rfl,by simp,by simp⟩
  rw [ht.1]
  simp [List.getElem?_replicate,hk]
 ·rw [ht.2]
  have:w=0\/w=1:=by omega
  rcases this with rfl | rfl<;>rfl
end Go.Proofs.YtbmknhpfkpmigaaGreatDoor
namespace Go.Proofs.YtbmknhpfkpmigaaGreatDoor
open Go.Sx
set_option maxRecDepth 100000 in
theorem zmV:jI 1000=some true:=by decide+kernel
theorem zoK (h M:Int):qy h M 0=some (none,2):=znw (by omega)
theorem zqc {x:Int} (h:(Lit.int .u8 x).wf=true):zfq x:=by
 unfold Lit.wf at h
 simp only [zae,zdq] at h
 have e1:IntKind.u8.min=0:=rfl
 have e2:IntKind.u8.max=255:=rfl
 rw [e1,e2] at h
 exact ⟨h.1,by omega⟩
theorem zgk (p0:Int) (p1:Int) (p2:List qD) (g0:(Lit.int .i64 p0).wf=true) (g1:(Lit.int .i64 p1).wf=true) (g2:p2.length*48<=reachBytes/\ ∀ y46∈p2,zeM y46): ∃ fu,qK fu p0 p1 p2=some true:=by
 have hrb:reachBytes<=140737488355328:=by decide
 have key: ∀ fu,2000+reachBytes<=fu->qK fu p0 p1 p2=some true:=by
  intro fu hfu
  have hB: ∀ o∈p2,(∀ x∈o.Bytes,zfq x)/\o.Bytes.length<=reachBytes:=fun o ho=>by
   have h:=(g2.2 o ho).2.2.2
   exact ⟨fun x hx=>zqc (h.2 x hx),by have:=h.1;omega⟩
  unfold qK
  rw [(zfE (show 1000<=fu by omega)).h _ zmV]
  simp only [zbs,Bool.not_true,zfe,if_false,zoK]
  by_cases hr:1<=p0/\p0<=4/\0<=p1/\p1<=4
  ·obtain ⟨H,rfl⟩: ∃ H:Nat,p0=(H:Int):=⟨p0.toNat,by omega⟩
   obtain ⟨M,rfl⟩: ∃ M:Nat,p1=(M:Int):=⟨p1.toNat,by omega⟩
   obtain ⟨r,m,h1,h2,h3⟩:=zqL (H:=H) (M:=M) (by omega) (by omega) (by omega)
   rw [h1,h2]
   simp only [zbs]
   apply OK.is
   refine OK.some_ (OK.some_ (OK.ite_false (by simp) (OK.ite_false (by simp) ?_)))
   refine OK.bind2 (OK.rounds (Q:=fun o=> ∃ u,o= .inl u) (fun s=> ∃ k:Nat,k<=120/\s.2.2=(k:Int)/\zej H M k s.1 s.2.1) (fun s=>((120:Int)-s.2.2).toNat) ?_ fu _ ⟨0,by omega,rfl,h3⟩ (by simp;omega)) (fun o ho=> ?_)
   ·rintro ⟨r,m,x⟩ again ⟨k,hk,rfl,hs⟩ ka
    unfold za0
    refine OK.ite (fun hc=> ?_) (fun hc=>OK.ret ⟨(),rfl⟩)
    simp only [zae,zdq] at hc
    obtain ⟨o,ho⟩: ∃ o,p2[k]? =some o:=⟨_,zeg (by omega)⟩
    obtain ⟨hb1,hb2⟩:=hB o (zmg ho)
    obtain ⟨r',m',h5,h6⟩:=zmt hs (by omega) (fu:=fu) (by omega) o hb1 (by omega) (by omega)
    have h7:=zms h6 (fu:=fu) (by omega)
    rw [zdG ho]
    simp only [zbs,h5,h7,Bool.not_true,zfe,if_false]
    have hwi:w64 ((k:Int)+1)=((k+1:Nat):Int):=by rw [zH (by omega) (by omega)];omega
    rw [hwi]
    exact ka _ ⟨k+1,by omega,rfl,h6⟩ (by simp only;omega)
   ·obtain ⟨u,rfl⟩:=ho
    exact OK.ret rfl
  ·have e1:qy p0 p1 2=some (none,2):=znw (by omega)
   have e2:jU p0 p1 2=some (none,2):=by
    unfold jU
    rw [if_pos (by simp;omega)]
   rw [e1,e2]
   rfl
 exact ⟨2000+reachBytes,key _ (Nat.le_refl _)⟩
end Go.Proofs.YtbmknhpfkpmigaaGreatDoor
