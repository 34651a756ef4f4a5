/- Texts Maps, Part of this proof. -/
import Derived.Test.YtbmknhpfkpmigaaGreatDoorMem
import Derived.Maps.RangeRun
set_option linter.unusedVariables false
set_option linter.unusedSimpArgs false
namespace Go.Sx
open Go.RowKit
def qO {α:Type}:List (Int×α)->Int->Option α
 | [],_=>none
 | p::r,k=>if p.1==k then some p.2 else qO r k
def mput {α:Type}:List (Int×α)->Int->α->List (Int×α)
 | [],k,x=> [(k,x)]
 | p::r,k,x=>if p.1==k then (k,x)::r else p::mput r k x
def mdel {α:Type}:List (Int×α)->Int->List (Int×α)
 | [],_=> []
 | p::r,k=>if p.1==k then r else p::mdel r k
def zcE {α:Type}:List (Int×α)->Int->Option Nat
 | [],_=>none
 | p::r,k=>if p.1==k then some 0 else (zcE r k).map (· +1)
def zkf {α:Type} (val:α->Value) (p:Int×α):Value×Value:=(.int .i64 p.1,val p.2)
structure zfz {α:Type} (val:α->Value) (m:List (Int×α)) (A:List MapEntry) (clock:Nat):Prop where
 eq:A.map (fun e=>(e.key,e.val))=m.map (zkf val)
 born:A.Pairwise (fun a b=>a.born<b.born)
 lt: ∀ e∈A,e.born<clock
def zku {α:Type} (r:Nat) (val:α->Value) (m:List (Int×α)):zz where
 S:= [r]
 Φ w:= ∃ A clock,w.heap[r]? =some (.map A clock)/\zfz val m A.toList clock
 loc w w' h hb:=by
  obtain ⟨A,c,h1,h2⟩:=hb
  exact ⟨A,c,by rw [h r (by simp)];exact h1,h2⟩
 lt w h x hx:=by
  obtain ⟨A,c,h1,h2⟩:=h
  simp only [List.mem_singleton] at hx
  subst hx
  exact (Array.getElem?_eq_some_iff.1 h1).1
section
variable {α:Type} {val:α->Value}
theorem zfz.cons {p:Int×α} {m:List (Int×α)} {A:List MapEntry} {clock:Nat} (h:zfz val (p::m) A clock): ∃ e B,A=e::B/\e.key= .int .i64 p.1/\e.val=val p.2/\zfz val m B clock:=by
 obtain ⟨h1,h2,h3⟩:=h
 cases A with
 | nil=>simp at h1
 | cons e B=>
  simp only [List.map_cons,List.cons.injEq,zkf,Prod.mk.injEq] at h1
  exact ⟨e,B,rfl,h1.1.1,h1.1.2,h1.2,(List.pairwise_cons.1 h2).2,fun x hx=>h3 x (zcm _ hx)⟩
theorem zfz.nil {A:List MapEntry} {clock:Nat} (h:zfz val ([]:List (Int×α)) A clock):A= []:=by
 have:=h.eq
 simpa using this
theorem zkg {kd:IntKind} {k:Int}: ∀ {m:List (Int×α)} {A:List MapEntry} {clock i:Nat},zfz val m A clock->Instr.findNow (.int kd) (.int .i64 k) A i=some ((zcE m k).bind fun j=>(qO m k).map fun x=>(i+j,val x)):=by
 intro m
 induction m with
 | nil=>intro A clock i h;rw [h.nil];rfl
 | cons p m ih=>
  intro A clock i h
  obtain ⟨e,B,rfl,h1,h2,h3⟩:=h.cons
  unfold Instr.findNow
  rw [h1]
  have hs:Instr.sameNow (.int kd) (.int .i64 k) (.int .i64 p.1)=some (k==p.1):=by simp [Instr.sameNow]
  rw [hs]
  by_cases e1:k=p.1
  ·have e2:(k==p.1)=true:=by simpa using e1
   have e3:(p.1==k)=true:=by simpa using e1.symm
   simp only [e2,zcE,qO,e3,if_true,h2]
   simp
  ·have e2:(k==p.1)=false:=by simpa using e1
   have e3:(p.1==k)=false:=by simpa using fun h=>e1 h.symm
   simp only [e2,zcE,qO,e3,if_false,zfe]
   rw [ih h3]
   congr 1
   cases zcE m k with
   | none=>rfl
   | some j=>cases qO m k with
    | none=>rfl
    | some x=>simp;omega
theorem xA {m:List (Int×α)} {k:Int}:(zcE m k=none↔qO m k=none):=by
 induction m with
 | nil=>simp [zcE,qO]
 | cons p m ih=>
  unfold zcE qO
  split
  ·simp
  ·simp [ih]
theorem zce {m:List (Int×α)} {k:Int} {x:α} (h:qO m k=some x): ∃ j,zcE m k=some j/\m[j]? =some (k,x):=by
 induction m with
 | nil=>cases h
 | cons p m ih=>
  unfold qO at h
  unfold zcE
  split at h
  ·rename_i hp
   cases h
   refine ⟨0,by simp [hp],?_⟩
   have:p.1=k:=by simpa using hp
   subst this
   rfl
  ·rename_i hp
   obtain ⟨j,h1,h2⟩:=ih h
   exact ⟨j+1,by simp [hp,h1],by simpa using h2⟩
theorem zdO {m:List (Int×α)} {k:Int} {x:α} (h:qO m k=none):mput m k x=m++ [(k,x)]:=by
 induction m with
 | nil=>rfl
 | cons p m ih=>
  unfold qO at h
  unfold mput
  split at h
  ·cases h
  ·rename_i hp
   simp [hp,ih h]
theorem zfi {m:List (Int×α)} {k:Int} {x:α} {j:Nat} (h:zcE m k=some j):mput m k x=m.set j (k,x):=by
 induction m generalizing j with
 | nil=>cases h
 | cons p m ih=>
  unfold zcE at h
  unfold mput
  split at h
  ·rename_i hp;cases h;simp [hp]
  ·rename_i hp
   cases hq:zcE m k with
   | none=>rw [hq] at h;cases h
   | some q=>
    rw [hq] at h
    cases h
    simp [hp,ih hq]
theorem zh8 {m:List (Int×α)} {k:Int} {j:Nat} (h:zcE m k=some j):mdel m k=m.eraseIdx j:=by
 induction m generalizing j with
 | nil=>cases h
 | cons p m ih=>
  unfold zcE at h
  unfold mdel
  split at h
  ·rename_i hp;cases h;simp [hp]
  ·rename_i hp
   cases hq:zcE m k with
   | none=>rw [hq] at h;cases h
   | some q=>
    rw [hq] at h
    cases h
    simp [hp,ih hq]
theorem zgA {m:List (Int×α)} {k:Int} (h:qO m k=none):mdel m k=m:=by
 induction m with
 | nil=>rfl
 | cons p m ih=>
  unfold qO at h
  unfold mdel
  split at h
  ·cases h
  ·rename_i hp
   simp [hp,ih h]
theorem zfz.len {m:List (Int×α)} {A:List MapEntry} {clock:Nat} (h:zfz val m A clock):A.length=m.length:=by
 have:=congrArg List.length h.eq
 simpa using this
theorem zfz.set {m:List (Int×α)} {A:List MapEntry} {clock j:Nat} {k:Int} {x:α} {e:MapEntry} (h:zfz val m A clock) (he:A[j]? =some e):zfz val (m.set j (k,x)) (A.set j {e with key:= .int .i64 k,val:=val x}) clock:=by
 refine ⟨?_,?_,fun y hy=> ?_⟩
 ·rw [List.map_set,List.map_set,h.eq];rfl
 ·have hb:=h.born
  rw [List.pairwise_iff_getElem] at hb |-
  intro a b ha hb2 hab
  rw [List.length_set] at ha hb2
  have hj:=(zes.1 he).2
  have:=hb a b ha hb2 hab
  rw [List.getElem_set,List.getElem_set]
  split<;>split
  ·omega
  ·rename_i h1 h2;subst h1;rw [hj] at this;exact this
  ·rename_i h1 h2;subst h2;rw [hj] at this;exact this
  ·exact this
 ·rcases List.mem_or_eq_of_mem_set hy with hy | rfl
  ·exact h.lt y hy
  ·exact h.lt e (zmg he)
theorem zfz.push {m:List (Int×α)} {A:List MapEntry} {clock:Nat} {k:Int} {x:α} (h:zfz val m A clock):zfz val (m++ [(k,x)]) (A++ [{key:= .int .i64 k,val:=val x,born:=clock}]) (clock+1):=by
 refine ⟨by rw [List.map_append,List.map_append,h.eq];rfl,?_,fun y hy=> ?_⟩
 ·refine List.pairwise_append.2 ⟨h.born,List.pairwise_singleton _ _,fun a ha b hb=> ?_⟩
  simp at hb
  subst hb
  exact h.lt a ha
 ·rcases List.mem_append.1 hy with hy | hy
  ·have:=h.lt y hy;omega
  ·simp at hy;subst hy;simp
theorem zfj {β γ:Type} {f:β->γ}: ∀ {l:List β} {j:Nat},(l.eraseIdx j).map f=(l.map f).eraseIdx j
 | [],_=>rfl
 | _::_,0=>rfl
 | x::r,j+1=>by simp only [List.eraseIdx_cons_succ,List.map_cons,zfj]
theorem zfz.erase {m:List (Int×α)} {A:List MapEntry} {clock j:Nat} (h:zfz val m A clock):zfz val (m.eraseIdx j) (A.eraseIdx j) clock:=by
 refine ⟨by rw [zfj,zfj,h.eq],h.born.sublist (List.eraseIdx_sublist _ _),fun y hy=>h.lt y (List.mem_of_mem_eraseIdx hy)⟩
end
section
variable {P:Program} {N:Nat} {fr:List (Nat×Value)} {w w0:World} {S0:List Nat} {L:List zz} {α:Type} {val:α->Value}
def zmO (w:World) (b:Nat) (o:Obj):World:= {w with heap:=w.heap.setIfInBounds b o}
theorem zb3 {P:Program} {w:World} {r:Nat} {A:Array MapEntry} {c:Nat} (h:w.heap[r]? =some (.map A c)):(getObj r).run P w= .ok (.map A c) w:=by simp [getObj,Sem.run,h]
theorem zbe {P:Program} {w:World} {b:Bool} {t:TypeId} {kd:IntKind} {v:Value} (h:P.underlying t=some (.int kd)):(Instr.checkKey b 10000 t v).run P w= .ok () w:=by
 show (Instr.checkKey b (9999+1) t v).run P w= .ok () w
 unfold Instr.checkKey
 simp [run_underlying h]
theorem zf6 {P:Program} {w:World} {t:TypeId} {kd:IntKind} {k:Int} {m:List (Int×α)} {A:Array MapEntry} {clock:Nat} (h:P.underlying t=some (.int kd)) (he:zfz val m A.toList clock):
  (Instr.findKey t (.int .i64 k) A.toList).run P w= .ok ((zcE m k).bind fun j=>(qO m k).map fun x=>(j,val x)) w:=by
 unfold Instr.findKey
 simp only [Sem.run_bind,run_underlying h,Result.andThen_ok,zkg (kd:=kd) (i:=0) he,Nat.zero_add,Sem.run_pure]
theorem zkh {n:Nat} {k:Int}:Instr.sameBits n (.int .i64 k) (.int .i64 k)=true:=by
 unfold Instr.sameBits
 simp
theorem zki {P:Program} {w:World} {k:Int}:(Instr.keyThatStays (.int .i64 k) (.int .i64 k)).run P w= .ok (.int .i64 k) w:=by
 unfold Instr.keyThatStays
 rw [zkh]
 rfl
theorem zfA {P:Program} {w:World} {r:Nat} {A:Array MapEntry} {c:Nat} (h:w.heap[r]? =some (.map A c)) (o':Obj):(setObj r o').run P w= .ok () (zmO w r o'):=by
 simp [setObj,Sem.run,h,zmO]
theorem zpp {w:World} {r:Nat} {o:Obj}:Chg [r] w (zmO w r o):=
 ⟨rfl,rfl,rfl,by simp [zmO],fun k hk hn=>by
  have:r ≠ k:=fun e=>hn (by simp [e])
  simp [zmO,Array.getElem?_setIfInBounds,this]⟩
theorem zq1 {w:World} {r:Nat} {o o':Obj} (h:w.heap[r]? =some o):(zmO w r o').heap[r]? =some o':=by
 have:=(Array.getElem?_eq_some_iff.1 h).1
 simp [zmO,this]
theorem St.setMap {r:Nat} {m:List (Int×α)} {β:Type} {val':β->Value} {m':List (Int×β)} {A A':Array MapEntry} {c c':Nat} (hst:St w0 S0 w L) (j:Nat) (hj:L[j]? =some (zku r val m)) (hA:w.heap[r]? =some (.map A c)) (hE:zfz val' m' A'.toList c'):
  St w0 S0 (zmO w r (.map A' c')) (L.set j (zku r val' m')):=
 hst.upd j hj zpp ⟨A',c',zq1 hA,hE⟩ (fun q hq=> .inl hq) (by simp [zku])
theorem zmE {m:List (Int×α)} {A:Array MapEntry} {c j:Nat} {k:Int} {x:α} (hE:zfz val m A.toList c) (hj:m[j]? =some (k,x)): ∃ e,A[j]? =some e/\e.key= .int .i64 k/\e.val=val x:=by
 have h1:(A.toList.map (fun e=>(e.key,e.val)))[j]? =(m.map (zkf val))[j]? :=by rw [hE.eq]
 rw [List.getElem?_map,List.getElem?_map,hj] at h1
 cases he:A.toList[j]? with
 | none=>rw [he] at h1;cases h1
 | some e=>
  rw [he] at h1
  simp only [Option.map_some,zkf,Option.some.injEq,Prod.mk.injEq] at h1
  exact ⟨e,by rw [<- Array.getElem?_toList];exact he,h1.1,h1.2⟩
theorem zlb {A:Array MapEntry} {j:Nat} {e:MapEntry} {f:MapEntry->MapEntry} (h:A[j]? =some e):(A.modify j f).toList=A.toList.set j (f e):=by
 apply List.ext_getElem?
 intro i
 rw [Array.getElem?_toList,Array.getElem?_modify,List.getElem?_set]
 split
 ·rename_i hij
  subst hij
  have:=(Array.getElem?_eq_some_iff.1 h).1
  rw [h];simp [this]
 ·simp
theorem ziO {P:Program} {t tk te:TypeId} {r:Nat} {k:Int} {x:α} {m:List (Int×α)} {kd:IntKind} (hst:St w0 S0 w L) (j:Nat) (hj:L[j]? =some (zku r val m)) (ht:P.underlying t=some (.map tk te)) (hk:P.underlying tk=some (.int kd)):
  ∃ w',(Instr.mapUpdate t (.map (some r)) (.int .i64 k) (val x)).run P w= .ok () w'/\St w0 S0 w' (L.set j (zku r val (mput m k x))):=by
 obtain ⟨A,clock,hA,hE⟩:=hst.all j _ hj
 have hf:=zf6 (P:=P) (w:=w) (k:=k) hk hE
 cases h:qO m k with
 | none=>
  rw [xA.2 h] at hf
  refine ⟨zmO w r (.map (A.push {key:= .int .i64 k,val:=val x,born:=clock}) (clock+1)),?_,?_⟩
  ·simp only [Instr.mapUpdate,Sem.run_bind,run_underlying ht,Result.andThen_ok,zb3 hA,zbe hk,hf,Option.bind_none]
   rw [zfA hA]
  ·rw [zdO h]
   exact hst.setMap j hj hA (by rw [Array.toList_push];exact hE.push)
 | some y=>
  obtain ⟨q,h1,h2⟩:=zce h
  rw [h1,h] at hf
  obtain ⟨e,he,hek,hev⟩:=zmE hE h2
  refine ⟨zmO w r (.map (A.modify q fun e=> {e with key:= .int .i64 k,val:=val x}) clock),?_,?_⟩
  ·simp only [Instr.mapUpdate,Sem.run_bind,run_underlying ht,Result.andThen_ok,zb3 hA,zbe hk,hf,zbs,Option.map_some,he,Option.getD_some,hek,zki]
   rw [zfA hA]
  ·rw [zfi h1]
   exact hst.setMap j hj hA (by rw [zlb he];exact hE.set (by rw [Array.getElem?_toList];exact he))
theorem zmF {P:Program} {t tk te ty:TypeId} {ats:Array TypeId} {r:Nat} {k:Int} {m:List (Int×α)} {kd:IntKind} (hst:St w0 S0 w L) (j:Nat) (hj:L[j]? =some (zku r val m)) (h0:ats[0]? =some t) (ht:P.underlying t=some (.map tk te)) (hk:P.underlying tk=some (.int kd)):
  ∃ w',(Builtin.delete_ ats ty #[.map (some r),.int .i64 k]).run P w= .ok (.tuple #[]) w'/\St w0 S0 w' (L.set j (zku r val (mdel m k))):=by
 obtain ⟨A,clock,hA,hE⟩:=hst.all j _ hj
 have hf:=zf6 (P:=P) (w:=w) (k:=k) hk hE
 cases h:qO m k with
 | none=>
  rw [xA.2 h] at hf
  refine ⟨zmO w r (.map A clock),?_,?_⟩
  ·simp [Builtin.delete_,h0,run_underlying ht,zb3 hA,zbe hk,hf,zfA hA]
  ·rw [zgA h]
   exact hst.setMap j hj hA hE
 | some y=>
  obtain ⟨q,h1,h2⟩:=zce h
  rw [h1,h] at hf
  refine ⟨zmO w r (.map (A.eraseIdxIfInBounds q) clock),?_,?_⟩
  ·simp [Builtin.delete_,h0,run_underlying ht,zb3 hA,zbe hk,hf,zfA hA]
  ·rw [zh8 h1]
   refine hst.setMap j hj hA ?_
   have hq:q<A.size:=by
    have:=(zes.1 h2).1
    have:=hE.len
    simp at this
    omega
   have:(A.eraseIdxIfInBounds q).toList=A.toList.eraseIdx q:=by rw [Array.eraseIdxIfInBounds,dif_pos hq];simp
   rw [this]
   exact hE.erase
end
section
variable {P:Program} {N:Nat} {Q:Exit->Act->World->Prop} {fr fr':List (Nat×Value)} {w w0:World} {l:List Oper} {i:Nat} {o:Oper} {S0:List Nat} {L:List zz} {α:Type} {val:α->Value}
end
structure zfG {α:Type} (w:World) (r:Nat) (R:Rp α) (S:List Nat) (m:List (Int×α)) (ho:Option (Int×Value)) (mv:List (Int×Value)) (Ss:List (List Nat)):Prop where
 map: ∃ A clock,w.heap[r]? =some (.map A clock)/\zfz (fun v:Value=>v) mv A.toList clock
 keys:mv.map (·.1)=m.map (·.1)
 ls:Ss.length=m.length
 hS:S=r::Ss.flatten
 nd:S.Nodup
 out: ∀ (k:Int) (v:Value) (i:Nat),ho=some (k,v)->zcE m k=some i->mv[i]? =some (k,v)/\Ss[i]? =some []
 own: ∀ (i:Nat) (q:Int×Value) (S':List Nat) (p:Int×α),(∀ k u,ho=some (k,u)->zcE m k ≠ some i)->mv[i]? =some q->Ss[i]? =some S'->m[i]? =some p->R.own w [q.2] S' p.2
theorem zh9 {β:Type} {a b:List (List β)} (h:a.Sublist b):a.flatten.Sublist b.flatten:=by
 induction h with
 | slnil=>exact List.Sublist.refl _
 | cons x _ ih=>exact ih.trans (List.sublist_append_right _ _)
 | cons_cons x _ ih=>exact List.Sublist.append (List.Sublist.refl _) ih
section
variable {α β:Type}
theorem zbf {m:List (Int×α)} {n:List (Int×β)} (h:n.map (·.1)=m.map (·.1)) (k:Int):zcE n k=zcE m k:=by
 induction m generalizing n with
 | nil=>simp at h;subst h;rfl
 | cons p m ih=>
  cases n with
  | nil=>cases h
  | cons q n=>
   simp only [List.map_cons,List.cons.injEq] at h
   simp only [zcE,h.1,ih h.2]
theorem zia {m:List (Int×α)} {k:Int} {i:Nat} (h:zcE m k=some i): ∃ x,qO m k=some x/\m[i]? =some (k,x):=by
 cases hg:qO m k with
 | none=>rw [xA.2 hg] at h;cases h
 | some x=>
  obtain ⟨j,h1,h2⟩:=zce hg
  rw [h1] at h
  cases h
  exact ⟨x,rfl,h2⟩
end
section
variable {α:Type} {w w':World} {r:Nat} {R:Rp α} {S:List Nat} {m:List (Int×α)} {ho:Option (Int×Value)} {mv:List (Int×Value)} {Ss:List (List Nat)}
theorem zfG.len (h:zfG w r R S m ho mv Ss):mv.length=m.length:=by
 have:=congrArg List.length h.keys
 simpa using this
theorem zfG.lt (h:zfG w r R S m ho mv Ss): ∀ b∈S,b<w.heap.size:=by
 intro b hb
 rw [h.hS] at hb
 rcases List.mem_cons.1 hb with rfl | hb
 ·obtain ⟨A,c,h1,_⟩:=h.map
  exact (Array.getElem?_eq_some_iff.1 h1).1
 ·obtain ⟨S',hS',hb⟩:=List.mem_flatten.1 hb
  obtain ⟨i,hi,rfl⟩:=List.mem_iff_getElem.1 hS'
  have h1:i<mv.length:=by rw [h.len,<- h.ls];exact hi
  have h2:i<m.length:=by rw [<- h.ls];exact hi
  by_cases hq: ∃ k u,ho=some (k,u)/\zcE m k=some i
  ·obtain ⟨k,u,hc,hp⟩:=hq
   have:=(h.out k u i hc hp).2
   rw [zeg hi] at this
   rw [Option.some.inj this] at hb
   exact absurd hb znm
  ·exact R.lt _ _ _ _ (h.own i _ _ _ (fun k u hc hp=>hq ⟨k,u,hc,hp⟩) (zeg h1) (zeg hi) (zeg h2)) b hb
theorem zfG.loc (h:zfG w r R S m ho mv Ss) (hb: ∀ b∈S,w'.heap[b]? =w.heap[b]?):zfG w' r R S m ho mv Ss:=by
 have hS:=h.hS
 obtain ⟨A,c,h1,h2⟩:=h.map
 refine ⟨⟨A,c,by rw [hb r (by rw [hS];exact zcs)];exact h1,h2⟩,h.keys,h.ls,h.hS,h.nd,h.out,fun i q S' p g1 g2 g3 g4=>R.loc w w' _ S' _ (fun b hbs=>hb b ?_) (h.own i q S' p g1 g2 g3 g4)⟩
 rw [hS]
 exact zcm _ (List.mem_flatten.2 ⟨S',zmg g3,hbs⟩)
end
def mN {α:Type} (r:Nat) (R:Rp α) (S:List Nat) (m:List (Int×α)) (ho:Option (Int×Value)):zz where
 S:=S
 Φ w:= ∃ mv Ss,zfG w r R S m ho mv Ss
 loc w w' hb h:=by obtain ⟨mv,Ss,h⟩:=h;exact ⟨mv,Ss,h.loc hb⟩
 lt w h:=by obtain ⟨mv,Ss,h⟩:=h;exact h.lt
section
variable {α:Type} {w w':World} {r:Nat} {R:Rp α} {S:List Nat} {m:List (Int×α)} {ho:Option (Int×Value)} {mv:List (Int×Value)} {Ss:List (List Nat)}
theorem zfG.take (h:zfG w r R S m none mv Ss) {k:Int} {x:α} (hx:qO m k=some x):
  ∃ v S1 S2 Ss',qO mv k=some v/\R.own w [v] S2 x/\zfG w r R S1 m (some (k,v)) mv Ss'/\(∀ b∈S2,b∈S)/\(∀ b∈S1,b∈S)/\ ∀ b∈S1,b ∉ S2:=by
 obtain ⟨i,hp,hi⟩:=zce hx
 have hl:=(zes.1 hi).1
 obtain ⟨v,hv,hvi⟩:=zia ((zbf h.keys k).trans hp)
 have a2:i<Ss.length:=by rw [h.ls];exact hl
 have hn:=h.nd
 rw [h.hS] at hn
 obtain ⟨n1,n2⟩:=List.nodup_cons.1 hn
 have hown:=h.own i (k,v) Ss[i] (k,x) (fun _ _ e=>(by cases e)) hvi (zeg a2) hi
 have hsub: ∀ b∈(Ss.set i []).flatten,b∈Ss.flatten:=fun b hb=>by
  rcases jx hb with hb | hb
  ·exact absurd hb znm
  ·exact hb
 have n2':(Ss.set i []).flatten.Nodup:=zak n2 List.nodup_nil (fun _ _ _ _ b hb=>absurd hb znm)
 refine ⟨v,r::(Ss.set i []).flatten,Ss[i],Ss.set i [],hv,hown,⟨h.map,h.keys,by rw [List.length_set];exact h.ls,rfl,?_,fun k' v' i' e hp'=> ?_,fun i' q S' p g1 g2 g3 g4=> ?_⟩,fun b hb=> ?_,fun b hb=> ?_,fun b hb hb2=> ?_⟩
 ·exact List.nodup_cons.2 ⟨fun hb=>n1 (hsub r hb),n2'⟩
 ·simp only [Option.some.injEq,Prod.mk.injEq] at e
  obtain ⟨rfl,rfl⟩:=e
  rw [hp] at hp'
  cases hp'
  exact ⟨hvi,by rw [List.getElem?_set_self a2]⟩
 ·rcases zaU g3 with ⟨rfl,rfl⟩ | ⟨hne,g3⟩
  ·exact absurd hp (g1 k v rfl)
  ·exact h.own i' q S' p (fun _ _ e=>(by cases e)) g2 g3 g4
 ·rw [h.hS];exact zcm _ (List.mem_flatten.2 ⟨Ss[i],List.getElem_mem a2,hb⟩)
 ·rw [h.hS]
  rcases List.mem_cons.1 hb with rfl | hb
  ·exact zcs
  ·exact zcm _ (hsub b hb)
 ·rcases List.mem_cons.1 hb with rfl | hb
  ·exact n1 (List.mem_flatten.2 ⟨Ss[i],List.getElem_mem a2,hb2⟩)
  ·obtain ⟨S',hS',hb⟩:=List.mem_flatten.1 hb
   obtain ⟨i',hi',rfl⟩:=List.mem_iff_getElem.1 hS'
   rcases zaU (zeg hi') with ⟨_,e⟩ | ⟨hne,hi2⟩
   ·rw [e] at hb;exact absurd hb znm
   ·exact zgB n2 hne hi2 (zeg a2) b hb hb2
theorem zfG.give (h:zfG w r R S m ho mv Ss) {k:Int} {v:Value} {S2:List Nat} {x:α} {i:Nat} (hho: ∀ k' u,ho=some (k',u)->k'=k) (hp:zcE m k=some i) (hx:R.own w' [v] S2 x) (hd: ∀ b∈S,b ∉ S2)
  (hw: ∀ b∈Ss.flatten,w'.heap[b]? =w.heap[b]?) (hm: ∃ A clock,w'.heap[r]? =some (.map A clock)/\zfz (fun v:Value=>v) (mv.set i (k,v)) A.toList clock):zfG w' r R (r::(Ss.set i S2).flatten) (m.set i (k,x)) none (mv.set i (k,v)) (Ss.set i S2):=by
 have hn:=h.nd
 rw [h.hS] at hn
 obtain ⟨n1,n2⟩:=List.nodup_cons.1 hn
 have hS:=h.hS
 refine ⟨hm,by rw [List.map_set,List.map_set,h.keys],by rw [List.length_set,List.length_set];exact h.ls,rfl,?_,fun _ _ _ e=>(by cases e),fun i' q S' p _ g2 g3 g4=> ?_⟩
 ·refine List.nodup_cons.2 ⟨fun hb=> ?_,zak n2 (R.nd _ _ _ _ hx) (fun k T' _ hT b hb hb2=>hd b (by rw [hS];exact zcm _ (List.mem_flatten.2 ⟨T',zmg hT,hb2⟩)) hb)⟩
  rcases jx hb with hb | hb
  ·exact hd r (by rw [hS];exact zcs) hb
  ·exact n1 hb
 ·rcases zaU g3 with ⟨rfl,rfl⟩ | ⟨hne,g3⟩
  ·rcases zaU g2 with ⟨_,rfl⟩ | ⟨hne,_⟩
   ·rcases zaU g4 with ⟨_,rfl⟩ | ⟨hne,_⟩
    ·exact hx
    ·exact absurd rfl hne
   ·exact absurd rfl hne
  ·rcases zaU g2 with ⟨e,_⟩ | ⟨_,g2⟩
   ·exact absurd e hne
   ·rcases zaU g4 with ⟨e,_⟩ | ⟨_,g4⟩
    ·exact absurd e hne
    ·refine R.loc w w' _ S' _ (fun b hb=>hw b (List.mem_flatten.2 ⟨S',zmg g3,hb⟩)) (h.own i' q S' p (fun k' u e hp'=> ?_) g2 g3 g4)
     rw [hho k' u e,hp] at hp'
     exact hne (Option.some.inj hp').symm
theorem zfG.come (h:zfG w r R S m ho mv Ss) {k:Int} {v:Value} {S2:List Nat} {x:α} (hho: ∀ k' u,ho=some (k',u)->k'=k) (hp:zcE m k=none) (hx:R.own w' [v] S2 x) (hd: ∀ b∈S,b ∉ S2)
  (hw: ∀ b∈Ss.flatten,w'.heap[b]? =w.heap[b]?) (hm: ∃ A clock,w'.heap[r]? =some (.map A clock)/\zfz (fun v:Value=>v) (mv++ [(k,v)]) A.toList clock):zfG w' r R (r::(Ss++ [S2]).flatten) (m++ [(k,x)]) none (mv++ [(k,v)]) (Ss++ [S2]):=by
 have hn:=h.nd
 rw [h.hS] at hn
 obtain ⟨n1,n2⟩:=List.nodup_cons.1 hn
 have hS:=h.hS
 have hl:=h.len
 have hls:=h.ls
 refine ⟨hm,by rw [List.map_append,List.map_append,h.keys];rfl,by simp [h.ls],rfl,?_,fun _ _ _ e=>(by cases e),fun i' q S' p _ g2 g3 g4=> ?_⟩
 ·rw [List.flatten_append]
  have e1: [S2].flatten=S2:=by simp
  rw [e1]
  refine List.nodup_cons.2 ⟨fun hb=> ?_,List.nodup_append.2 ⟨n2,R.nd _ _ _ _ hx,fun a ha b hb e=>by subst e;exact hd a (by rw [hS];exact zcm _ ha) hb⟩⟩
  rcases List.mem_append.1 hb with hb | hb
  ·exact n1 hb
  ·exact hd r (by rw [hS];exact zcs) hb
 ·rcases xa g2 with ⟨l1,g2⟩ | ⟨l1,g2⟩
  ·rcases xa g3 with ⟨l2,g3⟩ | ⟨l2,g3⟩
   ·rcases xa g4 with ⟨l3,g4⟩ | ⟨l3,g4⟩
    ·refine R.loc w w' _ S' _ (fun b hb=>hw b (List.mem_flatten.2 ⟨S',zmg g3,hb⟩)) (h.own i' q S' p (fun k' u e hp'=> ?_) g2 g3 g4)
     rw [hho k' u e,hp] at hp'
     cases hp'
    ·omega
   ·omega
  ·rcases xa g3 with ⟨l2,g3⟩ | ⟨l2,g3⟩
   ·omega
   ·rcases xa g4 with ⟨l3,g4⟩ | ⟨l3,g4⟩
    ·omega
    ·have k1:=(zes.1 g2).1
     have k2:=(zes.1 g3).1
     have k3:=(zes.1 g4).1
     simp at k1 k2 k3
     rw [show i'-mv.length=0 by omega] at g2
     rw [show i'-Ss.length=0 by omega] at g3
     rw [show i'-m.length=0 by omega] at g4
     simp at g2 g3 g4
     subst g2;subst g3;subst g4
     exact hx
theorem zfG.strike (h:zfG w r R S m none mv Ss) {k:Int} {i:Nat} (hp:zcE m k=some i) (hw: ∀ b∈Ss.flatten,w'.heap[b]? =w.heap[b]?) (hm: ∃ A clock,w'.heap[r]? =some (.map A clock)/\zfz (fun v:Value=>v) (mv.eraseIdx i) A.toList clock):
  zfG w' r R (r::(Ss.eraseIdx i).flatten) (m.eraseIdx i) none (mv.eraseIdx i) (Ss.eraseIdx i):=by
 have hn:=h.nd
 rw [h.hS] at hn
 obtain ⟨n1,n2⟩:=List.nodup_cons.1 hn
 have hs:(Ss.eraseIdx i).flatten.Sublist Ss.flatten:=zh9 (List.eraseIdx_sublist _ _)
 have hl:=h.len
 have hls:=h.ls
 refine ⟨hm,by rw [zfj,zfj,h.keys],?_,rfl,List.nodup_cons.2 ⟨fun hb=>n1 (hs.subset hb),n2.sublist hs⟩,fun _ _ _ e=>(by cases e),fun i' q S' p _ g2 g3 g4=> ?_⟩
 ·rw [List.length_eraseIdx,List.length_eraseIdx,hls]
 ·rw [List.getElem?_eraseIdx] at g2 g3 g4
  split at g2
  ·rename_i hlt
   rw [if_pos hlt] at g3 g4
   exact R.loc w w' _ S' _ (fun b hb=>hw b (List.mem_flatten.2 ⟨S',zmg g3,hb⟩)) (h.own i' q S' p (fun _ _ e=>(by cases e)) g2 g3 g4)
  ·rename_i hlt
   rw [if_neg hlt] at g3 g4
   exact R.loc w w' _ S' _ (fun b hb=>hw b (List.mem_flatten.2 ⟨S',zmg g3,hb⟩)) (h.own (i'+1) q S' p (fun _ _ e=>(by cases e)) g2 g3 g4)
end
def zf7 {α:Type} (m:List (Int×α)) (k:Int) (x:α):List (Int×α):=match zcE m k with
 | none=>m
 | some i=>m.set i (k,x)
section
variable {P:Program} {N:Nat} {Q:Exit->Act->World->Prop} {fr fr':List (Nat×Value)} {w w0:World} {l:List Oper} {i:Nat} {o:Oper} {S0:List Nat} {L:List zz} {α:Type} {R:Rp α} {r:Nat} {S:List Nat} {m:List (Int×α)} {ho:Option (Int×Value)}
theorem zhb {P:Program} {w:World} {t:TypeId} {kd:IntKind} {k:Int} {mv:List (Int×Value)} {A:Array MapEntry} {clock:Nat} (h:P.underlying t=some (.int kd)) (he:zfz (fun v:Value=>v) mv A.toList clock):
 (Instr.findKey t (.int .i64 k) A.toList).run P w= .ok ((zcE mv k).bind fun j=>(qO mv k).map fun x=>(j,x)) w:=zf6 h he
theorem zkj {β:Type} {m:List (Int×α)} {n:List (Int×β)} (h:n.map (·.1)=m.map (·.1)) (k:Int):(qO n k).isSome=(qO m k).isSome:=by
 have:=zbf h k
 cases h1:qO n k with
 | none=>
  rw [xA.2 h1] at this
  rw [xA.1 this.symm]
  rfl
 | some x=>
  obtain ⟨j,h2,_⟩:=zce h1
  rw [h2] at this
  obtain ⟨y,h3,_⟩:=zia this.symm
  rw [h3]
  rfl
theorem zoa {β:Type} {R0:Rp β} {f:Option α->β} {k:Int} (hst:St w0 S0 w L) (j:Nat) (hj:L[j]? =some (mN r R S m none)) (vz:Value) (hz: ∀ w,R0.own w [vz] [] (f none)) (hR: ∀ w cs S x,R.own w cs S x->R0.own w cs S (f (some x))) (hR2: ∀ w cs S x,R0.own w cs S (f (some x))->R.own w cs S x):
  ∃ v S1 S2 mv Ss,St w0 S0 w (L.set j (mN r R S1 m (some (k,v)))++ [itI R0 [v] S2 (f (qO m k))])/\zfG w r R S m none mv Ss/\(qO mv k).getD vz=v:=by
 obtain ⟨mv,Ss,hr⟩:=hst.all j _ hj
 cases hg:qO m k with
 | none=>
  have hv:qO mv k=none:=by
   have:=zkj hr.keys k
   rw [hg] at this
   cases hv:qO mv k with
   | none=>rfl
   | some v=>rw [hv] at this;cases this
  refine ⟨vz,S,[],mv,Ss,?_,hr,by rw [hv];rfl⟩
  have hr':zfG w r R S m (some (k,vz)) mv Ss:=⟨hr.map,hr.keys,hr.ls,hr.hS,hr.nd,(fun k' v' i e hp=>by
   simp only [Option.some.injEq,Prod.mk.injEq] at e
   obtain ⟨rfl,rfl⟩:=e
   rw [xA.2 hg] at hp
   cases hp),fun i q S' p _ g2 g3 g4=>hr.own i q S' p (fun _ _ e=>(by cases e)) g2 g3 g4⟩
  exact hst.swap j hj ⟨mv,Ss,hr'⟩ hr'.nd (fun b hb=>hb) (hz w) List.nodup_nil (fun b hb=>absurd hb znm) (fun b _ hb=>absurd hb znm)
 | some x=>
  obtain ⟨v,S1,S2,Ss',hv,hown,hr',h1,h2,h3⟩:=hr.take hg
  exact ⟨v,S1,S2,mv,Ss,hst.swap j hj ⟨mv,Ss',hr'⟩ hr'.nd h2 (hR _ _ _ _ hown) (R.nd _ _ _ _ hown) h1 h3,hr,by rw [hv];rfl⟩
theorem OW.mlook {β:Type} (R0:Rp β) (f:Option α->β) {d:Nat} {t tk te:TypeId} {x y:Operand} {two:Bool} {ty:TypeId} {pos:String} {af:Array Edge} {gdd:Option (Nat×Bool)} (hst:St w0 S0 w L) (j:Nat) {kd:IntKind} (hj:L[j]? =some (mN r R S m none))
  (hl:vg l i=some ⟨some d,.lookup t x y two,ty,pos,af,gdd⟩) (hg:gd l fr ⟨some d,.lookup t x y two,ty,pos,af,gdd⟩=some true) (hN:Nat.blt d N=true) (hx:look fr x=some (.map (some r))) {k:Int} (hy:look fr y=some (.int .i64 k))
  (ht:P.underlying t=some (.map tk te)) (hk:P.underlying tk=some (.int kd)) (vz:Value) (hzv:zbw P (zeroValue te)=some vz) (hz: ∀ w,R0.own w [vz] [] (f none)) (hR: ∀ w cs S x,R.own w cs S x->R0.own w cs S (f (some x))) (hR2: ∀ w cs S x,R0.own w cs S (f (some x))->R.own w cs S x)
  (h: ∀ v S1 S2,St w0 S0 w (L.set j (mN r R S1 m (some (k,v)))++ [itI R0 [v] S2 (f (qO m k))])->OW P l N Q (i+1) ((d,if two then .tuple #[v,.bool (qO m k).isSome] else v)::fr) w):OW P l N Q i fr w:=by
 obtain ⟨v,S1,S2,mv,Ss,hst2,hr,hv⟩:=zoa (k:=k) hst j hj vz hz hR hR2
 obtain ⟨A,clock,hA,hE⟩:=hr.map
 have hf:=zhb (P:=P) (w:=w) (k:=k) hk hE
 have hs:=zkj hr.keys k
 refine OW.op hl hg rfl hN (fun a ha=> ?_) (h v S1 S2 hst2)
 have e1:=ha.look hx
 have e2:=ha.look hy
 cases hm:qO mv k with
 | none=>
  rw [xA.2 hm] at hf
  rw [hm] at hs hv
  subst hv
  cases two<;>simp [execOp,Instr.lookup,run_underlying ht,e1,e2,zb3 hA,zbe hk,hf,jB hzv,<- hs]
 | some u=>
  obtain ⟨i,hp,_⟩:=zce hm
  rw [hp,hm] at hf
  rw [hm] at hs hv
  subst hv
  cases two<;>simp [execOp,Instr.lookup,run_underlying ht,e1,e2,zb3 hA,zbe hk,hf,<- hs]
theorem zib {m:List (Int×α)} {k:Int} {x:α} (h:qO m k=some x):zf7 m k x=m:=by
 obtain ⟨i,hp,hi⟩:=zce h
 unfold zf7
 rw [hp]
 apply List.ext_getElem?
 intro q
 by_cases e:i=q
 ·subst e;rw [List.getElem?_set_self (zes.1 hi).1,hi]
 ·rw [List.getElem?_set_ne e]
theorem St.mback {β:Type} {R0:Rp β} {f:Option α->β} (h:St w0 S0 w L) (q j:Nat) (hqj:Nat.beq q j=false) {k:Int} {v:Value} {S2:List Nat} {y:β} (hq:L[q]? =some (mN r R S m (some (k,v)))) (hj:L[j]? =some (itI R0 [v] S2 y)) (hR2: ∀ w cs S x,R0.own w cs S (f (some x))->R.own w cs S x)
  (z:α) (hy:(qO m k).isSome=true->y=f (some z)): ∃ S',St w0 S0 w ((L.set q (mN r R S' (zf7 m k z) none)).set j nilI):=by
 obtain ⟨mv,Ss,hr⟩:=h.all q _ hq
 have hd: ∀ b∈S,b ∉ S2:=h.apart q j _ _ (Nat.ne_of_beq_eq_false hqj) hq hj
 have hown:R0.own w [v] S2 y:=h.all j _ hj
 have hS:=hr.hS
 cases hg:qO m k with
 | none=>
  have hp:=xA.2 hg
  refine ⟨S,h.fuse q j hqj hq hj (C:=mN r R S (zf7 m k z) none) ?_ hr.nd (fun b hb=> .inl hb)⟩
  unfold zf7
  rw [hp]
  refine ⟨mv,Ss,hr.map,hr.keys,hr.ls,hr.hS,hr.nd,fun _ _ _ e=>(by cases e),fun i u S' p _ g2 g3 g4=>hr.own i u S' p (fun k' u' e hp'=> ?_) g2 g3 g4⟩
  simp only [Option.some.injEq,Prod.mk.injEq] at e
  rw [<- e.1,hp] at hp'
  cases hp'
 | some x=>
  obtain ⟨i,hp,hi⟩:=zce hg
  obtain ⟨hvi,_⟩:=hr.out k v i rfl hp
  have hset:mv.set i (k,v)=mv:=by
   apply List.ext_getElem?
   intro q
   by_cases e:i=q
   ·subst e;rw [List.getElem?_set_self (zes.1 hvi).1,hvi]
   ·rw [List.getElem?_set_ne e]
  have hown':R.own w [v] S2 z:=hR2 _ _ _ _ (by rw [<- hy (by rw [hg];rfl)];exact hown)
  have:=hr.give (w':=w) (x:=z) (fun k' u e=>by simp only [Option.some.injEq,Prod.mk.injEq] at e;exact e.1.symm) hp hown' hd (fun _ _=>rfl) (by rw [hset];exact hr.map)
  refine ⟨_,h.fuse q j hqj hq hj (C:=mN r R (r::(Ss.set i S2).flatten) (zf7 m k z) none) ?_ this.nd (fun b hb=> ?_)⟩
  ·unfold zf7
   rw [hp]
   exact ⟨_,_,this⟩
  ·rcases List.mem_cons.1 hb with rfl | hb
   ·exact .inl (by show b∈S;rw [hS];exact zcs)
   ·rcases jx hb with hb | hb
    ·exact .inr hb
    ·exact .inl (by show b∈S;rw [hS];exact zcm _ hb)
theorem St.mback0 {β:Type} {R0:Rp β} {f:Option α->β} (h:St w0 S0 w L) (q j:Nat) (hqj:Nat.beq q j=false) {k:Int} {v:Value} {S2:List Nat} (hq:L[q]? =some (mN r R S m (some (k,v)))) (hj:L[j]? =some (itI R0 [v] S2 (f (qO m k)))) (hR2: ∀ w cs S x,R0.own w cs S (f (some x))->R.own w cs S x):
  ∃ S',St w0 S0 w ((L.set q (mN r R S' m none)).set j nilI):=by
 cases hg:qO m k with
 | none=>
  obtain ⟨mv,Ss,hr⟩:=h.all q _ hq
  have hp:=xA.2 hg
  refine ⟨S,h.fuse q j hqj hq hj (C:=mN r R S m none) ?_ hr.nd (fun b hb=> .inl hb)⟩
  refine ⟨mv,Ss,hr.map,hr.keys,hr.ls,hr.hS,hr.nd,fun _ _ _ e=>(by cases e),fun i u S' p _ g2 g3 g4=>hr.own i u S' p (fun k' u' e hp'=> ?_) g2 g3 g4⟩
  simp only [Option.some.injEq,Prod.mk.injEq] at e
  rw [<- e.1,hp] at hp'
  cases hp'
 | some x=>
  obtain ⟨S',h2⟩:=h.mback (f:=f) q j hqj hq hj hR2 x (fun _=>by rw [hg])
  rw [zib hg] at h2
  exact ⟨S',h2⟩
theorem OW.mputN {t tk te:TypeId} {x y z:Operand} {ty:TypeId} {pos:String} {af:Array Edge} {gdd:Option (Nat×Bool)} (hst:St w0 S0 w L) (q j:Nat) (hqj:Nat.beq q j=false) {kd:IntKind} {k:Int} {v:Value} {S2:List Nat} {u:α} (hq:L[q]? =some (mN r R S m ho)) (hho: ∀ k' u,ho=some (k',u)->k'=k) (hj:L[j]? =some (itI R [v] S2 u))
  (hl:vg l i=some ⟨none,.mapUpdate t x y z,ty,pos,af,gdd⟩) (hg:gd l fr ⟨none,.mapUpdate t x y z,ty,pos,af,gdd⟩=some true) (hx:look fr x=some (.map (some r))) (hy:look fr y=some (.int .i64 k)) (hz:look fr z=some v)
  (ht:P.underlying t=some (.map tk te)) (hk:P.underlying tk=some (.int kd)) (h: ∀ S' w',St w0 S0 w' ((L.set q (mN r R S' (Sx.mput m k u) none)).set j nilI)->OW P l N Q (i+1) fr w'):OW P l N Q i fr w:=by
 obtain ⟨mv,Ss,hr⟩:=hst.all q _ hq
 have hd: ∀ b∈S,b ∉ S2:=hst.apart q j _ _ (Nat.ne_of_beq_eq_false hqj) hq hj
 have hown:R.own w [v] S2 u:=hst.all j _ hj
 have hS:=hr.hS
 have hn:=hr.nd
 rw [hS] at hn
 obtain ⟨n1,_⟩:=List.nodup_cons.1 hn
 have hI:St w [r] w [zku r (fun v:Value=>v) mv]:=by
  refine ⟨Chg.refl _ _,fun n it hi=> ?_,fun n it hi=> ?_,fun n n' a b hne h1 h2=> ?_,fun n it hi y hy=> ?_⟩
  ·cases n with
   | zero=>simp at hi;subst hi;exact hr.map
   | succ n=>simp at hi
  ·cases n with
   | zero=>simp at hi;subst hi;simp [zku]
   | succ n=>simp at hi
  ·cases n with
   | zero=>cases n' with
    | zero=>exact absurd rfl hne
    | succ n'=>simp at h2
   | succ n=>simp at h1
  ·cases n with
   | zero=>simp at hi;subst hi;exact .inl (by simpa [zku] using hy)
   | succ n=>simp at hi
 obtain ⟨w',hrun,hst'⟩:=ziO (P:=P) (k:=k) (x:=v) hI 0 rfl ht hk
 have hchg:Chg [r] w w':=hst'.chg
 have hm': ∃ A clock,w'.heap[r]? =some (.map A clock)/\zfz (fun v:Value=>v) (Sx.mput mv k v) A.toList clock:=hst'.all 0 _ rfl
 have hlt:=hr.lt
 have hown':R.own w' [v] S2 u:=R.loc _ _ _ _ _ (fun b hb=>hchg.block b (R.lt _ _ _ _ hown b hb) (by simp only [List.mem_singleton];rintro rfl;exact hd b (by rw [hS];exact zcs) hb)) hown
 have hw: ∀ b∈Ss.flatten,w'.heap[b]? =w.heap[b]? :=fun b hb=>hchg.block b (hlt b (by rw [hS];exact zcm _ hb)) (by simp only [List.mem_singleton];rintro rfl;exact n1 hb)
 obtain ⟨Ss',mv',hfin,hsub⟩: ∃ Ss' mv',zfG w' r R (r::List.flatten Ss') (Sx.mput m k u) none mv' Ss'/\ ∀ b∈List.flatten Ss',b∈Ss.flatten\/b∈S2:=by
  cases hp:zcE m k with
  | none=>
   have hp':zcE mv k=none:=(zbf hr.keys k).trans hp
   rw [zdO (xA.1 hp')] at hm'
   rw [zdO (xA.1 hp)]
   refine ⟨_,_,hr.come hho hp hown' hd hw hm',fun b hb=> ?_⟩
   rw [List.flatten_append] at hb
   rcases List.mem_append.1 hb with hb | hb
   ·exact .inl hb
   ·exact .inr (by simpa using hb)
  | some n=>
   have hp':zcE mv k=some n:=(zbf hr.keys k).trans hp
   rw [zfi hp'] at hm'
   rw [zfi hp]
   exact ⟨_,_,hr.give hho hp hown' hd hw hm',fun b hb=>(jx hb).symm⟩
 refine OW.ops hl hg rfl (fun a ha=> ?_) (h (r::List.flatten Ss') w' ?_)
 ·simp [execOp,ha.look hx,ha.look hy,ha.look hz,hrun]
 ·have hsub2: ∀ b∈r::List.flatten Ss',b∈S\/b∈S2:=fun b hb=>by
   rcases List.mem_cons.1 hb with rfl | hb
   ·exact .inl (by rw [hS];exact zcs)
   ·rcases hsub b hb with hb | hb
    ·exact .inl (by rw [hS];exact zcm _ hb)
    ·exact .inr hb
  let A:zz:=⟨r::List.flatten Ss',fun w1=> ∀ b∈r::List.flatten Ss',b<w1.heap.size,fun w1 w2 hb hh b hb2=>by
   have h1:=hh b hb2
   have h2:=hb b hb2
   rw [Array.getElem?_eq_getElem h1] at h2
   exact (Array.getElem?_eq_some_iff.1 h2).1,fun w1 hh=>hh⟩
  have hA:St w0 S0 w ((L.set q A).set j nilI):=hst.fuse q j hqj hq hj (C:=A) (fun b hb=>by
   rcases hsub2 b hb with hb | hb
   ·exact hlt b hb
   ·exact R.lt _ _ _ _ hown b hb) hfin.nd hsub2
  have hlq:q<L.length:=(zes.1 hq).1
  have hqA:((L.set q A).set j nilI)[q]? =some A:=by
   rw [List.getElem?_set_ne (fun e=>Nat.ne_of_beq_eq_false hqj e.symm),List.getElem?_set_self hlq]
  have:=hA.upd q hqA (it':=mN r R (r::List.flatten Ss') (Sx.mput m k u) none) (hchg.mono (fun b hb=>by simp only [List.mem_singleton] at hb;subst hb;exact zcs)) ⟨_,_,hfin⟩ (fun b hb=> .inl hb) hfin.nd
  rw [List.set_comm _ _ (fun e=>Nat.ne_of_beq_eq_false hqj e.symm),List.set_set] at this
  exact this
theorem OW.mdelN {t tk te:TypeId} {x y:Operand} {ty:TypeId} {pos:String} {ats:List Nat} {af:Array Edge} {gdd:Option (Nat×Bool)} (hst:St w0 S0 w L) (j:Nat) {kd:IntKind} (hj:L[j]? =some (mN r R S m none))
  (hl:vg l i=some ⟨none,.call ⟨.builtin .delete,[x,y].toArray,ats.toArray⟩,ty,pos,af,gdd⟩) (hg:gd l fr ⟨none,.call ⟨.builtin .delete,[x,y].toArray,ats.toArray⟩,ty,pos,af,gdd⟩=some true) (ha0:ats[0]? =some t)
  (hx:look fr x=some (.map (some r))) {k:Int} (hy:look fr y=some (.int .i64 k)) (ht:P.underlying t=some (.map tk te)) (hk:P.underlying tk=some (.int kd))
  (h: ∀ S' w',St w0 S0 w' (L.set j (mN r R S' (Sx.mdel m k) none))->OW P l N Q (i+1) fr w'):OW P l N Q i fr w:=by
 obtain ⟨mv,Ss,hr⟩:=hst.all j _ hj
 have hS:=hr.hS
 have hn:=hr.nd
 rw [hS] at hn
 obtain ⟨n1,n2⟩:=List.nodup_cons.1 hn
 have hI:St w [r] w [zku r (fun v:Value=>v) mv]:=by
  refine ⟨Chg.refl _ _,fun n it hi=> ?_,fun n it hi=> ?_,fun n n' a b hne h1 h2=> ?_,fun n it hi y hy=> ?_⟩
  ·cases n with
   | zero=>simp at hi;subst hi;exact hr.map
   | succ n=>simp at hi
  ·cases n with
   | zero=>simp at hi;subst hi;simp [zku]
   | succ n=>simp at hi
  ·cases n with
   | zero=>cases n' with
    | zero=>exact absurd rfl hne
    | succ n'=>simp at h2
   | succ n=>simp at h1
  ·cases n with
   | zero=>simp at hi;subst hi;exact .inl (by simpa [zku] using hy)
   | succ n=>simp at hi
 obtain ⟨w',hrun,hst'⟩:=zmF (P:=P) (ty:=ty) (ats:=ats.toArray) (k:=k) hI 0 rfl (by simpa using ha0) ht hk
 have hchg:Chg [r] w w':=hst'.chg
 have hm': ∃ A clock,w'.heap[r]? =some (.map A clock)/\zfz (fun v:Value=>v) (Sx.mdel mv k) A.toList clock:=hst'.all 0 _ rfl
 have hlt:=hr.lt
 have hw: ∀ b∈Ss.flatten,w'.heap[b]? =w.heap[b]? :=fun b hb=>hchg.block b (hlt b (by rw [hS];exact zcm _ hb)) (by simp only [List.mem_singleton];rintro rfl;exact n1 hb)
 obtain ⟨Ss',mv',hfin,hsub⟩: ∃ Ss' mv',zfG w' r R (r::List.flatten Ss') (Sx.mdel m k) none mv' Ss'/\ ∀ b∈List.flatten Ss',b∈Ss.flatten:=by
  cases hp:zcE m k with
  | none=>
   have hp':zcE mv k=none:=(zbf hr.keys k).trans hp
   rw [zgA (xA.1 hp')] at hm'
   rw [zgA (xA.1 hp)]
   refine ⟨Ss,mv,⟨hm',hr.keys,hr.ls,rfl,by rw [<- hS];exact hr.nd,fun _ _ _ e=>(by cases e),fun i' q S' p _ g2 g3 g4=> ?_⟩,fun b hb=>hb⟩
   exact R.loc w w' _ S' _ (fun b hb=>hw b (List.mem_flatten.2 ⟨S',zmg g3,hb⟩)) (hr.own i' q S' p (fun _ _ e=>(by cases e)) g2 g3 g4)
  | some n=>
   have hp':zcE mv k=some n:=(zbf hr.keys k).trans hp
   rw [zh8 hp'] at hm'
   rw [zh8 hp]
   exact ⟨_,_,hr.strike hp hw hm',fun b hb=>(zh9 (List.eraseIdx_sublist _ _)).subset hb⟩
 refine OW.opn (v:= .tuple #[]) hl hg rfl (fun a ha=> ?_) (h (r::List.flatten Ss') w' ?_)
 ·simp [execOp,resolve,invoke,builtin,ha.look hx,ha.look hy,hrun]
 ·exact hst.upd j hj (it':=mN r R (r::List.flatten Ss') (Sx.mdel m k) none) (hchg.mono (fun b hb=>by rw [show (mN r R S m none).S=S from rfl,hS];rw [List.mem_singleton.1 hb];exact zcs)) ⟨_,_,hfin⟩ (fun b hb=> .inl (by
   rw [show (mN r R S m none).S=S from rfl,hS]
   rcases List.mem_cons.1 hb with rfl | hb
   ·exact zcs
   ·exact zcm _ (hsub b hb))) hfin.nd
theorem OW.mnewN {d:Nat} {t:TypeId} {ty:TypeId} {pos:String} {af:Array Edge} {gdd:Option (Nat×Bool)} (R:Rp α) (hst:St w0 S0 w L) (hl:vg l i=some ⟨some d,.makeMap t none,ty,pos,af,gdd⟩) (hg:gd l fr ⟨some d,.makeMap t none,ty,pos,af,gdd⟩=some true) (hN:Nat.blt d N=true)
  (h: ∀ r w',St w0 S0 w' (L++ [mN r R [r] [] none])->OW P l N Q (i+1) ((d,.map (some r))::fr) w'):OW P l N Q i fr w:=by
 refine OW.op hl hg rfl hN (w':=w.alloc (.map #[] 0)) (fun a _=> ?_) (h w.heap.size _ ?_)
 ·simp [execOp,Instr.makeMap,newObj,Sem.run]
 ·exact hst.push (Chg.alloc _ _) ⟨[],[],⟨#[],0,heap_alloc_new _ _,⟨rfl,List.Pairwise.nil,by simp⟩⟩,rfl,rfl,rfl,by simp,fun _ _ _ e=>(by cases e),fun i q S' p _ g=>by simp at g⟩ (fun b hb=>by simp [mN] at hb;omega) (by simp [mN])
end
def zkk {α:Type} (R:Rp α):Rp (List (Int×α)) where
 sz:=1
 own w cs S m:= ∃ r,cs= [.map (some r)]/\ ∃ mv Ss,zfG w r R S m none mv Ss
 rd w F m cs:=True/\cs.length=1
 len:=by rintro w cs S m ⟨r,rfl,_⟩;rfl
 loc:=by rintro w w' cs S m hb ⟨r,rfl,mv,Ss,h⟩;exact ⟨r,rfl,mv,Ss,h.loc hb⟩
 lt:=by rintro w cs S m ⟨r,rfl,mv,Ss,h⟩;exact h.lt
 nd:=by rintro w cs S m ⟨r,rfl,mv,Ss,h⟩;exact h.nd
 see:=by rintro w cs S m F ⟨r,rfl,_⟩ _;exact ⟨trivial,rfl⟩
 rlen:=by rintro w F m cs ⟨_,h⟩;exact h
 rloc:=by rintro w w' F F' m cs _ _ h;exact h
section
variable {w w0:World} {S0:List Nat} {L:List zz} {α:Type} {R:Rp α}
theorem St.toMN {cs:List Value} {S:List Nat} {m:List (Int×α)} (h:St w0 S0 w L) (j:Nat) (hj:L[j]? =some (itI (zkk R) cs S m)): ∃ r,cs= [.map (some r)]/\St w0 S0 w (L.set j (mN r R S m none)):=by
 obtain ⟨r,rfl,hr⟩:=h.all j _ hj
 exact ⟨r,rfl,h.turn j hj hr rfl⟩
theorem St.ofMN {r:Nat} {S:List Nat} {m:List (Int×α)} (h:St w0 S0 w L) (j:Nat) (hj:L[j]? =some (mN r R S m none)):St w0 S0 w (L.set j (itI (zkk R) [.map (some r)] S m)):=h.turn j hj ⟨r,rfl,h.all j _ hj⟩ rfl
theorem St.toMN1 {v:Value} {S:List Nat} {m:List (Int×α)} (h:St w0 S0 w L) (j:Nat) (hj:L[j]? =some (itI (zkk R) [v] S m)): ∃ r,v= .map (some r)/\St w0 S0 w (L.set j (mN r R S m none)):=by
 obtain ⟨r,hu,hst⟩:=h.toMN j hj
 cases hu
 exact ⟨r,rfl,hst⟩
end
end Go.Sx
namespace Go.Sx
open Go.RowKit
def zgD (b:Nat) (T:TypeId) (A cs C:List Value):zz:=jF b T (A++(cs++C))
section
variable {P:Program} {N:Nat} {Q:Exit->Act->World->Prop} {fr fr':List (Nat×Value)} {w w0:World} {l:List Oper} {i:Nat} {o:Oper} {S0:List Nat} {L:List zz}
theorem St.prt (h:St w0 S0 w L) (j:Nat) {b:Nat} {T:TypeId} {A cs C:List Value} (hj:L[j]? =some (zgD b T A cs C)) (k:Nat) {v:Value} (hv:cs[k]? =some v):w.cell? ⟨b,A.length+k,none⟩=some v:=by
 refine h.blk j hj ?_
 rw [List.getElem?_append_right (by omega),show A.length+k-A.length=k by omega,List.getElem?_append_left (zes.1 hv).1]
 exact hv
theorem OW.stP {t:TypeId} {x y:Operand} {ty:TypeId} {pos:String} {af:Array Edge} {gdd:Option (Nat×Bool)} (hst:St w0 S0 w L) (j:Nat) {b:Nat} {T:TypeId} {A cs C:List Value} (hj:L[j]? =some (zgD b T A cs C))
  (hl:vg l i=some ⟨none,.store t x y,ty,pos,af,gdd⟩) (hg:gd l fr ⟨none,.store t x y,ty,pos,af,gdd⟩=some true)
  (k:Nat) {v:Value} (hx:look fr x=some (.pointer (some ⟨b,A.length+k,none⟩))) (hy:look fr y=some v)
  (hs:zbw P (sizeOf t)=some v.cells.toList.length) (h1:zec v.cells.toList=true) (hle:Nat.ble (k+v.cells.toList.length) cs.length=true) (cs':List Value) (hcs:qk cs v.cells.toList k=cs')
  (h: ∀ w',St w0 S0 w' (L.set j (zgD b T A cs' C))->OW P l N Q (i+1) fr w'):OW P l N Q i fr w:=by
 have hle':=Nat.le_of_ble_eq_true hle
 exact OW.stB hst j hj hl hg hx hy hs h1 (Nat.ble_eq_true_of_le (by rw [List.length_append,List.length_append];omega)) (A++(cs'++C)) (by rw [zir hle',hcs]) h
theorem OW.clear {t e:TypeId} {ats:List Nat} {x:Operand} {ty:TypeId} {pos:String} {af:Array Edge} {gdd:Option (Nat×Bool)} (hst:St w0 S0 w L) (j:Nat) {b:Nat} {T:TypeId} {cs:List Value} (hj:L[j]? =some (jF b T cs))
  (hl:vg l i=some ⟨none,.call ⟨.builtin .clear,[x].toArray,ats.toArray⟩,ty,pos,af,gdd⟩) (hg:gd l fr ⟨none,.call ⟨.builtin .clear,[x].toArray,ats.toArray⟩,ty,pos,af,gdd⟩=some true)
  {k n c:Nat} {z:Value} (hx:look fr x=some (.slice (some ⟨b,k,none⟩) (n+1) c)) (ha0:ats[0]? =some t) (ht:P.underlying t=some (.slice e)) (hz:zbw P (zeroValue e)=some z) (vs:List Value) (hvs:(Builtin.zeroCells z.cells (n+1)).toList=vs) (h1:zec vs=true)
  (hle:k+vs.length<=cs.length) (cs':List Value) (hcs:qk cs vs k=cs')
  (h: ∀ w',St w0 S0 w' (L.set j (jF b T cs'))->OW P l N Q (i+1) fr w'):OW P l N Q i fr w:=by
 have hb:=hst.all j _ hj
 have hst2:=run_storeCells_at (P:=P) b k T vs 0 cs.toArray w hb (by simpa using hle) (zdc h1)
 refine OW.opn (v:= .tuple #[]) hl hg rfl (w':=w.setRow b (qk cs.toArray.toList vs k).toArray) (fun a ha=> ?_) (h _ ?_)
 ·have e1:=ha.look hx
  have hz':=jB hz w
  have h3:(storeCells ⟨b,k,none⟩ vs).run P w= .ok () (w.setRow b (qk cs.toArray.toList vs k).toArray):=by simpa [qk] using hst2
  have ha1:(ats.toArray)[0]? =some t:=by simpa using ha0
  simp [execOp,resolve,invoke,builtin,e1,Builtin.clear_,ha1,run_underlying ht,hz',hvs,h3]
 ·subst hcs
  refine hst.upd j hj ⟨rfl,rfl,rfl,by simp [World.setRow],fun q _ hn=>setRow_other w b q _ (by rintro rfl;exact hn (by simp [jF]))⟩ ?_ (fun q hq=> .inl hq) (by simp [jF])
  show (w.setRow b _).heap[b]? =_
  rw [setRow_heap w b cs.toArray _ T (0,0) hb]
end
structure RdB (w:World) (S:List Nat) (b:Nat) (cs:List Value):Prop where
 out:b ∉ S
 at': ∀ k u,cs[k]? =some u->w.cell? ⟨b,k,none⟩=some u
section
variable {w w0:World} {S0:List Nat} {L:List zz} {b:Nat} {cs:List Value}
theorem RdB.cell (h:RdB w0 S0 b cs) (hst:St w0 S0 w L) (k:Nat) {u:Value} (hu:cs[k]? =some u):w.cell? ⟨b,k,none⟩=some u:=by
 have hc:=h.at' k u hu
 exact (World.cell?_of_block (hst.chg.block b (zfh hc) h.out)).trans hc
theorem RdB.cells (h:RdB w0 S0 b cs) (hst:St w0 S0 w L) (k n:Nat): ∀ q u,((cs.drop k).take n)[q]? =some u->w.cell? ⟨b,k+q,none⟩=some u:=by
 intro q u hq
 rw [List.getElem?_take] at hq
 split at hq
 ·rw [List.getElem?_drop] at hq
  exact h.cell hst _ hq
 ·cases hq
theorem RdB.give {u0:Value} {cr:List Value} (h:RdB w0 S0 b (u0::cr)) (hst:St w0 S0 w L) (ids:List Nat):RdB w (fp (sel L ids)) b (u0::cr):=by
 refine ⟨fun hb=> ?_,fun k u hu=>h.cell hst k hu⟩
 obtain ⟨j,it,hj,hbs⟩:=zai.1 hb
 obtain ⟨k,_,hk⟩:=zcW hj
 rcases vx hk with hk | rfl
 ·rcases hst.own k it hk b hbs with h1 | h1
  ·exact h.out h1
  ·have:=zfh (h.at' 0 u0 rfl)
   simp only at this
   omega
 ·cases hbs
theorem St.rdB (hst:St w0 S0 w L) (j:Nat) {T:TypeId} (hj:L[j]? =some (jF b T cs)) (ids:List Nat) (hm:mem? j ids=false):RdB w (fp (sel L ids)) b cs:=
 ⟨fun hb=>hst.noin j hj ids hm b (by simp [jF]) hb,fun k u hu=>hst.blk j hj hu⟩
end
end Go.Sx
