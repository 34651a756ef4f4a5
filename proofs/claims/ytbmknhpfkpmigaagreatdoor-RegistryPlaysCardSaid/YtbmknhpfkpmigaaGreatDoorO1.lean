/- Texts O1 of this proof. -/
import Derived.Test.YtbmknhpfkpmigaaGreatDoorF1
set_option linter.unusedSimpArgs false
namespace Go.Proofs.YtbmknhpfkpmigaaGreatDoor
open Go.Sx
set_option linter.unusedVariables false
theorem zpv (xs:List Int) (x:Int):OK (xb xs x) (fun i=>(0<=i/\x∈xs)\/(i= -1/\x ∉ xs)):=by
 unfold xb
 refine OK.bind2 (R:=fun o=>match o with | .inl _=>x ∉ xs | .inr r=>0<=r/\x∈xs) (OK.count (fun i _=>x ∉ xs.take i) (by simp) ?_ ?_) ?_
 ·intro i s again hi h k
  unfold zat
  refine OK.bind (OK.getN hi (fun y hy=>OK.ite (fun he=>OK.ret ?_) (fun he=>k _ ?_)))
  ·have:x=y:=by simpa using he
   subst this
   exact ⟨by omega,zmg hy⟩
  ·have hne:x ≠ y:=by simpa using he
   rw [List.take_add_one,hy]
   simp only [Option.toList_some,List.mem_append,List.mem_singleton,not_or]
   exact ⟨h,hne⟩
 ·intro s h
  rw [List.take_length] at h
  exact h
 ·rintro (u | r) h
  ·exact OK.ret (.inr ⟨rfl,h⟩)
  ·exact OK.ret (.inl h)
theorem zaF (xs:List Int) (x:Int):zC xs x=some (decide (x∈xs)):=by
 obtain ⟨i,h1,h2⟩:=zpv xs x
 unfold zC
 rw [h1]
 simp only [zbs,Option.some.injEq]
 rcases h2 with ⟨h,hm⟩ | ⟨rfl,hm⟩
 ·simp [h,hm]
 ·simp [hm]
def holds (x:Int) (m:List (Int×List Int)):List Int:=(m.filter (fun e=>decide (x∈e.2))).map (·.1)
theorem zif (p0:zw) (p1:Int): ∀ (m:List (Int×List Int)) (s:List Int),zd6 (jm p0 p1) (qM p0 p1) m s=
  if holds p1 m= []\/(s.length+(holds p1 m).length)*8<=140737488355328 then qM p0 p1 (s++holds p1 m) else none:=by
 intro m
 induction m with
 | nil=>intro s;simp [zd6,holds]
 | cons e m ih=>
  intro s
  have hb:jm p0 p1 e s=if decide (p1∈e.2)=true then (room (s.length+([e.1]:List Int).length) 8).bind (fun _=>some (.inl (s++ [e.1]))) else some (.inl s):=by
   unfold jm
   simp only [zaF,zbs]
  show (jm p0 p1 e s).bind _=_
  rw [hb]
  by_cases h:p1∈e.2
  ·have e1:holds p1 (e::m)=e.1::holds p1 m:=by simp [holds,h]
   rw [e1]
   simp only [h,decide_true,if_true]
   by_cases hr:(s.length+([e.1]:List Int).length)*8<=140737488355328
   ·simp only [room,if_pos hr,zbs]
    rw [ih]
    have e2:s++ [e.1]++holds p1 m=s++e.1::holds p1 m:=by simp
    rw [e2]
    simp only [List.length_append,List.length_cons,List.length_nil,Nat.zero_add] at hr |-
    by_cases hz:holds p1 m= []
    ·simp only [hz,true_or,if_true,List.length_nil,Nat.zero_add,hr,or_true]
    ·have:(s.length+1+(holds p1 m).length)=s.length+((holds p1 m).length+1):=by omega
     simp only [hz,false_or,this]
     simp
   ·simp only [room,if_neg hr,Option.bind_none]
    rw [if_neg]
    rintro (h1 | h1)
    ·cases h1
    ·simp only [List.length_cons,List.length_nil] at hr h1
     omega
  ·have e1:holds p1 (e::m)=holds p1 m:=by simp [holds,h]
   rw [e1]
   simp only [h,decide_false,zfe,if_false,zbs]
   exact ih s
theorem zkm {a b:List Int} (h:a.Perm b):a.mergeSort (fun x y=>decide (x<=y))=b.mergeSort (fun x y=>decide (x<=y)):=by
 have tr: ∀ x y z:Int,decide (x<=y)=true->decide (y<=z)=true->decide (x<=z)=true:=by intro x y z;simp;omega
 have to: ∀ x y:Int,(decide (x<=y)||decide (y<=x))=true:=by intro x y;simp;omega
 have h1:=List.pairwise_mergeSort tr to a
 have h2:=List.pairwise_mergeSort tr to b
 have hp:(a.mergeSort (fun x y=>decide (x<=y))).Perm (b.mergeSort (fun x y=>decide (x<=y))):=(List.mergeSort_perm a _).trans (h.trans (List.mergeSort_perm b _).symm)
 exact List.Perm.eq_of_pairwise (fun x y _ _ hx hy=>by simp at hx hy;omega) h1 h2 hp
theorem zeK (p0:zw) (p1:Int):zlS (jm p0 p1) (qM p0 p1) p0.held ([]:List Int):=by
 intro q hq r h
 rw [zif] at h |-
 have hp:(holds p1 q).Perm (holds p1 p0.held):=(hq.filter _).map _
 have hl:=hp.length_eq
 have hn:(holds p1 q= [])=(holds p1 p0.held= []):=by
  rw [eq_iff_iff,<- List.length_eq_zero_iff,<- List.length_eq_zero_iff,hl]
 rw [hl]
 simp only [hn]
 split at h
 ·rename_i hc
  rw [if_pos hc]
  unfold qM qA at h |-
  simp only [List.nil_append] at h |-
  rw [hl,zkm hp]
  exact h
 ·cases h
def zde (m:List (Int×zr)):List Int:=(m.filter (fun e=>e.2.retiring==0)).map (·.1)
theorem zlR (p0:za): ∀ (m:List (Int×zr)) (s:List Int),zd6 (qJ p0) (zX p0) m s=
  if zde m= []\/(s.length+(zde m).length)*8<=140737488355328 then zX p0 (s++zde m) else none:=by
 intro m
 induction m with
 | nil=>intro s;simp [zd6,zde]
 | cons e m ih=>
  intro s
  have hb:qJ p0 e s=if (e.2.retiring==0)=true then (room (s.length+([e.1]:List Int).length) 8).bind (fun _=>some (.inl (s++ [e.1]))) else some (.inl s):=rfl
  show (qJ p0 e s).bind _=_
  rw [hb]
  cases h:e.2.retiring==0 with
  | true=>
   have e1:zde (e::m)=e.1::zde m:=by simp [zde,h]
   rw [e1]
   simp only [if_true]
   by_cases hr:(s.length+([e.1]:List Int).length)*8<=140737488355328
   ·simp only [room,if_pos hr,zbs]
    rw [ih]
    have e2:s++ [e.1]++zde m=s++e.1::zde m:=by simp
    rw [e2]
    simp only [List.length_append,List.length_cons,List.length_nil,Nat.zero_add] at hr |-
    by_cases hz:zde m= []
    ·simp only [hz,true_or,if_true,List.length_nil,Nat.zero_add,hr,or_true]
    ·have:(s.length+1+(zde m).length)=s.length+((zde m).length+1):=by omega
     simp only [hz,false_or,this]
     simp
   ·simp only [room,if_neg hr,Option.bind_none]
    rw [if_neg]
    rintro (h1 | h1)
    ·cases h1
    ·simp only [List.length_cons,List.length_nil] at hr h1
     omega
  | false=>
   have e1:zde (e::m)=zde m:=by simp [zde,h]
   rw [e1]
   simp only [zfe,if_false,zbs]
   exact ih s
theorem zdf (p0:za):zlS (qJ p0) (zX p0) p0.progs ([]:List Int):=by
 intro q hq r h
 rw [zlR] at h |-
 have hp:(zde q).Perm (zde p0.progs):=(hq.filter _).map _
 have hl:=hp.length_eq
 have hn:(zde q= [])=(zde p0.progs= []):=by
  rw [eq_iff_iff,<- List.length_eq_zero_iff,<- List.length_eq_zero_iff,hl]
 rw [hl]
 simp only [hn]
 split at h
 ·rename_i hc
  rw [if_pos hc]
  unfold zX qA at h |-
  simp only [List.nil_append] at h |-
  rw [hl,zkm hp]
  exact h
 ·cases h
end Go.Proofs.YtbmknhpfkpmigaaGreatDoor
