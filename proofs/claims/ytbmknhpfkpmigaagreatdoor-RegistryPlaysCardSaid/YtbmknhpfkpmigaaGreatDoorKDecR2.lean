/- Texts KDecR2, KDecR3, KDecR4, KRegS1, KRegS2 of this proof. -/
import Derived.Test.YtbmknhpfkpmigaaGreatDoorKReg2
set_option linter.unusedVariables false
set_option linter.unusedSimpArgs false
namespace Go.Proofs.YtbmknhpfkpmigaaGreatDoor
open Go.Sx
def noM:zg:=⟨[],[]⟩
theorem zeD {fu:Nat} {k v:Int} {ms:List Int} (hk:(k==4)=false):loop (xc k v ms) (fu+1) 0=some (.inl ()):=by
 rw [zE,xc,hk,if_neg (by simp)]
theorem zpK {fu:Nat} {v:Int} {ms:List Int}:zN (fu+1) 3 v ms=some (if v>4 then 11 else 0):=by
 unfold zN
 by_cases h:v>4
 ·simp [h]
 ·simp [h,zeD (k:=3)]
theorem zpL {fu:Nat} {v:Int} {ms:List Int}:zN (fu+1) 5 v ms=some (if v>64 then 11 else if v=0 then 12 else 0):=by
 unfold zN
 by_cases h:v>64
 ·simp [h]
 ·by_cases h2:v=0
  ·subst h2;simp
  ·simp [h,h2,zeD (k:=5)]
theorem zpM {fu:Nat} {v:Int} {ms:List Int}:zN (fu+1) 6 v ms=some (if v>22 then 12 else 0):=by
 unfold zN
 by_cases h:v>22
 ·simp [h]
 ·simp [h,zeD (k:=6)]
theorem zfp {fu:Nat} {k v:Int} {ms:List Int} (hk:k=7\/k=8\/k=9):zN (fu+1) k v ms=some (if v>63 then 12 else 0):=by
 unfold zN
 rcases hk with rfl | rfl | rfl<;>
 ·by_cases h:v>63
  ·simp [h]
  ·simp [h,zeD (k:=7),zeD (k:=8),zeD (k:=9)]
theorem zqk {fu:Nat} {v:Int} {ms:List Int}:zN (fu+1) 10 v ms=some 0:=by
 unfold zN
 simp [zeD (k:=10)]
theorem zjF {v:Int} {ms:List Int} (h0:0<=v) (h3:v<=3) (hl:ms.length<=4): ∀ (rest:List Int) (i f:Nat),ms.drop i=rest->rest.length<f->i<=ms.length->loop (xc 4 v ms) f (i:Int)=some (if v∈rest then .inr 12 else .inl ())
 | [],i,f+1,h,hf,hi=>by
  have:ms.length<=i:=by simpa using h
  rw [zE,xc,if_neg (by simp;omega)]
  simp
 | x::r,i,f+1,h,hf,hi=>by
  obtain ⟨hx,hr⟩:=zhs h
  have hlt:i<ms.length:=(zes.1 hx).1
  rw [zE,xc,if_pos (by simp;omega),zdG hx]
  simp only [zbs]
  rw [zH (x:=v) (by omega) (by omega)]
  by_cases e:x=v
  ·rw [if_pos (by simpa using e),if_pos (by simp [e])]
  ·rw [if_neg (by simpa using e)]
   have e2:w64 ((i:Int)+1)=((i+1:Nat):Int):=by rw [zH (by omega) (by omega)];omega
   rw [e2,zjF h0 h3 hl r (i+1) f hr (by simp at hf;omega) (by omega)]
   have:(v∈x::r)=(v∈r):=by simp [show ¬ v=x from fun q=>e q.symm]
   simp only [this]
theorem zpN {fu:Nat} (hfu:6<=fu) {v:Int} (h0:0<=v) {ms:List Int} (hl:ms.length<=4):zN fu 4 v ms=some (if v>3 then 12 else if v∈ms then 12 else 0):=by
 unfold zN
 by_cases h:v>3
 ·simp [h]
 ·have:=zjF h0 (by omega) hl ms 0 fu rfl (by omega) (by omega)
  simp only [Int.ofNat_zero,Int.natCast_zero] at this
  by_cases hm:v∈ms<;>simp [h,this,hm]
section
variable {b:List Int} (hb: ∀ x∈b,zfq x) (hl:b.length<=140737488355328) {fu:Nat} (hfu:12<=fu)
include hb hl hfu
theorem r6 {a:Nat} (ha:a<=b.length) (f:Nat) (m:zg) (c:ze) (mp cd fr:Int):
  (∀ e,fld b a 22 12= .error e->loop (zh fu b) (f+1) (m,c,(a:Int),6,mp,cd,fr)=some (.inr (noM,(a:Int),e)))/\
  (∀ v a',fld b a 22 12= .ok (v,a')->loop (zh fu b) (f+1) (m,c,(a:Int),6,mp,cd,fr)=loop (zh fu b) f (m,⟨v,0,0,0,0⟩,(a':Int),7,mp,cd,(a:Int))):=by
 have hd: ∀ x∈b.drop a,zfq x:=fun x hx=>hb x (List.mem_of_mem_drop hx)
 have hg:=ze7 hd (by rw [List.length_drop];omega) hfu
 obtain ⟨fu,rfl⟩: ∃ g,fu=g+1:=⟨fu-1,by omega⟩
 unfold fld
 rcases zba hd with ⟨e,h,h0'⟩ | ⟨v,w,h,p1,p2,p3,p4⟩
 ·rw [h] at hg |-
  refine ⟨fun e' he=> ?_,fun v a' he=> ?_⟩
  ·simp only [ne_eq,h0',not_false_eq_true,if_true,Except.error.injEq] at he
   subst he
   rw [zE,zh,if_pos (by simp)]
   simp only [jA hb hl ha,hg,zbs]
   rw [if_pos (by simpa using h0')]
   rfl
  ·simp [h0'] at he
 ·rw [h] at hg |-
  rw [List.length_drop] at p2
  have e1:w64 ((a:Int)+w)=((a+w:Nat):Int):=by rw [zH (by omega) (by omega)];omega
  refine ⟨fun e' he=> ?_,fun v' a' he=> ?_⟩
  ·simp only [ne_eq,not_true_eq_false,if_false] at he
   rw [zE,zh,if_pos (by simp)]
   simp only [jA hb hl ha,hg,zbs]
   rw [if_neg (by simp),zpM]
   simp only [zbs]
   by_cases hm:v>22
   ·simp only [hm,if_true,Except.error.injEq] at he |-
    subst he
    rfl
   ·simp only [hm,if_false] at he
    cases he
  ·simp only [ne_eq,not_true_eq_false,if_false] at he
   rw [zE,zh,if_pos (by simp)]
   simp only [jA hb hl ha,hg,zbs]
   rw [if_neg (by simp),zpM]
   simp only [zbs]
   by_cases hm:v>22
   ·simp [hm] at he
   ·simp only [hm,if_false,Except.ok.injEq,Prod.mk.injEq] at he
    obtain ⟨rfl,rfl⟩:=he
    have ew:w64 v=v:=zH (by omega) (by omega)
    simp only [hm,if_false,e1,ew,Int.toNat_natCast]
    simp [qm,zH]
theorem r7 {a:Nat} (ha:a<=b.length) (f:Nat) (m:zg) (c:ze) (mp cd fr:Int):
  (∀ e,fld b a 63 12= .error e->loop (zh fu b) (f+1) (m,c,(a:Int),7,mp,cd,fr)=some (.inr (noM,(a:Int),e)))/\
  (∀ v a',fld b a 63 12= .ok (v,a')->loop (zh fu b) (f+1) (m,c,(a:Int),7,mp,cd,fr)=loop (zh fu b) f (m,⟨c.Op,v,c.A,c.B,c.Imm⟩,(a':Int),8,mp,cd,fr)):=by
 have hd: ∀ x∈b.drop a,zfq x:=fun x hx=>hb x (List.mem_of_mem_drop hx)
 have hg:=ze7 hd (by rw [List.length_drop];omega) hfu
 obtain ⟨fu,rfl⟩: ∃ g,fu=g+1:=⟨fu-1,by omega⟩
 unfold fld
 rcases zba hd with ⟨e,h,h0'⟩ | ⟨v,w,h,p1,p2,p3,p4⟩
 ·rw [h] at hg |-
  refine ⟨fun e' he=> ?_,fun v a' he=> ?_⟩
  ·simp only [ne_eq,h0',not_false_eq_true,if_true,Except.error.injEq] at he
   subst he
   rw [zE,zh,if_pos (by simp)]
   simp only [jA hb hl ha,hg,zbs]
   rw [if_pos (by simpa using h0')]
   rfl
  ·simp [h0'] at he
 ·rw [h] at hg |-
  rw [List.length_drop] at p2
  have e1:w64 ((a:Int)+w)=((a+w:Nat):Int):=by rw [zH (by omega) (by omega)];omega
  refine ⟨fun e' he=> ?_,fun v' a' he=> ?_⟩
  ·simp only [ne_eq,not_true_eq_false,if_false] at he
   rw [zE,zh,if_pos (by simp)]
   simp only [jA hb hl ha,hg,zbs]
   rw [if_neg (by simp),zfp (by omega)]
   simp only [zbs]
   by_cases hm:v>63
   ·simp only [hm,if_true,Except.error.injEq] at he |-
    subst he
    rfl
   ·simp only [hm,if_false] at he
    cases he
  ·simp only [ne_eq,not_true_eq_false,if_false] at he
   rw [zE,zh,if_pos (by simp)]
   simp only [jA hb hl ha,hg,zbs]
   rw [if_neg (by simp),zfp (by omega)]
   simp only [zbs]
   by_cases hm:v>63
   ·simp [hm] at he
   ·simp only [hm,if_false,Except.ok.injEq,Prod.mk.injEq] at he
    obtain ⟨rfl,rfl⟩:=he
    have ew:w64 v=v:=zH (by omega) (by omega)
    simp only [hm,if_false,e1,ew,Int.toNat_natCast]
    simp [qm,zH]
theorem r8 {a:Nat} (ha:a<=b.length) (f:Nat) (m:zg) (c:ze) (mp cd fr:Int):
  (∀ e,fld b a 63 12= .error e->loop (zh fu b) (f+1) (m,c,(a:Int),8,mp,cd,fr)=some (.inr (noM,(a:Int),e)))/\
  (∀ v a',fld b a 63 12= .ok (v,a')->loop (zh fu b) (f+1) (m,c,(a:Int),8,mp,cd,fr)=loop (zh fu b) f (m,⟨c.Op,c.D,v,c.B,c.Imm⟩,(a':Int),9,mp,cd,fr)):=by
 have hd: ∀ x∈b.drop a,zfq x:=fun x hx=>hb x (List.mem_of_mem_drop hx)
 have hg:=ze7 hd (by rw [List.length_drop];omega) hfu
 obtain ⟨fu,rfl⟩: ∃ g,fu=g+1:=⟨fu-1,by omega⟩
 unfold fld
 rcases zba hd with ⟨e,h,h0'⟩ | ⟨v,w,h,p1,p2,p3,p4⟩
 ·rw [h] at hg |-
  refine ⟨fun e' he=> ?_,fun v a' he=> ?_⟩
  ·simp only [ne_eq,h0',not_false_eq_true,if_true,Except.error.injEq] at he
   subst he
   rw [zE,zh,if_pos (by simp)]
   simp only [jA hb hl ha,hg,zbs]
   rw [if_pos (by simpa using h0')]
   rfl
  ·simp [h0'] at he
 ·rw [h] at hg |-
  rw [List.length_drop] at p2
  have e1:w64 ((a:Int)+w)=((a+w:Nat):Int):=by rw [zH (by omega) (by omega)];omega
  refine ⟨fun e' he=> ?_,fun v' a' he=> ?_⟩
  ·simp only [ne_eq,not_true_eq_false,if_false] at he
   rw [zE,zh,if_pos (by simp)]
   simp only [jA hb hl ha,hg,zbs]
   rw [if_neg (by simp),zfp (by omega)]
   simp only [zbs]
   by_cases hm:v>63
   ·simp only [hm,if_true,Except.error.injEq] at he |-
    subst he
    rfl
   ·simp only [hm,if_false] at he
    cases he
  ·simp only [ne_eq,not_true_eq_false,if_false] at he
   rw [zE,zh,if_pos (by simp)]
   simp only [jA hb hl ha,hg,zbs]
   rw [if_neg (by simp),zfp (by omega)]
   simp only [zbs]
   by_cases hm:v>63
   ·simp [hm] at he
   ·simp only [hm,if_false,Except.ok.injEq,Prod.mk.injEq] at he
    obtain ⟨rfl,rfl⟩:=he
    have ew:w64 v=v:=zH (by omega) (by omega)
    simp only [hm,if_false,e1,ew,Int.toNat_natCast]
    simp [qm,zH]
theorem r9 {a:Nat} (ha:a<=b.length) (f:Nat) (m:zg) (c:ze) (mp cd fr:Int):
  (∀ e,fld b a 63 12= .error e->loop (zh fu b) (f+1) (m,c,(a:Int),9,mp,cd,fr)=some (.inr (noM,(a:Int),e)))/\
  (∀ v a',fld b a 63 12= .ok (v,a')->loop (zh fu b) (f+1) (m,c,(a:Int),9,mp,cd,fr)=loop (zh fu b) f (m,⟨c.Op,c.D,c.A,v,c.Imm⟩,(a':Int),10,mp,cd,fr)):=by
 have hd: ∀ x∈b.drop a,zfq x:=fun x hx=>hb x (List.mem_of_mem_drop hx)
 have hg:=ze7 hd (by rw [List.length_drop];omega) hfu
 obtain ⟨fu,rfl⟩: ∃ g,fu=g+1:=⟨fu-1,by omega⟩
 unfold fld
 rcases zba hd with ⟨e,h,h0'⟩ | ⟨v,w,h,p1,p2,p3,p4⟩
 ·rw [h] at hg |-
  refine ⟨fun e' he=> ?_,fun v a' he=> ?_⟩
  ·simp only [ne_eq,h0',not_false_eq_true,if_true,Except.error.injEq] at he
   subst he
   rw [zE,zh,if_pos (by simp)]
   simp only [jA hb hl ha,hg,zbs]
   rw [if_pos (by simpa using h0')]
   rfl
  ·simp [h0'] at he
 ·rw [h] at hg |-
  rw [List.length_drop] at p2
  have e1:w64 ((a:Int)+w)=((a+w:Nat):Int):=by rw [zH (by omega) (by omega)];omega
  refine ⟨fun e' he=> ?_,fun v' a' he=> ?_⟩
  ·simp only [ne_eq,not_true_eq_false,if_false] at he
   rw [zE,zh,if_pos (by simp)]
   simp only [jA hb hl ha,hg,zbs]
   rw [if_neg (by simp),zfp (by omega)]
   simp only [zbs]
   by_cases hm:v>63
   ·simp only [hm,if_true,Except.error.injEq] at he |-
    subst he
    rfl
   ·simp only [hm,if_false] at he
    cases he
  ·simp only [ne_eq,not_true_eq_false,if_false] at he
   rw [zE,zh,if_pos (by simp)]
   simp only [jA hb hl ha,hg,zbs]
   rw [if_neg (by simp),zfp (by omega)]
   simp only [zbs]
   by_cases hm:v>63
   ·simp [hm] at he
   ·simp only [hm,if_false,Except.ok.injEq,Prod.mk.injEq] at he
    obtain ⟨rfl,rfl⟩:=he
    have ew:w64 v=v:=zH (by omega) (by omega)
    simp only [hm,if_false,e1,ew,Int.toNat_natCast]
    simp [qm,zH]
theorem r3 {a:Nat} (ha:a<=b.length) (f:Nat) (c:ze) (mp cd fr:Int):
  (∀ e,fld b a 4 11= .error e->loop (zh fu b) (f+1) (⟨[],[]⟩,c,(a:Int),3,mp,cd,fr)=some (.inr (noM,(a:Int),e)))/\
  (∀ v a',fld b a 4 11= .ok (v,a')->loop (zh fu b) (f+1) (⟨[],[]⟩,c,(a:Int),3,mp,cd,fr)=loop (zh fu b) f (⟨[],[]⟩,c,(a':Int),if 0<v then 4 else 5,v,cd,fr)):=by
 have hd: ∀ x∈b.drop a,zfq x:=fun x hx=>hb x (List.mem_of_mem_drop hx)
 have hg:=ze7 hd (by rw [List.length_drop];omega) hfu
 obtain ⟨fu,rfl⟩: ∃ g,fu=g+1:=⟨fu-1,by omega⟩
 unfold fld
 rcases zba hd with ⟨e,h,h0'⟩ | ⟨v,w,h,p1,p2,p3,p4⟩
 ·rw [h] at hg |-
  refine ⟨fun e' he=> ?_,fun v a' he=> ?_⟩
  ·simp only [ne_eq,h0',not_false_eq_true,if_true,Except.error.injEq] at he
   subst he
   rw [zE,zh,if_pos (by simp)]
   simp only [jA hb hl ha,hg,zbs]
   rw [if_pos (by simpa using h0')]
   rfl
  ·simp [h0'] at he
 ·rw [h] at hg |-
  rw [List.length_drop] at p2
  have e1:w64 ((a:Int)+w)=((a+w:Nat):Int):=by rw [zH (by omega) (by omega)];omega
  refine ⟨fun e' he=> ?_,fun v' a' he=> ?_⟩
  ·simp only [ne_eq,not_true_eq_false,if_false] at he
   rw [zE,zh,if_pos (by simp)]
   simp only [jA hb hl ha,hg,zbs]
   rw [if_neg (by simp),zpK]
   simp only [zbs]
   by_cases hm:v>4
   ·simp only [hm,if_true,Except.error.injEq] at he |-
    subst he
    rfl
   ·simp only [hm,if_false] at he
    cases he
  ·simp only [ne_eq,not_true_eq_false,if_false] at he
   rw [zE,zh,if_pos (by simp)]
   simp only [jA hb hl ha,hg,zbs]
   rw [if_neg (by simp),zpK]
   simp only [zbs]
   by_cases hm:v>4
   ·simp [hm] at he
   ·simp only [hm,if_false,Except.ok.injEq,Prod.mk.injEq] at he
    obtain ⟨rfl,rfl⟩:=he
    have ew:w64 v=v:=zH (by omega) (by omega)
    simp only [hm,if_false,e1,ew,Int.toNat_natCast]
    have e2:w64 (v-0)=v:=by rw [Int.sub_zero];exact ew
    by_cases hv:0<v<;>simp [qm,ew,e2,hv]
end
end Go.Proofs.YtbmknhpfkpmigaaGreatDoor
namespace Go.Proofs.YtbmknhpfkpmigaaGreatDoor
open Go.Sx
section
variable {b:List Int} (hb: ∀ x∈b,zfq x) (hl:b.length<=140737488355328) {fu:Nat} (hfu:12<=fu)
include hb hl hfu
theorem r5 {a:Nat} (ha:a<=b.length) (f:Nat) (m:zg) (c:ze) (mp cd fr:Int):
  (∀ e,fld b a 64 11= .error e->loop (zh fu b) (f+1) (m,c,(a:Int),5,mp,cd,fr)=some (.inr (noM,(a:Int),e)))/\
  (∀ v a',fld b a 64 11= .ok (v,a')->loop (zh fu b) (f+1) (m,c,(a:Int),5,mp,cd,fr)=if v=0 then some (.inr (noM,(a:Int),12)) else loop (zh fu b) f (m,c,(a':Int),6,mp,v,fr)):=by
 have hd: ∀ x∈b.drop a,zfq x:=fun x hx=>hb x (List.mem_of_mem_drop hx)
 have hg:=ze7 hd (by rw [List.length_drop];omega) hfu
 obtain ⟨fu,rfl⟩: ∃ g,fu=g+1:=⟨fu-1,by omega⟩
 unfold fld
 rcases zba hd with ⟨e,h,h0'⟩ | ⟨v,w,h,p1,p2,p3,p4⟩
 ·rw [h] at hg |-
  refine ⟨fun e' he=> ?_,fun v a' he=> ?_⟩
  ·simp only [ne_eq,h0',not_false_eq_true,if_true,Except.error.injEq] at he
   subst he
   rw [zE,zh,if_pos (by simp)]
   simp only [jA hb hl ha,hg,zbs]
   rw [if_pos (by simpa using h0')]
   rfl
  ·simp [h0'] at he
 ·rw [h] at hg |-
  rw [List.length_drop] at p2
  have e1:w64 ((a:Int)+w)=((a+w:Nat):Int):=by rw [zH (by omega) (by omega)];omega
  refine ⟨fun e' he=> ?_,fun v' a' he=> ?_⟩
  ·simp only [ne_eq,not_true_eq_false,if_false] at he
   rw [zE,zh,if_pos (by simp)]
   simp only [jA hb hl ha,hg,zbs]
   rw [if_neg (by simp),zpL]
   simp only [zbs]
   by_cases hm:v>64
   ·simp only [hm,if_true,Except.error.injEq] at he |-
    subst he
    rfl
   ·simp only [hm,if_false] at he
    cases he
  ·simp only [ne_eq,not_true_eq_false,if_false] at he
   rw [zE,zh,if_pos (by simp)]
   simp only [jA hb hl ha,hg,zbs]
   rw [if_neg (by simp),zpL]
   simp only [zbs]
   by_cases hm:v>64
   ·simp [hm] at he
   ·simp only [hm,if_false,Except.ok.injEq,Prod.mk.injEq] at he
    obtain ⟨rfl,rfl⟩:=he
    have ew:w64 v=v:=zH (by omega) (by omega)
    simp only [hm,if_false,e1,ew,Int.toNat_natCast]
    by_cases hv:v=0
    ·subst hv;simp [noM]
    ·simp [qm,zH,hv]
theorem r4 {a:Nat} (ha:a<=b.length) (f:Nat) (ms:List Int) (hms:ms.length<4) (c:ze) (mp cd fr:Int) (hmp:(ms.length:Int)<mp) (hmp4:mp<=4):
  (∀ e,fld b a 3 12= .error e->loop (zh fu b) (f+1) (⟨ms,[]⟩,c,(a:Int),4,mp,cd,fr)=some (.inr (noM,(a:Int),e)))/\
  (∀ v a',fld b a 3 12= .ok (v,a')->loop (zh fu b) (f+1) (⟨ms,[]⟩,c,(a:Int),4,mp,cd,fr)=if v∈ms then some (.inr (noM,(a:Int),12)) else loop (zh fu b) f (⟨ms++ [v],[]⟩,c,(a':Int),if (ms.length:Int)+1<mp then 4 else 5,mp,cd,fr)):=by
 have hd: ∀ x∈b.drop a,zfq x:=fun x hx=>hb x (List.mem_of_mem_drop hx)
 have hg:=ze7 hd (by rw [List.length_drop];omega) hfu
 unfold fld
 rcases zba hd with ⟨e,h,h0'⟩ | ⟨v,w,h,p1,p2,p3,p4⟩
 ·rw [h] at hg |-
  refine ⟨fun e' he=> ?_,fun v a' he=> ?_⟩
  ·simp only [ne_eq,h0',not_false_eq_true,if_true,Except.error.injEq] at he
   subst he
   rw [zE,zh,if_pos (by simp)]
   simp only [jA hb hl ha,hg,zbs]
   rw [if_pos (by simpa using h0')]
   rfl
  ·simp [h0'] at he
 ·rw [h] at hg |-
  rw [List.length_drop] at p2
  have e1:w64 ((a:Int)+w)=((a+w:Nat):Int):=by rw [zH (by omega) (by omega)];omega
  refine ⟨fun e' he=> ?_,fun v' a' he=> ?_⟩
  ·simp only [ne_eq,not_true_eq_false,if_false] at he
   rw [zE,zh,if_pos (by simp)]
   simp only [jA hb hl ha,hg,zbs]
   rw [if_neg (by simp),zpN (by omega) p3 (by omega)]
   simp only [zbs]
   by_cases hm:v>3
   ·simp only [hm,if_true,Except.error.injEq] at he |-
    subst he
    rfl
   ·simp only [hm,if_false] at he
    cases he
  ·simp only [ne_eq,not_true_eq_false,if_false] at he
   rw [zE,zh,if_pos (by simp)]
   simp only [jA hb hl ha,hg,zbs]
   rw [if_neg (by simp),zpN (by omega) p3 (by omega)]
   simp only [zbs]
   by_cases hm:v>3
   ·simp [hm] at he
   ·simp only [hm,if_false,Except.ok.injEq,Prod.mk.injEq] at he
    obtain ⟨rfl,rfl⟩:=he
    have ew:w64 v=v:=zH (by omega) (by omega)
    simp only [hm,if_false,e1,ew,Int.toNat_natCast]
    by_cases hv:v∈ms
    ·simp [noM,hv]
    ·have hroom:room (ms.length+ [v].length) 8=some ():=by unfold Go.Sx.room;rw [if_pos (by simp;omega)]
     have e3:w64 (mp-((ms++ [v]).length:Int))=mp-((ms.length:Int)+1):=by rw [zH (by simp;omega) (by simp;omega)];simp
     have e4:w64 (mp-((ms.length:Int)+1))=mp-((ms.length:Int)+1):=zH (by omega) (by omega)
     simp only [hv,if_false,hroom,zbs,e3]
     by_cases hq:(ms.length:Int)+1<mp
     ·simp [qm,hq,hroom,e3,e4,show (0:Int)<mp-((ms.length:Int)+1) by omega]
     ·simp [qm,hq,hroom,e3,e4,show ¬ (0:Int)<mp-((ms.length:Int)+1) by omega]
theorem r10 {a:Nat} (ha:a<=b.length) (f:Nat) (ms:List Int) (cs:List ze) (hcs:cs.length<64) (c:ze) (mp cd fr:Int) (hcd:(cs.length:Int)<cd) (hcd4:cd<=64):
  (∀ e,fld b a 18446744073709551615 12= .error e->loop (zh fu b) (f+1) (⟨ms,cs⟩,c,(a:Int),10,mp,cd,fr)=some (.inr (noM,(a:Int),e)))/\
  (∀ v a',fld b a 18446744073709551615 12= .ok (v,a')->loop (zh fu b) (f+1) (⟨ms,cs⟩,c,(a:Int),10,mp,cd,fr)=if qj ⟨c.Op,c.D,c.A,c.B,zeC v⟩ then loop (zh fu b) f (⟨ms,cs++ [⟨c.Op,c.D,c.A,c.B,zeC v⟩]⟩,⟨c.Op,c.D,c.A,c.B,zeC v⟩,(a':Int),if (cs.length:Int)+1<cd then 6 else 11,mp,cd,fr) else some (.inr (noM,fr,12))):=by
 have hd: ∀ x∈b.drop a,zfq x:=fun x hx=>hb x (List.mem_of_mem_drop hx)
 have hg:=ze7 hd (by rw [List.length_drop];omega) hfu
 obtain ⟨fu,rfl⟩: ∃ g,fu=g+1:=⟨fu-1,by omega⟩
 unfold fld
 rcases zba hd with ⟨e,h,h0'⟩ | ⟨v,w,h,p1,p2,p3,p4⟩
 ·rw [h] at hg |-
  refine ⟨fun e' he=> ?_,fun v a' he=> ?_⟩
  ·simp only [ne_eq,h0',not_false_eq_true,if_true,Except.error.injEq] at he
   subst he
   rw [zE,zh,if_pos (by simp)]
   simp only [jA hb hl ha,hg,zbs]
   rw [if_pos (by simpa using h0')]
   rfl
  ·simp [h0'] at he
 ·rw [h] at hg |-
  rw [List.length_drop] at p2
  have e1:w64 ((a:Int)+w)=((a+w:Nat):Int):=by rw [zH (by omega) (by omega)];omega
  have hno: ¬ v>18446744073709551615:=by omega
  refine ⟨fun e' he=> ?_,fun v' a' he=> ?_⟩
  ·simp [hno] at he
  ·simp only [ne_eq,not_true_eq_false,if_false,hno,Except.ok.injEq,Prod.mk.injEq] at he
   obtain ⟨rfl,rfl⟩:=he
   rw [zE,zh,if_pos (by simp)]
   simp only [jA hb hl ha,hg,zbs]
   rw [if_neg (by simp),zqk]
   simp only [zbs]
   have hbk:=zoU p3 p4
   have hroom:room (cs.length+ [(⟨c.Op,c.D,c.A,c.B,zeC v⟩:ze)].length) 40=some ():=by unfold Go.Sx.room;rw [if_pos (by simp;omega)]
   have e3:w64 (cd-((cs++ [(⟨c.Op,c.D,c.A,c.B,zeC v⟩:ze)]).length:Int))=cd-((cs.length:Int)+1):=by rw [zH (by simp;omega) (by simp;omega)];simp
   have e4:w64 (cd-((cs.length:Int)+1))=cd-((cs.length:Int)+1):=zH (by omega) (by omega)
   rcases zft (qj ⟨c.Op,c.D,c.A,c.B,zeC v⟩) with hr | hr
   ·by_cases hq:(cs.length:Int)+1<cd
    ·have hz:(0:Int)<cd-((cs.length:Int)+1):=by omega
     simp only [hbk,zbs,zbL,hr,hroom,e1,e3,qm]
     simp [hr,hroom,e1,e3,e4,hq,hz]
    ·have hz: ¬ (0:Int)<cd-((cs.length:Int)+1):=by omega
     simp only [hbk,zbs,zbL,hr,hroom,e1,e3,qm]
     simp [hr,hroom,e1,e3,e4,hq,hz,zH]
   ·simp only [hbk,zbs,zbL,hr]
    simp [hr,noM]
end
def zre (b:List Int) (ms:List Int) (t:zk×List ze):Option (zg×Int×Int):=
 (if ((t.1.e==0)&&decide (t.1.at_<((b).length:Int))) then
  (zu (zk.mk t.1.b t.1.at_ t.1.at_ t.1.e) 13).bind fun r943=>
  some r943
 else
  some t.1).bind fun o931=>
 if (o931.e != 0) then
  some ((zg.mk ([]:List Int) ([]:List ze)),o931.field,o931.e)
 else
  some ((zg.mk ms t.2),0,0)
def zjG (b:List Int) (ms:List Int) (r544:Int×zk):Option (zg×Int×Int):=
 (if (r544.1==0) then
  (zu r544.2 12).bind fun r569=>
  some r569
 else
  some r544.2).bind fun o561=>
 (loop (qF r544) 1000 (o561,([]:List ze),0)).bind (zre b ms)
def zoW (b:List Int) (r33:Int×zk):Option (zg×Int×Int):=
 (loop (jT r33) 1000 (r33.2,([]:List Int),0)).bind fun o285=>
 (zy o285.1 64 11).bind (zjG b o285.2)
theorem zjH (b:List Int):xF 1000 b=(qE 1000 ⟨b,0,0,0⟩).bind fun r23=>(zy r23 4 11).bind (zoW b):=rfl
def Bad (e:Int) (o:Option (zg×Int×Int)):Prop:=OK o (fun r=>r.1=noM/\r.2.2=e)
theorem zi0 {b:List Int} {ms:List Int} {t:zk×List ze} (h:t.1.e ≠ 0):Bad t.1.e (zre b ms t):=by
 unfold zre Bad
 rw [if_neg (by simp [h])]
 simp only [zbs]
 rw [if_pos (by simpa using h)]
 exact OK.ret ⟨rfl,rfl⟩
theorem zhA {b:List Int} {ms:List Int} {r:Int×zk} (h:r.2.e ≠ 0):Bad r.2.e (zjG b ms r):=by
 unfold zjG
 have e1:(if (r.1==0)=true then (zu r.2 12).bind fun r569=>some r569 else some r.2)=some r.2:=by
  rw [zjD h]
  split<;>rfl
 rw [e1]
 simp only [zbs]
 rw [zE,qF,if_neg (by simp [h])]
 exact zi0 (t:=(r.2,[])) h
theorem zjI {b:List Int} {r:zk} (h:r.e ≠ 0):Bad r.e (zoW b (0,r)):=by
 unfold zoW
 rw [zE,jT,if_neg (by simp)]
 simp only [zbs]
 rw [zaA h]
 exact zhA (r:=(0,r)) h
def zrf (b:List Int) (o:(zg×Int) ⊕ (zg×Int×Int)):Option (zg×Int×Int):=match o with
 | .inl t931=>
  if decide (t931.2<((b).length:Int)) then
   some ((zg.mk ([]:List Int) ([]:List ze)),t931.2,13)
  else
   some (t931.1,0,0)
 | .inr r=>some r
def Agr (P Q:Option (zg×Int×Int)):Prop:= ∃ m p q e,P=some (m,p,e)/\Q=some (m,q,e)
theorem Agr.bad {e a:Int} {b:List Int} {P:Option (zg×Int×Int)} {Q:Option ((zg×Int) ⊕ (zg×Int×Int))} (h:Bad e P) (h2:Q=some (.inr (noM,a,e))):Agr P (Q.bind (zrf b)):=by
 obtain ⟨⟨m,p,e'⟩,rfl,rfl,rfl⟩:=h
 subst h2
 exact ⟨_,_,_,_,rfl,rfl⟩
section
variable {b:List Int} (hb: ∀ x∈b,zfq x) (hl:b.length<=140737488355328) {fu:Nat} (hfu:12<=fu)
include hb hl hfu
theorem ziy (ms:List Int) (cnt:Int) (r0:zk) (hc64:cnt<=64) (mp:Int): ∀ (n:Nat) (cs:List ze) (a:Nat) (fd fr:Int) (c:ze) (f1 f2:Nat),(cs.length:Int)+n=cnt->a<=b.length->n<f1->5*n<f2->
  Agr ((loop (qF (cnt,r0)) f1 (⟨b,a,fd,0⟩,cs,(cs.length:Int))).bind (zre b ms)) ((loop (zh fu b) f2 (⟨ms,cs⟩,c,(a:Int),if n=0 then 11 else 6,mp,cnt,fr)).bind (zrf b))
 | 0,cs,a,fd,fr,c,f1+1,f2+1,hn,ha,_,_=>by
  rw [zE,qF,if_neg (by simp;omega),zE,zh,if_neg (by simp)]
  simp only [zbs]
  unfold zre zrf
  by_cases hlt:(a:Int)<(b.length:Int)
  ·simp only [hlt,decide_true,Bool.and_true,beq_self_eq_true,if_true,zu,zbs]
   exact ⟨_,_,_,_,rfl,rfl⟩
  ·simp only [hlt,decide_false,Bool.and_false,zfe,if_false,zbs]
   exact ⟨_,_,_,_,rfl,rfl⟩
 | n+1,cs,a,fd,fr,c,f1+1,f2,hn,ha,h1,h2=>by
  obtain ⟨g,rfl⟩: ∃ g,f2=g+5:=⟨f2-5,by omega⟩
  rw [zE,qF,if_pos (by simp;omega),if_neg (show ¬ n+1=0 by omega)]
  simp only
  have bad: ∀ (e:Int),zfC b a= .error e->e ≠ 0->OK (jc ⟨b,a,fd,0⟩) (fun p=>p.2.e=e)->Bad e (((jc ⟨b,a,fd,0⟩).bind fun r884=>(room (cs.length+ [r884.1].length) 40).bind fun u891=>loop (qF (cnt,r0)) f1 (r884.2,cs++ [r884.1],w64 ((cs.length:Int)+1))).bind (zre b ms)):=by
   rintro e _ he ⟨⟨i,r⟩,h3,rfl⟩
   obtain ⟨f,rfl⟩: ∃ f,f1=f+1:=⟨f1-1,by omega⟩
   rw [h3]
   have hroom:room (cs.length+ [i].length) 40=some ():=by unfold Go.Sx.room;rw [if_pos (by simp;omega)]
   simp only [zbs,hroom]
   rw [zE,qF,if_neg (by simp [he])]
   exact zi0 (t:=(r,cs++ [i])) he
  have hI:=zqj hb hl ha fd
  rcases ze5 hb hl ha (most:=22) (e0:=12) (by decide) with ⟨e,q,q0⟩ | ⟨v1,a1,q1,l1,u1,_⟩
  ·have hi:zfC b a= .error e:=by unfold zfC;rw [q];rfl
   rcases hI with ⟨e',i1,i2,i3⟩ | ⟨_,_,_,i1,_⟩
   ·rw [hi] at i1;cases i1
    exact Agr.bad (bad e hi i2 i3) ((r6 hb hl hfu ha _ _ _ _ _ _).1 e q)
   ·rw [hi] at i1;cases i1
  rw [(r6 hb hl hfu ha _ _ _ _ _ _).2 _ _ q1]
  rcases ze5 hb hl u1 (most:=63) (e0:=12) (by decide) with ⟨e,q,q0⟩ | ⟨v2,a2,q2,l2,u2,_⟩
  ·have hi:zfC b a= .error e:=by unfold zfC;rw [q1];simp only [Except.bind];rw [q]
   rcases hI with ⟨e',i1,i2,i3⟩ | ⟨_,_,_,i1,_⟩
   ·rw [hi] at i1;cases i1
    exact Agr.bad (bad e hi i2 i3) ((r7 hb hl hfu u1 _ _ _ _ _ _).1 e q)
   ·rw [hi] at i1;cases i1
  rw [(r7 hb hl hfu u1 _ _ _ _ _ _).2 _ _ q2]
  rcases ze5 hb hl u2 (most:=63) (e0:=12) (by decide) with ⟨e,q,q0⟩ | ⟨v3,a3,q3,l3,u3,_⟩
  ·have hi:zfC b a= .error e:=by unfold zfC;rw [q1];simp only [Except.bind];rw [q2];simp only;rw [q]
   rcases hI with ⟨e',i1,i2,i3⟩ | ⟨_,_,_,i1,_⟩
   ·rw [hi] at i1;cases i1
    exact Agr.bad (bad e hi i2 i3) ((r8 hb hl hfu u2 _ _ _ _ _ _).1 e q)
   ·rw [hi] at i1;cases i1
  rw [(r8 hb hl hfu u2 _ _ _ _ _ _).2 _ _ q3]
  rcases ze5 hb hl u3 (most:=63) (e0:=12) (by decide) with ⟨e,q,q0⟩ | ⟨v4,a4,q4,l4,u4,_⟩
  ·have hi:zfC b a= .error e:=by unfold zfC;rw [q1];simp only [Except.bind];rw [q2];simp only;rw [q3];simp only;rw [q]
   rcases hI with ⟨e',i1,i2,i3⟩ | ⟨_,_,_,i1,_⟩
   ·rw [hi] at i1;cases i1
    exact Agr.bad (bad e hi i2 i3) ((r9 hb hl hfu u3 _ _ _ _ _ _).1 e q)
   ·rw [hi] at i1;cases i1
  rw [(r9 hb hl hfu u3 _ _ _ _ _ _).2 _ _ q4]
  rcases ze5 hb hl u4 (most:=18446744073709551615) (e0:=12) (by decide) with ⟨e,q,q0⟩ | ⟨v5,a5,q5,l5,u5,_⟩
  ·have hi:zfC b a= .error e:=by unfold zfC;rw [q1];simp only [Except.bind];rw [q2];simp only;rw [q3];simp only;rw [q4];simp only;rw [q]
   rcases hI with ⟨e',i1,i2,i3⟩ | ⟨_,_,_,i1,_⟩
   ·rw [hi] at i1;cases i1
    exact Agr.bad (bad e hi i2 i3) ((r10 hb hl hfu u4 _ _ _ (by omega) _ _ _ _ (by omega) (by omega)).1 e q)
   ·rw [hi] at i1;cases i1
  have hi:zfC b a=if qj ⟨v1,v2,v3,v4,zeC v5⟩ then .ok (⟨v1,v2,v3,v4,zeC v5⟩,a5) else .error 12:=by
   unfold zfC;rw [q1];simp only [Except.bind];rw [q2];simp only;rw [q3];simp only;rw [q4];simp only;rw [q5]
  have h10:=(r10 hb hl hfu u4 g ms cs (by omega) ⟨v1,v2,v3,v4,0⟩ mp cnt (a:Int) (by omega) (by omega)).2 _ _ q5
  simp only at h10
  rw [h10]
  rcases zft (qj ⟨v1,v2,v3,v4,zeC v5⟩) with hr | hr
  ·rw [hr] at hi |-
   rcases hI with ⟨e',i1,i2,i3⟩ | ⟨i,a',fd',i1,i2,i3⟩
   ·rw [hi] at i1;cases i1
   ·rw [hi] at i1;cases i1
    rw [i3]
    have hroom:room (cs.length+ [(⟨v1,v2,v3,v4,zeC v5⟩:ze)].length) 40=some ():=by unfold Go.Sx.room;rw [if_pos (by simp;omega)]
    simp only [zbs,hroom,if_true]
    have e1:w64 ((cs.length:Int)+1)=((cs++ [(⟨v1,v2,v3,v4,zeC v5⟩:ze)]).length:Int):=by rw [zH (by omega) (by omega)];simp
    have e2:(if (cs.length:Int)+1<cnt then (6:Int) else 11)=if n=0 then 11 else 6:=by
     by_cases h0:n=0
     ·rw [if_pos h0,if_neg (by omega)]
     ·rw [if_neg h0,if_pos (by omega)]
    rw [e1,e2]
    exact ziy ms cnt r0 hc64 mp n _ _ _ _ _ _ _ (by simp;omega) i2 (by omega) (by omega)
  ·rw [hr] at hi |-
   rcases hI with ⟨e',i1,i2,i3⟩ | ⟨i,a',fd',i1,i2,i3⟩
   ·rw [hi] at i1;cases i1
    exact Agr.bad (bad 12 hi i2 i3) rfl
   ·rw [hi] at i1;cases i1
end
end Go.Proofs.YtbmknhpfkpmigaaGreatDoor
namespace Go.Proofs.YtbmknhpfkpmigaaGreatDoor
open Go.Sx
theorem zl7 {b:List Int} {ms:List Int} {r:zk} (h:r.e=0):Bad 12 (zjG b ms (0,r)):=by
 unfold zjG
 have e1:(if (((0:Int),r).1==0)=true then (zu r 12).bind fun r569=>some r569 else some r)=some ⟨r.b,r.at_,r.field,12⟩:=by
  rw [if_pos (by simp)]
  unfold zu
  rw [if_pos (by simp [h])]
  rfl
 simp only at e1
 simp only [e1,zbs]
 rw [zE,qF,if_neg (by simp)]
 have h:=zi0 (b:=b) (ms:=ms) (t:=((⟨r.b,r.at_,r.field,12⟩:zk),[])) (show (12:Int) ≠ 0 by decide)
 exact h
section
variable {b:List Int} (hb: ∀ x∈b,zfq x) (hl:b.length<=140737488355328) {fu:Nat} (hfu:12<=fu)
include hb hl hfu
theorem ziz (M:Int) (hM:M<=4) (r0:zk): ∀ (n:Nat) (ms:List Int) (a:Nat) (fd fr:Int) (c:ze) (f1 f2:Nat),(ms.length:Int)+n=M->a<=b.length->n<f1->n+330<f2->
  Agr ((loop (jT (M,r0)) f1 (⟨b,a,fd,0⟩,ms,(ms.length:Int))).bind fun o285=>(zy o285.1 64 11).bind (zjG b o285.2)) ((loop (zh fu b) f2 (⟨ms,[]⟩,c,(a:Int),if n=0 then 5 else 4,M,0,fr)).bind (zrf b))
 | 0,ms,a,fd,fr,c,f1+1,f2+1,hn,ha,_,h2=>by
  rw [zE,jT,if_neg (by simp;omega),if_pos rfl]
  simp only [zbs]
  rcases zdD hb hl ha fd (most:=64) (e0:=11) (by omega) (by omega) (by omega) with ⟨e,x,q1,q2,q3⟩ | ⟨v,a',q1,l1,u1,v0,v64,q3⟩
  ·rw [q3]
   simp only [zbs]
   exact Agr.bad (zhA (r:=(0,⟨b,x,a,e⟩)) q2) ((r5 hb hl hfu ha f2 _ _ _ _ _).1 e q1)
  ·rw [q3]
   simp only [zbs]
   rw [(r5 hb hl hfu ha f2 _ _ _ _ _).2 _ _ q1]
   by_cases hv:v=0
   ·subst hv
    rw [if_pos rfl]
    exact Agr.bad (zl7 rfl) rfl
   ·rw [if_neg hv]
    unfold zjG
    rw [if_neg (by simpa using hv)]
    simp only [zbs]
    have:=ziy hb hl hfu ms v ⟨b,a',a,0⟩ v64 M v.toNat [] a' a fr c 1000 f2 (by simp;omega) u1 (by omega) (by omega)
    rw [if_neg (show ¬ v.toNat=0 by omega)] at this
    exact this
 | n+1,ms,a,fd,fr,c,f1+1,f2+1,hn,ha,h1,h2=>by
  rw [zE,jT,if_pos (by simp;omega),if_neg (show ¬ n+1=0 by omega)]
  simp only
  have dead: ∀ (r:zk) (ms:List Int),r.e ≠ 0->Bad r.e ((zy r 64 11).bind (zjG b ms)):=by
   intro r ms h
   rw [zaA h]
   exact zhA (r:=(0,r)) h
  rcases zdD hb hl ha fd (most:=3) (e0:=12) (by omega) (by omega) (by omega) with ⟨e,x,q1,q2,q3⟩ | ⟨v,a',q1,l1,u1,v0,v3,q3⟩
  ·rw [q3]
   simp only [zbs,zaF]
   have e1:(if decide ((0:Int)∈ms)=true then (zu ⟨b,x,a,e⟩ 12).bind fun r497=>some r497 else some ⟨b,x,a,e⟩)=some ⟨b,x,a,e⟩:=by
    rw [zjD q2]
    split<;>rfl
   rw [e1]
   simp only [zbs]
   rw [if_pos (by simpa using q2)]
   exact Agr.bad (dead ⟨b,x,a,e⟩ ms q2) ((r4 hb hl hfu ha f2 ms (by omega) c M 0 fr (by omega) hM).1 e q1)
  ·rw [q3]
   simp only [zbs,zaF]
   rw [(r4 hb hl hfu ha f2 ms (by omega) c M 0 fr (by omega) hM).2 _ _ q1]
   by_cases hv:v∈ms
   ·rw [if_pos (by simpa using hv),if_pos hv]
    simp only [zu,beq_self_eq_true,if_true,zbs]
    rw [if_pos (by simp)]
    exact Agr.bad (b:=b) (e:=12) (a:=(a:Int)) (dead ⟨b,a',a,12⟩ ms (show (12:Int) ≠ 0 by decide)) rfl
   ·rw [if_neg (by simpa using hv),if_neg hv]
    have hroom:room (ms.length+ [v].length) 8=some ():=by unfold Go.Sx.room;rw [if_pos (by simp;omega)]
    simp only [zbs,hroom]
    rw [if_neg (by simp)]
    have e1:w64 ((ms.length:Int)+1)=((ms++ [v]).length:Int):=by rw [zH (by omega) (by omega)];simp
    have e2:(if (ms.length:Int)+1<M then (4:Int) else 5)=if n=0 then 5 else 4:=by
     by_cases h0:n=0
     ·rw [if_pos h0,if_neg (by omega)]
     ·rw [if_neg h0,if_pos (by omega)]
    rw [e1,e2]
    exact ziz M hM r0 n _ _ _ _ _ _ _ (by simp;omega) u1 (by omega) (by omega)
end
def zrA:List Int:= [84,80,1]
theorem zrB: ∀ k,k<3->zid (⟨[84,80,1].toArray⟩) ((k:Nat):Int)=idx zrA (k:Int):=by decide
theorem ziA {r:zk} (h:r.e ≠ 0) (f:Nat):loop zJ (f+1) r=some r:=by
 rw [zE,zJ,if_neg (by simp [h])]
section
variable {b:List Int} (hl:b.length<=140737488355328)
include hl
theorem ziB: ∀ (n k:Nat) (fd:Int) (f1 f2:Nat),k+n=3->k<=b.length->n+1<f1->n+1<f2->
  (∃ r a,loop zJ f1 ⟨b,k,fd,0⟩=some r/\r.e ≠ 0/\loop (zV b) f2 ((k:Int),(k:Int))=some (.inr (noM,a,r.e)))\/
  (3<=b.length/\ ∃ fd',loop zJ f1 ⟨b,k,fd,0⟩=some ⟨b,3,fd',0⟩/\loop (zV b) f2 ((k:Int),(k:Int))=some (.inl (3,3)))
 | 0,k,fd,f1+1,f2+1,hn,hk,_,_=>by
  have _:=hl
  have e:k=3:=by omega
  subst e
  right
  refine ⟨hk,fd,?_,?_⟩
  ·rw [zE,zJ,if_neg (by simp)];rfl
  ·rw [zE,zV,if_neg (by simp)];rfl
 | n+1,k,fd,f1+1,f2+1,hn,hk,h1,h2=>by
  obtain ⟨g1,rfl⟩: ∃ g,f1=g+1:=⟨f1-1,by omega⟩
  have ek:w64 ((k:Int)+1)=((k+1:Nat):Int):=by rw [zH (by omega) (by omega)];omega
  have hR:loop (zV b) (f2+1) ((k:Int),(k:Int))=if decide ((k:Int)>=((b).length:Int)) then some (.inr ((zg.mk ([]:List Int) ([]:List ze)),(k:Int),10)) else (idx b (k:Int)).bind fun x242=>(idx ([84,80,1]:List Int) (k:Int)).bind fun x250=>if (x242 != x250) then some (.inr ((zg.mk ([]:List Int) ([]:List ze)),(k:Int),12)) else loop (zV b) f2 (w64 ((k:Int)+1),w64 ((k:Int)+1)):=by
   rw [zE,zV,if_pos (by simp;omega)]
  rw [hR,zE,zJ,if_pos (by simp;omega)]
  simp only
  rcases Nat.lt_or_ge k b.length with hlt | hge
  ·have hx:b[k]? =some b[k]:=zeg hlt
   obtain ⟨h,hh⟩: ∃ h,idx zrA (k:Int)=some h:=by
    have:k=0\/k=1\/k=2:=by omega
    rcases this with rfl | rfl | rfl<;>exact ⟨_,rfl⟩
   have hh2:idx ([84,80,1]:List Int) (k:Int)=some h:=hh
   have hs:=zrB k (by omega)
   rw [hh] at hs
   rw [if_neg (by simp;omega),if_neg (by simp;omega),zdG hx,hs,hh2]
   simp only [zbs]
   by_cases he:b[k]=h
   ·rw [if_neg (by simp [he]),if_neg (by simp [he])]
    simp only [zbs,ek]
    exact ziB n (k+1) _ _ _ (by omega) (by omega) (by omega) (by omega)
   ·left
    rw [if_pos (by simpa using he),if_pos (by simpa using he)]
    simp only [zu,beq_self_eq_true,if_true,zbs]
    exact ⟨_,_,ziA (by simp) g1,by simp,rfl⟩
  ·left
   rw [if_pos (by simp;omega),if_pos (by simp;omega)]
   simp only [zu,beq_self_eq_true,if_true,zbs]
   exact ⟨_,_,ziA (by simp) g1,by simp,rfl⟩
end
theorem zjJ {b:List Int} (hb: ∀ x∈b,zfq x) (hl:b.length<=140737488355328) {fu:Nat} (hfu:400<=fu):Agr (xF 1000 b) (xD fu b):=by
 have hr:xD fu b=(loop (zV b) fu (0,0)).bind fun o136=>match o136 with
  | .inl t138=>(loop (zh fu b) fu ((zg.mk ([]:List Int) ([]:List ze)),(ze.mk 0 0 0 0 0),t138.1,t138.2,0,0,0)).bind (zrf b)
  | .inr r=>some r:=by
  unfold xD zrf
  rfl
 rw [zjH,hr]
 unfold qE
 rcases ziB hl 3 0 0 1000 fu rfl (by omega) (by omega) (by omega) with ⟨r,a,h1,h2,h3⟩ | ⟨h3,fd,h1,h2⟩
 ·have h1':loop zJ 1000 ⟨b,0,0,0⟩=some r:=h1
  have h3':loop (zV b) fu (0,0)=some (.inr (noM,a,r.e)):=h3
  rw [h1',h3']
  simp only [zbs]
  rw [zaA h2]
  obtain ⟨⟨m,p,e⟩,q1,rfl,rfl⟩:=zjI (b:=b) h2
  simp only [zbs]
  exact ⟨_,_,_,_,q1,rfl⟩
 ·have h1':loop zJ 1000 ⟨b,0,0,0⟩=some ⟨b,3,fd,0⟩:=h1
  have h2':loop (zV b) fu (0,0)=some (.inl (3,3)):=h2
  rw [h1',h2']
  simp only [zbs]
  obtain ⟨f,rfl⟩: ∃ f,fu=f+1:=⟨fu-1,by omega⟩
  rcases zdD hb hl h3 fd (most:=4) (e0:=11) (by omega) (by omega) (by omega) with ⟨e,x,q1,q2,q3⟩ | ⟨v,a',q1,l1,u1,v0,v4,q3⟩
  ·have q3':zy ⟨b,3,fd,0⟩ 4 11=some (0,⟨b,x,(3:Nat),e⟩):=q3
   rw [q3']
   simp only [zbs]
   exact Agr.bad (zjI (r:=⟨b,x,(3:Nat),e⟩) q2) ((r3 hb hl (by omega) h3 f ⟨0,0,0,0,0⟩ 0 0 0).1 e q1)
  ·have q3':zy ⟨b,3,fd,0⟩ 4 11=some (v,⟨b,a',(3:Nat),0⟩):=q3
   rw [q3']
   simp only [zbs]
   have h:=(r3 hb hl (fu:=f+1) (by omega) h3 f ⟨0,0,0,0,0⟩ 0 0 0).2 _ _ q1
   have h':loop (zh (f+1) b) (f+1) ((⟨[],[]⟩:zg),(⟨0,0,0,0,0⟩:ze),3,3,0,0,0)=_:=h
   rw [h']
   unfold zoW
   have:=ziz hb hl (fu:=f+1) (by omega) v v4 ⟨b,a',(3:Nat),0⟩ v.toNat [] a' (3:Nat) 0 ⟨0,0,0,0,0⟩ 1000 f (by simp;omega) u1 (by omega) (by omega)
   have e:(if v.toNat=0 then (5:Int) else 4)=if 0<v then 4 else 5:=by
    by_cases h0:0<v
    ·rw [if_pos h0,if_neg (by omega)]
    ·rw [if_neg h0,if_pos (by omega)]
   rw [e] at this
   exact this
end Go.Proofs.YtbmknhpfkpmigaaGreatDoor
namespace Go.Proofs.YtbmknhpfkpmigaaGreatDoor
open Go.Sx
theorem zdl {α:Type} {l:List α} {i:Nat} {x:α} (h:l[i]? =some x):l.take (i+1)=l.take i++ [x]:=by
 rw [List.take_add_one,h];rfl
theorem zkY {α:Type} {motive:List α->Prop} (h0:motive []) (h1: ∀ l x,motive l->motive (l++ [x])) (l:List α):motive l:=by
 rw [<- List.reverse_reverse l]
 induction l.reverse with
 | nil=>exact h0
 | cons x r ih=>rw [List.reverse_cons];exact h1 _ _ ih
def ziH (l:List zx):Int:=l.foldl (fun n s=>if s.Ki=3 then n+1 else n) 1
theorem zcd (l:List zx) (s:zx):ziH (l++ [s])=if s.Ki=3 then ziH l+1 else ziH l:=by
 unfold ziH;rw [List.foldl_append];rfl
theorem zgS (l:List zx):1<=ziH l/\ziH l<=l.length+1:=by
 induction l using zkY with
 | h0=>simp [ziH]
 | h1 l s ih=>
  rw [zcd,List.length_append,List.length_singleton]
  split<;>omega
def inF (w:Int) (p:Int×Int) (s:zx):Int×Int:=if s.Ki=3 then (p.1+1,p.2) else if s.Worker=w/\s.Ki=1 then (p.1,p.1) else if s.Worker=w then (p.1,0) else p
def inE (l:List zx) (w:Int):Int:=(l.foldl (inF w) (1,0)).2
theorem zo9 (l:List zx) (w:Int):l.foldl (inF w) (1,0)=(ziH l,inE l w):=by
 apply Prod.ext
 ·induction l using zkY with
  | h0=>rfl
  | h1 l s ih=>
   rw [zcd,List.foldl_append]
   simp only [List.foldl_cons,List.foldl_nil]
   unfold inF at ih |-
   split
   ·simp only [ih]
   ·split
    ·simp only [ih]
    ·split<;>simp only [ih]
 ·rfl
theorem zgs (l:List zx) (s:zx) (w:Int):inE (l++ [s]) w=if s.Ki=3 then inE l w else if s.Worker=w/\s.Ki=1 then ziH l else if s.Worker=w then 0 else inE l w:=by
 have e:inE (l++ [s]) w=(inF w (ziH l,inE l w) s).2:=by
  unfold inE
  rw [List.foldl_append,zo9]
  rfl
 rw [e]
 unfold inF
 split
 ·rfl
 ·split
  ·rfl
  ·split<;>rfl
theorem zgt (l:List zx) (w:Int):0<=inE l w/\inE l w<=ziH l:=by
 induction l using zkY with
 | h0=>simp [inE,ziH]
 | h1 l s ih=>
  have:=zgS l
  rw [zgs,zcd]
  split
  ·omega
  ·split
   ·omega
   ·split<;>omega
theorem zkZ {fu:Nat} (c:zj) (h:c.Steps.length<fu) (hl:c.Steps.length<=1000):qZ fu c=some (ziH c.Steps):=by
 apply OK.is
 unfold qZ
 refine OK.bind2 (OK.rounds (Q:=fun o=>o=ziH c.Steps) (fun s=> ∃ i:Nat,i<=c.Steps.length/\s.2=(i:Int)/\s.1=ziH (c.Steps.take i)) (fun s=>((c.Steps.length:Int)-s.2).toNat) ?_ fu (1,0) ⟨0,by omega,rfl,rfl⟩ (by simp;omega)) (fun _ h=>OK.ret h)
 rintro ⟨n,x⟩ again ⟨i,hi,rfl,rfl⟩ k
 unfold zbW
 have hb:=zgS (c.Steps.take i)
 have hlen:(c.Steps.take i).length<=1000:=by simp;omega
 refine OK.ite (fun hc=> ?_) (fun hc=> ?_)
 ·have hlt:i<c.Steps.length:=by simpa using hc
  have hw:w64 ((i:Int)+1)=((i+1:Nat):Int):=by rw [zH (by omega) (by omega)];omega
  refine OK.bind (OK.getN hlt (fun y hy=> ?_))
  have ht:=zdl hy
  refine OK.ite (fun he=>k _ ⟨i+1,by omega,hw,?_⟩ (by simp only [hw];omega)) (fun he=>k _ ⟨i+1,by omega,hw,?_⟩ (by simp only [hw];omega))
  ·rw [ht,zcd,if_pos (by simpa using he)]
   exact zH (by omega) (by omega)
  ·rw [ht,zcd,if_neg (by simpa using he)]
 ·have:i=c.Steps.length:=by simp at hc;omega
  subst this
  refine OK.ret ?_
  rw [List.take_length]
theorem zlG {fu:Nat} (c:zj) (w:Int) (h:c.Steps.length<fu) (hl:c.Steps.length<=1000):jn fu c w=some (inE c.Steps w,decide (inE c.Steps w>0)):=by
 apply OK.is
 unfold jn
 refine OK.bind2 (OK.rounds (Q:=fun o=>o=inE c.Steps w) (fun s=> ∃ i:Nat,i<=c.Steps.length/\s.2.2=(i:Int)/\s.1=ziH (c.Steps.take i)/\s.2.1=inE (c.Steps.take i) w) (fun s=>((c.Steps.length:Int)-s.2.2).toNat) ?_ fu (1,0,0) ⟨0,by omega,rfl,rfl,rfl⟩ (by simp;omega)) (fun _ h=>by subst h;exact OK.ret rfl)
 rintro ⟨n,a,x⟩ again ⟨i,hi,rfl,rfl,rfl⟩ k
 unfold zb9
 have hb:=zgS (c.Steps.take i)
 have hlen:(c.Steps.take i).length<=1000:=by simp;omega
 refine OK.ite (fun hc=> ?_) (fun hc=> ?_)
 ·have hlt:i<c.Steps.length:=by simpa using hc
  have hw:w64 ((i:Int)+1)=((i+1:Nat):Int):=by rw [zH (by omega) (by omega)];omega
  refine OK.bind (OK.getN hlt (fun y hy=> ?_))
  have ht:=zdl hy
  have e1:=zcd (c.Steps.take i) y
  have e2:=zgs (c.Steps.take i) y w
  refine OK.ite (fun he=> ?_) (fun he=>OK.ite (fun he2=> ?_) (fun he2=>OK.ite (fun he3=> ?_) (fun he3=> ?_)))
  ·have h3:y.Ki=3:=by simpa using he
   refine k _ ⟨i+1,by omega,hw,?_,?_⟩ (by simp only [hw];omega)
   ·rw [ht,e1,if_pos h3];exact zH (by omega) (by omega)
   ·rw [ht,e2,if_pos h3]
  ·have h3: ¬ y.Ki=3:=by simpa using he
   have h4:y.Worker=w/\y.Ki=1:=by simpa using he2
   refine k _ ⟨i+1,by omega,hw,?_,?_⟩ (by simp only [hw];omega)
   ·rw [ht,e1,if_neg h3]
   ·rw [ht,e2,if_neg h3,if_pos h4]
  ·have h3: ¬ y.Ki=3:=by simpa using he
   have h4: ¬ (y.Worker=w/\y.Ki=1):=by simpa using he2
   have h5:y.Worker=w:=by simpa using he3
   refine k _ ⟨i+1,by omega,hw,?_,?_⟩ (by simp only [hw];omega)
   ·rw [ht,e1,if_neg h3]
   ·rw [ht,e2,if_neg h3,if_neg h4,if_pos h5]
  ·have h3: ¬ y.Ki=3:=by simpa using he
   have h5: ¬ y.Worker=w:=by simpa using he3
   have h4: ¬ (y.Worker=w/\y.Ki=1):=fun q=>h5 q.1
   refine k _ ⟨i+1,by omega,hw,?_,?_⟩ (by simp only [hw];omega)
   ·rw [ht,e1,if_neg h3]
   ·rw [ht,e2,if_neg h3,if_neg h4,if_neg h5]
 ·have:i=c.Steps.length:=by simp at hc;omega
  subst this
  refine OK.ret ?_
  rw [List.take_length]
def zmk (l:List qa) (k:Int):Int×Int:=l.foldl (fun p s=>if s.Hook=k then (s.Version,s.Prog) else p) (0,0)
theorem zhP (l:List qa) (s:qa) (k:Int):zmk (l++ [s]) k=if s.Hook=k then (s.Version,s.Prog) else zmk l k:=by
 unfold zmk;rw [List.foldl_append];rfl
theorem zja {fu:Nat} (t:zl) (q:Int) (h:t.Steps.length<fu) (hl:t.Steps.length<=1000):zW fu t q=some ((zmk t.Steps q).1,(zmk t.Steps q).2,decide ((zmk t.Steps q).1>0)):=by
 apply OK.is
 unfold zW
 have hw0:w64 ((t.Steps.length:Int)-1)=(t.Steps.length:Int)-1:=zH (by omega) (by omega)
 rw [hw0]
 refine OK.bind2 (OK.rounds (Q:=fun o=>match o with | .inl _=>zmk t.Steps q=(0,0) | .inr r=>r=((zmk t.Steps q).1,(zmk t.Steps q).2,decide ((zmk t.Steps q).1>0))) (fun s=> ∃ j:Nat,j<=t.Steps.length/\s=(j:Int)-1/\zmk (t.Steps.take j) q=zmk t.Steps q) (fun s=>(s+1).toNat) ?_ fu _ ⟨t.Steps.length,by omega,rfl,by rw [List.take_length]⟩ (by omega)) (fun o h=> ?_)
 ·rintro s again ⟨j,hj,rfl,he⟩ k
  unfold zaY
  refine OK.ite (fun hc=> ?_) (fun hc=> ?_)
  ·have hc':1<=j:=by simp at hc;omega
   obtain ⟨i,rfl⟩: ∃ i,j=i+1:=⟨j-1,by omega⟩
   have e:(((i+1:Nat):Int)-1)=(i:Int):=by omega
   rw [e]
   have hlt:i<t.Steps.length:=by omega
   refine OK.bind (OK.getN hlt (fun y hy=> ?_))
   rw [zdl hy,zhP] at he
   refine OK.ite (fun hh=> ?_) (fun hh=> ?_)
   ·rw [if_pos (by simpa using hh)] at he
    refine OK.ret ?_
    simp only [<- he]
   ·rw [if_neg (by simpa using hh)] at he
    exact k _ ⟨i,by omega,zH (by omega) (by omega),he⟩ (by rw [zH (by omega) (by omega)];omega)
  ·have hc':j=0:=by simp at hc;omega
   subst hc'
   refine OK.ret ?_
   rw [<- he];rfl
 ·cases o with
  | inl _=>rw [h];exact OK.ret rfl
  | inr r=>exact OK.ret h
end Go.Proofs.YtbmknhpfkpmigaaGreatDoor
namespace Go.Proofs.YtbmknhpfkpmigaaGreatDoor
open Go.Sx
def zsr:Option zr->zm->Prop
 | none,P=>P.State=2
 | some x,P=>x.mo=P.M/\((P.State=0/\x.retiring=0)\/(P.State=1/\x.retiring=P.Epoch/\0<x.retiring))
structure zej (H M n:Nat) (r:za) (m:zd):Prop where
 inv:zeQ H M 2 n r
 maps:m.Ms=M
 hooks:m.T.Hooks=H
 last:m.T.Last=r.Table.Versions.last
 tl:m.T.Steps.length<=n
 cur: ∀ k:Nat,k<H-> ∃ x,r.Table.hooks[k]? =some x/\zmk m.T.Steps k=(x.version,x.prog)/\0<=x.version/\(x.version=0->x.prog=0)
 wk:m.C.Workers=2
 cl:m.C.Steps.length<=n
 now:ziH m.C.Steps=r.Clock.now
 ins: ∀ w:Nat,w<2->r.Clock.in_[w]? =some (inE m.C.Steps w)
 pl:(m.Progs.length:Int)=r.given
 prog: ∀ (i:Nat) (P:zm),m.Progs[i]? =some P->zsr (qO r.progs ((i:Int)+1)) P
 line:m.Line=r.waiting
 sml: ∀ P∈m.Progs,P.M.Ms.length<=4
section
variable {H M n:Nat} {r:za} {m:zd}
theorem zej.mono (h:zej H M n r m) (hb:n+1<=1000):zej H M (n+1) r m:=
 {h with inv:=h.inv.mono (by omega) hb,tl:=by have:=h.tl;omega,cl:=by have:=h.cl;omega}
def zqH (H M n:Nat) (P:Option (Int×Int×za)) (Q:Option (Int×Int×zd)):Prop:=
 ∃ a e r m,P=some (a,e,r)/\Q=some (a,e,m)/\zej H M n r m
theorem zlH (h:zej H M n r m) (p:Int):OK (zT m p) (fun s=>(∃ x,qO r.progs p=some x/\x.retiring=0/\s=0)\/(∃ x,qO r.progs p=some x/\0<x.retiring/\s=1)\/(qO r.progs p=none/\s=2)):=by
 have hb:=h.inv.bound
 have hg:=h.inv.given
 have hp:=h.pl
 unfold zT
 refine OK.ite (fun hc=>OK.ret (.inr (.inr ⟨?_,rfl⟩))) (fun hc=> ?_)
 ·cases hm:qO r.progs p with
  | none=>rfl
  | some x=>
   obtain ⟨h1,h2,_⟩:=h.inv.prog p x hm
   simp at hc;omega
 ·simp at hc
  rw [zH (by omega) (by omega)]
  refine OK.bind (OK.get (by omega) (by omega) (fun P hP=>OK.ret ?_))
  have hM:=h.prog _ P hP
  have e:(((p-1).toNat:Nat):Int)+1=p:=by omega
  rw [e] at hM
  cases hm:qO r.progs p with
  | none=>rw [hm] at hM;exact .inr (.inr ⟨rfl,hM⟩)
  | some x=>
   rw [hm] at hM
   rcases hM.2 with ⟨h1,h2⟩ | ⟨h1,h2,h3⟩
   ·exact .inl ⟨x,rfl,h2,h1⟩
   ·exact .inr (.inl ⟨x,rfl,h3,h1⟩)
def znH (m:zd) (k p:Int):zd:=⟨m.Ms,⟨m.T.Hooks,m.T.Last+1,m.T.Steps++ [⟨k,p,m.T.Last+1⟩]⟩,m.C,m.Progs,m.Line⟩
def zpT (r:za) (k p:Int):za:=zgR r ⟨⟨r.Table.Versions.last+1⟩,r.Table.hooks.set k.toNat ⟨r.Table.Versions.last+1,p⟩⟩
theorem zqI (h:zej H M n r m) (hb:n+1<=1000) {k p:Int} (h0:0<=k) (h1:k<H):zej H M (n+1) (zpT r k p) (znH m k p):=by
 have hl:=h.inv.last0
 have hlen:=h.inv.hl
 have hln:=h.inv.last
 have hi:zeQ H M 2 (n+1) (zpT r k p):=zj4 h.inv hb (by simp [hlen]) (by simp;omega) (by simp;omega)
 have:=h.mono hb
 refine {this with inv:=hi,last:=by simp [znH,zpT,zgR,h.last],tl:=by simp [znH];exact h.tl,cur:=fun j hj=> ?_}
 obtain ⟨x,hx,hc,hv⟩:=h.cur j hj
 simp only [znH,zpT,zgR,zhP]
 by_cases e:k=(j:Int)
 ·subst e
  rw [if_pos rfl]
  refine ⟨⟨r.Table.Versions.last+1,p⟩,?_,by rw [h.last],by simp;omega,by simp;omega⟩
  rw [Int.toNat_natCast,List.getElem?_set_self (by omega)]
 ·rw [if_neg e]
  exact ⟨x,by rw [List.getElem?_set_ne (by omega)];exact hx,hc,hv⟩
theorem zqJ (h:zej H M n r m) {fu:Nat} (hfu:1000<fu) {k p:Int} (h0:0<=k) (h1:k<H) (sw:Bool) {x:qW} (hx:r.Table.hooks[k.toNat]? =some x):
  jL fu m.T k p sw=some (if x.version>0 then (if sw then (m.T.Last+1,0,(znH m k p).T) else (0,42,m.T)) else (if sw then (0,41,m.T) else (m.T.Last+1,0,(znH m k p).T))):=by
 have hb:=h.inv.bound
 have ht:=h.tl
 have hl:=h.inv.last0
 have hln:=h.inv.last
 have hla:=h.last
 obtain ⟨y,hy,hc,_⟩:=h.cur k.toNat (by omega)
 rw [hx] at hy;cases hy
 have e:((k.toNat:Nat):Int)=k:=by omega
 rw [e] at hc
 unfold jL
 rw [if_neg (by simp [h.hooks];omega),zja m.T k (by omega) (by omega),hc]
 simp only [zbs]
 have hw:w64 (m.T.Last+1)=m.T.Last+1:=zH (by omega) (by omega)
 have hr:room (m.T.Steps.length+1) 24=some ():=by unfold Go.Sx.room;rw [if_pos (by omega)]
 by_cases hv:x.version>0<;>cases sw<;>simp [hv,hw,hr,znH]
theorem ziI (h:zej H M n r m) (hb:n+1<=1000) {fu:Nat} (hfu:1000<fu) (k p:Int) (sw:Bool):
  zqH H M (n+1) (if sw then qi r k p else zG r k p) (zR fu m k p sw):=by
 have hm:=h.mono hb
 have hrange:(k<0\/(H:Int)<=k)\/(0<=k/\k<H):=by omega
 rcases hrange with hout | ⟨h0,h1⟩
 ·have e1:zG r k p=some (0,2,r):=by
   unfold zG
   rcases hout with q | q
   ·rw [if_pos (by simpa using q)]
   ·by_cases q2:k<0
    ·rw [if_pos (by simpa using q2)]
    ·rw [if_neg (by simpa using q2),if_pos (by simp [h.inv.hooks];omega)]
  have e2:qi r k p=some (0,2,r):=by
   unfold qi
   rcases hout with q | q
   ·rw [if_pos (by simpa using q)]
   ·by_cases q2:k<0
    ·rw [if_pos (by simpa using q2)]
    ·rw [if_neg (by simpa using q2),if_pos (by simp [h.inv.hooks];omega)]
  have e3:zR fu m k p sw=some (0,2,m):=by
   unfold zR
   rcases hout with q | q
   ·rw [if_pos (by simpa using q)];rfl
   ·by_cases q2:k<0
    ·rw [if_pos (by simpa using q2)];rfl
    ·rw [if_neg (by simpa using q2)]
     simp only [zbs]
     rw [if_pos (by simp [h.hooks];omega)]
  refine ⟨0,2,r,m,?_,e3,hm⟩
  cases sw
  ·exact e1
  ·exact e2
 ·obtain ⟨x,hx,hc,hv0,hv⟩:=h.cur k.toNat (by omega)
  have hix:idx r.Table.hooks k=some x:=by
   unfold Go.Sx.idx
   rw [if_pos h0];exact hx
  have hkn:zY r.Table k=some true:=by
   unfold zY
   simp [h.inv.hl];omega
  have htk:qr r.Table k=some (decide (x.version>0)):=by
   unfold qr
   rw [hix];rfl
  have hpub:=zmi h.inv (p:=p) h0 h1
  have hA:xC r.Table k p=some (if x.version>0 then (0,42,r.Table) else (r.Table.Versions.last+1,0,⟨⟨r.Table.Versions.last+1⟩,r.Table.hooks.set k.toNat ⟨r.Table.Versions.last+1,p⟩⟩)):=by
   unfold xC
   rw [hkn,htk]
   by_cases q:x.version>0<;>simp [q,hpub]
  have hS:vv r.Table k p=some (if x.version>0 then (r.Table.Versions.last+1,0,⟨⟨r.Table.Versions.last+1⟩,r.Table.hooks.set k.toNat ⟨r.Table.Versions.last+1,p⟩⟩) else (0,41,r.Table)):=by
   unfold vv
   rw [hkn,htk]
   by_cases q:x.version>0<;>simp [q,hpub]
  have hT:=zqJ h hfu (p:=p) h0 h1 sw hx
  have hPut:zR fu m k p sw=(zT m p).bind fun r45=>if (r45 != 0) then some (0,41,m) else (jL fu m.T k p sw).bind fun r72=>some (r72.1,r72.2.1,(zd.mk m.Ms r72.2.2 m.C m.Progs m.Line)):=by
   unfold zR
   rw [if_neg (by simp;omega)]
   simp only [zbs]
   rw [if_neg (by simp [h.hooks];omega)]
  have hAt:zG r k p=if (qO r.progs p).isSome then (qO r.progs p).bind fun y104=>if (!(y104.retiring==0)) then some (0,41,r) else (xC r.Table k p).bind fun r126=>some (r126.1,r126.2.1,(za.mk r126.2.2 r.Refs r.Clock r.hooks r.maps r.given r.progs r.waiting)) else some (0,41,r):=by
   unfold zG
   rw [if_neg (by simp;omega),if_neg (by simp [h.inv.hooks];omega)]
  have hSw:qi r k p=if (qO r.progs p).isSome then (qO r.progs p).bind fun y104=>if (!(y104.retiring==0)) then some (0,41,r) else (vv r.Table k p).bind fun r126=>some (r126.1,r126.2.1,(za.mk r126.2.2 r.Refs r.Clock r.hooks r.maps r.given r.progs r.waiting)) else some (0,41,r):=by
   unfold qi
   rw [if_neg (by simp;omega),if_neg (by simp [h.inv.hooks];omega)]
  obtain ⟨s,hs,hcase⟩:=zlH h p
  rw [hPut,hs,hAt,hSw,hT,hA,hS]
  simp only [zbs]
  rcases hcase with ⟨y,q1,q2,rfl⟩ | ⟨y,q1,q2,rfl⟩ | ⟨q1,rfl⟩
  ·rw [q1]
   have hp:=zqI h hb (p:=p) h0 h1
   by_cases q:x.version>0<;>cases sw
   ·exact ⟨0,42,r,m,by simp [q,q2],by simp [q],hm⟩
   ·exact ⟨m.T.Last+1,0,zpT r k p,znH m k p,by simp [q,q2,zpT,zgR,h.last],by simp [q,znH],hp⟩
   ·exact ⟨m.T.Last+1,0,zpT r k p,znH m k p,by simp [q,q2,zpT,zgR,h.last],by simp [q,znH],hp⟩
   ·exact ⟨0,41,r,m,by simp [q,q2],by simp [q],hm⟩
  ·rw [q1]
   refine ⟨0,41,r,m,?_,by simp,hm⟩
   have: ¬ y.retiring=0:=by omega
   cases sw<;>simp [this]
  ·rw [q1]
   refine ⟨0,41,r,m,?_,by simp,hm⟩
   cases sw<;>simp
end
end Go.Proofs.YtbmknhpfkpmigaaGreatDoor
