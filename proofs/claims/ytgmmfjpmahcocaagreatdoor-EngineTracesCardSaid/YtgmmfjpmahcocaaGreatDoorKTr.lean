import Derived.Test.YtgmmfjpmahcocaaGreatDoorKEng
import Derived.Test.YtgmmfjpmahcocaaGreatDoorKAllR
set_option linter.unusedVariables false
set_option linter.unusedSimpArgs false
namespace Go.Proofs.YtgmmfjpmahcocaaGreatDoor
open Go.Sx
theorem zgC {n b : Nat} (h : n * b <= 140737488355328) : room n b = some () := by
 unfold room
 rw [if_pos h]
def bwR : List zl -> Int -> Int
 | [], _ => 0
 | a :: l, t => if (a.Ki == 2) then 0 else if (a.Ki == 1) && (a.At == t) then a.N else bwR l t
def cs1 (t : Int) (acc : Int) (a : zl) : Int := if (a.Ki == 3) && (a.At == t) then zp (acc + a.N) else acc
def cs (l : List zl) (t : Int) : Int := l.foldl (cs1 t) 0
theorem zkM (b : zk) (t : Int) : ∀ (k fu : Nat), k <= b.Ak.length -> b.Ak.length <= 9000000 -> k < fu -> ∃ o, loop (zG b t) fu (w64 ((k : Int) - 1)) = some o /\ (match o with | .inl _ => ((0 : Int), (0 : Int)) | .inr r => r) = (bwR (b.Ak.take k).reverse t, 0) := by
 intro k
 induction k with
 | zero =>
  intro fu _ hb hf
  obtain ⟨fu, rfl⟩ : ∃ f, fu = f + 1 := ⟨fu - 1, by omega⟩
  refine ⟨.inl (), ?_, rfl⟩
  show zG b t _ _ = _
  unfold zG
  rw [zI (by omega) (by omega), if_neg (by simp)]
 | succ k ih =>
  intro fu hk hb hf
  obtain ⟨fu, rfl⟩ : ∃ f, fu = f + 1 := ⟨fu - 1, by omega⟩
  obtain ⟨a, ha, hi⟩ := xG (xs := b.Ak) (p := k) (by omega)
  have hl : (b.Ak.take (k + 1)).reverse = a :: (b.Ak.take k).reverse := by
   rw [List.take_add_one, ha]
   simp
  have e1 : w64 (((k + 1 : Nat) : Int) - 1) = (k : Int) := by rw [zI (by omega) (by omega)]; omega
  rw [hl]
  show ∃ o, zG b t (loop (zG b t) fu) (w64 (((k + 1 : Nat) : Int) - 1)) = some o /\ _
  have ih' := ih fu (by omega) hb (by omega)
  rw [e1]
  generalize loop (zG b t) fu = again at ih' |-
  unfold zG
  rw [if_pos (by simp), hi]
  simp only [zbs, bwR]
  rcases zft (a.Ki == 2) with e | e
  ·simp only [e, if_true]; exact ⟨_, rfl, rfl⟩
  rcases zft (a.Ki == 1) with e2 | e2
  ·rcases zft (a.At == t) with e3 | e3
   ·simp only [e, e2, e3, zfe, if_false, if_true, zbs, Bool.true_and]; exact ⟨_, rfl, rfl⟩
   ·simp only [e, e2, e3, zfe, if_false, if_true, zbs, Bool.true_and]; exact ih'
  ·simp only [e, e2, zfe, if_false, zbs, Bool.false_and]; exact ih'
theorem zmS (b : zk) (t : Int) (hb : b.Ak.length <= 900) : qO 1000 b t = some (if t < 0 \/ t > 15 then (0, 35) else (bwR b.Ak.reverse t, 0)) := by
 unfold qO
 by_cases h : t < 0 \/ t > 15
 ·rw [if_pos (by simpa using h), if_pos h]
 ·rw [if_neg (by simpa using h), if_neg h]
  obtain ⟨o, h1, h2⟩ := zkM b t b.Ak.length 1000 (Nat.le_refl _) (by omega) (by omega)
  rw [List.take_length] at h2
  rw [h1, <- h2]
  cases o <;> rfl
theorem zjQ (b : zk) (t : Int) : ∀ (n k fu : Nat) (acc : Int), k + n = b.Ak.length -> b.Ak.length <= 9000000 -> n < fu -> loop (zB b t) fu (acc, (k : Int)) = some ((b.Ak.drop k).foldl (cs1 t) acc) := by
 intro n
 induction n with
 | zero =>
  intro k fu acc hk hb hf
  obtain ⟨fu, rfl⟩ : ∃ f, fu = f + 1 := ⟨fu - 1, by omega⟩
  show zB b t _ _ = _
  unfold zB
  rw [if_neg (by simp; omega), List.drop_eq_nil_of_le (by omega)]
  rfl
 | succ n ih =>
  intro k fu acc hk hb hf
  obtain ⟨fu, rfl⟩ : ∃ f, fu = f + 1 := ⟨fu - 1, by omega⟩
  obtain ⟨a, ha, hi⟩ := xG (xs := b.Ak) (p := k) (by omega)
  have hd : b.Ak.drop k = a :: b.Ak.drop (k + 1) := by
   have hk2 : k < b.Ak.length := by omega
   rw [List.drop_eq_getElem_cons hk2]
   rw [zeg hk2] at ha
   cases ha; rfl
  have e1 : w64 ((k : Int) + 1) = ((k + 1 : Nat) : Int) := by rw [zI (by omega) (by omega)]; omega
  have ih' := fun acc => ih (k + 1) fu acc (by omega) hb (by omega)
  show zB b t (loop (zB b t) fu) (acc, (k : Int)) = _
  generalize loop (zB b t) fu = again at ih' |-
  unfold zB
  rw [hd, List.foldl_cons, <- ih']
  simp only
  rw [if_pos (by simp; omega), hi]
  simp only [zbs, e1]
  unfold cs1
  rcases zft (a.Ki == 3) with e2 | e2
  ·rcases zft (a.At == t) with e3 | e3
   ·simp only [e2, e3, if_true, zbs, Bool.true_and]
   ·simp only [e2, e3, zfe, if_false, if_true, zbs, Bool.true_and]
  ·simp only [e2, zfe, if_false, zbs, Bool.false_and]
theorem zlC (b : zk) (t : Int) (hb : b.Ak.length <= 900) : xB 1000 b t = some (if t < 0 \/ t > 15 then (0, 35) else (cs b.Ak t, 0)) := by
 unfold xB
 by_cases h : t < 0 \/ t > 15
 ·rw [if_pos (by simpa using h), if_pos h]
 ·rw [if_neg (by simpa using h), if_neg h]
  have := zjQ b t b.Ak.length 0 1000 0 (by omega) (by omega) (by omega)
  rw [show loop (zB b t) 1000 (0, 0) = some (cs b.Ak t) from this]
  rfl
theorem zjq (l : List zl) (a : zl) (t : Int) : cs (l ++ [a]) t = cs1 t (cs l t) a := by
 unfold cs
 rw [List.foldl_append]
 rfl
theorem zkN (l : List zl) (a : zl) (t : Int) : bwR (l ++ [a]).reverse t = if (a.Ki == 2) then 0 else if (a.Ki == 1) && (a.At == t) then a.N else bwR l.reverse t := by
 rw [List.reverse_append]
 rfl
structure Bk (S : zt) (b : zk) : Prop where
 w : ∀ t : Int, 0 <= t -> t <= 15 -> bwR b.Ak.reverse t = S.Wo.wo t.toNat
 c : ∀ t : Int, 0 <= t -> t <= 15 -> cs b.Ak t = S.Ct.cn t.toNat
theorem zkO {S : zt} {b : zk} (h : Bk S b) (hb : b.Ak.length <= 900) (t : Int) : ∃ r, xa S.Wo t = some r /\ qO 1000 b t = some r := by
 rw [zmS b t hb]
 unfold xa
 by_cases e : t < 0 \/ t > 15
 ·rw [if_pos (by simp; omega), if_pos e]; exact ⟨_, rfl, rfl⟩
 ·rw [if_neg (by simp; omega), if_neg e, h.w t (by omega) (by omega)]
  have : ain 16 t = some t.toNat := by unfold ain; rw [if_pos ⟨by omega, by omega⟩]
  rw [this]; exact ⟨_, rfl, rfl⟩
theorem zjR {S : zt} {b : zk} (h : Bk S b) (hb : b.Ak.length <= 900) (t v : Int) : ∃ e W b', jJ S.Wo t v = some (e, W) /\ jG b t v = some (e, b') /\ Bk ⟨W, S.Ct⟩ b' /\ b'.Ak.length <= b.Ak.length + 1 := by
 unfold jJ jG
 by_cases e : t < 0 \/ t > 15
 ·rw [if_pos (by simp; omega), if_pos (by simpa using e)]; exact ⟨_, _, _, rfl, rfl, ⟨h.w, h.c⟩, by omega⟩
 ·rw [if_neg (by simp; omega), if_neg (by simpa using e)]
  have : ain 16 t = some t.toNat := by unfold ain; rw [if_pos ⟨by omega, by omega⟩]
  rw [this, zgC (by simp; omega)]
  refine ⟨_, _, _, rfl, rfl, ⟨fun u h0 h1 => ?_, fun u h0 h1 => ?_⟩, by simp⟩
  ·show bwR (b.Ak ++ [zl.mk 1 t v]).reverse u = zW S.Wo.wo t.toNat v u.toNat
   rw [zkN]
   unfold zW
   by_cases e2 : t = u
   ·subst e2; simp
   ·rw [if_neg (by simp), if_neg (by simpa using e2), if_neg (by omega), h.w u h0 h1]
  ·show cs (b.Ak ++ [zl.mk 1 t v]) u = _
   rw [zjq]
   exact h.c u h0 h1
theorem zkP {S : zt} {b : zk} (h : Bk S b) (hb : b.Ak.length <= 800) (t : Int) : ∃ v e C b', qM S.Ct t = some (v, e, C) /\ jW 1000 b t = some (v, e, b') /\ Bk ⟨S.Wo, C⟩ b' /\ b'.Ak.length <= b.Ak.length + 1 := by
 unfold qM jW
 by_cases e : t < 0 \/ t > 15
 ·rw [if_pos (by simp; omega), if_pos (by simpa using e)]; exact ⟨_, _, _, _, rfl, rfl, ⟨h.w, h.c⟩, by omega⟩
 ·rw [if_neg (by simp; omega), if_neg (by simpa using e)]
  have : ain 16 t = some t.toNat := by unfold ain; rw [if_pos ⟨by omega, by omega⟩]
  rw [this, zgC (by simp; omega)]
  simp only [zbs]
  rw [zlC _ t (by simp; omega), if_neg e]
  have hc : cs (b.Ak ++ [zl.mk 3 t 1]) t = zp (S.Ct.cn t.toNat + 1) := by
   rw [zjq, h.c t (by omega) (by omega)]
   simp [cs1]
  refine ⟨_, _, _, ⟨b.Ak ++ [zl.mk 3 t 1]⟩, rfl, ?_, ⟨fun u h0 h1 => ?_, fun u h0 h1 => ?_⟩, ?_⟩
  ·show some (cs (b.Ak ++ [zl.mk 3 t 1]) t, 0, _) = _
   rw [hc]
   simp [zW]
  ·show bwR (b.Ak ++ [zl.mk 3 t 1]).reverse u = _
   rw [zkN]
   exact h.w u h0 h1
  ·show cs (b.Ak ++ [zl.mk 3 t 1]) u = zW S.Ct.cn t.toNat _ u.toNat
   unfold zW
   by_cases e2 : t = u
   ·subst e2; rw [hc]; simp
   ·rw [zjq, if_neg (by omega), h.c u h0 h1]
    simp [cs1, e2]
  ·simp
theorem zkQ {S : zt} {b : zk} (h : Bk S b) (hb : b.Ak.length <= 800) : ∃ b', xN b = some b' /\ Bk ⟨⟨fun _ => 0⟩, S.Ct⟩ b' /\ b'.Ak.length <= b.Ak.length + 1 := by
 unfold xN
 rw [zgC (by simp; omega)]
 refine ⟨_, rfl, ⟨fun u h0 h1 => ?_, fun u h0 h1 => ?_⟩, by simp⟩
 ·show bwR (b.Ak ++ [zl.mk 2 0 0]).reverse u = _
  rw [zkN]; rfl
 ·show cs (b.Ak ++ [zl.mk 2 0 0]) u = _
  rw [zjq]
  exact h.c u h0 h1
end Go.Proofs.YtgmmfjpmahcocaaGreatDoor
