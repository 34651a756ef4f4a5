import Derived.Test.YtgmmfjpmahcocaaGreatDoorKTr
set_option linter.unusedVariables false
set_option linter.unusedSimpArgs false
namespace Go.Proofs.YtgmmfjpmahcocaaGreatDoor
open Go.Sx
def st (m : zi) (M : zg) (b : zk) : zf := ⟨m, M.Ev, b, jY 8 M.rg, jY 64 M.tu, M.at_, M.sp, M.sa⟩
theorem zbN {m : zi} {M : zg} {b : zk} {i : zc} (hb : i.B = 8 \/ (0 <= i.B /\ i.B < 8)) : zN (st m M b) i = some (zgw i M.rg) := by
 unfold zN zgw
 rcases zft (i.B == 8) with e | e
 ·rw [if_pos e, if_pos e]
 ·have : i.B ≠ 8 := by simpa using e
  rw [if_neg (by simp [e]), if_neg (by simp [e])]
  show (idx (jY 8 M.rg) i.B).bind _ = _
  rw [qw _ (by omega) (by omega)]; rfl
theorem ziZ (op x y : Int) : ∃ b, zad op x y = some (hl op x y, b) := by
 unfold zad hl
 rcases zft (op == 16) with e | e
 ·simp only [e, if_true]; exact ⟨_, rfl⟩
 rcases zft (op == 17) with e2 | e2
 ·simp only [e, e2, zfe, if_false, if_true]; exact ⟨_, by first | rfl | simp [bne]⟩
 rcases zft (op == 18) with e3 | e3
 ·simp only [e, e2, e3, zfe, if_false, if_true]; exact ⟨_, rfl⟩
 rcases zft (op == 19) with e4 | e4
 ·simp only [e, e2, e3, e4, zfe, if_false, if_true]
  refine ⟨true, ?_⟩
  congr 2
  rw [Bool.eq_iff_iff]; simp
 ·simp only [e, e2, e3, e4, zfe, if_false]; exact ⟨_, rfl⟩
theorem zi0 {i : zc} (h : zO i = true) (ho : i.Op = 13) : i.Imm = 0 \/ i.Imm = 1 := by
 unfold zO at h
 simp only [inB, zfK] at h
 simp only [ho] at h
 simp at h
 omega
theorem zkR {m : zi} {M : zg} {b : zk} (hB : Bk M.sc b) (hb : b.Ak.length <= 800) (hu : zgv M.rg) {i : zc} (hr : zO i = true) (ho : i.Op <= 14) :
  ∃ M1 b', zT M i = some (1, M1) /\ M1.at_ = M.at_ /\ M1.mo = M.mo /\ xD 1000 (st m M b) i = some (st m M1 b') /\ Bk M1.sc b' /\ b'.Ak.length <= b.Ak.length + 1 := by
 have hop := za4 hr
 have hA := zbl hr
 have hDD := zdd hr (by omega)
 have hA8 : ain 8 i.A = some i.A.toNat := zf0 hA.1 hA.2
 have hD : ain 8 i.D = some i.D.toNat := zf0 hDD.1 hDD.2
 have gA : idx (st m M b).Rg i.A = some (M.rg i.A.toNat) := qw _ hA.1 hA.2
 have gD : idx (st m M b).Rg i.D = some (M.rg i.D.toNat) := qw _ hDD.1 hDD.2
 have set1 : ∀ v, (st m M b).Rg.set i.D.toNat v = jY 8 (zW M.rg i.D.toNat v) := fun v => vF _ _ _
 have c15 : (i.Op == 15) = false := by simp; omega
 have c20 : (i.Op == 20) = false := by simp; omega
 unfold zT xD
 rcases zft (i.Op == 0) with e0 | e0
 ·have e : i.Op = 0 := by simpa using e0
  have hs := qP hr (.inl (by omega))
  simp only [e0, if_true, zda hs, zbN hs, zbs, hD, gD, set1]
  exact ⟨_, b, rfl, rfl, rfl, rfl, hB, by omega⟩
 rcases zft (i.Op == 11) with e11 | e11
 ·have e : i.Op = 11 := by simpa using e11
  have hs := qP hr (.inl (by omega))
  obtain ⟨v, v1, v2⟩ := zkO hB (by omega) (w64 (zgw i M.rg))
  have v2' : qO 1000 (st m M b).S (w64 (zgw i M.rg)) = some v := v2
  have c3 : zY i.Op = some false := by rw [zdf, e]; rfl
  simp only [e0, e11, c3, zfe, if_false, if_true, zda hs, zbN hs, zbs, hD, gD, set1, v1, v2']
  exact ⟨_, b, rfl, rfl, rfl, rfl, hB, by omega⟩
 rcases zft (i.Op == 12) with e12 | e12
 ·have e : i.Op = 12 := by simpa using e12
  have hs := qP hr (.inl (by omega))
  obtain ⟨x, W, b', v1, v2, v3, v4⟩ := zjR hB (by omega) (w64 (zgw i M.rg)) (M.rg i.A.toNat)
  have v2' : jG (st m M b).S (w64 (zgw i M.rg)) (M.rg i.A.toNat) = some (x, b') := v2
  have c3 : zY i.Op = some false := by rw [zdf, e]; rfl
  simp only [e0, e11, e12, c3, zfe, if_false, if_true, zda hs, zbN hs, zbs, hA8, gA, v1, v2']
  exact ⟨_, b', rfl, rfl, rfl, rfl, v3, v4⟩
 rcases zft (i.Op == 13) with e13 | e13
 ·have e : i.Op = 13 := by simpa using e13
  have c3 : zY i.Op = some false := by rw [zdf, e]; rfl
  have ab : zW (zW M.rg i.D.toNat M.Ev.A) i.D.toNat M.Ev.B = zW M.rg i.D.toNat M.Ev.B := by
   funext t
   unfold zW
   split <;> rfl
  rcases zi0 hr e with hi | hi
  ·have i0 : (i.Imm == 0) = true := by simp [hi]
   have i1 : (i.Imm == 1) = false := by simp [hi]
   simp only [e0, e11, e12, e13, c3, i0, i1, zfe, if_false, if_true, zbs, hD, gD, set1, Bool.and_self]
   exact ⟨_, b, rfl, rfl, rfl, rfl, hB, by omega⟩
  ·have i0 : (i.Imm == 0) = false := by simp [hi]
   have i1 : (i.Imm == 1) = true := by simp [hi]
   simp only [e0, e11, e12, e13, c3, i0, i1, zfe, if_false, if_true, zbs, hD, gD, set1, Bool.and_false, ab]
   exact ⟨_, b, rfl, rfl, rfl, rfl, hB, by omega⟩
 rcases zft (i.Op == 14) with e14 | e14
 ·have e : i.Op = 14 := by simpa using e14
  have c3 : zY i.Op = some false := by rw [zdf, e]; rfl
  simp only [e0, e11, e12, e13, e14, c3, zfe, if_false, if_true, zbs, hD, gD, set1, Bool.false_and]
  exact ⟨_, b, rfl, rfl, rfl, rfl, hB, by omega⟩
 have o1 : 1 <= i.Op /\ i.Op <= 10 := by
  simp at e0 e11 e12 e13 e14
  omega
 have hs := qP hr (.inl (by omega))
 have hus := zfj hu hs
 have hua := hu i.A.toNat (by omega)
 have c3 : zY i.Op = some true := by rw [zdf]; simp [inB, o1.1, o1.2]
 have c10 : (decide (1 <= i.Op) && decide (i.Op <= 10)) = true := by simp [o1.1, o1.2]
 have hra := zjc (fu := 1000) (by decide) (op := i.Op) hua hus o1.1 o1.2
 simp only [e0, e11, e12, e13, e14, c15, c20, c3, zfe, if_false, if_true, zbs, hA8, gA, zda hs, zbN hs, zed hua hus, c10, hD, gD, hra, set1]
 exact ⟨_, b, rfl, rfl, rfl, rfl, hB, by omega⟩
theorem zkS {m : zi} {M : zg} {b : zk} {p : Nat} (hp : p < 64) (hat : M.at_ = p) (hu : zgv M.rg) {i : zc} (hr : zO i = true) (h15 : 15 <= i.Op) (h20 : i.Op <= 20) (hld : i.Op = 20 -> 0 <= i.D /\ i.D <= 64) :
  ∃ d M1 g, zT M i = some (d, M1) /\ M1.at_ = M.at_ /\ M1.mo = M.mo /\ M1.sc = M.sc /\ xC (st m M b) i = some (g, st m M1 b) /\ w64 (M.at_ + d) = (if g then w64 (M.at_ + (zr i).1) else w64 (M.at_ + 1)) := by
 have hA := zbl hr
 have hA8 : ain 8 i.A = some i.A.toNat := zf0 hA.1 hA.2
 have gA : idx (st m M b).Rg i.A = some (M.rg i.A.toNat) := qw _ hA.1 hA.2
 have c0 : (i.Op == 0) = false := by simp; omega
 have c11 : (i.Op == 11) = false := by simp; omega
 have c12 : (i.Op == 12) = false := by simp; omega
 have c13 : (i.Op == 13) = false := by simp; omega
 have c14 : (i.Op == 14) = false := by simp; omega
 unfold zT xC
 rcases zft (i.Op == 15) with e15 | e15
 ·have e : i.Op = 15 := by simpa using e15
  have hJ := zcK (i := i) (by simp [xw, hr, inB]; omega)
  simp only [c0, c11, c12, c13, c14, e15, zfe, if_false, if_true]
  refine ⟨_, _, _, rfl, rfl, rfl, rfl, rfl, ?_⟩
  rw [if_pos rfl, xx hr (by omega) (by omega), zI (x := i.D + 1) (by omega) (by omega)]
 rcases zft (i.Op == 20) with e20 | e20
 ·have e : i.Op = 20 := by simpa using e20
  have ha64 : ain 64 M.at_ = some p := by rw [hat]; exact zl3 hp
  have gT : idx (st m M b).Tu (st m M b).At = some (M.tu p) := by
   show idx (jY 64 M.tu) M.at_ = _
   rw [hat, qw _ (by omega) (by omega)]; simp
  have hpos := hu i.A.toNat (by omega)
  have cpos : decide (M.rg i.A.toNat > 0) = (M.rg i.A.toNat != 0) := by
   rw [Bool.eq_iff_iff]; simp [bne_iff_ne]
   have := hpos.1
   omega
  have setT : ∀ v, (st m M b).Tu.set (Int.toNat (st m M b).At) v = jY 64 (zW M.tu p v) := by
   intro v
   have : Int.toNat (st m M b).At = p := by show Int.toNat M.at_ = p; rw [hat]; simp
   rw [this]
   exact vF _ _ _
  have hD := hld e
  simp only [c0, c11, c12, c13, c14, e15, e20, zfe, if_false, if_true, hA8, gA, gT, ha64, zbs, cpos, setT]
  have key : ∀ g : Bool, ∃ (d : Int) (M1 : zg) (g' : Bool), (if g = true then some (w64 (0 - i.D), zg.mk M.Ev M.mo M.sc M.rg (zW M.tu p (w64 (M.tu p + 1))) M.at_ M.sp M.sa) else some (1, zg.mk M.Ev M.mo M.sc M.rg (zW M.tu p 0) M.at_ M.sp M.sa)) = some (d, M1) /\ M1.at_ = M.at_ /\ M1.mo = M.mo /\ M1.sc = M.sc /\
    (if g = true then some (true, zf.mk (st m M b).M (st m M b).E (st m M b).S (st m M b).Rg (jY 64 (zW M.tu p (w64 (M.tu p + 1)))) (st m M b).At (st m M b).Steps (st m M b).Mode) else some (false, zf.mk (st m M b).M (st m M b).E (st m M b).S (st m M b).Rg (jY 64 (zW M.tu p 0)) (st m M b).At (st m M b).Steps (st m M b).Mode)) = some (g', st m M1 b) /\ w64 (M.at_ + d) = (if g' then w64 (M.at_ + (zr i).1) else w64 (M.at_ + 1)) := by
   intro g
   cases g with
   | true =>
    refine ⟨_, _, _, rfl, rfl, rfl, rfl, rfl, ?_⟩
    rw [if_pos rfl, zcO hr e, zI (x := 0 - i.D) (by omega) (by omega), Int.zero_sub]
   | false => exact ⟨_, _, _, rfl, rfl, rfl, rfl, rfl, rfl⟩
  rcases zft (M.rg i.A.toNat != 0) with e1 | e1
  ·simp only [e1, if_true, zbs]
   exact key _
  ·simp only [e1, zfe, if_false, zbs]
   exact key false
 have o1 : 16 <= i.Op /\ i.Op <= 19 := by
  simp at e15 e20
  omega
 have hs := qP hr (.inr o1)
 have hus := zfj hu hs
 have hua := hu i.A.toNat (by omega)
 have c10 : (decide (1 <= i.Op) && decide (i.Op <= 10)) = false := by simp; omega
 obtain ⟨q, hq⟩ := ziZ i.Op (M.rg i.A.toNat) (zgw i M.rg)
 have hJ := zcK (i := i) (by simp [xw, hr, inB]; omega)
 simp only [c0, c11, c12, c13, c14, e15, e20, zfe, if_false, if_true, hA8, gA, zbs, zda hs, zbN hs, zed hua hus, c10, zga, hq]
 rcases zft (hl i.Op (M.rg i.A.toNat) (zgw i M.rg)) with e1 | e1
 ·simp only [e1, if_true]
  refine ⟨_, _, _, rfl, rfl, rfl, rfl, rfl, ?_⟩
  rw [if_pos rfl, xx hr (by omega) (by omega), zI (x := i.D + 1) (by omega) (by omega)]
 ·simp only [e1, zfe, if_false]
  exact ⟨_, _, _, rfl, rfl, rfl, rfl, rfl, rfl⟩
end Go.Proofs.YtgmmfjpmahcocaaGreatDoor
