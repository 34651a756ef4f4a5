import Derived.Test.YtgmmfjpmahcocaaGreatDoorKTr2
set_option linter.unusedVariables false
set_option linter.unusedSimpArgs false
namespace Go.Proofs.YtgmmfjpmahcocaaGreatDoor
open Go.Sx
theorem zkT : ∀ k : Fin 5, ∃ sg l, xH ((k : Nat) : Int) = some (sg, true) /\ sg.asks = ((k : Nat) : Int) /\ sg.isAsked = true /\ qV 1000 ((k : Nat) : Int) = some l /\ decide ((l.length : Int) > 2) = ((((k : Nat) : Int) == 2) || (((k : Nat) : Int) == 4)) := by
 intro k
 have h : ∀ k : Fin 5, ((xH ((k : Nat) : Int)).map (fun r => r.2 && r.1.isAsked && (r.1.asks == ((k : Nat) : Int)))) = some true /\ ((qV 1000 ((k : Nat) : Int)).map (fun l => decide ((l.length : Int) > 2) == ((((k : Nat) : Int) == 2) || (((k : Nat) : Int) == 4)))) = some true := by decide +kernel
 obtain ⟨h1, h2⟩ := h k
 obtain ⟨⟨sg, b⟩, g1, g2⟩ := Option.map_eq_some_iff.1 h1
 obtain ⟨l, g3, g4⟩ := Option.map_eq_some_iff.1 h2
 simp only [zae, beq_iff_eq] at g2 g4
 obtain ⟨⟨rfl, g5⟩, g6⟩ := g2
 exact ⟨sg, l, g1, g6, g5, g3, g4⟩
theorem zlD : ∀ k : Fin 2, ∃ sg b, xH (((k : Nat) : Int) + 5) = some (sg, b) /\ sg.isAsked = false := by
 intro k
 have h : ∀ k : Fin 2, ((xH (((k : Nat) : Int) + 5)).map (fun r => !r.1.isAsked)) = some true := by decide +kernel
 obtain ⟨⟨sg, b⟩, g1, g2⟩ := Option.map_eq_some_iff.1 (h k)
 exact ⟨sg, b, g1, by simpa using g2⟩
theorem zjS {h : Int} (h0 : 0 <= h) (h4 : h <= 4) (r : zE) : zbX h r = zaf h r := by
 have : h = 0 \/ h = 1 \/ h = 2 \/ h = 3 \/ h = 4 := by omega
 unfold zbX zaf
 rcases this with rfl | rfl | rfl | rfl | rfl
 ·rfl
 ·cases e : r.Found <;> simp [e]
 ·cases e : (r.E == 0) <;> simp [e]
 ·cases e : r.Found <;> simp [e]
 ·rfl
section
variable {m : zi} {j : ze} {M : zg} {p : Nat} {b : zk}
theorem zkU (hR : Run m j M p) {i : zc} (hi : m.Co[p]? = some i) : idx M.mo.Co M.at_ = some i /\ idx (st m M b).M.Co (st m M b).At = some i := by
 obtain ⟨x, hx1, hx2⟩ := xG hR.lt
 rw [hi] at hx1; cases hx1
 constructor
 ·rw [hR.mod, hR.at_]; exact hx2
 ·show idx m.Co M.at_ = _
  rw [hR.at_]; exact hx2
theorem zi1 (hR : Run m j M p) (h1 : M.sa = 1) {i : zc} (hi : m.Co[p]? = some i) (h0 : 0 <= i.Imm) (h4 : i.Imm <= 4) (c : zE) {r : Int × zg} (hr : qN M c = some r) :
  r.1 = 0 /\ r.2.sc = M.sc /\ xb (st m M b) c = some (0, st m r.2 b) := by
 obtain ⟨c1, c2⟩ := zkU (b := b) hR hi
 have o : ((st m M b).Mode != 1) = false := by show (M.sa != 1) = false; rw [h1]; rfl
 have e1 : (M.sa != 1) = false := by rw [h1]; rfl
 have g0 : idx (st m M b).Rg 0 = some (M.rg 0) := qw _ (by decide) (by decide)
 have set0 : ∀ v, (st m M b).Rg.set (Int.toNat 0) v = jY 8 (zW M.rg 0 v) := fun v => vF _ _ _
 unfold qN at hr
 unfold xb zP
 simp only [c1, e1, zbs, zfe, if_false] at hr
 simp only [c2, o, g0, set0, <- zjS h0 h4, zbs, zfe, if_false]
 obtain ⟨v, hv, hr⟩ := zek hr
 cases hr
 rw [hv]
 exact ⟨rfl, rfl, rfl⟩
theorem zkV (hS : zhg m j) (hR : Run m j M p) (h0 : M.sa = 0) (hB : Bk M.sc b) (hb : b.Ak.length <= 800) :
  ∃ a M1 b1, qI 1000 M = some (a, M1) /\ xE 1000 (st m M b) = some (a, st m M1 b1) /\ Bk M1.sc b1 /\ b1.Ak.length <= b.Ak.length + 1 := by
 obtain ⟨i, hi, _⟩ := xG hR.lt
 obtain ⟨c1, c2⟩ := zkU (b := b) hR hi
 have hg := hS.good
 have hn := hg.n64
 have hlt := hR.lt
 have hr := hg.fine.right hi
 have hop := za4 hr
 have hA := zbl hr
 have gA : idx (st m M b).Rg i.A = some (M.rg i.A.toNat) := qw _ hA.1 hA.2
 have o : ((st m M b).Mode == 1) = false := by show (M.sa == 1) = false; rw [h0]; rfl
 have o2 : ((st m M b).Mode == 2) = false := by show (M.sa == 2) = false; rw [h0]; rfl
 have e1 : (M.sa == 1) = false := by rw [h0]; rfl
 have e2 : (M.sa == 2) = false := by rw [h0]; rfl
 obtain ⟨rr, hrr, _⟩ := zjf hS hR h0 hi
 have hB0 : Bk (zg.mk M.Ev M.mo M.sc M.rg M.tu M.at_ (w64 (M.sp + 1)) M.sa).sc b := hB
 unfold qI at hrr
 simp only [c1, e1, e2, zbs, zfe, if_false] at hrr
 unfold qI xE
 simp only [c1, c2, e1, e2, o, o2, zbs, zfe, if_false]
 rcases zft (i.Op == 21) with e21 | e21
 ·have e : i.Op = 21 := by simpa using e21
  have him := zbL hr e
  obtain ⟨n, hn6⟩ := zof him.1
  simp only [e21, if_true] at hrr |-
  have g1 : idx (st m M b).Rg 1 = some (M.rg 1) := qw _ (by decide) (by decide)
  have g2 : idx (st m M b).Rg 2 = some (M.rg 2) := qw _ (by decide) (by decide)
  have g3 : idx (st m M b).Rg 3 = some (M.rg 3) := qw _ (by decide) (by decide)
  have g0 : idx (st m M b).Rg 0 = some (M.rg 0) := qw _ (by decide) (by decide)
  have set0 : ∀ v, (st m M b).Rg.set (Int.toNat 0) v = jY 8 (zW M.rg 0 v) := fun v => vF _ _ _
  unfold vm ze9 at hrr |-
  unfold vx zP
  by_cases h4 : n <= 4
  ·obtain ⟨sg, l, s1, s2, s3, s4, s5⟩ := zkT ⟨n, by omega⟩
   have s1' : xH i.Imm = some (sg, true) := by rw [hn6]; exact s1
   have s2' : sg.asks = i.Imm := by rw [hn6]; exact s2
   have s4' : qV 1000 i.Imm = some l := by rw [hn6]; exact s4
   have s5' : decide ((l.length : Int) > 2) = ((i.Imm == 2) || (i.Imm == 4)) := by rw [hn6]; exact s5
   have c4 : decide (i.Imm <= 4) = true := by simp; omega
   simp only [s1', s3, s4', s5', if_true, zbs] at hrr |-
   have gM : idx (st m M b).M.Ms (M.rg 1) = idx M.mo.Ms (M.rg 1) := by show idx m.Ms _ = _; rw [hR.mod]
   simp only [c4, g1, g2, g3, gM, if_true, zbs]
   cases hm : idx M.mo.Ms (M.rg 1) with
   | none => rw [hm] at hrr; cases hrr
   | some mp =>
    simp only [zbs]
    rcases zft ((i.Imm == 2) || (i.Imm == 4)) with e6 | e6
    ·simp only [e6, if_true, zbs, s2']
     exact ⟨_, _, b, rfl, rfl, hB, by omega⟩
    ·simp only [e6, zfe, if_false, zbs, s2']
     exact ⟨_, _, b, rfl, rfl, hB, by omega⟩
  ·obtain ⟨sg, bb, s1, s3⟩ := zlD ⟨n - 5, by omega⟩
   have s1' : xH i.Imm = some (sg, bb) := by
    have : i.Imm = (((n - 5 : Nat) : Nat) : Int) + 5 := by omega
    rw [this]; exact s1
   have c4 : decide (i.Imm <= 4) = false := by simp; omega
   simp only [s1', s3, c4, zfe, if_false, zbs]
   rcases zft (i.Imm == 5) with e5 | e5
   ·obtain ⟨v, x, C, b', v1, v2, v3, v4⟩ := zkP hB hb (w64 (M.rg 1))
    have v2' : jW 1000 (st m M b).S (w64 (M.rg 1)) = some (v, x, b') := v2
    simp only [e5, if_true, v1, v2', g1, g0, set0, zbs]
    exact ⟨_, _, b', rfl, rfl, v3, v4⟩
   ·simp only [e5, zfe, if_false, g1, g0, set0, zbs]
    exact ⟨_, _, b, rfl, rfl, hB, by omega⟩
 simp only [e21, zfe, if_false]
 rcases zft (i.Op == 22) with e22 | e22
 ·simp only [e22, if_true, gA, zf0 hA.1 hA.2, zbs]
  exact ⟨_, _, b, rfl, rfl, hB, by omega⟩
 simp only [e22, zfe, if_false]
 have n21 : i.Op ≠ 21 := by simpa using e21
 have n22 : i.Op ≠ 22 := by simpa using e22
 simp only [zea, zbs]
 have hst0 : (zf.mk (st m M b).M (st m M b).E (st m M b).S (st m M b).Rg (st m M b).Tu (st m M b).At (w64 ((st m M b).Steps + 1)) (st m M b).Mode) = st m ⟨M.Ev, M.mo, M.sc, M.rg, M.tu, M.at_, w64 (M.sp + 1), M.sa⟩ b := rfl
 simp only [hst0]
 by_cases hj : i.Op <= 14
 ·obtain ⟨M1, b1, r1, r2, r3, r4, r5, r6⟩ := zkR (m := m) (M := ⟨M.Ev, M.mo, M.sc, M.rg, M.tu, M.at_, w64 (M.sp + 1), M.sa⟩) (b := b) hB hb hR.u hr hj
  have hl : (zr i).2.1 = false := by rw [zfN hr (by omega)]
  simp only [hl, zfe, if_false, Bool.not_false, if_true, r1, r4, zbs]
  unfold zP
  refine ⟨_, _, b1, rfl, ?_, r5, r6⟩
  simp only [zbs]
  have : (st m M1 b1).At = M.at_ := r2
  rw [this]
  rfl
 ·have hld : i.Op = 20 -> 0 <= i.D /\ i.D <= 64 := fun e => by
   have := hg.fine.loop hi e
   omega
  obtain ⟨d, M1, g, r1, r2, r3, r4, r5, r6⟩ := zkS (m := m) (M := ⟨M.Ev, M.mo, M.sc, M.rg, M.tu, M.at_, w64 (M.sp + 1), M.sa⟩) (b := b) (p := p) (by omega) hR.at_ hR.u hr (by omega) (by omega) hld
  have hl : (zr i).2.1 = true := by
   by_cases e : i.Op = 20
   ·rw [zcO hr e]
   ·rw [xx hr (by omega) (by omega)]
  simp only [hl, if_true, r1, r5, zbs]
  have r6 : w64 (M.at_ + d) = (if g then w64 (M.at_ + (zr i).1) else w64 (M.at_ + 1)) := r6
  have r4 : M1.sc = M.sc := r4
  have hat : (st m M1 b).At = M.at_ := r2
  cases g with
  | true =>
   simp only [if_true] at r6 |-
   refine ⟨_, _, b, rfl, ?_, by rw [r4]; exact hB, by omega⟩
   rw [hat, r6]
   rfl
  | false =>
   simp only [zfe, if_false, Bool.not_true] at r6 |-
   unfold zP
   refine ⟨_, _, b, rfl, ?_, by rw [r4]; exact hB, by omega⟩
   simp only [zbs]
   rw [hat, r6]
   rfl
end
end Go.Proofs.YtgmmfjpmahcocaaGreatDoor
