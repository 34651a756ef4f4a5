/- Texts KTr3, KTr4, KTal, KPlay, KPlays, K1WorkerApart of this proof. -/
import Derived.Test.YtbmknhpfkpmigaaGreatDoorKComeR
import Derived.Test.YtbmknhpfkpmigaaGreatDoorD1
set_option linter.unusedVariables false
set_option linter.unusedSimpArgs false
namespace Go.Proofs.YtbmknhpfkpmigaaGreatDoor
open Go.Sx
theorem zmk : ∀ k : Fin 5, ∃ sg l, xZ ((k : Nat) : Int) = some (sg, true) /\ sg.asks = ((k : Nat) : Int) /\ sg.isAsked = true /\ qO 5000 ((k : Nat) : Int) = some l /\ decide ((l.length : Int) > 2) = ((((k : Nat) : Int) == 2) || (((k : Nat) : Int) == 4)) := by
 intro k
 have h : ∀ k : Fin 5, ((xZ ((k : Nat) : Int)).map (fun r => r.2 && r.1.isAsked && (r.1.asks == ((k : Nat) : Int)))) = some true /\ ((qO 5000 ((k : Nat) : Int)).map (fun l => decide ((l.length : Int) > 2) == ((((k : Nat) : Int) == 2) || (((k : Nat) : Int) == 4)))) = some true := by decide +kernel
 obtain ⟨h1, h2⟩ := h k
 obtain ⟨⟨sg, b⟩, g1, g2⟩ := Option.map_eq_some_iff.1 h1
 obtain ⟨l, g3, g4⟩ := Option.map_eq_some_iff.1 h2
 simp only [zae, beq_iff_eq] at g2 g4
 obtain ⟨⟨rfl, g5⟩, g6⟩ := g2
 exact ⟨sg, l, g1, g6, g5, g3, g4⟩
theorem znn : ∀ k : Fin 2, ∃ sg b, xZ (((k : Nat) : Int) + 5) = some (sg, b) /\ sg.isAsked = false := by
 intro k
 have h : ∀ k : Fin 2, ((xZ (((k : Nat) : Int) + 5)).map (fun r => !r.1.isAsked)) = some true := by decide +kernel
 obtain ⟨⟨sg, b⟩, g1, g2⟩ := Option.map_eq_some_iff.1 (h k)
 exact ⟨sg, b, g1, by simpa using g2⟩
theorem zkX {h : Int} (h0 : 0 <= h) (h4 : h <= 4) (r : xz) : zbc h r = xW h r := by
 have : h = 0 \/ h = 1 \/ h = 2 \/ h = 3 \/ h = 4 := by omega
 unfold zbc xW
 rcases this with rfl | rfl | rfl | rfl | rfl
 ·rfl
 ·cases e : r.Found <;> simp [e]
 ·cases e : (r.E == 0) <;> simp [e]
 ·cases e : r.Found <;> simp [e]
 ·rfl
section
variable {m : zj} {j : zf} {M : EM} {p : Nat} {b : zi}
theorem zml (hR : Run m j M p) {i : zc} (hi : m.Co[p]? = some i) : idx M.mo.Co M.at_ = some i /\ idx (st m M b).M.Co (st m M b).At = some i := by
 obtain ⟨x, hx1, hx2⟩ := vz hR.lt
 rw [hi] at hx1; cases hx1
 constructor
 ·rw [hR.mod, hR.at_]; exact hx2
 ·show idx m.Co M.at_ = _
  rw [hR.at_]; exact hx2
theorem zjR (hR : Run m j M p) (h1 : M.sa = 1) {i : zc} (hi : m.Co[p]? = some i) (h0 : 0 <= i.Imm) (h4 : i.Imm <= 4) (c : xz) {r : Int × EM} (hr : zcq M c = some r) :
  r.1 = 0 /\ r.2.sc = M.sc /\ zem (st m M b) c = some (0, st m r.2 b) := by
 obtain ⟨c1, c2⟩ := zml (b := b) hR hi
 have o : ((st m M b).Mode != 1) = false := by show (M.sa != 1) = false; rw [h1]; rfl
 have e1 : (M.sa != 1) = false := by rw [h1]; rfl
 have g0 : idx (st m M b).Rg 0 = some (M.rg 0) := jv _ (by decide) (by decide)
 have set0 : ∀ v, (st m M b).Rg.set (Int.toNat 0) v = xE 8 (jf M.rg 0 v) := fun v => zau _ _ _
 unfold zcq at hr
 unfold zem zhZ
 simp only [c1, e1, zbs, zfe, if_false] at hr
 simp only [c2, o, g0, set0, <- zkX h0 h4, zbs, zfe, if_false]
 obtain ⟨v, hv, hr⟩ := zn hr
 cases hr
 rw [hv]
 exact ⟨rfl, rfl, rfl⟩
theorem zmm (hS : zhR m j) (hR : Run m j M p) (h0 : M.sa = 0) (hB : Bk M.sc b) (hb : b.Ak.length <= 4800) :
  ∃ a M1 b1, zel 5000 M = some (a, M1) /\ zgX 5000 (st m M b) = some (a, st m M1 b1) /\ Bk M1.sc b1 /\ b1.Ak.length <= b.Ak.length + 1 := by
 obtain ⟨i, hi, _⟩ := vz hR.lt
 obtain ⟨c1, c2⟩ := zml (b := b) hR hi
 have hg := hS.good
 have hn := hg.n64
 have hlt := hR.lt
 have hr := hg.fine.right hi
 have hop := zbr hr
 have hA := zbH hr
 have gA : idx (st m M b).Rg i.A = some (M.rg i.A.toNat) := jv _ hA.1 hA.2
 have o : ((st m M b).Mode == 1) = false := by show (M.sa == 1) = false; rw [h0]; rfl
 have o2 : ((st m M b).Mode == 2) = false := by show (M.sa == 2) = false; rw [h0]; rfl
 have e1 : (M.sa == 1) = false := by rw [h0]; rfl
 have e2 : (M.sa == 2) = false := by rw [h0]; rfl
 obtain ⟨rr, hrr, _⟩ := zj7 hS hR h0 hi
 have hB0 : Bk (EM.mk M.Ev M.mo M.sc M.rg M.tu M.at_ (w64 (M.sp + 1)) M.sa).sc b := hB
 unfold zel at hrr
 simp only [c1, e1, e2, zbs, zfe, if_false] at hrr
 unfold zel zgX
 simp only [c1, c2, e1, e2, o, o2, zbs, zfe, if_false]
 rcases zft (i.Op == 21) with e21 | e21
 ·have e : i.Op = 21 := by simpa using e21
  have him := zbX hr e
  obtain ⟨n, hn6⟩ := zof him.1
  simp only [e21, if_true] at hrr |-
  have g1 : idx (st m M b).Rg 1 = some (M.rg 1) := jv _ (by decide) (by decide)
  have g2 : idx (st m M b).Rg 2 = some (M.rg 2) := jv _ (by decide) (by decide)
  have g3 : idx (st m M b).Rg 3 = some (M.rg 3) := jv _ (by decide) (by decide)
  have g0 : idx (st m M b).Rg 0 = some (M.rg 0) := jv _ (by decide) (by decide)
  have set0 : ∀ v, (st m M b).Rg.set (Int.toNat 0) v = xE 8 (jf M.rg 0 v) := fun v => zau _ _ _
  unfold zgU zdc at hrr |-
  unfold zh0 zhZ
  by_cases h4 : n <= 4
  ·obtain ⟨sg, l, s1, s2, s3, s4, s5⟩ := zmk ⟨n, by omega⟩
   have s1' : xZ i.Imm = some (sg, true) := by rw [hn6]; exact s1
   have s2' : sg.asks = i.Imm := by rw [hn6]; exact s2
   have s4' : qO 5000 i.Imm = some l := by rw [hn6]; exact s4
   have s5' : decide ((l.length : Int) > 2) = ((i.Imm == 2) || (i.Imm == 4)) := by rw [hn6]; exact s5
   have c4 : decide (i.Imm <= 4) = true := by simp; omega
   simp only [s1', s3, s4', s5', if_true, zbs] at hrr |-
   have gM : idx (st m M b).M.Ms (M.rg 1) = idx M.mo.Ms (M.rg 1) := by show idx m.Ms _ = _; rw [hR.mod]
   simp only [c4, g1, g2, g3, gM, if_true, zbs]
   cases hm : idx M.mo.Ms (M.rg 1) with
   | none => rw [hm] at hrr; cases hrr
   | some mp =>
    simp only [zbs]
    rcases zft ((i.Imm == 2) || (i.Imm == 4)) with e6 | e6
    ·simp only [e6, if_true, zbs, s2']
     exact ⟨_, _, b, rfl, rfl, hB, by omega⟩
    ·simp only [e6, zfe, if_false, zbs, s2']
     exact ⟨_, _, b, rfl, rfl, hB, by omega⟩
  ·obtain ⟨sg, bb, s1, s3⟩ := znn ⟨n - 5, by omega⟩
   have s1' : xZ i.Imm = some (sg, bb) := by
    have : i.Imm = (((n - 5 : Nat) : Nat) : Int) + 5 := by omega
    rw [this]; exact s1
   have c4 : decide (i.Imm <= 4) = false := by simp; omega
   simp only [s1', s3, c4, zfe, if_false, zbs]
   rcases zft (i.Imm == 5) with e5 | e5
   ·obtain ⟨v, x, C, b', v1, v2, v3, v4⟩ := ziT hB hb (w64 (M.rg 1))
    have v2' : zI 5000 (st m M b).S (w64 (M.rg 1)) = some (v, x, b') := v2
    simp only [e5, if_true, v1, v2', g1, g0, set0, zbs]
    exact ⟨_, _, b', rfl, rfl, v3, v4⟩
   ·simp only [e5, zfe, if_false, g1, g0, set0, zbs]
    exact ⟨_, _, b, rfl, rfl, hB, by omega⟩
 simp only [e21, zfe, if_false]
 rcases zft (i.Op == 22) with e22 | e22
 ·simp only [e22, if_true, gA, zgi hA.1 hA.2, zbs]
  exact ⟨_, _, b, rfl, rfl, hB, by omega⟩
 simp only [e22, zfe, if_false]
 have n21 : i.Op ≠ 21 := by simpa using e21
 have n22 : i.Op ≠ 22 := by simpa using e22
 simp only [zeE, zbs]
 have hst0 : (SM.mk (st m M b).M (st m M b).E (st m M b).S (st m M b).Rg (st m M b).Tu (st m M b).At (w64 ((st m M b).Steps + 1)) (st m M b).Mode) = st m ⟨M.Ev, M.mo, M.sc, M.rg, M.tu, M.at_, w64 (M.sp + 1), M.sa⟩ b := rfl
 simp only [hst0]
 by_cases hj : i.Op <= 14
 ·obtain ⟨M1, b1, r1, r2, r3, r4, r5, r6⟩ := zmi (m := m) (M := ⟨M.Ev, M.mo, M.sc, M.rg, M.tu, M.at_, w64 (M.sp + 1), M.sa⟩) (b := b) hB hb hR.u hr hj
  have hl : (zr i).2.1 = false := by rw [zfZ hr (by omega)]
  simp only [hl, zfe, if_false, Bool.not_false, if_true, r1, r4, zbs]
  unfold zhZ
  refine ⟨_, _, b1, rfl, ?_, r5, r6⟩
  simp only [zbs]
  have : (st m M1 b1).At = M.at_ := r2
  rw [this]
  rfl
 ·have hld : i.Op = 20 -> 0 <= i.D /\ i.D <= 64 := fun e => by
   have := hg.fine.loop hi e
   omega
  obtain ⟨d, M1, g, r1, r2, r3, r4, r5, r6⟩ := zmj (m := m) (M := ⟨M.Ev, M.mo, M.sc, M.rg, M.tu, M.at_, w64 (M.sp + 1), M.sa⟩) (b := b) (p := p) (by omega) hR.at_ hR.u hr (by omega) (by omega) hld
  have hl : (zr i).2.1 = true := by
   by_cases e : i.Op = 20
   ·rw [zdk hr e]
   ·rw [vg hr (by omega) (by omega)]
  simp only [hl, if_true, r1, r5, zbs]
  have r6 : w64 (M.at_ + d) = (if g then w64 (M.at_ + (zr i).1) else w64 (M.at_ + 1)) := r6
  have r4 : M1.sc = M.sc := r4
  have hat : (st m M1 b).At = M.at_ := r2
  cases g with
  | true =>
   simp only [if_true] at r6 |-
   refine ⟨_, _, b, rfl, ?_, by rw [r4]; exact hB, by omega⟩
   rw [hat, r6]
   rfl
  | false =>
   simp only [zfe, if_false, Bool.not_true] at r6 |-
   unfold zhZ
   refine ⟨_, _, b, rfl, ?_, by rw [r4]; exact hB, by omega⟩
   simp only [zbs]
   rw [hat, r6]
   rfl
end
end Go.Proofs.YtbmknhpfkpmigaaGreatDoor
namespace Go.Proofs.YtbmknhpfkpmigaaGreatDoor
open Go.Sx
theorem zjS {m : zj} {o : Option zf} {p : Int} (h : qJ 5000 m = some (o, p, 0)) (E : qw) {S : zk} {b : zi} (hB : Bk S b) (hb : b.Ak.length <= 4700) :
  ∃ b', zkf 5000 m E b = some (some (st m (zlb m E S.Ct) b'), 0) /\ Bk (zlb m E S.Ct).sc b' /\ b'.Ak.length <= b.Ak.length + 1 := by
 obtain ⟨known, q, e2, h1, h2⟩ := ziz (fu := 5000) (by decide) m
 rw [zgs h] at h1
 cases h1
 obtain ⟨b', w1, w2, w3⟩ := zmh hB (by omega)
 unfold zkf
 rw [h2]
 simp only [zbs]
 rw [if_neg (by decide), w1]
 simp only [zbs]
 refine ⟨b', ?_, w2, w3⟩
 have m8 : mkLen 8 8 = some 8 := by decide
 have m64 : mkLen 64 8 = some 64 := by decide
 rw [m8, m64]
 rfl
end Go.Proofs.YtbmknhpfkpmigaaGreatDoor
namespace Go.Proofs.YtbmknhpfkpmigaaGreatDoor
open Go.Sx
def zkU (t : Int) (T : zu) (x : zm) : zu :=
 if (x.Hook != t) then T else if x.Missed then ⟨T.Runs, qf (T.Missed + 1), T.Steps, T.Calls, T.Sum⟩ else ⟨qf (T.Runs + 1), T.Missed, qf (T.Steps + x.Steps), qf (T.Calls + x.Calls), qf (T.Sum + x.Result)⟩
def tal (l : List zm) (t : Int) : zu := l.foldl (zkU t) ⟨0, 0, 0, 0, 0⟩
theorem zl9 (l : List zm) (x : zm) (t : Int) : tal (l ++ [x]) t = zkU t (tal l t) x := by simp [tal]
def T64 (T : zu) : Prop := u64 T.Runs /\ u64 T.Missed /\ u64 T.Steps /\ u64 T.Calls /\ u64 T.Sum
theorem zoG {t : Int} {T : zu} (h : T64 T) (x : zm) : T64 (zkU t T x) := by
 unfold zkU
 split
 ·exact h
 ·split
  ·exact ⟨h.1, xn _, h.2.2⟩
  ·exact ⟨xn _, h.2.1, xn _, xn _, xn _⟩
theorem zpr (l : List zm) (t : Int) : T64 (tal l t) := by
 have key : ∀ (l : List zm) (T : zu), T64 T -> T64 (l.foldl (zkU t) T) := by
  intro l
  induction l with
  | nil => intro T h; exact h
  | cons x l ih => intro T h; exact ih _ (zoG h x)
 exact key l _ ⟨⟨by decide, by decide⟩, ⟨by decide, by decide⟩, ⟨by decide, by decide⟩, ⟨by decide, by decide⟩, ⟨by decide, by decide⟩⟩
theorem zps (l : List zm) {t : Int} (h0 : 0 <= t) (h1 : t <= 3) : zaX l t = some (tal l t, 0) := by
 unfold zaX
 rw [if_neg (by simp; omega)]
 refine OK.is (OK.bind2 (R := fun o => o = tal l t) (OK.count (fun n s => s = (l.take n).foldl (zkU t) ⟨0, 0, 0, 0, 0⟩) rfl (fun q s again hq hI kk => ?_) (fun s hI => ?_)) (fun o ho => ?_))
 ·unfold zdd
  rw [ze8 hq]
  simp only [zbs]
  have e : (l.take (q + 1)).foldl (zkU t) ⟨0, 0, 0, 0, 0⟩ = zkU t s l[q] := by
   rw [List.take_succ_eq_append_getElem hq, List.foldl_append, <- hI]; rfl
  refine OK.ite (fun h => kk _ ?_) (fun h => OK.ite (fun h2 => kk _ ?_) (fun h2 => kk _ ?_))
  ·rw [e]; unfold zkU; rw [if_pos h]
  ·rw [e]; unfold zkU; rw [if_neg (by simp [h]), if_pos h2]
  ·rw [e]; unfold zkU; rw [if_neg (by simp [h]), if_neg (by simp [h2])]
 ·rw [List.take_length] at hI; exact hI
 ·subst ho; exact OK.ret rfl
theorem zqb {t : Int} (h0 : 0 <= t) (h1 : t <= 3) : ain 4 t = some t.toNat := by unfold ain; rw [if_pos ⟨by omega, by omega⟩]
theorem zma {t : Int} (h0 : 0 <= t) (h1 : t <= 3) : za5 t = some true := by
 unfold za5
 rw [show (decide (t >= 0) && decide (t < 4)) = true by simp; omega]
theorem zpt (S : zt) {t : Int} (h0 : 0 <= t) (h1 : t <= 3) : vB S t = some (S.hooks t.toNat, 0) := by
 unfold vB
 rw [zma h0 h1, zqb h0 h1]
 rfl
def zmb (S : zt) (l : List zm) : Prop := ∀ t : Int, 0 <= t -> t <= 3 -> S.hooks t.toNat = tal l t
theorem zqB (a b : zu) : zfr [a, b] = some ⟨qf (qf (0 + a.Runs) + b.Runs), qf (qf (0 + a.Missed) + b.Missed), qf (qf (0 + a.Steps) + b.Steps), qf (qf (0 + a.Calls) + b.Calls), qf (qf (0 + a.Sum) + b.Sum)⟩ := rfl
theorem wz {x : Int} (h : u64 x) : qf (0 + x) = x := by rw [Int.zero_add]; exact jJ h.1 h.2
theorem wz' {x : Int} (h : u64 x) : qf (x + 0) = x := by rw [Int.add_zero]; exact jJ h.1 h.2
theorem znl {S : zt} {l : List zm} (h : zmb S l) {k : Int} (h0 : 0 <= k) (h1 : k <= 3) (hl : l.length <= 9000) (st ca v : Int) :
  ∃ S', vK S k st ca v = some (0, S') /\ vP l k st ca v = some (l ++ [⟨k, false, st, ca, v⟩], 0) /\ zmb S' (l ++ [⟨k, false, st, ca, v⟩]) := by
 unfold vK vP
 rw [zma h0 h1, zqb h0 h1, if_neg (by simp; omega), zg6 (by simp; omega)]
 simp only [zbs, Bool.not_true, zfe, if_false, zqB]
 refine ⟨_, rfl, by first | rfl | trivial, fun t g0 g1 => ?_⟩
 rw [zl9]
 show jf S.hooks k.toNat _ t.toNat = _
 unfold jf zkU
 by_cases e : k = t
 ·subst e
  obtain ⟨r1, r2, r3, r4, r5⟩ := zpr l k
  rw [if_pos rfl, h k h0 h1, if_neg (by simp), if_neg (by simp), wz r1, wz r2, wz r3, wz r4, wz r5, wz' r2]
 ·rw [if_neg (by omega), if_pos (by simpa using e)]
  exact h t g0 g1
theorem zjO {S : zt} {l : List zm} (h : zmb S l) {k : Int} (h0 : 0 <= k) (h1 : k <= 3) (hl : l.length <= 9000) :
  ∃ S', vw S [k] = some (0, S') /\ vy l [k] = some (l ++ [⟨k, true, 0, 0, 0⟩], 0) /\ zmb S' (l ++ [⟨k, true, 0, 0, 0⟩]) := by
 have i0 : idx [k] (((0 : Nat) : Int)) = some k := rfl
 unfold vw vy
 simp only [List.length_cons, List.length_nil, Nat.zero_add, qQ, zbT, zbU, zbV, zbW, i0, zbs, zma h0 h1, zqb h0 h1, Bool.not_true, zfe, if_false,
  decide_eq_false (show ¬ k < 0 by omega), decide_eq_false (show ¬ k > 3 by omega)]
 rw [zg6 (by first | omega | (simp; omega))]
 refine ⟨_, rfl, by first | rfl | trivial, fun t g0 g1 => ?_⟩
 rw [zl9]
 show jf S.hooks k.toNat _ t.toNat = _
 unfold jf zkU
 by_cases e : k = t
 ·subst e
  rw [if_pos rfl, h k h0 h1, if_neg (by simp), if_pos rfl]
 ·rw [if_neg (by omega), if_pos (by simpa using e)]
  exact h t g0 g1
end Go.Proofs.YtbmknhpfkpmigaaGreatDoor
namespace Go.Proofs.YtbmknhpfkpmigaaGreatDoor
open Go.Sx
structure SR (m : zj) (s : ze) (M : zh) : Prop where
 h : ∀ S b, pkS s b = st m (pk M S) b
theorem SR.of {m : zj} {s : ze} {M : zh} {S : zk} {b b' : zi} (h : pkS s b = st m (pk M S) b') : SR m s M /\ b = b' := by
 unfold pkS st at h
 simp only [SM.mk.injEq] at h
 obtain ⟨h1, h2, h3, h4, h5, h6, h7, h8⟩ := h
 refine ⟨⟨fun S' b'' => ?_⟩, h3⟩
 unfold pkS st
 simp only [SM.mk.injEq]
 exact ⟨h1, h2, trivial, h4, h5, h6, h7, h8⟩
theorem zp6 {M : zh} {S : zk} {a : zA} {M' : EM} (h : zel 5000 (pk M S) = some (a, M')) : ∃ M1 S1, qm 5000 M S = some (a, M1, S1) /\ M' = pk M1 S1 := by
 rw [zom] at h
 obtain ⟨⟨a2, M1, S1⟩, h1, h2⟩ := Option.map_eq_some_iff.1 h
 cases h2
 exact ⟨M1, S1, h1, rfl⟩
theorem zp7 {M : zh} {S : zk} {c : xz} {e : Int} {M' : EM} (h : zcq (pk M S) c = some (e, M')) : ∃ M1, jR M c S = some (e, M1) /\ M' = pk M1 S := by
 rw [zlO] at h
 obtain ⟨⟨e2, M1⟩, h1, h2⟩ := Option.map_eq_some_iff.1 h
 cases h2
 exact ⟨M1, h1, rfl⟩
theorem zp8 {m : zj} {s : ze} {M M' : zh} {S S' : zk} {b b' : zi} (hs : SR m s M) {a : zA} (h : zgX 5000 (st m (pk M S) b) = some (a, st m (pk M' S') b')) :
  ∃ s', zT 5000 s b = some (a, s', b') /\ SR m s' M' := by
 rw [<- hs.h, zkJ] at h
 obtain ⟨⟨a2, s', b2⟩, h1, h2⟩ := Option.map_eq_some_iff.1 h
 simp only [zpG, Prod.mk.injEq] at h2
 obtain ⟨rfl, h3⟩ := h2
 obtain ⟨h4, rfl⟩ := SR.of h3
 exact ⟨s', h1, h4⟩
theorem zp9 {m : zj} {s : ze} {M M' : zh} {S S' : zk} {b : zi} (hs : SR m s M) {c : xz} {e : Int} (h : zem (st m (pk M S) b) c = some (e, st m (pk M' S') b)) :
  ∃ s', qR s c b = some (e, s') /\ SR m s' M' := by
 rw [<- hs.h, ziM] at h
 obtain ⟨⟨e2, s'⟩, h1, h2⟩ := Option.map_eq_some_iff.1 h
 simp only [Prod.mk.injEq] at h2
 obtain ⟨rfl, h3⟩ := h2
 exact ⟨s', h1, (SR.of h3).1⟩
theorem u00 : u64 0 /\ u64 0 := ⟨⟨by decide, by decide⟩, ⟨by decide, by decide⟩⟩
structure Runs (W : zg) (R : zd) (m : zj) (j : zf) (M : zh) (s : ze) (p : Nat) (n : Nat) : Prop where
 mach : W.job.machine = some M
 st : R.M = some s
 snd : zhR m j
 run : Run m j (pk M W.Scratch) p
 sr : SR m s M
 sa : M.sa = R.Mode - 2
 asks : R.Mode = 3 -> ∃ i, m.Co[p]? = some i /\ i.Op = 21 /\ i.Imm <= 4
 calls : W.job.calls = R.Calls
 c0 : 0 <= R.Calls
 cn : R.Calls <= n
structure WR (n : Nat) (W : zg) (R : zd) : Prop where
 mode : W.mode_ = R.Mode
 hook : W.job.hook = R.Hook
 ev : W.job.event = R.Ev
 ver : W.job.version = R.Version
 prog : W.job.prog = R.Prog
 h0 : 0 <= R.Hook
 h3 : R.Hook <= 3
 m4 : R.Mode = 0 \/ R.Mode = 1 \/ R.Mode = 2 \/ R.Mode = 3
 hooks : zmb W.Stats R.Told
 told : R.Told.length <= n
 bk : Bk W.Scratch R.Book
 asks : R.Book.Ak.length <= n
 e64 : u64 R.Ev.Ev.A /\ u64 R.Ev.Ev.B
 z : R.Mode = 0 -> R.Version = 0 /\ R.Prog = 0
 c0 : R.Mode = 1 -> W.job.calls = 0
 run : R.Mode = 2 \/ R.Mode = 3 -> ∃ m j M s p, Runs W R m j M s p n
theorem WR.up {n n' : Nat} {W : zg} {R : zd} (h : WR n W R) (hn : n <= n') : WR n' W R :=
 { h with
  told := by have := h.told; omega
  asks := by have := h.asks; omega
  run := fun hm => by
   obtain ⟨m, j, M, s, p, k⟩ := h.run hm
   exact ⟨m, j, M, s, p, { k with cn := by have := k.cn; omega }⟩ }
theorem zna : ∃ W R, zbD = some W /\ vL = some R /\ WR 0 W R := by
 refine ⟨_, _, rfl, rfl, rfl, rfl, rfl, rfl, rfl, by decide, by decide, .inl rfl, fun t _ _ => rfl, by decide, ⟨fun _ _ _ => rfl, fun _ _ _ => rfl⟩, by decide, u00, fun _ => ⟨rfl, rfl⟩, fun h => ?_, fun h => ?_⟩
 ·cases h
 ·rcases h with h | h <;> cases h
theorem zlS {n : Nat} {W : zg} {R : zd} (h : WR n W R) (k : Int) (q : jg) (hq : u64 q.Ev.A /\ u64 q.Ev.B) :
  ∃ e W' R', jY W k q = some (e, W') /\ xc R k q = some (e, R') /\ WR n W' R' := by
 unfold jY xc
 by_cases hk : k < 0 \/ k > 3
 ·rw [if_pos (by simp; omega), if_pos (by simpa using hk)]
  exact ⟨_, _, _, rfl, rfl, h⟩
 ·by_cases hm : R.Mode = 0
  ·rw [if_neg (by simp; omega), if_neg (by simp [h.mode, hm]), if_neg (by simp; omega), if_neg (by simp [hm])]
   obtain ⟨z1, z2⟩ := h.z hm
   refine ⟨_, _, _, rfl, rfl, rfl, rfl, rfl, z1.symm, z2.symm, by show 0 <= k; omega, by show k <= 3; omega, .inr (.inl rfl), h.hooks, h.told, h.bk, h.asks, hq, (fun e => by cases e), fun _ => rfl, fun e => ?_⟩
   rcases e with e | e <;> cases e
  ·rw [if_neg (by simp; omega), if_pos (by simp [h.mode, hm]), if_neg (by simp; omega), if_pos (by simp [hm])]
   exact ⟨_, _, _, rfl, rfl, h⟩
theorem zkK {n : Nat} {W : zg} {R : zd} (h : WR n W R) (hn : n <= 4600) (v g : Int) (m : zj) (h1 : m.Ms.length * 8 <= 140737488355328) (h2 : m.Co.length * 40 <= 140737488355328) :
  ∃ e W' R', ql 5000 W v g m = some (e, W') /\ qd 5000 R v g m = some (e, R') /\ WR (n + 1) W' R' := by
 unfold ql qd
 by_cases hm : R.Mode = 1
 ·rw [if_neg (by simp [h.mode, hm]), if_neg (by simp [hm])]
  obtain ⟨o, p, e, hj, hc⟩ := ziB m
  have hev : W.job.event.Ev = R.Ev.Ev := by rw [h.ev]
  rw [hev]
  rcases hc with ⟨he, _⟩ | ⟨rfl, rfl, j, rfl, hS⟩
  ·have he' : (e != 0) = true := by simpa using he
   have e1 : zao 5000 m R.Ev.Ev W.Scratch = some (none, e, W.Scratch) := by
    unfold zao
    rw [zgs hj]
    simp only [zbs]
    rw [if_pos (by simpa using he)]
   have e2 : jA 5000 m R.Ev.Ev R.Book = some (none, e, R.Book) := by
    obtain ⟨known, q, e2, k1, k2⟩ := ziz (fu := 5000) (by decide) m
    rw [zgs hj] at k1
    cases k1
    unfold jA
    rw [k2]
    simp only [zbs]
    rw [if_pos (by simpa using he)]
   rw [e1, e2]
   simp only [zbs, zhf, he', if_true]
   exact ⟨_, _, _, rfl, rfl, h.up (by omega)⟩
  ·have n1 := zpc h1 h2 hj R.Ev.Ev W.Scratch
   rw [if_pos rfl, zpi] at n1
   obtain ⟨⟨k, e', S'⟩, n2, n3⟩ := Option.map_eq_some_iff.1 n1
   simp only [Prod.mk.injEq] at n3
   obtain ⟨n4, rfl⟩ := n3
   obtain ⟨M, rfl, n5⟩ := Option.map_eq_some_iff.1 n4
   have hS' : S' = ⟨⟨fun _ => 0⟩, W.Scratch.Ct⟩ := congrArg EM.sc n5
   obtain ⟨b', r1, r2, r3⟩ := zjS hj R.Ev.Ev h.bk (by have := h.asks; omega)
   rw [zlP] at r1
   obtain ⟨⟨k2, e2, b2⟩, r4, r5⟩ := Option.map_eq_some_iff.1 r1
   simp only [Prod.mk.injEq] at r5
   obtain ⟨r6, rfl⟩ := r5
   obtain ⟨s, rfl, r7⟩ := Option.map_eq_some_iff.1 r6
   rw [<- n5] at r7
   obtain ⟨r8, rfl⟩ := SR.of r7
   rw [n2, r4]
   simp only [zbs, zhf, show ((0 : Int) != 0) = false from rfl, zfe, if_false]
   have hst : M.sa = 0 := congrArg EM.sa n5
   refine ⟨_, _, _, rfl, rfl, rfl, h.hook, h.ev, rfl, rfl, h.h0, h.h3, .inr (.inr (.inl rfl)), h.hooks, by have := h.told; show R.Told.length <= n + 1; omega, ?_, by have := h.asks; show b2.Ak.length <= n + 1; omega, h.e64, (fun e => by cases e), (fun e => by cases e), fun _ => ?_⟩
   ·show Bk S' b2
    rw [hS']; exact r2
   ·refine ⟨m, j, M, s, 0, rfl, rfl, hS, ?_, r8, hst, (fun e => by cases e), h.c0 hm, Int.le_refl _, by show (0 : Int) <= _; omega⟩
    show Run m j (pk M S') 0
    rw [n5]; exact zqq hS h.e64 _
 ·rw [if_pos (by simp [h.mode, hm]), if_pos (by simp [hm])]
  exact ⟨_, _, _, rfl, rfl, h.up (by omega)⟩
theorem zlT {n : Nat} {W : zg} {R : zd} (h : WR n W R) (hn : n <= 4600) :
  ∃ e W' R', vx W = some (e, W') /\ xd R = some (e, R') /\ WR (n + 1) W' R' := by
 unfold vx xd
 by_cases hm : R.Mode = 1
 ·rw [if_neg (by simp [h.mode, hm]), if_neg (by simp [hm]), h.hook]
  obtain ⟨S', s1, s2, s3⟩ := zjO h.hooks h.h0 h.h3 (by have := h.told; omega)
  rw [s1, s2]
  simp only [zbs, xb, qE]
  refine ⟨_, _, _, rfl, rfl, rfl, rfl, rfl, rfl, rfl, by show (0 : Int) <= 0; omega, by show (0 : Int) <= 3; omega, .inl rfl, s3, by have := h.told; simp; omega, h.bk, by have := h.asks; show R.Book.Ak.length <= n + 1; omega, u00, fun _ => ⟨rfl, rfl⟩, (fun e => by cases e), fun e => ?_⟩
  rcases e with e | e <;> cases e
 ·rw [if_pos (by simp [h.mode, hm]), if_pos (by simp [hm])]
  exact ⟨_, _, _, rfl, rfl, h.up (by omega)⟩
theorem znb {n : Nat} {W : zg} {R : zd} (h : WR n W R) (c : xz) (hc : u64 c.Val) :
  ∃ e W' R', xM W c = some (e, W') /\ jB R c = some (e, R') /\ WR n W' R' := by
 unfold xM jB
 by_cases hm : R.Mode = 3
 ·rw [if_neg (by simp [h.mode, hm]), if_neg (by simp [hm])]
  obtain ⟨m, j, M, s, p, k⟩ := h.run (.inr hm)
  obtain ⟨i, hi, ho, hi4⟩ := k.asks hm
  have h1 : (pk M W.Scratch).sa = 1 := by have := k.sa; show M.sa = 1; omega
  obtain ⟨⟨e, M2'⟩, a1, a2, a3, q, hR, _, _⟩ := zlx k.snd k.run h1 hi ho hi4 hc
  have him := zbX (k.snd.good.fine.right hi) ho
  obtain ⟨_, b2, b3⟩ := zjR (b := R.Book) k.run h1 hi him.1 hi4 c a1
  simp only at a2 a3 hR b2 b3
  subst a2
  obtain ⟨M2, c1, rfl⟩ := zp7 a1
  obtain ⟨s2, d1, d2⟩ := zp9 k.sr b3
  rw [k.mach, k.st]
  simp only [zbs]
  rw [c1, d1]
  simp only [zbs]
  refine ⟨_, _, _, rfl, rfl, rfl, h.hook, h.ev, h.ver, h.prog, h.h0, h.h3, .inr (.inr (.inl rfl)), h.hooks, h.told, h.bk, h.asks, h.e64, (fun e => by cases e), (fun e => by cases e), fun _ => ?_⟩
  exact ⟨m, j, M2, s2, q, rfl, rfl, k.snd, hR, d2, a3, (fun e => by cases e), k.calls, k.c0, k.cn⟩
 ·rw [if_pos (by simp [h.mode, hm]), if_pos (by simp [hm])]
  exact ⟨_, _, _, rfl, rfl, h⟩
theorem zpj {n : Nat} {W : zg} {R : zd} (h : WR n W R) (hn : n <= 4600) (t : Int) :
  ∃ v e C b', zW W.Scratch.Ct t = some (v, e, C) /\ zI 5000 R.Book t = some (v, e, b') /\
   WR (n + 1) ⟨⟨W.Scratch.Wo, C⟩, W.Stats, W.mode_, W.job⟩ ⟨b', R.Told, R.Mode, R.Hook, R.Ev, R.Version, R.Prog, R.Calls, R.M⟩ := by
 obtain ⟨v, e, C, b', m1, m2, m3, m4⟩ := ziT h.bk (by have := h.asks; omega) t
 refine ⟨v, e, C, b', m1, m2, h.mode, h.hook, h.ev, h.ver, h.prog, h.h0, h.h3, h.m4, h.hooks, by have := h.told; show R.Told.length <= n + 1; omega, m3, by have := h.asks; show b'.Ak.length <= n + 1; omega, h.e64, h.z, h.c0, fun hm => ?_⟩
 obtain ⟨m, j, M, s, p, k⟩ := h.run hm
 have r := k.run
 exact ⟨m, j, M, s, p, k.mach, k.st, k.snd, ⟨r.mod, r.at_, r.lt, r.known, r.u, r.fit, r.wo, r.ev⟩, k.sr, k.sa, k.asks, k.calls, k.c0, by have := k.cn; show R.Calls <= _; omega⟩
theorem zpk {n : Nat} {W : zg} {R : zd} (h : WR n W R) (hn : n <= 4600) :
  ∃ a ok W' R', qi 5000 W = some (a, ok, W') /\ zV 5000 R = some (a, ok, R') /\ WR (n + 1) W' R' := by
 unfold qi zV
 by_cases hm : R.Mode = 2
 ·rw [if_neg (by simp [h.mode, hm]), if_neg (by simp [hm])]
  obtain ⟨m, j, M, s, p, k⟩ := h.run (.inl hm)
  have h0 : (pk M W.Scratch).sa = 0 := by have := k.sa; show M.sa = 0; omega
  obtain ⟨i, hi, _⟩ := vz k.run.lt
  obtain ⟨r, t1, t2, _⟩ := zj7 k.snd k.run h0 hi
  obtain ⟨a, M1', b1, u1, u2, u3, u4⟩ := zmm k.snd k.run h0 h.bk (by have := h.asks; omega)
  rw [u1] at t1
  cases t1
  obtain ⟨M1, S1, v1, rfl⟩ := zp6 u1
  obtain ⟨s1, w1, w2⟩ := zp8 k.sr u2
  rw [k.mach, k.st]
  simp only [zbs]
  rw [v1, w1]
  simp only [zbs]
  have hn1 : b1.Ak.length <= n + 1 := by have := h.asks; omega
  have ht1 : R.Told.length <= n + 1 := by have := h.told; omega
  cases t2 with
  | ends e1 e2 e3 e4 =>
   simp only at e2 e3
   have k2 : (a.Ki == 2) = false := by simp [e2]
   have k4 : (a.Ki == 4) = true := by simp [e2]
   have hw : s1.Steps = M1.sp := congrArg SM.Steps (w2.h S1 b1)
   have hcc : qf R.Calls = R.Calls := jJ k.c0 (by have := k.cn; omega)
   obtain ⟨S', r1, r2, r3⟩ := znl h.hooks h.h0 h.h3 (by have := h.told; omega) (qf M1.sp) R.Calls a.Val
   simp only [k2, k4, zfe, if_false, if_true, zbs, xK, xb, qE, hw, hcc, h.hook, k.calls]
   rw [r1, r2]
   simp only [zbs]
   refine ⟨_, _, _, _, rfl, rfl, rfl, rfl, rfl, rfl, rfl, by show (0 : Int) <= 0; omega, by show (0 : Int) <= 3; omega, .inl rfl, r3, by have := h.told; simp; omega, u3, hn1, u00, fun _ => ⟨rfl, rfl⟩, (fun e => by cases e), fun e => ?_⟩
   rcases e with e | e <;> cases e
  | asks e1 e2 e3 e4 e5 e6 e7 =>
   simp only at e3 e4 e5
   have k2 : (a.Ki == 2) = true := by simp [e3]
   have k4 : (a.Ki == 4) = false := by simp [e3]
   simp only [k2, k4, zfe, if_false, if_true, zbs]
   have c1 : w64 (R.Calls + 1) = R.Calls + 1 := zO (by have := k.c0; omega) (by have := k.cn; omega)
   have c2 : qf (W.job.calls + 1) = R.Calls + 1 := by rw [k.calls]; exact jJ (by have := k.c0; omega) (by have := k.cn; omega)
   refine ⟨_, _, _, _, rfl, rfl, rfl, h.hook, h.ev, h.ver, h.prog, h.h0, h.h3, .inr (.inr (.inr rfl)), h.hooks, ht1, u3, hn1, h.e64, (fun e => by cases e), (fun e => by cases e), fun _ => ?_⟩
   exact ⟨m, j, M1, s1, p, rfl, rfl, k.snd, e5, w2, e4, fun _ => ⟨i, hi, e1, e2⟩, by show qf (W.job.calls + 1) = w64 (R.Calls + 1); rw [c1, c2], by show 0 <= w64 (R.Calls + 1); rw [c1]; have := k.c0; omega, by show w64 (R.Calls + 1) <= _; rw [c1]; have := k.cn; omega⟩
  | goes e1 e2 e3 =>
   simp only at e1 e2 e3
   obtain ⟨q, hR2, _, _⟩ := e3
   have k2 : (a.Ki == 2) = false := by simp; omega
   have k4 : (a.Ki == 4) = false := by simp; omega
   simp only [k2, k4, zfe, if_false, if_true, zbs]
   refine ⟨_, _, _, _, rfl, rfl, h.mode, h.hook, h.ev, h.ver, h.prog, h.h0, h.h3, h.m4, h.hooks, ht1, u3, hn1, h.e64, h.z, h.c0, fun _ => ?_⟩
   exact ⟨m, j, M1, s1, q, rfl, rfl, k.snd, hR2, w2, by show M1.sa = R.Mode - 2; have : M1.sa = 0 := e2; omega, fun e => by have e : R.Mode = 3 := e; omega, k.calls, k.c0, by have := k.cn; show R.Calls <= _; omega⟩
 ·rw [if_pos (by simp [h.mode, hm]), if_pos (by simp [hm])]
  exact ⟨_, _, _, _, rfl, rfl, h.up (by omega)⟩
end Go.Proofs.YtbmknhpfkpmigaaGreatDoor
namespace Go.Proofs.YtbmknhpfkpmigaaGreatDoor
open Go.Sx
theorem zlU {n : Nat} {W : zg} {R : zd} (h : WR n W R) (k : Int) (hk : k <= 32) (hn : n <= 4500) : OK (ju 5000 W R k) (fun r => r.1 = true /\ WR (n + 32) r.2.1 r.2.2) := by
 unfold ju
 refine OK.bind2 (R := fun o => ∃ W' R', o = Sum.inl (W', R') /\ WR (n + 32) W' R') (OK.rounds (fun s => ∃ q : Nat, s.2.2 = (q : Int) /\ q <= 32 /\ WR (n + q) s.1 s.2.1) (fun s => (k - s.2.2).toNat) (fun s again hI kk => ?_) 5000 _ ⟨0, rfl, by omega, h⟩ (by show (k - 0).toNat < 5000; omega)) (fun o ho => ?_)
 ·obtain ⟨q, hq, hq2, hW⟩ := hI
  unfold xL
  refine OK.ite (fun hlt => ?_) (fun _ => OK.ret ⟨_, _, rfl, hW.up (by omega)⟩)
  have hlt : s.2.2 < k := by simpa using hlt
  obtain ⟨a, ok, W', R', e1, e2, e3⟩ := zpk hW (by omega)
  rw [e1]
  simp only [zbs]
  rw [e2]
  simp only [zbs]
  refine OK.bind2 (R := fun o => o = false) (OK.ite_false (by simp) (OK.ret (by simp))) (fun o ho => ?_)
  subst ho
  have e9 : w64 (s.2.2 + 1) = s.2.2 + 1 := zO (by omega) (by omega)
  exact OK.ite_false rfl (kk _ ⟨q + 1, by show w64 (s.2.2 + 1) = _; rw [e9]; omega, by omega, e3⟩ (by show (k - w64 (s.2.2 + 1)).toNat < (k - s.2.2).toNat; rw [e9]; omega))
 ·obtain ⟨W', R', rfl, hW⟩ := ho
  exact OK.ret ⟨rfl, hW⟩
theorem zlV {n : Nat} {W : zg} {R : zd} (h : WR n W R) (hn : n <= 4700) : qz 5000 W R = some true := by
 unfold qz zaM zat jZ
 simp only [zbs]
 refine OK.is (OK.bind2 (R := fun o => o = false) ?_ (fun o ho => ?_))
 ·rw [h.mode, h.hook, h.ev, h.ver, h.prog]
  exact OK.ite_false (by simp) (OK.ite_false (by simp) (OK.ite_false (by simp) (OK.ite_false (by simp) (OK.ret (by simp)))))
 subst ho
 refine OK.ite_false rfl (OK.bind2 (R := fun o => o = Sum.inl ()) (OK.count (fun _ _ => True) trivial (fun q s again hq _ kk => ?_) (fun _ _ => rfl)) (fun o ho => by subst ho; exact OK.ret rfl))
 unfold xN
 have h0 : (0 : Int) <= (q : Int) := by omega
 have h3 : (q : Int) <= 3 := by omega
 have ha : R.Book.Ak.length <= 4900 := by have := h.asks; omega
 have a16 : ain 16 (q : Int) = some (q : Int).toNat := by unfold ain; rw [if_pos ⟨by omega, by omega⟩]
 have c1 : xq W.Scratch.Ct (q : Int) = some (W.Scratch.Ct.cn (q : Int).toNat, 0) := by
  unfold xq
  rw [if_neg (by simp; omega), a16]
  rfl
 have c2 : zS 5000 R.Book (q : Int) = some (W.Scratch.Ct.cn (q : Int).toNat, 0) := by
  rw [zkk _ _ ha, if_neg (by omega), h.bk.c _ h0 (by omega)]
 have w1 : qh W.Scratch.Wo (q : Int) = some (W.Scratch.Wo.wo (q : Int).toNat, 0) := by
  unfold qh
  rw [if_neg (by simp; omega), a16]
  rfl
 have w2 : zF 5000 R.Book (q : Int) = some (W.Scratch.Wo.wo (q : Int).toNat, 0) := by
  rw [zmd _ _ ha, if_neg (by omega), h.bk.w _ h0 (by omega)]
 rw [zpt _ h0 h3, zps _ h0 h3, c1, c2, w1, w2, h.hooks _ h0 h3]
 simp only [zbs]
 exact OK.bind2 (R := fun o => o = false) (OK.ite_false (by simp) (OK.ite_false (by simp) (OK.ite_false (by simp) (OK.ite_false (by simp) (OK.ite_false (by simp) (OK.ret (by simp))))))) (fun o ho => by subst ho; exact OK.ite_false rfl (kk () trivial))
theorem zon {fu : Nat} {l : List zc} (hl : l.length * 40 <= 140737488355328) (hf : l.length < fu) : OK (loop zaR fu (l, 0)) (fun _ => True) := by
 refine OK.rounds (fun (s : (List zc) × Int) => s.1.length = l.length /\ 0 <= s.2 /\ s.2 <= s.1.length) (fun s => (s.1.length - s.2).toNat) (fun s again hI k => ?_) fu _ ⟨rfl, Int.le_refl _, by show (0 : Int) <= l.length; omega⟩ (by show ((l.length : Int) - 0).toNat < fu; omega)
 obtain ⟨a, b, c⟩ := hI
 unfold zaR
 refine OK.ite (fun h => OK.bind (OK.get b (by simpa using h) (fun x _ => ?_))) (fun _ => OK.ret trivial)
 have h : s.2 < s.1.length := by simpa using h
 have e : w64 (s.2 + 1) = s.2 + 1 := zO (by omega) (by omega)
 rw [e]
 exact k _ ⟨by simpa using a, by show 0 <= s.2 + 1; omega, by show s.2 + 1 <= ((s.1.set _ _).length : Int); rw [List.length_set]; omega⟩ (by show (((s.1.set _ _).length : Int) - (s.2 + 1)).toNat < _; rw [List.length_set]; omega)
structure zpI (o : zR) : Prop where
 maps : o.M.Ms.length * 8 <= 140737488355328
 code : o.M.Co.length * 40 <= 140737488355328
 ev : u64 o.Q.Ev.A /\ u64 o.Q.Ev.B
 res : u64 o.Res.Val
abbrev FU : Nat := 200000000000000
theorem ziP : 5000 <= FU := by decide
theorem zjC {n : Nat} {W : zg} {R : zd} (h : WR n W R) (hn : n <= 4400) {o : zR} (ho : zpI o) :
  OK (jT FU W R o) (fun r => r.1 = true /\ WR (n + 33) r.2.1 r.2.2) := by
 unfold jT
 refine OK.ite (fun _ => ?_) (fun _ => OK.ite (fun _ => ?_) (fun _ => OK.ite (fun _ => ?_) (fun _ => OK.ite (fun _ => ?_) (fun _ => OK.ite (fun _ => ?_) (fun _ => OK.ite (fun _ => ?_) (fun _ => ?_))))))
 ·obtain ⟨e, W', R', a, b, c⟩ := zlS h o.Hook o.Q ho.ev
  rw [a]
  simp only [zbs]
  rw [b]
  exact OK.ret ⟨by simp, c.up (by omega)⟩
 ·obtain ⟨e, W', R', a, b, c⟩ := zkK h (by omega) o.Version o.Prog o.M ho.maps ho.code
  rw [zly _ ho.maps ho.code]
  simp only [zbs]
  rw [(zbB ziP W o.Version o.Prog o.M).h _ a]
  simp only [zbs]
  rw [(zcw ziP R o.Version o.Prog o.M).h _ b]
  simp only [zbs]
  exact OK.bind2 (zon ho.code (by have := ho.code; show _ < 200000000000000; omega)) (fun _ _ => OK.ret ⟨by simp, c.up (by omega)⟩)
 ·obtain ⟨e, W', R', a, b, c⟩ := zlT h (by omega)
  rw [a]
  simp only [zbs]
  rw [b]
  exact OK.ret ⟨by simp, c.up (by omega)⟩
 ·obtain ⟨r, a, b, c⟩ := zlU h 1 (by decide) (by omega)
  rw [(zb4 ziP W R 1).h _ a]
  exact OK.ret ⟨b, c.up (by omega)⟩
 ·obtain ⟨e, W', R', a, b, c⟩ := znb h o.Res ho.res
  rw [a]
  simp only [zbs]
  rw [b]
  exact OK.ret ⟨by simp, c.up (by omega)⟩
 ·obtain ⟨v, e, C, b', m1, m2, c⟩ := zpj h (by omega) o.Hook
  rw [m1]
  simp only [zbs]
  rw [(zbf ziP R.Book o.Hook).h _ m2]
  exact OK.ret ⟨by simp, c.up (by omega)⟩
 ·obtain ⟨r, a, b, c⟩ := zlU h (zb3 (zcC o.Version 0) 32) (by unfold zb3; split <;> omega) (by omega)
  rw [(zb4 ziP W R _).h _ a]
  exact OK.ret ⟨b, c.up (by omega)⟩
theorem zlW : xS FU = some true := (zeM ziP).h _ (by decide +kernel)
theorem zgY (p0 p1 : List zR) (hp0 : ∀ o ∈ p0, zpI o) (hp1 : ∀ o ∈ p1, zpI o) : xQ FU p0 p1 = some true := by
 unfold xQ
 rw [zlW]
 obtain ⟨W, R, n1, n2, hWR⟩ := zna
 simp only [zbs, Bool.not_true, zfe, if_false]
 rw [n1]
 simp only [zbs]
 rw [n2]
 simp only [zbs]
 refine OK.is (OK.bind2 (R := fun o => ∃ X Y A B, o = Sum.inl (X, Y, A, B) /\ WR 4400 X A /\ WR 4400 Y B) (OK.rounds (fun s => ∃ q : Nat, s.2.2.2.2 = (q : Int) /\ q <= 60 /\ WR (33 * q) s.1 s.2.2.1 /\ WR (33 * q) s.2.1 s.2.2.2.1) (fun s => (60 - s.2.2.2.2).toNat) (fun s again hI kk => ?_) FU _ ⟨0, rfl, by omega, hWR, hWR⟩ (by show (60 - 0 : Int).toNat < 200000000000000; decide)) (fun o ho => ?_))
 ·obtain ⟨q, hq, hq2, hX, hY⟩ := hI
  unfold vj
  refine OK.ite (fun hlt => ?_) (fun _ => OK.ret ⟨_, _, _, _, rfl, hX.up (by omega), hY.up (by omega)⟩)
  simp only [zae, zdq] at hlt
  refine OK.bind2 (R := fun o => o.2.2.2.2 = false /\ WR (33 * q + 33) o.1 o.2.2.1 /\ WR (33 * q + 33) o.2.1 o.2.2.2.1) ?_ (fun o ho => ?_)
  ·refine OK.ite (fun l1 => OK.bind (OK.get (by omega) (by simpa using l1) (fun x hx => ?_))) (fun _ => ?_)
   ·obtain ⟨r, a, b, c⟩ := zjC hX (by omega) (hp0 x (zmg hx))
    rw [a]
    simp only [zbs, b, Bool.not_true, zfe, if_false]
    refine OK.ite (fun l2 => OK.bind (OK.get (by omega) (by simpa using l2) (fun y hy => ?_))) (fun _ => OK.ret ⟨rfl, c, hY.up (by omega)⟩)
    obtain ⟨r', a', b', c'⟩ := zjC hY (by omega) (hp1 y (zmg hy))
    rw [a']
    exact OK.ret ⟨by simp [b'], c, c'⟩
   ·refine OK.ite (fun l2 => OK.bind (OK.get (by omega) (by simpa using l2) (fun y hy => ?_))) (fun _ => OK.ret ⟨rfl, hX.up (by omega), hY.up (by omega)⟩)
    obtain ⟨r', a', b', c'⟩ := zjC hY (by omega) (hp1 y (zmg hy))
    rw [a']
    exact OK.ret ⟨by simp [b'], hX.up (by omega), c'⟩
  ·obtain ⟨h1, h2, h3⟩ := ho
   have e9 : w64 (s.2.2.2.2 + 1) = s.2.2.2.2 + 1 := zO (by omega) (by omega)
   exact OK.ite_false h1 (kk _ ⟨q + 1, by show w64 (s.2.2.2.2 + 1) = _; rw [e9]; omega, by omega, h2, h3⟩ (by show (60 - w64 (s.2.2.2.2 + 1)).toNat < (60 - s.2.2.2.2).toNat; rw [e9]; omega))
 ·obtain ⟨X, Y, A, B, rfl, hX, hY⟩ := ho
  show OK (((qz FU X A).bind _).bind _) _
  rw [(zb5 ziP X A).h _ (zlV hX (by omega))]
  simp only [zbs, if_true]
  rw [(zb5 ziP Y B).h _ (zlV hY (by omega))]
  exact OK.ret rfl
end Go.Proofs.YtbmknhpfkpmigaaGreatDoor
namespace Go.Proofs.YtbmknhpfkpmigaaGreatDoor
open Go.Sx
theorem zji {n : Int} (h : (Lit.int .u64 n).wf = true) : u64 n := by
 simp only [Lit.wf, zae, zdq] at h
 exact ⟨h.1, Int.lt_of_le_of_lt h.2 (by decide)⟩
theorem zqk {o : zR} (g : za1 o) : zpI o := by
 obtain ⟨_, _, _, _, gq, gm, gr⟩ := g
 refine ⟨?_, ?_, ⟨zji gq.2.1, zji gq.2.2⟩, zji gr.2.2.1⟩
 ·have := gm.1.1; simp only [reachBytes] at this; omega
 ·have := gm.2.1; simp only [reachBytes] at this; omega
theorem zgh (p0 : List zR) (p1 : List zR) (g0 : p0.length * 152 <= reachBytes /\ ∀ y22 ∈ p0, za1 y22) (g1 : p1.length * 152 <= reachBytes /\ ∀ y22 ∈ p1, za1 y22) : ∃ fu, xQ fu p0 p1 = some true :=
 ⟨FU, zgY p0 p1 (fun o h => zqk (g0.2 o h)) (fun o h => zqk (g1.2 o h))⟩
end Go.Proofs.YtbmknhpfkpmigaaGreatDoor
