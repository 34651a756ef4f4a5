import Derived.Test.YtgmmfjpmahcocaaGreatDoorKTr3
set_option linter.unusedVariables false
set_option linter.unusedSimpArgs false
namespace Go.Proofs.YtgmmfjpmahcocaaGreatDoor
open Go.Sx
theorem zlE {c : zE} (l : List zE) : cut (c :: l) 1 ((c :: l).length : Int) = some l := by
 unfold cut
 rw [if_pos (by simp; omega)]
 simp
theorem zlF {m : zi} {j : ze} (hS : zhg m j) {rs : List zE} (hL : rs.length * 48 <= 140737488355328) (hrs : ∀ r ∈ rs, u64 r.Val) : ∀ (k : Nat) (M : zg) (p : Nat) (b : zk), Run m j M p -> M.sa = 0 -> Bk M.sc b ->
  pot m.Co M.tu p m.Co.length <= k -> ∀ (used : Nat) (acc : List zA) (fu fu2 : Nat), used <= rs.length -> k <= fu -> k < fu2 -> acc.length + k <= 1000 -> b.Ak.length + k <= 800 ->
  ∃ l, loop (zz 1000) fu (rs.drop used, M, acc) = some (acc ++ l, 0) /\ loop (zo 1000 rs) fu2 (st m M b, acc, (used : Int)) = some (acc ++ l) := by
 intro k
 induction k with
 | zero =>
  intro M p b h _ _ hp
  have := zmB hS.good h.fit h.lt
  omega
 | succ k ih =>
  intro M p b h h0 hB hp used acc fu fu2 hus hf hf2 hr hbl
  obtain ⟨i, hi, _⟩ := xG h.lt
  obtain ⟨r, h1, hst, _⟩ := zjf hS h h0 hi
  obtain ⟨a, M1, b1, g1, g2, g3, g4⟩ := zkV hS h h0 hB (by omega)
  rw [g1] at h1
  cases h1
  obtain ⟨fu, rfl⟩ : ∃ f, fu = f + 1 := ⟨fu - 1, by omega⟩
  obtain ⟨fu2, rfl⟩ : ∃ f, fu2 = f + 1 := ⟨fu2 - 1, by omega⟩
  have o0 : ((st m M b).Mode != 2) = true := by show (M.sa != 2) = true; rw [h0]; rfl
  have rm : ∀ x : zA, room (acc.length + [x].length) 56 = some () := fun x => zgC (by simp; omega)
  cases hst with
  | ends e1 e2 e3 e4 =>
   simp only at e2 e3
   have o1 : ((st m M1 b1).Mode == 1) = false := by show (M1.sa == 1) = false; rw [e3]; rfl
   have o2 : ((st m M1 b1).Mode != 2) = false := by show (M1.sa != 2) = false; rw [e3]; rfl
   have k4 : (a.Ki == 4) = true := by simp [e2]
   refine ⟨[a], ?_, ?_⟩
   ·show zz 1000 (loop (zz 1000) fu) (rs.drop used, M, acc) = _
    generalize loop (zz 1000) fu = again
    unfold zz
    simp only [g1, rm, k4, if_true, zbs]
   ·obtain ⟨fu2, rfl⟩ : ∃ f, fu2 = f + 1 := ⟨fu2 - 1, by omega⟩
    show zo 1000 rs (zo 1000 rs (loop (zo 1000 rs) fu2)) (st m M b, acc, (used : Int)) = _
    generalize loop (zo 1000 rs) fu2 = again
    unfold zo
    simp only [o0, g2, rm, o1, o2, if_true, zfe, if_false, zbs]
  | asks e1 e2 e3 e4 e5 e6 e7 =>
   simp only at e3 e4 e5 e6 e7
   have o1 : ((st m M1 b1).Mode == 1) = true := by show (M1.sa == 1) = true; rw [e4]; rfl
   have k4 : (a.Ki == 4) = false := by simp [e3]
   have k2 : (a.Ki == 2) = true := by simp [e3]
   by_cases hlast : rs.length <= used
   ·have hd : rs.drop used = [] := List.drop_eq_nil_of_le hlast
    refine ⟨[a], ?_, ?_⟩
    ·show zz 1000 (loop (zz 1000) fu) (rs.drop used, M, acc) = _
     rw [hd]
     generalize loop (zz 1000) fu = again
     unfold zz
     simp only [g1, rm, k4, k2, if_true, zfe, if_false, zbs]
     rfl
    ·show zo 1000 rs (loop (zo 1000 rs) fu2) (st m M b, acc, (used : Int)) = _
     generalize loop (zo 1000 rs) fu2 = again
     have c : decide ((used : Int) >= (rs.length : Int)) = true := by simp; omega
     unfold zo
     simp only [o0, g2, rm, o1, c, if_true, zbs]
   ·have hu : used < rs.length := by omega
    obtain ⟨c, hc, hci⟩ := xG hu
    have hd : rs.drop used = c :: rs.drop (used + 1) := by
     rw [List.drop_eq_getElem_cons hu]
     rw [zeg hu] at hc
     cases hc; rfl
    have him := zbL (hS.good.fine.right hi) e1
    obtain ⟨⟨e, M2⟩, hr2, he, s0, q, hR, hq, hN⟩ := zkf hS e5 e4 hi e1 e2 (hrs c (zmg hc))
    obtain ⟨_, w2, w3⟩ := zi1 (b := b1) e5 e4 hi him.1 e2 c hr2
    simp only at he s0 hR hq w2 w3
    subst he
    rw [e6] at hq
    obtain ⟨l, l1, l2⟩ := ih M2 q b1 hR s0 (by rw [w2]; exact g3) (by omega) (used + 1) (acc ++ [a]) fu fu2 (by omega) (by omega) (by omega) (by simp; omega) (by omega)
    have e9 : w64 ((used : Int) + 1) = ((used + 1 : Nat) : Int) := by rw [zI (by omega) (by omega)]; omega
    refine ⟨a :: l, ?_, ?_⟩
    ·show zz 1000 (loop (zz 1000) fu) (rs.drop used, M, acc) = _
     rw [hd]
     generalize loop (zz 1000) fu = again at l1 |-
     have e0' : (((c :: rs.drop (used + 1)).length : Int) == 0) = false := by rw [List.length_cons]; simp; omega
     have ei : idx (c :: rs.drop (used + 1)) 0 = some c := by
      have := zdL (xs := c :: rs.drop (used + 1)) (i := 0) (by simp)
      simpa using this
     unfold zz
     simp only [g1, rm, k4, k2, if_true, zfe, if_false, zbs, e0', ei, hr2, zlE]
     rw [l1]
     simp
    ·show zo 1000 rs (loop (zo 1000 rs) fu2) (st m M b, acc, (used : Int)) = _
     generalize loop (zo 1000 rs) fu2 = again at l2 |-
     have c2 : decide ((used : Int) >= (rs.length : Int)) = false := by simp; omega
     unfold zo
     simp only [o0, g2, rm, o1, c2, if_true, zfe, if_false, zbs, hci, w3, e9]
     rw [l2]
     simp
  | goes e1 e2 e3 =>
   simp only at e1 e2 e3
   obtain ⟨q, hR, hq, hN⟩ := e3
   have o1 : ((st m M1 b1).Mode == 1) = false := by show (M1.sa == 1) = false; rw [e2]; rfl
   have k4 : (a.Ki == 4) = false := by simp; omega
   have k2 : (a.Ki == 2) = false := by simp; omega
   obtain ⟨l, l1, l2⟩ := ih M1 q b1 hR e2 g3 (by omega) used (acc ++ [a]) fu fu2 hus (by omega) (by omega) (by simp; omega) (by omega)
   refine ⟨a :: l, ?_, ?_⟩
   ·show zz 1000 (loop (zz 1000) fu) (rs.drop used, M, acc) = _
    generalize loop (zz 1000) fu = again at l1 |-
    unfold zz
    simp only [g1, rm, k4, k2, if_true, zfe, if_false, zbs]
    rw [l1]
    simp
   ·show zo 1000 rs (loop (zo 1000 rs) fu2) (st m M b, acc, (used : Int)) = _
    generalize loop (zo 1000 rs) fu2 = again at l2 |-
    unfold zo
    simp only [o0, g2, rm, o1, if_true, zfe, if_false, zbs]
    rw [l2]
    simp
theorem zjT {m : zi} {o : Option ze} {p e : Int} (h : jC 1000 m = some (o, p, e)) (he : e ≠ 0) (E : xL) (b : zk) : vi 1000 m E b = some (none, e) := by
 obtain ⟨known, q, e2, h1, h2⟩ := zhS (fu := 1000) (by decide) m
 rw [zhi h] at h1
 cases h1
 unfold vi
 rw [h2]
 simp only [zbs]
 rw [if_pos (by simpa using he)]
theorem zi2 {m : zi} {o : Option ze} {p : Int} (h : jC 1000 m = some (o, p, 0)) (E : xL) {S : zt} {b : zk} (hB : Bk S b) (hb : b.Ak.length <= 700) :
  ∃ b', vi 1000 m E b = some (some (st m (ziz m E S.Ct) b'), 0) /\ Bk (ziz m E S.Ct).sc b' /\ b'.Ak.length <= b.Ak.length + 1 := by
 obtain ⟨known, q, e2, h1, h2⟩ := zhS (fu := 1000) (by decide) m
 rw [zhi h] at h1
 cases h1
 obtain ⟨b', w1, w2, w3⟩ := zkQ hB (by omega)
 unfold vi
 rw [h2]
 simp only [zbs]
 rw [if_neg (by decide), w1]
 simp only [zbs]
 refine ⟨b', ?_, w2, w3⟩
 have m8 : mkLen 8 8 = some 8 := by decide
 have m64 : mkLen 64 8 = some 64 := by decide
 rw [m8, m64]
 rfl
theorem bk0 : Bk ⟨⟨fun _ => 0⟩, ⟨fun _ => 0⟩⟩ ⟨[]⟩ := ⟨fun _ _ _ => rfl, fun _ _ _ => rfl⟩
theorem zi3 {m : zi} (h1 : m.Ms.length * 8 <= 140737488355328) (h2 : m.Co.length * 40 <= 140737488355328) {E : xL} (hE : u64 E.A /\ u64 E.B) {rs : List zE} (hL : rs.length * 48 <= 140737488355328) (hrs : ∀ r ∈ rs, u64 r.Val) :
  ∃ r, zbK 1000 m E rs = some r /\ zag 1000 m E rs = some r := by
 obtain ⟨o, p, e, hj, hc⟩ := zhU m
 unfold zbK zag
 rw [show zeN = some ⟨⟨fun _ => 0⟩, ⟨fun _ => 0⟩⟩ from rfl]
 simp only [zbs]
 rw [zhi hj]
 simp only [zbs]
 rcases hc with ⟨he, _⟩ | ⟨rfl, rfl, j, rfl, hS⟩
 ·have he' : (e != 0) = true := by simpa using he
  rw [zjT hj he]
  simp only [he', if_true, zbs]
  exact ⟨_, rfl, rfl⟩
 ·obtain ⟨b', n1, n2, n3⟩ := zi2 hj E bk0 (by simp)
  have hz := zdb hS.good.fine m.Co.length
  have hcost := hS.good.cost
  have hp := zkz hS.good (q := 0)
  have n3 : b'.Ak.length <= 1 := by simpa using n3
  obtain ⟨l, l1, l2⟩ := zlF hS hL hrs (zfD m.Co m.Co.length).toNat (ziz m E ⟨fun _ => 0⟩) 0 b' (zn8 hS hE _) rfl n2 (by show pot m.Co (fun _ => 0) 0 m.Co.length <= _; omega) 0 [] 1000 1000 (by omega) (by omega) (by omega) (by simp; omega) (by omega)
  have l1 : loop (zz 1000) 1000 (rs, ziz m E ⟨fun _ => 0⟩, []) = some (l, 0) := l1
  have l2 : loop (zo 1000 rs) 1000 (st m (ziz m E ⟨fun _ => 0⟩) b', [], 0) = some l := l2
  have z : ((0 : Int) != 0) = false := rfl
  rw [n1]
  simp only [z, zfe, if_false, zbs, zaZ, zmn h1, zmo h2]
  refine ⟨(l, 0), l1, ?_⟩
  show ((loop (zo 1000 rs) 1000 (st m (ziz m E ⟨fun _ => 0⟩) b', [], 0)).bind fun o425 => some (o425, 0)) = _
  rw [l2]
  rfl
theorem zlG (l : List zA) : zah l l = some true := by
 unfold zah
 rw [if_neg (by simp)]
 refine OK.is (OK.bind2 (OK.count (Q := fun o => o = Sum.inl ()) (fun _ _ => True) trivial (fun q s again hq _ kk => ?_) (fun _ _ => rfl)) (fun o ho => by subst ho; exact OK.ret rfl))
 unfold zaq
 rw [zdL hq]
 simp only [zbs]
 exact OK.ite_false (by simp) (kk () trivial)
theorem zlH : zbj 1000 = some true := by decide +kernel
theorem zf1 (p0 : qG) (h1 : p0.M.Ms.length * 8 <= 140737488355328) (h2 : p0.M.Co.length * 40 <= 140737488355328) (hE : u64 p0.E.A /\ u64 p0.E.B) (hres : ∀ r ∈ p0.Res, u64 r.Val) (h3 : p0.Res.length * 48 <= 140737488355328) :
  xc 1000 p0 = some true := by
 unfold xc
 rw [zlH]
 simp only [zbs, zkg _ h1 h2, Bool.not_true, zfe, if_false]
 rw [zgC (by simpa using h3)]
 simp only [zbs, List.nil_append]
 obtain ⟨r, t1, t2⟩ := zi3 h1 h2 hE h3 hres
 rw [t1, t2]
 simp only [zbs, zlG]
 refine OK.is (OK.bind2 (R := fun o => o = false) (OK.ite_false rfl (OK.ite_false (by simp) (OK.ite_false (by simp) (OK.ret (by simp))))) (fun o ho => ?_))
 subst ho
 refine OK.ite_false rfl ?_
 refine OK.bind2 (OK.count (Q := fun o => o = Sum.inl ()) (fun _ _ => True) trivial (fun q s again hq _ kk => ?_) (fun _ _ => rfl)) (fun o ho => ?_)
 ·unfold xt
  rw [zdL hq]
  simp only [zbs]
  exact OK.ite_false (by simp) (kk () trivial)
 subst ho
 refine OK.bind2 (OK.count (Q := fun o => o = Sum.inl ()) (fun _ _ => True) trivial (fun q s again hq _ kk => ?_) (fun _ _ => rfl)) (fun o ho => ?_)
 ·unfold xu
  rw [zdL hq]
  simp only [zbs]
  exact OK.ite_false (by simp) (kk () trivial)
 subst ho
 refine OK.bind2 (OK.count (Q := fun o => o = Sum.inl ()) (fun _ _ => True) trivial (fun q s again hq _ kk => ?_) (fun _ _ => rfl)) (fun o ho => ?_)
 ·unfold xv
  simp only [List.nil_append]
  rw [zdL hq]
  simp only [zbs]
  exact OK.ite_false (by simp) (kk () trivial)
 subst ho
 exact OK.ret rfl
end Go.Proofs.YtgmmfjpmahcocaaGreatDoor
