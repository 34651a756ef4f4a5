import Derived.Test.YtgmmfjpmahcocaaGreatDoorKWidR
set_option linter.unusedVariables false
set_option linter.unusedSimpArgs false
namespace Go.Proofs.YtgmmfjpmahcocaaGreatDoor
open Go.Sx
def jS (a b : zd) : zd := ⟨if b.Lo < a.Lo then b.Lo else a.Lo, if b.Hi > a.Hi then b.Hi else a.Hi⟩
theorem zko (L : List zd) (hw : ∀ s ∈ L, SW s) : ∀ (rest : List zd) (i : Nat) (s : zd), L.drop i = rest -> 0 < i -> i + rest.length = L.length ->
  zQ (zM L) (fun (s : zd) => (.inl s)) rest.length i s = some (.inl (rest.foldl jS s)) := by
 intro rest
 induction rest with
 | nil => intro i s _ _ _; rfl
 | cons x rest ih =>
  intro i s hd hi hl
  simp only [List.length_cons] at hl
  have hx : L[i]? = some x := by
   have := congrArg (fun l => l[0]?) hd
   simpa using this
  have hd2 : L.drop (i + 1) = rest := by
   have := congrArg (fun l => l.drop 1) hd
   simpa [List.drop_drop, Nat.add_comm] using this
  have hxs := hw x (zmg hx)
  show zM L i (zQ (zM L) (fun (s : zd) => (.inl s)) rest.length (i + 1)) s = _
  have ihx := ih (i + 1) (jS s x) hd2 (by omega) (by omega)
  generalize zQ (zM L) (fun (s : zd) => (.inl s)) rest.length (i + 1) = again at ihx |-
  unfold zM
  have e : idx L (i : Int) = some x := by unfold Go.Sx.idx; rw [if_pos (by omega)]; exact hx
  have e0 : ((i : Int) == 0) = false := by simp; omega
  rw [e]
  simp only [zbs, zcp hxs, Bool.not_true, zfe, if_false, e0]
  rw [List.foldl_cons, <- ihx]
  unfold jS
  by_cases h1 : x.Lo < s.Lo
  ·by_cases h2 : x.Hi > s.Hi
   ·simp only [h1, h2, decide_true, if_true, zbs]
   ·simp only [h1, h2, decide_true, decide_false, if_true, if_false, zbs, zfe]
  ·by_cases h2 : x.Hi > s.Hi
   ·simp only [h1, h2, decide_true, decide_false, if_true, if_false, zbs, zfe]
   ·simp only [h1, h2, decide_false, if_false, zbs, zfe]
theorem zmu {x0 : zd} {l : List zd} (hw : ∀ s ∈ x0 :: l, SW s) : zaC (x0 :: l) = some (l.foldl jS x0, true) := by
 have hx := hw x0 zcs
 unfold zaC
 show (zM (x0 :: l) 0 (zQ (zM (x0 :: l)) (fun (s : zd) => (.inl s)) l.length 1) ⟨0, 0⟩).bind _ = _
 have ihx := zko (x0 :: l) hw l 1 x0 rfl (by omega) (by simp; omega)
 generalize zQ (zM (x0 :: l)) (fun (s : zd) => (.inl s)) l.length 1 = again at ihx |-
 unfold zM
 have e : idx (x0 :: l) ((0 : Nat) : Int) = some x0 := rfl
 have e0 : (((0 : Nat) : Int) == 0) = true := rfl
 rw [e]
 simp only [zbs, zcp hx, Bool.not_true, zfe, if_false, e0, if_true]
 show (again x0).bind _ = _
 rw [ihx]
 show some (_, decide _) = _
 rw [decide_eq_true (by simp only [List.length_cons]; omega)]
def okT (x0 x : za) : Prop := x.Ki = x0.Ki /\ x.Map = x0.Map
instance (x0 x : za) : Decidable (okT x0 x) := inferInstanceAs (Decidable (_ /\ _))
theorem zjh {n : Nat} {a b : za} (ha : WT n a) (hb : WT n b) (h : okT a b) : za3 a b = if a.Ki == 1 then ⟨1, jS a.Sp b.Sp, 0⟩ else a := by
 obtain ⟨a0, a1, a2⟩ := ha.span
 obtain ⟨b0, b1, b2⟩ := hb.span
 unfold za3 jS vH zay
 have e1 : (a.Ki != b.Ki) = false := by simp [h.1]
 have e2 : (a.Map != b.Map) = false := by simp [h.2]
 rw [e1, e2]
 simp only [Bool.or_self, zfe, if_false]
 split
 ·congr 2 <;> (repeat' split) <;> omega
 ·rfl
theorem zh0 {a b : za} (h : ¬ okT a b) : za3 a b = vI := by
 unfold za3
 rw [if_pos]
 rw [Bool.or_eq_true]
 by_cases e : a.Ki = b.Ki
 ·right; simp only [bne_iff_ne, ne_eq]; intro e2; exact h ⟨e.symm, e2.symm⟩
 ·left; simp only [bne_iff_ne, ne_eq]; exact e
theorem zjF {n : Nat} {b : za} (hb : WT n b) : za3 vI b = vI := by
 by_cases h : okT vI b
 ·rcases hb with rfl | hb | hb
  ·rfl
  ·have := h.1; rw [hb.1] at this; cases this
  ·have := h.1; rw [hb.1] at this; cases this
 ·exact zh0 h
theorem zh1 {n : Nat} : ∀ (l : List za), (∀ x ∈ l, WT n x) -> l.foldl za3 vI = vI
 | [], _ => rfl
 | x :: l, h => by
  rw [List.foldl_cons, zjF (h x zcs)]
  exact zh1 l (fun y hy => h y (zcm _ hy))
theorem ziF {n : Nat} : ∀ (l : List za) {a : za}, WT n a -> (∀ x ∈ l, WT n x) -> (∀ x ∈ l, okT a x) -> l.foldl za3 a = if a.Ki == 1 then ⟨1, (l.map (·.Sp)).foldl jS a.Sp, 0⟩ else a
 | [], a, ha, _, _ => by
  by_cases h : (a.Ki == 1) = true
  ·rw [if_pos h]
   have hk : a.Ki = 1 := by simpa using h
   rcases ha with rfl | ha | ha
   ·cases hk
   ·obtain ⟨k, s, q⟩ := a
    simp only at hk ha |-
    obtain ⟨_, _, rfl⟩ := ha
    subst hk; rfl
   ·rw [hk] at ha; exact absurd ha.1 (by decide)
  ·rw [if_neg h]; rfl
 | x :: l, a, ha, hw, hk => by
  have hx := hw x zcs
  have h1 := zjh ha hx (hk x zcs)
  rw [List.foldl_cons]
  have hj : WT n (za3 a x) := ha.join hx
  by_cases h : (a.Ki == 1) = true
  ·have hk1 : a.Ki = 1 := by simpa using h
   rw [if_pos h] at h1 |-
   have hm : a.Map = 0 := by
    rcases ha with rfl | ha | ha
    ·rfl
    ·exact ha.2.2
    ·rw [hk1] at ha; exact absurd ha.1 (by decide)
   rw [ziF l hj (fun y hy => hw y (zcm _ hy)) (fun y hy => by
    have := hk y (zcm _ hy)
    rw [h1]
    exact ⟨by rw [this.1, hk1], by rw [this.2, hm]⟩), h1]
   rfl
  ·rw [if_neg h] at h1 |-
   rw [h1, ziF l ha (fun y hy => hw y (zcm _ hy)) (fun y hy => hk y (zcm _ hy)), if_neg h]
theorem zji {n : Nat} : ∀ (l : List za) {a : za}, WT n a -> (∀ x ∈ l, WT n x) -> (∃ x ∈ l, ¬ okT a x) -> l.foldl za3 a = vI
 | [], _, _, _, h => by obtain ⟨x, hx, _⟩ := h; cases hx
 | x :: l, a, ha, hw, h => by
  have hx := hw x zcs
  have hl := fun y hy => hw y (zcm _ hy)
  rw [List.foldl_cons]
  by_cases hk : okT a x
  ·have h1 := zjh ha hx hk
   have hsame : (za3 a x).Ki = a.Ki /\ (za3 a x).Map = a.Map := by
    rw [h1]
    split
    ·rename_i h
     have hk1 : a.Ki = 1 := by simpa using h
     refine ⟨hk1.symm, ?_⟩
     rcases ha with rfl | ha | ha
     ·rfl
     ·exact ha.2.2.symm
     ·rw [hk1] at ha; exact absurd ha.1 (by decide)
    ·exact ⟨rfl, rfl⟩
   obtain ⟨y, hy, hb⟩ := h
   rcases List.mem_cons.1 hy with rfl | hy
   ·exact absurd hk hb
   ·exact zji l (ha.join hx) hl ⟨y, hy, fun e => hb ⟨by rw [e.1, hsame.1], by rw [e.2, hsame.2]⟩⟩
  ·rw [zh0 hk]
   exact zh1 l hl
theorem ziG {n : Nat} (x0 : za) (L : List za) (h0 : L[0]? = some x0) (hw : ∀ x ∈ L, WT n x) (hlen : L.length <= 1000) : ∀ (rest : List za) (i : Nat) (ss : List zd), L.drop i = rest -> i + rest.length = L.length -> ss.length = i ->
  zQ (qq L) (fun (s : List zd) => (.inl s)) rest.length i ss = some (if ∀ x ∈ rest, okT x0 x then .inl (ss ++ rest.map (·.Sp)) else .inr vI) := by
 intro rest
 induction rest with
 | nil => intro i ss _ _ _; simp [zQ]
 | cons x rest ih =>
  intro i ss hd hl hs
  simp only [List.length_cons] at hl
  have hx : L[i]? = some x := by
   have := congrArg (fun l => l[0]?) hd
   simpa using this
  have hd2 : L.drop (i + 1) = rest := by
   have := congrArg (fun l => l.drop 1) hd
   simpa [List.drop_drop, Nat.add_comm] using this
  have wx := hw x (zmg hx)
  have w0 := hw x0 (zmg h0)
  show qq L i (zQ (qq L) (fun (s : List zd) => (.inl s)) rest.length (i + 1)) ss = _
  have ihx := ih (i + 1) (ss ++ [x.Sp]) hd2 (by omega) (by simp; omega)
  generalize zQ (qq L) (fun (s : List zd) => (.inl s)) rest.length (i + 1) = again at ihx |-
  unfold qq
  have e : idx L (i : Int) = some x := by unfold Go.Sx.idx; rw [if_pos (by omega)]; exact hx
  have e0 : idx L 0 = some x0 := by unfold Go.Sx.idx; rw [if_pos (by omega)]; exact h0
  rw [e, e0]
  simp only [zbs]
  have hq : (if (x.Ki != x0.Ki) = true then some true else if (x.Ki == 2) = true then some (x.Map != x0.Map) else some false : Option Bool) = some (!decide (okT x0 x)) := by
   by_cases h1 : x.Ki = x0.Ki
   ·have b1 : (x.Ki != x0.Ki) = false := by simpa using h1
    rw [b1, if_neg (by decide)]
    by_cases h2 : x.Ki = 2
    ·have b2 : (x.Ki == 2) = true := by simpa using h2
     rw [b2, if_pos rfl]
     congr 1
     by_cases h3 : x.Map = x0.Map
     ·have : okT x0 x := ⟨h1, h3⟩
      simp [h3, this]
     ·have : ¬ okT x0 x := fun h => h3 h.2
      simp [h3, this]
    ·have b2 : (x.Ki == 2) = false := by simpa using h2
     rw [b2, if_neg (by decide)]
     have : okT x0 x := by
      refine ⟨h1, ?_⟩
      have f (y : za) (hy : WT n y) (hk : y.Ki ≠ 2) : y.Map = 0 := by
       rcases hy with rfl | hy | hy
       ·rfl
       ·exact hy.2.2
       ·exact absurd hy.1 hk
      rw [f x wx h2, f x0 w0 (by rw [<- h1]; exact h2)]
     simp [this]
   ·have b1 : (x.Ki != x0.Ki) = true := by simpa using h1
    have : ¬ okT x0 x := fun h => h1 h.1
    rw [b1, if_pos rfl]; simp [this]
  rw [hq]
  simp only [zbs]
  by_cases hk : okT x0 x
  ·have hroom : room (ss.length + [x.Sp].length) 16 = some () := by unfold Go.Sx.room; rw [if_pos]; simp; omega
   simp only [hk, decide_true, Bool.not_true, zfe, if_false, hroom, zbs]
   rw [ihx]
   simp [hk]
  ·simp only [hk, decide_false, Bool.not_false, if_true]
   rw [if_neg]
   ·rfl
   ·intro h; exact hk (h x zcs)
theorem zkp {n : Nat} {x0 : za} {l : List za} (hw : ∀ x ∈ x0 :: l, WT n x) (hlen : l.length <= 900) : vC (x0 :: l) = some (l.foldl za3 x0) := by
 have w0 := hw x0 zcs
 have wl := fun y hy => hw y (zcm _ hy)
 unfold vC
 have := ziG x0 (x0 :: l) rfl hw (by simp; omega) (x0 :: l) 0 [] rfl (by simp) rfl
 rw [this, zbs]
 by_cases h : ∀ x ∈ x0 :: l, okT x0 x
 ·rw [if_pos h]
  have e0 : idx (x0 :: l) 0 = some x0 := rfl
  simp only [e0, zbs]
  rw [ziF l w0 wl (fun y hy => h y (zcm _ hy))]
  split
  ·have : ([] ++ (x0 :: l).map (·.Sp)) = x0.Sp :: l.map (·.Sp) := rfl
   rw [this, zmu]
   ·rfl
   ·intro s hs
    rcases List.mem_cons.1 hs with rfl | hs
    ·exact w0.span
    ·obtain ⟨y, hy, rfl⟩ := List.mem_map.1 hs
     exact (wl y hy).span
  ·rfl
 ·rw [if_neg h]
  have : ∃ x ∈ l, ¬ okT x0 x := by
   simp only [Classical.not_forall] at h
   obtain ⟨y, hy, hb⟩ := h
   rcases List.mem_cons.1 hy with rfl | hy
   ·exact absurd ⟨rfl, rfl⟩ hb
   ·exact ⟨y, hy, hb⟩
  rw [zji l w0 wl this]
end Go.Proofs.YtgmmfjpmahcocaaGreatDoor
