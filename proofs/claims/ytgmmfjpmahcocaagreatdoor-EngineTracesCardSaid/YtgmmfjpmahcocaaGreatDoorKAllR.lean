import Derived.Test.YtgmmfjpmahcocaaGreatDoorKComeR
set_option linter.unusedVariables false
set_option linter.unusedSimpArgs false
namespace Go.Proofs.YtgmmfjpmahcocaaGreatDoor
open Go.Sx
def znc : Regs := fun _ => vI
def cons (code : List zc) (lv : Nat -> Bool -> Option Regs) : Nat -> Nat -> List Regs
 | 0, q => if q = 0 then [znc] else []
 | n + 1, q => cons code lv n q ++ (match code[n]? with | some i => ctr i n q (lv n) | none => [])
theorem zjb (code : List zc) (lv : Nat -> Bool -> Option Regs) (q : Nat) : ∀ n, (cons code lv n q).length <= 1 + 2 * n := by
 intro n
 induction n with
 | zero => unfold cons; split <;> simp
 | succ n ih =>
  unfold cons
  rw [List.length_append]
  have : (match code[n]? with | some i => ctr i n q (lv n) | none => []).length <= 2 := by
   split
   ·rename_i i _
    unfold ctr
    rw [List.length_append]
    have a : ∀ (c : Bool) (o : Option Regs), (if c = true then o.toList else []).length <= 1 := by
     intro c o
     cases c <;> cases o <;> simp
    have := a ((zr i).2.1 && ((n : Int) + (zr i).1 == (q : Int))) (lv n true)
    have := a ((zr i).2.2 && (n + 1 == q)) (lv n false)
    omega
   ·simp
  omega
structure ziu (fu : Nat) (m : zi) (n : Nat) (j : ze) (known : List (List za)) (lv : Nat -> Bool -> Option Regs) : Prop where
 len : known.length = n
 past : ∀ p, p < n -> ∃ x b, j.ca[p]? = some x /\ j.any[p]? = some b /\ known[p]? = some (if b then jY 8 x else [])
 none_ : ∀ p, p < n -> j.any[p]? = some false -> ∀ b, lv p b = none
 leaves : ∀ p x, p < n -> j.any[p]? = some true -> j.ca[p]? = some x -> ∀ b, qD fu m p (jY 8 x) b = some (match lv p b with | some s => (jY 8 s, true) | none => ([], false))
 fut : ∀ q, n <= q -> q < m.Co.length -> zhT m j q (cons m.Co lv n q)
theorem zjx {fu : Nat} {m : zi} (hg : zen m.Co) {n : Nat} (hn : n < m.Co.length) {j : ze} {known : List (List za)} {lv : Nat -> Bool -> Option Regs} (hK : ziu fu m n j known lv) : ∀ (c p f : Nat), p + c = n -> c < f ->
  loop (qA fu m n known) f ((cons m.Co lv p n).map (jY 8), (p : Int)) = some ((cons m.Co lv n n).map (jY 8)) := by
 have n64 := hg.n64
 intro c
 induction c with
 | zero =>
  intro p f hp hf
  obtain ⟨f, rfl⟩ : ∃ k, f = k + 1 := ⟨f - 1, by omega⟩
  have : p = n := by omega
  subst this
  rw [loop, qA, if_neg (by simp)]
 | succ c ih =>
  intro p f hp hf
  obtain ⟨f, rfl⟩ : ∃ k, f = k + 1 := ⟨f - 1, by omega⟩
  have ihx := ih (p + 1) f (by omega) (by omega)
  have hci : m.Co[p]? = some (m.Co[p]'(by omega)) := zeg (by omega)
  have eidx : idx m.Co (p : Int) = some (m.Co[p]'(by omega)) := zdL (by omega)
  generalize hz : m.Co[p]'(by omega) = i at hci eidx
  obtain ⟨x, b, hx, hb, hk⟩ := hK.past p (by omega)
  have ek : idx known (p : Int) = some (if b then jY 8 x else []) := by unfold Go.Sx.idx; rw [if_pos (by omega)]; exact hk
  have hnext : w64 ((p : Int) + 1) = ((p + 1 : Nat) : Int) := by rw [zI (by omega) (by omega)]; push_cast; rfl
  have hcons : cons m.Co lv (p + 1) n = cons m.Co lv p n ++ ctr i p n (lv p) := by rw [cons, hci]
  have hl1 := zjb m.Co lv n p
  rw [loop, qA, if_pos (by simp; omega)]
  simp only [ek, zbs, hnext]
  cases b with
  | false =>
   have hn := hK.none_ p (by omega) hb
   have : ctr i p n (lv p) = [] := by unfold ctr; rw [hn, hn]; simp
   rw [hcons, this, List.append_nil] at ihx
   simp only [zfe, if_false]
   rw [if_pos (show ((([] : List za).length : Int) == 0) = true from rfl)]
   exact ihx
  | true =>
   have hlv := hK.leaves p x (by omega) hb hx
   have gs := zcI i
   have wd : w64 ((p : Int) + (zr i).1) = (p : Int) + (zr i).1 := zI (by omega) (by omega)
   simp only [if_true, vU]
   rw [if_neg (by decide)]
   simp only [eidx, zbs, zea, wd, hlv]
   have h1 : (if ((zr i).2.1 && ((p : Int) + (zr i).1 == (n : Int))) = true then
     (if (match lv p true with | some s => (jY 8 s, true) | none => ([], false)).2 = true then (room (((cons m.Co lv p n).map (jY 8)).length + [(match lv p true with | some s => (jY 8 s, true) | none => (([] : List za), false)).1].length) 24).bind fun u => some ((cons m.Co lv p n).map (jY 8) ++ [(match lv p true with | some s => (jY 8 s, true) | none => (([] : List za), false)).1]) else some ((cons m.Co lv p n).map (jY 8)))
     else some ((cons m.Co lv p n).map (jY 8)) : Option (List (List za))) = some ((cons m.Co lv p n ++ (if (zr i).2.1 && ((p : Int) + (zr i).1 == (n : Int)) then (lv p true).toList else [])).map (jY 8)) := by
    by_cases hc : ((zr i).2.1 && ((p : Int) + (zr i).1 == (n : Int))) = true
    ·rw [if_pos hc, if_pos hc]
     cases hv : lv p true with
     | none => simp
     | some s =>
      have hroom : room (((cons m.Co lv p n).map (jY 8)).length + [jY 8 s].length) 24 = some () := by unfold Go.Sx.room; rw [if_pos]; simp; omega
      simp only [if_true, hroom, zbs]
      simp
    ·rw [if_neg hc, if_neg hc, List.append_nil]
   rw [h1]
   simp only [zbs]
   have e4 : ((((p + 1 : Nat) : Int)) == (n : Int)) = (p + 1 == n) := by
    by_cases e : p + 1 = n
    ·subst e; simp
    ·have : (((p + 1 : Nat) : Int) == (n : Int)) = false := by simp; omega
     rw [this]; simp [e]
   rw [e4]
   have hcs : cons m.Co lv (p + 1) n = cons m.Co lv p n ++ (if (zr i).2.1 && ((p : Int) + (zr i).1 == (n : Int)) then (lv p true).toList else []) ++ (if (zr i).2.2 && (p + 1 == n) then (lv p false).toList else []) := by
    rw [hcons]; unfold ctr; rw [List.append_assoc]
   generalize hA : cons m.Co lv p n ++ (if (zr i).2.1 && ((p : Int) + (zr i).1 == (n : Int)) then (lv p true).toList else []) = A at hcs |-
   have hAl : A.length <= 2 + 2 * p := by
    rw [<- hA, List.length_append]
    have : (if ((zr i).2.1 && ((p : Int) + (zr i).1 == (n : Int))) = true then (lv p true).toList else []).length <= 1 := by
     split
     ·cases lv p true <;> simp
     ·simp
    omega
   by_cases hc : ((zr i).2.2 && (p + 1 == n)) = true
   ·rw [if_pos hc]
    rw [hcs, if_pos hc] at ihx
    cases hv : lv p false with
    | none =>
     rw [hv] at ihx
     simp only [Option.toList_none, List.append_nil] at ihx
     simp only [zfe, if_false]
     exact ihx
    | some s =>
     rw [hv] at ihx
     have hroom : room ((A.map (jY 8)).length + [jY 8 s].length) 24 = some () := by unfold Go.Sx.room; rw [if_pos]; simp; omega
     simp only [if_true, hroom, zbs]
     simp only [Option.toList_some, List.map_append, List.map_cons, List.map_nil] at ihx
     exact ihx
   ·rw [if_neg hc]
    rw [hcs, if_neg hc, List.append_nil] at ihx
    exact ihx
theorem zli {fu : Nat} (hf : 100 <= fu) {m : zi} (hg : zen m.Co) {n : Nat} (hn : n < m.Co.length) {j : ze} {known : List (List za)} {lv : Nat -> Bool -> Option Regs} (hK : ziu fu m n j known lv) :
  zab fu m n known = some ((cons m.Co lv n n).map (jY 8)) := by
 have n64 := hg.n64
 have hl := zjx hg hn hK n 0 fu (by omega) (by omega)
 unfold zab
 by_cases h : n = 0
 ·subst h
  have e1 : mkLen 8 32 = some 8 := rfl
  have : (if (((0 : Nat) : Int) == 0) = true then (mkLen 8 32).bind fun m65 => (room (([] : List (List za)).length + ([(List.replicate m65 (za.mk 0 (zd.mk 0 0) 0))]).length) 24).bind fun u72 =>
    some (([] : List (List za)) ++ [(List.replicate m65 (za.mk 0 (zd.mk 0 0) 0))]) else some ([] : List (List za))) = some ((cons m.Co lv 0 0).map (jY 8)) := rfl
  rw [this, zbs]
  show (loop (qA fu m ((0 : Nat) : Int) known) fu (_, ((0 : Nat) : Int))).bind _ = _
  rw [hl]; rfl
 ·have e : ((n : Int) == 0) = false := by simp; omega
  rw [e]
  have : cons m.Co lv 0 n = [] := by unfold cons; rw [if_neg h]
  rw [this] at hl
  simp only [zfe, if_false, zbs]
  show (loop (qA fu m n known) fu (([] : List Regs).map (jY 8), ((0 : Nat) : Int))).bind _ = _
  rw [hl]; rfl
theorem znO (cs : List Regs) (hc : cs.length <= 200) {r : Nat} (hr : r < 8) : ∀ (rest : List Regs) (i : Nat) (acc : List za), cs.drop i = rest -> i + rest.length = cs.length -> acc.length = i ->
  zQ (jN (cs.map (jY 8)) r) (fun (s : List za) => s) rest.length i acc = some (acc ++ rest.map (· r)) := by
 intro rest
 induction rest with
 | nil => intro i acc _ _ _; simp [zQ]
 | cons x rest ih =>
  intro i acc hd hl ha
  simp only [List.length_cons] at hl
  have hx : cs[i]? = some x := by
   have := congrArg (fun l => l[0]?) hd
   simpa using this
  have hd2 : cs.drop (i + 1) = rest := by
   have := congrArg (fun l => l.drop 1) hd
   simpa [List.drop_drop, Nat.add_comm] using this
  have ihx := ih (i + 1) (acc ++ [x r]) hd2 (by omega) (by simp; omega)
  show jN (cs.map (jY 8)) r i (zQ (jN (cs.map (jY 8)) r) (fun (s : List za) => s) rest.length (i + 1)) acc = _
  generalize zQ (jN (cs.map (jY 8)) r) (fun (s : List za) => s) rest.length (i + 1) = again at ihx |-
  unfold jN
  have e : idx (cs.map (jY 8)) (i : Int) = some (jY 8 x) := by unfold Go.Sx.idx; rw [if_pos (by omega)]; simp [hx]
  have hroom : room (acc.length + [x r].length) 32 = some () := by unfold Go.Sx.room; rw [if_pos]; simp; omega
  simp only [e, zbs, qw x (show (0 : Int) <= (r : Int) by omega) (show (r : Int) < (8 : Nat) by omega), Int.toNat_natCast, hroom]
  rw [ihx]; simp
theorem znP {n : Nat} {c0 : Regs} {rest : List Regs} (hc : rest.length <= 190) (hw : ∀ c ∈ c0 :: rest, ∀ r, r < 8 -> WT n (c r)) {x : Regs} (hx : ∀ r, r < 8 -> x r = (rest.map (· r)).foldl za3 (c0 r)) : ∀ (c r : Nat), r + c = 8 ->
  zQ (jO ((c0 :: rest).map (jY 8))) (fun (s : List za) => s) c r (jY 8 (fun q => if q < r then x q else vI)) = some (jY 8 x) := by
 intro c
 induction c with
 | zero =>
  intro r hr
  have : r = 8 := by omega
  subst this
  exact congrArg some (zhd (fun q hq => if_pos hq))
 | succ c ih =>
  intro r hr
  have ihx := ih (r + 1) (by omega)
  show jO ((c0 :: rest).map (jY 8)) r (zQ (jO ((c0 :: rest).map (jY 8))) (fun (s : List za) => s) c (r + 1)) _ = _
  generalize zQ (jO ((c0 :: rest).map (jY 8))) (fun (s : List za) => s) c (r + 1) = again at ihx |-
  unfold jO
  have e1 := znO (c0 :: rest) (by simp; omega) (r := r) (by omega) (c0 :: rest) 0 [] rfl (by simp) rfl
  have el : ((c0 :: rest).map (jY 8)).length = (c0 :: rest).length := List.length_map _
  rw [el, e1]
  simp only [zbs, List.nil_append, List.map_cons]
  rw [zkp (n := n) (x0 := c0 r) (l := rest.map (· r)) (fun y hy => ?_) (by simp; omega)]
  ·simp only [zbs, qw (fun q => if q < r then x q else vI) (show (0 : Int) <= (r : Int) by omega) (show (r : Int) < (8 : Nat) by omega), Int.toNat_natCast, vF]
   rw [<- ihx]
   congr 1
   refine zhd (fun q hq => ?_)
   unfold zW
   by_cases h1 : q = r
   ·subst h1; rw [if_pos rfl, if_pos (by omega), hx q hq]
   ·rw [if_neg h1]
    show (if q < r then x q else vI) = _
    by_cases h2 : q < r
    ·rw [if_pos h2, if_pos (by omega)]
    ·rw [if_neg h2, if_neg (by omega)]
  ·rcases List.mem_cons.1 hy with rfl | hy
   ·exact hw c0 zcs r (by omega)
   ·obtain ⟨c', hc', rfl⟩ := List.mem_map.1 hy
    exact hw c' (zcm _ hc') r (by omega)
theorem znQ {fu : Nat} (hf : 100 <= fu) {m : zi} (hg : zen m.Co) {n : Nat} (hn : n < m.Co.length) {j : ze} (hJ : JI m j) {known : List (List za)} {lv : Nat -> Bool -> Option Regs} (hK : ziu fu m n j known lv) :
  ∃ x b, j.ca[n]? = some x /\ j.any[n]? = some b /\ zbw fu m n known = some (if b then jY 8 (zhv m.Co n x m.Co.length) else []) := by
 have hC := hK.fut n (Nat.le_refl _) hn
 have hcl := zjb m.Co lv n n
 have n64 := hg.n64
 have hlen : n < j.ca.length := by rw [hJ.lenC]; exact hn
 unfold zbw
 rw [zli hf hg hn hK]
 simp only [zbs]
 cases hcs : cons m.Co lv n n with
 | nil =>
  rw [hcs] at hC
  exact ⟨j.ca[n], false, zeg hlen, hC.any, rfl⟩
 | cons c0 rest =>
  rw [hcs] at hC hcl
  obtain ⟨x, hx, hv⟩ := hC.val c0 rest rfl
  refine ⟨x, true, hx, hC.any, ?_⟩
  have ne : ((((c0 :: rest).map (jY 8)).length : Int) == 0) = false := by simp; omega
  rw [ne]
  simp only [zfe, if_false, if_true]
  have e1 : mkLen 8 32 = some 8 := rfl
  rw [e1]
  simp only [zbs]
  have h1 := znP (n := m.Ms.length) (by simp at hcl; omega) hC.wt hv 8 0 rfl
  have e0 : jY 8 (fun q => if q < 0 then x q else vI) = List.replicate 8 (za.mk 0 (zd.mk 0 0) 0) := rfl
  rw [e0] at h1
  rw [h1, zbs]
  have h3 := znv (n := m.Ms.length) (fu := fu) (by omega) hg (p := n) (hJ.wt n x hx) m.Co.length 0 (by omega)
  have e2 : zhv m.Co n x 0 = x := rfl
  rw [e2] at h3
  rw [h3]; rfl
theorem zlj {fu : Nat} (hf : 100 <= fu) {m : zi} (hg : zen m.Co) {n : Nat} (hn : n < m.Co.length) {j : ze} (hU : zh3 m n j) {known : List (List za)} {lv : Nat -> Bool -> Option Regs} (hK : ziu fu m n j known lv) :
  (∃ e, e ≠ 0 /\ (∀ again, zL 1000 n again j = some (.inr (none, (n : Int), e))) /\ ∀ again, qm fu m n again known = some (.inr ([], (n : Int), e))) \/
  ∃ j' s lv', (∀ again, zL 1000 n again j = again j') /\ (∀ again, qm fu m n again known = again (known ++ [s])) /\ ziu fu m (n + 1) j' (known ++ [s]) lv' := by
 have n64 := hg.n64
 obtain ⟨x, b, hx, hb, hat⟩ := znQ hf hg hn hU.ji hK
 have hroomK : ∀ s : List za, room (known.length + [s].length) 24 = some () := by
  intro s; unfold Go.Sx.room; rw [if_pos]; simp [hK.len]; omega
 have hia : idx j.any (n : Int) = some b := by unfold Go.Sx.idx; rw [if_pos (by omega)]; exact hb
 have hci : m.Co[n]? = some m.Co[n] := zeg hn
 have eidx : idx m.Co (n : Int) = some m.Co[n] := zdL hn
 generalize hz : m.Co[n] = i at hci eidx
 have hx8 := hU.ji.wt n x hx
 cases b with
 | false =>
  right
  refine ⟨j, [], fun p => if p = n then (fun _ => none) else lv p, fun again => ?_, fun again => ?_, ?_⟩
  ·unfold zL
   rw [hia]; rfl
  ·unfold qm
   rw [hat]
   simp only [zbs, hroomK, zfe, if_false]
   rfl
  ·refine ⟨by simp [hK.len], fun p hp => ?_, fun p hp ha b => ?_, fun p y hp ha hy b => ?_, fun q hq hql => ?_⟩
   ·by_cases e : p = n
    ·subst e
     exact ⟨x, false, hx, hb, by rw [List.getElem?_append_right (by rw [hK.len]; exact Nat.le_refl _)]; simp [hK.len]⟩
    ·obtain ⟨y, c, h1, h2, h3⟩ := hK.past p (by omega)
     exact ⟨y, c, h1, h2, by rw [List.getElem?_append_left (by rw [hK.len]; omega)]; exact h3⟩
   ·by_cases e : p = n
    ·simp only [e, if_true]
    ·simp only [e, if_false]; exact hK.none_ p (by omega) ha b
   ·by_cases e : p = n
    ·subst e; rw [hb] at ha; cases ha
    ·simp only [e, if_false]; exact hK.leaves p y (by omega) ha hy b
   ·have hc := hK.fut q (by omega) hql
    have hsame : ∀ k, k <= n -> cons m.Co (fun p => if p = n then (fun _ => none) else lv p) k q = cons m.Co lv k q := by
     intro k
     induction k with
     | zero => intro _; rfl
     | succ k ih =>
      intro hk
      unfold cons
      rw [ih (by omega), if_neg (by omega)]
    have : cons m.Co (fun p => if p = n then (fun _ => none) else lv p) (n + 1) q = cons m.Co lv n q := by
     rw [cons, hsame n (Nat.le_refl _), hci]
     simp only [if_true]
     have : ctr i n q (fun _ => none) = [] := by unfold ctr; simp
     rw [this, List.append_nil]
    rw [this]; exact hc
 | true =>
  have hw := zlI hU.ji hg hn hx
  generalize hk : zhv m.Co n x m.Co.length = k at hw hat
  have hk8 : ∀ r, r < 8 -> WT m.Ms.length (k r) := by rw [<- hk]; exact zkX hx8 _
  have hnc : n < j.ca.length := by rw [hU.ji.lenC]; exact hn
  have hJ1 : JI m ⟨j.Module, j.ca.set n k, j.any, j.loops⟩ := hU.ji.put hk8 j.any hU.ji.lenA
  have hk1 : (j.ca.set n k)[n]? = some k := List.getElem?_set_self hnc
  have hhead : ∃ kh : Regs, (∀ r, r < 8 -> WT m.Ms.length (kh r)) /\ (i.Op = 20 -> idx (j.ca.set n k) (w64 ((n : Int) - i.D)) = some kh /\ idx (known ++ [jY 8 k]) (w64 ((n : Int) - i.D)) = some (jY 8 kh)) := by
   by_cases h20 : i.Op = 20
   ·have hlo := hg.fine.loop hci h20
    obtain ⟨t, ht⟩ : ∃ t : Nat, (n : Int) - i.D = (t : Int) := ⟨((n : Int) - i.D).toNat, by omega⟩
    have hcl := hU.clos n n i hb hci h20 (by omega) (Nat.le_refl _)
    rw [ht, Int.toNat_natCast] at hcl
    obtain ⟨y, c, h1, h2, h3⟩ := hK.past t (by omega)
    rw [hcl] at h2
    obtain rfl := Option.some.inj h2
    refine ⟨y, hU.ji.wt t y h1, fun _ => ?_⟩
    rw [zI (by omega) (by omega), ht]
    constructor
    ·unfold Go.Sx.idx; rw [if_pos (by omega), Int.toNat_natCast, List.getElem?_set_ne (by omega)]; exact h1
    ·unfold Go.Sx.idx; rw [if_pos (by omega), Int.toNat_natCast, List.getElem?_append_left (by rw [hK.len]; omega)]; exact h3
   ·exact ⟨znc, fun r _ => WT.zero, fun h => absurd h h20⟩
  obtain ⟨kh, hkh8, hkh⟩ := hhead
  obtain ⟨k', e, hone, hask, hsame, hleave⟩ := zjd (fu := fu) (by omega) hJ1 hg hn hci hk1 hkh8 (fun h20 => (hkh h20).1)
  have hne : (((jY 8 k).length : Int) == 0) = false := by rw [vU]; rfl
  have hdoc : ∀ again, qm fu m n again known = if (e != 0) = true then some (.inr (([] : List (List za)), (n : Int), e)) else again (known ++ [jY 8 k]) := by
   intro again
   unfold qm
   rw [hat]
   simp only [zbs, if_true, hroomK, hne, zfe, if_false, eidx]
   by_cases h20 : i.Op = 20
   ·have b20 : (i.Op == 20) = true := by simpa using h20
    have hlo := hg.fine.loop hci h20
    have hap : apart (w64 ((n : Int) - i.D)) (known.length : Int) = some () := by
     unfold apart
     rw [if_neg]
     rw [zI (by omega) (by omega), hK.len]; omega
    simp only [b20, if_true, (hkh h20).2, hap, zbs, hask]
   ·have b20 : (i.Op == 20) = false := by simpa using h20
    have hask2 : xK m n (jY 8 k) (jY 8 k) = some e := by
     obtain ⟨k2, e2, hone2, hask2, _, _⟩ := zjd (fu := fu) (by omega) hJ1 hg hn hci hk1 hk8 (fun h => absurd h h20)
     rw [hone] at hone2
     obtain ⟨rfl, rfl⟩ := Prod.mk.inj (Option.some.inj hone2)
     exact hask2
    simp only [b20, zfe, if_false, hask2, zbs]
  by_cases he : e = 0
  ·right
   subst he
   obtain ⟨r1, hr1, hOne⟩ := zku hJ1 hg hn
   rw [hone] at hr1
   obtain rfl := Option.some.inj hr1
   have hk'8 := (hOne rfl).1
   obtain ⟨j', hways, hJ', hcame, hold⟩ := zmj hJ1 hg hn hci hk8 hk'8 hsame
   refine ⟨j', jY 8 k, fun p => if p = n then zhf i k k' else lv p, fun again => ?_, fun again => ?_, ?_⟩
   ·unfold zL
    rw [hia]
    simp only [zbs, Bool.not_true, zfe, if_false, hw, hone, hways]
    rfl
   ·rw [hdoc]; rfl
   ·refine ⟨by simp [hK.len], fun p hp => ?_, fun p hp ha b => ?_, fun p y hp ha hy b => ?_, fun q hq hql => ?_⟩
    ·have ho := hold p (by omega)
     by_cases e : p = n
     ·subst e
      exact ⟨k, true, ho.1.trans hk1, ho.2.trans hb, by rw [List.getElem?_append_right (by rw [hK.len]; exact Nat.le_refl _)]; simp [hK.len]⟩
     ·obtain ⟨y, c, h1, h2, h3⟩ := hK.past p (by omega)
      refine ⟨y, c, ho.1.trans ?_, ho.2.trans h2, by rw [List.getElem?_append_left (by rw [hK.len]; omega)]; exact h3⟩
      show (j.ca.set n k)[p]? = _
      rw [List.getElem?_set_ne (by omega)]; exact h1
    ·have ho := hold p (by omega)
     have ha' : j.any[p]? = some false := ho.2.symm.trans ha
     by_cases e : p = n
     ·subst e; rw [hb] at ha'; cases ha'
     ·simp only [e, if_false]; exact hK.none_ p (by omega) ha' b
    ·have ho := hold p (by omega)
     have ha' : j.any[p]? = some true := ho.2.symm.trans ha
     have hy' : (j.ca.set n k)[p]? = some y := ho.1.symm.trans hy
     by_cases e : p = n
     ·subst e
      rw [hk1] at hy'
      obtain rfl := Option.some.inj hy'
      simp only [if_true]
      have hr : zO i = true := hg.fine.right hci
      by_cases hj : 16 <= i.Op /\ i.Op <= 19
      ·obtain ⟨s, ok, e1, e2⟩ := ziy (fu := fu) hci hr hk8 hj b
       rw [e2]
       unfold zhf
       rw [if_pos hj, e1]
       cases ok <;> rfl
      ·rw [hleave rfl b hj, zf7 hj]
     ·simp only [e, if_false]
      rw [List.getElem?_set_ne (by omega)] at hy'
      exact hK.leaves p y (by omega) ha' hy' b
    ·have hc := hK.fut q (by omega) hql
     have hc1 : zhT m ⟨j.Module, j.ca.set n k, j.any, j.loops⟩ q (cons m.Co lv n q) := by
      refine ⟨hc.any, hc.wt, fun c rest heq => ?_⟩
      obtain ⟨y, h1, h2⟩ := hc.val c rest heq
      exact ⟨y, by show (j.ca.set n k)[q]? = _; rw [List.getElem?_set_ne (by omega)]; exact h1, h2⟩
     have hc2 := hcame q _ (by omega) hc1
     have hsm : ∀ t, t <= n -> cons m.Co (fun p => if p = n then zhf i k k' else lv p) t q = cons m.Co lv t q := by
      intro t
      induction t with
      | zero => intro _; rfl
      | succ t ih =>
       intro ht
       unfold cons
       rw [ih (by omega), if_neg (by omega)]
     have : cons m.Co (fun p => if p = n then zhf i k k' else lv p) (n + 1) q = cons m.Co lv n q ++ ctr i n q (zhf i k k') := by
      rw [cons, hsm n (Nat.le_refl _), hci]
      simp only [if_true]
     rw [this]; exact hc2
  ·left
   have b0 : (e != 0) = true := by simpa using he
   refine ⟨e, he, fun again => ?_, fun again => by rw [hdoc, b0]; rfl⟩
   unfold zL
   rw [hia]
   simp only [zbs, Bool.not_true, zfe, if_false, hw, hone, b0, if_true]
theorem zj5 {σ ρ : Type} (body : Nat -> (σ -> Option ρ) -> σ -> Option ρ) (out : σ -> ρ) (n i : Nat) (s : σ) : zQ body out (n + 1) i s = body i (zQ body out n (i + 1)) s := rfl
theorem zlk {fu : Nat} (hf : 100 <= fu) {m : zi} (hg : zen m.Co) : ∀ (c n : Nat) (j : ze) (known : List (List za)) (lv : Nat -> Bool -> Option Regs), n + c = m.Co.length -> zh3 m n j -> ziu fu m n j known lv ->
  (∃ p e, zQ (zL 1000) (fun (s : ze) => (.inl s)) c n j = some (.inr (none, p, e)) /\ zQ (qm fu m) (fun (s : List (List za)) => (.inl s)) c n known = some (.inr ([], p, e))) \/
  ∃ j' k', zQ (zL 1000) (fun (s : ze) => (.inl s)) c n j = some (.inl j') /\ zQ (qm fu m) (fun (s : List (List za)) => (.inl s)) c n known = some (.inl k') := by
 intro c
 induction c with
 | zero => intro n j known lv _ _ _; exact .inr ⟨j, known, rfl, rfl⟩
 | succ c ih =>
  intro n j known lv hn hU hK
  simp only [zj5]
  rcases zlj hf hg (by omega) hU hK with ⟨e, _, h1, h2⟩ | ⟨j', s, lv', h1, h2, hK'⟩
  ·exact .inl ⟨n, e, h1 _, h2 _⟩
  ·have hU' : zh3 m (n + 1) j' := by
    have := zkv hU hg (by omega) (fun j => some (.inl j)) (Q := fun o => match o with | .inl j' => zh3 m (n + 1) j' | .inr _ => True) (fun j' h => OK.ret h) (fun e _ => trivial)
    obtain ⟨r, hr, hq⟩ := this
    rw [h1] at hr
    obtain rfl := Option.some.inj hr
    exact hq
   rw [h1, h2]
   exact ih (n + 1) j' _ lv' (by omega) hU' hK'
theorem zll {fu : Nat} (hf : 100 <= fu) (m : zi) : ∃ o known p e, jC 1000 m = some (o, p, e) /\ vO fu m = some (known, p, e) := by
 obtain ⟨b, hb1, hb2⟩ := zkD fu m.Ms
 unfold jC vO
 rw [hb1, hb2]
 simp only [zbs]
 cases b with
 | false => exact ⟨_, _, _, _, rfl, rfl⟩
 | true =>
  simp only [Bool.not_true, zfe, if_false]
  obtain ⟨r, hc1, hc2, hg, _⟩ := zjE m.Co fu hf
  rw [hc1, hc2]
  simp only [zbs]
  by_cases he : r.2 = 0
  ·obtain ⟨_, hg⟩ := hg he
   have b0 : (r.2 != 0) = false := by simpa using he
   simp only [b0, zfe, if_false]
   have hJ := zh4 m
   have n64 := hg.n64
   have n1 := hg.n1
   have e1 : mkLen (m.Co.length : Int) 256 = some m.Co.length := by
    unfold mkLen
    rw [if_pos (show 0 <= (m.Co.length : Int) /\ (m.Co.length : Int).toNat * 256 <= 140737488355328 from ⟨Int.natCast_nonneg _, by rw [Int.toNat_natCast]; omega⟩), Int.toNat_natCast]
   have e2 : mkLen (m.Co.length : Int) 1 = some m.Co.length := by
    unfold mkLen
    rw [if_pos (show 0 <= (m.Co.length : Int) /\ (m.Co.length : Int).toNat * 1 <= 140737488355328 from ⟨Int.natCast_nonneg _, by rw [Int.toNat_natCast]; omega⟩), Int.toNat_natCast]
   have e3 : idx (List.replicate m.Co.length false) 0 = some false := by
    unfold Go.Sx.idx
    rw [if_pos (by omega), show Int.toNat 0 = 0 from rfl, List.getElem?_replicate, if_pos (by omega)]
   simp only [e1, e2, zbs, zfJ hg, e3, show Int.toNat 0 = 0 from rfl]
   have hU := zmy (m := m) hg
   have hK : ziu fu m 0 ⟨m, List.replicate m.Co.length (fun _ => vI), (List.replicate m.Co.length false).set 0 true, lps m.Co m.Co.length⟩ [] (fun _ _ => none) := by
    refine ⟨rfl, fun p hp => by omega, fun p hp => by omega, fun p x hp => by omega, fun q _ hq => ?_⟩
    unfold cons
    by_cases h0 : q = 0
    ·subst h0
     rw [if_pos rfl]
     refine ⟨?_, fun c hc r _ => ?_, fun c rest heq => ?_⟩
     ·show ((List.replicate m.Co.length false).set 0 true)[0]? = _
      rw [List.getElem?_set_self (by simp; omega)]; rfl
     ·simp only [List.mem_singleton] at hc; subst hc; exact WT.zero
     ·simp only [List.cons.injEq] at heq
      obtain ⟨rfl, rfl⟩ := heq
      exact ⟨fun _ => vI, (by show (List.replicate m.Co.length (fun _ => vI : Regs))[0]? = _; rw [List.getElem?_replicate, if_pos (by omega)]), fun r _ => rfl⟩
    ·rw [if_neg h0]
     refine ⟨?_, fun c hc => (by cases hc), fun c rest heq => (by cases heq)⟩
     show ((List.replicate m.Co.length false).set 0 true)[q]? = _
     rw [List.getElem?_set_ne (by omega)]; simp [hq]
   rcases zlk hf hg m.Co.length 0 _ _ _ (by omega) hU hK with ⟨p, e, h1, h2⟩ | ⟨j', k', h1, h2⟩
   ·refine ⟨none, [], p, e, ?_, ?_⟩
    ·show (zQ (zL 1000) _ _ _ _).bind _ = _
     rw [show (fun _ => za.mk 0 (zd.mk 0 0) 0 : Regs) = (fun _ => vI) from rfl, h1]; rfl
    ·rw [h2]; rfl
   ·refine ⟨some j', k', 0, 0, ?_, ?_⟩
    ·show (zQ (zL 1000) _ _ _ _).bind _ = _
     rw [show (fun _ => za.mk 0 (zd.mk 0 0) 0 : Regs) = (fun _ => vI) from rfl, h1]; rfl
    ·rw [h2]; rfl
  ·have b0 : (r.2 != 0) = true := by simpa using he
   simp only [b0, if_true]
   exact ⟨_, _, _, _, rfl, rfl⟩
theorem zhS {fu : Nat} (hf : 100 <= fu) (m : zi) : ∃ known p e, zbi 1000 m = some (p, e) /\ vO fu m = some (known, p, e) := by
 obtain ⟨o, known, p, e, h1, h2⟩ := zll hf m
 refine ⟨known, p, e, ?_, h2⟩
 unfold zbi
 rw [h1]
 cases o <;> rfl
end Go.Proofs.YtgmmfjpmahcocaaGreatDoor
