/- Texts KAllR, KTr, KTr2 of this proof. -/
import Derived.Test.YtgmmfjpmahcocaaGreatDoorKWidR
import Derived.Test.YtgmmfjpmahcocaaGreatDoorKSound2
set_option linter.unusedVariables false
set_option linter.unusedSimpArgs false
namespace Go.Proofs.YtgmmfjpmahcocaaGreatDoor
open Go.Sx
def zeroR : Regs := fun _ => zeroT
def cons (code : List api_Inst) (lv : Nat -> Bool -> Option Regs) : Nat -> Nat -> List Regs
 | 0, q => if q = 0 then [zeroR] else []
 | n + 1, q => cons code lv n q ++ (match code[n]? with | some i => ctr i n q (lv n) | none => [])
theorem cons_len (code : List api_Inst) (lv : Nat -> Bool -> Option Regs) (q : Nat) : ∀ n, (cons code lv n q).length <= 1 + 2 * n := by
 intro n
 induction n with
 | zero => unfold cons; split <;> simp
 | succ n ih =>
  unfold cons
  rw [List.length_append]
  have : (match code[n]? with | some i => ctr i n q (lv n) | none => []).length <= 2 := by
   split
   ·rename_i i _
    unfold ctr
    rw [List.length_append]
    have a : ∀ (c : Bool) (o : Option Regs), (if c = true then o.toList else []).length <= 1 := by
     intro c o
     cases c <;> cases o <;> simp
    have := a ((goesB i).2.1 && ((n : Int) + (goesB i).1 == (q : Int))) (lv n true)
    have := a ((goesB i).2.2 && (n + 1 == q)) (lv n false)
    omega
   ·simp
  omega
structure Known (fu : Nat) (m : api_Module) (n : Nat) (j : judge_judge) (known : List (List api_Type)) (lv : Nat -> Bool -> Option Regs) : Prop where
 len : known.length = n
 past : ∀ p, p < n -> ∃ x b, j.came[p]? = some x /\ j.any[p]? = some b /\ known[p]? = some (if b then arrL 8 x else [])
 none_ : ∀ p, p < n -> j.any[p]? = some false -> ∀ b, lv p b = none
 leaves : ∀ p x, p < n -> j.any[p]? = some true -> j.came[p]? = some x -> ∀ b, tappetref09_Leaves fu m p (arrL 8 x) b = some (match lv p b with | some s => (arrL 8 s, true) | none => ([], false))
 fut : ∀ q, n <= q -> q < m.Code.length -> CameR m j q (cons m.Code lv n q)
theorem comes_loop {fu : Nat} {m : api_Module} (hg : Good m.Code) {n : Nat} (hn : n < m.Code.length) {j : judge_judge} {known : List (List api_Type)} {lv : Nat -> Bool -> Option Regs} (hK : Known fu m n j known lv) : ∀ (c p f : Nat), p + c = n -> c < f ->
  loop (tappetref09_comes_l1 fu m n known) f ((cons m.Code lv p n).map (arrL 8), (p : Int)) = some ((cons m.Code lv n n).map (arrL 8)) := by
 have n64 := hg.n64
 intro c
 induction c with
 | zero =>
  intro p f hp hf
  obtain ⟨f, rfl⟩ : ∃ k, f = k + 1 := ⟨f - 1, by omega⟩
  have : p = n := by omega
  subst this
  rw [loop, tappetref09_comes_l1, if_neg (by simp)]
 | succ c ih =>
  intro p f hp hf
  obtain ⟨f, rfl⟩ : ∃ k, f = k + 1 := ⟨f - 1, by omega⟩
  have ihx := ih (p + 1) f (by omega) (by omega)
  have hci : m.Code[p]? = some (m.Code[p]'(by omega)) := List.getElem?_eq_getElem (by omega)
  have eidx : idx m.Code (p : Int) = some (m.Code[p]'(by omega)) := idxN (by omega)
  generalize hz : m.Code[p]'(by omega) = i at hci eidx
  obtain ⟨x, b, hx, hb, hk⟩ := hK.past p (by omega)
  have ek : idx known (p : Int) = some (if b then arrL 8 x else []) := by unfold Go.Sx.idx; rw [if_pos (by omega)]; exact hk
  have hnext : w64 ((p : Int) + 1) = ((p + 1 : Nat) : Int) := by rw [w64_eq (by omega) (by omega)]; push_cast; rfl
  have hcons : cons m.Code lv (p + 1) n = cons m.Code lv p n ++ ctr i p n (lv p) := by rw [cons, hci]
  have hl1 := cons_len m.Code lv n p
  rw [loop, tappetref09_comes_l1, if_pos (by simp; omega)]
  simp only [ek, Option.bind_some, hnext]
  cases b with
  | false =>
   have hn := hK.none_ p (by omega) hb
   have : ctr i p n (lv p) = [] := by unfold ctr; rw [hn, hn]; simp
   rw [hcons, this, List.append_nil] at ihx
   simp only [Bool.false_eq_true, if_false]
   rw [if_pos (show ((([] : List api_Type).length : Int) == 0) = true from rfl)]
   exact ihx
  | true =>
   have hlv := hK.leaves p x (by omega) hb hx
   have gs := goes_small i
   have wd : w64 ((p : Int) + (goesB i).1) = (p : Int) + (goesB i).1 := w64_eq (by omega) (by omega)
   simp only [if_true, arrL_len]
   rw [if_neg (by decide)]
   simp only [eidx, Option.bind_some, refGoes_eq, wd, hlv]
   have h1 : (if ((goesB i).2.1 && ((p : Int) + (goesB i).1 == (n : Int))) = true then
     (if (match lv p true with | some s => (arrL 8 s, true) | none => ([], false)).2 = true then (room (((cons m.Code lv p n).map (arrL 8)).length + [(match lv p true with | some s => (arrL 8 s, true) | none => (([] : List api_Type), false)).1].length) 24).bind fun u => some ((cons m.Code lv p n).map (arrL 8) ++ [(match lv p true with | some s => (arrL 8 s, true) | none => (([] : List api_Type), false)).1]) else some ((cons m.Code lv p n).map (arrL 8)))
     else some ((cons m.Code lv p n).map (arrL 8)) : Option (List (List api_Type))) = some ((cons m.Code lv p n ++ (if (goesB i).2.1 && ((p : Int) + (goesB i).1 == (n : Int)) then (lv p true).toList else [])).map (arrL 8)) := by
    by_cases hc : ((goesB i).2.1 && ((p : Int) + (goesB i).1 == (n : Int))) = true
    ·rw [if_pos hc, if_pos hc]
     cases hv : lv p true with
     | none => simp
     | some s =>
      have hroom : room (((cons m.Code lv p n).map (arrL 8)).length + [arrL 8 s].length) 24 = some () := by unfold Go.Sx.room; rw [if_pos]; simp; omega
      simp only [if_true, hroom, Option.bind_some]
      simp
    ·rw [if_neg hc, if_neg hc, List.append_nil]
   rw [h1]
   simp only [Option.bind_some]
   have e4 : ((((p + 1 : Nat) : Int)) == (n : Int)) = (p + 1 == n) := by
    by_cases e : p + 1 = n
    ·subst e; simp
    ·have : (((p + 1 : Nat) : Int) == (n : Int)) = false := by simp; omega
     rw [this]; simp [e]
   rw [e4]
   have hcs : cons m.Code lv (p + 1) n = cons m.Code lv p n ++ (if (goesB i).2.1 && ((p : Int) + (goesB i).1 == (n : Int)) then (lv p true).toList else []) ++ (if (goesB i).2.2 && (p + 1 == n) then (lv p false).toList else []) := by
    rw [hcons]; unfold ctr; rw [List.append_assoc]
   generalize hA : cons m.Code lv p n ++ (if (goesB i).2.1 && ((p : Int) + (goesB i).1 == (n : Int)) then (lv p true).toList else []) = A at hcs |-
   have hAl : A.length <= 2 + 2 * p := by
    rw [<- hA, List.length_append]
    have : (if ((goesB i).2.1 && ((p : Int) + (goesB i).1 == (n : Int))) = true then (lv p true).toList else []).length <= 1 := by
     split
     ·cases lv p true <;> simp
     ·simp
    omega
   by_cases hc : ((goesB i).2.2 && (p + 1 == n)) = true
   ·rw [if_pos hc]
    rw [hcs, if_pos hc] at ihx
    cases hv : lv p false with
    | none =>
     rw [hv] at ihx
     simp only [Option.toList_none, List.append_nil] at ihx
     simp only [Bool.false_eq_true, if_false]
     exact ihx
    | some s =>
     rw [hv] at ihx
     have hroom : room ((A.map (arrL 8)).length + [arrL 8 s].length) 24 = some () := by unfold Go.Sx.room; rw [if_pos]; simp; omega
     simp only [if_true, hroom, Option.bind_some]
     simp only [Option.toList_some, List.map_append, List.map_cons, List.map_nil] at ihx
     exact ihx
   ·rw [if_neg hc]
    rw [hcs, if_neg hc, List.append_nil] at ihx
    exact ihx
theorem comes_eq {fu : Nat} (hf : 100 <= fu) {m : api_Module} (hg : Good m.Code) {n : Nat} (hn : n < m.Code.length) {j : judge_judge} {known : List (List api_Type)} {lv : Nat -> Bool -> Option Regs} (hK : Known fu m n j known lv) :
  tappetref09_comes fu m n known = some ((cons m.Code lv n n).map (arrL 8)) := by
 have n64 := hg.n64
 have hl := comes_loop hg hn hK n 0 fu (by omega) (by omega)
 unfold tappetref09_comes
 by_cases h : n = 0
 ·subst h
  have e1 : mkLen 8 32 = some 8 := rfl
  have : (if (((0 : Nat) : Int) == 0) = true then (mkLen 8 32).bind fun m65 => (room (([] : List (List api_Type)).length + ([(List.replicate m65 (api_Type.mk 0 (api_Span.mk 0 0) 0))]).length) 24).bind fun u72 =>
    some (([] : List (List api_Type)) ++ [(List.replicate m65 (api_Type.mk 0 (api_Span.mk 0 0) 0))]) else some ([] : List (List api_Type))) = some ((cons m.Code lv 0 0).map (arrL 8)) := rfl
  rw [this, Option.bind_some]
  show (loop (tappetref09_comes_l1 fu m ((0 : Nat) : Int) known) fu (_, ((0 : Nat) : Int))).bind _ = _
  rw [hl]; rfl
 ·have e : ((n : Int) == 0) = false := by simp; omega
  rw [e]
  have : cons m.Code lv 0 n = [] := by unfold cons; rw [if_neg h]
  rw [this] at hl
  simp only [Bool.false_eq_true, if_false, Option.bind_some]
  show (loop (tappetref09_comes_l1 fu m n known) fu (([] : List Regs).map (arrL 8), ((0 : Nat) : Int))).bind _ = _
  rw [hl]; rfl
theorem at_l2 (cs : List Regs) (hc : cs.length <= 200) {r : Nat} (hr : r < 8) : ∀ (rest : List Regs) (i : Nat) (acc : List api_Type), cs.drop i = rest -> i + rest.length = cs.length -> acc.length = i ->
  forN (tappetref09_at_l2 (cs.map (arrL 8)) r) (fun (s : List api_Type) => s) rest.length i acc = some (acc ++ rest.map (· r)) := by
 intro rest
 induction rest with
 | nil => intro i acc _ _ _; simp [forN]
 | cons x rest ih =>
  intro i acc hd hl ha
  simp only [List.length_cons] at hl
  have hx : cs[i]? = some x := by
   have := congrArg (fun l => l[0]?) hd
   simpa using this
  have hd2 : cs.drop (i + 1) = rest := by
   have := congrArg (fun l => l.drop 1) hd
   simpa [List.drop_drop, Nat.add_comm] using this
  have ihx := ih (i + 1) (acc ++ [x r]) hd2 (by omega) (by simp; omega)
  show tappetref09_at_l2 (cs.map (arrL 8)) r i (forN (tappetref09_at_l2 (cs.map (arrL 8)) r) (fun (s : List api_Type) => s) rest.length (i + 1)) acc = _
  generalize forN (tappetref09_at_l2 (cs.map (arrL 8)) r) (fun (s : List api_Type) => s) rest.length (i + 1) = again at ihx |-
  unfold tappetref09_at_l2
  have e : idx (cs.map (arrL 8)) (i : Int) = some (arrL 8 x) := by unfold Go.Sx.idx; rw [if_pos (by omega)]; simp [hx]
  have hroom : room (acc.length + [x r].length) 32 = some () := by unfold Go.Sx.room; rw [if_pos]; simp; omega
  simp only [e, Option.bind_some, arrL_get x (show (0 : Int) <= (r : Int) by omega) (show (r : Int) < (8 : Nat) by omega), Int.toNat_natCast, hroom]
  rw [ihx]; simp
theorem at_l1 {n : Nat} {c0 : Regs} {rest : List Regs} (hc : rest.length <= 190) (hw : ∀ c ∈ c0 :: rest, ∀ r, r < 8 -> WT n (c r)) {x : Regs} (hx : ∀ r, r < 8 -> x r = (rest.map (· r)).foldl joinT (c0 r)) : ∀ (c r : Nat), r + c = 8 ->
  forN (tappetref09_at_l1 ((c0 :: rest).map (arrL 8))) (fun (s : List api_Type) => s) c r (arrL 8 (fun q => if q < r then x q else zeroT)) = some (arrL 8 x) := by
 intro c
 induction c with
 | zero =>
  intro r hr
  have : r = 8 := by omega
  subst this
  exact congrArg some (arrL_ext (fun q hq => if_pos hq))
 | succ c ih =>
  intro r hr
  have ihx := ih (r + 1) (by omega)
  show tappetref09_at_l1 ((c0 :: rest).map (arrL 8)) r (forN (tappetref09_at_l1 ((c0 :: rest).map (arrL 8))) (fun (s : List api_Type) => s) c (r + 1)) _ = _
  generalize forN (tappetref09_at_l1 ((c0 :: rest).map (arrL 8))) (fun (s : List api_Type) => s) c (r + 1) = again at ihx |-
  unfold tappetref09_at_l1
  have e1 := at_l2 (c0 :: rest) (by simp; omega) (r := r) (by omega) (c0 :: rest) 0 [] rfl (by simp) rfl
  have el : ((c0 :: rest).map (arrL 8)).length = (c0 :: rest).length := List.length_map _
  rw [el, e1]
  simp only [Option.bind_some, List.nil_append, List.map_cons]
  rw [refjoined (n := n) (x0 := c0 r) (l := rest.map (· r)) (fun y hy => ?_) (by simp; omega)]
  ·simp only [Option.bind_some, arrL_get (fun q => if q < r then x q else zeroT) (show (0 : Int) <= (r : Int) by omega) (show (r : Int) < (8 : Nat) by omega), Int.toNat_natCast, arrL_set]
   rw [<- ihx]
   congr 1
   refine arrL_ext (fun q hq => ?_)
   unfold aset
   by_cases h1 : q = r
   ·subst h1; rw [if_pos rfl, if_pos (by omega), hx q hq]
   ·rw [if_neg h1]
    show (if q < r then x q else zeroT) = _
    by_cases h2 : q < r
    ·rw [if_pos h2, if_pos (by omega)]
    ·rw [if_neg h2, if_neg (by omega)]
  ·rcases List.mem_cons.1 hy with rfl | hy
   ·exact hw c0 List.mem_cons_self r (by omega)
   ·obtain ⟨c', hc', rfl⟩ := List.mem_map.1 hy
    exact hw c' (List.mem_cons_of_mem _ hc') r (by omega)
theorem at_eq {fu : Nat} (hf : 100 <= fu) {m : api_Module} (hg : Good m.Code) {n : Nat} (hn : n < m.Code.length) {j : judge_judge} (hJ : JI m j) {known : List (List api_Type)} {lv : Nat -> Bool -> Option Regs} (hK : Known fu m n j known lv) :
  ∃ x b, j.came[n]? = some x /\ j.any[n]? = some b /\ tappetref09_at fu m n known = some (if b then arrL 8 (widT m.Code n x m.Code.length) else []) := by
 have hC := hK.fut n (Nat.le_refl _) hn
 have hcl := cons_len m.Code lv n n
 have n64 := hg.n64
 have hlen : n < j.came.length := by rw [hJ.lenC]; exact hn
 unfold tappetref09_at
 rw [comes_eq hf hg hn hK]
 simp only [Option.bind_some]
 cases hcs : cons m.Code lv n n with
 | nil =>
  rw [hcs] at hC
  exact ⟨j.came[n], false, List.getElem?_eq_getElem hlen, hC.any, rfl⟩
 | cons c0 rest =>
  rw [hcs] at hC hcl
  obtain ⟨x, hx, hv⟩ := hC.val c0 rest rfl
  refine ⟨x, true, hx, hC.any, ?_⟩
  have ne : ((((c0 :: rest).map (arrL 8)).length : Int) == 0) = false := by simp; omega
  rw [ne]
  simp only [Bool.false_eq_true, if_false, if_true]
  have e1 : mkLen 8 32 = some 8 := rfl
  rw [e1]
  simp only [Option.bind_some]
  have h1 := at_l1 (n := m.Maps.length) (by simp at hcl; omega) hC.wt hv 8 0 rfl
  have e0 : arrL 8 (fun q => if q < 0 then x q else zeroT) = List.replicate 8 (api_Type.mk 0 (api_Span.mk 0 0) 0) := rfl
  rw [e0] at h1
  rw [h1, Option.bind_some]
  have h3 := ref_l3 (n := m.Maps.length) (fu := fu) (by omega) hg (p := n) (hJ.wt n x hx) m.Code.length 0 (by omega)
  have e2 : widT m.Code n x 0 = x := rfl
  rw [e2] at h3
  rw [h3]; rfl
theorem all_step {fu : Nat} (hf : 100 <= fu) {m : api_Module} (hg : Good m.Code) {n : Nat} (hn : n < m.Code.length) {j : judge_judge} (hU : Upto m n j) {known : List (List api_Type)} {lv : Nat -> Bool -> Option Regs} (hK : Known fu m n j known lv) :
  (∃ e, e ≠ 0 /\ (∀ again, judge_judged_l1 1000 n again j = some (.inr (none, (n : Int), e))) /\ ∀ again, tappetref09_All_l1 fu m n again known = some (.inr ([], (n : Int), e))) \/
  ∃ j' s lv', (∀ again, judge_judged_l1 1000 n again j = again j') /\ (∀ again, tappetref09_All_l1 fu m n again known = again (known ++ [s])) /\ Known fu m (n + 1) j' (known ++ [s]) lv' := by
 have n64 := hg.n64
 obtain ⟨x, b, hx, hb, hat⟩ := at_eq hf hg hn hU.ji hK
 have hroomK : ∀ s : List api_Type, room (known.length + [s].length) 24 = some () := by
  intro s; unfold Go.Sx.room; rw [if_pos]; simp [hK.len]; omega
 have hia : idx j.any (n : Int) = some b := by unfold Go.Sx.idx; rw [if_pos (by omega)]; exact hb
 have hci : m.Code[n]? = some m.Code[n] := List.getElem?_eq_getElem hn
 have eidx : idx m.Code (n : Int) = some m.Code[n] := idxN hn
 generalize hz : m.Code[n] = i at hci eidx
 have hx8 := hU.ji.wt n x hx
 cases b with
 | false =>
  right
  refine ⟨j, [], fun p => if p = n then (fun _ => none) else lv p, fun again => ?_, fun again => ?_, ?_⟩
  ·unfold judge_judged_l1
   rw [hia]; rfl
  ·unfold tappetref09_All_l1
   rw [hat]
   simp only [Option.bind_some, hroomK, Bool.false_eq_true, if_false]
   rfl
  ·refine ⟨by simp [hK.len], fun p hp => ?_, fun p hp ha b => ?_, fun p y hp ha hy b => ?_, fun q hq hql => ?_⟩
   ·by_cases e : p = n
    ·subst e
     exact ⟨x, false, hx, hb, by rw [List.getElem?_append_right (by rw [hK.len]; exact Nat.le_refl _)]; simp [hK.len]⟩
    ·obtain ⟨y, c, h1, h2, h3⟩ := hK.past p (by omega)
     exact ⟨y, c, h1, h2, by rw [List.getElem?_append_left (by rw [hK.len]; omega)]; exact h3⟩
   ·by_cases e : p = n
    ·simp only [e, if_true]
    ·simp only [e, if_false]; exact hK.none_ p (by omega) ha b
   ·by_cases e : p = n
    ·subst e; rw [hb] at ha; cases ha
    ·simp only [e, if_false]; exact hK.leaves p y (by omega) ha hy b
   ·have hc := hK.fut q (by omega) hql
    have hsame : ∀ k, k <= n -> cons m.Code (fun p => if p = n then (fun _ => none) else lv p) k q = cons m.Code lv k q := by
     intro k
     induction k with
     | zero => intro _; rfl
     | succ k ih =>
      intro hk
      unfold cons
      rw [ih (by omega), if_neg (by omega)]
    have : cons m.Code (fun p => if p = n then (fun _ => none) else lv p) (n + 1) q = cons m.Code lv n q := by
     rw [cons, hsame n (Nat.le_refl _), hci]
     simp only [if_true]
     have : ctr i n q (fun _ => none) = [] := by unfold ctr; simp
     rw [this, List.append_nil]
    rw [this]; exact hc
 | true =>
  have hw := widen_eq hU.ji hg hn hx
  generalize hk : widT m.Code n x m.Code.length = k at hw hat
  have hk8 : ∀ r, r < 8 -> WT m.Maps.length (k r) := by rw [<- hk]; exact widT_wt hx8 _
  have hnc : n < j.came.length := by rw [hU.ji.lenC]; exact hn
  have hJ1 : JI m ⟨j.Module, j.came.set n k, j.any, j.loops⟩ := hU.ji.put hk8 j.any hU.ji.lenA
  have hk1 : (j.came.set n k)[n]? = some k := List.getElem?_set_self hnc
  have hhead : ∃ kh : Regs, (∀ r, r < 8 -> WT m.Maps.length (kh r)) /\ (i.Op = 20 -> idx (j.came.set n k) (w64 ((n : Int) - i.D)) = some kh /\ idx (known ++ [arrL 8 k]) (w64 ((n : Int) - i.D)) = some (arrL 8 kh)) := by
   by_cases h20 : i.Op = 20
   ·have hlo := hg.fine.loop hci h20
    obtain ⟨t, ht⟩ : ∃ t : Nat, (n : Int) - i.D = (t : Int) := ⟨((n : Int) - i.D).toNat, by omega⟩
    have hcl := hU.clos n n i hb hci h20 (by omega) (Nat.le_refl _)
    rw [ht, Int.toNat_natCast] at hcl
    obtain ⟨y, c, h1, h2, h3⟩ := hK.past t (by omega)
    rw [hcl] at h2
    obtain rfl := Option.some.inj h2
    refine ⟨y, hU.ji.wt t y h1, fun _ => ?_⟩
    rw [w64_eq (by omega) (by omega), ht]
    constructor
    ·unfold Go.Sx.idx; rw [if_pos (by omega), Int.toNat_natCast, List.getElem?_set_ne (by omega)]; exact h1
    ·unfold Go.Sx.idx; rw [if_pos (by omega), Int.toNat_natCast, List.getElem?_append_left (by rw [hK.len]; omega)]; exact h3
   ·exact ⟨zeroR, fun r _ => WT.zero, fun h => absurd h h20⟩
  obtain ⟨kh, hkh8, hkh⟩ := hhead
  obtain ⟨k', e, hone, hask, hsame, hleave⟩ := one_same (fu := fu) (by omega) hJ1 hg hn hci hk1 hkh8 (fun h20 => (hkh h20).1)
  have hne : (((arrL 8 k).length : Int) == 0) = false := by rw [arrL_len]; rfl
  have hdoc : ∀ again, tappetref09_All_l1 fu m n again known = if (e != 0) = true then some (.inr (([] : List (List api_Type)), (n : Int), e)) else again (known ++ [arrL 8 k]) := by
   intro again
   unfold tappetref09_All_l1
   rw [hat]
   simp only [Option.bind_some, if_true, hroomK, hne, Bool.false_eq_true, if_false, eidx]
   by_cases h20 : i.Op = 20
   ·have b20 : (i.Op == 20) = true := by simpa using h20
    have hlo := hg.fine.loop hci h20
    have hap : apart (w64 ((n : Int) - i.D)) (known.length : Int) = some () := by
     unfold apart
     rw [if_neg]
     rw [w64_eq (by omega) (by omega), hK.len]; omega
    simp only [b20, if_true, (hkh h20).2, hap, Option.bind_some, hask]
   ·have b20 : (i.Op == 20) = false := by simpa using h20
    have hask2 : tappetref09_Asks m n (arrL 8 k) (arrL 8 k) = some e := by
     obtain ⟨k2, e2, hone2, hask2, _, _⟩ := one_same (fu := fu) (by omega) hJ1 hg hn hci hk1 hk8 (fun h => absurd h h20)
     rw [hone] at hone2
     obtain ⟨rfl, rfl⟩ := Prod.mk.inj (Option.some.inj hone2)
     exact hask2
    simp only [b20, Bool.false_eq_true, if_false, hask2, Option.bind_some]
  by_cases he : e = 0
  ·right
   subst he
   obtain ⟨r1, hr1, hOne⟩ := one_ok hJ1 hg hn
   rw [hone] at hr1
   obtain rfl := Option.some.inj hr1
   have hk'8 := (hOne rfl).1
   obtain ⟨j', hways, hJ', hcame, hold⟩ := ways_st hJ1 hg hn hci hk8 hk'8 hsame
   refine ⟨j', arrL 8 k, fun p => if p = n then lvOf i k k' else lv p, fun again => ?_, fun again => ?_, ?_⟩
   ·unfold judge_judged_l1
    rw [hia]
    simp only [Option.bind_some, Bool.not_true, Bool.false_eq_true, if_false, hw, hone, hways]
    rfl
   ·rw [hdoc]; rfl
   ·refine ⟨by simp [hK.len], fun p hp => ?_, fun p hp ha b => ?_, fun p y hp ha hy b => ?_, fun q hq hql => ?_⟩
    ·have ho := hold p (by omega)
     by_cases e : p = n
     ·subst e
      exact ⟨k, true, ho.1.trans hk1, ho.2.trans hb, by rw [List.getElem?_append_right (by rw [hK.len]; exact Nat.le_refl _)]; simp [hK.len]⟩
     ·obtain ⟨y, c, h1, h2, h3⟩ := hK.past p (by omega)
      refine ⟨y, c, ho.1.trans ?_, ho.2.trans h2, by rw [List.getElem?_append_left (by rw [hK.len]; omega)]; exact h3⟩
      show (j.came.set n k)[p]? = _
      rw [List.getElem?_set_ne (by omega)]; exact h1
    ·have ho := hold p (by omega)
     have ha' : j.any[p]? = some false := ho.2.symm.trans ha
     by_cases e : p = n
     ·subst e; rw [hb] at ha'; cases ha'
     ·simp only [e, if_false]; exact hK.none_ p (by omega) ha' b
    ·have ho := hold p (by omega)
     have ha' : j.any[p]? = some true := ho.2.symm.trans ha
     have hy' : (j.came.set n k)[p]? = some y := ho.1.symm.trans hy
     by_cases e : p = n
     ·subst e
      rw [hk1] at hy'
      obtain rfl := Option.some.inj hy'
      simp only [if_true]
      have hr : rightB i = true := hg.fine.right hci
      by_cases hj : 16 <= i.Op /\ i.Op <= 19
      ·obtain ⟨s, ok, e1, e2⟩ := jump_leaves (fu := fu) hci hr hk8 hj b
       rw [e2]
       unfold lvOf
       rw [if_pos hj, e1]
       cases ok <;> rfl
      ·rw [hleave rfl b hj, lv_other hj]
     ·simp only [e, if_false]
      rw [List.getElem?_set_ne (by omega)] at hy'
      exact hK.leaves p y (by omega) ha' hy' b
    ·have hc := hK.fut q (by omega) hql
     have hc1 : CameR m ⟨j.Module, j.came.set n k, j.any, j.loops⟩ q (cons m.Code lv n q) := by
      refine ⟨hc.any, hc.wt, fun c rest heq => ?_⟩
      obtain ⟨y, h1, h2⟩ := hc.val c rest heq
      exact ⟨y, by show (j.came.set n k)[q]? = _; rw [List.getElem?_set_ne (by omega)]; exact h1, h2⟩
     have hc2 := hcame q _ (by omega) hc1
     have hsm : ∀ t, t <= n -> cons m.Code (fun p => if p = n then lvOf i k k' else lv p) t q = cons m.Code lv t q := by
      intro t
      induction t with
      | zero => intro _; rfl
      | succ t ih =>
       intro ht
       unfold cons
       rw [ih (by omega), if_neg (by omega)]
     have : cons m.Code (fun p => if p = n then lvOf i k k' else lv p) (n + 1) q = cons m.Code lv n q ++ ctr i n q (lvOf i k k') := by
      rw [cons, hsm n (Nat.le_refl _), hci]
      simp only [if_true]
     rw [this]; exact hc2
  ·left
   have b0 : (e != 0) = true := by simpa using he
   refine ⟨e, he, fun again => ?_, fun again => by rw [hdoc, b0]; rfl⟩
   unfold judge_judged_l1
   rw [hia]
   simp only [Option.bind_some, Bool.not_true, Bool.false_eq_true, if_false, hw, hone, b0, if_true]
theorem forN_succ {σ ρ : Type} (body : Nat -> (σ -> Option ρ) -> σ -> Option ρ) (out : σ -> ρ) (n i : Nat) (s : σ) : forN body out (n + 1) i s = body i (forN body out n (i + 1)) s := rfl
theorem all_loop {fu : Nat} (hf : 100 <= fu) {m : api_Module} (hg : Good m.Code) : ∀ (c n : Nat) (j : judge_judge) (known : List (List api_Type)) (lv : Nat -> Bool -> Option Regs), n + c = m.Code.length -> Upto m n j -> Known fu m n j known lv ->
  (∃ p e, forN (judge_judged_l1 1000) (fun (s : judge_judge) => (.inl s)) c n j = some (.inr (none, p, e)) /\ forN (tappetref09_All_l1 fu m) (fun (s : List (List api_Type)) => (.inl s)) c n known = some (.inr ([], p, e))) \/
  ∃ j' k', forN (judge_judged_l1 1000) (fun (s : judge_judge) => (.inl s)) c n j = some (.inl j') /\ forN (tappetref09_All_l1 fu m) (fun (s : List (List api_Type)) => (.inl s)) c n known = some (.inl k') := by
 intro c
 induction c with
 | zero => intro n j known lv _ _ _; exact .inr ⟨j, known, rfl, rfl⟩
 | succ c ih =>
  intro n j known lv hn hU hK
  simp only [forN_succ]
  rcases all_step hf hg (by omega) hU hK with ⟨e, _, h1, h2⟩ | ⟨j', s, lv', h1, h2, hK'⟩
  ·exact .inl ⟨n, e, h1 _, h2 _⟩
  ·have hU' : Upto m (n + 1) j' := by
    have := step_ok hU hg (by omega) (fun j => some (.inl j)) (Q := fun o => match o with | .inl j' => Upto m (n + 1) j' | .inr _ => True) (fun j' h => OK.ret h) (fun e _ => trivial)
    obtain ⟨r, hr, hq⟩ := this
    rw [h1] at hr
    obtain rfl := Option.some.inj hr
    exact hq
   rw [h1, h2]
   exact ih (n + 1) j' _ lv' (by omega) hU' hK'
theorem all_same {fu : Nat} (hf : 100 <= fu) (m : api_Module) : ∃ o known p e, judge_judged 1000 m = some (o, p, e) /\ tappetref09_All fu m = some (known, p, e) := by
 obtain ⟨b, hb1, hb2⟩ := maps_same fu m.Maps
 unfold judge_judged tappetref09_All
 rw [hb1, hb2]
 simp only [Option.bind_some]
 cases b with
 | false => exact ⟨_, _, _, _, rfl, rfl⟩
 | true =>
  simp only [Bool.not_true, Bool.false_eq_true, if_false]
  obtain ⟨r, hc1, hc2, hg, _⟩ := check_both m.Code fu hf
  rw [hc1, hc2]
  simp only [Option.bind_some]
  by_cases he : r.2 = 0
  ·obtain ⟨_, hg⟩ := hg he
   have b0 : (r.2 != 0) = false := by simpa using he
   simp only [b0, Bool.false_eq_true, if_false]
   have hJ := judged_ok m
   have n64 := hg.n64
   have n1 := hg.n1
   have e1 : mkLen (m.Code.length : Int) 256 = some m.Code.length := by
    unfold mkLen
    rw [if_pos (show 0 <= (m.Code.length : Int) /\ (m.Code.length : Int).toNat * 256 <= 140737488355328 from ⟨Int.natCast_nonneg _, by rw [Int.toNat_natCast]; omega⟩), Int.toNat_natCast]
   have e2 : mkLen (m.Code.length : Int) 1 = some m.Code.length := by
    unfold mkLen
    rw [if_pos (show 0 <= (m.Code.length : Int) /\ (m.Code.length : Int).toNat * 1 <= 140737488355328 from ⟨Int.natCast_nonneg _, by rw [Int.toNat_natCast]; omega⟩), Int.toNat_natCast]
   have e3 : idx (List.replicate m.Code.length false) 0 = some false := by
    unfold Go.Sx.idx
    rw [if_pos (by omega), show Int.toNat 0 = 0 from rfl, List.getElem?_replicate, if_pos (by omega)]
   simp only [e1, e2, Option.bind_some, good_loops hg, e3, show Int.toNat 0 = 0 from rfl]
   have hU := upto0 (m := m) hg
   have hK : Known fu m 0 ⟨m, List.replicate m.Code.length (fun _ => zeroT), (List.replicate m.Code.length false).set 0 true, lps m.Code m.Code.length⟩ [] (fun _ _ => none) := by
    refine ⟨rfl, fun p hp => by omega, fun p hp => by omega, fun p x hp => by omega, fun q _ hq => ?_⟩
    unfold cons
    by_cases h0 : q = 0
    ·subst h0
     rw [if_pos rfl]
     refine ⟨?_, fun c hc r _ => ?_, fun c rest heq => ?_⟩
     ·show ((List.replicate m.Code.length false).set 0 true)[0]? = _
      rw [List.getElem?_set_self (by simp; omega)]; rfl
     ·simp only [List.mem_singleton] at hc; subst hc; exact WT.zero
     ·simp only [List.cons.injEq] at heq
      obtain ⟨rfl, rfl⟩ := heq
      exact ⟨fun _ => zeroT, (by show (List.replicate m.Code.length (fun _ => zeroT : Regs))[0]? = _; rw [List.getElem?_replicate, if_pos (by omega)]), fun r _ => rfl⟩
    ·rw [if_neg h0]
     refine ⟨?_, fun c hc => (by cases hc), fun c rest heq => (by cases heq)⟩
     show ((List.replicate m.Code.length false).set 0 true)[q]? = _
     rw [List.getElem?_set_ne (by omega)]; simp [hq]
   rcases all_loop hf hg m.Code.length 0 _ _ _ (by omega) hU hK with ⟨p, e, h1, h2⟩ | ⟨j', k', h1, h2⟩
   ·refine ⟨none, [], p, e, ?_, ?_⟩
    ·show (forN (judge_judged_l1 1000) _ _ _ _).bind _ = _
     rw [show (fun _ => api_Type.mk 0 (api_Span.mk 0 0) 0 : Regs) = (fun _ => zeroT) from rfl, h1]; rfl
    ·rw [h2]; rfl
   ·refine ⟨some j', k', 0, 0, ?_, ?_⟩
    ·show (forN (judge_judged_l1 1000) _ _ _ _).bind _ = _
     rw [show (fun _ => api_Type.mk 0 (api_Span.mk 0 0) 0 : Regs) = (fun _ => zeroT) from rfl, h1]; rfl
    ·rw [h2]; rfl
  ·have b0 : (r.2 != 0) = true := by simpa using he
   simp only [b0, if_true]
   exact ⟨_, _, _, _, rfl, rfl⟩
theorem all_judge {fu : Nat} (hf : 100 <= fu) (m : api_Module) : ∃ known p e, judge_Judge 1000 m = some (p, e) /\ tappetref09_All fu m = some (known, p, e) := by
 obtain ⟨o, known, p, e, h1, h2⟩ := all_same hf m
 refine ⟨known, p, e, ?_, h2⟩
 unfold judge_Judge
 rw [h1]
 cases o <;> rfl
end Go.Proofs.YtgmmfjpmahcocaaGreatDoor
set_option linter.unusedVariables false
set_option linter.unusedSimpArgs false
namespace Go.Proofs.YtgmmfjpmahcocaaGreatDoor
open Go.Sx
theorem room_ok {n b : Nat} (h : n * b <= 140737488355328) : room n b = some () := by
 unfold room
 rw [if_pos h]
def bwR : List tappetref10_Ask -> Int -> Int
 | [], _ => 0
 | a :: l, t => if (a.Kind == 2) then 0 else if (a.Kind == 1) && (a.At == t) then a.N else bwR l t
def cs1 (t : Int) (acc : Int) (a : tappetref10_Ask) : Int := if (a.Kind == 3) && (a.At == t) then wu64 (acc + a.N) else acc
def cs (l : List tappetref10_Ask) (t : Int) : Int := l.foldl (cs1 t) 0
theorem word_loop (b : tappetref10_Book) (t : Int) : ∀ (k fu : Nat), k <= b.Asks.length -> b.Asks.length <= 9000000 -> k < fu -> ∃ o, loop (tappetref10_Book_Word_l1 b t) fu (w64 ((k : Int) - 1)) = some o /\ (match o with | .inl _ => ((0 : Int), (0 : Int)) | .inr r => r) = (bwR (b.Asks.take k).reverse t, 0) := by
 intro k
 induction k with
 | zero =>
  intro fu _ hb hf
  obtain ⟨fu, rfl⟩ : ∃ f, fu = f + 1 := ⟨fu - 1, by omega⟩
  refine ⟨.inl (), ?_, rfl⟩
  show tappetref10_Book_Word_l1 b t _ _ = _
  unfold tappetref10_Book_Word_l1
  rw [w64_eq (by omega) (by omega), if_neg (by simp)]
 | succ k ih =>
  intro fu hk hb hf
  obtain ⟨fu, rfl⟩ : ∃ f, fu = f + 1 := ⟨fu - 1, by omega⟩
  obtain ⟨a, ha, hi⟩ := idx_lt (xs := b.Asks) (p := k) (by omega)
  have hl : (b.Asks.take (k + 1)).reverse = a :: (b.Asks.take k).reverse := by
   rw [List.take_add_one, ha]
   simp
  have e1 : w64 (((k + 1 : Nat) : Int) - 1) = (k : Int) := by rw [w64_eq (by omega) (by omega)]; omega
  rw [hl]
  show ∃ o, tappetref10_Book_Word_l1 b t (loop (tappetref10_Book_Word_l1 b t) fu) (w64 (((k + 1 : Nat) : Int) - 1)) = some o /\ _
  have ih' := ih fu (by omega) hb (by omega)
  rw [e1]
  generalize loop (tappetref10_Book_Word_l1 b t) fu = again at ih' |-
  unfold tappetref10_Book_Word_l1
  rw [if_pos (by simp), hi]
  simp only [Option.bind_some, bwR]
  rcases Bool.eq_false_or_eq_true (a.Kind == 2) with e | e
  ·simp only [e, if_true]; exact ⟨_, rfl, rfl⟩
  rcases Bool.eq_false_or_eq_true (a.Kind == 1) with e2 | e2
  ·rcases Bool.eq_false_or_eq_true (a.At == t) with e3 | e3
   ·simp only [e, e2, e3, Bool.false_eq_true, if_false, if_true, Option.bind_some, Bool.true_and]; exact ⟨_, rfl, rfl⟩
   ·simp only [e, e2, e3, Bool.false_eq_true, if_false, if_true, Option.bind_some, Bool.true_and]; exact ih'
  ·simp only [e, e2, Bool.false_eq_true, if_false, Option.bind_some, Bool.false_and]; exact ih'
theorem word_eq (b : tappetref10_Book) (t : Int) (hb : b.Asks.length <= 900) : tappetref10_Book_Word 1000 b t = some (if t < 0 \/ t > 15 then (0, 35) else (bwR b.Asks.reverse t, 0)) := by
 unfold tappetref10_Book_Word
 by_cases h : t < 0 \/ t > 15
 ·rw [if_pos (by simpa using h), if_pos h]
 ·rw [if_neg (by simpa using h), if_neg h]
  obtain ⟨o, h1, h2⟩ := word_loop b t b.Asks.length 1000 (Nat.le_refl _) (by omega) (by omega)
  rw [List.take_length] at h2
  rw [h1, <- h2]
  cases o <;> rfl
theorem count_loop (b : tappetref10_Book) (t : Int) : ∀ (n k fu : Nat) (acc : Int), k + n = b.Asks.length -> b.Asks.length <= 9000000 -> n < fu -> loop (tappetref10_Book_Count_l1 b t) fu (acc, (k : Int)) = some ((b.Asks.drop k).foldl (cs1 t) acc) := by
 intro n
 induction n with
 | zero =>
  intro k fu acc hk hb hf
  obtain ⟨fu, rfl⟩ : ∃ f, fu = f + 1 := ⟨fu - 1, by omega⟩
  show tappetref10_Book_Count_l1 b t _ _ = _
  unfold tappetref10_Book_Count_l1
  rw [if_neg (by simp; omega), List.drop_eq_nil_of_le (by omega)]
  rfl
 | succ n ih =>
  intro k fu acc hk hb hf
  obtain ⟨fu, rfl⟩ : ∃ f, fu = f + 1 := ⟨fu - 1, by omega⟩
  obtain ⟨a, ha, hi⟩ := idx_lt (xs := b.Asks) (p := k) (by omega)
  have hd : b.Asks.drop k = a :: b.Asks.drop (k + 1) := by
   have hk2 : k < b.Asks.length := by omega
   rw [List.drop_eq_getElem_cons hk2]
   rw [List.getElem?_eq_getElem hk2] at ha
   cases ha; rfl
  have e1 : w64 ((k : Int) + 1) = ((k + 1 : Nat) : Int) := by rw [w64_eq (by omega) (by omega)]; omega
  have ih' := fun acc => ih (k + 1) fu acc (by omega) hb (by omega)
  show tappetref10_Book_Count_l1 b t (loop (tappetref10_Book_Count_l1 b t) fu) (acc, (k : Int)) = _
  generalize loop (tappetref10_Book_Count_l1 b t) fu = again at ih' |-
  unfold tappetref10_Book_Count_l1
  rw [hd, List.foldl_cons, <- ih']
  simp only
  rw [if_pos (by simp; omega), hi]
  simp only [Option.bind_some, e1]
  unfold cs1
  rcases Bool.eq_false_or_eq_true (a.Kind == 3) with e2 | e2
  ·rcases Bool.eq_false_or_eq_true (a.At == t) with e3 | e3
   ·simp only [e2, e3, if_true, Option.bind_some, Bool.true_and]
   ·simp only [e2, e3, Bool.false_eq_true, if_false, if_true, Option.bind_some, Bool.true_and]
  ·simp only [e2, Bool.false_eq_true, if_false, Option.bind_some, Bool.false_and]
theorem count_eq (b : tappetref10_Book) (t : Int) (hb : b.Asks.length <= 900) : tappetref10_Book_Count 1000 b t = some (if t < 0 \/ t > 15 then (0, 35) else (cs b.Asks t, 0)) := by
 unfold tappetref10_Book_Count
 by_cases h : t < 0 \/ t > 15
 ·rw [if_pos (by simpa using h), if_pos h]
 ·rw [if_neg (by simpa using h), if_neg h]
  have := count_loop b t b.Asks.length 0 1000 0 (by omega) (by omega) (by omega)
  rw [show loop (tappetref10_Book_Count_l1 b t) 1000 (0, 0) = some (cs b.Asks t) from this]
  rfl
theorem cs_add (l : List tappetref10_Ask) (a : tappetref10_Ask) (t : Int) : cs (l ++ [a]) t = cs1 t (cs l t) a := by
 unfold cs
 rw [List.foldl_append]
 rfl
theorem bw_add (l : List tappetref10_Ask) (a : tappetref10_Ask) (t : Int) : bwR (l ++ [a]).reverse t = if (a.Kind == 2) then 0 else if (a.Kind == 1) && (a.At == t) then a.N else bwR l.reverse t := by
 rw [List.reverse_append]
 rfl
structure Bk (S : scratch_Scratch) (b : tappetref10_Book) : Prop where
 w : ∀ t : Int, 0 <= t -> t <= 15 -> bwR b.Asks.reverse t = S.Words.words t.toNat
 c : ∀ t : Int, 0 <= t -> t <= 15 -> cs b.Asks t = S.Counters.counts t.toNat
theorem load_same {S : scratch_Scratch} {b : tappetref10_Book} (h : Bk S b) (hb : b.Asks.length <= 900) (t : Int) : ∃ r, scratch_Words_Load S.Words t = some r /\ tappetref10_Book_Word 1000 b t = some r := by
 rw [word_eq b t hb]
 unfold scratch_Words_Load
 by_cases e : t < 0 \/ t > 15
 ·rw [if_pos (by simp; omega), if_pos e]; exact ⟨_, rfl, rfl⟩
 ·rw [if_neg (by simp; omega), if_neg e, h.w t (by omega) (by omega)]
  have : ain 16 t = some t.toNat := by unfold ain; rw [if_pos ⟨by omega, by omega⟩]
  rw [this]; exact ⟨_, rfl, rfl⟩
theorem store_same {S : scratch_Scratch} {b : tappetref10_Book} (h : Bk S b) (hb : b.Asks.length <= 900) (t v : Int) : ∃ e W b', scratch_Words_Store S.Words t v = some (e, W) /\ tappetref10_Book_Store b t v = some (e, b') /\ Bk ⟨W, S.Counters⟩ b' /\ b'.Asks.length <= b.Asks.length + 1 := by
 unfold scratch_Words_Store tappetref10_Book_Store
 by_cases e : t < 0 \/ t > 15
 ·rw [if_pos (by simp; omega), if_pos (by simpa using e)]; exact ⟨_, _, _, rfl, rfl, ⟨h.w, h.c⟩, by omega⟩
 ·rw [if_neg (by simp; omega), if_neg (by simpa using e)]
  have : ain 16 t = some t.toNat := by unfold ain; rw [if_pos ⟨by omega, by omega⟩]
  rw [this, room_ok (by simp; omega)]
  refine ⟨_, _, _, rfl, rfl, ⟨fun u h0 h1 => ?_, fun u h0 h1 => ?_⟩, by simp⟩
  ·show bwR (b.Asks ++ [tappetref10_Ask.mk 1 t v]).reverse u = aset S.Words.words t.toNat v u.toNat
   rw [bw_add]
   unfold aset
   by_cases e2 : t = u
   ·subst e2; simp
   ·rw [if_neg (by simp), if_neg (by simpa using e2), if_neg (by omega), h.w u h0 h1]
  ·show cs (b.Asks ++ [tappetref10_Ask.mk 1 t v]) u = _
   rw [cs_add]
   exact h.c u h0 h1
theorem mark_same {S : scratch_Scratch} {b : tappetref10_Book} (h : Bk S b) (hb : b.Asks.length <= 800) (t : Int) : ∃ v e C b', scratch_Counters_Mark S.Counters t = some (v, e, C) /\ tappetref10_Book_Mark 1000 b t = some (v, e, b') /\ Bk ⟨S.Words, C⟩ b' /\ b'.Asks.length <= b.Asks.length + 1 := by
 unfold scratch_Counters_Mark tappetref10_Book_Mark
 by_cases e : t < 0 \/ t > 15
 ·rw [if_pos (by simp; omega), if_pos (by simpa using e)]; exact ⟨_, _, _, _, rfl, rfl, ⟨h.w, h.c⟩, by omega⟩
 ·rw [if_neg (by simp; omega), if_neg (by simpa using e)]
  have : ain 16 t = some t.toNat := by unfold ain; rw [if_pos ⟨by omega, by omega⟩]
  rw [this, room_ok (by simp; omega)]
  simp only [Option.bind_some]
  rw [count_eq _ t (by simp; omega), if_neg e]
  have hc : cs (b.Asks ++ [tappetref10_Ask.mk 3 t 1]) t = wu64 (S.Counters.counts t.toNat + 1) := by
   rw [cs_add, h.c t (by omega) (by omega)]
   simp [cs1]
  refine ⟨_, _, _, ⟨b.Asks ++ [tappetref10_Ask.mk 3 t 1]⟩, rfl, ?_, ⟨fun u h0 h1 => ?_, fun u h0 h1 => ?_⟩, ?_⟩
  ·show some (cs (b.Asks ++ [tappetref10_Ask.mk 3 t 1]) t, 0, _) = _
   rw [hc]
   simp [aset]
  ·show bwR (b.Asks ++ [tappetref10_Ask.mk 3 t 1]).reverse u = _
   rw [bw_add]
   exact h.w u h0 h1
  ·show cs (b.Asks ++ [tappetref10_Ask.mk 3 t 1]) u = aset S.Counters.counts t.toNat _ u.toNat
   unfold aset
   by_cases e2 : t = u
   ·subst e2; rw [hc]; simp
   ·rw [cs_add, if_neg (by omega), h.c u h0 h1]
    simp [cs1, e2]
  ·simp
theorem wipe_same {S : scratch_Scratch} {b : tappetref10_Book} (h : Bk S b) (hb : b.Asks.length <= 800) : ∃ b', tappetref10_Book_Wipe b = some b' /\ Bk ⟨⟨fun _ => 0⟩, S.Counters⟩ b' /\ b'.Asks.length <= b.Asks.length + 1 := by
 unfold tappetref10_Book_Wipe
 rw [room_ok (by simp; omega)]
 refine ⟨_, rfl, ⟨fun u h0 h1 => ?_, fun u h0 h1 => ?_⟩, by simp⟩
 ·show bwR (b.Asks ++ [tappetref10_Ask.mk 2 0 0]).reverse u = _
  rw [bw_add]; rfl
 ·show cs (b.Asks ++ [tappetref10_Ask.mk 2 0 0]) u = _
  rw [cs_add]
  exact h.c u h0 h1
end Go.Proofs.YtgmmfjpmahcocaaGreatDoor
set_option linter.unusedVariables false
set_option linter.unusedSimpArgs false
namespace Go.Proofs.YtgmmfjpmahcocaaGreatDoor
open Go.Sx
def st (m : api_Module) (M : engine_Machine) (b : tappetref10_Book) : tappetref11_State := ⟨m, M.Event, b, arrL 8 M.regs, arrL 64 M.turns, M.at_, M.steps, M.state⟩
theorem refsource_eq {m : api_Module} {M : engine_Machine} {b : tappetref10_Book} {i : api_Inst} (hb : i.B = 8 \/ (0 <= i.B /\ i.B < 8)) : tappetref11_State_source (st m M b) i = some (srcV i M.regs) := by
 unfold tappetref11_State_source srcV
 rcases Bool.eq_false_or_eq_true (i.B == 8) with e | e
 ·rw [if_pos e, if_pos e]
 ·have : i.B ≠ 8 := by simpa using e
  rw [if_neg (by simp [e]), if_neg (by simp [e])]
  show (idx (arrL 8 M.regs) i.B).bind _ = _
  rw [arrL_get _ (by omega) (by omega)]; rfl
theorem refholds_eq (op x y : Int) : ∃ b, tappetref05_Holds op x y = some (hl op x y, b) := by
 unfold tappetref05_Holds hl
 rcases Bool.eq_false_or_eq_true (op == 16) with e | e
 ·simp only [e, if_true]; exact ⟨_, rfl⟩
 rcases Bool.eq_false_or_eq_true (op == 17) with e2 | e2
 ·simp only [e, e2, Bool.false_eq_true, if_false, if_true]; exact ⟨_, by first | rfl | simp [bne]⟩
 rcases Bool.eq_false_or_eq_true (op == 18) with e3 | e3
 ·simp only [e, e2, e3, Bool.false_eq_true, if_false, if_true]; exact ⟨_, rfl⟩
 rcases Bool.eq_false_or_eq_true (op == 19) with e4 | e4
 ·simp only [e, e2, e3, e4, Bool.false_eq_true, if_false, if_true]
  refine ⟨true, ?_⟩
  congr 2
  rw [Bool.eq_iff_iff]; simp
 ·simp only [e, e2, e3, e4, Bool.false_eq_true, if_false]; exact ⟨_, rfl⟩
theorem right_imm13 {i : api_Inst} (h : rightB i = true) (ho : i.Op = 13) : i.Imm = 0 \/ i.Imm = 1 := by
 unfold rightB at h
 simp only [inB, regB] at h
 simp only [ho] at h
 simp at h
 omega
theorem lays_same {m : api_Module} {M : engine_Machine} {b : tappetref10_Book} (hB : Bk M.scratch b) (hb : b.Asks.length <= 800) (hu : U64s M.regs) {i : api_Inst} (hr : rightB i = true) (ho : i.Op <= 14) :
  ∃ M1 b', engine_Machine_run M i = some (1, M1) /\ M1.at_ = M.at_ /\ M1.module = M.module /\ tappetref11_State_lays 1000 (st m M b) i = some (st m M1 b') /\ Bk M1.scratch b' /\ b'.Asks.length <= b.Asks.length + 1 := by
 have hop := right_op hr
 have hA := right_A hr
 have hDD := right_D hr (by omega)
 have hA8 : ain 8 i.A = some i.A.toNat := ain8 hA.1 hA.2
 have hD : ain 8 i.D = some i.D.toNat := ain8 hDD.1 hDD.2
 have gA : idx (st m M b).Regs i.A = some (M.regs i.A.toNat) := arrL_get _ hA.1 hA.2
 have gD : idx (st m M b).Regs i.D = some (M.regs i.D.toNat) := arrL_get _ hDD.1 hDD.2
 have set1 : ∀ v, (st m M b).Regs.set i.D.toNat v = arrL 8 (aset M.regs i.D.toNat v) := fun v => arrL_set _ _ _
 have c15 : (i.Op == 15) = false := by simp; omega
 have c20 : (i.Op == 20) = false := by simp; omega
 unfold engine_Machine_run tappetref11_State_lays
 rcases Bool.eq_false_or_eq_true (i.Op == 0) with e0 | e0
 ·have e : i.Op = 0 := by simpa using e0
  have hs := right_src hr (.inl (by omega))
  simp only [e0, if_true, msrc_eq hs, refsource_eq hs, Option.bind_some, hD, gD, set1]
  exact ⟨_, b, rfl, rfl, rfl, rfl, hB, by omega⟩
 rcases Bool.eq_false_or_eq_true (i.Op == 11) with e11 | e11
 ·have e : i.Op = 11 := by simpa using e11
  have hs := right_src hr (.inl (by omega))
  obtain ⟨v, v1, v2⟩ := load_same hB (by omega) (w64 (srcV i M.regs))
  have v2' : tappetref10_Book_Word 1000 (st m M b).S (w64 (srcV i M.regs)) = some v := v2
  have c3 : tappetref02_Three i.Op = some false := by rw [three_eq, e]; rfl
  simp only [e0, e11, c3, Bool.false_eq_true, if_false, if_true, msrc_eq hs, refsource_eq hs, Option.bind_some, hD, gD, set1, v1, v2']
  exact ⟨_, b, rfl, rfl, rfl, rfl, hB, by omega⟩
 rcases Bool.eq_false_or_eq_true (i.Op == 12) with e12 | e12
 ·have e : i.Op = 12 := by simpa using e12
  have hs := right_src hr (.inl (by omega))
  obtain ⟨x, W, b', v1, v2, v3, v4⟩ := store_same hB (by omega) (w64 (srcV i M.regs)) (M.regs i.A.toNat)
  have v2' : tappetref10_Book_Store (st m M b).S (w64 (srcV i M.regs)) (M.regs i.A.toNat) = some (x, b') := v2
  have c3 : tappetref02_Three i.Op = some false := by rw [three_eq, e]; rfl
  simp only [e0, e11, e12, c3, Bool.false_eq_true, if_false, if_true, msrc_eq hs, refsource_eq hs, Option.bind_some, hA8, gA, v1, v2']
  exact ⟨_, b', rfl, rfl, rfl, rfl, v3, v4⟩
 rcases Bool.eq_false_or_eq_true (i.Op == 13) with e13 | e13
 ·have e : i.Op = 13 := by simpa using e13
  have c3 : tappetref02_Three i.Op = some false := by rw [three_eq, e]; rfl
  have ab : aset (aset M.regs i.D.toNat M.Event.A) i.D.toNat M.Event.B = aset M.regs i.D.toNat M.Event.B := by
   funext t
   unfold aset
   split <;> rfl
  rcases right_imm13 hr e with hi | hi
  ·have i0 : (i.Imm == 0) = true := by simp [hi]
   have i1 : (i.Imm == 1) = false := by simp [hi]
   simp only [e0, e11, e12, e13, c3, i0, i1, Bool.false_eq_true, if_false, if_true, Option.bind_some, hD, gD, set1, Bool.and_self]
   exact ⟨_, b, rfl, rfl, rfl, rfl, hB, by omega⟩
  ·have i0 : (i.Imm == 0) = false := by simp [hi]
   have i1 : (i.Imm == 1) = true := by simp [hi]
   simp only [e0, e11, e12, e13, c3, i0, i1, Bool.false_eq_true, if_false, if_true, Option.bind_some, hD, gD, set1, Bool.and_false, ab]
   exact ⟨_, b, rfl, rfl, rfl, rfl, hB, by omega⟩
 rcases Bool.eq_false_or_eq_true (i.Op == 14) with e14 | e14
 ·have e : i.Op = 14 := by simpa using e14
  have c3 : tappetref02_Three i.Op = some false := by rw [three_eq, e]; rfl
  simp only [e0, e11, e12, e13, e14, c3, Bool.false_eq_true, if_false, if_true, Option.bind_some, hD, gD, set1, Bool.false_and]
  exact ⟨_, b, rfl, rfl, rfl, rfl, hB, by omega⟩
 have o1 : 1 <= i.Op /\ i.Op <= 10 := by
  simp at e0 e11 e12 e13 e14
  omega
 have hs := right_src hr (.inl (by omega))
 have hus := srcV_u64 hu hs
 have hua := hu i.A.toNat (by omega)
 have c3 : tappetref02_Three i.Op = some true := by rw [three_eq]; simp [inB, o1.1, o1.2]
 have c10 : (decide (1 <= i.Op) && decide (i.Op <= 10)) = true := by simp [o1.1, o1.2]
 have hra := refdo_eq (fu := 1000) (by decide) (op := i.Op) hua hus o1.1 o1.2
 simp only [e0, e11, e12, e13, e14, c15, c20, c3, Bool.false_eq_true, if_false, if_true, Option.bind_some, hA8, gA, msrc_eq hs, refsource_eq hs, arith_eq hua hus, c10, hD, gD, hra, set1]
 exact ⟨_, b, rfl, rfl, rfl, rfl, hB, by omega⟩
theorem goes_same {m : api_Module} {M : engine_Machine} {b : tappetref10_Book} {p : Nat} (hp : p < 64) (hat : M.at_ = p) (hu : U64s M.regs) {i : api_Inst} (hr : rightB i = true) (h15 : 15 <= i.Op) (h20 : i.Op <= 20) (hld : i.Op = 20 -> 0 <= i.D /\ i.D <= 64) :
  ∃ d M1 g, engine_Machine_run M i = some (d, M1) /\ M1.at_ = M.at_ /\ M1.module = M.module /\ M1.scratch = M.scratch /\ tappetref11_State_goes (st m M b) i = some (g, st m M1 b) /\ w64 (M.at_ + d) = (if g then w64 (M.at_ + (goesB i).1) else w64 (M.at_ + 1)) := by
 have hA := right_A hr
 have hA8 : ain 8 i.A = some i.A.toNat := ain8 hA.1 hA.2
 have gA : idx (st m M b).Regs i.A = some (M.regs i.A.toNat) := arrL_get _ hA.1 hA.2
 have c0 : (i.Op == 0) = false := by simp; omega
 have c11 : (i.Op == 11) = false := by simp; omega
 have c12 : (i.Op == 12) = false := by simp; omega
 have c13 : (i.Op == 13) = false := by simp; omega
 have c14 : (i.Op == 14) = false := by simp; omega
 unfold engine_Machine_run tappetref11_State_goes
 rcases Bool.eq_false_or_eq_true (i.Op == 15) with e15 | e15
 ·have e : i.Op = 15 := by simpa using e15
  have hJ := jump_D (i := i) (by simp [jumpsB, hr, inB]; omega)
  simp only [c0, c11, c12, c13, c14, e15, Bool.false_eq_true, if_false, if_true]
  refine ⟨_, _, _, rfl, rfl, rfl, rfl, rfl, ?_⟩
  rw [if_pos rfl, goes_jump hr (by omega) (by omega), w64_eq (x := i.D + 1) (by omega) (by omega)]
 rcases Bool.eq_false_or_eq_true (i.Op == 20) with e20 | e20
 ·have e : i.Op = 20 := by simpa using e20
  have ha64 : ain 64 M.at_ = some p := by rw [hat]; exact ainN hp
  have gT : idx (st m M b).Turns (st m M b).At = some (M.turns p) := by
   show idx (arrL 64 M.turns) M.at_ = _
   rw [hat, arrL_get _ (by omega) (by omega)]; simp
  have hpos := hu i.A.toNat (by omega)
  have cpos : decide (M.regs i.A.toNat > 0) = (M.regs i.A.toNat != 0) := by
   rw [Bool.eq_iff_iff]; simp [bne_iff_ne]
   have := hpos.1
   omega
  have setT : ∀ v, (st m M b).Turns.set (Int.toNat (st m M b).At) v = arrL 64 (aset M.turns p v) := by
   intro v
   have : Int.toNat (st m M b).At = p := by show Int.toNat M.at_ = p; rw [hat]; simp
   rw [this]
   exact arrL_set _ _ _
  have hD := hld e
  simp only [c0, c11, c12, c13, c14, e15, e20, Bool.false_eq_true, if_false, if_true, hA8, gA, gT, ha64, Option.bind_some, cpos, setT]
  have key : ∀ g : Bool, ∃ (d : Int) (M1 : engine_Machine) (g' : Bool), (if g = true then some (w64 (0 - i.D), engine_Machine.mk M.Event M.module M.scratch M.regs (aset M.turns p (w64 (M.turns p + 1))) M.at_ M.steps M.state) else some (1, engine_Machine.mk M.Event M.module M.scratch M.regs (aset M.turns p 0) M.at_ M.steps M.state)) = some (d, M1) /\ M1.at_ = M.at_ /\ M1.module = M.module /\ M1.scratch = M.scratch /\
    (if g = true then some (true, tappetref11_State.mk (st m M b).M (st m M b).E (st m M b).S (st m M b).Regs (arrL 64 (aset M.turns p (w64 (M.turns p + 1)))) (st m M b).At (st m M b).Steps (st m M b).Mode) else some (false, tappetref11_State.mk (st m M b).M (st m M b).E (st m M b).S (st m M b).Regs (arrL 64 (aset M.turns p 0)) (st m M b).At (st m M b).Steps (st m M b).Mode)) = some (g', st m M1 b) /\ w64 (M.at_ + d) = (if g' then w64 (M.at_ + (goesB i).1) else w64 (M.at_ + 1)) := by
   intro g
   cases g with
   | true =>
    refine ⟨_, _, _, rfl, rfl, rfl, rfl, rfl, ?_⟩
    rw [if_pos rfl, goes_loop hr e, w64_eq (x := 0 - i.D) (by omega) (by omega), Int.zero_sub]
   | false => exact ⟨_, _, _, rfl, rfl, rfl, rfl, rfl, rfl⟩
  rcases Bool.eq_false_or_eq_true (M.regs i.A.toNat != 0) with e1 | e1
  ·simp only [e1, if_true, Option.bind_some]
   exact key _
  ·simp only [e1, Bool.false_eq_true, if_false, Option.bind_some]
   exact key false
 have o1 : 16 <= i.Op /\ i.Op <= 19 := by
  simp at e15 e20
  omega
 have hs := right_src hr (.inr o1)
 have hus := srcV_u64 hu hs
 have hua := hu i.A.toNat (by omega)
 have c10 : (decide (1 <= i.Op) && decide (i.Op <= 10)) = false := by simp; omega
 obtain ⟨q, hq⟩ := refholds_eq i.Op (M.regs i.A.toNat) (srcV i M.regs)
 have hJ := jump_D (i := i) (by simp [jumpsB, hr, inB]; omega)
 simp only [c0, c11, c12, c13, c14, e15, e20, Bool.false_eq_true, if_false, if_true, hA8, gA, Option.bind_some, msrc_eq hs, refsource_eq hs, arith_eq hua hus, c10, holds_eq, hq]
 rcases Bool.eq_false_or_eq_true (hl i.Op (M.regs i.A.toNat) (srcV i M.regs)) with e1 | e1
 ·simp only [e1, if_true]
  refine ⟨_, _, _, rfl, rfl, rfl, rfl, rfl, ?_⟩
  rw [if_pos rfl, goes_jump hr (by omega) (by omega), w64_eq (x := i.D + 1) (by omega) (by omega)]
 ·simp only [e1, Bool.false_eq_true, if_false]
  exact ⟨_, _, _, rfl, rfl, rfl, rfl, rfl, rfl⟩
end Go.Proofs.YtgmmfjpmahcocaaGreatDoor
