import Derived.Test.YtgmmfjpmahcocaaGreatDoorKOps
set_option linter.unusedVariables false
set_option linter.unusedSimpArgs false
namespace Go.Proofs.YtgmmfjpmahcocaaGreatDoor
open Go.Sx
def vP {ρ : Type} (g : Nat -> Option ρ) : Nat -> Nat -> Option ρ
 | 0, _ => none
 | n + 1, i => match g i with
  | some v => some v
  | none => vP g n (i + 1)
def zdx {ρ : Type} : Option ρ -> Unit ⊕ ρ
 | some v => .inr v
 | none => .inl ()
theorem zni {ρ : Type} {body : Nat -> (Unit -> Option (Unit ⊕ ρ)) -> Unit -> Option (Unit ⊕ ρ)} (g : Nat -> Option ρ) {N : Nat}
  (hb : ∀ j again, j < N -> body j again () = match g j with | some v => some (.inr v) | none => again ()) :
  ∀ (n i : Nat), i + n = N -> zQ body (fun _ => (.inl ())) n i () = some (zdx (vP g n i)) := by
 intro n
 induction n with
 | zero => intro i _; rfl
 | succ n ih =>
  intro i hi
  show body i (zQ body _ n (i + 1)) () = _
  rw [hb i _ (by omega)]
  unfold vP
  cases g i with
  | some v => rfl
  | none => exact ih (i + 1) (by omega)
theorem zb4 {ρ : Type} {body : Nat -> (Unit -> Option (Unit ⊕ ρ)) -> Unit -> Option (Unit ⊕ ρ)} (g : Nat -> Option ρ) {N : Nat}
  (hb : ∀ j again, j < N -> body j again () = match g j with | some v => some (.inr v) | none => again ()) :
  zQ body (fun _ => (.inl ())) N 0 () = some (zdx (vP g N 0)) := zni g hb N 0 (by omega)
theorem zaS {ρ : Type} {g : Nat -> Option ρ} {v : ρ} : ∀ {n i : Nat}, vP g n i = some v -> ∃ j, i <= j /\ j < i + n /\ g j = some v /\ ∀ q, i <= q -> q < j -> g q = none := by
 intro n
 induction n with
 | zero => intro i h; cases h
 | succ n ih =>
  intro i h
  unfold vP at h
  cases hg : g i with
  | some u =>
   rw [hg] at h
   cases h
   exact ⟨i, Nat.le_refl _, by omega, hg, fun q h1 h2 => by omega⟩
  | none =>
   rw [hg] at h
   obtain ⟨j, h1, h2, h3, h4⟩ := ih h
   refine ⟨j, by omega, by omega, h3, fun q q1 q2 => ?_⟩
   rcases Nat.eq_or_lt_of_le q1 with e | e
   ·subst e; exact hg
   ·exact h4 q e q2
theorem zbk {ρ : Type} {g : Nat -> Option ρ} : ∀ {n i : Nat}, vP g n i = none -> ∀ q, i <= q -> q < i + n -> g q = none := by
 intro n
 induction n with
 | zero => intro i _ q h1 h2; omega
 | succ n ih =>
  intro i h q h1 h2
  unfold vP at h
  cases hg : g i with
  | some u => rw [hg] at h; cases h
  | none =>
   rw [hg] at h
   rcases Nat.eq_or_lt_of_le h1 with e | e
   ·subst e; exact hg
   ·exact ih h q e (by omega)
theorem ziA {ρ : Type} {g : Nat -> Option ρ} : ∀ {n i : Nat}, (∀ q, i <= q -> q < i + n -> g q = none) -> vP g n i = none := by
 intro n
 induction n with
 | zero => intro i _; rfl
 | succ n ih =>
  intro i h
  unfold vP
  rw [h i (Nat.le_refl _) (by omega)]
  exact ih (fun q h1 h2 => h q (by omega) (by omega))
theorem zdL {α : Type} {xs : List α} {i : Nat} (h : i < xs.length) : idx xs (i : Int) = some xs[i] := by
 simp [Go.Sx.idx, h]
def zhV (n : Int) (p : Int) (i : zc) : Int :=
 if !zO i then 12
 else if (zr i).2.1 && (decide (p + (zr i).1 < 0) || decide (p + (zr i).1 >= n)) then 30
 else if (zr i).2.2 && p == n - 1 then 36 else 0
theorem zcI (i : zc) : -63 <= (zr i).1 /\ (zr i).1 <= 64 := by
 unfold zr
 split
 ·rename_i h; have := zcK h; simp; omega
 ·split
  ·rename_i h; have := zg4 h; simp; omega
  ·simp
def vo (code : List zc) (p : Nat) : Option (Int × Int) := match code[p]? with
 | some i => if zhV code.length p i = 0 then none else some ((p : Int), zhV code.length p i)
 | none => none
theorem zhW (code : List zc) (hn : code.length <= 64) : zc3 code = some ((vP (vo code) code.length 0).getD (0, 0)) := by
 unfold zc3
 rw [zb4 (vo code) (N := code.length)]
 ·simp only [zbs]
  cases vP (vo code) code.length 0 <;> rfl
 ·intro j again hj
  unfold zcr
  have hx : code[j]? = some code[j] := zeg hj
  generalize hi : code[j] = x at hx
  have hg := zcI x
  have e1 : w64 ((j : Int) + (zr x).1) = j + (zr x).1 := zI (by omega) (by omega)
  have e2 : w64 ((code.length : Int) - 1) = code.length - 1 := zI (by omega) (by omega)
  have hr : ze6 [x] = some (zO x) := by
   unfold ze6
   simp only [List.length_singleton, zQ, zdE]
   rcases zft (zO x) with h | h <;> simp [Go.Sx.idx, zaL, h]
  simp only [zdL hj, hi, zbs, zcL, hr, e1, e2, vo, hx, zhV]
  rcases zft (zO x) with h1 | h1
  ·rcases zft ((zr x).2.1 && (decide ((j : Int) + (zr x).1 < 0) || decide ((j : Int) + (zr x).1 >= code.length))) with h2 | h2
   ·simp only [h1, h2]; rfl
   ·rcases zft ((zr x).2.2 && ((j : Int) == code.length - 1)) with h3 | h3
    ·simp only [h1, h2, h3]; rfl
    ·simp only [h1, h2, h3]; rfl
  ·simp only [h1]; rfl
def zf8 (code : List zc) : Prop := ∀ (p : Nat) (i : zc), code[p]? = some i -> zhV code.length p i = 0
theorem zkh {code : List zc} (h : vP (vo code) code.length 0 = none) : zf8 code := by
 intro p i hi
 have hp := (zes.1 hi).1
 have := zbk h p (by omega) (by omega)
 unfold vo at this
 rw [hi] at this
 simp only at this
 split at this
 ·assumption
 ·cases this
theorem zhX {code : List zc} (h : zf8 code) : vP (vo code) code.length 0 = none := by
 refine ziA (fun q _ hq => ?_)
 have hi := zeg (show q < code.length by omega)
 unfold vo
 rw [hi]
 simp only [h q _ hi, if_true]
theorem zf8.right {code : List zc} (h : zf8 code) {p : Nat} {i : zc} (hi : code[p]? = some i) : zO i = true := by
 have := h p i hi
 unfold zhV at this
 rcases zft (zO i) with h1 | h1
 ·exact h1
 ·rw [h1] at this; simp at this
theorem zf8.leads {code : List zc} (h : zf8 code) {p : Nat} {i : zc} (hi : code[p]? = some i) (hl : (zr i).2.1 = true) : 0 <= (p : Int) + (zr i).1 /\ (p : Int) + (zr i).1 < code.length := by
 have := h p i hi
 unfold zhV at this
 rw [h.right hi, hl] at this
 simp at this
 split at this
 ·omega
 ·rename_i h2; omega
theorem zf8.on {code : List zc} (h : zf8 code) {p : Nat} {i : zc} (hi : code[p]? = some i) (hl : (zr i).2.2 = true) : p + 1 < code.length := by
 have hp := (zes.1 hi).1
 have h1 := h p i hi
 unfold zhV at h1
 rw [h.right hi, hl] at h1
 rcases Nat.lt_or_ge (p + 1) code.length with h2 | h2
 ·exact h2
 ·exfalso
  have e : ((p : Int) == code.length - 1) = true := by simp; omega
  rw [e] at h1
  simp at h1
  split at h1 <;> omega
theorem zf8.loop {code : List zc} (h : zf8 code) {p : Nat} {i : zc} (hi : code[p]? = some i) (ho : i.Op = 20) : 1 <= i.D /\ i.D <= p /\ 1 <= i.Imm /\ i.Imm <= 255 /\ p + 1 < code.length := by
 have hr := h.right hi
 have hl : zbf i = true := by simp [zbf, hr, ho]
 have hj : xw i = false := by simp [xw, inB, ho]
 have hg : zr i = (-i.D, true, true) := by simp [zr, hl, hj]
 have h1 := h.leads hi (by rw [hg])
 have h2 := h.on hi (by rw [hg])
 rw [hg] at h1
 have h3 := zg4 hl
 simp only at h1
 omega
def zU (i : zc) (p : Nat) : zC := ⟨(p : Int) - i.D, p, i.Imm⟩
def lps (code : List zc) : Nat -> List zC
 | 0 => []
 | k + 1 => match code[k]? with
  | some i => if i.Op == 20 then lps code k ++ [zU i k] else lps code k
  | none => lps code k
theorem zhj (code : List zc) : ∀ k, (lps code k).length <= k
 | 0 => Nat.le_refl _
 | k + 1 => by
  have := zhj code k
  unfold lps
  split
  ·split
   ·simp; omega
   ·omega
  ·omega
theorem zdM {code : List zc} {l : zC} : ∀ {k : Nat}, l ∈ lps code k ↔ ∃ q i, q < k /\ code[q]? = some i /\ i.Op = 20 /\ l = zU i q
 | 0 => by simp [lps]
 | k + 1 => by
  unfold lps
  have ih := @zdM code l k
  constructor
  ·intro h
   split at h
   ·rename_i i hi
    split at h
    ·rename_i ho
     rcases List.mem_append.1 h with h | h
     ·obtain ⟨q, j, h1, h2⟩ := ih.1 h
      exact ⟨q, j, by omega, h2⟩
     ·simp at h
      exact ⟨k, i, by omega, hi, by simpa using ho, h⟩
    ·obtain ⟨q, j, h1, h2⟩ := ih.1 h
     exact ⟨q, j, by omega, h2⟩
   ·obtain ⟨q, j, h1, h2⟩ := ih.1 h
    exact ⟨q, j, by omega, h2⟩
  ·rintro ⟨q, j, h1, h2, h3, h4⟩
   rcases Nat.lt_or_ge q k with hq | hq
   ·have := ih.2 ⟨q, j, hq, h2, h3, h4⟩
    split
    ·split
     ·exact zal _ this
     ·exact this
    ·exact this
   ·have e : q = k := by omega
    subst e
    rw [h2]
    simp only [h3]
    rw [if_pos (by simp)]
    exact zar _ (by simp [h4])
theorem zg2 (code : List zc) : ∀ k, (lps code k).Pairwise (fun a b => a.At < b.At) /\ ∀ l ∈ lps code k, l.At < k
 | 0 => ⟨List.Pairwise.nil, by simp [lps]⟩
 | k + 1 => by
  obtain ⟨h1, h2⟩ := zg2 code k
  unfold lps
  split
  ·split
   ·refine ⟨List.pairwise_append.2 ⟨h1, List.pairwise_singleton _ _, fun a ha b hb => ?_⟩, fun l hl => ?_⟩
    ·simp at hb; subst hb; exact h2 a ha
    ·rcases List.mem_append.1 hl with hl | hl
     ·have := h2 l hl; omega
     ·simp at hl; subst hl; simp [zU]; omega
   ·exact ⟨h1, fun l hl => by have := h2 l hl; omega⟩
  ·exact ⟨h1, fun l hl => by have := h2 l hl; omega⟩
theorem zhk {code : List zc} (hn : code.length <= 64) (hD : zf8 code) : zbV code = some (lps code code.length) := by
 refine OK.is ?_
 unfold zbV
 refine OK.bind2 (R := fun y => y = lps code code.length) ?_ (fun x hx => OK.ret hx)
 refine OK.count (fun i s => s = lps code i) rfl ?_ (fun s h => h)
 intro i s again hi hs k
 subst hs
 unfold zc4
 refine OK.bind (OK.getN hi (fun x hx => ?_))
 have hl := zhj code i
 refine OK.ite (fun h => ?_) (fun h => ?_)
 ·have hd := hD.loop hx (by simpa using h)
  refine OK.bind (OK.hasRoom (by simp; omega) ?_)
  refine k _ ?_
  rw [lps, hx]
  simp only [h, if_true, zU]
  rw [zI (by omega) (by omega)]
 ·refine k _ ?_
  rw [lps, hx]
  simp [h]
def zw (code : List zc) (p a : Nat) : Bool := match code[a]? with
 | some i => i.Op == 20 && decide ((a : Int) - i.D <= p) && decide (p <= a)
 | none => false
def bod (code : List zc) (k p : Nat) : List Int := ((List.range k).filter (zw code p)).map (fun (a : Nat) => (a : Int))
theorem zfd (code : List zc) (k p : Nat) : bod code (k + 1) p = if zw code p k then bod code k p ++ [(k : Int)] else bod code k p := by
 unfold bod
 rw [List.range_succ, List.filter_append, List.map_append]
 cases h : zw code p k <;> simp [h]
theorem ziB (code : List zc) (k p : Nat) : (bod code k p).length <= k := by
 unfold bod
 rw [List.length_map]
 exact Nat.le_trans (List.length_filter_le _ _) (by simp)
theorem zgm {code : List zc} {k p : Nat} {x : Int} : x ∈ bod code k p ↔ ∃ a : Nat, a < k /\ zw code p a = true /\ x = a := by
 unfold bod
 simp only [List.mem_map, List.mem_filter, List.mem_range]
 constructor
 ·rintro ⟨a, ⟨h1, h2⟩, rfl⟩; exact ⟨a, h1, h2, rfl⟩
 ·rintro ⟨a, h1, h2, rfl⟩; exact ⟨a, ⟨h1, h2⟩, rfl⟩
theorem ziC {code : List zc} {n p a : Nat} (ha : a < n) : (bod code n p).contains (a : Int) = zw code p a := by
 rw [Bool.eq_iff_iff, List.contains_iff_mem, zgm]
 constructor
 ·rintro ⟨b, _, h2, h3⟩
  have : a = b := by omega
  subst this
  exact h2
 ·intro h
  exact ⟨a, ha, h, rfl⟩
open Classical in
noncomputable def pick {ρ : Type} (X : Prop) (v : ρ) : Option ρ := if X then some v else none
theorem zgn {ρ : Type} {X : Prop} {v : ρ} (h : X) : pick X v = some v := by unfold pick; rw [if_pos h]
theorem zeE {ρ : Type} {X : Prop} {v : ρ} (h : ¬ X) : pick X v = none := by unfold pick; rw [if_neg h]
theorem zff {ρ : Type} {X : Prop} {v u : ρ} (h : pick X v = some u) : X /\ v = u := by
 unfold pick at h
 split at h
 ·rename_i hx; cases h; exact ⟨hx, rfl⟩
 ·cases h
theorem zcJ {ρ : Type} {X : Prop} {v : ρ} (h : pick X v = none) : ¬ X := by
 unfold pick at h
 split at h
 ·cases h
 ·rename_i hx; exact hx
def zhl (X : Nat -> Prop) (n : Nat) : Option Nat -> Prop
 | some l => l < n /\ X l /\ ∀ q, q < l -> ¬ X q
 | none => ∀ q, q < n -> ¬ X q
theorem zhl.unique {X : Nat -> Prop} {n : Nat} {a b : Option Nat} (ha : zhl X n a) (hb : zhl X n b) : a = b := by
 cases a with
 | none =>
  cases b with
  | none => rfl
  | some l => exact absurd hb.2.1 (ha l hb.1)
 | some k =>
  cases b with
  | none => exact absurd ha.2.1 (hb k ha.1)
  | some l =>
   rcases Nat.lt_trichotomy k l with h | h | h
   ·exact absurd ha.2.1 (hb.2.2 k h)
   ·rw [h]
   ·exact absurd hb.2.1 (ha.2.2 l h)
theorem zb5 {ρ : Type} {X : Nat -> Prop} {n : Nat} {v : Nat -> ρ} : ∃ o, zhl X n o /\ vP (fun l => pick (X l) (v l)) n 0 = o.map v := by
 cases h : vP (fun l => pick (X l) (v l)) n 0 with
 | none => exact ⟨none, fun q hq => zcJ (zbk h q (by omega) (by omega)), rfl⟩
 | some u =>
  obtain ⟨j, _, h2, h3, h4⟩ := zaS h
  obtain ⟨hx, rfl⟩ := zff h3
  exact ⟨some j, ⟨by omega, hx, fun q hq => zcJ (h4 q (by omega) hq)⟩, rfl⟩
def Crs (code : List zc) (l m : Nat) : Prop := ∃ il im, code[l]? = some il /\ il.Op = 20 /\ code[m]? = some im /\ im.Op = 20 /\ (l : Int) - il.D <= m /\ (m : Int) - im.D < l - il.D
def Cr (code : List zc) (l : Nat) : Prop := ∃ m, m < l /\ Crs code l m
theorem zZ {code : List zc} {p a : Nat} {i : zc} (hi : code[a]? = some i) (ho : i.Op = 20) : zw code p a = true ↔ (a : Int) - i.D <= p /\ p <= a := by
 simp [zw, hi, ho]
theorem zmp {code : List zc} (hD : zf8 code) {l m : Nat} (hml : m < l) {il im : zc} (h1 : code[l]? = some il) (h2 : il.Op = 20) (h3 : code[m]? = some im) (h4 : im.Op = 20) :
  Crs code l m ↔ (∃ p, p < code.length /\ zw code p m = true /\ zw code p l = true) /\ (∃ p, p < code.length /\ zw code p m = true /\ zw code p l = false) := by
 have d1 := hD.loop h1 h2
 have d2 := hD.loop h3 h4
 constructor
 ·rintro ⟨il', im', e1, _, e3, _, c1, c2⟩
  rw [h1] at e1; cases e1
  rw [h3] at e3; cases e3
  refine ⟨⟨m, by omega, (zZ h3 h4).2 (by omega), (zZ h1 h2).2 (by omega)⟩, ⟨((m : Int) - im.D).toNat, by omega, (zZ h3 h4).2 (by omega), ?_⟩⟩
  cases hc : zw code ((m : Int) - im.D).toNat l with
  | false => rfl
  | true => have := (zZ h1 h2).1 hc; omega
 ·rintro ⟨⟨p, _, a1, a2⟩, ⟨q, _, b1, b2⟩⟩
  have a1 := (zZ h3 h4).1 a1
  have a2 := (zZ h1 h2).1 a2
  have b1 := (zZ h3 h4).1 b1
  refine ⟨il, im, h1, h2, h3, h4, by omega, ?_⟩
  rcases Int.lt_or_le ((m : Int) - im.D) (l - il.D) with h | h
  ·exact h
  ·exfalso
   have := (zZ h1 h2).2 (show (l : Int) - il.D <= q /\ q <= l by omega)
   rw [b2] at this
   cases this
theorem zgo {ls : List zC} (hs : ls.Pairwise (fun a b => a.At < b.At)) {i j : Nat} {a b : zC} (hi : ls[i]? = some a) (hj : ls[j]? = some b) : a.At < b.At ↔ i < j := by
 obtain ⟨h1, rfl⟩ := zes.1 hi
 obtain ⟨h2, rfl⟩ := zes.1 hj
 constructor
 ·intro h
  rcases Nat.lt_trichotomy i j with h3 | h3 | h3
  ·exact h3
  ·subst h3; omega
  ·have := List.pairwise_iff_getElem.1 hs j i h2 h1 h3; omega
 ·intro h
  exact List.pairwise_iff_getElem.1 hs i j h1 h2 h
theorem zki {α : Type} {xs : List α} {k : Nat} (hk : k <= xs.length) : cut xs 0 (k : Int) = some (xs.take k) := by
 unfold cut
 rw [if_pos (by omega)]
 simp
theorem zmq {code : List zc} (hn : code.length <= 64) (hD : zf8 code) :
  ∃ o, zhl (Cr code) code.length o /\ zQ (zau (lps code code.length)) (fun _ => (.inl ())) (lps code code.length).length 0 () = some (zdx (o.map fun (l : Nat) => ((l : Int), (31 : Int)))) := by
 have hs := (zg2 code code.length).1
 have hl := zhj code code.length
 generalize hls : lps code code.length = ls at hs hl |-
 have mem : ∀ {l : zC}, l ∈ ls ↔ ∃ q i, q < code.length /\ code[q]? = some i /\ i.Op = 20 /\ l = zU i q := by
  intro l; rw [<- hls]; exact zdM
 have main : zQ (zau ls) (fun _ => (.inl ())) ls.length 0 () = some (zdx (vP (fun k => match ls[k]? with | some l => pick (Cr code l.At.toNat) (l.At, (31 : Int)) | none => none) ls.length 0)) := by
  refine zb4 _ (N := ls.length) ?_
  intro k again hk
  have hx := zeg hk
  generalize hi : ls[k] = x at hx
  obtain ⟨q, i, hq, hqi, hop, rfl⟩ := mem.1 (zmg hx)
  unfold zau
  have htl : (ls.take k).length = k := by rw [List.length_take]; omega
  have inner : zQ (zbr (zU i q) (ls.take k)) (fun _ => (.inl ())) k 0 () = some (zdx (vP (fun m => match ls[m]? with | some l => pick (Crs code q l.At.toNat) ((q : Int), (31 : Int)) | none => none) k 0)) := by
   refine zb4 _ (N := k) ?_
   intro m again hm
   have hml : m < ls.length := by omega
   have hy := zeg hml
   generalize hj : ls[m] = y at hy
   have hyt : idx (ls.take k) (m : Int) = some y := by
    rw [zdL (by omega)]
    simp [List.getElem_take, hj]
   obtain ⟨q', i', hq', hqi', hop', rfl⟩ := mem.1 (zmg hy)
   unfold zbr
   simp only [hyt, hy, zbs]
   have e : ((zU i' q').At).toNat = q' := by simp [zU]
   rw [e]
   by_cases hc : Crs code q q'
   ·rw [zgn hc]
    obtain ⟨il, im, e1, _, e3, _, c1, c2⟩ := hc
    rw [hqi] at e1; cases e1
    rw [hqi'] at e3; cases e3
    have : (decide ((zU i' q').At >= (zU i q).Head) && decide ((zU i' q').Head < (zU i q).Head)) = true := by
     have a1 : (zU i' q').At = q' := rfl
     have a2 : (zU i q).Head = q - i.D := rfl
     have a3 : (zU i' q').Head = q' - i'.D := rfl
     simp only [a1, a2, a3, zae, zdq]; exact ⟨c1, c2⟩
    simp only [this]; rfl
   ·rw [zeE hc]
    have : (decide ((zU i' q').At >= (zU i q).Head) && decide ((zU i' q').Head < (zU i q).Head)) = false := by
     cases h : (decide ((zU i' q').At >= (zU i q).Head) && decide ((zU i' q').Head < (zU i q).Head)) with
     | false => rfl
     | true =>
      exfalso; apply hc
      have a1 : (zU i' q').At = q' := rfl
      have a2 : (zU i q).Head = q - i.D := rfl
      have a3 : (zU i' q').Head = q' - i'.D := rfl
      simp only [a1, a2, a3, zae, zdq] at h
      exact ⟨i, i', hqi, hop, hqi', hop', h.1, h.2⟩
    simp only [this]; rfl
  simp only [zdL hk, hi, hx, zbs, zki (Nat.le_of_lt hk), htl, inner]
  have e : ((zU i q).At).toNat = q := by simp [zU]
  rw [e]
  cases hf : vP (fun m => match ls[m]? with | some l => pick (Crs code q l.At.toNat) ((q : Int), (31 : Int)) | none => none) k 0 with
  | some v =>
   obtain ⟨m, _, h2, h3, _⟩ := zaS hf
   have hml : m < ls.length := by omega
   have hy := zeg hml
   rw [hy] at h3
   obtain ⟨hcr, rfl⟩ := zff h3
   have hlt := (zgo hs hy hx).2 (by omega)
   obtain ⟨q', i', hq', hqi', hop', e'⟩ := mem.1 (zmg hy)
   rw [e'] at hcr hlt
   rw [zgn ⟨q', by simp [zU] at hlt; omega, by simpa [zU] using hcr⟩]
   rfl
  | none =>
   have h0 := zbk hf
   rw [zeE]
   ·rfl
   ·rintro ⟨m, hm, hcr⟩
    obtain ⟨il, im, e1, _, e3, e4, c1, c2⟩ := id hcr
    have hmem := mem.2 ⟨m, im, by omega, e3, e4, rfl⟩
    obtain ⟨j, hj, hje⟩ := List.mem_iff_getElem.1 hmem
    have hy := zeg hj
    rw [hje] at hy
    have hlt := (zgo hs hy hx).1 (by simp [zU]; omega)
    have := h0 j (by omega) (by omega)
    rw [hy] at this
    exact zcJ this (by simpa [zU] using hcr)
 cases hf : vP (fun k => match ls[k]? with | some l => pick (Cr code l.At.toNat) (l.At, (31 : Int)) | none => none) ls.length 0 with
 | none =>
  refine ⟨none, fun q hq hc => ?_, by rw [main, hf]; rfl⟩
  obtain ⟨m, hm, il, im, e1, e2, _⟩ := id hc
  obtain ⟨j, hj, hje⟩ := List.mem_iff_getElem.1 (mem.2 ⟨q, il, hq, e1, e2, rfl⟩)
  have := zbk hf j (by omega) (by omega)
  rw [zeg hj, hje] at this
  exact zcJ this (by simpa [zU] using hc)
 | some v =>
  obtain ⟨k, _, h2, h3, h4⟩ := zaS hf
  have hk : k < ls.length := by omega
  have hx := zeg hk
  rw [hx] at h3
  obtain ⟨hc, rfl⟩ := zff h3
  obtain ⟨q, i, hq, hqi, hop, e⟩ := mem.1 (zmg hx)
  refine ⟨some q, ⟨hq, ?_, fun q' hq' hc' => ?_⟩, ?_⟩
  ·rw [e] at hc; simpa [zU] using hc
  ·obtain ⟨m, hm, il, im, e1, e2, _⟩ := id hc'
   obtain ⟨j, hj, hje⟩ := List.mem_iff_getElem.1 (mem.2 ⟨q', il, by omega, e1, e2, rfl⟩)
   have hy := zeg hj
   have hlt := (zgo hs hy hx).1 (by rw [hje, e]; simp [zU]; omega)
   have := h4 j (by omega) hlt
   rw [hy, hje] at this
   exact zcJ this (by simpa [zU] using hc')
  ·rw [main, hf, e]; rfl
def En (code : List zc) (p : Nat) : Prop := ∃ i, code[p]? = some i /\ (zr i).2.1 = true /\ 0 < (zr i).1 /\ ∃ a ia t, a < code.length /\ code[a]? = some ia /\ ia.Op = 20 /\ (t : Nat) = (p : Int) + (zr i).1 /\ zw code t a = true /\ zw code p a = false /\ (t : Int) ≠ a - ia.D
theorem zmr (i : zc) (h : (zr i).2.1 = true) : (zr i).1 ≠ 0 := by
 unfold zr at h |-
 split
 ·rename_i hj; have := zcK hj; simp; omega
 ·split
  ·rename_i hl; have := zg4 hl; simp; omega
  ·rename_i h1 h2; simp [h1, h2] at h
theorem zms {code : List zc} (hn : code.length <= 64) (hD : zf8 code) :
  zQ (zbu code (lps code code.length)) (fun _ => (.inl ())) code.length 0 () = some (zdx (vP (fun p => pick (En code p) ((p : Int), (31 : Int))) code.length 0)) := by
 refine zb4 _ (N := code.length) ?_
 intro p again hp
 have hx := zeg hp
 generalize hi : code[p] = x at hx
 have hg := zcI x
 have e1 : w64 ((p : Int) + (zr x).1) = p + (zr x).1 := zI (by omega) (by omega)
 have hl := zhj code code.length
 have inner : zQ (zbt (lps code code.length) p (zr x)) (fun _ => (.inl ())) (lps code code.length).length 0 () =
   some (zdx (vP (fun k => match (lps code code.length)[k]? with | some l => pick ((zr x).2.1 = true /\ 0 < (zr x).1 /\ ¬ (l.Head <= p /\ (p : Int) <= l.At) /\ (l.Head <= p + (zr x).1 /\ p + (zr x).1 <= l.At) /\ p + (zr x).1 ≠ l.Head) ((p : Int), (31 : Int)) | none => none) (lps code code.length).length 0)) := by
  refine zb4 _ (N := (lps code code.length).length) ?_
  intro k again hk
  have hy := zeg hk
  generalize hj : (lps code code.length)[k] = y at hy
  unfold zbt
  simp only [zdL hk, hj, hy, zbs, zfH, e1]
  by_cases hc : ((zr x).2.1 = true /\ 0 < (zr x).1 /\ ¬ (y.Head <= p /\ (p : Int) <= y.At) /\ (y.Head <= p + (zr x).1 /\ p + (zr x).1 <= y.At) /\ p + (zr x).1 ≠ y.Head)
  ·rw [zgn hc]
   obtain ⟨c1, c2, c3, c4, c5⟩ := hc
   have d1 : (decide ((p : Int) >= y.Head) && decide ((p : Int) <= y.At)) = false := by
    cases h : (decide ((p : Int) >= y.Head) && decide ((p : Int) <= y.At)) with
    | false => rfl
    | true => exfalso; apply c3; simp at h; omega
   have d2 : (decide ((p : Int) + (zr x).1 >= y.Head) && decide ((p : Int) + (zr x).1 <= y.At)) = true := by simp; omega
   have d3 : decide ((zr x).1 > 0) = true := by simp; omega
   have d4 : ((p : Int) + (zr x).1 != y.Head) = true := by simp; omega
   simp only [c1, d1, d2, d3, d4]; rfl
  ·rw [zeE hc]
   rcases zft (zr x).2.1 with c1 | c1
   ·rcases zft (decide ((zr x).1 > 0)) with d3 | d3
    ·rcases zft (decide ((p : Int) >= y.Head) && decide ((p : Int) <= y.At)) with d1 | d1
     ·simp only [c1, d3, d1]; rfl
     ·rcases zft (decide ((p : Int) + (zr x).1 >= y.Head) && decide ((p : Int) + (zr x).1 <= y.At)) with d2 | d2
      ·rcases zft ((p : Int) + (zr x).1 != y.Head) with d4 | d4
       ·exfalso; apply hc
        simp at d1 d2 d3 d4
        exact ⟨c1, d3, by omega, by omega, d4⟩
       ·simp only [c1, d3, d1, d2, d4]; rfl
      ·simp only [c1, d3, d1, d2]; rfl
    ·simp only [c1, d3]; rfl
   ·simp only [c1]; rfl
 unfold zbu
 simp only [zdL hp, hi, zbs, zcL, inner]
 cases hf : vP (fun k => match (lps code code.length)[k]? with | some l => pick ((zr x).2.1 = true /\ 0 < (zr x).1 /\ ¬ (l.Head <= p /\ (p : Int) <= l.At) /\ (l.Head <= p + (zr x).1 /\ p + (zr x).1 <= l.At) /\ p + (zr x).1 ≠ l.Head) ((p : Int), (31 : Int)) | none => none) (lps code code.length).length 0 with
 | some v =>
  obtain ⟨k, _, h2, h3, _⟩ := zaS hf
  have hk : k < (lps code code.length).length := by omega
  have hy := zeg hk
  rw [hy] at h3
  obtain ⟨⟨c1, c2, c3, c4, c5⟩, rfl⟩ := zff h3
  obtain ⟨q, i, hq, hqi, hop, e⟩ := zdM.1 (zmg hy)
  rw [e] at c3 c4 c5
  simp only [zU] at c3 c4 c5
  have hpos : 0 <= (p : Int) + (zr x).1 := by omega
  have hcv : zw code p q = false := by
   cases hcv : zw code p q with
   | false => rfl
   | true => exfalso; apply c3; have := (zZ hqi hop).1 hcv; omega
  have hE : En code p := ⟨x, hx, c1, c2, q, i, ((p : Int) + (zr x).1).toNat, hq, hqi, hop, by omega, (zZ hqi hop).2 (by omega), hcv, by omega⟩
  rw [zgn hE]
  rfl
 | none =>
  have h0 := zbk hf
  rw [zeE]
  ·rfl
  ·rintro ⟨i', hi', c1, c2, a, ia, t, ha, hia, hop, ht, v1, v2, v3⟩
   rw [hx] at hi'; cases hi'
   obtain ⟨j, hj, hje⟩ := List.mem_iff_getElem.1 (zdM.2 ⟨a, ia, ha, hia, hop, rfl⟩ : zU ia a ∈ lps code code.length)
   have := h0 j (by omega) (by omega)
   rw [zeg hj, hje] at this
   refine zcJ this ⟨c1, c2, ?_, ?_, ?_⟩
   ·intro hh
    simp only [zU] at hh
    have := (zZ hia hop).2 (show (a : Int) - ia.D <= p /\ p <= a by omega)
    rw [v2] at this; cases this
   ·have := (zZ hia hop).1 v1
    simp only [zU]; omega
   ·simp only [zU]; omega
def EnX (code : List zc) (p : Nat) (d a : Int) : Prop := ∃ (q : Nat) (ia : zc), a = q /\ q < code.length /\ code[q]? = some ia /\ zw code p q = false /\ (p : Int) + d ≠ q - ia.D
def xI (code : List zc) (p : Nat) : Nat -> Int
 | 0 => 1
 | k + 1 => match code[k]? with
  | some i => if zw code p k then xI code p k * (i.Imm + 1) else xI code p k
  | none => xI code p k
def zfD (code : List zc) : Nat -> Int
 | 0 => 0
 | k + 1 => zfD code k + xI code k code.length
theorem zhY {code : List zc} {p a : Nat} {i : zc} (hi : code[a]? = some i) (h : zw code p a = true) : i.Op = 20 := by
 unfold zw at h; rw [hi] at h; simp at h; exact h.1.1
theorem zdN {code : List zc} (hD : zf8 code) (p : Nat) : ∀ k, 1 <= xI code p k
 | 0 => by simp [xI]
 | k + 1 => by
  have ih := zdN hD p k
  unfold xI
  split
  ·rename_i i hi
   split
   ·rename_i hc
    have hd := hD.loop hi (zhY hi hc)
    have : 1 * 1 <= xI code p k * (i.Imm + 1) := Int.mul_le_mul ih (by omega) (by omega) (by omega)
    omega
   ·exact ih
  ·exact ih
theorem zdb {code : List zc} (hD : zf8 code) : ∀ k : Nat, (k : Int) <= zfD code k
 | 0 => by simp [zfD]
 | k + 1 => by
  have := zdb hD k
  have h2 := zdN hD k code.length
  unfold zfD
  omega
theorem zhZ (code : List zc) (k : Nat) : zfD code (k + 1) = zfD code k + xI code k code.length := rfl
def mn (x : Int) : Int := if x <= 257 then x else 257
theorem znj {x b : Int} (hx : 1 <= x) (hb : 1 <= b) : mn (mn x * b) = mn (x * b) := by
 unfold mn
 by_cases h : x <= 257
 ·rw [if_pos h]
 ·rw [if_neg h]
  have h1 : 257 * 1 <= 257 * b := Int.mul_le_mul_of_nonneg_left hb (by decide)
  have h2 : 258 * 1 <= x * b := Int.mul_le_mul (by omega) hb (by decide) (by omega)
  by_cases h3 : (257 : Int) * b <= 257
  ·rw [if_pos h3, if_neg (by omega)]; omega
  ·rw [if_neg h3, if_neg (by omega)]
theorem zkj {a b : Int} (ha : 0 <= a) (hb : 0 <= b) : mn (mn a + mn b) = mn (a + b) := by
 unfold mn; (repeat' split) <;> omega
theorem zkk (x : Int) : vH x 257 = mn x := by unfold vH mn; split <;> split <;> omega
theorem zkl (x : Int) : mn x <= 257 /\ mn x <= x := by unfold mn; split <;> omega
def zdO (p : Int) : List zC -> Int -> Int
 | [], s => s
 | l :: r, s => zdO p r (if decide (p >= l.Head) && decide (p <= l.At) then s * (l.Bound + 1) else s)
theorem zaT (p : Int) (l : List zC) : ∀ (a : List zC) (s : Int), zdO p (a ++ l) s = zdO p l (zdO p a s)
 | [], s => rfl
 | x :: r, s => by simp only [List.cons_append, zdO]; exact zaT p l r _
theorem zgp (code : List zc) (p : Nat) : ∀ k, zdO p (lps code k) 1 = xI code p k
 | 0 => rfl
 | k + 1 => by
  have ih := zgp code p k
  unfold lps xI
  cases hk : code[k]? with
  | none => exact ih
  | some i =>
   simp only
   by_cases ho : i.Op = 20
   ·rw [if_pos (by simp [ho]), zaT, ih]
    simp only [zdO, zU]
    have : zw code p k = (decide ((p : Int) >= (k : Int) - i.D) && decide ((p : Int) <= k)) := by
     rw [Bool.eq_iff_iff, zZ hk ho]; simp
    rw [this]
    rfl
   ·rw [if_neg (by simp [ho])]
    have : zw code p k = false := by simp [zw, hk, ho]
    simp [this, ih]
theorem znS {code : List zc} (hn : code.length <= 64) (hD : zf8 code) (p : Nat) :
  zQ (zcl (lps code code.length) p) (fun (s : Int) => s) (lps code code.length).length 0 1 = some (mn (xI code p code.length)) := by
 have hbound : ∀ (k : Nat) (l : zC), (lps code code.length)[k]? = some l -> 1 <= l.Bound /\ l.Bound <= 255 := by
  intro k l hl
  obtain ⟨q, i, _, h2, h3, rfl⟩ := zdM.1 (zmg hl)
  have := hD.loop h2 h3
  simp only [zU]; omega
 rw [<- zgp code p code.length]
 generalize lps code code.length = ls at hbound
 refine OK.is ?_
 refine OK.count (fun (i : Nat) (s : Int) => s = mn (zdO p (ls.take i) 1) /\ 1 <= zdO p (ls.take i) 1) ⟨by simp [zdO, mn], by simp [zdO]⟩ ?_ (fun s h => by rw [h.1]; simp)
 intro i s again hi ⟨hs, h1⟩ k
 unfold zcl
 refine OK.bind (OK.getN hi (fun x hx => ?_))
 have hb := hbound i x hx
 have htake : ls.take (i + 1) = ls.take i ++ [x] := by
  rw [List.take_add_one, hx]; rfl
 simp only [zfH, zbs]
 have hmn := zkl (zdO p (ls.take i) 1)
 have hs1 : 1 <= s := by rw [hs]; unfold mn; split <;> omega
 refine OK.ite (fun hc => ?_) (fun hc => ?_)
 ·have e1 : w64 (x.Bound + 1) = x.Bound + 1 := zI (by omega) (by omega)
  have m1 : s * (x.Bound + 1) <= 257 * 256 := Int.mul_le_mul (by omega) (by omega) (by omega) (by omega)
  have m0 : 0 <= s * (x.Bound + 1) := Int.mul_nonneg (by omega) (by omega)
  have e2 : w64 (s * (x.Bound + 1)) = s * (x.Bound + 1) := zI (by omega) (by omega)
  rw [e1, e2, zkk]
  refine k _ ⟨?_, ?_⟩
  ·rw [htake, zaT]
   simp only [zdO, hc, if_true]
   rw [hs, znj h1 (by omega)]
  ·rw [htake, zaT]
   simp only [zdO, hc, if_true]
   have : 1 * 1 <= zdO p (ls.take i) 1 * (x.Bound + 1) := Int.mul_le_mul h1 (by omega) (by omega) (by omega)
   omega
 ·refine k _ ⟨?_, ?_⟩
  ·rw [htake, zaT]
   simp only [zdO, hc]
   exact hs
  ·rw [htake, zaT]
   simp only [zdO, hc]
   exact h1
theorem zjg {code : List zc} (hn : code.length <= 64) (hD : zf8 code) : ze7 code = some (mn (zfD code code.length)) := by
 unfold ze7
 rw [zhk hn hD]
 simp only [zbs]
 refine OK.is ?_
 refine OK.bind2 (R := fun y => y = mn (zfD code code.length)) ?_ (fun x hx => OK.ret hx)
 refine OK.count (fun (i : Nat) (s : Int) => s = mn (zfD code i)) (by simp [zfD, mn]) ?_ (fun s h => h)
 intro i s again hi hs k
 subst hs
 unfold zdF
 rw [znS hn hD i]
 simp only [zbs]
 have h1 := zkl (xI code i code.length)
 have h2 := zkl (zfD code i)
 have h3 := zdN hD i code.length
 have h4 := zdb hD i
 have p1 : 1 <= mn (xI code i code.length) := by unfold mn; split <;> omega
 have p2 : 0 <= mn (zfD code i) := by unfold mn; split <;> omega
 rw [zI (by omega) (by omega), zkk]
 refine k _ ?_
 rw [zhZ, zkj (by omega) (by omega)]
end Go.Proofs.YtgmmfjpmahcocaaGreatDoor
