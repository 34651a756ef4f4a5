import Derived.Test.YtgmmfjpmahcocaaGreatDoorKSpanR
import Derived.Test.YtgmmfjpmahcocaaGreatDoorKFlowR
set_option linter.unusedVariables false
set_option linter.unusedSimpArgs false
namespace Go.Proofs.YtgmmfjpmahcocaaGreatDoor
open Go.Sx
theorem zjJ {σ ρ : Type} {b1 b2 : Nat -> (σ -> Option ρ) -> σ -> Option ρ} {out : σ -> ρ} {N : Nat} (h : ∀ i again s, i < N -> b1 i again s = b2 i again s) : ∀ (n i : Nat) (s : σ), i + n = N -> zQ b1 out n i s = zQ b2 out n i s := by
 intro n
 induction n with
 | zero => intro i s _; rfl
 | succ n ih =>
  intro i s hi
  show b1 i (zQ b1 out n (i + 1)) s = b2 i (zQ b2 out n (i + 1)) s
  rw [h i _ s (by omega), show zQ b1 out n (i + 1) = zQ b2 out n (i + 1) from funext fun s => ih (i + 1) s (by omega)]
theorem zdf (op : Int) : zY op = some (inB op 1 10) := rfl
theorem ziQ (op : Int) : jD op = some (inB op 16 19) := rfl
def wrB (i : zc) : Int × Bool := if zO i then (if (decide (i.Op <= 11) || (decide (i.Op = 13) || decide (i.Op = 14))) then (i.D, true) else (0, i.Op == 21)) else (0, false)
theorem zl5 (i : zc) : vd i = some (wrB i) := by
 unfold wrB
 by_cases h : zO i = true
 ·have ho := za4 h
  obtain ⟨f, h1, h2, _⟩ := zhn i.Op ho.1 (by omega)
  unfold vd
  simp only [zaL, h, h1, h2, zbs, Bool.not_true, zfe, if_false, if_true, Bool.or_assoc]
  split <;> rfl
 ·have h' : zO i = false := by simpa using h
  unfold vd
  simp only [zaL, h', zbs, Bool.not_false, if_true, zfe, if_false]
theorem znp (i : zc) : vD i = some (wrB i) := by
 unfold wrB vD
 rw [zdc]
 by_cases h : zO i = true
 ·simp only [h, zbs, Bool.not_true, zfe, if_false, if_true, Bool.or_assoc]
  have : ((decide (i.Op <= 11) || ((i.Op == 13) || (i.Op == 14)))) = (decide (i.Op <= 11) || (decide (i.Op = 13) || decide (i.Op = 14))) := rfl
  rw [this]
  split <;> rfl
 ·have h' : zO i = false := by simpa using h
  simp only [h', zbs, Bool.not_false, if_true, zfe, if_false]
theorem zmE {i : zc} (h : zO i = true) : vE i = some (decide (i.Op <= 12) || (decide (16 <= i.Op) && decide (i.Op <= 19))) := by
 unfold vE
 rw [zdc, h]
 simp only [zbs, if_true, ziQ]
 by_cases h1 : i.Op <= 12
 ·simp [h1]
 ·simp [h1, inB]
theorem zh7 (k : Fin 7) : qV 1000 ((k : Nat) : Int) = zaD ((k : Nat) : Int) := by
 match k with
 | ⟨0, _⟩ => rfl
 | ⟨1, _⟩ => rfl
 | ⟨2, _⟩ => rfl
 | ⟨3, _⟩ => rfl
 | ⟨4, _⟩ => rfl
 | ⟨5, _⟩ => rfl
 | ⟨6, _⟩ => rfl
theorem ziR (k : Fin 7) : zaG ((k : Nat) : Int) = za1 ((k : Nat) : Int) := by
 match k with
 | ⟨0, _⟩ => rfl
 | ⟨1, _⟩ => rfl
 | ⟨2, _⟩ => rfl
 | ⟨3, _⟩ => rfl
 | ⟨4, _⟩ => rfl
 | ⟨5, _⟩ => rfl
 | ⟨6, _⟩ => rfl
theorem zkC (k : Fin 7) : ∃ l, qV 1000 ((k : Nat) : Int) = some l /\ l.length <= 3 /\ ∀ x ∈ l, SW x.Sp := by
 have z : SW ⟨0, 0⟩ := SW.zero
 have f : SW ⟨0, 18446744073709551615⟩ := SW.full
 have s : SW ⟨0, 15⟩ := ⟨by decide, by decide, by decide⟩
 match k with
 | ⟨0, _⟩ => exact ⟨[⟨2, ⟨0, 0⟩, 0⟩, ⟨1, ⟨0, 18446744073709551615⟩, 0⟩], rfl, by decide, by simp [z, f]⟩
 | ⟨1, _⟩ => exact ⟨[⟨2, ⟨0, 0⟩, 0⟩, ⟨1, ⟨0, 18446744073709551615⟩, 0⟩], rfl, by decide, by simp [z, f]⟩
 | ⟨2, _⟩ => exact ⟨[⟨2, ⟨0, 0⟩, 0⟩, ⟨1, ⟨0, 18446744073709551615⟩, 0⟩, ⟨1, ⟨0, 18446744073709551615⟩, 0⟩], rfl, by decide, by simp [z, f]⟩
 | ⟨3, _⟩ => exact ⟨[⟨2, ⟨0, 0⟩, 0⟩, ⟨1, ⟨0, 18446744073709551615⟩, 0⟩], rfl, by decide, by simp [z, f]⟩
 | ⟨4, _⟩ => exact ⟨[⟨2, ⟨0, 0⟩, 0⟩, ⟨1, ⟨0, 18446744073709551615⟩, 0⟩, ⟨1, ⟨0, 18446744073709551615⟩, 0⟩], rfl, by decide, by simp [z, f]⟩
 | ⟨5, _⟩ => exact ⟨[⟨1, ⟨0, 15⟩, 0⟩], rfl, by decide, by simp [s]⟩
 | ⟨6, _⟩ => exact ⟨[⟨1, ⟨0, 18446744073709551615⟩, 0⟩], rfl, by decide, by simp [f]⟩
theorem zjK (k : Fin 7) {ys : List za} (hy : ∀ y ∈ ys, SW y.Sp) : zaR 1000 ((k : Nat) : Int) ys = zac ((k : Nat) : Int) ys := by
 obtain ⟨l, ha, _, hw⟩ := zkC k
 have hs : ∃ s, xH ((k : Nat) : Int) = some (s, true) := by
  obtain ⟨s, h, _⟩ := zgu k
  exact ⟨s, h⟩
 obtain ⟨s, hs⟩ := hs
 have hk := k.isLt
 unfold zaR zac
 rw [hs, <- zh7 k, ha]
 have c : (decide ((((k : Nat) : Int)) < 0) || decide (((k : Nat) : Int) > 6)) = false := by
  rw [Bool.or_eq_false_iff]; exact ⟨decide_eq_false (by omega), decide_eq_false (by omega)⟩
 simp only [zbs, Bool.not_true, zfe, if_false, c]
 by_cases hl : l.length = ys.length
 ·have : ((l.length : Int) != (ys.length : Int)) = false := by simp; omega
  simp only [this, zfe, if_false]
  rw [zjJ (N := l.length) (b1 := vW ys l) (b2 := va ys l) ?_ _ _ _ (by omega)]
  intro i again u hi
  unfold vW va
  rw [zdL hi, zdL (by omega : i < ys.length)]
  simp only [zbs]
  have w1 := hw _ (List.getElem_mem hi)
  have w2 := hy _ (List.getElem_mem (by omega : i < ys.length))
  obtain ⟨r, e1, e2⟩ := zgB w2 w1
  rw [e1, e2]
  by_cases hkd : (l[i]).Ki = (ys[i]'(by omega)).Ki
  ·rw [hkd]
  ·have a1 : ((l[i]).Ki != (ys[i]'(by omega)).Ki) = true := by simpa using hkd
   have a2 : ((ys[i]'(by omega)).Ki != (l[i]).Ki) = true := by simpa using fun h => hkd h.symm
   rw [a1, a2]
   try rfl
 ·have : ((l.length : Int) != (ys.length : Int)) = true := by simp; omega
  simp only [this, if_true]
theorem zkD (fu : Nat) (l : List Int) : ∃ b, zcG l = some b /\ vu fu l = some b := by
 obtain ⟨b, h1, h2⟩ := ziM l
 refine ⟨b, h1, ?_⟩
 have : OK (vu fu l) (fun r => r = true ↔ ziL l) := by
  unfold vu
  refine OK.ite (fun h => OK.ret ?_) (fun h => ?_)
  ·simp only [zdq] at h
   exact ⟨fun e => (by cases e), fun g => (by have := g.2.2; omega)⟩
  ·simp only [decide_eq_false_iff_not] at h
   refine OK.bind2 (OK.count (Q := fun o => match o with | .inl _ => (∀ x ∈ l, 0 <= x /\ x < 4) /\ l.Nodup | .inr r => r = false /\ ¬ ziL l) (fun i _ => (∀ x ∈ l.take i, 0 <= x /\ x < 4) /\ (l.take i).Nodup) (by simp) (fun i s again hi hI k => ?_) (fun s hI => ?_)) (fun o ho => ?_)
   ·unfold zaJ
    rw [zdL hi]
    simp only [zbs]
    have hb : (if decide (l[i] < 0) = true then some true else some (decide (l[i] > 3)) : Option Bool) = some (decide (l[i] < 0) || decide (l[i] > 3)) := by
     by_cases hc : l[i] < 0
     ·simp [hc]
     ·simp [hc]
    rw [hb]
    simp only [zbs]
    refine OK.ite (fun hc => OK.ret ?_) (fun hc => ?_)
    ·refine ⟨rfl, fun g => ?_⟩
     have := g.1 _ (List.getElem_mem hi)
     simp only [Bool.or_eq_true, zdq] at hc
     omega
    ·simp only [Bool.or_eq_false_iff, decide_eq_false_iff_not] at hc
     refine OK.bind2 (R := fun o => match o with | .inl _ => l[i] ∉ l.take i | .inr r => r = false /\ l[i] ∈ l.take i) ?_ (fun o ho => ?_)
     ·refine OK.bind (OK.hasRoom (by omega) ?_)
      refine OK.count (fun j _ => l[i] ∉ l.take j) (by simp) (fun j u again2 hj hJ k2 => ?_) (fun u hJ => hJ)
      unfold zaI
      rw [zdL (by omega : j < l.length), zdL hi]
      simp only [zbs]
      refine OK.ite (fun he => OK.ret ⟨rfl, ?_⟩) (fun he => k2 _ ?_)
      ·simp only [beq_iff_eq] at he
       rw [<- he]
       rw [List.mem_take_iff_getElem]
       exact ⟨j, by omega, rfl⟩
      ·simp only [beq_eq_false_iff_ne, ne_eq] at he
       rw [List.take_succ_eq_append_getElem (by omega), List.mem_append]
       rintro (h1 | h1)
       ·exact hJ h1
       ·simp only [List.mem_singleton] at h1; exact he h1.symm
     ·match o, ho with
      | .inl _, ho =>
       refine k () ?_
       constructor
       ·intro x hx
        rw [List.take_succ_eq_append_getElem hi, List.mem_append] at hx
        rcases hx with hx | hx
        ·exact hI.1 x hx
        ·simp only [List.mem_singleton] at hx; subst hx; omega
       ·exact (zeb hi).2 ⟨hI.2, ho⟩
      | .inr r, ho =>
       refine OK.ret ⟨ho.1, fun g => ?_⟩
       have := (zeb hi).1 (List.Nodup.sublist (List.take_sublist (i + 1) l) g.2.1)
       exact this.2 ho.2
   ·rw [List.take_length] at hI; exact hI
   ·match o, ho with
    | .inl _, ho => exact OK.ret ⟨fun _ => ⟨ho.1, ho.2, by omega⟩, fun _ => rfl⟩
    | .inr r, ho => exact OK.ret ⟨fun e => (by rw [ho.1] at e; cases e), fun g => absurd g ho.2⟩
 obtain ⟨c, h3, h4⟩ := this
 rw [h3]
 congr 1
 rw [Bool.eq_iff_iff, h2, h4]
end Go.Proofs.YtgmmfjpmahcocaaGreatDoor
