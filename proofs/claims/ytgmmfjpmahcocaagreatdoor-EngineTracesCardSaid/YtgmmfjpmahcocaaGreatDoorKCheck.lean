import Derived.Test.YtgmmfjpmahcocaaGreatDoorKFlow
set_option linter.unusedVariables false
set_option linter.unusedSimpArgs false
namespace Go.Proofs.YtgmmfjpmahcocaaGreatDoor
open Go.Sx
structure zen (code : List zc) : Prop where
 n1 : 1 <= code.length
 n64 : code.length <= 64
 fine : zf8 code
 cr : ∀ l, l < code.length -> ¬ Cr code l
 en : ∀ p, p < code.length -> ¬ En code p
 cost : zfD code code.length <= 256
theorem zg1 {code : List zc} (hn : code.length <= 64) (hD : zf8 code) :
  ∃ o, zhl (Cr code) code.length o /\ zc5 code = some (match o with | some l => ((l : Int), 31) | none => (vP (fun p => pick (En code p) ((p : Int), (31 : Int))) code.length 0).getD (0, 0)) := by
 obtain ⟨o, h1, h2⟩ := zmq hn hD
 refine ⟨o, h1, ?_⟩
 unfold zc5
 rw [zhk hn hD]
 simp only [zbs, h2, zms hn hD]
 cases o with
 | some l => rfl
 | none => cases vP (fun p => pick (En code p) ((p : Int), (31 : Int))) code.length 0 <;> rfl
theorem zgj (code : List zc) : ∃ r, zaQ code = some r /\ (r.1 = 0 \/ 0 <= r.1 /\ r.1 < code.length) /\ (r.2 = 0 -> r.1 = 0 /\ zen code) /\ (zen code -> r.2 = 0) := by
 unfold zaQ
 by_cases h0 : code.length = 0
 ·refine ⟨(0, 10), ?_, .inl rfl, by simp, fun h => by have := h.n1; omega⟩
  simp [h0]
 ·have e0 : ((code.length : Int) == 0) = false := by simp; exact fun h => h0 (by simp [h])
  by_cases h1 : 64 < code.length
  ·have e1 : decide ((code.length : Int) > 64) = true := by simp; omega
   refine ⟨(0, 11), ?_, .inl rfl, by simp, fun h => by have := h.n64; omega⟩
   simp only [e0, e1]; rfl
  ·have e1 : decide ((code.length : Int) > 64) = false := by simp; omega
   have hn : code.length <= 64 := by omega
   simp only [e0, e1, zhW code hn, zbs]
   cases hp : vP (vo code) code.length 0 with
   | some v =>
    obtain ⟨j, _, h2, h3, _⟩ := zaS hp
    have hne : v.2 ≠ 0 /\ v.1 = j := by
     unfold vo at h3
     split at h3
     ·split at h3
      ·cases h3
      ·rename_i h4; cases h3; exact ⟨h4, rfl⟩
     ·cases h3
    refine ⟨v, ?_, .inr ⟨by rw [hne.2]; omega, by rw [hne.2]; omega⟩, fun h => absurd h hne.1, fun h => ?_⟩
    ·have : (v.2 != 0) = true := by simpa using hne.1
     simp [this]
    ·rw [zhX h.fine] at hp; cases hp
   | none =>
    have hD := zkh hp
    obtain ⟨o, o1, o2⟩ := zg1 hn hD
    simp only [o2, zbs, Option.getD_none]
    cases o with
    | some l =>
     have := o1.1
     refine ⟨((l : Int), 31), by simp, .inr ⟨by simp, by simpa using this⟩, by simp, fun h => absurd o1.2.1 (h.cr l o1.1)⟩
    | none =>
     obtain ⟨p, p1, p2⟩ := zb5 (X := En code) (n := code.length) (v := fun p => ((p : Int), (31 : Int)))
     rw [p2]
     cases p with
     | some l =>
      have := p1.1
      exact ⟨((l : Int), 31), by simp, .inr ⟨by simp, by simpa using this⟩, by simp, fun h => absurd p1.2.1 (h.en l p1.1)⟩
     | none =>
      simp only [zjg hn hD, zbs, Option.map_none, Option.getD_none]
      have hmn := zkl (zfD code code.length)
      by_cases hc : mn (zfD code code.length) > 256
      ·refine ⟨(0, 32), by simp [hc], .inl rfl, by simp, fun h => ?_⟩
       have := h.cost; omega
      ·refine ⟨(0, 0), by simp [hc], .inl rfl, fun _ => ⟨rfl, ⟨by omega, hn, hD, o1, p1, ?_⟩⟩, fun _ => rfl⟩
       unfold mn at hc
       split at hc <;> omega
theorem zjC {code : List zc} (h : zen code) : zaQ code = some (0, 0) := by
 obtain ⟨r, h1, _, h2, h3⟩ := zgj code
 have := h3 h
 have h4 := (h2 this).1
 rw [h1]
 obtain ⟨a, b⟩ := r
 simp only at this h4
 subst this; subst h4; rfl
theorem zfJ {code : List zc} (h : zen code) : zd7 code = some (lps code code.length, 0) := by
 unfold zd7
 rw [zjC h]
 simp [zhk h.n64 h.fine]
end Go.Proofs.YtgmmfjpmahcocaaGreatDoor
