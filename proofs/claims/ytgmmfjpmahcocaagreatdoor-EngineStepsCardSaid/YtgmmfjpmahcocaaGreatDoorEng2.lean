/- Texts Eng2, Eng3, Eng4, Eng5, Eng6, Pure, Range of this proof. -/
import Derived.Test.YtgmmfjpmahcocaaGreatDoorEng
import Derived.Test.YtgmmfjpmahcocaaGreatDoorMem
import Derived.Test.YtgmmfjpmahcocaaGreatDoorLib
set_option linter.unusedVariables false
set_option linter.unusedSimpArgs false
namespace Go.Sx
open Go.RowKit
universe u
structure Adm {ι : Type} (h : AH) (Fs : List Fa) (L : List Item) (L1 : ι -> List Item) (Fs1 : ι -> List Fa) : Prop where
 o : ∀ w0 Z w, allF w0 Z Fs -> St w0 Z w L -> ∃ i, St w0 Z w (L1 i) /\ allF w0 Z (Fs1 i)
section
variable {ρ ι : Type} {h : AH} {hs hs' : List H} {f : Option ρ} {r : ρ} {Fs Fs' : List Fa} {L L' : List Item} {fr : Fr} {P : Program} {B : Func} {N : Nat} {w0 : World} {Z : List Nat} {c x y : Code} {Q : Exit -> Act -> World -> Prop} {l : List Oper} {i : Nat} {e : Exit} {v : Value} {L1 : ι -> List Item} {Fs1 : ι -> List Fa}
theorem GO.ad (h1 : Adm h Fs L L1 Fs1) (n : ∀ q, GO hs f r (Fs1 q) (L1 q) fr P B N w0 Z l i Q) : GO (.a h :: hs) f r Fs L fr P B N w0 Z l i Q := ⟨fun w a s q => by
 obtain ⟨j, s', a'⟩ := h1.o w0 Z w a s
 exact (n j).o w a' s' q⟩
theorem GQ.ad (h1 : Adm h Fs L L1 Fs1) (n : ∀ q, GQ hs f r (Fs1 q) (L1 q) fr P B N w0 Z e Q) : GQ (.a h :: hs) f r Fs L fr P B N w0 Z e Q := ⟨fun w a s q => by
 obtain ⟨j, s', a'⟩ := h1.o w0 Z w a s
 exact (n j).o w a' s' q⟩
theorem GC.ad (h1 : Adm h Fs L L1 Fs1) (n : ∀ q, GC hs f r (Fs1 q) (L1 q) fr P B N w0 Z c Q) : GC (.a h :: hs) f r Fs L fr P B N w0 Z c Q := ⟨fun w a s q => by
 obtain ⟨j, s', a'⟩ := h1.o w0 Z w a s
 exact (n j).o w a' s' q⟩
theorem GS.ad {cc : Nat} {m : Bool} (h1 : Adm h Fs L L1 Fs1) (n : ∀ q, GS hs f r (Fs1 q) (L1 q) fr P B N w0 Z l i cc m Q) : GS (.a h :: hs) f r Fs L fr P B N w0 Z l i cc m Q := ⟨fun w a s q => by
 obtain ⟨j, s', a'⟩ := h1.o w0 Z w a s
 exact (n j).o w a' s' q⟩
theorem GP.ad {done eff : List Nat} {pd : List (Nat × Pn)} (h1 : Adm h Fs L L1 Fs1) (n : ∀ q, GP hs f r (Fs1 q) (L1 q) fr P B N w0 Z l done eff pd Q) : GP (.a h :: hs) f r Fs L fr P B N w0 Z l done eff pd Q := ⟨fun w a s q => by
 obtain ⟨j, s', a'⟩ := h1.o w0 Z w a s
 exact (n j).o w a' s' q⟩
theorem Adm.nn {α : Type} {T : TypeId} {R : Rp α} {Lq : List Item} (hL : snocO L (nI T R (.slice none ([] : List α).length 0) [] ([] : List α) none) = some Lq) : Adm (.nn T R) Fs L (fun _ : Unit => Lq) (fun _ => Fs) := ⟨fun w0 Z w a s => ⟨(), by
 rw [snocO_eq hL]
 exact s.nNil T R none, a⟩⟩
theorem Adm.o0 {α : Type} {j b sz : Nat} {S : List Nat} {T : TypeId} {enc : α -> List Value} {he : ∀ x, (enc x).length = sz} {x : α} {Lq : List Item} (hj : nth L j = some (itI (ptrP T (flatP enc sz he)) [.pointer (some ⟨b, 0, none⟩)] S x)) (hL : setO L j (blkI b T (enc x)) = some Lq) :
  Adm (.o0 j) Fs L (fun _ : Unit => Lq) (fun _ => Fs) := ⟨fun w0 Z w a s => ⟨(), by
 rw [setO_eq hL]
 exact s.openQ0 j (by rw [<- nth_get]; exact hj), a⟩⟩
theorem Adm.s0 {α : Type} {j b sz : Nat} {T : TypeId} {enc : α -> List Value} {he : ∀ x, (enc x).length = sz} {cs : List Value} {x : α} {Lq : List Item} (hj : nth L j = some (blkI b T cs)) (hL : setO L j (itI (ptrP T (flatP enc sz he)) [.pointer (some ⟨b, 0, none⟩)] [b] x) = some Lq) (hx : KR cs (enc x)) :
  Adm (.s0 j enc sz) Fs L (fun _ : Unit => Lq) (fun _ => Fs) := ⟨fun w0 Z w a s => ⟨(), by
 rw [setO_eq hL]
 exact s.shutP0 j (by rw [<- nth_get]; exact hj) x hx.h, a⟩⟩
theorem Adm.kp {ids : List Nat} {Lq : List Item} (hL : selO L ids [] = some Lq) (hd : KR (distinct ids) true) : Adm (.kp ids) Fs L (fun _ : Unit => Lq) (fun _ => Fs) := ⟨fun w0 Z w a s => ⟨(), by
 have := selO_eq hL
 rw [List.append_nil] at this
 rw [this]
 exact s.keep ids hd.h, a⟩⟩
theorem Adm.nr {α : Type} {T : TypeId} {enc : α -> List Value} {sz : Nat} {Lq : List Item} (hL : snocO L (rowI (.slice none ([] : List α).length 0) T enc sz ([] : List α)) = some Lq) : Adm (.nr T enc sz) Fs L (fun _ : Unit => Lq) (fun _ => Fs) := ⟨fun w0 Z w a s => ⟨(), by
 rw [snocO_eq hL]
 exact s.nilRow α T enc sz, a⟩⟩
end
theorem Parts.app {w : World} {B1 B2 : List Item} {S1 S2 : List Nat} (h1 : Parts w S1 B1) (h2 : Parts w S2 B2) (hd : ∀ b ∈ S1, b ∉ S2) : Parts w (S1 ++ S2) (B1 ++ B2) := by
 refine ⟨fun i x hi => ?_, fun i j a b hij hi hj y hy hyb => ?_⟩
 ·rcases app_get hi with ⟨_, hi⟩ | ⟨_, hi⟩
  ·obtain ⟨p, q, t⟩ := h1.1 _ _ hi; exact ⟨p, q, fun b hb => List.mem_append_left _ (t b hb)⟩
  ·obtain ⟨p, q, t⟩ := h2.1 _ _ hi; exact ⟨p, q, fun b hb => List.mem_append_right _ (t b hb)⟩
 ·rcases app_get hi with ⟨p1, hi⟩ | ⟨p1, hi⟩ <;> rcases app_get hj with ⟨p2, hj⟩ | ⟨p2, hj⟩
  ·exact h1.2 _ _ _ _ hij hi hj y hy hyb
  ·exact hd y ((h1.1 _ _ hi).2.2 y hy) ((h2.1 _ _ hj).2.2 y hyb)
  ·exact hd y ((h1.1 _ _ hj).2.2 y hyb) ((h2.1 _ _ hi).2.2 y hy)
  ·exact h2.2 _ _ _ _ (by omega) hi hj y hy hyb
theorem Parts.single {w : World} {S : List Nat} {it : Item} (h1 : it.Φ w) (h2 : it.S.Nodup) (h3 : it.S = S) : Parts w S [it] := Parts.cons h1 h2 (by rw [h3]; exact fun b hb => hb) (S2 := []) (by simp) Parts.nil (by simp)
structure OpenR {β ι : Type} (ks : List Nat) (q : Nat) (Fs : List Fa) (A : Rp β) (vs : ι -> β -> List Value) (its : ι -> β -> List Item) (fcs : ι -> β -> List Fa) : Prop where
 o : ∀ w0 Z w cs S y, allF w0 Z Fs -> A.own w cs S y -> ∃ i, cs = vs i y /\ Parts w S (its i y) /\ allF w0 Z (fcs i y)
section
variable {β γ : Type} {q : Nat} {Fs : List Fa}
theorem OpenR.pair {ι κ : Type} {k k2 : Nat} {ks : List Nat} {A : Rp β} {B : Rp γ} {vs : ι -> β -> List Value} {its : ι -> β -> List Item} {fcs : ι -> β -> List Fa} {vs2 : κ -> γ -> List Value} {its2 : κ -> γ -> List Item} {fcs2 : κ -> γ -> List Fa}
  (h1 : OpenR [k] q Fs A vs its fcs) (h2 : OpenR (k2 :: ks) q Fs B vs2 its2 fcs2) :
  OpenR (k :: k2 :: ks) q Fs (pairP A B) (fun (i : ι × κ) y => vs i.1 y.1 ++ vs2 i.2 y.2) (fun i y => its i.1 y.1 ++ its2 i.2 y.2) (fun i y => fcs i.1 y.1 ++ fcs2 i.2 y.2) := ⟨by
 rintro w0 Z w cs S y a ⟨c1, c2, S1, S2, rfl, rfl, hd, o1, o2⟩
 obtain ⟨i, rfl, p1, f1⟩ := h1.o w0 Z w _ _ _ a o1
 obtain ⟨j, rfl, p2, f2⟩ := h2.o w0 Z w _ _ _ a o2
 exact ⟨(i, j), rfl, p1.app p2 hd, appF w0 Z f1 f2⟩⟩
theorem owns_form {w : World} {T : TypeId} {sz : Nat} {v : Value} {n : Nat} {cs : List Value} (h : Owns w T sz v n cs) : ∃ a c, v = .slice a n c := by
 rcases h.2 with ⟨hn, a, rfl⟩ | ⟨g, o, cap, cur, rfl, _⟩
 ·exact ⟨a, 0, by rw [hn]⟩
 ·exact ⟨_, _, rfl⟩
theorem OpenR.row {T : TypeId} {enc : β -> List Value} {sz : Nat} {he : ∀ x, (enc x).length = sz} {hp : 0 < sz} :
  OpenR [0] q Fs (rowP T enc sz he hp) (fun (i : Option Addr × Nat) y => [.slice i.1 y.length i.2]) (fun i y => [rowI (.slice i.1 y.length i.2) T enc sz y]) (fun _ _ => []) := ⟨by
 rintro w0 Z w cs S y a ⟨v, rfl, rfl, ho⟩
 obtain ⟨p, c, rfl⟩ := owns_form ho
 exact ⟨(p, c), rfl, Parts.single ho ownB_nodup rfl, trivial⟩⟩
theorem OpenR.nrow {T : TypeId} {R : Rp β} {hp : 0 < R.sz} :
  OpenR [1] q Fs (rowNP T R hp) (fun (i : Option Addr × Nat × List Nat) y => [.slice i.1 y.length i.2.1]) (fun i y => [nI T R (.slice i.1 y.length i.2.1) i.2.2 y none]) (fun _ _ => []) := ⟨by
 rintro w0 Z w cs S y a ⟨v, rfl, css, Ss, ho⟩
 obtain ⟨p, c, rfl⟩ := owns_form ho.row
 exact ⟨(p, c, S), rfl, Parts.single ⟨css, Ss, ho⟩ ho.nd rfl, trivial⟩⟩
theorem OpenR.ptr {U : TypeId} {R : Rp β} :
  OpenR [2] q Fs (ptrP U R) (fun (i : Nat × List Nat) _ => [.pointer (some ⟨i.1, 0, none⟩)]) (fun i y => [itI (ptrP U R) [.pointer (some ⟨i.1, 0, none⟩)] i.2 y]) (fun _ _ => []) := ⟨by
 intro w0 Z w cs S y a ho
 have hn := (ptrP U R).nd w cs S y ho
 obtain ⟨b, cs', S', rfl, rfl, h3⟩ := ho
 exact ⟨(b, b :: S'), rfl, Parts.single ⟨b, cs', S', rfl, rfl, h3⟩ hn rfl, trivial⟩⟩
theorem OpenR.bor {wb : World} {Sb : List Nat} {enc : β -> List Value} {sz : Nat} (hq : nth Fs q = some (.bo wb Sb)) :
  OpenR [3] q Fs (borP wb Sb enc sz) (fun (i : Option Addr × Nat) y => [.slice i.1 y.length i.2]) (fun _ _ => []) (fun i y => [.rb wb Sb (.slice i.1 y.length i.2) enc sz y, .rd (.slice i.1 y.length i.2) enc sz y]) := ⟨by
 rintro w0 Z w cs S y a ⟨v, rfl, rfl, ho⟩
 obtain ⟨_, p, c, rfl⟩ := Rd.len ho
 exact ⟨(p, c), rfl, Parts.nil, ho, ho.bor (allF_nth a hq), trivial⟩⟩
theorem OpenR.any {A : Rp β} (hz : KR A.sz 1) : OpenR [4] q Fs A (fun (i : Value × List Nat) _ => [i.1]) (fun i y => [itI A [i.1] i.2 y]) (fun _ _ => []) := ⟨by
 intro w0 Z w cs S y a ho
 have hl := A.len w cs S y ho
 rw [hz.h] at hl
 match cs, hl with
 | [v], _ => exact ⟨(v, S), rfl, Parts.single ho (A.nd w _ S y ho) rfl, trivial⟩⟩
def swapIx (j n : Nat) : Nat -> Nat -> List Nat -> List Nat
 | 0, _, B => B
 | m + 1, q, B => (match Nat.beq q j with
  | true => n
  | false => q) :: swapIx j n m (q + 1) B
def upto (n : Nat) : Nat -> List Nat
 | 0 => []
 | m + 1 => n :: upto (n + 1) m
theorem Adm.op {α ι : Type} {j b : Nat} {ks : List Nat} {S : List Nat} {L Lq : List Item} {T : TypeId} {ff : α -> List Value -> List Value} {sz : Nat} {hl : ∀ x vs, (ff x vs).length = sz} {g : α -> β} {A : Rp β} {x : α} {vs : ι -> β -> List Value} {its : ι -> β -> List Item} {fcs : ι -> β -> List Fa}
  {L0 L1 : ι -> List Item} {Fs1 : ι -> List Fa}
  (hj : nth L j = some (itI (ptrP T (structP ff sz hl g A)) [.pointer (some ⟨b, 0, none⟩)] S x)) (hO : OpenR ks q Fs A vs its fcs) (hN : setO L j nilI = some Lq) (hA : ∀ i, appO Lq (blkI b T (ff x (vs i (g x))) :: its i (g x)) = some (L0 i))
  (hL : ∀ i, selO (L0 i) (swapIx j L.length L.length 0 (upto (L.length + 1) (its i (g x)).length)) [] = some (L1 i)) (hd : ∀ i, KR (distinct (swapIx j L.length L.length 0 (upto (L.length + 1) (its i (g x)).length))) true) (hF : ∀ i, appO Fs (fcs i (g x)) = some (Fs1 i)) :
  Adm (.op j q ks) Fs L L1 Fs1 := ⟨fun w0 Z w a s => by
 have hj' : L[j]? = some (itI (ptrP T (structP ff sz hl g A)) [.pointer (some ⟨b, 0, none⟩)] S x) := by rw [<- nth_get]; exact hj
 have ho := s.all j _ hj'
 obtain ⟨b', cs', S', h1, rfl, h3, h4, ws, rfl, h5⟩ := ho
 cases h1
 obtain ⟨i, rfl, hp, hf⟩ := hO.o w0 Z w _ _ _ a h5
 refine ⟨i, ?_, by rw [appO_eq (hF i)]; exact appF w0 Z a hf⟩
 have hB : Parts w (b :: S') (blkI b T (ff x (vs i (g x))) :: its i (g x)) := Parts.cons h4 (by simp [blkI]) (by simp [blkI]) (S2 := S') (by simpa [blkI] using h3) hp (fun c hc => List.mem_cons_of_mem _ hc)
 have s2 := s.burst j hj' hB
 rw [<- setO_eq hN, <- appO_eq (hA i)] at s2
 have := selO_eq (hL i)
 rw [List.append_nil] at this
 rw [this]
 exact s2.keep _ (hd i).h⟩
structure ShutR (ks : List Pa) (Fs : List Fa) (L : List Item) (A : Rp β) (js : List Nat) (vs : List Value) (y : β) : Prop where
 o : ∀ w0 Z w, distinct js = true -> allF w0 Z Fs -> St w0 Z w L -> ∃ S, A.own w vs S y /\ S.Nodup /\ ∀ b ∈ S, b ∈ fp (sel L js)
end
section
variable {β γ : Type} {Fs : List Fa} {L : List Item}
theorem sel_app {L : List Item} : ∀ {a b : List Nat}, sel L (a ++ b) = sel L a ++ sel L b
 | [], _ => rfl
 | x :: r, b => by simp [sel, sel_app (a := r)]
theorem dst_right : ∀ {a b : List Nat}, distinct (a ++ b) = true -> distinct b = true
 | [], _, h => h
 | x :: r, b, h => by
  simp only [List.cons_append, distinct] at h
  split at h
  ·cases h
  ·exact dst_right h
theorem fp_cross {w0 w : World} {Z : List Nat} (s : St w0 Z w L) {a b : List Nat} (hd : distinct (a ++ b) = true) : ∀ x ∈ fp (sel L a), x ∉ fp (sel L b) := by
 intro x hx hy
 obtain ⟨p, A, hp, hpx⟩ := mem_fp.1 hx
 obtain ⟨q, B, hq, hqx⟩ := mem_fp.1 hy
 obtain ⟨i, h1, h2⟩ := sel_get hp
 obtain ⟨j, h3, h4⟩ := sel_get hq
 rcases getD_cases h2 with h2 | rfl
 ·rcases getD_cases h4 with h4 | rfl
  ·have hlt : p < a.length := (List.getElem?_eq_some_iff.1 h1).1
   have hne : i ≠ j := distinct_get hd (i := p) (j := a.length + q) (by omega) (by rw [List.getElem?_append_left hlt]; exact h1) (by rw [List.getElem?_append_right (by omega)]; simpa using h3)
   exact s.apart i j A B hne h2 h4 x hpx hqx
  ·cases hqx
 ·cases hpx
theorem fp_app {A B : List Item} {b : Nat} : b ∈ fp (A ++ B) ↔ b ∈ fp A \/ b ∈ fp B := by
 induction A with
 | nil => simp [fp]
 | cons x r ih => simp [fp, ih, or_assoc]
theorem ShutR.pair {k k2 : Pa} {ks : List Pa} {A : Rp β} {B : Rp γ} {j1 j2 : List Nat} {v1 v2 : List Value} {y1 : β} {y2 : γ} (h1 : ShutR [k] Fs L A j1 v1 y1) (h2 : ShutR (k2 :: ks) Fs L B j2 v2 y2) :
  ShutR (k :: k2 :: ks) Fs L (pairP A B) (j1 ++ j2) (v1 ++ v2) (y1, y2) := ⟨fun w0 Z w hd a s => by
 obtain ⟨S1, o1, n1, f1⟩ := h1.o w0 Z w (dst_left hd) a s
 obtain ⟨S2, o2, n2, f2⟩ := h2.o w0 Z w (dst_right hd) a s
 have hx : ∀ b ∈ S1, b ∉ S2 := fun b hb hc => fp_cross s hd b (f1 b hb) (f2 b hc)
 refine ⟨S1 ++ S2, ⟨v1, v2, S1, S2, rfl, rfl, hx, o1, o2⟩, List.nodup_append.2 ⟨n1, n2, fun a ha b hb e => by subst e; exact hx a ha hb⟩, fun b hb => ?_⟩
 rw [sel_app, fp_app]
 rcases List.mem_append.1 hb with hb | hb
 ·exact .inl (f1 b hb)
 ·exact .inr (f2 b hb)⟩
theorem ShutR.item {k : Pa} {A : Rp β} {j : Nat} {it : Item} {v : Value} {y : β} (hj : nth L j = some it) (h : ∀ w, it.Φ w -> A.own w [v] it.S y) : ShutR [k] Fs L A [j] [v] y := ⟨fun w0 Z w hd a s => by
 have hj' : L[j]? = some it := by rw [<- nth_get]; exact hj
 refine ⟨it.S, h w (s.all j it hj'), s.nd j it hj', fun b hb => ?_⟩
 simp only [sel, List.getD_eq_getElem?_getD, hj', Option.getD_some, fp, List.append_nil]
 exact hb⟩
theorem ShutR.row {j sz : Nat} {T : TypeId} {enc : β -> List Value} {he : ∀ x, (enc x).length = sz} {hp : 0 < sz} {v : Value} {xs : List β} (hj : nth L j = some (rowI v T enc sz xs)) : ShutR [.r j] Fs L (rowP T enc sz he hp) [j] [v] xs :=
 ShutR.item hj fun w ho => ⟨v, rfl, rfl, ho⟩
theorem ShutR.nrow {j : Nat} {T : TypeId} {R : Rp β} {hp : 0 < R.sz} {v : Value} {S : List Nat} {xs : List β} (hj : nth L j = some (nI T R v S xs none)) : ShutR [.r j] Fs L (rowNP T R hp) [j] [v] xs :=
 ShutR.item hj fun w ho => ⟨v, rfl, ho⟩
theorem ShutR.it {j : Nat} {A : Rp β} {v : Value} {S : List Nat} {x : β} (hj : nth L j = some (itI A [v] S x)) : ShutR [.r j] Fs L A [j] [v] x :=
 ShutR.item hj fun w ho => ho
theorem ShutR.bor {e sz : Nat} {wb : World} {Sb : List Nat} {enc : β -> List Value} {v : Value} {xs : List β} (hq : nth Fs e = some (.rb wb Sb v enc sz xs)) : ShutR [.f e] Fs L (borP wb Sb enc sz) [] [v] xs := ⟨fun w0 Z w hd a s =>
 ⟨[], ⟨v, rfl, rfl, allF_nth a hq⟩, List.nodup_nil, by simp⟩⟩
theorem ShutR.born {sz : Nat} {wb : World} {Sb : List Nat} {enc : β -> List Value} : ShutR [.n] Fs L (borP wb Sb enc sz) [] [.slice none ([] : List β).length 0] ([] : List β) := ⟨fun w0 Z w hd a s =>
 ⟨[], ⟨_, rfl, rfl, Rd.nil wb Sb enc sz 0⟩, List.nodup_nil, by simp⟩⟩
theorem Adm.sh {α : Type} {j b : Nat} {ks : List Pa} {rest js : List Nat} {R : Rp α} {Lr : List Item} {T : TypeId} {cs vs : List Value} {ff : α -> List Value -> List Value} {sz : Nat} {hl : ∀ x vs, (ff x vs).length = sz} {g : α -> β} {A : Rp β} {x : α} {y : β} {L1 : List Nat -> List Item}
  (hj : nth L j = some (blkI b T cs)) (hR : R = structP ff sz hl g A) (hS : ShutR ks Fs L A js vs y) (hr : selO L rest [] = some Lr) (hL : ∀ S, snocO Lr (itI (ptrP T R) [.pointer (some ⟨b, 0, none⟩)] S x) = some (L1 S))
  (hd : KR (distinct ((j :: js) ++ rest)) true) (hx : KR cs (ff x vs)) (hy : KR (g x) y) : Adm (.sh j ks rest R) Fs L L1 (fun _ => Fs) := ⟨fun w0 Z w a s => by
 have hj' : L[j]? = some (blkI b T cs) := by rw [<- nth_get]; exact hj
 have hd1 : distinct (j :: js) = true := dst_left hd.h
 have hd2 : distinct js = true := dst_right (a := [j]) hd1
 obtain ⟨S, o1, n1, f1⟩ := hS.o w0 Z w hd2 a s
 have hb : ∀ c ∈ S, c ≠ b := fun c hc e => fp_cross s (a := [j]) (b := js) hd1 b (by simp [sel, List.getD_eq_getElem?_getD, hj', fp, blkI]) (f1 b (by rw [<- e]; exact hc))
 refine ⟨b :: S, ?_, a⟩
 have := selO_eq hr
 rw [List.append_nil] at this
 rw [snocO_eq (hL (b :: S)), this]
 refine s.gather (j :: js) rest hd.h (C := itI (ptrP T R) [.pointer (some ⟨b, 0, none⟩)] (b :: S) x) ⟨b, cs, S, rfl, rfl, fun hc => hb b hc rfl, s.all j _ hj', ?_⟩ (List.nodup_cons.2 ⟨fun hc => hb b hc rfl, n1⟩) ?_
 ·subst hR
  exact ⟨vs, hx.h, by rw [hy.h]; exact o1⟩
 ·intro c hc
  simp only [itI] at hc
  rcases List.mem_cons.1 hc with rfl | hc
  ·simp [sel, List.getD_eq_getElem?_getD, hj', fp, blkI]
  ·simp only [sel, fp, List.mem_append]
   exact .inr (f1 c hc)⟩
end
end Go.Sx
set_option linter.unusedVariables false
set_option linter.unusedSimpArgs false
namespace Go.Sx
open Go.RowKit
universe u
def geti (cs : List Value) (k : Nat) : Int := match nth cs k with
 | some (.int _ n) => n
 | _ => 0
def getb (cs : List Value) (k : Nat) : Bool := match nth cs k with
 | some (.bool b) => b
 | _ => false
section
variable {ρ : Type} {h : LH} {hs hs' : List H} {f : Option ρ} {r : ρ} {Fs Fs' : List Fa} {L L' : List Item} {fr : Fr} {P : Program} {B : Func} {N : Nat} {w0 : World} {Z : List Nat} {c x y : Code} {Q : Exit -> Act -> World -> Prop} {l : List Oper} {i : Nat} {e : Exit} {v : Value}
theorem GO.sr {α : Type} {j q k m g o sz : Nat} {dec : List Value -> α} {T : TypeId} {v' : Value} {enc : α -> List Value} {xs xs' : List α} {t : Int} {x : α} {us cs' : List Value} {L1 : List Item} (he : nth L j = some (rowI v' T enc sz xs')) (hq : nth Fs q = some (.el v' g o t xs x)) (hxx : KR xs' xs)
  (hz : ∀ x, KR (enc x).length sz) (hv : cellO (stV l fr i) 0 m = some us) (hs' : spliceO (enc x) us k = some cs') (hw : KR (cellsE (stV l fr i)) (some us)) (hc : KR (stC P l fr i m) (some ⟨g, o + t.toNat * sz + k, none⟩))
  (hm : KR us.length m) (h1 : KR (ones us) true) (h0 : KR (posL us) true) (hd : KR (enc (dec cs')) cs') (hL : setO L j (rowI v' T enc sz (xs'.set t.toNat (dec cs'))) = some L1) (n : GO hs f r Fs L1 fr P B N w0 Z l (i + 1) Q) : GO (.sr j q k m dec :: hs) f r Fs L fr P B N w0 Z l i Q := ⟨fun w a s e => by
 have hc := hc.h
 obtain ⟨u, hu, hcs⟩ := cellsE_eq hw.h
 obtain ⟨hx1, cp, hx2⟩ := allF_nth a hq
 have hxx := hxx.h
 subst hxx
 unfold stC at hc
 unfold stV at hu
 split at hc
 ·rename_i t' x' y' ty pos af g' hl
  rw [hl] at hu
  simp only at hu
  split at hc
  ·rename_i a' m' hg hx hzz
   split at hc
   ·rename_i hb
    have e1 := Nat.eq_of_beq_eq_true hb
    have e2 := hm.h
    cases hc
    obtain ⟨e3, e4⟩ := spliceO_eq hs' (by intro e5; have := h0.h; rw [e5] at this; cases this)
    refine OW.stR s j (by rw [<- nth_get]; exact he) hx2 (fun x => (hz x).h) hl hg hx1 k hx rfl hu (by rw [hcs, hzz, e1, e2]) (by rw [hcs]; exact h1.h) (by rw [hcs]; exact Nat.ble_eq_true_of_le (by rw [<- (hz x).h]; exact e4)) (dec cs') (by rw [hcs, hd.h]; exact e3) fun w' s' => ?_
    exact n.o w' a (by rw [setO_eq hL]; exact s') e
   ·cases hc
  ·cases hc
 ·cases hc⟩
def rwP (l : List Oper) (i : Nat) : List (Nat × Operand) := match opAt l i with
 | some ⟨_, .buildSlice _ _ ⟨ps⟩, _, _, _, _⟩ => ps
 | _ => []
def rwT (l : List Oper) (i : Nat) : TypeId := match opAt l i with
 | some ⟨_, .buildSlice t _ _, _, _, _, _⟩ => t
 | _ => 0
def rwC (l : List Oper) (N : Nat) (fr : Fr) (i : Nat) : Option Nat := match okO l N fr i with
 | some ⟨_, .buildSlice _ n ⟨_⟩, _, _, _, _⟩ => some n
 | _ => none
def atK (fr : Fr) (k : Nat) : List (Nat × Operand) -> Option Value
 | [] => none
 | p :: r => match Nat.beq p.1 k with
  | true => look fr p.2
  | false => atK fr k r
def rwX {α : Type} (fr : Fr) (ps : List (Nat × Operand)) (dec : List Value -> α) : Nat -> Nat -> Option (List α)
 | _, 0 => some []
 | k, n + 1 => match rwX fr ps dec (k + 1) n with
  | some q => some (dec ((cellsE (atK fr k ps)).getD []) :: q)
  | none => none
theorem GO.rw {α : Type} {m sz : Nat} {T : TypeId} {enc : α -> List Value} {dec : List Value -> α} {xs : List α} {L1 : Nat -> List Item} (hx : rwX fr (rwP l i) dec 0 m = some xs) (hc : KR (rwC l N fr i) (some m)) (hm : KR xs.length m) (hb : KR (Nat.ble m 9223372036854775807) true) (hz : ∀ x, KR (enc x).length sz)
  (hs : KR (seen fr ((rwP l i).map (·.2))) true) (hr : ∀ w, KR ((Instr.buildSlice (rwT l i) m ((rwP l i).toArray.map fun (i, x) => (i, rho fr x))).run P w) (.ok (.slice (some ⟨w.heap.size, 0, none⟩) m m) (w.alloc (.cells (flat enc xs).toArray T))))
  (hL : ∀ g, snocO L (rowI (.slice (some ⟨g, 0, none⟩) m m) T enc sz xs) = some (L1 g)) (n : ∀ g, GO hs' f r Fs (L1 g) ((dst l i, .slice (some ⟨g, 0, none⟩) m m) :: fr) P B N w0 Z l (i + 1) Q) : GO (.rw m T enc sz dec :: hs') f r Fs L fr P B N w0 Z l i Q := ⟨fun w a s e => by
 have hc := hc.h
 unfold rwC at hc
 split at hc
 ·rename_i d' t' n' ps _ _ _ _ ho
  cases hc
  obtain ⟨d, hl, hg, hd, hN⟩ := okO_some ho
  simp only at hd
  subst hd
  have e1 : rwP l i = ps := by simp [rwP, hl]
  have e2 : rwT l i = t' := by simp [rwT, hl]
  rw [e1] at hs hr
  rw [e2] at hr
  refine OW.row (ps := ps) s hl hg hN xs hm.h (fun x => (hz x).h) hb.h hs.h (fun w => (hr w).h) fun g w' s' => ?_
  have h1 := (n g).o w' a (by rw [snocO_eq (hL g)]; exact s') e
  rw [dst_eq hl rfl] at h1
  exact h1
 ·cases hc⟩
def elB (P : Program) (e sz : Nat) : Option Nat := match psem P (sizeOf e), P.info? e with
 | some s, some i => match Nat.beq s sz, i.zero.map (·.cells.size), Nat.beq i.size sz, Nat.blt 0 sz, Nat.blt 0 i.bytes with
  | true, some z, true, true, true => match Nat.beq z sz with
   | true => some i.bytes
   | false => none
  | _, _, _, _, _ => none
 | _, _ => none
theorem elB_elem {e sz bytes : Nat} (h : elB P e sz = some bytes) : Elem P e sz bytes := by
 unfold elB at h
 split at h
 ·rename_i s i h1 h2
  split at h
  ·rename_i z g1 g2 g3 g4 g5
   split at h
   ·rename_i g6
    cases h
    have e1 := Nat.eq_of_beq_eq_true g1
    have e3 := Nat.eq_of_beq_eq_true g3
    have e6 := Nat.eq_of_beq_eq_true g6
    subst e1 e6
    exact Elem.of h1 h2 g2 e3 rfl (by simpa [Nat.blt_eq] using g4) (by simpa [Nat.blt_eq] using g5)
   ·cases h
  ·cases h
 ·cases h
structure SrcR {α : Type} (sr : Src) (Fs : List Fa) (L : List Item) (enc : α -> List Value) (sz : Nat) (v : Value) (ys : List α) : Prop where
 o : ∀ w0 Z w, allF w0 Z Fs -> St w0 Z w L -> ∃ S, Rd w S v enc sz ys
theorem SrcR.sf {α : Type} {e sz : Nat} {enc : α -> List Value} {v' : Value} {ys : List α} (he : nth Fs e = some (.rd v' enc sz ys)) : SrcR (.f e) Fs L enc sz v' ys := ⟨fun w0 Z w a s => ⟨Z, Rd.on (allF_nth a he) s⟩⟩
theorem SrcR.so {α : Type} {j sz : Nat} {T : TypeId} {enc : α -> List Value} {v' : Value} {ys : List α} (hj : nth L j = some (rowI v' T enc sz ys)) (hz : ∀ x, KR (enc x).length sz) : SrcR (.o j) Fs L enc sz v' ys := ⟨fun w0 Z w a s => by
 have hj' : L[j]? = some (rowI v' T enc sz ys) := by rw [<- nth_get]; exact hj
 exact ⟨_, s.rd j hj' (fun x => (hz x).h) [] rfl (s.len j hj').1⟩⟩
theorem SrcR.sn {α : Type} {sz : Nat} {enc : α -> List Value} : SrcR .n Fs L enc sz (.slice none 0 0) ([] : List α) := ⟨fun w0 Z w a s => ⟨[], Rd.nil _ _ enc sz 0⟩⟩
def apC (P : Program) (l : List Oper) (N : Nat) (fr : Fr) (i : Nat) : Option (Value × Value × TypeId) := match okO l N fr i with
 | some ⟨_, .call ⟨.builtin .append, ⟨[x, y]⟩, ⟨[t, t']⟩⟩, _, _, _, _⟩ => match Nat.beq t t', look fr x, look fr y, P.underlying t with
  | true, some u, some v, some (.slice e) => some (u, v, e)
  | _, _, _, _ => none
 | _ => none
theorem GO.ap {α : Type} {j sz bytes : Nat} {sr : Src} {T : TypeId} {enc : α -> List Value} {v1 v2 : Value} {xs xs' ys ys' : List α} {q : Nat} {u : Unit} {L1 : Option Addr -> Nat -> List Item} (hq : nth Fs q = some (.oe (room (xs.length + ys.length) bytes) u)) (hj : nth L j = some (rowI v1 T enc sz xs')) (hxx : KR xs' xs) (hS : SrcR sr Fs L enc sz v2 ys') (hyy : KR ys' ys)
  (hz : ∀ x, KR (enc x).length sz) (ho : ∀ x, KR (ones (enc x)) true) (hc : KR (apC P l N fr i) (some (v1, v2, T))) (hel : KR (elB P T sz) (some bytes)) (hL : ∀ a c, setO L j (rowI (.slice a (xs ++ ys).length c) T enc sz (xs ++ ys)) = some (L1 a c))
  (n : ∀ a c, GO hs f r Fs (L1 a c) ((dst l i, .slice a (xs ++ ys).length c) :: fr) P B N w0 Z l (i + 1) Q) : GO (.ap q j sr :: hs) f r Fs L fr P B N w0 Z l i Q := ⟨fun w a s hk => by
 have hu : room (xs.length + ys.length) bytes = some u := allF_nth a hq
 have hxx := hxx.h
 have hyy := hyy.h
 subst hxx hyy
 obtain ⟨S, hr⟩ := hS.o w0 Z w a s
 have hc := hc.h
 unfold apC at hc
 split at hc
 ·rename_i d' x' y' t t' _ _ _ _ hok
  split at hc
  ·rename_i u' v' e' hb hx hy ht
   cases hc
   have hb := Nat.eq_of_beq_eq_true hb
   subst hb
   obtain ⟨d, hl, hg, hd, hN⟩ := okO_some hok
   simp only at hd
   subst hd
   refine OW.app s j (by rw [<- nth_get]; exact hj) (fun x => (hz x).h) (fun x => (ho x).h) hl rfl hg hN hx hy ht (elB_elem hel.h) hr (room_le hu) fun v' w' s' => ?_
   have hget : (L.set j (rowI v' T enc sz (xs' ++ ys')))[j]? = some (rowI v' T enc sz (xs' ++ ys')) := by
    have hlt : j < L.length := (List.getElem?_eq_some_iff.1 (by rw [<- nth_get]; exact hj)).1
    simp [hlt]
   obtain ⟨_, pa, pc, rfl⟩ := s'.len j hget
   have h1 := (n pa pc).o w' a (by rw [setO_eq (hL pa pc)]; exact s') hk
   rw [dst_eq hl rfl] at h1
   exact h1
  ·cases hc
 ·cases hc⟩
def mkC (P : Program) (l : List Oper) (N : Nat) (fr : Fr) (i : Nat) : Option (Int × Int) := match okO l N fr i with
 | some ⟨_, .makeSlice _ x y, _, _, _, _⟩ => match look fr x, look fr y with
  | some (.int _ a), some (.int _ b) => some (a, b)
  | _, _ => none
 | _ => none
def mkT (P : Program) (l : List Oper) (i : Nat) : TypeId := match opAt l i with
 | some ⟨_, .makeSlice t _ _, _, _, _, _⟩ => match P.underlying t with
  | some (.slice e) => e
  | _ => 0
 | _ => 0
def isSl (P : Program) (l : List Oper) (i : Nat) : Bool := match opAt l i with
 | some ⟨_, .makeSlice t _ _, _, _, _, _⟩ => match P.underlying t with
  | some (.slice _) => true
  | _ => false
 | _ => false
theorem GO.mkS {α : Type} {sz bytes : Nat} {enc : α -> List Value} {z : α} {nn : Int} {q m : Nat} {L1 : Nat -> List Item} (hq : nth Fs q = some (.oe (mkLen nn bytes) m)) (hz : ∀ x, KR (enc x).length sz) (hc : KR (mkC P l N fr i) (some (nn, nn))) (ht : KR (isSl P l i) true) (hel : KR (elB P (mkT P l i) sz) (some bytes)) (h0 : KR ((psem P (zeroValue (mkT P l i))).map (·.cells.toList)) (some (enc z)))
  (hL : ∀ g, snocO L (rowI (.slice (some ⟨g, 0, none⟩) m m) (mkT P l i) enc sz (List.replicate m z)) = some (L1 g))
  (n : ∀ g, GO hs f r Fs (L1 g) ((dst l i, .slice (some ⟨g, 0, none⟩) m m) :: fr) P B N w0 Z l (i + 1) Q) : GO (.mk q enc sz bytes z :: hs) f r Fs L fr P B N w0 Z l i Q := ⟨fun w a s hk => by
 have hm : mkLen nn bytes = some m := allF_nth a hq
 have hc := hc.h
 unfold mkC at hc
 split at hc
 ·rename_i d' t x' y' _ _ _ _ hok
  split at hc
  ·rename_i k1 a1 k2 b1 hx hy
   simp only [Option.some.injEq, Prod.mk.injEq] at hc
   obtain ⟨rfl, rfl⟩ := hc
   obtain ⟨d, hl, hg, hd, hN⟩ := okO_some hok
   simp only at hd
   subst hd
   have ht := ht.h
   unfold isSl at ht
   rw [hl] at ht
   simp only at ht
   split at ht
   ·rename_i e' hu
    have e2 : mkT P l i = e' := by simp [mkT, hl, hu]
    rw [e2] at hel h0 hL
    refine OW.make s hl hg hN hx hy hu (elB_elem hel.h) z h0.h (fun x => (hz x).h) hm fun g w' s' => ?_
    have h1 := (n g).o w' a (by rw [snocO_eq (hL g)]; exact s') hk
    rw [dst_eq hl rfl] at h1
    exact h1
   ·cases ht
  ·cases hc
 ·cases hc⟩
end
end Go.Sx
set_option linter.unusedVariables false
set_option linter.unusedSimpArgs false
namespace Go.Sx
open Go.RowKit
abbrev SpS := List (Nat × Value × List (Nat × Bool))
def sget : SpS -> Nat -> Option (Value × List (Nat × Bool))
 | [], _ => none
 | p :: r, n => match Nat.beq p.1 n with
  | true => some p.2
  | false => sget r n
def slk (S : SpS) (fr : Fr) : Operand -> Option (Value × List (Nat × Bool))
 | .tmp t => match sget S t with
  | some e => some e
  | none => match fget fr t with
   | some v => some (v, [])
   | none => none
 | .const v => some (v, [])
 | .global g => some (.pointer (some ⟨g, 0, none⟩), [])
 | .func f => some (.func (.func f) #[] #[], [])
def litIn (p : Nat × Bool) : List (Nat × Bool) -> Bool
 | [] => false
 | q :: r => match Nat.beq q.1 p.1, q.2 == p.2 with
  | true, true => true
  | _, _ => litIn p r
def litSub : List (Nat × Bool) -> List (Nat × Bool) -> Bool
 | [], _ => true
 | p :: r, B => match litIn p B with
  | true => litSub r B
  | false => false
theorem litIn_mem {p : Nat × Bool} : ∀ {B : List (Nat × Bool)}, litIn p B = true -> p ∈ B
 | [], h => by cases h
 | q :: r, h => by
  unfold litIn at h
  split at h
  ·rename_i h1 h2
   have e1 := Nat.eq_of_beq_eq_true h1
   have e2 := eq_of_beq h2
   have : q = p := Prod.ext e1 e2
   rw [this]; exact List.mem_cons_self
  ·exact List.mem_cons_of_mem _ (litIn_mem h)
theorem litSub_mem : ∀ {A B : List (Nat × Bool)}, litSub A B = true -> ∀ p ∈ A, p ∈ B
 | [], _, _, p, hp => by cases hp
 | q :: r, B, h, p, hp => by
  unfold litSub at h
  split at h
  ·rename_i h1
   rcases List.mem_cons.1 hp with rfl | hp
   ·exact litIn_mem h1
   ·exact litSub_mem h p hp
  ·cases h
def sLits (l : List Oper) (S : SpS) (o : Oper) : Option (List (Nat × Bool)) := match o.guard with
 | none => some []
 | some (j, b) => match (opAt l j).bind (·.dst) with
  | some d => match sget S d with
   | some (.bool _, ls) => some ((d, b) :: ls)
   | _ => none
  | none => none
def rhoS (S : SpS) (fr : Fr) (x : Operand) : Value := match slk S fr x with
 | some e => e.1
 | none => undef
def opsOK (S : SpS) (fr : Fr) (Ls : List (Nat × Bool)) : List Operand -> Bool
 | [] => true
 | x :: r => match slk S fr x with
  | some e => match litSub e.2 Ls with
   | true => opsOK S fr Ls r
   | false => false
  | none => false
def nfind {α : Type} : List (Nat × α) -> Nat -> Option α
 | [], _ => none
 | p :: r, n => match Nat.beq p.1 n with
  | true => some p.2
  | false => nfind r n
def sVal (P : Program) (lv : List (Nat × Pn)) (pk : List (Nat × Bool)) (i : Nat) (S : SpS) (fr : Fr) (Ls : List (Nat × Bool)) (o : Oper) : Option (Value × List (Value × Value)) := match o.op with
 | .pick (.tmp c) x y => match nfind pk i with
  | some true => match slk S fr (.tmp c), slk S fr x, slk S fr y with
   | some (.bool g, lc), some (.bool true, la), some (.bool b, lb) => match litSub lc Ls, litSub la ((c, true) :: Ls), litSub lb ((c, false) :: Ls) with
    | true, true, true => some (.bool (g || b), [])
    | _, _, _ => none
   | _, _, _ => none
  | some false => match slk S fr (.tmp c), slk S fr x, slk S fr y with
   | some (.bool g, lc), some (.bool a, la), some (.bool false, lb) => match litSub lc Ls, litSub la ((c, true) :: Ls), litSub lb ((c, false) :: Ls) with
    | true, true, true => some (.bool (g && a), [])
    | _, _, _ => none
   | _, _, _ => none
  | none => none
 | .load t x => match nfind lv i, slk S fr x with
  | some (.c a v), some (p, la) => match litSub la Ls, psem P (isAgg t) with
   | true, some false => some (v, [(p, .pointer (some a))])
   | _, _ => none
  | some (.n b k cs), some (p, la) => match litSub la Ls, psem P (isAgg t), psem P (sizeOf t) with
   | true, some true, some m => match Nat.beq m cs.length with
    | true => some (.agg cs.toArray, [(p, .pointer (some ⟨b, k, none⟩))])
    | false => none
   | _, _, _ => none
  | _, _ => none
 | _ => match noSelect o.op, opsOK S fr Ls o.op.operands.toList with
  | true, true => match psem P (execOp (rhoS S fr) o) with
   | some (.value v) => some (v, [])
   | _ => none
  | _, _ => none
def spRun (P : Program) (l : List Oper) (N : Nat) (lv : List (Nat × Pn)) (pk : List (Nat × Bool)) (fr : Fr) : Nat -> Nat -> SpS -> List (Value × Value) -> Option (SpS × List (Value × Value))
 | 0, _, S, E => some (S, E)
 | n + 1, i, S, E => match opAt l i with
  | none => none
  | some o => match o.dst, sLits l S o with
   | some d, some Ls => match Nat.blt d N, sget S d with
    | true, none => match sVal P lv pk i S fr Ls o with
     | some (v, e) => spRun P l N lv pk fr n (i + 1) ((d, v, Ls) :: S) (e ++ E)
     | none => none
    | _, _ => none
   | _, _ => none
def Hd (S : SpS) (Ls : List (Nat × Bool)) : Prop := ∀ p ∈ Ls, ∃ ls, sget S p.1 = some (.bool p.2, ls)
structure SpI (N : Nat) (S : SpS) (fr : Fr) (a : Act) : Prop where
 size : a.tmps.size = N
 defers : a.defers = []
 on : ∀ t v Ls, sget S t = some (v, Ls) -> (Hd S Ls -> a.tmps[t]? = some v) /\ (¬ Hd S Ls -> a.tmps[t]? = some undef)
 off : ∀ t v, sget S t = none -> fget fr t = some v -> a.tmps[t]? = some v
 closed : ∀ t v Ls, sget S t = some (v, Ls) -> ∀ p ∈ Ls, ∃ u, sget S p.1 = some u
theorem Hd.sub {S : SpS} {A B : List (Nat × Bool)} (h : Hd S B) (hs : litSub A B = true) : Hd S A := fun p hp => h p (litSub_mem hs p hp)
section
variable {P : Program} {l : List Oper} {N : Nat} {lv : List (Nat × Pn)} {pk : List (Nat × Bool)} {fr : Fr} {S : SpS} {Ls : List (Nat × Bool)} {a : Act} {o : Oper} {i : Nat} {w : World}
theorem SpI.lk (h : SpI N S fr a) {x : Operand} {v : Value} {la : List (Nat × Bool)} (hx : slk S fr x = some (v, la)) (hl : Hd S la) : a.eval x = v := by
 cases x with
 | tmp t =>
  simp only [slk] at hx
  have : a.tmps[t]? = some v := by
   split at hx
   ·rename_i e he
    cases hx
    exact (h.on t v la he).1 hl
   ·rename_i he
    split at hx
    ·rename_i u hu; cases hx; exact h.off t v he hu
    ·cases hx
  simp [Act.eval, Array.getD_eq_getD_getElem?, this]
 | const u => simp only [slk] at hx; cases hx; rfl
 | global g => simp only [slk] at hx; cases hx; rfl
 | func f => simp only [slk] at hx; cases hx; rfl
theorem opsOK_mem : ∀ {xs : List Operand}, opsOK S fr Ls xs = true -> ∀ x ∈ xs, ∃ e, slk S fr x = some e /\ litSub e.2 Ls = true
 | [], _, x, hx => by cases hx
 | y :: r, h, x, hx => by
  unfold opsOK at h
  split at h
  ·rename_i e he
   split at h
   ·rename_i hs
    rcases List.mem_cons.1 hx with rfl | hx
    ·exact ⟨e, he, hs⟩
    ·exact opsOK_mem h x hx
   ·cases h
  ·cases h
theorem SpI.want (h : SpI N S fr a) (hg : sLits l S o = some Ls) : (Hd S Ls -> Region.wanted o (yielded l.toArray a.tmps) = true) /\ (¬ Hd S Ls -> Region.wanted o (yielded l.toArray a.tmps) = false) := by
 unfold sLits at hg
 unfold Region.wanted
 split at hg
 ·rename_i hn
  cases hg
  rw [hn]
  exact ⟨fun _ => rfl, fun k => absurd (fun p hp => by cases hp) k⟩
 ·rename_i j b hn
  rw [hn]
  split at hg
  ·rename_i d hd
   split at hg
   ·rename_i g ls hs
    cases hg
    have hon := h.on d _ _ hs
    constructor
    ·intro k
     have k2 : Hd S ls := fun p hp => k p (List.mem_cons_of_mem _ hp)
     obtain ⟨ls', h1⟩ := k (d, b) List.mem_cons_self
     rw [hs] at h1
     cases h1
     simp only [yielded, opAt_arr, hd, Option.bind_some, hon.1 k2]
     cases b <;> rfl
    ·intro k
     by_cases k2 : Hd S ls
     ·have hgb : g ≠ b := fun e => k (fun p hp => by
       rcases List.mem_cons.1 hp with rfl | hp
       ·exact ⟨ls, by rw [hs, e]⟩
       ·exact k2 p hp)
      simp only [yielded, opAt_arr, hd, Option.bind_some, hon.1 k2]
      cases g <;> cases b <;> first | rfl | exact absurd rfl hgb
     ·simp only [yielded, opAt_arr, hd, Option.bind_some, hon.2 k2]
      cases b <;> rfl
   ·cases hg
  ·cases hg
theorem SpI.val (h : SpI N S fr a) {v : Value} {E : List (Value × Value)} (hv : sVal P lv pk i S fr Ls o = some (v, E)) (hE : ∀ p ∈ E, p.1 = p.2) (hl : ∀ i e, nfind lv i = some e -> e.Φ w) (hk : Hd S Ls) : (execOp a.eval o).run P w = .ok (.value v) w := by
 unfold sVal at hv
 split at hv
 ·rename_i c x y ho
  split at hv
  split at hv
  ·rename_i g lc la b lb h1 h2 h3
   split at hv
   ·rename_i s1 s2 s3
    cases hv
    have e1 := h.lk h1 (hk.sub s1)
    simp only [execOp, ho, e1, asBool]
    cases g with
    | true =>
     have hc : Hd S ((c, true) :: Ls) \/ Hd S la := .inr (fun p hp => by
      rcases List.mem_cons.1 (litSub_mem s2 p hp) with rfl | hp2
      ·cases hsc : sget S c with
       | none =>
        exfalso
        cases x with
        | tmp t =>
         simp only [slk] at h2
         split at h2
         ·rename_i e he; cases h2; obtain ⟨u, hu⟩ := h.closed t _ _ he _ hp; rw [hsc] at hu; cases hu
         ·split at h2 <;> cases h2; cases hp
        | const u => simp only [slk] at h2; cases h2; cases hp
        | global g => simp only [slk] at h2; cases h2
        | func f => simp only [slk] at h2; cases h2
       | some u =>
        simp only [slk, hsc] at h1
        cases h1
        exact ⟨_, rfl⟩
      ·exact hk p hp2)
     have e2 := h.lk h2 (hc.elim (fun k => k.sub s2) id)
     simp [e2]
    | false =>
     have e3 := h.lk h3 (fun p hp => by
      rcases List.mem_cons.1 (litSub_mem s3 p hp) with rfl | hp2
      ·cases hsc : sget S c with
       | none =>
        exfalso
        cases y with
        | tmp t =>
         simp only [slk] at h3
         split at h3
         ·rename_i e he; cases h3; obtain ⟨u, hu⟩ := h.closed t _ _ he _ hp; rw [hsc] at hu; cases hu
         ·split at h3 <;> cases h3; cases hp
        | const u => simp only [slk] at h3; cases h3; cases hp
        | global g => simp only [slk] at h3; cases h3
        | func f => simp only [slk] at h3; cases h3
       | some u =>
        simp only [slk, hsc] at h1
        cases h1
        exact ⟨_, rfl⟩
      ·exact hk p hp2)
     simp [e3]
   ·cases hv
  ·cases hv
  split at hv
  ·rename_i g lc a' la lb h1 h2 h3
   split at hv
   ·rename_i s1 s2 s3
    cases hv
    have e1 := h.lk h1 (hk.sub s1)
    simp only [execOp, ho, e1, asBool]
    cases g with
    | true =>
     have e2 := h.lk h2 (fun p hp => by
      rcases List.mem_cons.1 (litSub_mem s2 p hp) with rfl | hp2
      ·cases hsc : sget S c with
       | none =>
        exfalso
        cases x with
        | tmp t =>
         simp only [slk] at h2
         split at h2
         ·rename_i e he; cases h2; obtain ⟨u, hu⟩ := h.closed t _ _ he _ hp; rw [hsc] at hu; cases hu
         ·split at h2 <;> cases h2; cases hp
        | const u => simp only [slk] at h2; cases h2; cases hp
        | global g => simp only [slk] at h2; cases h2
        | func f => simp only [slk] at h2; cases h2
       | some u =>
        simp only [slk, hsc] at h1
        cases h1
        exact ⟨_, rfl⟩
      ·exact hk p hp2)
     simp [e2]
    | false =>
     have e3 := h.lk h3 (fun p hp => by
      rcases List.mem_cons.1 (litSub_mem s3 p hp) with rfl | hp2
      ·cases hsc : sget S c with
       | none =>
        exfalso
        cases y with
        | tmp t =>
         simp only [slk] at h3
         split at h3
         ·rename_i e he; cases h3; obtain ⟨u, hu⟩ := h.closed t _ _ he _ hp; rw [hsc] at hu; cases hu
         ·split at h3 <;> cases h3; cases hp
        | const u => simp only [slk] at h3; cases h3; cases hp
        | global g => simp only [slk] at h3; cases h3
        | func f => simp only [slk] at h3; cases h3
       | some u =>
        simp only [slk, hsc] at h1
        cases h1
        exact ⟨_, rfl⟩
      ·exact hk p hp2)
     simp [e3]
   ·cases hv
  ·cases hv
  cases hv
 ·rename_i t x ho
  split at hv
  ·rename_i ad u p la h1 h2
   split at hv
   ·rename_i s1 hA
    cases hv
    have e1 := h.lk h2 (hk.sub s1)
    have e2 := hE _ List.mem_cons_self
    simp only at e2
    have h3 := run_load1 (P := P) (w := w) hA (hl i _ h1)
    simp only [execOp, ho]
    rw [e1, e2]
    simp [h3]
   ·cases hv
  ·rename_i b k cs p la h1 h2
   split at hv
   ·rename_i m s1 hA hz
    split at hv
    ·rename_i hm
     cases hv
     have hm := Nat.eq_of_beq_eq_true hm
     subst hm
     have e1 := h.lk h2 (hk.sub s1)
     have e2 := hE _ List.mem_cons_self
     simp only at e2
     have h3 := run_loadN (P := P) (w := w) hA hz (hl i _ h1)
     simp only [execOp, ho]
     rw [e1, e2]
     simp [h3]
    ·cases hv
   ·cases hv
  ·cases hv
 ·split at hv
  ·rename_i hs ho
   split at hv
   ·rename_i u hu
    cases hv
    rw [execOp_congr (ρ' := rhoS S fr) hs (fun x hx => ?_)]
    ·exact psem_run hu w
    ·obtain ⟨e, he, hs2⟩ := opsOK_mem ho x hx
     rw [h.lk (v := e.1) (la := e.2) he (hk.sub hs2)]
     simp [rhoS, he]
   ·cases hv
  ·cases hv
theorem sget_cons {d t : Nat} {e : Value × List (Nat × Bool)} : sget ((d, e) :: S) t = if d = t then some e else sget S t := by
 simp only [sget]
 cases h : Nat.beq d t with
 | true => rw [if_pos (Nat.eq_of_beq_eq_true h)]
 | false => rw [if_neg (Nat.ne_of_beq_eq_false h)]
theorem SpI.put (h : SpI N S fr a) {d : Nat} {v u : Value} (hd : Nat.blt d N = true) (hn : sget S d = none) (hg : sLits l S o = some Ls) (h1 : Hd S Ls -> u = v) (h2 : ¬ Hd S Ls -> u = undef) : SpI N ((d, v, Ls) :: S) fr (a.put (some d) u) := by
 have hd' : d < N := by simpa [Nat.blt_eq] using hd
 have hcl : ∀ p ∈ Ls, ∃ z, sget S p.1 = some z := by
  unfold sLits at hg
  split at hg
  ·cases hg; intro p hp; cases hp
  ·split at hg
   ·split at hg
    ·rename_i d' _ g ls hs
     cases hg
     intro p hp
     rcases List.mem_cons.1 hp with rfl | hp
     ·exact ⟨_, hs⟩
     ·exact h.closed _ _ _ hs p hp
    ·cases hg
   ·cases hg
 have hH : ∀ Ls', (∀ p ∈ Ls', ∃ z, sget S p.1 = some z) -> (Hd ((d, v, Ls) :: S) Ls' ↔ Hd S Ls') := by
  intro Ls' hc
  have : ∀ p ∈ Ls', sget ((d, v, Ls) :: S) p.1 = sget S p.1 := by
   intro p hp
   rw [sget_cons, if_neg]
   rintro rfl
   obtain ⟨z, hz⟩ := hc p hp
   rw [hn] at hz; cases hz
  exact ⟨fun k p hp => by rw [<- this p hp]; exact k p hp, fun k p hp => by rw [this p hp]; exact k p hp⟩
 refine ⟨by simp [Act.put, h.size], by simp [Act.put, h.defers], fun t v' Ls' ht => ?_, fun t v' ht hf => ?_, fun t v' Ls' ht p hp => ?_⟩
 ·rw [sget_cons] at ht
  by_cases e : d = t
  ·subst e
   rw [if_pos rfl] at ht
   cases ht
   have hx : (a.put (some d) u).tmps[d]? = some u := by simp [Act.put, h.size, hd']
   rw [hx]
   exact ⟨fun k => by rw [h1 ((hH Ls hcl).1 k)], fun k => by rw [h2 (fun q => k ((hH Ls hcl).2 q))]⟩
  ·rw [if_neg e] at ht
   have hx : (a.put (some d) u).tmps[t]? = a.tmps[t]? := by simp only [Act.put]; exact Array.getElem?_setIfInBounds_ne e
   rw [hx]
   have hc := h.closed t v' Ls' ht
   exact ⟨fun k => (h.on t v' Ls' ht).1 ((hH Ls' hc).1 k), fun k => (h.on t v' Ls' ht).2 (fun q => k ((hH Ls' hc).2 q))⟩
 ·rw [sget_cons] at ht
  by_cases e : d = t
  ·rw [if_pos e] at ht; cases ht
  ·rw [if_neg e] at ht
   have hx : (a.put (some d) u).tmps[t]? = a.tmps[t]? := by simp only [Act.put]; exact Array.getElem?_setIfInBounds_ne e
   rw [hx]; exact h.off t v' ht hf
 ·have hex : ∃ z, sget S p.1 = some z := by
   rw [sget_cons] at ht
   by_cases e : d = t
   ·rw [if_pos e] at ht; cases ht; exact hcl p hp
   ·rw [if_neg e] at ht; exact h.closed t v' Ls' ht p hp
  obtain ⟨z, hz⟩ := hex
  refine ⟨z, ?_⟩
  rw [sget_cons, if_neg]
  ·exact hz
  ·rintro rfl; rw [hn] at hz; cases hz
theorem sp_go (G : Nat -> Act -> Prop) (hl : ∀ i e, nfind lv i = some e -> e.Φ w)
  (step : ∀ i a o, opAt l i = some o -> (Region.wanted o (yielded l.toArray a.tmps) = true -> ∀ v d, o.dst = some d -> (execOp a.eval o).run P w = .ok (.value v) w -> G (i + 1) (a.put (some d) v) -> G i a) /\
   (Region.wanted o (yielded l.toArray a.tmps) = false -> ∀ d, o.dst = some d -> G (i + 1) (a.put (some d) undef) -> G i a)) :
  ∀ (n i : Nat) (S : SpS) (E : List (Value × Value)) {S2 : SpS} {E2 : List (Value × Value)} {a : Act}, spRun P l N lv pk fr n i S E = some (S2, E2) -> (∀ p ∈ E2, p.1 = p.2) -> SpI N S fr a -> (∀ a', SpI N S2 fr a' -> G (i + n) a') -> G i a := by
 have hmono : ∀ (n i : Nat) (S : SpS) (E : List (Value × Value)) {S2 : SpS} {E2 : List (Value × Value)}, spRun P l N lv pk fr n i S E = some (S2, E2) -> ∀ p ∈ E, p ∈ E2 := by
  intro n
  induction n with
  | zero => intro i S E S2 E2 h p hp; simp only [spRun, Option.some.injEq, Prod.mk.injEq] at h; rw [<- h.2]; exact hp
  | succ n ih =>
   intro i S E S2 E2 h p hp
   unfold spRun at h
   split at h
   ·cases h
   ·split at h
    ·split at h
     ·split at h
      ·exact ih _ _ _ h p (List.mem_append_right _ hp)
      ·cases h
     ·cases h
    ·cases h
 intro n
 induction n with
 | zero => intro i S E S2 E2 a h _ hI k; simp only [spRun, Option.some.injEq, Prod.mk.injEq] at h; exact k a (by rw [<- h.1]; exact hI)
 | succ n ih =>
  intro i S E S2 E2 a h hE hI k
  have h0 := h
  unfold spRun at h
  split at h
  ·cases h
  ·rename_i o ho
   split at h
   ·rename_i d Ls hd hg
    split at h
    ·rename_i hN hn
     split at h
     ·rename_i v e hv
      have hEe : ∀ p ∈ e, p.1 = p.2 := fun p hp => hE p (hmono _ _ _ _ h p (List.mem_append_left _ hp))
      obtain ⟨s1, s2⟩ := step i a o ho
      by_cases hk : Hd S Ls
      ·refine s1 ((hI.want hg).1 hk) v d hd (hI.val hv hEe hl hk) (ih _ _ _ h hE (hI.put hN hn hg (fun _ => rfl) (fun q => absurd hk q)) ?_)
       intro a' hI'
       have := k a' hI'
       rwa [Nat.add_assoc, Nat.add_comm 1 n]
      ·refine s2 ((hI.want hg).2 hk) d hd (ih _ _ _ h hE (hI.put hN hn hg (fun q => absurd q hk) (fun _ => rfl)) ?_)
       intro a' hI'
       have := k a' hI'
       rwa [Nat.add_assoc, Nat.add_comm 1 n]
     ·cases h
    ·cases h
   ·cases h
def spLive (S : SpS) (fr : Fr) : List Nat -> Bool
 | [] => true
 | q :: r => (match sget S q with
  | some (_, []) => true
  | some _ => false
  | none => match fget fr q with
   | some _ => true
   | none => false) && spLive S fr r
def spFr (S : SpS) (fr : Fr) : List Nat -> Fr
 | [] => []
 | q :: r => (q, match sget S q with
  | some (v, _) => v
  | none => (fget fr q).getD undef) :: spFr S fr r
theorem SpI.rep (h : SpI N S fr a) : ∀ {live : List Nat}, spLive S fr live = true -> Rep N (spFr S fr live) a
 | [], _ => ⟨h.size, h.defers, fun i v hi => by cases hi⟩
 | q :: r, hl => by
  unfold spLive at hl
  rw [Bool.and_eq_true] at hl
  have ih := h.rep hl.2
  refine ⟨h.size, h.defers, fun i v hi => ?_⟩
  simp only [spFr] at hi
  rw [fget_cons] at hi
  split at hi
  ·rename_i e
   subst e
   have h1 := hl.1
   split at h1
   ·rename_i u he
    rw [he] at hi
    cases hi
    exact (h.on q _ _ he).1 (fun p hp => by cases hp)
   ·cases h1
   ·rename_i he
    split at h1
    ·rename_i u hu
     rw [he, hu] at hi
     cases hi
     exact h.off q _ he hu
    ·cases h1
  ·exact ih.get i v hi
theorem SpI.init (ha : Rep N fr a) : SpI N [] fr a := ⟨ha.size, ha.defers, fun t v Ls h => (by cases h), fun t v _ hf => ha.get t v hf, fun t v Ls h => (by cases h)⟩
end
structure LvR (one many : List (Nat × LH)) (Fs : List Fa) (L : List Item) (w0 : World) (Z : List Nat) (lv : List (Nat × Pn)) : Prop where
 o : ∀ w, allF w0 Z Fs -> St w0 Z w L -> ∀ p ∈ lv, p.2.Φ w
section
variable {ρ : Type} {h : LH} {hs hs' : List H} {f : Option ρ} {r : ρ} {Fs Fs' : List Fa} {L L' : List Item} {fr : Fr} {P : Program} {B : Func} {N : Nat} {w0 : World} {Z : List Nat} {c x y : Code} {Q : Exit -> Act -> World -> Prop} {l : List Oper} {i : Nat} {e : Exit} {v : Value} {one many : List (Nat × LH)} {lv : List (Nat × Pn)}
theorem LvR.nil : LvR [] [] Fs L w0 Z [] := ⟨fun _ _ _ p hp => by cases hp⟩
theorem LvR.c1 {j : Nat} {a : Addr} (h1 : Cel Fs L w0 Z h a v) (n : LvR one many Fs L w0 Z lv) : LvR ((j, h) :: one) many Fs L w0 Z ((j, .c a v) :: lv) := ⟨fun w al s p hp => by
 rcases List.mem_cons.1 hp with rfl | hp
 ·exact h1.o w al s
 ·exact n.o w al s p hp⟩
theorem LvR.n1 {j b k : Nat} {cs : List Value} (h1 : CelN Fs L w0 Z h b k cs) (n : LvR [] many Fs L w0 Z lv) : LvR [] ((j, h) :: many) Fs L w0 Z ((j, .n b k cs) :: lv) := ⟨fun w al s p hp => by
 rcases List.mem_cons.1 hp with rfl | hp
 ·exact h1.o w al s
 ·exact n.o w al s p hp⟩
theorem nfind_mem {α : Type} : ∀ {xs : List (Nat × α)} {n : Nat} {x : α}, nfind xs n = some x -> ∃ p ∈ xs, p.2 = x
 | [], _, _, h => by cases h
 | p :: r, n, x, h => by
  unfold nfind at h
  split at h
  ·cases h; exact ⟨p, List.mem_cons_self, rfl⟩
  ·obtain ⟨q, hq, e⟩ := nfind_mem h; exact ⟨q, List.mem_cons_of_mem _ hq, e⟩
def spS (P : Program) (l : List Oper) (N : Nat) (lv : List (Nat × Pn)) (pk : List (Nat × Bool)) (fr : Fr) : SpS := match spRun P l N lv pk fr l.length 0 [] [] with
 | some p => p.1
 | none => []
def spE (P : Program) (l : List Oper) (N : Nat) (lv : List (Nat × Pn)) (pk : List (Nat × Bool)) (fr : Fr) : Option (List (Value × Value)) := match spRun P l N lv pk fr l.length 0 [] [] with
 | some p => some p.2
 | none => none
theorem map_pairs : ∀ {E : List (Value × Value)}, E.map (·.1) = E.map (·.2) -> ∀ p ∈ E, p.1 = p.2
 | [], _, p, hp => by cases hp
 | q :: r, h, p, hp => by
  simp only [List.map_cons, List.cons.injEq] at h
  rcases List.mem_cons.1 hp with rfl | hp
  ·exact h.1
  ·exact map_pairs h.2 p hp
theorem GC.sc {id : Nat} {live : List Nat} {pk : List (Nat × Bool)} (hl : LvR one many Fs L w0 Z lv) (he : KR (spE P l N lv pk fr).isSome true) (hE : KR (((spE P l N lv pk fr).getD []).map (·.1)) (((spE P l N lv pk fr).getD []).map (·.2))) (hv : KR (spLive (spS P l N lv pk fr) fr live) true)
  (n : GQ hs f r Fs L (spFr (spS P l N lv pk fr) fr live) P B N w0 Z .normal Q) : GC (.sc live one many pk :: hs) f r Fs L fr P B N w0 Z (.region id l.toArray false) Q := ⟨fun w a s e => by
 refine CW.region fun b hb => ?_
 have h1 := he.h
 have h2 := map_pairs hE.h
 have h3 := hv.h
 have h4 := n.o w a s e
 unfold spE at h1 h2
 unfold spS at h3 h4
 cases hr : spRun P l N lv pk fr l.length 0 [] [] with
 | none => rw [hr] at h1; cases h1
 | some p =>
  rw [hr] at h2 h3 h4
  have key := sp_go (P := P) (l := l) (N := N) (lv := lv) (pk := pk) (fr := fr) (w := w) (fun i a => wpList P l.toArray Q (l.drop i) a w)
   (fun i e hi => by obtain ⟨q, hq, rfl⟩ := nfind_mem hi; exact hl.o w a s q hq)
   (fun i a o ho => ⟨fun hw v d hd hrun k => by
     show wpList P l.toArray Q (l.drop i) a w
     rw [drop_of_opAt ho]
     refine wpList_step (fun K hK => ?_)
     rw [if_pos hw]
     unfold Oper.wp
     rw [hrun, Oper.upon_value, hd]
     exact hK _ _ k,
    fun hw d hd k => by
     show wpList P l.toArray Q (l.drop i) a w
     rw [drop_of_opAt ho]
     refine wpList_step (fun K hK => ?_)
     rw [hw, hd]
     exact hK _ _ k⟩) l.length 0 [] [] (a := b) hr h2 (SpI.init hb) (fun a' hI => by
    have h5 := h4 a' (hI.rep h3)
    have h6 := OW.nil (P := P) (l := l) (N := N) (Q := Q) (i := l.length) (fr := spFr p.1 fr live) (w := w) (by
     cases hh : opAt l l.length with
     | none => rfl
     | some o => exact absurd (lt_opAt hh) (by omega)) h4 a' (hI.rep h3)
    simpa using h6)
  exact key⟩
theorem GC.scS {id : Nat} {live : List Nat} {pk : List (Nat × Bool)} (hm : KR (P.follows .mixedOrders) true) (hB : KR (Region.lexB .any l.toArray) true) (hl : LvR one many Fs L w0 Z lv) (he : KR (spE P l N lv pk fr).isSome true) (hE : KR (((spE P l N lv pk fr).getD []).map (·.1)) (((spE P l N lv pk fr).getD []).map (·.2))) (hv : KR (spLive (spS P l N lv pk fr) fr live) true)
  (n : GQ hs f r Fs L (spFr (spS P l N lv pk fr) fr live) P B N w0 Z .normal Q) : GC (.sc live one many pk :: hs) f r Fs L fr P B N w0 Z (.region id l.toArray true) Q := ⟨fun w a s e => by
 refine CW.still hm.h hB.h fun w1 hc1 b hb => ?_
 have s1 := s.same hc1
 have h1 := he.h
 have h2 := map_pairs hE.h
 have h3 := hv.h
 have h4 := n.o w1 a s1 e
 unfold spE at h1 h2
 unfold spS at h3 h4
 cases hr : spRun P l N lv pk fr l.length 0 [] [] with
 | none => rw [hr] at h1; cases h1
 | some p =>
  rw [hr] at h2 h3 h4
  have key := sp_go (P := P) (l := l) (N := N) (lv := lv) (pk := pk) (fr := fr) (w := w1) (fun i a => wpStill P l.toArray w1 (fun a' => Q .normal a' w1) ((l.take l.length).drop i) a)
   (fun i e hi => by obtain ⟨q, hq, rfl⟩ := nfind_mem hi; exact hl.o w1 a s1 q hq)
   (fun i a o ho => ⟨fun hw v d hd hrun k => by
     show wpStill P l.toArray w1 _ ((l.take l.length).drop i) a
     rw [rem_step (c := l.length) ho (by have := lt_opAt ho; simp [Nat.blt_eq, this])]
     refine wpStill_step (fun K hK => ?_)
     rw [if_pos hw]
     unfold Oper.still
     rw [hrun, Oper.stillUpon_value, hd]
     exact hK _ k,
    fun hw d hd k => by
     show wpStill P l.toArray w1 _ ((l.take l.length).drop i) a
     rw [rem_step (c := l.length) ho (by have := lt_opAt ho; simp [Nat.blt_eq, this])]
     refine wpStill_step (fun K hK => ?_)
     rw [hw, hd]
     exact hK _ k⟩) l.length 0 [] [] (a := b) hr h2 (SpI.init hb) (fun a' hI => by
    have h6 := OS.fin (P := P) (l := l) (N := N) (Q := Q) (c := l.length) (i := l.length) (fr := spFr p.1 fr live) (w := w1) (by simp) h4 a' (hI.rep h3)
    simpa using h6)
  exact key⟩
theorem GC.scB {id : Nat} {arr : Array Oper} {live : List Nat} {pk : List (Nat × Bool)} (hR : KR arr (rops B id).toArray) (hl : LvR one many Fs L w0 Z lv) (he : KR (spE P (rops B id) N lv pk fr).isSome true) (hE : KR (((spE P (rops B id) N lv pk fr).getD []).map (·.1)) (((spE P (rops B id) N lv pk fr).getD []).map (·.2))) (hv : KR (spLive (spS P (rops B id) N lv pk fr) fr live) true)
  (n : GQ hs f r Fs L (spFr (spS P (rops B id) N lv pk fr) fr live) P B N w0 Z .normal Q) : GC (.sc live one many pk :: hs) f r Fs L fr P B N w0 Z (.region id arr false) Q := by have := hR.h; subst this; exact GC.sc hl he hE hv n
theorem GC.scC {id : Nat} {arr : Array Oper} {live : List Nat} {pk : List (Nat × Bool)} (hR : KR arr (rops B id).toArray) (hm : KR (P.follows .mixedOrders) true) (hB : KR (Region.lexB .any (rops B id).toArray) true) (hl : LvR one many Fs L w0 Z lv) (he : KR (spE P (rops B id) N lv pk fr).isSome true) (hE : KR (((spE P (rops B id) N lv pk fr).getD []).map (·.1)) (((spE P (rops B id) N lv pk fr).getD []).map (·.2))) (hv : KR (spLive (spS P (rops B id) N lv pk fr) fr live) true)
  (n : GQ hs f r Fs L (spFr (spS P (rops B id) N lv pk fr) fr live) P B N w0 Z .normal Q) : GC (.sc live one many pk :: hs) f r Fs L fr P B N w0 Z (.region id arr true) Q := by have := hR.h; subst this; exact GC.scS hm hB hl he hE hv n
end
end Go.Sx
set_option linter.unusedVariables false
set_option linter.unusedSimpArgs false
namespace Go.Sx
open Go.RowKit
section
variable {h : LH} {Fs Fs' : List Fa} {L L' : List Item} {fr : Fr} {P : Program} {B : Func} {N : Nat} {w0 : World} {Z : List Nat} {l : List Oper} {i : Nat} {v : Value}
theorem LkV.of {o : Oper} (ho : okO l N fr i = some o) (hs : noSelect o.op = true) (hr : allF w0 Z Fs -> ∀ a w, Rep N fr a -> (execOp a.eval o).run P w = .ok (.value v) w) : LkV Fs fr P B N w0 Z h l i v := by
 obtain ⟨d, hl, hg, hd, hN⟩ := okO_some ho
 exact ⟨o, d, hl, hg, hd, hN, hs, fun a w b hb => hr a b w hb⟩
def isQuo : BinOp -> Bool | .quo => true | _ => false
def isRem : BinOp -> Bool | .rem => true | _ => false
def isShl : BinOp -> Bool | .shl => true | _ => false
def isShr : BinOp -> Bool | .shr => true | _ => false
theorem isQuo_eq {o : BinOp} (h : isQuo o = true) : o = .quo := by cases o <;> first | rfl | cases h
theorem isRem_eq {o : BinOp} (h : isRem o = true) : o = .rem := by cases o <;> first | rfl | cases h
theorem isShl_eq {o : BinOp} (h : isShl o = true) : o = .shl := by cases o <;> first | rfl | cases h
theorem isShr_eq {o : BinOp} (h : isShr o = true) : o = .shr := by cases o <;> first | rfl | cases h
def biC (sel : BinOp -> Bool) (l : List Oper) (N : Nat) (fr : Fr) (i : Nat) : Option (IntKind × Int × IntKind × Int) := match okO l N fr i with
 | some ⟨_, .binOp op _ x y _, _, _, _, _⟩ => match sel op, look fr x, look fr y with
  | true, some (.int k a), some (.int k2 b) => some (k, a, k2, b)
  | _, _, _ => none
 | _ => none
theorem biC_some {sel : BinOp -> Bool} {p : IntKind × Int × IntKind × Int} (h : biC sel l N fr i = some p) : ∃ d op t x y t2 ty pos af g, okO l N fr i = some ⟨d, .binOp op t x y t2, ty, pos, af, g⟩ /\ sel op = true /\ look fr x = some (.int p.1 p.2.1) /\ look fr y = some (.int p.2.2.1 p.2.2.2) := by
 unfold biC at h
 split at h
 ·rename_i ho
  split at h
  ·rename_i h1 h2 h3
   cases h
   exact ⟨_, _, _, _, _, _, _, _, _, _, ho, h1, h2, h3⟩
  ·cases h
 ·cases h
def biV (p : Option (IntKind × Int × IntKind × Int)) (g : IntKind -> Int -> Int -> Int) : Value := match p with
 | some (k, a, _, b) => .int k (g k a b)
 | none => undef
theorem LkV.qu {q : Nat} {b : Int} {u : Unit} (hq : nth Fs q = some (.oe (nz b) u)) (hc : KR ((biC isQuo l N fr i).map fun p => (p.2.2.2, decide (p.1 = p.2.2.1))) (some (b, true))) : LkV Fs fr P B N w0 Z (.qu q) l i (biV (biC isQuo l N fr i) fun k a b => k.wrap (a.tdiv b)) := by
 have hc := hc.h
 cases hb : biC isQuo l N fr i with
 | none => rw [hb] at hc; cases hc
 | some p =>
  obtain ⟨k, a, k2, b'⟩ := p
  rw [hb] at hc
  simp only [Option.map_some, Option.some.injEq, Prod.mk.injEq, decide_eq_true_eq] at hc
  obtain ⟨rfl, rfl⟩ := hc
  obtain ⟨d, op, t, x, y, t2, ty, pos, af, g, ho, hs, hx, hy⟩ := biC_some hb
  have := isQuo_eq hs
  subst this
  refine LkV.of ho rfl fun al r w hr => ?_
  have hz : b' ≠ 0 := nz_ne (allF_nth al hq)
  have e1 := hr.look hx
  have e2 := hr.look hy
  simp only at e1 e2
  simp [execOp, eqGuard, binOp, e1, e2, Op.intDiv, hz, biV]
theorem LkV.re {q : Nat} {b : Int} {u : Unit} (hq : nth Fs q = some (.oe (nz b) u)) (hc : KR ((biC isRem l N fr i).map fun p => (p.2.2.2, decide (p.1 = p.2.2.1))) (some (b, true))) : LkV Fs fr P B N w0 Z (.re q) l i (biV (biC isRem l N fr i) fun k a b => a.tmod b) := by
 have hc := hc.h
 cases hb : biC isRem l N fr i with
 | none => rw [hb] at hc; cases hc
 | some p =>
  obtain ⟨k, a, k2, b'⟩ := p
  rw [hb] at hc
  simp only [Option.map_some, Option.some.injEq, Prod.mk.injEq, decide_eq_true_eq] at hc
  obtain ⟨rfl, rfl⟩ := hc
  obtain ⟨d, op, t, x, y, t2, ty, pos, af, g, ho, hs, hx, hy⟩ := biC_some hb
  have := isRem_eq hs
  subst this
  refine LkV.of ho rfl fun al r w hr => ?_
  have hz : b' ≠ 0 := nz_ne (allF_nth al hq)
  have e1 := hr.look hx
  have e2 := hr.look hy
  simp only at e1 e2
  simp [execOp, eqGuard, binOp, e1, e2, Op.intDiv, hz, biV]
theorem LkV.hl {q : Nat} {b : Int} {u : Unit} (hq : nth Fs q = some (.oe (nn b) u)) (hc : KR ((biC isShl l N fr i).map fun p => p.2.2.2) (some b)) : LkV Fs fr P B N w0 Z (.hl q) l i (biV (biC isShl l N fr i) fun k a b => bShl k a b) := by
 have hc := hc.h
 cases hb : biC isShl l N fr i with
 | none => rw [hb] at hc; cases hc
 | some p =>
  obtain ⟨k, a, k2, b'⟩ := p
  rw [hb] at hc
  simp only [Option.map_some, Option.some.injEq] at hc
  subst hc
  obtain ⟨d, op, t, x, y, t2, ty, pos, af, g, ho, hs, hx, hy⟩ := biC_some hb
  have := isShl_eq hs
  subst this
  exact LkV.of ho rfl fun al r w hr => shl_run rfl hx hy (nn_ge (allF_nth al hq)) r w hr
theorem LkV.hr {q : Nat} {b : Int} {u : Unit} (hq : nth Fs q = some (.oe (nn b) u)) (hc : KR ((biC isShr l N fr i).map fun p => p.2.2.2) (some b)) : LkV Fs fr P B N w0 Z (.hr q) l i (biV (biC isShr l N fr i) fun k a b => bShr k a b) := by
 have hc := hc.h
 cases hb : biC isShr l N fr i with
 | none => rw [hb] at hc; cases hc
 | some p =>
  obtain ⟨k, a, k2, b'⟩ := p
  rw [hb] at hc
  simp only [Option.map_some, Option.some.injEq] at hc
  subst hc
  obtain ⟨d, op, t, x, y, t2, ty, pos, af, g, ho, hs, hx, hy⟩ := biC_some hb
  have := isShr_eq hs
  subst this
  exact LkV.of ho rfl fun al r w hr => shr_run rfl hx hy (nn_ge (allF_nth al hq)) r w hr
theorem LkV.hw {b : Int} (hc : (biC isShl l N fr i).map (fun p => p.2.2.2) = some (wu64 b)) : LkV Fs fr P B N w0 Z .hw l i (biV (biC isShl l N fr i) fun k a b => bShl k a b) := by
 cases hb : biC isShl l N fr i with
 | none => rw [hb] at hc; cases hc
 | some p =>
  obtain ⟨k, a, k2, b'⟩ := p
  rw [hb] at hc
  simp only [Option.map_some, Option.some.injEq] at hc
  subst hc
  obtain ⟨d, op, t, x, y, t2, ty, pos, af, g, ho, hs, hx, hy⟩ := biC_some hb
  have := isShl_eq hs
  subst this
  exact LkV.of ho rfl fun al r w hr => shl_run rfl hx hy (wu64_nn _) r w hr
theorem LkV.hv {b : Int} (hc : (biC isShr l N fr i).map (fun p => p.2.2.2) = some (wu64 b)) : LkV Fs fr P B N w0 Z .hv l i (biV (biC isShr l N fr i) fun k a b => bShr k a b) := by
 cases hb : biC isShr l N fr i with
 | none => rw [hb] at hc; cases hc
 | some p =>
  obtain ⟨k, a, k2, b'⟩ := p
  rw [hb] at hc
  simp only [Option.map_some, Option.some.injEq] at hc
  subst hc
  obtain ⟨d, op, t, x, y, t2, ty, pos, af, g, ho, hs, hx, hy⟩ := biC_some hb
  have := isShr_eq hs
  subst this
  exact LkV.of ho rfl fun al r w hr => shr_run rfl hx hy (wu64_nn _) r w hr
theorem LkV.hc {e k m n : Nat} (hq : nth Fs e = some (.ct k m n)) (hc : KR ((biC isShl l N fr i).map fun p => p.2.2.2) (some (wu64 ((k : Nat) : Int)))) : LkV Fs fr P B N w0 Z (.hc e) l i (biV (biC isShl l N fr i) fun k a b => bShl k a b) := by
 have hc := hc.h
 cases hb : biC isShl l N fr i with
 | none => rw [hb] at hc; cases hc
 | some p =>
  obtain ⟨kk, a, k2, b'⟩ := p
  rw [hb] at hc
  simp only [Option.map_some, Option.some.injEq] at hc
  subst hc
  obtain ⟨d, op, t, x, y, t2, ty, pos, af, g, ho, hs, hx, hy⟩ := biC_some hb
  have := isShl_eq hs
  subst this
  exact LkV.of ho rfl fun al r w hr => shl_run rfl hx hy (wu64_nn _) r w hr
theorem LkV.hd {e k m n : Nat} (hq : nth Fs e = some (.ct k m n)) (hc : KR ((biC isShr l N fr i).map fun p => p.2.2.2) (some (wu64 ((k : Nat) : Int)))) : LkV Fs fr P B N w0 Z (.hd e) l i (biV (biC isShr l N fr i) fun k a b => bShr k a b) := by
 have hc := hc.h
 cases hb : biC isShr l N fr i with
 | none => rw [hb] at hc; cases hc
 | some p =>
  obtain ⟨kk, a, k2, b'⟩ := p
  rw [hb] at hc
  simp only [Option.map_some, Option.some.injEq] at hc
  subst hc
  obtain ⟨d, op, t, x, y, t2, ty, pos, af, g, ho, hs, hx, hy⟩ := biC_some hb
  have := isShr_eq hs
  subst this
  exact LkV.of ho rfl fun al r w hr => shr_run rfl hx hy (wu64_nn _) r w hr
def siC (P : Program) (l : List Oper) (N : Nat) (fr : Fr) (i : Nat) : Option (ByteArray × Int) := match okO l N fr i with
 | some ⟨_, .index t x y, _, _, _, _⟩ => match P.underlying t, look fr x, look fr y with
  | some .string, some (.string s), some (.int _ q) => some (s, q)
  | _, _, _ => none
 | _ => none
theorem LkV.si {q : Nat} {s : ByteArray} {t c : Int} (hq : nth Fs q = some (.oe (sidx s t) c)) (hc : KR (siC P l N fr i) (some (s, t))) : LkV Fs fr P B N w0 Z (.si q) l i (.int .u8 c) := by
 have hc := hc.h
 unfold siC at hc
 split at hc
 ·rename_i ho
  split at hc
  ·rename_i h1 h2 h3
   cases hc
   exact LkV.of ho rfl fun al r w hr => sidx_run rfl h2 h3 h1 (allF_nth al hq) r w hr
  ·cases hc
 ·cases hc
def isEql : BinOp -> Bool | .eql => true | _ => false
def isNeq : BinOp -> Bool | .neq => true | _ => false
theorem isEql_eq {o : BinOp} (h : isEql o = true) : o = .eql := by cases o <;> first | rfl | cases h
theorem isNeq_eq {o : BinOp} (h : isNeq o = true) : o = .neq := by cases o <;> first | rfl | cases h
def seC (sel : BinOp -> Bool) (P : Program) (l : List Oper) (N : Nat) (fr : Fr) (i : Nat) : Option Bool := match okO l N fr i with
 | some ⟨_, .binOp op t x y _, _, _, _, _⟩ => match sel op, look fr x, look fr y, P.eqGuardType P.depth t with
  | true, some (.agg xs), some (.agg ys), false => valEq P 9 t (.agg xs) (.agg ys)
  | _, _, _, _ => none
 | _ => none
theorem LkV.sq (hc : KR (seC isEql P l N fr i).isSome true) : LkV Fs fr P B N w0 Z .sq l i (.bool ((seC isEql P l N fr i).getD false)) := by
 have hc := hc.h
 cases hb : seC isEql P l N fr i with
 | none => rw [hb] at hc; cases hc
 | some r =>
  unfold seC at hb
  split at hb
  ·rename_i ho
   split at hb
   ·rename_i h1 h2 h3 h4
    have := isEql_eq h1
    subst this
    exact LkV.of ho rfl fun al a w hr => seq_run rfl h2 h3 h4 hb a w hr
   ·cases hb
  ·cases hb
theorem LkV.sn (hc : KR (seC isNeq P l N fr i).isSome true) : LkV Fs fr P B N w0 Z .sn l i (.bool (!(seC isNeq P l N fr i).getD false)) := by
 have hc := hc.h
 cases hb : seC isNeq P l N fr i with
 | none => rw [hb] at hc; cases hc
 | some r =>
  unfold seC at hb
  split at hb
  ·rename_i ho
   split at hb
   ·rename_i h1 h2 h3 h4
    have := isNeq_eq h1
    subst this
    exact LkV.of ho rfl fun al a w hr => sneq_run rfl h2 h3 h4 hb a w hr
   ·cases hb
  ·cases hb
def adC (l : List Oper) (N : Nat) (fr : Fr) (i : Nat) : Option (FuncId × Int × Int × Int) := match okO l N fr i with
 | some ⟨_, .call ⟨.value (.func f), ⟨[x, y, z]⟩, ⟨_⟩⟩, _, _, _, _⟩ => match look fr x, look fr y, look fr z with
  | some (.int .u64 p), some (.int .u64 q), some (.int .u64 c) => some (f, p, q, c)
  | _, _, _ => none
 | _ => none
def adF (P : Program) (p : Option (FuncId × Int × Int × Int)) : Option Func := match p with
 | some (f, _) => P.funcs[f]?
 | none => none
theorem LkV.ad {q : Nat} {p1 p2 p3 : Int} {x : Int × Int} (hq : nth Fs q = some (.oe (add64 p1 p2 p3) x)) (hc : KR ((adC l N fr i).map (·.2)) (some (p1, p2, p3))) (h1 : KR ((adF P (adC l N fr i)).map fun fn => (fn.name == "runtime.NumGoroutine", fn.body.isNone)) (some (false, true)))
  (h3 : KR ((adF P (adC l N fr i)).bind fun fn => some (Extern.findNext fn)) (some none)) (h4 : KR ((adF P (adC l N fr i)).bind fun fn => Extern.find fn) (some add64Entry)) : LkV Fs fr P B N w0 Z (.ad q) l i (.tuple [.int .u64 x.1, .int .u64 x.2].toArray) := by
 have hc := hc.h
 have h1 := h1.h
 have h3 := h3.h
 have h4 := h4.h
 cases hb : adC l N fr i with
 | none => rw [hb] at hc; cases hc
 | some p =>
  obtain ⟨f, a, b, c⟩ := p
  rw [hb] at hc h1 h3 h4
  simp only [Option.map_some, Option.some.injEq, Prod.mk.injEq] at hc
  obtain ⟨rfl, rfl, rfl⟩ := hc
  simp only [adF] at h1 h3 h4
  cases hf : P.funcs[f]? with
  | none => rw [hf] at h1; cases h1
  | some fn =>
   rw [hf] at h1 h3 h4
   simp only [Option.map_some, Option.some.injEq, Prod.mk.injEq] at h1
   simp only [Option.bind_some, Option.some.injEq] at h3 h4
   unfold adC at hb
   split at hb
   ·rename_i ho
    split at hb
    ·rename_i g1 g2 g3
     cases hb
     exact LkV.of ho rfl fun al r w hr => add64_run (u := x.1) (v := x.2) rfl g1 g2 g3 hf h1.1 h1.2 h3 h4 (allF_nth al hq) r w hr
    ·cases hb
   ·cases hb
def cpC (P : Program) (l : List Oper) (N : Nat) (fr : Fr) (i : Nat) : Option (Value × Option Int × Option Int × Nat) := match okO l N fr i with
 | some ⟨_, .slice t x lo hi none, _, _, _, _⟩ => match P.underlying t, look fr x with
  | some (.slice e), some v => match psem P (sizeOf e) with
   | some sz => match lo, hi with
    | none, some y => match look fr y with
     | some (.int _ q) => some (v, none, some q, sz)
     | _ => none
    | some y, none => match look fr y with
     | some (.int _ q) => some (v, some q, none, sz)
     | _ => none
    | some y, some z => match look fr y, look fr z with
     | some (.int _ q), some (.int _ r) => some (v, some q, some r, sz)
     | _, _ => none
    | none, none => none
   | none => none
  | _, _ => none
 | _ => none
theorem LkV.cp {α : Type} {e q sz n c : Nat} {a : Option Addr} {enc : α -> List Value} {xs ys : List α} {hi : Int} (he : nth Fs e = some (.rd (.slice a n c) enc sz xs)) (hq : nth Fs q = some (.oe (cut xs 0 hi) ys)) (hc : KR (cpC P l N fr i) (some (.slice a n c, none, some hi, sz))) :
  LkV Fs fr P B N w0 Z (.cp e q) l i (.slice a ys.length c) := by
 have hc := hc.h
 unfold cpC at hc
 split at hc
 ·rename_i ho
  split at hc
  ·rename_i h1 h2
   split at hc
   ·rename_i hz
    split at hc
    ·split at hc
     ·rename_i h3
      cases hc
      exact LkV.of ho rfl fun al r w hr => pre_run sz rfl h2 h3 (allF_nth al hq) (Rd.cap (allF_nth al he)) h1 hz r w hr
     ·cases hc
    ·split at hc <;> cases hc
    ·split at hc <;> cases hc
    ·cases hc
   ·cases hc
  ·cases hc
 ·cases hc
theorem LkV.cu {α : Type} {e q sz n c : Nat} {a : Option Addr} {enc : α -> List Value} {xs ys : List α} {lo hi : Int} (he : nth Fs e = some (.rd (.slice a n c) enc sz xs)) (hq : nth Fs q = some (.oe (cut xs lo hi) ys)) (hc : KR (cpC P l N fr i) (some (.slice a n c, some lo, some hi, sz))) :
  LkV Fs fr P B N w0 Z (.cu e q) l i (.slice (shd a c lo.toNat sz) ys.length (c - lo.toNat)) := by
 have hc := hc.h
 unfold cpC at hc
 split at hc
 ·rename_i ho
  split at hc
  ·rename_i h1 h2
   split at hc
   ·rename_i hz
    split at hc
    ·split at hc <;> cases hc
    ·split at hc <;> cases hc
    ·split at hc
     ·rename_i h3 h4
      cases hc
      exact LkV.of ho rfl fun al r w hr => sub_run sz rfl h2 h3 h4 (allF_nth al hq) (Rd.cap (allF_nth al he)) h1 hz r w hr
     ·cases hc
    ·cases hc
   ·cases hc
  ·cases hc
 ·cases hc
theorem LkV.cf {α : Type} {e q sz n c : Nat} {a : Option Addr} {enc : α -> List Value} {xs ys : List α} {lo : Int} (he : nth Fs e = some (.rd (.slice a n c) enc sz xs)) (hq : nth Fs q = some (.oe (cut xs lo ((xs.length : Nat) : Int)) ys)) (hn : KR n xs.length) (hc : KR (cpC P l N fr i) (some (.slice a n c, some lo, none, sz))) :
  LkV Fs fr P B N w0 Z (.cf e q) l i (.slice (shd a c lo.toNat sz) ys.length (c - lo.toNat)) := by
 have hc := hc.h
 unfold cpC at hc
 split at hc
 ·rename_i ho
  split at hc
  ·rename_i h1 h2
   split at hc
   ·rename_i hz
    split at hc
    ·split at hc <;> cases hc
    ·split at hc
     ·rename_i h3
      cases hc
      exact LkV.of ho rfl fun al r w hr => suf_run sz rfl h2 hn.h h3 (allF_nth al hq) h1 hz r w hr
     ·cases hc
    ·split at hc <;> cases hc
    ·cases hc
   ·cases hc
  ·cases hc
 ·cases hc
theorem Adm.fp {α : Type} {e q sz n c : Nat} {a : Option Addr} {enc : α -> List Value} {xs ys : List α} {hi : Int} {Fs1 : List Fa} (he : nth Fs e = some (.rd (.slice a n c) enc sz xs)) (hq : nth Fs q = some (.oe (cut xs 0 hi) ys)) (hF : snocO Fs (.rd (.slice a ys.length c) enc sz ys) = some Fs1) :
  Adm (.fp e q) Fs L (fun _ : Unit => L) (fun _ => Fs1) := ⟨fun w0 Z w al s => ⟨(), s, allF_snoc (F := .rd (.slice a ys.length c) enc sz ys) al (Rd.pre (allF_nth al he) (allF_nth al hq)) hF⟩⟩
theorem Adm.fu {α : Type} {e q sz n c : Nat} {a : Option Addr} {enc : α -> List Value} {xs ys : List α} {lo hi : Int} {Fs1 : List Fa} (he : nth Fs e = some (.rd (.slice a n c) enc sz xs)) (hq : nth Fs q = some (.oe (cut xs lo hi) ys)) (hF : snocO Fs (.rd (.slice (shd a c lo.toNat sz) ys.length (c - lo.toNat)) enc sz ys) = some Fs1) :
  Adm (.fu e q) Fs L (fun _ : Unit => L) (fun _ => Fs1) := ⟨fun w0 Z w al s => ⟨(), s, allF_snoc (F := .rd (.slice (shd a c lo.toNat sz) ys.length (c - lo.toNat)) enc sz ys) al (Rd.part (allF_nth al he) (allF_nth al hq)) hF⟩⟩
end
end Go.Sx
set_option linter.unusedVariables false
set_option linter.unusedSimpArgs false
namespace Go.Sx
open Go.RowKit
section
variable {ρ : Type} {h : LH} {hs hs' : List H} {f : Option ρ} {r : ρ} {Fs Fs' : List Fa} {L L' : List Item} {fr : Fr} {P : Program} {B : Func} {N : Nat} {w0 : World} {Z : List Nat} {l : List Oper} {i : Nat} {v : Value} {Q : Exit -> Act -> World -> Prop}
def aiC (P : Program) (l : List Oper) (N : Nat) (fr : Fr) (i : Nat) : Option (Addr × Int × Nat × Nat) := match okO l N fr i with
 | some ⟨_, .indexAddr t x y, _, _, _, _⟩ => match P.underlying t, look fr x, look fr y with
  | some (.array n e), some (.pointer (some a)), some (.int _ q) => match psem P (sizeOf e) with
   | some sz => some (a, q, n, sz)
   | none => none
  | _, _, _ => none
 | _ => none
def aiV (p : Option (Addr × Int × Nat × Nat)) : Value := match p with
 | some (⟨b, k, none⟩, q, _, sz) => .pointer (some ⟨b, k + q.toNat * sz, none⟩)
 | _ => undef
def aiN (p : Option (Addr × Int × Nat × Nat)) : Option (Int × Nat) := match p with
 | some (⟨_, _, none⟩, q, n, _) => some (q, n)
 | _ => none
def inB (p : Option (Int × Nat)) : Bool := match p with
 | some (q, n) => decide (0 <= q /\ q < (n : Int))
 | none => false
theorem aiC_some {a : Addr} {q : Int} {n sz : Nat} (h : aiC P l N fr i = some (a, q, n, sz)) : ∃ d t x y ty pos af g e kd, okO l N fr i = some ⟨d, .indexAddr t x y, ty, pos, af, g⟩ /\ P.underlying t = some (.array n e) /\ look fr x = some (.pointer (some a)) /\ look fr y = some (.int kd q) /\ psem P (sizeOf e) = some sz := by
 unfold aiC at h
 split at h
 ·rename_i ho
  split at h
  ·rename_i h1 h2 h3
   split at h
   ·rename_i h4
    cases h
    exact ⟨_, _, _, _, _, _, _, _, _, _, ho, h1, h2, h3, h4⟩
   ·cases h
  ·cases h
 ·cases h
theorem LkV.aiG (hh : allF w0 Z Fs -> inB (aiN (aiC P l N fr i)) = true) (hn : ∃ p, aiN (aiC P l N fr i) = some p) : LkV Fs fr P B N w0 Z h l i (aiV (aiC P l N fr i)) := by
 obtain ⟨p, hp⟩ := hn
 cases hb : aiC P l N fr i with
 | none => rw [hb] at hp; cases hp
 | some w =>
  obtain ⟨⟨b, k, s⟩, q, n, sz⟩ := w
  rw [hb] at hh hp
  cases s with
  | some _ => cases hp
  | none =>
   obtain ⟨d, t, x, y, ty, pos, af, g, e, kd, ho, h1, h2, h3, h4⟩ := aiC_some hb
   refine LkV.of ho rfl fun al => ?_
   have hi := hh al
   simp only [aiN, inB, decide_eq_true_eq] at hi
   exact aidx_run _ _ rfl h2 h3 hi.1 hi.2 h1 h4
theorem LkV.al (hc : KR (inB (aiN (aiC P l N fr i))) true) : LkV Fs fr P B N w0 Z .al l i (aiV (aiC P l N fr i)) := LkV.aiG (fun _ => hc.h) (by
 have := hc.h
 cases e : aiN (aiC P l N fr i) with
 | none => rw [e] at this; cases this
 | some p => exact ⟨p, rfl⟩)
theorem LkV.af {q n x : Nat} {t : Int} (hq : nth Fs q = some (.oe (ain n t) x)) (hc : KR (aiN (aiC P l N fr i)) (some (t, n))) : LkV Fs fr P B N w0 Z (.af q) l i (aiV (aiC P l N fr i)) := LkV.aiG (fun al => by
 rw [hc.h]
 obtain ⟨h1, h2, _⟩ := ain_some (allF_nth al hq)
 simp [inB, h1, h2]) ⟨_, hc.h⟩
theorem LkV.at {α : Type} {q g o : Nat} {v' : Value} {xs : List α} {t : Int} {x : α} (hq : nth Fs q = some (.el v' g o t xs x)) (hc : KR (aiN (aiC P l N fr i)) (some (t, xs.length))) : LkV Fs fr P B N w0 Z (.at q) l i (aiV (aiC P l N fr i)) := LkV.aiG (fun al => by
 rw [hc.h]
 obtain ⟨h1, _⟩ := allF_nth al hq
 obtain ⟨h1, h2, _⟩ := idx_some h1
 simp [inB, h1, h2]) ⟨_, hc.h⟩
theorem bt_ok {α : Type} {w : World} {Z : List Nat} {b o m c sz : Nat} {enc : α -> List Value} {xs : List α} {t : Int} {x : α} (h : Rd w Z (.slice (some ⟨b, o, none⟩) m c) enc sz xs) (hx : idx xs t = some x) : (Fa.el (.slice (some ⟨b, o, none⟩) m c) b o t xs x).ok w Z := by
 refine ⟨hx, c, ?_⟩
 obtain ⟨_, a, c', e⟩ := Rd.len h
 cases e
 rfl
theorem GO.bt {α : Type} {e b o m c sz : Nat} {enc : α -> List Value} {xs : List α} {t : Int} {k : α -> Option ρ} {Fs1 : α -> List Fa} (he : nth Fs e = some (.rd (.slice (some ⟨b, o, none⟩) m c) enc sz xs)) (hF : ∀ x, snocO Fs (.el (.slice (some ⟨b, o, none⟩) m c) b o t xs x) = some (Fs1 x))
  (n : ∀ x, GO hs (k x) r (Fs1 x) L fr P B N w0 Z l i Q) : GO (.bt e :: hs) ((idx xs t).bind k) r Fs L fr P B N w0 Z l i Q := ⟨fun w a s q => by
 obtain ⟨x, hx, hk⟩ := bind_some' q
 exact (n x).o w (allF_snoc (F := .el (.slice (some ⟨b, o, none⟩) m c) b o t xs x) a (bt_ok (allF_nth a he) hx) (hF x)) s hk⟩
theorem GS.bt {α : Type} {e b o m c cc sz : Nat} {mm : Bool} {enc : α -> List Value} {xs : List α} {t : Int} {k : α -> Option ρ} {Fs1 : α -> List Fa} (he : nth Fs e = some (.rd (.slice (some ⟨b, o, none⟩) m c) enc sz xs)) (hF : ∀ x, snocO Fs (.el (.slice (some ⟨b, o, none⟩) m c) b o t xs x) = some (Fs1 x))
  (n : ∀ x, GS hs (k x) r (Fs1 x) L fr P B N w0 Z l i cc mm Q) : GS (.bt e :: hs) ((idx xs t).bind k) r Fs L fr P B N w0 Z l i cc mm Q := ⟨fun w a s q => by
 obtain ⟨x, hx, hk⟩ := bind_some' q
 exact (n x).o w (allF_snoc (F := .el (.slice (some ⟨b, o, none⟩) m c) b o t xs x) a (bt_ok (allF_nth a he) hx) (hF x)) s hk⟩
def nzC (P : Program) (l : List Oper) (N : Nat) (fr : Fr) (i : Nat) : Option (Option Addr) := match okO l N fr i with
 | some ⟨_, .binOp .eql t x y _, _, _, _, _⟩ => match P.underlying t, look fr x, look fr y with
  | some (.slice _), some (.slice a _ _), some (.slice none 0 0) => some a
  | _, _, _ => none
 | _ => none
def nzV (p : Option (Option Addr)) : Value := match p with
 | some a => .bool a.isNone
 | none => undef
theorem LkV.nz (hc : KR (nzC P l N fr i).isSome true) : LkV Fs fr P B N w0 Z .nz l i (nzV (nzC P l N fr i)) := by
 have hc := hc.h
 cases hb : nzC P l N fr i with
 | none => rw [hb] at hc; cases hc
 | some a =>
  unfold nzC at hb
  split at hb
  ·rename_i ho
   split at hb
   ·rename_i h1 h2 h3
    cases hb
    exact LkV.of ho rfl fun al => snil_run rfl h2 h3 h1
   ·cases hb
  ·cases hb
theorem GC.nb {α : Type} {e m c sz : Nat} {a : Option Addr} {enc : α -> List Value} {xs : List α} {φ : List α -> Option ρ} {q : Operand} {x y : Code} {hs1 hs2 : List H} (he : nth Fs e = some (.rd (.slice a m c) enc sz xs)) (hφ : f = φ xs) (hp : KR (Nat.blt 0 sz) true) (hz : ∀ x, KR (enc x).length sz)
  (hc : KR (look fr q) (some (.bool a.isNone))) (n1 : GC hs1 (φ []) r Fs L fr P B N w0 Z x Q) (n2 : GC hs2 f r Fs L fr P B N w0 Z y Q) : GC (.nb e hs1 hs2 :: hs) f r Fs L fr P B N w0 Z (.cond q x y) Q := ⟨fun w al s g => by
 rcases Bool.eq_false_or_eq_true a.isNone with h | h
 ·have hn : xs = [] := Rd.isnil (allF_nth al he) (fun x => by
   have h1 := (hz x).h
   have h2 : 0 < sz := by have := hp.h; simpa [Nat.blt_eq] using this
   exact ⟨(enc x)[0]'(by omega), by simp⟩) h
  rw [hφ, hn] at g
  exact CW.cond_t hc.h h (n1.o w al s g)
 ·exact CW.cond_f hc.h h (n2.o w al s g)⟩
def asC (P : Program) (l : List Oper) (N : Nat) (fr : Fr) (i : Nat) : Option (Nat × Nat × Nat × Option Int × Option Int × Nat) := match okO l N fr i with
 | some ⟨_, .slice t x lo hi none, _, _, _, _⟩ => match P.underlying t, look fr x with
  | some (.array n e), some (.pointer (some ⟨b, k, none⟩)) => match psem P (sizeOf e) with
   | some sz => match lo, hi with
    | none, none => some (b, k, n, none, none, sz)
    | none, some y => match look fr y with
     | some (.int _ q) => some (b, k, n, none, some q, sz)
     | _ => none
    | some y, some z => match look fr y, look fr z with
     | some (.int _ q), some (.int _ r) => some (b, k, n, some q, some r, sz)
     | _, _ => none
    | some _, none => none
   | none => none
  | _, _ => none
 | _ => none
def asB (p : Option (Nat × Nat × Nat × Option Int × Option Int × Nat)) : Option (Nat × Option Int × Option Int) := p.map fun q => (q.2.2.1, q.2.2.2.1, q.2.2.2.2.1)
def asV (p : Option (Nat × Nat × Nat × Option Int × Option Int × Nat)) (m : Nat) : Value := match p with
 | some (b, k, n, none, none, _) => .slice (some ⟨b, k, none⟩) n n
 | some (b, k, n, none, some _, _) => .slice (some ⟨b, k, none⟩) m n
 | some (b, k, n, some lo, some _, sz) => .slice (shd (some ⟨b, k, none⟩) n lo.toNat sz) m (n - lo.toNat)
 | _ => undef
theorem LkV.sG {p : Nat × Nat × Nat × Option Int × Option Int × Nat} {m : Nat} (hp : asC P l N fr i = some p)
  (hh : allF w0 Z Fs -> p.2.2.2.2.1 ≠ none -> ∃ (α : Type) (xs ys : List α), xs.length = p.2.2.1 /\ cut xs (p.2.2.2.1.getD 0) (p.2.2.2.2.1.getD 0) = some ys /\ ys.length = m) : LkV Fs fr P B N w0 Z h l i (asV (some p) m) := by
 unfold asC at hp
 split at hp
 ·rename_i ho
  split at hp
  ·rename_i h1 h2
   split at hp
   ·rename_i hz
    split at hp
    ·cases hp
     exact LkV.of ho rfl fun al => asl_all _ rfl h2 h1 hz
    ·split at hp
     ·rename_i h3
      cases hp
      refine LkV.of ho rfl fun al => ?_
      obtain ⟨α, xs, ys, e1, e2, rfl⟩ := hh al (by simp)
      exact asl_pre _ rfl h2 h3 e1 e2 h1 hz
     ·cases hp
    ·split at hp
     ·rename_i h3 h4
      cases hp
      refine LkV.of ho rfl fun al => ?_
      obtain ⟨α, xs, ys, e1, e2, rfl⟩ := hh al (by simp)
      exact asl_sub _ rfl h2 h3 h4 e1 e2 h1 hz
     ·cases hp
    ·cases hp
   ·cases hp
  ·cases hp
 ·cases hp
theorem asB_some {p : Option (Nat × Nat × Nat × Option Int × Option Int × Nat)} {a : Nat × Option Int × Option Int} (h : asB p = some a) : ∃ q, p = some q /\ q.2.2.1 = a.1 /\ q.2.2.2.1 = a.2.1 /\ q.2.2.2.2.1 = a.2.2 := by
 cases p with
 | none => cases h
 | some q => cases h; exact ⟨q, rfl, rfl, rfl, rfl⟩
theorem LkV.sA (hc : KR ((asB (asC P l N fr i)).map (·.2)) (some (none, none))) : LkV Fs fr P B N w0 Z .sA l i (asV (asC P l N fr i) 0) := by
 have hc := hc.h
 cases hb : asB (asC P l N fr i) with
 | none => rw [hb] at hc; cases hc
 | some a =>
  rw [hb] at hc
  obtain ⟨q, e1, e2, e3, e4⟩ := asB_some hb
  simp only [Option.map_some, Option.some.injEq] at hc
  rw [e1]
  exact LkV.sG e1 fun _ hn => absurd (by rw [e4, hc]) hn
theorem LkV.sP {α : Type} {q : Nat} {xs ys : List α} {hi : Int} (hq : nth Fs q = some (.oe (cut xs 0 hi) ys)) (hc : KR (asB (asC P l N fr i)) (some (xs.length, none, some hi))) : LkV Fs fr P B N w0 Z (.sP q) l i (asV (asC P l N fr i) ys.length) := by
 obtain ⟨p, e1, e2, e3, e4⟩ := asB_some hc.h
 rw [e1]
 exact LkV.sG e1 fun al _ => ⟨α, xs, ys, e2.symm, by rw [e3, e4]; exact allF_nth al hq, rfl⟩
theorem LkV.sU {α : Type} {q : Nat} {xs ys : List α} {lo hi : Int} (hq : nth Fs q = some (.oe (cut xs lo hi) ys)) (hc : KR (asB (asC P l N fr i)) (some (xs.length, some lo, some hi))) : LkV Fs fr P B N w0 Z (.sU q) l i (asV (asC P l N fr i) ys.length) := by
 obtain ⟨p, e1, e2, e3, e4⟩ := asB_some hc.h
 rw [e1]
 exact LkV.sG e1 fun al _ => ⟨α, xs, ys, e2.symm, by rw [e3, e4]; exact allF_nth al hq, rfl⟩
theorem Giv.ra {α : Type} {j k0 n n1 b sz : Nat} {T : TypeId} {cs : List Value} {enc : α -> List Value} {a : Nat -> α} {js : List Nat} {src : List Src} {Fin : List Fa} (hj : nth L j = some (blkI b T cs)) (hn1 : KR n1 n) (hcs : KR cs (cs.take k0 ++ (arrC enc n a ++ cs.drop (k0 + n * sz)))) (hk : KR (Nat.ble k0 cs.length) true)
  (hz : ∀ x, KR (enc x).length sz) (hn : KR (Nat.ble n 9223372036854775807) true) (hm : KR (mem? j js) false) (m : Giv src Fs L js Fin) : Giv (.ra j k0 :: src) Fs L js (.rd (.slice (some ⟨b, k0, none⟩) n1 n) enc sz (arrL n a) :: Fin) :=
 ⟨fun w0 Z w al s => ⟨by
  rw [hn1.h]
  exact s.arrRd j (by rw [<- nth_get]; exact hj) enc (fun x => (hz x).h) n a k0 hcs.h hk.h hn.h js hm.h, m.g w0 Z w al s⟩⟩
theorem Giv.ru {α : Type} {j k0 n b q sz : Nat} {T : TypeId} {cs : List Value} {enc : α -> List Value} {a : Nat -> α} {lo hi : Int} {ys : List α} {js : List Nat} {src : List Src} {Fin : List Fa} (hq : nth Fs q = some (.oe (cut (arrL n a) lo hi) ys)) (hj : nth L j = some (blkI b T cs)) (hcs : KR cs (cs.take k0 ++ (arrC enc n a ++ cs.drop (k0 + n * sz)))) (hk : KR (Nat.ble k0 cs.length) true)
  (hz : ∀ x, KR (enc x).length sz) (hn : KR (Nat.ble n 9223372036854775807) true) (hm : KR (mem? j js) false) (m : Giv src Fs L js Fin) : Giv (.ru j k0 q :: src) Fs L js (.rd (.slice (shd (some ⟨b, k0, none⟩) n lo.toNat sz) ys.length (n - lo.toNat)) enc sz ys :: Fin) :=
 ⟨fun w0 Z w al s => ⟨Rd.part (s.arrRd j (by rw [<- nth_get]; exact hj) enc (fun x => (hz x).h) n a k0 hcs.h hk.h hn.h js hm.h) (allF_nth al hq), m.g w0 Z w al s⟩⟩
theorem Giv.rp {α : Type} {j k0 n b q sz : Nat} {T : TypeId} {cs : List Value} {enc : α -> List Value} {a : Nat -> α} {hi : Int} {ys : List α} {js : List Nat} {src : List Src} {Fin : List Fa} (hq : nth Fs q = some (.oe (cut (arrL n a) 0 hi) ys)) (hj : nth L j = some (blkI b T cs)) (hcs : KR cs (cs.take k0 ++ (arrC enc n a ++ cs.drop (k0 + n * sz)))) (hk : KR (Nat.ble k0 cs.length) true)
  (hz : ∀ x, KR (enc x).length sz) (hn : KR (Nat.ble n 9223372036854775807) true) (hm : KR (mem? j js) false) (m : Giv src Fs L js Fin) : Giv (.rp j k0 q :: src) Fs L js (.rd (.slice (some ⟨b, k0, none⟩) ys.length n) enc sz ys :: Fin) :=
 ⟨fun w0 Z w al s => ⟨Rd.pre (s.arrRd j (by rw [<- nth_get]; exact hj) enc (fun x => (hz x).h) n a k0 hcs.h hk.h hn.h js hm.h) (allF_nth al hq), m.g w0 Z w al s⟩⟩
structure CF (Fs : List Fa) (L : List Item) (w0 : World) (Z : List Nat) (c : Cs) (b o : Nat) (cs : List Value) : Prop where
 o : ∀ w, allF w0 Z Fs -> St w0 Z w L -> ∀ k u, cs[k]? = some u -> w.cell? ⟨b, o + k, none⟩ = some u
theorem CF.o1 {j b : Nat} {T : TypeId} {cs : List Value} (hj : nth L j = some (blkI b T cs)) : CF Fs L w0 Z (.o j) b 0 cs := ⟨fun w _ s k u hu => by
 rw [Nat.zero_add]; exact s.blk j (by rw [<- nth_get]; exact hj) hu⟩
theorem CF.p1 {j b : Nat} {T : TypeId} {A cs C : List Value} (hj : nth L j = some (partI b T A cs C)) : CF Fs L w0 Z (.p j) b A.length cs := ⟨fun w _ s k u hu => s.prt j (by rw [<- nth_get]; exact hj) k hu⟩
theorem CF.e1 {α : Type} {e q g o sz : Nat} {v' : Value} {enc : α -> List Value} {xs : List α} {t : Int} {x : α} (he : nth Fs e = some (.rd v' enc sz xs)) (hq : nth Fs q = some (.el v' g o t xs x)) : CF Fs L w0 Z (.e e q) g (o + t.toNat * sz) (enc x) :=
 ⟨fun w a s k u hu => by
  obtain ⟨h1, c, h2⟩ := allF_nth a hq
  exact Rd.cellv (allF_nth a he) s h1 h2 k u hu⟩
theorem CF.r1 {α : Type} {j q g o sz : Nat} {T : TypeId} {v' : Value} {enc : α -> List Value} {xs xs' : List α} {t : Int} {x : α} (he : nth L j = some (rowI v' T enc sz xs')) (hq : nth Fs q = some (.el v' g o t xs x)) (hxx : KR xs' xs) (hz : ∀ x, KR (enc x).length sz) : CF Fs L w0 Z (.r j q) g (o + t.toNat * sz) (enc x) :=
 ⟨fun w a s k u hu => by
  have he := he
  rw [hxx.h] at he
  obtain ⟨h1, c, h2⟩ := allF_nth a hq
  exact s.rowc j (by rw [<- nth_get]; exact he) (fun x => (hz x).h) h1 h2 k u hu⟩
theorem CF.b1 {e b : Nat} {cs : List Value} (he : nth Fs e = some (.pb b cs)) : CF Fs L w0 Z (.b e) b 0 cs := ⟨fun w a s k u hu => by
 rw [Nat.zero_add]; exact RdB.cell (allF_nth a he) s k hu⟩
structure SimV (A B : List Value) : Prop where
 e : A = B
theorem SimV.nil : SimV [] [] := ⟨rfl⟩
theorem SimV.u {A B : List Value} {u : Value} (n : SimV A B) : SimV (u :: A) (u :: B) := ⟨by rw [n.e]⟩
theorem SimV.k {A B : List Value} {u v : Value} (h : KR u v) (n : SimV A B) : SimV (u :: A) (v :: B) := ⟨by rw [h.h, n.e]⟩
theorem Giv.bj {j b : Nat} {T : TypeId} {cs cs' : List Value} {js : List Nat} {src : List Src} {Fin : List Fa} (hj : nth L j = some (blkI b T cs)) (hV : SimV cs cs') (hm : KR (mem? j js) false) (m : Giv src Fs L js Fin) : Giv (.bj j :: src) Fs L js (.pb b cs' :: Fin) :=
 ⟨fun w0 Z w al s => ⟨by
  rw [<- hV.e]
  exact s.rdB j (by rw [<- nth_get]; exact hj) js hm.h, m.g w0 Z w al s⟩⟩
theorem Giv.bq {e b : Nat} {u u' : Value} {cr cr' : List Value} {js : List Nat} {src : List Src} {Fin : List Fa} (he : nth Fs e = some (.pb b (u :: cr))) (hV : SimV (u :: cr) (u' :: cr')) (m : Giv src Fs L js Fin) : Giv (.bq e :: src) Fs L js (.pb b (u' :: cr') :: Fin) :=
 ⟨fun w0 Z w al s => ⟨by
  have h : RdB w0 Z b (u :: cr) := allF_nth al he
  have := h.give s js
  rw [hV.e] at this
  exact this, m.g w0 Z w al s⟩⟩
theorem Cel.cc {c : Cs} {b o k : Nat} {cs : List Value} (hC : CF Fs L w0 Z c b o cs) (hv : nth cs k = some v) : Cel Fs L w0 Z (.cc c k) ⟨b, o + k, none⟩ v := ⟨fun w a s => hC.o w a s k v (by rw [<- nth_get]; exact hv)⟩
theorem CelN.cN {c : Cs} {b o k n : Nat} {cs us : List Value} (hC : CF Fs L w0 Z c b o cs) (hv : subO cs k n = some us) : CelN Fs L w0 Z (.cN c k n) b (o + k) us := ⟨fun w a s j u hj => by
 rw [Nat.add_assoc]; exact hC.o w a s (k + j) u ((subO_get hv).2 j u hj)⟩
theorem CF.arr {α : Type} {c : Cs} {b o e k0 n sz x : Nat} {enc : α -> List Value} {cs : List Value} {a : Nat -> α} {t : Int} (hC : CF Fs L w0 Z c b o cs) (hq : nth Fs e = some (.oe (ain n t) x))
  (hcs : KR cs (cs.take k0 ++ (arrC enc n a ++ cs.drop (k0 + n * sz)))) (hk : KR (Nat.ble k0 cs.length) true) (hz : ∀ x, KR (enc x).length sz) : CF Fs L w0 Z c b (o + k0 + t.toNat * sz) (enc (a x)) :=
 ⟨fun w al s k u hu => cell_arr (fun f u hf => hC.o w al s f u hf) enc (fun x => (hz x).h) n a k0 hcs.h hk.h (allF_nth al hq) k u hu⟩
theorem Cel.ca {α : Type} {c : Cs} {b o e k0 ff n sz x : Nat} {enc : α -> List Value} {cs : List Value} {a : Nat -> α} {t : Int} {u : Value} (hC : CF Fs L w0 Z c b o cs) (hq : nth Fs e = some (.oe (ain n t) x)) (hu : nth cs k0 = some u) (ha : nth (enc (a 0)) 0 = some u)
  (hcs : KR cs (cs.take k0 ++ (arrC enc n a ++ cs.drop (k0 + n * sz)))) (hk : KR (Nat.ble k0 cs.length) true) (hz : ∀ x, KR (enc x).length sz) (hv : nth (enc (a x)) ff = some v) : Cel Fs L w0 Z (.ca c e k0 ff sz enc) ⟨b, o + k0 + t.toNat * sz + ff, none⟩ v :=
 ⟨fun w al s => (CF.arr hC hq hcs hk hz).o w al s ff v (by rw [<- nth_get]; exact hv)⟩
theorem CelN.cA {α : Type} {c : Cs} {b o e k0 ff n m sz x : Nat} {enc : α -> List Value} {cs us : List Value} {a : Nat -> α} {t : Int} {u : Value} (hC : CF Fs L w0 Z c b o cs) (hq : nth Fs e = some (.oe (ain n t) x)) (hu : nth cs k0 = some u) (ha : nth (enc (a 0)) 0 = some u)
  (hcs : KR cs (cs.take k0 ++ (arrC enc n a ++ cs.drop (k0 + n * sz)))) (hk : KR (Nat.ble k0 cs.length) true) (hz : ∀ x, KR (enc x).length sz) (hv : subO (enc (a x)) ff m = some us) : CelN Fs L w0 Z (.cA c e k0 ff m sz enc) b (o + k0 + t.toNat * sz + ff) us :=
 ⟨fun w al s j u hj => by
  rw [Nat.add_assoc]; exact (CF.arr hC hq hcs hk hz).o w al s (ff + j) u ((subO_get hv).2 j u hj)⟩
theorem Cel.da {α : Type} {c : Cs} {b o e k0 ff n sz x : Nat} {enc : α -> List Value} {dec : List Value -> Nat -> α} {cs us : List Value} {t : Int} (hC : CF Fs L w0 Z c b o cs) (hq : nth Fs e = some (.oe (ain n t) x)) (hu : subO cs k0 (n * sz) = some us)
  (hcs : KR cs (cs.take k0 ++ (arrC enc n (dec us) ++ cs.drop (k0 + n * sz)))) (hk : KR (Nat.ble k0 cs.length) true) (hz : ∀ x, KR (enc x).length sz) (hv : nth (enc (dec us x)) ff = some v) : Cel Fs L w0 Z (.da c e k0 ff sz enc dec) ⟨b, o + k0 + t.toNat * sz + ff, none⟩ v :=
 ⟨fun w al s => (CF.arr hC hq hcs hk hz).o w al s ff v (by rw [<- nth_get]; exact hv)⟩
theorem CelN.dA {α : Type} {c : Cs} {b o e k0 ff n m sz x : Nat} {enc : α -> List Value} {dec : List Value -> Nat -> α} {cs us vs : List Value} {t : Int} (hC : CF Fs L w0 Z c b o cs) (hq : nth Fs e = some (.oe (ain n t) x)) (hu : subO cs k0 (n * sz) = some us)
  (hcs : KR cs (cs.take k0 ++ (arrC enc n (dec us) ++ cs.drop (k0 + n * sz)))) (hk : KR (Nat.ble k0 cs.length) true) (hz : ∀ x, KR (enc x).length sz) (hv : subO (enc (dec us x)) ff m = some vs) : CelN Fs L w0 Z (.dA c e k0 ff m sz enc dec) b (o + k0 + t.toNat * sz + ff) vs :=
 ⟨fun w al s j u hj => by
  rw [Nat.add_assoc]; exact (CF.arr hC hq hcs hk hz).o w al s (ff + j) u ((subO_get hv).2 j u hj)⟩
def arrN {α : Type} (enc : α -> List Value) : Nat -> (Nat -> α) -> List Value -> Option (List Value)
 | 0, _, C => some C
 | n + 1, a, C => match arrN enc n (fun i => a (i + 1)) C with
  | some q => appO (enc (a 0)) q
  | none => none
theorem arrN_eq {α : Type} {enc : α -> List Value} : ∀ {n : Nat} {a : Nat -> α} {C q : List Value}, arrN enc n a C = some q -> q = arrC enc n a ++ C
 | 0, _, _, _, h => by cases h; rfl
 | n + 1, a, C, q, h => by
  unfold arrN at h
  split at h
  ·rename_i e
   rw [appO_eq h, arrN_eq e, arrC, List.append_assoc]
  ·cases h
def dropO {α : Type} : List α -> Nat -> Option (List α)
 | l, 0 => some l
 | [], _ + 1 => none
 | _ :: r, n + 1 => dropO r n
theorem dropO_eq {α : Type} : ∀ {l q : List α} {n : Nat}, dropO l n = some q -> q = l.drop n
 | l, q, 0, h => by cases l <;> (cases h; rfl)
 | [], _, _ + 1, h => by cases h
 | _ :: r, q, n + 1, h => by rw [List.drop_succ_cons]; exact dropO_eq h
theorem takeO_eq {α : Type} : ∀ {l q : List α} {n : Nat}, takeO l n = some q -> q = l.take n
 | l, q, 0, h => by cases l <;> (cases h; rfl)
 | [], _, _ + 1, h => by cases h
 | x :: r, q, n + 1, h => by
  unfold takeO at h
  split at h
  ·rename_i e; cases h; rw [List.take_succ_cons, takeO_eq e]
  ·cases h
theorem stC_some {k m : Nat} {b : Nat} {us : List Value} (hc : stC P l fr i m = some ⟨b, k, none⟩) (hw : cellsE (stV l fr i) = some us) (hm : us.length = m) :
  ∃ t x y ty pos af g u, opAt l i = some ⟨none, .store t x y, ty, pos, af, g⟩ /\ gd l fr ⟨none, .store t x y, ty, pos, af, g⟩ = some true /\ look fr x = some (.pointer (some ⟨b, k, none⟩)) /\ look fr y = some u /\ u.cells.toList = us /\ psem P (sizeOf t) = some u.cells.toList.length := by
 obtain ⟨u, hu, hcs⟩ := cellsE_eq hw
 unfold stC at hc
 unfold stV at hu
 split at hc
 ·rename_i t x' y' ty pos af g hl
  rw [hl] at hu
  simp only at hu
  split at hc
  ·rename_i a' m' hg hx hz
   split at hc
   ·rename_i hb
    have e1 := Nat.eq_of_beq_eq_true hb
    cases hc
    exact ⟨_, _, _, _, _, _, _, u, hl, hg, hx, hu, hcs, by rw [hcs, hz, e1, hm]⟩
   ·cases hc
  ·cases hc
 ·cases hc
theorem GO.sa {α : Type} {j e k0 ff m n sz b x : Nat} {enc : α -> List Value} {dec : List Value -> α} {T : TypeId} {cs us cs1 A C q cs' : List Value} {a : Nat -> α} {t : Int} {u : Value} {L1 : List Item} (hj : nth L j = some (blkI b T cs)) (hq : nth Fs e = some (.oe (ain n t) x))
  (hu : nth cs k0 = some u) (ha : nth (enc (a 0)) 0 = some u) (hcs : KR cs (cs.take k0 ++ (arrC enc n a ++ cs.drop (k0 + n * sz)))) (hk : KR (Nat.ble k0 cs.length) true) (hz : ∀ x, KR (enc x).length sz)
  (hv : cellO (stV l fr i) 0 m = some us) (hw : KR (cellsE (stV l fr i)) (some us)) (hs' : spliceO (enc (a x)) us ff = some cs1) (hd : KR (enc (dec cs1)) cs1) (hc : KR (stC P l fr i m) (some ⟨b, k0 + t.toNat * sz + ff, none⟩))
  (hm : KR us.length m) (h1 : KR (ones us) true) (h0 : KR (posL us) true) (hA : takeO cs k0 = some A) (hC : dropO cs (k0 + n * sz) = some C) (hN : arrN enc n (aset a x (dec cs1)) C = some q) (hQ : appO A q = some cs')
  (hL : setO L j (blkI b T cs') = some L1) (n : GO hs f r Fs L1 fr P B N w0 Z l (i + 1) Q) : GO (.sa j e k0 ff m sz enc dec :: hs) f r Fs L fr P B N w0 Z l i Q := ⟨fun w al s e => by
 obtain ⟨t, x', y', ty, pos, af, g, v, hl, hg, hx, hy, hcv, hsz⟩ := stC_some hc.h hw.h hm.h
 obtain ⟨e3, e4⟩ := spliceO_eq hs' (by intro e5; have := h0.h; rw [e5] at this; cases this)
 rw [<- hcv] at e3 e4
 refine OW.stA s j (by rw [<- nth_get]; exact hj) hl hg hx hy hsz (by rw [hcv]; exact h1.h) enc (fun x => (hz x).h) _ a k0 hcs.h hk.h (allF_nth al hq) ff rfl (Nat.ble_eq_true_of_le (by rw [<- (hz (a _)).h]; exact e4)) (dec cs1) (by rw [e3, hd.h]) cs'
  (by rw [appO_eq hQ, arrN_eq hN, takeO_eq hA, dropO_eq hC]) fun w' s' => ?_
 exact n.o w' al (by rw [setO_eq hL]; exact s') e⟩
theorem GO.sra {α : Type} {j q e ff m cn sz sze g o x : Nat} {enc : α -> List Value} {dec : List Value -> α} {ence : (Nat -> α) -> List Value} {T : TypeId} {v' : Value} {xs xs' : List (Nat -> α)} {tt t : Int} {z : Nat -> α} {us cs1 : List Value} {L1 : List Item}
  (he : nth L j = some (rowI v' T ence sze xs')) (hq : nth Fs q = some (.el v' g o tt xs z)) (hxx : KR xs' xs) (hi : nth Fs e = some (.oe (ain cn t) x)) (hE : ∀ y, KR (ence y) (arrC enc cn y)) (hze : ∀ y, KR (ence y).length sze) (hz : ∀ x, KR (enc x).length sz)
  (hv : cellO (stV l fr i) 0 m = some us) (hw : KR (cellsE (stV l fr i)) (some us)) (hs' : spliceO (enc (z x)) us ff = some cs1) (hd : KR (enc (dec cs1)) cs1) (hc : KR (stC P l fr i m) (some ⟨g, o + tt.toNat * sze + 0 + t.toNat * sz + ff, none⟩))
  (hm : KR us.length m) (h1 : KR (ones us) true) (h0 : KR (posL us) true) (hL : setO L j (rowI v' T ence sze (xs'.set tt.toNat (aset z x (dec cs1)))) = some L1)
  (n : GO hs f r Fs L1 fr P B N w0 Z l (i + 1) Q) : GO (.sra j q e ff m sz enc dec :: hs) f r Fs L fr P B N w0 Z l i Q := ⟨fun w al s hf => by
 obtain ⟨t', x', y', ty, pos, af, g', v, hl, hg, hx, hy, hcv, hsz⟩ := stC_some hc.h hw.h hm.h
 obtain ⟨e3, e4⟩ := spliceO_eq hs' (by intro e5; have := h0.h; rw [e5] at this; cases this)
 rw [<- hcv] at e3 e4
 have hxx := hxx.h
 subst hxx
 obtain ⟨hx1, cp, hx2⟩ := allF_nth al hq
 have hA : ∀ y : Nat -> α, ence y = (ence z).take 0 ++ (arrC enc cn y ++ (ence z).drop (0 + cn * sz)) := fun y => by
  have h5 : (ence z).drop (0 + cn * sz) = [] := List.drop_of_length_le (by rw [(hE z).h, arrC_len (fun x => (hz x).h)]; omega)
  rw [h5, (hE y).h]
  simp
 refine OW.stRA s j (by rw [<- nth_get]; exact he) hx2 (fun x => (hze x).h) hl hg hx1 hx hy hsz (by rw [hcv]; exact h1.h) enc (fun x => (hz x).h) cn z 0 (hA z) (by cases h9 : ence z <;> rfl) (allF_nth al hi) ff rfl (Nat.ble_eq_true_of_le (by rw [<- (hz (z x)).h]; exact e4)) (dec cs1) (by rw [e3, hd.h]) (aset z x (dec cs1)) (hA (aset z x (dec cs1))) fun w' s' => ?_
 exact n.o w' al (by rw [setO_eq hL]; exact s') hf⟩
theorem splice_all {A B : List Value} (h : A.length = B.length) : splice A B 0 = B := by
 unfold splice
 rw [List.drop_of_length_le (by omega)]
 simp
theorem GO.srw {α : Type} {j q m cn sze g o : Nat} {enc : α -> List Value} {ence : (Nat -> α) -> List Value} {T : TypeId} {v' u : Value} {xs xs' : List (Nat -> α)} {tt : Int} {z a : Nat -> α} {us : List Value} {L1 : List Item}
  (he : nth L j = some (rowI v' T ence sze xs')) (hq : nth Fs q = some (.el v' g o tt xs z)) (hxx : KR xs' xs) (hze : ∀ y, KR (ence y).length sze)
  (hv : cellO (stV l fr i) 0 m = some us) (hu : nth us 0 = some u) (ha : nth (enc (a 0)) 0 = some u) (hcs : KR (ence a) us) (hw : KR (cellsE (stV l fr i)) (some us)) (hc : KR (stC P l fr i m) (some ⟨g, o + tt.toNat * sze + 0, none⟩))
  (hm : KR us.length m) (h1 : KR (ones us) true) (hL : setO L j (rowI v' T ence sze (xs'.set tt.toNat a)) = some L1)
  (n : GO hs f r Fs L1 fr P B N w0 Z l (i + 1) Q) : GO (.srw j q m cn enc :: hs) f r Fs L fr P B N w0 Z l i Q := ⟨fun w al s hf => by
 obtain ⟨t', x', y', ty, pos, af, g', v, hl, hg, hx, hy, hcv, hsz⟩ := stC_some hc.h hw.h hm.h
 have hxx := hxx.h
 subst hxx
 obtain ⟨hx1, cp, hx2⟩ := allF_nth al hq
 have hl1 : us.length = sze := by rw [<- hcs.h]; exact (hze a).h
 refine OW.stR s j (by rw [<- nth_get]; exact he) hx2 (fun x => (hze x).h) hl hg hx1 0 hx rfl hy hsz (by rw [hcv]; exact h1.h) (Nat.ble_eq_true_of_le (by rw [hcv]; omega)) a (by rw [hcv, splice_all (by rw [hl1]; exact (hze z).h), hcs.h]) fun w' s' => ?_
 exact n.o w' al (by rw [setO_eq hL]; exact s') hf⟩
theorem GO.sp1 {j k m b : Nat} {T : TypeId} {A C cs us cs' : List Value} {L1 : List Item} (hj : nth L j = some (partI b T A cs C)) (hv : cellO (stV l fr i) 0 m = some us) (hs' : spliceO cs us k = some cs') (hw : KR (cellsE (stV l fr i)) (some us)) (hc : KR (stC P l fr i m) (some ⟨b, A.length + k, none⟩))
  (hm : KR us.length m) (h1 : KR (ones us) true) (h0 : KR (posL us) true) (hL : setO L j (partI b T A cs' C) = some L1) (n : GO hs f r Fs L1 fr P B N w0 Z l (i + 1) Q) : GO (.sp1 j k m :: hs) f r Fs L fr P B N w0 Z l i Q := ⟨fun w a s q => by
 obtain ⟨t, x', y', ty, pos, af, g, v, hl, hg, hx, hy, hcv, hsz⟩ := stC_some hc.h hw.h hm.h
 obtain ⟨e3, e4⟩ := spliceO_eq hs' (by intro e5; have := h0.h; rw [e5] at this; cases this)
 rw [<- hcv] at e3 e4
 refine OW.stP s j (by rw [<- nth_get]; exact hj) hl hg k hx hy hsz (by rw [hcv]; exact h1.h) (Nat.ble_eq_true_of_le e4) cs' e3 fun w' s' => ?_
 exact n.o w' a (by rw [setO_eq hL]; exact s') q⟩
theorem GO.spa {α : Type} {j e k0 ff m n sz b x : Nat} {enc : α -> List Value} {dec : List Value -> α} {T : TypeId} {A' C' cs us cs1 A C q cs' : List Value} {a : Nat -> α} {t : Int} {u : Value} {L1 : List Item} (hj : nth L j = some (partI b T A' cs C')) (hq : nth Fs e = some (.oe (ain n t) x))
  (hu : nth cs k0 = some u) (ha : nth (enc (a 0)) 0 = some u) (hcs : KR cs (cs.take k0 ++ (arrC enc n a ++ cs.drop (k0 + n * sz)))) (hk : KR (Nat.ble k0 cs.length) true) (hz : ∀ x, KR (enc x).length sz)
  (hv : cellO (stV l fr i) 0 m = some us) (hw : KR (cellsE (stV l fr i)) (some us)) (hs' : spliceO (enc (a x)) us ff = some cs1) (hd : KR (enc (dec cs1)) cs1) (hc : KR (stC P l fr i m) (some ⟨b, A'.length + k0 + t.toNat * sz + ff, none⟩))
  (hm : KR us.length m) (h1 : KR (ones us) true) (h0 : KR (posL us) true) (hA : takeO cs k0 = some A) (hC : dropO cs (k0 + n * sz) = some C) (hN : arrN enc n (aset a x (dec cs1)) C = some q) (hQ : appO A q = some cs')
  (hL : setO L j (partI b T A' cs' C') = some L1) (n : GO hs f r Fs L1 fr P B N w0 Z l (i + 1) Q) : GO (.spa j e k0 ff m sz enc dec :: hs) f r Fs L fr P B N w0 Z l i Q := ⟨fun w al s e => by
 obtain ⟨t, x', y', ty, pos, af, g, v, hl, hg, hx, hy, hcv, hsz⟩ := stC_some hc.h hw.h hm.h
 obtain ⟨e3, e4⟩ := spliceO_eq hs' (by intro e5; have := h0.h; rw [e5] at this; cases this)
 rw [<- hcv] at e3 e4
 refine OW.stPA s j (by rw [<- nth_get]; exact hj) hl hg hx hy hsz (by rw [hcv]; exact h1.h) enc (fun x => (hz x).h) _ a k0 hcs.h hk.h (allF_nth al hq) ff rfl (Nat.ble_eq_true_of_le (by rw [<- (hz (a _)).h]; exact e4)) (dec cs1) (by rw [e3, hd.h]) cs'
  (by rw [appO_eq hQ, arrN_eq hN, takeO_eq hA, dropO_eq hC]) fun w' s' => ?_
 exact n.o w' al (by rw [setO_eq hL]; exact s') e⟩
theorem Sim.part {A B : List Item} {b : Nat} {T : TypeId} {X C cs cs' : List Value} (h2 : KR cs cs') (n : Sim A B) : Sim (partI b T X cs C :: A) (partI b T X cs' C :: B) := ⟨by rw [h2.h, n.e]⟩
theorem Adm.pt {j k m b : Nat} {T : TypeId} {cs A M C : List Value} {L1 : List Item} (hj : nth L j = some (blkI b T cs)) (hA : takeO cs k = some A) (hM : subO cs k m = some M) (hC : dropO cs (k + m) = some C) (he : KR cs (A ++ (M ++ C))) (hL : setO L j (partI b T A M C) = some L1) :
  Adm (.pt j k m) Fs L (fun _ : Unit => L1) (fun _ => Fs) := ⟨fun w0 Z w al s => ⟨(), by
 have e : L1 = L := by
  rw [setO_eq hL]
  unfold partI
  rw [<- he.h]
  apply List.ext_getElem?
  intro q
  rw [List.getElem?_set]
  rw [nth_get] at hj
  split
  ·rename_i h1
   subst h1
   rw [hj]
   simp [(List.getElem?_eq_some_iff.1 hj).1]
  ·rfl
 rw [e]; exact s, al⟩⟩
end
end Go.Sx
set_option linter.unusedSimpArgs false
set_option linter.unusedVariables false
namespace Go.Sx
def OK {α : Type} (o : Option α) (Q : α -> Prop) : Prop := ∃ r, o = some r /\ Q r
theorem OK.ret {α : Type} {x : α} {Q : α -> Prop} (h : Q x) : OK (some x) Q := ⟨x, rfl, h⟩
theorem OK.bind {α β : Type} {o : Option α} {f : α -> Option β} {Q : β -> Prop} (h : OK o (fun x => OK (f x) Q)) : OK (o.bind f) Q := by
 obtain ⟨x, rfl, h⟩ := h
 exact h
theorem OK.mono {α : Type} {o : Option α} {Q R : α -> Prop} (h : OK o Q) (k : ∀ x, Q x -> R x) : OK o R := by
 obtain ⟨x, rfl, h⟩ := h
 exact ⟨x, rfl, k x h⟩
theorem OK.bind2 {α β : Type} {o : Option α} {f : α -> Option β} {R : α -> Prop} {Q : β -> Prop} (h : OK o R) (k : ∀ x, R x -> OK (f x) Q) : OK (o.bind f) Q :=
 OK.bind (h.mono k)
theorem OK.ite {α : Type} {c : Bool} {A B : Option α} {Q : α -> Prop} (h1 : c = true -> OK A Q) (h2 : c = false -> OK B Q) :
  OK (if c then A else B) Q := by
 cases c with
 | true => exact h1 rfl
 | false => exact h2 rfl
theorem OK.ite_true {α : Type} {c : Bool} {A B : Option α} {Q : α -> Prop} (h : c = true) (h1 : OK A Q) : OK (if c then A else B) Q := by
 subst h; exact h1
theorem OK.ite_false {α : Type} {c : Bool} {A B : Option α} {Q : α -> Prop} (h : c = false) (h1 : OK B Q) : OK (if c then A else B) Q := by
 subst h; exact h1
theorem OK.get {α : Type} {xs : List α} {t : Int} {Q : α -> Prop} (h0 : 0 <= t) (h1 : t < xs.length)
  (h : ∀ x, xs[t.toNat]? = some x -> Q x) : OK (idx xs t) Q := by
 have hl : t.toNat < xs.length := by omega
 refine ⟨xs[t.toNat], ?_, h _ (List.getElem?_eq_getElem hl)⟩
 unfold Go.Sx.idx
 rw [if_pos h0, List.getElem?_eq_getElem hl]
theorem OK.getN {α : Type} {xs : List α} {i : Nat} {Q : α -> Prop} (h1 : i < xs.length)
  (h : ∀ x, xs[i]? = some x -> Q x) : OK (Go.Sx.idx xs (i : Int)) Q :=
 OK.get (by omega) (by omega) (fun x hx => h x (by simpa using hx))
theorem OK.hasRoom {m b : Nat} {Q : Unit -> Prop} (h : m * b <= 140737488355328) (k : Q ()) : OK (room m b) Q :=
 ⟨(), by unfold Go.Sx.room; rw [if_pos h], k⟩
theorem OK.mkl {n : Int} {b : Nat} {Q : Nat -> Prop} (h0 : 0 <= n) (h : n.toNat * b <= 140737488355328) (k : Q n.toNat) : OK (mkLen n b) Q :=
 ⟨n.toNat, by unfold Go.Sx.mkLen; rw [if_pos ⟨h0, h⟩], k⟩
theorem OK.count_from {σ ρ : Type} {body : Nat -> (σ -> Option ρ) -> σ -> Option ρ} {out : σ -> ρ} {N : Nat} {Q : ρ -> Prop} (I : Nat -> σ -> Prop)
    (hb : ∀ i s again, i < N -> I i s -> (∀ s', I (i + 1) s' -> OK (again s') Q) -> OK (body i again s) Q)
    (ho : ∀ s, I N s -> Q (out s)) : ∀ (n i : Nat) (s : σ), i + n = N -> I i s -> OK (forN body out n i s) Q := by
  intro n
  induction n with
  | zero => intro i s hi h; have e : i = N := by omega
            subst e; exact OK.ret (ho s h)
  | succ n ih => intro i s hi h; exact hb i s _ (by omega) h (fun s' h' => ih (i + 1) s' (by omega) h')
theorem OK.count {σ ρ : Type} {body : Nat -> (σ -> Option ρ) -> σ -> Option ρ} {out : σ -> ρ} {N : Nat} {Q : ρ -> Prop} (I : Nat -> σ -> Prop) {s : σ}
  (h0 : I 0 s)
  (hb : ∀ i s again, i < N -> I i s -> (∀ s', I (i + 1) s' -> OK (again s') Q) -> OK (body i again s) Q)
  (ho : ∀ s, I N s -> Q (out s)) : OK (forN body out N 0 s) Q := OK.count_from I hb ho N 0 s (by omega) h0
theorem OK.rounds {σ R : Type} {body : (σ -> Option R) -> σ -> Option R} {Q : R -> Prop} (I : σ -> Prop) (m : σ -> Nat)
  (hb : ∀ s again, I s -> (∀ s', I s' -> m s' < m s -> OK (again s') Q) -> OK (body again s) Q) :
  ∀ (fu : Nat) (s : σ), I s -> m s < fu -> OK (loop body fu s) Q := by
 intro fu
 induction fu with
 | zero => intro s _ h; omega
 | succ n ih => intro s h hm; exact hb s _ h (fun s' h' hm' => ih s' h' (by omega))
theorem OK.none_ {α ρ : Type} {A : Option ρ} {B : α -> Option ρ} {Q : ρ -> Prop} (h : OK A Q) : OK (ocase none A B) Q := h
theorem OK.eq {α : Type} {o : Option α} {x : α} (h : o = some x) {Q : α -> Prop} (k : Q x) : OK o Q := ⟨x, h, k⟩
theorem OK.is {α : Type} {o : Option α} {x : α} (h : OK o (fun y => y = x)) : o = some x := by
 obtain ⟨y, rfl, rfl⟩ := h
 rfl
theorem get_set {α : Type} {xs : List α} {i j : Nat} {x : α} : (xs.set i x)[j]? = if i = j then (if i < xs.length then some x else none) else xs[j]? := by
 rw [List.getElem?_set]
end Go.Sx
set_option linter.unusedVariables false
set_option linter.unusedSimpArgs false
namespace Go.Sx
open Go.RowKit
structure Rng {α : Type} (w : World) (it r : Nat) (R : Rp α) (S : List Nat) (m rem : List (Int × α)) (last : Option (Int × Value × α)) (mv : List (Int × Value)) (Ss : List (List Nat)) (A : Array MapEntry) (clock since : Nat) (seen : Array Nat) (c0 : Nat) : Prop where
 row : MRow w r R S m none mv Ss
 map : w.heap[r]? = some (.map A clock)
 ents : Ents (fun v : Value => v) mv A.toList clock
 iter : w.heap[it]? = some (.mapIter (some r) since seen c0)
 apart : it ∉ S
 hold : ∀ x ∈ A.toList, x.born < since
 le : since <= c0
 le2 : since <= clock
 left : rem = ((A.toList.zip m).filter (fun p => !seen.contains p.1.born)).map (·.2)
 now : ∀ k v x, last = some (k, v, x) -> c0 = clock /\ ∃ (i : Nat) (e : MapEntry) (s' : Array Nat), A.toList[i]? = some e /\ mv[i]? = some (k, v) /\ m[i]? = some (k, x) /\ seen = s'.push e.born
def rngI {α : Type} (it r : Nat) (R : Rp α) (S : List Nat) (m rem : List (Int × α)) (last : Option (Int × Value × α)) : Item where
 S := it :: S
 Φ w := ∃ mv Ss A clock since seen c0, Rng w it r R S m rem last mv Ss A clock since seen c0
 loc w w' hb h := by
  obtain ⟨mv, Ss, A, clock, since, seen, c0, h⟩ := h
  have hS := h.row.hS
  refine ⟨mv, Ss, A, clock, since, seen, c0, h.row.loc (fun b hbs => hb b (List.mem_cons_of_mem _ hbs)), ?_, h.ents, ?_, h.apart, h.hold, h.le, h.le2, h.left, h.now⟩
  ·rw [hb r (List.mem_cons_of_mem _ (by rw [hS]; exact List.mem_cons_self))]; exact h.map
  ·rw [hb it List.mem_cons_self]; exact h.iter
 lt w h b hb := by
  obtain ⟨mv, Ss, A, clock, since, seen, c0, h⟩ := h
  rcases List.mem_cons.1 hb with rfl | hb
  ·exact (Array.getElem?_eq_some_iff.1 h.iter).1
  ·exact h.row.lt b hb
section
variable {P : Program} {N : Nat} {Q : Exit -> Act -> World -> Prop} {fr fr' : List (Nat × Value)} {w w0 : World} {l : List Oper} {i : Nat} {o : Oper} {S0 : List Nat} {L : List Item} {α : Type} {R : Rp α} {r it : Nat} {S : List Nat} {m rem : List (Int × α)} {last : Option (Int × Value × α)}
theorem OW.range {d : Nat} {t tk te : TypeId} {x : Operand} {ty : TypeId} {pos : String} {af : Array Edge} {gdd : Option (Nat × Bool)} (hst : St w0 S0 w L) (j : Nat) (hj : L[j]? = some (mN r R S m none))
  (hl : opAt l i = some ⟨some d, .range t x, ty, pos, af, gdd⟩) (hg : gd l fr ⟨some d, .range t x, ty, pos, af, gdd⟩ = some true) (hN : Nat.blt d N = true) (hx : look fr x = some (.map (some r))) (ht : P.underlying t = some (.map tk te))
  (h : ∀ it w', St w0 S0 w' (L.set j (rngI it r R S m m none)) -> OW P l N Q (i + 1) ((d, .pointer (some ⟨it, 0, none⟩)) :: fr) w') : OW P l N Q i fr w := by
 obtain ⟨mv, Ss, hr⟩ := hst.all j _ hj
 obtain ⟨A, clock, hA, hE⟩ := hr.map
 have hlt := hr.lt
 refine OW.op hl hg rfl hN (w' := w.alloc (.mapIter (some r) clock #[] clock)) (fun a ha => ?_) (h w.heap.size _ ?_)
 ·have := run_range_map (P := P) w t tk te r A clock ht hA
  simp [execOp, ha.look hx, this]
 ·have hchg : Chg (mN r R S m none).S w (w.alloc (.mapIter (some r) clock #[] clock)) := Chg.alloc _ _
  have hold : ∀ b ∈ S, (w.alloc (.mapIter (some r) clock #[] clock)).heap[b]? = w.heap[b]? := fun b hb => Below.heap_alloc _ _ _ (hlt b hb)
  have hnin : w.heap.size ∉ S := fun hb => Nat.lt_irrefl _ (hlt _ hb)
  refine hst.upd j hj hchg ⟨mv, Ss, A, clock, clock, #[], clock, hr.loc hold, ?_, hE, heap_alloc_new _ _, hnin, hE.lt, Nat.le_refl _, Nat.le_refl _, ?_, fun _ _ _ e => (by cases e)⟩ (fun b hb => ?_) (List.nodup_cons.2 ⟨hnin, hr.nd⟩)
  ·rw [Below.heap_alloc _ _ _ (Array.getElem?_eq_some_iff.1 hA).1]; exact hA
  ·have e1 : (A.toList.zip m).filter (fun p => !(#[] : Array Nat).contains p.1.born) = A.toList.zip m := List.filter_eq_self.2 (fun x _ => by simp)
   rw [e1, List.map_snd_zip (by have := hE.len; have := hr.len; omega)]
  ·rcases List.mem_cons.1 hb with rfl | hb
   ·exact .inr (Nat.le_refl _)
   ·exact .inl hb
end
end Go.Sx
