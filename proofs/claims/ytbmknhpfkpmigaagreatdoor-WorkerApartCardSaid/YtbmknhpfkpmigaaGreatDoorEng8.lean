/- Texts Eng8, Wk of this proof. -/
import Derived.Test.YtbmknhpfkpmigaaGreatDoorEng4
set_option linter.unusedVariables false
set_option linter.unusedSimpArgs false
namespace Go.Sx
open Go.RowKit
section
variable {ρ : Type} {h : LH} {hs hs' hs1 hs2 : List H} {f : Option ρ} {r : ρ} {Fs Fs' : List Fa} {L L' : List Item} {fr : Fr} {P : Program} {B : Func} {N : Nat} {w0 : World} {Z : List Nat} {c x y : Code} {Q : Exit -> Act -> World -> Prop} {l : List Oper} {i : Nat} {e : Exit} {v : Value}
def zfm (j : Nat) : Nat -> Nat -> List Nat
 | 0, _ => []
 | m + 1, q => match Nat.beq q j with
  | true => zfm j m (q + 1)
  | false => q :: zfm j m (q + 1)
theorem GO.an {α : Type} {k j bytes : Nat} {T : TypeId} {R : Rp α} {one : ∀ w cs S x, R.own w cs S x -> zfi cs = true} {v1 v2 : Value} {S S2 : List Nat} {xs ys xs' ys' : List α} {q : Nat} {u : Unit} {Lq : Option Addr -> Nat -> List Nat -> List Item} {L1 : Option Addr -> Nat -> List Nat -> List Item}
  (hq : nth Fs q = some (.oe (room (xs.length + ys.length) bytes) u)) (hk : nth L k = some (nI T R v1 S xs' none)) (hj : nth L j = some (nI T R v2 S2 ys' none)) (hxx : KR xs' xs) (hyy : KR ys' ys) (hkj : KR (Nat.beq k j) false)
  (hc : KR (apC P l N fr i) (some (v1, v2, T))) (hel : KR (elB P T R.sz) (some bytes)) (hL : ∀ a c S', zdw L k (nI T R (.slice a (xs ++ ys).length c) S' (xs ++ ys) none) = some (Lq a c S')) (hL2 : ∀ a c S', zeL (Lq a c S') (zfm j L.length 0) [] = some (L1 a c S')) (hd : KR (zC (zfm j L.length 0)) true)
  (n : ∀ a c S', GO hs f r Fs (L1 a c S') ((dst l i, .slice a (xs ++ ys).length c) :: fr) P B N w0 Z l (i + 1) Q) : GO (.an q k j one :: hs) f r Fs L fr P B N w0 Z l i Q := ⟨fun w a s hk' => by
 have hu : room (xs.length + ys.length) bytes = some u := zq a hq
 have hxx := hxx.h
 have hyy := hyy.h
 subst hxx hyy
 have hc := hc.h
 unfold apC at hc
 split at hc
 ·rename_i d' x' y' t t' _ _ _ _ hok
  split at hc
  ·rename_i u' v' e' hb hx hy ht
   cases hc
   have hb := Nat.eq_of_beq_eq_true hb
   subst hb
   obtain ⟨d, hl, hg, hd', hN⟩ := xm hok
   simp only at hd'
   subst hd'
   refine OW.appN s k j hkj.h (by rw [<- zD]; exact hk) (by rw [<- zD]; exact hj) hl rfl hg hN hx hy ht (zgo hel.h) (zie hu) one fun v' S' w' s' => ?_
   have hlt : k < L.length := (zes.1 (by rw [<- zD]; exact hk)).1
   have hkj' := Nat.ne_of_beq_eq_false hkj.h
   have hget : ((L.set k (nI T R v' S' (xs' ++ ys') none)).set j zdr)[k]? = some (nI T R v' S' (xs' ++ ys') none) := by
    rw [List.getElem?_set_ne (Ne.symm hkj')]
    simp [hlt]
   obtain ⟨_, pa, pc, rfl⟩ := s'.nlen k hget
   have s2 := s'.keep (zfm j L.length 0) hd.h
   have e3 : sel ((L.set k (nI T R (.slice pa (xs' ++ ys').length pc) S' (xs' ++ ys') none)).set j zdr) (zfm j L.length 0) = L1 pa pc S' := by
    have h2 := xI (hL2 pa pc S')
    rw [List.append_nil, xP (hL pa pc S')] at h2
    rw [h2]
    have : ∀ (ids : List Nat), j ∉ ids -> sel ((L.set k (nI T R (.slice pa (xs' ++ ys').length pc) S' (xs' ++ ys') none)).set j zdr) ids = sel (L.set k (nI T R (.slice pa (xs' ++ ys').length pc) S' (xs' ++ ys') none)) ids := by
     intro ids
     induction ids with
     | nil => intro _; rfl
     | cons z ids ih =>
      intro hz
      simp only [List.mem_cons, not_or] at hz
      simp only [sel]
      rw [ih hz.2]
      simp only [List.getD_eq_getElem?_getD]
      rw [List.getElem?_set_ne hz.1]
    refine this _ ?_
    have : ∀ m q, j ∉ zfm j m q := by
     intro m
     induction m with
     | zero => intro q; simp [zfm]
     | succ m ih =>
      intro q
      unfold zfm
      split
      ·exact ih _
      ·rename_i hne
       simp only [List.mem_cons, not_or]
       exact ⟨fun e => by rw [e] at hne; simp at hne, ih _⟩
    exact this _ _
   rw [e3] at s2
   have h1 := (n pa pc S').o w' a s2 hk'
   rw [zay hl rfl] at h1
   exact h1
  ·cases hc
 ·cases hc⟩
structure znD {α : Type} (kss : List (List Pa)) (Fs : List Fa) (L : List Item) (R : Rp α) (js : List Nat) (css : List (List Value)) (ys : List α) : Prop where
 o : ∀ w0 Z w, zC js = true -> zbi w0 Z Fs -> St w0 Z w L -> ∃ Ss : List (List Nat), (zo5 R css Ss ys).Φ w /\ Ss.flatten.Nodup /\ ∀ b ∈ Ss.flatten, b ∈ fp (sel L js)
theorem znD.nil {α : Type} {R : Rp α} : znD [] Fs L R [] [] ([] : List α) := ⟨fun w0 Z w hd a s => ⟨[], ⟨rfl, rfl, fun i cs S x h => by simp at h⟩, List.nodup_nil, by simp⟩⟩
theorem znD.cons {α : Type} {ks : List Pa} {kss : List (List Pa)} {R : Rp α} {j1 j2 : List Nat} {cs : List Value} {css : List (List Value)} {y : α} {ys : List α} (h1 : vE ks Fs L R j1 cs y) (h2 : znD kss Fs L R j2 css ys) : znD (ks :: kss) Fs L R (j1 ++ j2) (cs :: css) (y :: ys) := ⟨fun w0 Z w hd a s => by
 obtain ⟨S1, o1, n1, f1⟩ := h1.o w0 Z w (zbK hd) a s
 obtain ⟨Ss, ⟨e1, e2, e3⟩, n2, f2⟩ := h2.o w0 Z w (zfl hd) a s
 refine ⟨S1 :: Ss, ⟨by simp [e1], by simp [e2], fun k c S x hc hS hx => ?_⟩, ?_, fun b hb => ?_⟩
 ·cases k with
  | zero =>
   simp only [List.getElem?_cons_zero, Option.some.injEq] at hc hS hx
   subst hc hS hx
   exact o1
  | succ k => exact e3 k c S x (by simpa using hc) (by simpa using hS) (by simpa using hx)
 ·rw [List.flatten_cons]
  exact List.nodup_append.2 ⟨n1, n2, fun a ha b hb e => by subst e; exact zhL s hd a (f1 a ha) (f2 a hb)⟩
 ·rw [zjd, znC]
  rw [List.flatten_cons] at hb
  rcases List.mem_append.1 hb with hb | hb
  ·exact .inl (f1 b hb)
  ·exact .inr (f2 b hb)⟩
theorem GO.ly {α : Type} {T : TypeId} {R : Rp α} {rest js : List Nat} {kss : List (List Pa)} {css : List (List Value)} {ys : List α} {Lr : List Item} {L1 : Nat -> List Nat -> List Item} (hS : znD kss Fs L R js css ys) (hr : zeL L rest [] = some Lr) (hc : KR (rwC l N fr i) (some ys.length)) (hm : KR css.length ys.length) (hb : KR (Nat.ble ys.length 9223372036854775807) true)
  (hs : KR (zhk fr ((rwP l i).map (·.2))) true) (hv : ∀ w, KR ((Instr.buildSlice (rwT l i) ys.length ((rwP l i).toArray.map fun (i, x) => (i, rho fr x))).run P w) (.ok (.slice (some ⟨w.heap.size, 0, none⟩) ys.length ys.length) (w.alloc (.cells (za3 (fit R.sz) css).toArray T))))
  (hd : KR (zC (js ++ rest)) true) (hL : ∀ g S', zaw Lr (nI T R (.slice (some ⟨g, 0, none⟩) ys.length ys.length) S' ys none) = some (L1 g S')) (n : ∀ g S', GO hs' f r Fs (L1 g S') ((dst l i, .slice (some ⟨g, 0, none⟩) ys.length ys.length) :: fr) P B N w0 Z l (i + 1) Q) : GO (.ly T R rest kss :: hs') f r Fs L fr P B N w0 Z l i Q := ⟨fun w a s e => by
 obtain ⟨Ss, o1, n1, f1⟩ := hS.o w0 Z w (zbK hd.h) a s
 have e0 := xI hr
 rw [List.append_nil] at e0
 subst e0
 have s2 := s.gather js rest hd.h (C := zo5 R css Ss ys) o1 n1 f1
 have hc := hc.h
 unfold rwC at hc
 split at hc
 ·rename_i d' t' n' ps _ _ _ _ ho
  obtain ⟨d, hl, hg, hd', hN⟩ := xm ho
  simp only at hd'
  subst hd'
  have hnn : n' = ys.length := by simpa using hc
  subst hnn
  have e1 : rwP l i = ps := by simp [rwP, hl]
  have e2 : rwT l i = t' := by simp [rwT, hl]
  rw [e1] at hs hv
  rw [e2] at hv
  refine OW.row (α := List Value) (enc := fit R.sz) (sz := R.sz) (ps := ps) s2 hl hg hN css hm.h (fun x => zad _ _) hb.h hs.h (fun w => (hv w).h) fun g w' s' => ?_
  have hlen : (sel L rest ++ [zo5 R css Ss ys]).length = (sel L rest).length + 1 := by simp
  obtain ⟨S', s3⟩ := s'.nOf (k := (sel L rest).length + 1) (j := (sel L rest).length) (sz := R.sz) (T := T) (R := R) (v := .slice (some ⟨g, 0, none⟩) ys.length ys.length) (css := css) (Ss := Ss) (xs := ys) (zpV (by omega)) rfl (by rw [List.append_assoc, List.getElem?_append_right (by omega)]; simp) (by rw [List.append_assoc, List.getElem?_append_right (by omega)]; simp)
  have e4 : ((sel L rest ++ [zo5 R css Ss ys] ++ [jW (.slice (some ⟨g, 0, none⟩) ys.length ys.length) T (fit R.sz) R.sz css]).set ((sel L rest).length + 1) (nI T R (.slice (some ⟨g, 0, none⟩) ys.length ys.length) S' ys none)).set (sel L rest).length zdr = sel L rest ++ [zdr, nI T R (.slice (some ⟨g, 0, none⟩) ys.length ys.length) S' ys none] := by
   rw [List.append_assoc, List.set_append_right _ _ (by omega), List.set_append_right _ _ (by omega)]
   simp
  rw [e4] at s3
  have s4 : St w0 Z w' (sel L rest ++ [nI T R (.slice (some ⟨g, 0, none⟩) ys.length ys.length) S' ys none]) := by
   refine s3.repart (fun k it hi => ?_) (fun p q A B hpq hp hq => ?_)
   ·rcases vD hi with ⟨h1, h2⟩ | ⟨h1, h2⟩
    ·have h3 : (sel L rest ++ [zdr, nI T R (.slice (some ⟨g, 0, none⟩) ys.length ys.length) S' ys none])[k]? = some it := by rw [List.getElem?_append_left h1]; exact h2
     exact ⟨s3.all k it h3, s3.nd k it h3, fun x hx => vW.2 ⟨k, it, h3, hx⟩⟩
    ·have h3 : (sel L rest ++ [zdr, nI T R (.slice (some ⟨g, 0, none⟩) ys.length ys.length) S' ys none])[(sel L rest).length + 1]? = some it := by
      rw [List.getElem?_append_right (by omega)]
      have hk0 : k - (sel L rest).length = 0 := by
       have := (zes.1 h2).1
       simp at this
       omega
      rw [hk0] at h2
      simp at h2 |-
      exact h2
     exact ⟨s3.all _ it h3, s3.nd _ it h3, fun x hx => vW.2 ⟨_, it, h3, hx⟩⟩
   ·have key : ∀ (p : Nat) (A : Item), (sel L rest ++ [nI T R (.slice (some ⟨g, 0, none⟩) ys.length ys.length) S' ys none])[p]? = some A -> (sel L rest ++ [zdr, nI T R (.slice (some ⟨g, 0, none⟩) ys.length ys.length) S' ys none])[if p < (sel L rest).length then p else p + 1]? = some A := by
     intro p A hp
     rcases vD hp with ⟨h1, h2⟩ | ⟨h1, h2⟩
     ·rw [if_pos h1, List.getElem?_append_left h1]; exact h2
     ·rw [if_neg (by omega), List.getElem?_append_right (by omega)]
      have := (zes.1 h2).1
      simp at this
      have e5 : p + 1 - (sel L rest).length = 1 := by omega
      have e6 : p - (sel L rest).length = 0 := by omega
      rw [e6] at h2
      rw [e5]
      simpa using h2
    refine s3.apart _ _ A B ?_ (key p A hp) (key q B hq)
    split <;> split <;> omega
  have h1 := (n g S').o w' a (by rw [za2 (hL g S')]; exact s4) e
  rw [zay hl rfl] at h1
  exact h1
 ·cases hc⟩
theorem GO.mN {α : Type} {bytes : Nat} {R : Rp α} {cs : List Value} {x : α} {hx : ∀ w, R.own w cs [] x} {nn : Int} {q m : Nat} {L1 : Nat -> List Nat -> List Item} (hq : nth Fs q = some (.oe (mkLen nn bytes) m)) (hc : KR (mkC P l N fr i) (some (nn, nn))) (ht : KR (zpD P l i) true) (hel : KR (elB P (mkT P l i) R.sz) (some bytes)) (h0 : KR ((zbk P (zeroValue (mkT P l i))).map (·.cells.toList)) (some (fit R.sz cs)))
  (hL : ∀ g S', zaw L (nI (mkT P l i) R (.slice (some ⟨g, 0, none⟩) m m) S' (List.replicate m x) none) = some (L1 g S'))
  (n : ∀ g S', GO hs f r Fs (L1 g S') ((dst l i, .slice (some ⟨g, 0, none⟩) m m) :: fr) P B N w0 Z l (i + 1) Q) : GO (.mN q R cs x hx :: hs) f r Fs L fr P B N w0 Z l i Q := ⟨fun w a s hk => by
 have hm : mkLen nn bytes = some m := zq a hq
 have hc := hc.h
 unfold mkC at hc
 split at hc
 ·rename_i d' t x' y' _ _ _ _ hok
  split at hc
  ·rename_i k1 a1 k2 b1 hx' hy'
   simp only [Option.some.injEq, Prod.mk.injEq] at hc
   obtain ⟨rfl, rfl⟩ := hc
   obtain ⟨d, hl, hg, hd, hN⟩ := xm hok
   simp only at hd
   subst hd
   have ht := ht.h
   unfold zpD at ht
   rw [hl] at ht
   simp only at ht
   split at ht
   ·rename_i e' hu
    have e2 : mkT P l i = e' := by simp [mkT, hl, hu]
    rw [e2] at hel h0 hL
    refine OW.make (α := List Value) (enc := fit R.sz) (sz := R.sz) s hl hg hN hx' hy' hu (zgo hel.h) cs h0.h (fun x => zad _ _) hm fun g w' s' => ?_
    have s2 := s'.nNew (n := m) (cs := cs) (v := .slice (some ⟨g, 0, none⟩) m m) (T := e') L.length R rfl (by simp) x hx
    rw [List.set_append_right _ _ (by simp)] at s2
    simp at s2
    have h1 := (n g _).o w' a (by rw [za2 (hL g _)]; exact s2) hk
    rw [zay hl rfl] at h1
    exact h1
   ·cases ht
  ·cases hc
 ·cases hc⟩
def srC (P : Program) (l : List Oper) (N : Nat) (fr : Fr) (i : Nat) : Option ByteArray := match okO l N fr i with
 | some ⟨_, .range t x, _, _, _, _⟩ => match P.underlying t, look fr x with
  | some .string, some (.string s) => some s
  | _, _ => none
 | _ => none
theorem GO.sg {L1 : Nat -> List Item} (hc : KR (srC P l N fr i).isSome true) (hL : ∀ it, zaw L (zk9 it ((srC P l N fr i).getD ByteArray.empty) 0) = some (L1 it)) (n : ∀ it, GO hs f r Fs (L1 it) ((dst l i, .pointer (some ⟨it, 0, none⟩)) :: fr) P B N w0 Z l (i + 1) Q) : GO (.sg :: hs) f r Fs L fr P B N w0 Z l i Q := ⟨fun w a st q => by
 have hc := hc.h
 cases hb : srC P l N fr i with
 | none => rw [hb] at hc; cases hc
 | some s' =>
  rw [hb] at hL
  unfold srC at hb
  split at hb
  ·rename_i ho
   split at hb
   ·rename_i h1 h2
    cases hb
    obtain ⟨d, hl, hg, hd, hN⟩ := xm ho
    simp only at hd
    subst hd
    refine OW.srange st hl hg hN h2 h1 fun it w' s2 => ?_
    have h3 := (n it).o w' a (by rw [za2 (hL it)]; exact s2) q
    rw [zay hl rfl] at h3
    exact h3
   ·cases hb
  ·cases hb⟩
def snC (l : List Oper) (N : Nat) (fr : Fr) (i : Nat) : Option Nat := match okO l N fr i with
 | some ⟨_, .next x true, _, _, _, _⟩ => match look fr x with
  | some (.pointer (some ⟨it, 0, none⟩)) => some it
  | _ => none
 | _ => none
theorem GO.sx {j it p : Nat} {s : ByteArray} {A A' : Option ρ} {L1 : List Item} (hj : nth L j = some (zk9 it s p)) (hc : KR (snC l N fr i) (some it)) (hL : zdw L j (zk9 it s (ze3 s p)) = some L1)
  (n1 : GO hs1 A r Fs L1 ((dst l i, .tuple [.bool true, .int .i64 (p : Int), .int .i32 (zil s p)].toArray) :: fr) P B N w0 Z l (i + 1) Q) (n2 : GO hs2 A' r Fs L ((dst l i, .tuple [.bool false].toArray) :: fr) P B N w0 Z l (i + 1) Q) :
  GO (.sx j hs1 hs2 :: hs) (@ite _ (decide (p < s.size) = true) (instDecidableEqBool (decide (p < s.size)) true) A A') r Fs L fr P B N w0 Z l i Q := ⟨fun w a st q => by
 have hc := hc.h
 unfold snC at hc
 split at hc
 ·rename_i ho
  split at hc
  ·rename_i hx
   cases hc
   obtain ⟨d, hl, hg, hd, hN⟩ := xm ho
   simp only at hd
   subst hd
   refine OW.snext st j (by rw [<- zD]; exact hj) hl hg hN hx (fun hp w' s2 => ?_) (fun hp => ?_)
   ·have h3 := n1.o w' a (by rw [xP hL]; exact s2) (zaS q hp)
    rw [zay hl rfl] at h3
    exact h3
   ·have h3 := n2.o w a st (zaT q hp)
    rw [zay hl rfl] at h3
    exact h3
  ·cases hc
 ·cases hc⟩
theorem Sim.sit {A B : List Item} {it : Nat} {s s' : ByteArray} {p p' : Nat} (h1 : KR s s') (h2 : KR p p') (n : Sim A B) : Sim (zk9 it s p :: A) (zk9 it s' p' :: B) := ⟨by rw [h1.h, h2.h, n.e]⟩
def clC (P : Program) (l : List Oper) (fr : Fr) (i : Nat) : Option (Nat × Nat × Nat × List Value) := match vU l i with
 | some ⟨none, .call ⟨.builtin .clear, ⟨[x]⟩, ⟨t :: ts⟩⟩, ty, pos, af, g⟩ => match gd l fr ⟨none, .call ⟨.builtin .clear, ⟨[x]⟩, ⟨t :: ts⟩⟩, ty, pos, af, g⟩, look fr x, P.underlying t with
  | some true, some (.slice (some ⟨b, k, none⟩) (n + 1) _), some (.slice e) => match zbk P (zeroValue e) with
   | some z => some (b, k, n + 1, (Builtin.zeroCells z.cells (n + 1)).toList)
   | none => none
  | _, _, _ => none
 | _ => none
theorem zmY {b k m : Nat} {vs : List Value} (h : clC P l fr i = some (b, k, m, vs)) : ∃ x t ts ty pos af g c e z n, vU l i = some ⟨none, .call ⟨.builtin .clear, ⟨[x]⟩, ⟨t :: ts⟩⟩, ty, pos, af, g⟩ /\ gd l fr ⟨none, .call ⟨.builtin .clear, ⟨[x]⟩, ⟨t :: ts⟩⟩, ty, pos, af, g⟩ = some true /\ look fr x = some (.slice (some ⟨b, k, none⟩) (n + 1) c) /\ P.underlying t = some (.slice e) /\ zbk P (zeroValue e) = some z /\ m = n + 1 /\ (Builtin.zeroCells z.cells (n + 1)).toList = vs := by
 unfold clC at h
 split at h
 ·rename_i hl
  split at h
  ·rename_i h1 h2 h3
   split at h
   ·rename_i h4
    cases h
    exact ⟨_, _, _, _, _, _, _, _, _, _, _, hl, h1, h2, h3, h4, rfl, rfl⟩
   ·cases h
  ·cases h
 ·cases h
def zs (P : Program) (l : List Oper) (fr : Fr) (i : Nat) : Nat -> Option (List Value)
 | 0 => some []
 | n + 1 => match zs P l fr i n with
  | some q => some ((match clC P l fr i with
   | some (_, _, _, v :: _) => v
   | _ => undef) :: q)
  | none => none
theorem GO.cp {j b k m : Nat} {T : TypeId} {A C cs vs cs' : List Value} {L1 : List Item} (hj : nth L j = some (zcb b T A cs C)) (hv : zs P l fr i m = some vs) (hs' : zb2 cs vs k = some cs') (hc : KR (clC P l fr i) (some (b, A.length + k, m, vs))) (h1 : KR (zfi vs) true) (h0 : KR (zla vs) true)
  (hL : zdw L j (zcb b T A cs' C) = some L1) (n : GO hs f r Fs L1 fr P B N w0 Z l (i + 1) Q) : GO (.cp j k m :: hs) f r Fs L fr P B N w0 Z l i Q := ⟨fun w a s q => by
 obtain ⟨x, t, ts, ty, pos, af, g, c, e, z, n', hl, hg, hx, ht, hz, rfl, hvs⟩ := zmY hc.h
 obtain ⟨e3, e4⟩ := zaJ hs' (by intro e5; have := h0.h; rw [e5] at this; cases this)
 refine OW.clearP (ats := t :: ts) s j (by rw [<- zD]; exact hj) hl hg k hx rfl ht hz vs hvs h1.h (Nat.ble_eq_true_of_le e4) cs' e3 fun w' s' => ?_
 exact n.o w' a (by rw [xP hL]; exact s') q⟩
theorem GO.bxe {T : TypeId} {cs : List Value} {L1 : Nat -> List Item} (hT : KR (opT l i) T) (hc : KR (zcg (bxC l N fr i)) (some cs)) (hL : ∀ b, zaw L (jD b T cs) = some (L1 b))
  (n : ∀ b, GO hs f r Fs (L1 b) ((dst l i, .pointer (some ⟨b, 0, none⟩)) :: fr) P B N w0 Z l (i + 1) Q) : GO (.bxe T cs :: hs) f r Fs L fr P B N w0 Z l i Q := ⟨fun w a s q => by
 obtain ⟨u, hu, hcs⟩ := zd7 hc.h
 unfold bxC at hu
 split at hu
 ·rename_i o' e' x' _ _ _ _ ho
  obtain ⟨d, hl, hg, hd, hN⟩ := xm ho
  simp only at hd
  subst hd
  refine OW.box s hl hg hN hu cs hcs fun b w' s' => ?_
  have h1 := (n b).o w' a (by
   rw [za2 (hL b)]
   have : opT l i = e' := by simp [opT, hl]
   rw [<- hT.h, this]; exact s') q
  rw [zay hl rfl] at h1
  exact h1
 ·cases hu⟩
theorem GO.ste {j k b m : Nat} {T : TypeId} {cs us cs' : List Value} {L1 : List Item} (hj : nth L j = some (jD b T cs)) (hs' : zb2 cs us k = some cs') (hm : us.length = m) (hw : KR (zcg (stV l fr i)) (some us)) (hc : KR (stC P l fr i m) (some ⟨b, k, none⟩))
  (h1 : KR (zfi us) true) (h0 : KR (zla us) true) (hL : zdw L j (jD b T cs') = some L1) (n : GO hs f r Fs L1 fr P B N w0 Z l (i + 1) Q) : GO (.ste j k us :: hs) f r Fs L fr P B N w0 Z l i Q := ⟨fun w a s q => by
 obtain ⟨t, x', y', ty, pos, af, g, u, hl, hg, hx, hy, hcv, hsz⟩ := zeD hc.h hw.h hm
 obtain ⟨e3, e4⟩ := zaJ hs' (by intro e5; have := h0.h; rw [e5] at this; cases this)
 refine OW.stB s j (by rw [<- zD]; exact hj) hl hg hx hy hsz (by rw [hcv]; exact h1.h) (by rw [hcv]; exact Nat.ble_eq_true_of_le e4) cs' (by rw [hcv]; exact e3) fun w' s' => ?_
 exact n.o w' a (by rw [xP hL]; exact s') q⟩
def reh (v : Value) : List Nat -> Fr -> Fr
 | [], fr => fr
 | q :: r, fr => (q, v) :: reh v r fr
def zkt (fr : Fr) : List Nat -> List (Option Value)
 | [] => []
 | q :: r => zc5 fr q :: zkt fr r
def zku (v : Value) : List Nat -> List (Option Value)
 | [] => []
 | _ :: r => some v :: zku v r
theorem zj0 {v : Value} {a : Act} (h : Rep N fr a) : ∀ {qs : List Nat}, zkt fr qs = zku v qs -> Rep N (reh v qs fr) a
 | [], _ => h
 | q :: r, e => by
  simp only [zkt, zku, List.cons.injEq] at e
  have ih := zj0 h e.2
  refine ⟨ih.size, ih.defers, fun i u hi => ?_⟩
  simp only [reh] at hi
  rw [zam] at hi
  split at hi
  ·rename_i hq
   subst hq
   cases hi
   exact h.get _ _ e.1
  ·exact ih.get i u hi
theorem _root_.Go.Sx.St.rlen {α : Type} {w : World} {j m c sz : Nat} {a : Option Addr} {T : TypeId} {enc : α -> List Value} {xs : List α} (s : St w0 Z w L) (hj : nth L j = some (jW (.slice a m c) T enc sz xs)) : m = xs.length := by
 obtain ⟨_, a', c', e⟩ := s.len j (by rw [<- zD]; exact hj)
 cases e; rfl
theorem _root_.Go.Sx.St.nlen' {α : Type} {w : World} {j m c : Nat} {a : Option Addr} {T : TypeId} {R : Rp α} {S : List Nat} {ho : Option (Nat × List Value)} {xs : List α} (s : St w0 Z w L) (hj : nth L j = some (nI T R (.slice a m c) S xs ho)) : m = xs.length := by
 obtain ⟨_, a', c', e⟩ := s.nlen j (by rw [<- zD]; exact hj)
 cases e; rfl
theorem zgq {α : Type} {L L1 : List α} {j : Nat} {x : α} (h : L[j]? = some x) (hL : zdw L j x = some L1) : L1 = L := by
 rw [xP hL]
 apply List.ext_getElem?
 intro k
 by_cases hk : j = k
 ·subst hk; rw [List.getElem?_set_self (zes.1 h).1, h]
 ·rw [List.getElem?_set_ne hk]
theorem Adm.nc {α : Type} {jb k j b m c sz : Nat} {a : Option Addr} {T T' : TypeId} {enc : α -> List Value} {xs : List α} {cs cs' : List Value} {L1 : List Item} (hj : nth L j = some (jW (.slice a m c) T' enc sz xs)) (hb : nth L jb = some (jD b T cs)) (hk : KR (nth cs k) (some (.slice a m c)))
  (hs : zdw cs k (.slice a xs.length c) = some cs') (hL : zdw L jb (jD b T cs') = some L1) : Adm (.nc jb k j) Fs L (fun _ : Unit => L1) (fun _ => Fs) := ⟨fun w0 Z w al s => ⟨(), by
 have hm := s.rlen hj
 have hk := hk.h
 rw [hm, zD] at hk
 have e1 := zgq hk hs
 subst e1
 rw [zgq (by rw [<- zD]; exact hb) hL]
 exact s, al⟩⟩
theorem Adm.nd {α : Type} {jb k j b m c : Nat} {a : Option Addr} {T T' : TypeId} {R : Rp α} {S : List Nat} {ho : Option (Nat × List Value)} {xs : List α} {cs cs' : List Value} {L1 : List Item} (hj : nth L j = some (nI T' R (.slice a m c) S xs ho)) (hb : nth L jb = some (jD b T cs)) (hk : KR (nth cs k) (some (.slice a m c)))
  (hs : zdw cs k (.slice a xs.length c) = some cs') (hL : zdw L jb (jD b T cs') = some L1) : Adm (.nd jb k j) Fs L (fun _ : Unit => L1) (fun _ => Fs) := ⟨fun w0 Z w al s => ⟨(), by
 have hm := s.nlen' hj
 have hk := hk.h
 rw [hm, zD] at hk
 have e1 := zgq hk hs
 subst e1
 rw [zgq (by rw [<- zD]; exact hb) hL]
 exact s, al⟩⟩
theorem GQ.nl {α : Type} {j m c sz : Nat} {qs : List Nat} {a : Option Addr} {T : TypeId} {enc : α -> List Value} {xs : List α} {L1 : List Item} (hj : nth L j = some (jW (.slice a m c) T enc sz xs)) (hq : KR (zkt fr qs) (zku (.slice a m c) qs))
  (hL : zdw L j (jW (.slice a xs.length c) T enc sz xs) = some L1) (n : GQ hs f r Fs L1 (reh (.slice a xs.length c) qs fr) P B N w0 Z e Q) : GQ (.nl j qs :: hs) f r Fs L fr P B N w0 Z e Q := ⟨fun w al s g b hb => by
 have hm := s.rlen hj
 have hq := hq.h
 rw [hm] at hq hj
 have e1 : L1 = L := by
  rw [xP hL]
  have hj' : L[j]? = some (jW (.slice a xs.length c) T enc sz xs) := by rw [<- zD]; exact hj
  apply List.ext_getElem?
  intro k
  by_cases hk : j = k
  ·subst hk; rw [List.getElem?_set_self (zes.1 hj').1, hj']
  ·rw [List.getElem?_set_ne hk]
 subst e1
 exact n.o w al s g b (zj0 hb hq)⟩
theorem GC.nl {α : Type} {j m c0 sz : Nat} {qs : List Nat} {a : Option Addr} {T : TypeId} {enc : α -> List Value} {xs : List α} {L1 : List Item} (hj : nth L j = some (jW (.slice a m c0) T enc sz xs)) (hq : KR (zkt fr qs) (zku (.slice a m c0) qs))
  (hL : zdw L j (jW (.slice a xs.length c0) T enc sz xs) = some L1) (n : GC hs f r Fs L1 (reh (.slice a xs.length c0) qs fr) P B N w0 Z c Q) : GC (.nl j qs :: hs) f r Fs L fr P B N w0 Z c Q := ⟨fun w al s g b hb => by
 have hm := s.rlen hj
 have hq := hq.h
 rw [hm] at hq hj
 have e1 : L1 = L := by
  rw [xP hL]
  have hj' : L[j]? = some (jW (.slice a xs.length c0) T enc sz xs) := by rw [<- zD]; exact hj
  apply List.ext_getElem?
  intro k
  by_cases hk : j = k
  ·subst hk; rw [List.getElem?_set_self (zes.1 hj').1, hj']
  ·rw [List.getElem?_set_ne hk]
 subst e1
 exact n.o w al s g b (zj0 hb hq)⟩
theorem GQ.nm {α : Type} {j m c : Nat} {qs : List Nat} {a : Option Addr} {T : TypeId} {R : Rp α} {S : List Nat} {ho : Option (Nat × List Value)} {xs : List α} {L1 : List Item} (hj : nth L j = some (nI T R (.slice a m c) S xs ho)) (hq : KR (zkt fr qs) (zku (.slice a m c) qs))
  (hL : zdw L j (nI T R (.slice a xs.length c) S xs ho) = some L1) (n : GQ hs f r Fs L1 (reh (.slice a xs.length c) qs fr) P B N w0 Z e Q) : GQ (.nm j qs :: hs) f r Fs L fr P B N w0 Z e Q := ⟨fun w al s g b hb => by
 have hm := s.nlen' hj
 have hq := hq.h
 rw [hm] at hq hj
 have e1 : L1 = L := by
  rw [xP hL]
  have hj' : L[j]? = some (nI T R (.slice a xs.length c) S xs ho) := by rw [<- zD]; exact hj
  apply List.ext_getElem?
  intro k
  by_cases hk : j = k
  ·subst hk; rw [List.getElem?_set_self (zes.1 hj').1, hj']
  ·rw [List.getElem?_set_ne hk]
 subst e1
 exact n.o w al s g b (zj0 hb hq)⟩
theorem Adm.shx {α β : Type} {j b : Nat} {ks : List Pa} {rest js : List Nat} {R : Rp α} {Lr : List Item} {T : TypeId} {cs vs : List Value} {ff : α -> List Value -> List Value} {sz : Nat} {hl : ∀ x vs, (ff x vs).length = sz} {g : α -> β} {A : Rp β} {x : α} {y : β} {L1 : List Nat -> List Item}
 (hj : nth L j = some (jD b T cs)) (hR : R = jC ff sz hl g A) (hS : vE ks Fs L A js vs y) (hy : g x = y) (hr : zeL L rest [] = some Lr) (hL : ∀ S, zaw Lr (itI (zbl T R) [.pointer (some ⟨b, 0, none⟩)] S x) = some (L1 S))
 (hd : KR (zC ((j :: js) ++ rest)) true) (hx : KR cs (ff x vs)) : Adm (.shx j ks rest R x) Fs L L1 (fun _ => Fs) := ⟨(Adm.sh hj hR hS hr hL hd hx ⟨hy⟩).o⟩
theorem Adm.s0x {α : Type} {j b sz : Nat} {T : TypeId} {enc : α -> List Value} {he : ∀ x, (enc x).length = sz} {cs : List Value} {x : α} {Lq : List Item} (hj : nth L j = some (jD b T cs)) (hL : zdw L j (itI (zbl T (ziZ enc sz he)) [.pointer (some ⟨b, 0, none⟩)] [b] x) = some Lq) (hx : KR cs (enc x)) :
 Adm (.s0x j enc sz x) Fs L (fun _ : Unit => Lq) (fun _ => Fs) := ⟨(Adm.s0 hj hL hx).o⟩
theorem LkV.pv {α : Type} {q n c : Nat} {a : Option Addr} {xs ys : List α} {hi : Int} {sz : Nat} (hcap : ∀ w0 Z w, zbi w0 Z Fs -> St w0 Z w L -> xs.length <= c) (hq : nth Fs q = some (.oe (cut xs 0 hi) ys)) (hc : cpC P l N fr i = some (.slice a n c, none, some hi, sz)) (w : World) (al : zbi w0 Z Fs) (s : St w0 Z w L) :
  ∃ o d, vU l i = some o /\ gd l fr o = some true /\ o.dst = some d /\ Nat.blt d N = true /\ ∀ a', Rep N fr a' -> (execOp a'.eval o).run P w = .ok (.value (.slice a ys.length c)) w := by
 unfold cpC at hc
 split at hc
 ·rename_i ho
  split at hc
  ·rename_i h1 h2
   split at hc
   ·rename_i hz
    split at hc
    ·split at hc
     ·rename_i h3
      cases hc
      obtain ⟨d, hl, hg, hd, hN⟩ := xm ho
      exact ⟨_, d, hl, hg, hd, hN, fun b hb => zmx sz rfl h2 h3 (zq al hq) (hcap w0 Z w al s) h1 hz b w hb⟩
     ·cases hc
    ·split at hc <;> cases hc
    ·split at hc <;> cases hc
    ·cases hc
   ·cases hc
  ·cases hc
 ·cases hc
theorem GO.pw {α : Type} {j q n c : Nat} {a : Option Addr} {T : TypeId} {enc : α -> List Value} {xs xs' ys : List α} {hi : Int} {sz : Nat} (hj : nth L j = some (jW (.slice a n c) T enc sz xs')) (hq : nth Fs q = some (.oe (cut xs 0 hi) ys)) (hxx : KR xs' xs) (hc : KR (cpC P l N fr i) (some (.slice a n c, none, some hi, sz)))
  (m : GO hs f r Fs L ((dst l i, .slice a ys.length c) :: fr) P B N w0 Z l (i + 1) Q) : GO (.pw j q :: hs) f r Fs L fr P B N w0 Z l i Q := ⟨fun w al s e => by
 obtain ⟨o, d, hl, hg, hd, hN, hr⟩ := LkV.pv (Fs := Fs) (L := L) (w0 := w0) (Z := Z) (fun w0 Z w a s => by rw [<- hxx.h]; exact s.cap j (by rw [<- zD]; exact hj)) hq hc.h w al s
 have h1 := m.o w al s e
 rw [zay hl hd] at h1
 exact OW.op hl hg hd hN hr h1⟩
theorem zpW {α : Type} {w : World} {j q n c sz : Nat} {a : Option Addr} {T : TypeId} {enc : α -> List Value} {xs xs' ys : List α} {hi t : Int} {x : α} {Fs1 : α -> Nat -> Nat -> List Fa} (hj : nth L j = some (jW (.slice a n c) T enc sz xs')) (hxx : KR xs' xs) (hq : nth Fs q = some (.oe (cut xs 0 hi) ys))
  (hF : ∀ x g o, zga Fs [.el (.slice a ys.length c) g o t ys x, .el (.slice a n c) g o t xs x] = some (Fs1 x g o)) (al : zbi w0 Z Fs) (s : St w0 Z w L) (hx : idx ys t = some x) : ∃ g o, zbi w0 Z (Fs1 x g o) := by
 have hj := hj
 rw [hxx.h] at hj
 have h2 : cut xs 0 hi = some ys := zq al hq
 have h3 := zoN h2 hx
 obtain ⟨g, o, cap, hv⟩ := s.rowv j (by rw [<- zD]; exact hj) h3
 refine ⟨g, o, zgD (hF x g o) al ⟨⟨hx, cap, ?_⟩, ⟨h3, cap, hv⟩, trivial⟩⟩
 cases hv
 rfl
theorem GO.vb {α : Type} {j q n c sz : Nat} {a : Option Addr} {T : TypeId} {enc : α -> List Value} {xs xs' ys : List α} {hi t : Int} {k : α -> Option ρ} {Fs1 : α -> Nat -> Nat -> List Fa} (hj : nth L j = some (jW (.slice a n c) T enc sz xs')) (hq : nth Fs q = some (.oe (cut xs 0 hi) ys)) (hxx : KR xs' xs)
  (hF : ∀ x g o, zga Fs [.el (.slice a ys.length c) g o t ys x, .el (.slice a n c) g o t xs x] = some (Fs1 x g o)) (m : ∀ x g o, GO hs (k x) r (Fs1 x g o) L fr P B N w0 Z l i Q) : GO (.vb j q :: hs) ((idx ys t).bind k) r Fs L fr P B N w0 Z l i Q := ⟨fun w al s e => by
 obtain ⟨x, hx, hk⟩ := zn e
 obtain ⟨g, o, h1⟩ := zpW hj hxx hq hF al s hx
 exact (m x g o).o w h1 s hk⟩
end
structure DG (κ : Type) where
 a : Nat
 s : List Nat
 k : κ
 u : Value
 t : List Nat
section
variable {α β γ ρ : Type} {Fs : List Fa} {L : List Item}
theorem zcD.dep {κ : Type} {q k2 n : Nat} {U : TypeId} {R1 : Rp α} {B : Rp β} {C : Value -> Rp γ} {hn : ∀ v, (C v).sz = n} {vs2 : κ -> β -> List Value} {its2 : κ -> β -> List Item} {fcs2 : κ -> β -> List Fa}
  (hz : KR n 1) (h2 : zcD [k2] q Fs B vs2 its2 fcs2) :
  zcD [8, k2] q Fs (zmF (zbl U R1) B C n hn) (fun (i : DG κ) y => .pointer (some ⟨i.a, 0, none⟩) :: (vs2 i.k y.2.1 ++ [i.u]))
   (fun i y => itI (zbl U R1) [.pointer (some ⟨i.a, 0, none⟩)] i.s y.1 :: (its2 i.k y.2.1 ++ [itI (C (.pointer (some ⟨i.a, 0, none⟩))) [i.u] i.t y.2.2])) (fun i y => fcs2 i.k y.2.1) := ⟨by
 rintro w0 Z w cs S y a ⟨v1, ⟨c1, d1, S1, R1', rfl, rfl, hd1, o1, ⟨c2, d2, S2, R2, rfl, rfl, hd2, o2, o3⟩⟩, hv1⟩
 have n1 := (zbl U R1).nd w c1 S1 y.1 o1
 have o1' := o1
 obtain ⟨b, cs', S', rfl, rfl, h3⟩ := o1'
 obtain rfl : v1 = .pointer (some ⟨b, 0, none⟩) := by simpa using hv1.symm
 have n3 := (C (.pointer (some ⟨b, 0, none⟩))).nd w d2 R2 y.2.2 o3
 have l3 := (C (.pointer (some ⟨b, 0, none⟩))).len w d2 R2 y.2.2 o3
 rw [hn, hz.h] at l3
 match d2, l3 with
 | [u], _ =>
 obtain ⟨i, rfl, p2, f2⟩ := h2.o w0 Z w _ _ _ a o2
 exact ⟨⟨b, b :: S', i, u, R2⟩, rfl, (vR.single o1 n1 rfl).app (p2.app (vR.single o3 n3 rfl) hd2) hd1, f2⟩⟩
theorem vE.dep {k k2 k3 : Pa} {n : Nat} {A : Rp α} {B : Rp β} {C : Value -> Rp γ} {hn : ∀ v, (C v).sz = n} {j1 j2 j3 : List Nat} {v1 : Value} {v2 v3 : List Value} {y1 : α} {y2 : β} {y3 : γ} (h1 : vE [k] Fs L A j1 [v1] y1) (h2 : vE [k2] Fs L B j2 v2 y2) (h3 : vE [k3] Fs L (C v1) j3 v3 y3) :
  vE [.s, k, k2, k3] Fs L (zmF A B C n hn) (j1 ++ (j2 ++ j3)) ([v1] ++ (v2 ++ v3)) (y1, (y2, y3)) := ⟨fun w0 Z w hd a s => by
 obtain ⟨S, o, nd, f⟩ := (vE.pair h1 (vE.pair h2 h3)).o w0 Z w hd a s
 exact ⟨S, ⟨v1, o, rfl⟩, nd, f⟩⟩
theorem vE.on {U : TypeId} {R : Rp α} : vE [.on] Fs L (zlc U R) [] [.pointer none] none := ⟨fun w0 Z w hd a s => ⟨[], ⟨rfl, rfl⟩, List.nodup_nil, by simp⟩⟩
theorem vE.os {j : Nat} {U : TypeId} {R : Rp α} {v : Value} {S : List Nat} {y : α} (hj : nth L j = some (itI (zbl U R) [v] S y)) : vE [.os j] Fs L (zlc U R) [j] [v] (some y) :=
 vE.item hj fun w ho => ho
end
section
variable {α ρ κ : Type} {hs : List H} {f : Option ρ} {r : ρ} {Fs : List Fa} {L : List Item} {fr : Fr} {P : Program} {B : Func} {N : Nat} {w0 : World} {Z : List Nat} {Q : Exit -> Act -> World -> Prop} {l : List Oper} {i : Nat} {Fs1 : DG κ -> List Fa} {L1 : DG κ -> List Item}
theorem GO.dg (n : ∀ a s k u t, GO hs f r (Fs1 ⟨a, s, k, u, t⟩) (L1 ⟨a, s, k, u, t⟩) fr P B N w0 Z l i Q) (q : DG κ) : GO hs f r (Fs1 q) (L1 q) fr P B N w0 Z l i Q := n q.a q.s q.k q.u q.t
theorem GS.dg {c : Nat} {m : Bool} (n : ∀ a s k u t, GS hs f r (Fs1 ⟨a, s, k, u, t⟩) (L1 ⟨a, s, k, u, t⟩) fr P B N w0 Z l i c m Q) (q : DG κ) : GS hs f r (Fs1 q) (L1 q) fr P B N w0 Z l i c m Q := n q.a q.s q.k q.u q.t
theorem GC.dg {c : Code} (n : ∀ a s k u t, GC hs f r (Fs1 ⟨a, s, k, u, t⟩) (L1 ⟨a, s, k, u, t⟩) fr P B N w0 Z c Q) (q : DG κ) : GC hs f r (Fs1 q) (L1 q) fr P B N w0 Z c Q := n q.a q.s q.k q.u q.t
theorem GQ.dg {e : Exit} (n : ∀ a s k u t, GQ hs f r (Fs1 ⟨a, s, k, u, t⟩) (L1 ⟨a, s, k, u, t⟩) fr P B N w0 Z e Q) (q : DG κ) : GQ hs f r (Fs1 q) (L1 q) fr P B N w0 Z e Q := n q.a q.s q.k q.u q.t
end
section
variable {α ρ : Type} {hs : List H} {r : ρ} {Fs : List Fa} {L : List Item} {fr : Fr} {P : Program} {B : Func} {N : Nat} {w0 : World} {Z : List Nat} {Q : Exit -> Act -> World -> Prop} {l : List Oper} {i j : Nat} {U : TypeId} {R : Rp α} {u : Value} {S : List Nat} {o : Option α} {k : α -> Option ρ} {L1 : α -> List Item}
theorem zj1 {w : World} {y : α} (hj : nth L j = some (itI (zlc U R) [u] S o)) (hL : zdw L j (itI (zbl U R) [u] S y) = some (L1 y)) (s : St w0 Z w L) (hy : o = some y) : St w0 Z w (L1 y) /\ ∃ b, u = .pointer (some ⟨b, 0, none⟩) := by
 have hj' : L[j]? = some (itI (zlc U R) [u] S o) := by rw [<- zD]; exact hj
 have s2 := s.optSome j hj' hy
 have hb := s2.fptr (U := U) (R := R) (u := u) (x := y) j (by rw [List.getElem?_set_self (zes.1 hj').1])
 rw [<- xP hL] at s2
 exact ⟨s2, hb⟩
theorem GO.fo (hj : nth L j = some (itI (zlc U R) [u] S o)) (hL : ∀ y, zdw L j (itI (zbl U R) [u] S y) = some (L1 y)) (n : ∀ y b, u = .pointer (some ⟨b, 0, none⟩) -> GO hs (k y) r Fs (L1 y) fr P B N w0 Z l i Q) : GO (.fo j :: hs) (o.bind k) r Fs L fr P B N w0 Z l i Q := ⟨fun w a s q => by
 obtain ⟨y, hy, hk⟩ := zn q
 obtain ⟨s2, b, hb⟩ := zj1 hj (hL y) s hy
 exact (n y b hb).o w a s2 hk⟩
theorem GS.fo {c : Nat} {m : Bool} (hj : nth L j = some (itI (zlc U R) [u] S o)) (hL : ∀ y, zdw L j (itI (zbl U R) [u] S y) = some (L1 y)) (n : ∀ y b, u = .pointer (some ⟨b, 0, none⟩) -> GS hs (k y) r Fs (L1 y) fr P B N w0 Z l i c m Q) : GS (.fo j :: hs) (o.bind k) r Fs L fr P B N w0 Z l i c m Q := ⟨fun w a s q => by
 obtain ⟨y, hy, hk⟩ := zn q
 obtain ⟨s2, b, hb⟩ := zj1 hj (hL y) s hy
 exact (n y b hb).o w a s2 hk⟩
theorem GC.fo {c : Code} (hj : nth L j = some (itI (zlc U R) [u] S o)) (hL : ∀ y, zdw L j (itI (zbl U R) [u] S y) = some (L1 y)) (n : ∀ y b, u = .pointer (some ⟨b, 0, none⟩) -> GC hs (k y) r Fs (L1 y) fr P B N w0 Z c Q) : GC (.fo j :: hs) (o.bind k) r Fs L fr P B N w0 Z c Q := ⟨fun w a s q => by
 obtain ⟨y, hy, hk⟩ := zn q
 obtain ⟨s2, b, hb⟩ := zj1 hj (hL y) s hy
 exact (n y b hb).o w a s2 hk⟩
theorem GP.fo {done eff : List Nat} {pd : List (Nat × Pn)} (hj : nth L j = some (itI (zlc U R) [u] S o)) (hL : ∀ y, zdw L j (itI (zbl U R) [u] S y) = some (L1 y)) (n : ∀ y b, u = .pointer (some ⟨b, 0, none⟩) -> GP hs (k y) r Fs (L1 y) fr P B N w0 Z l done eff pd Q) : GP (.fo j :: hs) (o.bind k) r Fs L fr P B N w0 Z l done eff pd Q := ⟨fun w a s q => by
 obtain ⟨y, hy, hk⟩ := zn q
 obtain ⟨s2, b, hb⟩ := zj1 hj (hL y) s hy
 exact (n y b hb).o w a s2 hk⟩
end
end Go.Sx
namespace Go.Sx
theorem wk {ρ : Type} {P : Program} {N : Nat} {c : Code} {f : Option ρ} {k : FuncId} {args : List Value} {Fs : List Fa} {L : List Item} {R : World -> List Nat -> ρ -> Ending -> World -> Prop} {fn : Func} (hf : P.funcs[k]? = some fn) (hs : List H)
  (hb : fn.body = some c := by rfl) (hN : fn.ntmps = N := by rfl) (hz : Nat.ble args.length N = true := by kernel_rfl)
  (n : ∀ w0 Z r, GC hs f r Fs L (zhE 0 args) P fn N w0 Z c (bodyPost P fn (R w0 Z r)) := by
   repeat' (first
    | exact rfl
    | (refine KR.mk ?_; kernel_rfl)
    | (apply GO.dg; intro _ _ _ _ _) | (apply GC.dg; intro _ _ _ _ _) | (apply GQ.dg; intro _ _ _ _ _) | (apply GS.dg; intro _ _ _ _ _)
    | (refine GO.fo (by exact rfl) (fun _ => by exact rfl) ?_; intro _ _ e; subst e) | (refine GC.fo (by exact rfl) (fun _ => by exact rfl) ?_; intro _ _ e; subst e) | (refine GS.fo (by exact rfl) (fun _ => by exact rfl) ?_; intro _ _ e; subst e) | (refine GP.fo (by exact rfl) (fun _ => by exact rfl) ?_; intro _ _ e; subst e)
    | intro _
    | (apply Nf.mk; (try dsimp only); (try exact rfl))
    | apply GO.p | apply GO.k | apply GO.km | apply GO.kv | apply GQ.mt | apply GQ.ms | apply GQ.bk | apply GQ.bg | apply GQ.next | apply GC.dk | apply GC.ds | apply GC.dn | apply GC.ad | apply GC.seq | apply GC.block | apply GC.skip | apply GC.exit | apply GC.ret | apply GC.ck | apply GC.cs | apply GC.scB | apply GC.rgB | apply GO.nil
    | apply Cel.ld | apply Cel.le | apply LkV.ix | apply Cel.lr | apply ziq.lE | apply ziq.lN | apply ziq.lR
    | apply GC.plB | apply GP.p | apply GP.l1 | apply GP.lm | apply GP.lv | apply GP.ac | apply GP.a2 | apply GO.nx | apply GP.fin | apply GP.sp | apply GP.bi | apply GP.bo | apply GP.ad | apply zi6.nil | apply zi6.kq | apply zi6.c1 | apply zi6.n1 | apply Adm.nn | apply Adm.o0 | apply Adm.s0
    | apply GO.ca | apply Giv.nil | apply Giv.rf | apply Giv.ro
    | apply GC.br | apply GO.bi | apply GO.bo
    | apply GQ.then_ret | apply GQ.block_ret | apply GQ.then_exit | apply GQ.block_here | apply GQ.block_normal
    | apply GQ.rt | apply GQ.pop | apply Ex.u | apply Ex.p | apply Ln.s | apply Ln.t | apply Ln.k | apply Sim.nil | apply Sim.part | apply Sim.blk | apply Sim.row | apply Sim.itU | apply Sim.nrow
    | apply GC.lb | apply GC.lc | apply GC.ct | apply GC.cf
    | apply GO.st | apply GO.al | apply GO.bx | apply GO.sp | apply GS.sp | apply GQ.rc1 | apply GQ.rc2 | apply RV.t | apply RV.cN | apply GQ.re | apply GQ.r0 | apply Giv.rb | apply Giv.rc | apply GC.lg | apply zmM.nil | apply Bn.f1 | apply Bn.oo | apply Bn.l1 | apply Bn.r1 | apply Bn.n1 | apply Bn.c1
    | apply GO.ad | apply GQ.ad | apply GS.ad | apply Adm.kp | apply Adm.nr | apply Adm.op | apply Adm.sh | apply zcD.dep | apply zcD.pair | apply zcD.row | apply zcD.ptr | apply zcD.bor | apply vE.dep | apply vE.on | apply vE.os | apply vE.pair | apply vE.row | apply vE.bor | apply vE.it
    | apply GO.sr | apply GO.rw | apply GO.ap | apply GO.mkS | apply znX.sf | apply znX.so
    | apply GO.be | apply GS.be | apply GP.be | apply GC.be | apply LkV.qu | apply LkV.re | apply LkV.hl | apply LkV.hr | apply LkV.hc | apply LkV.hd | apply LkV.si | apply LkV.ad | apply LkV.sq | apply LkV.sn | apply LkV.cp | apply LkV.cu | apply Adm.fp | apply Adm.fu
    | apply CF.b1 | apply zlh.nil | apply zlh.u | apply Giv.bj | apply LkV.sA | apply LkV.sU | apply Giv.ru | apply LkV.nz | apply GC.nb | apply LkV.al | apply LkV.af | apply LkV.at | apply GO.bt | apply Cel.cc | apply Cel.ca | apply ziq.cA | apply CF.o1 | apply CF.p1 | apply CF.r1 | apply GO.sa | apply GO.sra | apply GO.srw | apply GO.spa | apply Adm.pt
    | apply LvR.c1 | apply LvR.nil
    | apply GO.eo | apply GS.p | apply GS.k | apply GS.km | apply GS.kv | apply GS.bi | apply GS.bo | apply GS.fin | apply GS.on | apply GC.stB | apply GC.tlB
    | (refine GO.fx (by assumption) ?_) | (refine GC.fx (by assumption) ?_) | (refine GQ.fx (by assumption) ?_) | (refine GS.fx (by assumption) ?_) | (refine GP.fx (by assumption) ?_)
    | apply GO.co | apply GO.ce | apply GO.cn | apply GQ.rn | apply GQ.rs | apply zi7.nil | apply zi7.b | apply zi7.p | apply zi7.t | apply Giv.dn | apply Giv.oN
    | apply GO.bd | apply zlj.row | apply Cel.ce
    | apply GO.bn | apply Adm.no | apply Adm.nb0 | apply Cel.nh | apply GO.sm
    | apply GO.an | apply GO.ly | apply znD.nil | apply znD.cons | apply GO.mN | apply GO.sg | apply GO.sx | apply Sim.sit | apply GO.cp | apply GO.pw | apply GO.bxe | apply GO.ste | apply GQ.nl | apply GC.nl | apply GQ.nm | apply Adm.shx | apply Adm.nc | apply Adm.s0x | apply GO.vb
    | (apply zpN.mk; apply_assumption) | (apply zoV.mk; apply_assumption) | (apply zqi.mk; intro h wb Sb; apply (h wb Sb)))) : zoQ P k args Fs L f R := zoQ.start hs hf hb hN ⟨hz⟩ n
end Go.Sx
