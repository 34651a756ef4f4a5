import Derived.Test.YtgmmfjpmahcocaaGreatDoorLib
import Derived.ProofKit
import Derived.SizedLaws
import Derived.Deep.Slices
set_option linter.unusedSimpArgs false
set_option linter.unusedVariables false
namespace Go.Sx
open Go.ChangeShapes Go.WideShapes Go.ChangeAt Go.RowKit
def Dec {α : Type} (P : Program) (t : TypeId) (D : World -> List Nat -> α -> List Value -> Prop) (G : α -> Prop) : Prop :=
 ∀ (H : Type) (enc : TypeId × Value -> H) (w : World) (base : Nat) (spare : Nat -> Bool) (held : Bool) (fuel : Nat) (cs : List Value) (x : DataW H × List MemPlace),
  DataW.trod enc P w base spare held fuel t cs = some x -> (∀ n ∈ x.1.weights P t, n <= reachBytes) -> ∃ a, D w [] a cs /\ G a
theorem Dec.int {P : Program} {t : TypeId} {k : IntKind} (hu : P.underlying t = some (.int k)) : Dec P t (fun _ _ (a : Int) cs => cs = zx k a) (fun a => (Lit.int k a).wf = true) := by
 intro H enc w base spare held fuel cs x h _
 obtain ⟨n, rfl, _, hw⟩ := DataW.trod_int hu h
 exact ⟨n, rfl, hw⟩
theorem Dec.bool {P : Program} {t : TypeId} (hu : P.underlying t = some .bool) : Dec P t (fun _ _ (a : Bool) cs => cs = za8 a) (fun _ => True) := by
 intro H enc w base spare held fuel cs x h _
 obtain ⟨n, rfl, _⟩ := DataW.trod_bool hu h
 exact ⟨n, rfl, trivial⟩
theorem Dec.string {P : Program} {t : TypeId} (hu : P.underlying t = some .string) : Dec P t (fun _ _ (a : ByteArray) cs => cs = zmU a) (fun a => a.size <= reachBytes) := by
 intro H enc w base spare held fuel cs x h hw
 obtain ⟨n, rfl, rfl, _⟩ := DataW.trod_string hu h
 have := hw n.data.toList.length (by simp [DataW.weights])
 exact ⟨n, rfl, by simpa using this⟩
theorem Dec.mono {α : Type} {P : Program} {t : TypeId} {D D' : World -> List Nat -> α -> List Value -> Prop} {G G' : α -> Prop} (h : Dec P t D G) (hD : ∀ w a cs, D w [] a cs -> D' w [] a cs) (hG : ∀ a, G a -> G' a) : Dec P t D' G' := by
 intro H enc w base spare held fuel cs x hx hw
 obtain ⟨a, h1, h2⟩ := h H enc w base spare held fuel cs x hx hw
 exact ⟨a, hD _ _ _ h1, hG _ h2⟩
theorem zfa {H : Type} {P : Program} {e : TypeId} : ∀ {l : List (DataW H)} {d : DataW H}, d ∈ l -> ∀ n ∈ d.weights P e, n ∈ DataW.weightsAll P e l
 | [], _, h, _, _ => absurd h List.not_mem_nil
 | a :: r, d, h, n, hn => by
  unfold DataW.weightsAll
  rcases List.mem_cons.1 h with rfl | h
  ·exact List.mem_append_left _ hn
  ·exact List.mem_append_right _ (zfa h n hn)
theorem zeD {H : Type} {P : Program} : ∀ {ts : List TypeId} {ds : List (DataW H)} {i : Nat} {t : TypeId} {d : DataW H}, ts[i]? = some t -> ds[i]? = some d -> ∀ n ∈ d.weights P t, n ∈ DataW.weightsEach P ts ds
 | [], _, _, _, _, h, _, _, _ => by simp at h
 | _ :: _, [], _, _, _, _, h, _, _ => by simp at h
 | a :: r, b :: q, 0, t, d, h1, h2, n, hn => by
  simp at h1 h2
  subst h1; subst h2
  unfold DataW.weightsEach
  exact List.mem_append_left _ hn
 | a :: r, b :: q, i + 1, t, d, h1, h2, n, hn => by
  unfold DataW.weightsEach
  exact List.mem_append_right _ (zeD (i := i) (by simpa using h1) (by simpa using h2) n hn)
theorem cells?_at {w : World} {base : Nat} {a : Addr} {n : Nat} {cs : List Value} (h : w.cells? base a n = some cs) : cs.length = n /\ ∀ (f : Nat) (u : Value), cs[f]? = some u -> w.cell? (a.add f) = some u := by
 obtain ⟨_, hl, hx⟩ := World.cells?_some h
 refine ⟨hl, fun f u hu => ?_⟩
 have hf : f < n := by have := (List.getElem?_eq_some_iff.1 hu).1; omega
 first
  | exact (hx f hf).trans hu
  | exact (hx f hf).trans (by simpa using hu)
theorem zmd {a : Addr} (hs : a.spot = none) (m n : Nat) : (a.add m).add n = ⟨a.block, a.off + m + n, none⟩ := by
 obtain ⟨b, o, s⟩ := a
 cases hs
 unfold Addr.add
 by_cases h1 : m = 0
 ·subst h1
  by_cases h2 : n = 0
  ·subst h2; simp
  ·simp [h2]
 ·by_cases h2 : n = 0
  ·subst h2; simp [h1]
  ·simp [h1, h2]
theorem zgi {α : Type} {p : Nat -> α -> Prop} : ∀ n : Nat, (∀ i, i < n -> ∃ a, p i a) -> ∃ xs : List α, xs.length = n /\ ∀ i x, xs[i]? = some x -> p i x
 | 0, _ => ⟨[], rfl, fun i x h => by simp at h⟩
 | n + 1, h => by
  obtain ⟨xs, h1, h2⟩ := zgi n (fun i hi => h i (by omega))
  obtain ⟨a, ha⟩ := h n (by omega)
  refine ⟨xs ++ [a], by simp [h1], fun i x hx => ?_⟩
  rcases Nat.lt_or_ge i n with hi | hi
  ·rw [List.getElem?_append_left (by omega)] at hx
   exact h2 i x hx
  ·rw [List.getElem?_append_right (by omega)] at hx
   have e : i = n := by
    have := (List.getElem?_eq_some_iff.1 hx).1
    simp at this
    omega
   subst e
   simp [h1] at hx
   subst hx
   exact ha
theorem Dec.sliceN {α : Type} {P : Program} {t e : TypeId} {D : World -> List Nat -> α -> List Value -> Prop} {G : α -> Prop} {sz bytes : Nat} (hd : Dec P e D G) (hu : P.underlying t = some (.slice e)) (hc : P.cellsOf e = sz) (hsz : 0 < sz) (hb : P.bytesOf e = bytes) :
  Dec P t (fun w S (xs : List α) cs => ∃ v, cs = [v] /\ RdN w S v D sz xs) (fun xs => xs.length * bytes <= reachBytes /\ ∀ x ∈ xs, G x) := by
 intro H enc w base spare held fuel cs x h hw
 rcases Go.Deep.open_slice hu h with ⟨rfl, rfl⟩ | ⟨a, len, cap, m, n, Dt, Pl, rfl, _, hl, hm, rfl, rfl, hx⟩
 ·exact ⟨[], ⟨_, rfl, by simp, none, 0, rfl, by simp, fun t x hx => by simp at hx⟩, by simp, fun x hx => absurd hx List.not_mem_nil⟩
 rw [hc] at hx
 have hle : len <= (if spare a.block then cap else len) := by split <;> omega
 unfold DataW.weights at hw
 simp only [hu] at hw
 obtain ⟨xs, hxl, hxs⟩ := zgi (p := fun i y => G y /\ ∃ cs, D w [] y cs /\ w.cells? base (a.add (i * sz)) sz = some cs) len (fun i hi => by
  obtain ⟨cs, h1, h2⟩ := hx i (by omega)
  obtain ⟨y, hD, hG⟩ := hd H enc w base spare held n cs _ h2 (fun k hk => hw k (List.mem_cons_of_mem _ (List.mem_append_left _ (zfa (d := Dt i) (List.mem_map.2 ⟨i, by simpa using hi, rfl⟩) k hk))))
  exact ⟨y, hG, cs, hD, h1⟩)
 have h0 := hw _ List.mem_cons_self
 simp only [List.length_map, List.length_range, hb] at h0
 have hlb : len * bytes <= reachBytes := Nat.le_trans (Nat.mul_le_mul_right _ (by omega)) h0
 refine ⟨xs, ⟨_, rfl, ?_, some a, cap, by rw [hxl], by rw [hxl]; exact hl, fun i y hy => ?_⟩, by rw [hxl]; exact hlb, fun y hy => ?_⟩
 ·unfold maxLen at hm
  omega
 ·obtain ⟨_, cs, hD, hcs⟩ := hxs i y hy
  have hi : i < len := by have := (List.getElem?_eq_some_iff.1 hy).1; omega
  have hsp : a.spot = none := by
   obtain ⟨cs0, h1, _⟩ := hx 0 (by omega)
   obtain ⟨hl0, hc0⟩ := cells?_at h1
   have := hc0 0 cs0[0] (List.getElem?_eq_getElem (by omega))
   rw [Nat.zero_mul] at this
   simpa [Addr.add] using World.cell?_spot this
  refine ⟨cs, hD, a.block, a.off, ?_, by simp, fun f u hu => ?_⟩
  ·obtain ⟨b, o, s⟩ := a
   cases hsp
   rfl
  ·have := (cells?_at hcs).2 f u hu
   rw [zmd hsp] at this
   exact this
 ·obtain ⟨i, hi⟩ := List.mem_iff_getElem?.1 hy
  exact (hxs i y hi).1
theorem Dec.slice {α : Type} {P : Program} {t e : TypeId} {enc : α -> List Value} {G : α -> Prop} {sz bytes : Nat} (hd : Dec P e (fun _ _ a cs => cs = enc a) G) (hu : P.underlying t = some (.slice e)) (hc : P.cellsOf e = sz) (hsz : 0 < sz) (hb : P.bytesOf e = bytes) :
  Dec P t (fun w S (xs : List α) cs => ∃ v, cs = [v] /\ Rd w S v enc sz xs) (fun xs => xs.length * bytes <= reachBytes /\ ∀ x ∈ xs, G x) := by
 refine (Dec.sliceN hd hu hc hsz hb).mono ?_ (fun _ h => h)
 rintro w xs cs ⟨v, rfl, h1, a, c, rfl, hlc, h2⟩
 refine ⟨_, rfl, h1, a, c, rfl, hlc, fun t x f u hx hu => ?_⟩
 obtain ⟨cs, rfl, b, o, h3, h4, h5⟩ := h2 t x hx
 exact ⟨b, o, h3, h4, h5 f u hu⟩
theorem Dec.struct {P : Program} {t : TypeId} {fs : Array Field} {H : Type} {enc : TypeId × Value -> H} {w : World} {base : Nat} {spare : Nat -> Bool} {held : Bool} {fuel : Nat} {cs : List Value} {x : DataW H × List MemPlace}
  (hu : P.underlying t = some (.struct fs)) (h : DataW.trod enc P w base spare held fuel t cs = some x) (hw : ∀ n ∈ x.1.weights P t, n <= reachBytes) :
  cs.length = P.cellsOf t /\ ∀ (α : Type) (D : World -> List Nat -> α -> List Value -> Prop) (G : α -> Prop) (i : Nat) (f : Field), fs[i]? = some f -> Dec P f.type D G -> ∃ a, D w [] a ((cs.drop f.offset).take (P.cellsOf f.type)) /\ G a := by
 obtain ⟨xs, n, _, rfl, hl, hlen, hf⟩ := DataW.trod_struct hu h
 refine ⟨hl, fun α D G i f hi hd => ?_⟩
 have h1 := hf i f hi
 have hil : i < xs.length := by have := (Array.getElem?_eq_some_iff.1 hi).1; omega
 rw [List.getElem?_eq_getElem hil] at h1
 unfold DataW.weights at hw
 simp only [hu] at hw
 refine hd H enc w base spare held n _ _ h1 (fun k hk => hw k (zeD (i := i) (t := f.type) (d := xs[i].1) ?_ ?_ k hk))
 ·rw [List.getElem?_map, Array.getElem?_toList, hi]; rfl
 ·rw [List.getElem?_map, List.getElem?_eq_getElem hil]; rfl
def zn1 (P : Program) (t : TypeId) : List (TypeId × Nat × Nat) := match P.underlying t with
 | some (.struct fs) => fs.toList.map (fun f => (f.type, f.offset, P.cellsOf f.type))
 | _ => []
theorem Dec.parts {P : Program} {t : TypeId} {L : List (TypeId × Nat × Nat)} {H : Type} {enc : TypeId × Value -> H} {w : World} {base : Nat} {spare : Nat -> Bool} {held : Bool} {fuel : Nat} {cs : List Value} {x : DataW H × List MemPlace}
  (hu : zn1 P t = L) (hne : L ≠ []) (h : DataW.trod enc P w base spare held fuel t cs = some x) (hw : ∀ n ∈ x.1.weights P t, n <= reachBytes) :
  cs.length = P.cellsOf t /\ ∀ (α : Type) (D : World -> List Nat -> α -> List Value -> Prop) (G : α -> Prop) (i T o c : Nat), L[i]? = some (T, o, c) -> Dec P T D G -> ∃ a, D w [] a ((cs.drop o).take c) /\ G a := by
 unfold zn1 at hu
 split at hu
 ·rename_i fs hfs
  obtain ⟨h1, h2⟩ := Dec.struct hfs h hw
  refine ⟨h1, fun α D G i T o c hi hd => ?_⟩
  rw [<- hu, List.getElem?_map, Array.getElem?_toList] at hi
  cases hf : fs[i]? with
  | none => rw [hf] at hi; cases hi
  | some f =>
   rw [hf] at hi
   cases hi
   exact h2 α D G i f hf hd
 ·exact absurd hu.symm hne
theorem St.zero (w : World) : St w [] w [] := ⟨Chg.refl _ _, fun i it h => by simp at h, fun i it h => by simp at h, fun i j a b _ h => by simp at h, fun i it h => by simp at h⟩
theorem zfb {H : Type} {enc : TypeId × Value -> H} {P : Program} (hl : laidOutB P = true) {W W' : World} (hb : Below W.heap.size W W') :
  ∀ {ts : List TypeId} {vs : List Value} {ds : List (DataW H)} {ps : List MemPlace}, ts.all (fun t => P.readableRec t && decide (t < P.types.size)) = true ->
   DataW.TrodAll enc P W 0 (fun _ => true) true ts vs ds ps -> (∀ x ∈ ps, x.block < W.heap.size) ->
   DataW.TrodAll enc P W' 0 (fun b => decide (b < W.heap.size)) true ts vs ds ps
 | [], [], [], _, _, h, _ => h
 | [], [], _ :: _, _, _, h, _ => h.elim
 | [], _ :: _, _, _, _, h, _ => h.elim
 | _ :: _, [], _, _, _, h, _ => h.elim
 | _ :: _, _ :: _, [], _, _, h, _ => h.elim
 | t :: ts, v :: vs, d :: ds, ps, ht, h, hlt => by
  obtain ⟨p, q, h1, h2, rfl⟩ := h
  simp only [List.all_cons, Bool.and_eq_true, decide_eq_true_eq] at ht
  exact ⟨p, q, Below.trod hl ht.1.1 ht.1.2 h1 hb (fun x hx => hlt x (List.mem_append_left _ hx)), zfb hl hb ht.2 h2 (fun x hx => hlt x (List.mem_append_right _ hx)), rfl⟩
theorem trodAll_cons {H : Type} {enc : TypeId × Value -> H} {P : Program} {w : World} {base : Nat} {spare : Nat -> Bool} {held : Bool} {t : TypeId} {ts : List TypeId} {vs : List Value} {ds : List (DataW H)} {ps : List MemPlace}
  (h : DataW.TrodAll enc P w base spare held (t :: ts) vs ds ps) (hw : ∀ n ∈ DataW.weightsEach P (t :: ts) ds, n <= reachBytes) :
  ∃ v vs' ds' ps', vs = v :: vs' /\ (∀ (α : Type) (D : World -> List Nat -> α -> List Value -> Prop) (G : α -> Prop), Dec P t D G -> ∃ a, D w [] a v.cells.toList /\ G a) /\
   DataW.TrodAll enc P w base spare held ts vs' ds' ps' /\ ∀ n ∈ DataW.weightsEach P ts ds', n <= reachBytes := by
 cases vs with
 | nil => exact h.elim
 | cons v vs =>
  cases ds with
  | nil => exact h.elim
  | cons d ds =>
   obtain ⟨p, q, ⟨fuel, h1⟩, h2, rfl⟩ := h
   unfold DataW.weightsEach at hw
   exact ⟨v, vs, ds, q, rfl, fun α D G hd => hd H enc w base spare held fuel _ _ h1 (fun n hn => hw n (List.mem_append_left _ hn)), h2, fun n hn => hw n (List.mem_append_right _ hn)⟩
theorem trodAll_nil {H : Type} {enc : TypeId × Value -> H} {P : Program} {w : World} {base : Nat} {spare : Nat -> Bool} {held : Bool} {vs : List Value} {ds : List (DataW H)} {ps : List MemPlace}
  (h : DataW.TrodAll enc P w base spare held [] vs ds ps) : vs = [] := by
 cases vs with
 | nil => rfl
 | cons v vs => cases ds <;> exact h.elim
theorem zeO {H : Type} {enc : TypeId × Value -> H} {P : Program} {w : World} {base : Nat} {spare : Nat -> Bool} {held : Bool} : ∀ {ts : List TypeId} {vs : List Value} {ds : List (DataW H)} {ps : List MemPlace},
  DataW.TrodAll enc P w base spare held ts vs ds ps -> ds.length = ts.length
 | [], [], [], _, _ => rfl
 | [], [], _ :: _, _, h => h.elim
 | [], _ :: _, _, _, h => h.elim
 | _ :: _, [], _, _, h => h.elim
 | _ :: _, _ :: _, [], _, h => h.elim
 | t :: ts, v :: vs, d :: ds, ps, h => by
  obtain ⟨p, q, _, h2, _⟩ := h
  simp [zeO h2]
theorem zlg {P : Program} {w : World} {r : Reach} {base : Nat} {t : TypeId} {v : Value} {us : List Value} (hok : Value.okWide P w r base t v) (hc : v.cells.toList = us)
  (hu : (match P.underlying t with | some (.struct _) => true | some (.array _ _) => true | _ => false) = true) : v = .agg us.toArray := by
 unfold Value.okWide at hok
 split at hok
 ·obtain ⟨cs, rfl, _, _⟩ := hok
  simp only [Value.cells] at hc
  rw [<- hc]
 ·obtain ⟨cs, rfl, _, _⟩ := hok
  simp only [Value.cells] at hc
  rw [<- hc]
 ·rename_i h1 h2
  split at hu
  ·exact absurd ‹_› (h1 _)
  ·exact absurd ‹_› (h2 _ _)
  ·cases hu
theorem zj4 {H : Type} {enc : TypeId × Value -> H} {P : Program} {w : World} {base : Nat} {spare : Nat -> Bool} {held : Bool} {t : TypeId} (hu : P.underlying t = some .bool) :
  DataW.TrodAll enc P w base spare held [t] [.bool true] [.lit (.bool true)] ([] ++ []) := trodAll_mk1 (shut_bool hu true)
theorem zdJ {H : Type} {P : Program} {us : List TypeId} {n : Nat} : ∀ {ts : List TypeId} {ds : List (DataW H)}, ds.length = ts.length -> n ∈ DataW.weightsEach P ts ds -> n ∈ DataW.weightsEach P (ts ++ us) ds
 | [], [], _, h => by simp [DataW.weightsEach] at h
 | [], _ :: _, h, _ => by simp at h
 | _ :: _, [], h, _ => by simp at h
 | t :: ts, d :: ds, hl, h => by
  rw [List.cons_append]
  unfold DataW.weightsEach at h |-
  rcases List.mem_append.1 h with h | h
  ·exact List.mem_append_left _ h
  ·exact List.mem_append_right _ (zdJ (by simpa using hl) h)
end Go.Sx
