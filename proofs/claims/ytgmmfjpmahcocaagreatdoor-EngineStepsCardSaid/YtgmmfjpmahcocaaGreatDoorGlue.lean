/- Texts Glue, Laid, Plan, More of this proof. -/
import Derived.Test.YtgmmfjpmahcocaaGreatDoorLib
import Derived.ProofKit
import Derived.SizedLaws
import Derived.Deep.Slices
import Derived.OpenShut
import Derived.Deep.DeepHandedRow
import Derived.LaidLaws
import Derived.SevenTiedAt
import Derived.Orders
import Derived.Laws.StructEq
import Derived.WalkSpells
set_option linter.unusedSimpArgs false
set_option linter.unusedVariables false
namespace Go.Sx
open Go.ChangeShapes Go.WideShapes Go.ChangeAt Go.RowKit
def Dec {α : Type} (P : Program) (t : TypeId) (D : World -> List Nat -> α -> List Value -> Prop) (G : α -> Prop) : Prop :=
 ∀ (H : Type) (enc : TypeId × Value -> H) (w : World) (base : Nat) (spare : Nat -> Bool) (held : Bool) (fuel : Nat) (cs : List Value) (x : DataW H × List MemPlace),
  DataW.trod enc P w base spare held fuel t cs = some x -> (∀ n ∈ x.1.weights P t, n <= reachBytes) -> ∃ a, D w [] a cs /\ G a
theorem Dec.int {P : Program} {t : TypeId} {k : IntKind} (hu : P.underlying t = some (.int k)) : Dec P t (fun _ _ (a : Int) cs => cs = encInt k a) (fun a => (Lit.int k a).wf = true) := by
 intro H enc w base spare held fuel cs x h _
 obtain ⟨n, rfl, _, hw⟩ := DataW.trod_int hu h
 exact ⟨n, rfl, hw⟩
theorem Dec.bool {P : Program} {t : TypeId} (hu : P.underlying t = some .bool) : Dec P t (fun _ _ (a : Bool) cs => cs = encBool a) (fun _ => True) := by
 intro H enc w base spare held fuel cs x h _
 obtain ⟨n, rfl, _⟩ := DataW.trod_bool hu h
 exact ⟨n, rfl, trivial⟩
theorem Dec.string {P : Program} {t : TypeId} (hu : P.underlying t = some .string) : Dec P t (fun _ _ (a : ByteArray) cs => cs = encText a) (fun a => a.size <= reachBytes) := by
 intro H enc w base spare held fuel cs x h hw
 obtain ⟨n, rfl, rfl, _⟩ := DataW.trod_string hu h
 have := hw n.data.toList.length (by simp [DataW.weights])
 exact ⟨n, rfl, by simpa using this⟩
theorem Dec.mono {α : Type} {P : Program} {t : TypeId} {D D' : World -> List Nat -> α -> List Value -> Prop} {G G' : α -> Prop} (h : Dec P t D G) (hD : ∀ w a cs, D w [] a cs -> D' w [] a cs) (hG : ∀ a, G a -> G' a) : Dec P t D' G' := by
 intro H enc w base spare held fuel cs x hx hw
 obtain ⟨a, h1, h2⟩ := h H enc w base spare held fuel cs x hx hw
 exact ⟨a, hD _ _ _ h1, hG _ h2⟩
theorem weightsAll_at {H : Type} {P : Program} {e : TypeId} : ∀ {l : List (DataW H)} {d : DataW H}, d ∈ l -> ∀ n ∈ d.weights P e, n ∈ DataW.weightsAll P e l
 | [], _, h, _, _ => absurd h List.not_mem_nil
 | a :: r, d, h, n, hn => by
  unfold DataW.weightsAll
  rcases List.mem_cons.1 h with rfl | h
  ·exact List.mem_append_left _ hn
  ·exact List.mem_append_right _ (weightsAll_at h n hn)
theorem weightsEach_at {H : Type} {P : Program} : ∀ {ts : List TypeId} {ds : List (DataW H)} {i : Nat} {t : TypeId} {d : DataW H}, ts[i]? = some t -> ds[i]? = some d -> ∀ n ∈ d.weights P t, n ∈ DataW.weightsEach P ts ds
 | [], _, _, _, _, h, _, _, _ => by simp at h
 | _ :: _, [], _, _, _, _, h, _, _ => by simp at h
 | a :: r, b :: q, 0, t, d, h1, h2, n, hn => by
  simp at h1 h2
  subst h1; subst h2
  unfold DataW.weightsEach
  exact List.mem_append_left _ hn
 | a :: r, b :: q, i + 1, t, d, h1, h2, n, hn => by
  unfold DataW.weightsEach
  exact List.mem_append_right _ (weightsEach_at (i := i) (by simpa using h1) (by simpa using h2) n hn)
theorem cells?_at {w : World} {base : Nat} {a : Addr} {n : Nat} {cs : List Value} (h : w.cells? base a n = some cs) : cs.length = n /\ ∀ (f : Nat) (u : Value), cs[f]? = some u -> w.cell? (a.add f) = some u := by
 obtain ⟨_, hl, hx⟩ := World.cells?_some h
 refine ⟨hl, fun f u hu => ?_⟩
 have hf : f < n := by have := (List.getElem?_eq_some_iff.1 hu).1; omega
 first
  | exact (hx f hf).trans hu
  | exact (hx f hf).trans (by simpa using hu)
theorem add_add {a : Addr} (hs : a.spot = none) (m n : Nat) : (a.add m).add n = ⟨a.block, a.off + m + n, none⟩ := by
 obtain ⟨b, o, s⟩ := a
 cases hs
 unfold Addr.add
 by_cases h1 : m = 0
 ·subst h1
  by_cases h2 : n = 0
  ·subst h2; simp
  ·simp [h2]
 ·by_cases h2 : n = 0
  ·subst h2; simp [h1]
  ·simp [h1, h2]
theorem choose_list {α : Type} {p : Nat -> α -> Prop} : ∀ n : Nat, (∀ i, i < n -> ∃ a, p i a) -> ∃ xs : List α, xs.length = n /\ ∀ i x, xs[i]? = some x -> p i x
 | 0, _ => ⟨[], rfl, fun i x h => by simp at h⟩
 | n + 1, h => by
  obtain ⟨xs, h1, h2⟩ := choose_list n (fun i hi => h i (by omega))
  obtain ⟨a, ha⟩ := h n (by omega)
  refine ⟨xs ++ [a], by simp [h1], fun i x hx => ?_⟩
  rcases Nat.lt_or_ge i n with hi | hi
  ·rw [List.getElem?_append_left (by omega)] at hx
   exact h2 i x hx
  ·rw [List.getElem?_append_right (by omega)] at hx
   have e : i = n := by
    have := (List.getElem?_eq_some_iff.1 hx).1
    simp at this
    omega
   subst e
   simp [h1] at hx
   subst hx
   exact ha
theorem Dec.sliceN {α : Type} {P : Program} {t e : TypeId} {D : World -> List Nat -> α -> List Value -> Prop} {G : α -> Prop} {sz bytes : Nat} (hd : Dec P e D G) (hu : P.underlying t = some (.slice e)) (hc : P.cellsOf e = sz) (hsz : 0 < sz) (hb : P.bytesOf e = bytes) :
  Dec P t (fun w S (xs : List α) cs => ∃ v, cs = [v] /\ RdN w S v D sz xs) (fun xs => xs.length * bytes <= reachBytes /\ ∀ x ∈ xs, G x) := by
 intro H enc w base spare held fuel cs x h hw
 rcases Go.Deep.open_slice hu h with ⟨rfl, rfl⟩ | ⟨a, len, cap, m, n, Dt, Pl, rfl, _, hl, hm, rfl, rfl, hx⟩
 ·exact ⟨[], ⟨_, rfl, by simp, none, 0, rfl, by simp, fun t x hx => by simp at hx⟩, by simp, fun x hx => absurd hx List.not_mem_nil⟩
 rw [hc] at hx
 have hle : len <= (if spare a.block then cap else len) := by split <;> omega
 unfold DataW.weights at hw
 simp only [hu] at hw
 obtain ⟨xs, hxl, hxs⟩ := choose_list (p := fun i y => G y /\ ∃ cs, D w [] y cs /\ w.cells? base (a.add (i * sz)) sz = some cs) len (fun i hi => by
  obtain ⟨cs, h1, h2⟩ := hx i (by omega)
  obtain ⟨y, hD, hG⟩ := hd H enc w base spare held n cs _ h2 (fun k hk => hw k (List.mem_cons_of_mem _ (List.mem_append_left _ (weightsAll_at (d := Dt i) (List.mem_map.2 ⟨i, by simpa using hi, rfl⟩) k hk))))
  exact ⟨y, hG, cs, hD, h1⟩)
 have h0 := hw _ List.mem_cons_self
 simp only [List.length_map, List.length_range, hb] at h0
 have hlb : len * bytes <= reachBytes := Nat.le_trans (Nat.mul_le_mul_right _ (by omega)) h0
 refine ⟨xs, ⟨_, rfl, ?_, some a, cap, by rw [hxl], by rw [hxl]; exact hl, fun i y hy => ?_⟩, by rw [hxl]; exact hlb, fun y hy => ?_⟩
 ·unfold maxLen at hm
  omega
 ·obtain ⟨_, cs, hD, hcs⟩ := hxs i y hy
  have hi : i < len := by have := (List.getElem?_eq_some_iff.1 hy).1; omega
  have hsp : a.spot = none := by
   obtain ⟨cs0, h1, _⟩ := hx 0 (by omega)
   obtain ⟨hl0, hc0⟩ := cells?_at h1
   have := hc0 0 cs0[0] (List.getElem?_eq_getElem (by omega))
   rw [Nat.zero_mul] at this
   simpa [Addr.add] using World.cell?_spot this
  refine ⟨cs, hD, a.block, a.off, ?_, by simp, fun f u hu => ?_⟩
  ·obtain ⟨b, o, s⟩ := a
   cases hsp
   rfl
  ·have := (cells?_at hcs).2 f u hu
   rw [add_add hsp] at this
   exact this
 ·obtain ⟨i, hi⟩ := List.mem_iff_getElem?.1 hy
  exact (hxs i y hi).1
theorem Dec.slice {α : Type} {P : Program} {t e : TypeId} {enc : α -> List Value} {G : α -> Prop} {sz bytes : Nat} (hd : Dec P e (fun _ _ a cs => cs = enc a) G) (hu : P.underlying t = some (.slice e)) (hc : P.cellsOf e = sz) (hsz : 0 < sz) (hb : P.bytesOf e = bytes) :
  Dec P t (fun w S (xs : List α) cs => ∃ v, cs = [v] /\ Rd w S v enc sz xs) (fun xs => xs.length * bytes <= reachBytes /\ ∀ x ∈ xs, G x) := by
 refine (Dec.sliceN hd hu hc hsz hb).mono ?_ (fun _ h => h)
 rintro w xs cs ⟨v, rfl, h1, a, c, rfl, hlc, h2⟩
 refine ⟨_, rfl, h1, a, c, rfl, hlc, fun t x f u hx hu => ?_⟩
 obtain ⟨cs, rfl, b, o, h3, h4, h5⟩ := h2 t x hx
 exact ⟨b, o, h3, h4, h5 f u hu⟩
theorem Dec.struct {P : Program} {t : TypeId} {fs : Array Field} {H : Type} {enc : TypeId × Value -> H} {w : World} {base : Nat} {spare : Nat -> Bool} {held : Bool} {fuel : Nat} {cs : List Value} {x : DataW H × List MemPlace}
  (hu : P.underlying t = some (.struct fs)) (h : DataW.trod enc P w base spare held fuel t cs = some x) (hw : ∀ n ∈ x.1.weights P t, n <= reachBytes) :
  cs.length = P.cellsOf t /\ ∀ (α : Type) (D : World -> List Nat -> α -> List Value -> Prop) (G : α -> Prop) (i : Nat) (f : Field), fs[i]? = some f -> Dec P f.type D G -> ∃ a, D w [] a ((cs.drop f.offset).take (P.cellsOf f.type)) /\ G a := by
 obtain ⟨xs, n, _, rfl, hl, hlen, hf⟩ := DataW.trod_struct hu h
 refine ⟨hl, fun α D G i f hi hd => ?_⟩
 have h1 := hf i f hi
 have hil : i < xs.length := by have := (Array.getElem?_eq_some_iff.1 hi).1; omega
 rw [List.getElem?_eq_getElem hil] at h1
 unfold DataW.weights at hw
 simp only [hu] at hw
 refine hd H enc w base spare held n _ _ h1 (fun k hk => hw k (weightsEach_at (i := i) (t := f.type) (d := xs[i].1) ?_ ?_ k hk))
 ·rw [List.getElem?_map, Array.getElem?_toList, hi]; rfl
 ·rw [List.getElem?_map, List.getElem?_eq_getElem hil]; rfl
def fsOf (P : Program) (t : TypeId) : List (TypeId × Nat × Nat) := match P.underlying t with
 | some (.struct fs) => fs.toList.map (fun f => (f.type, f.offset, P.cellsOf f.type))
 | _ => []
theorem Dec.parts {P : Program} {t : TypeId} {L : List (TypeId × Nat × Nat)} {H : Type} {enc : TypeId × Value -> H} {w : World} {base : Nat} {spare : Nat -> Bool} {held : Bool} {fuel : Nat} {cs : List Value} {x : DataW H × List MemPlace}
  (hu : fsOf P t = L) (hne : L ≠ []) (h : DataW.trod enc P w base spare held fuel t cs = some x) (hw : ∀ n ∈ x.1.weights P t, n <= reachBytes) :
  cs.length = P.cellsOf t /\ ∀ (α : Type) (D : World -> List Nat -> α -> List Value -> Prop) (G : α -> Prop) (i T o c : Nat), L[i]? = some (T, o, c) -> Dec P T D G -> ∃ a, D w [] a ((cs.drop o).take c) /\ G a := by
 unfold fsOf at hu
 split at hu
 ·rename_i fs hfs
  obtain ⟨h1, h2⟩ := Dec.struct hfs h hw
  refine ⟨h1, fun α D G i T o c hi hd => ?_⟩
  rw [<- hu, List.getElem?_map, Array.getElem?_toList] at hi
  cases hf : fs[i]? with
  | none => rw [hf] at hi; cases hi
  | some f =>
   rw [hf] at hi
   cases hi
   exact h2 α D G i f hf hd
 ·exact absurd hu.symm hne
theorem St.zero (w : World) : St w [] w [] := ⟨Chg.refl _ _, fun i it h => by simp at h, fun i it h => by simp at h, fun i j a b _ h => by simp at h, fun i it h => by simp at h⟩
theorem trodAll_stays {H : Type} {enc : TypeId × Value -> H} {P : Program} (hl : laidOutB P = true) {W W' : World} (hb : Below W.heap.size W W') :
  ∀ {ts : List TypeId} {vs : List Value} {ds : List (DataW H)} {ps : List MemPlace}, ts.all (fun t => P.readableRec t && decide (t < P.types.size)) = true ->
   DataW.TrodAll enc P W 0 (fun _ => true) true ts vs ds ps -> (∀ x ∈ ps, x.block < W.heap.size) ->
   DataW.TrodAll enc P W' 0 (fun b => decide (b < W.heap.size)) true ts vs ds ps
 | [], [], [], _, _, h, _ => h
 | [], [], _ :: _, _, _, h, _ => h.elim
 | [], _ :: _, _, _, _, h, _ => h.elim
 | _ :: _, [], _, _, _, h, _ => h.elim
 | _ :: _, _ :: _, [], _, _, h, _ => h.elim
 | t :: ts, v :: vs, d :: ds, ps, ht, h, hlt => by
  obtain ⟨p, q, h1, h2, rfl⟩ := h
  simp only [List.all_cons, Bool.and_eq_true, decide_eq_true_eq] at ht
  exact ⟨p, q, Below.trod hl ht.1.1 ht.1.2 h1 hb (fun x hx => hlt x (List.mem_append_left _ hx)), trodAll_stays hl hb ht.2 h2 (fun x hx => hlt x (List.mem_append_right _ hx)), rfl⟩
theorem trodAll_cons {H : Type} {enc : TypeId × Value -> H} {P : Program} {w : World} {base : Nat} {spare : Nat -> Bool} {held : Bool} {t : TypeId} {ts : List TypeId} {vs : List Value} {ds : List (DataW H)} {ps : List MemPlace}
  (h : DataW.TrodAll enc P w base spare held (t :: ts) vs ds ps) (hw : ∀ n ∈ DataW.weightsEach P (t :: ts) ds, n <= reachBytes) :
  ∃ v vs' ds' ps', vs = v :: vs' /\ (∀ (α : Type) (D : World -> List Nat -> α -> List Value -> Prop) (G : α -> Prop), Dec P t D G -> ∃ a, D w [] a v.cells.toList /\ G a) /\
   DataW.TrodAll enc P w base spare held ts vs' ds' ps' /\ ∀ n ∈ DataW.weightsEach P ts ds', n <= reachBytes := by
 cases vs with
 | nil => exact h.elim
 | cons v vs =>
  cases ds with
  | nil => exact h.elim
  | cons d ds =>
   obtain ⟨p, q, ⟨fuel, h1⟩, h2, rfl⟩ := h
   unfold DataW.weightsEach at hw
   exact ⟨v, vs, ds, q, rfl, fun α D G hd => hd H enc w base spare held fuel _ _ h1 (fun n hn => hw n (List.mem_append_left _ hn)), h2, fun n hn => hw n (List.mem_append_right _ hn)⟩
theorem trodAll_nil {H : Type} {enc : TypeId × Value -> H} {P : Program} {w : World} {base : Nat} {spare : Nat -> Bool} {held : Bool} {vs : List Value} {ds : List (DataW H)} {ps : List MemPlace}
  (h : DataW.TrodAll enc P w base spare held [] vs ds ps) : vs = [] := by
 cases vs with
 | nil => rfl
 | cons v vs => cases ds <;> exact h.elim
theorem trodAll_len {H : Type} {enc : TypeId × Value -> H} {P : Program} {w : World} {base : Nat} {spare : Nat -> Bool} {held : Bool} : ∀ {ts : List TypeId} {vs : List Value} {ds : List (DataW H)} {ps : List MemPlace},
  DataW.TrodAll enc P w base spare held ts vs ds ps -> ds.length = ts.length
 | [], [], [], _, _ => rfl
 | [], [], _ :: _, _, h => h.elim
 | [], _ :: _, _, _, h => h.elim
 | _ :: _, [], _, _, h => h.elim
 | _ :: _, _ :: _, [], _, h => h.elim
 | t :: ts, v :: vs, d :: ds, ps, h => by
  obtain ⟨p, q, _, h2, _⟩ := h
  simp [trodAll_len h2]
theorem cell_agg {P : Program} {w : World} {r : Reach} {base : Nat} {t : TypeId} {v : Value} {us : List Value} (hok : Value.okWide P w r base t v) (hc : v.cells.toList = us)
  (hu : (match P.underlying t with | some (.struct _) => true | some (.array _ _) => true | _ => false) = true) : v = .agg us.toArray := by
 unfold Value.okWide at hok
 split at hok
 ·obtain ⟨cs, rfl, _, _⟩ := hok
  simp only [Value.cells] at hc
  rw [<- hc]
 ·obtain ⟨cs, rfl, _, _⟩ := hok
  simp only [Value.cells] at hc
  rw [<- hc]
 ·rename_i h1 h2
  split at hu
  ·exact absurd ‹_› (h1 _)
  ·exact absurd ‹_› (h2 _ _)
  ·cases hu
theorem shut_true {H : Type} {enc : TypeId × Value -> H} {P : Program} {w : World} {base : Nat} {spare : Nat -> Bool} {held : Bool} {t : TypeId} (hu : P.underlying t = some .bool) :
  DataW.TrodAll enc P w base spare held [t] [.bool true] [.lit (.bool true)] ([] ++ []) := trodAll_mk1 (shut_bool hu true)
theorem weightsEach_app {H : Type} {P : Program} {us : List TypeId} {n : Nat} : ∀ {ts : List TypeId} {ds : List (DataW H)}, ds.length = ts.length -> n ∈ DataW.weightsEach P ts ds -> n ∈ DataW.weightsEach P (ts ++ us) ds
 | [], [], _, h => by simp [DataW.weightsEach] at h
 | [], _ :: _, h, _ => by simp at h
 | _ :: _, [], h, _ => by simp at h
 | t :: ts, d :: ds, hl, h => by
  rw [List.cons_append]
  unfold DataW.weightsEach at h |-
  rcases List.mem_append.1 h with h | h
  ·exact List.mem_append_left _ h
  ·exact List.mem_append_right _ (weightsEach_app (by simpa using hl) h)
end Go.Sx
set_option linter.unusedSimpArgs false
set_option linter.unusedVariables false
namespace Go.Sx
open Go.ChangeShapes Go.WideShapes Go.ChangeAt Go.RowKit
mutual
def laidCells {H : Type} : DataW H -> Option (List Value)
 | .lit (.int k n) => some [.int k n]
 | .lit (.bool b) => some [.bool b]
 | .lit (.string bs) => some [.string ⟨bs.toArray⟩]
 | .agg ds => laidAll ds
 | _ => none
def laidAll {H : Type} : List (DataW H) -> Option (List Value)
 | [] => some []
 | d :: r => match laidCells d, laidAll r with
  | some a, some b => some (a ++ b)
  | _, _ => none
end
def rowed (P : Program) (n : Nat) : Nat -> List Field -> Bool
 | o, [] => o == n
 | o, f :: r => f.offset == o && rowed P n (o + P.cellsOf f.type) r
def flatT (P : Program) : Nat -> TypeId -> Bool
 | 0, _ => false
 | n + 1, t => match P.underlying t with
  | some (.int _) | some .bool | some .string => true
  | some (.struct fs) => rowed P (P.cellsOf t) 0 fs.toList && fs.toList.all (fun f => flatT P n f.type)
  | some (.array m e) => P.cellsOf t == m * P.cellsOf e && flatT P n e
  | _ => false
theorem laidAll_parts {H : Type} {ds : List (DataW H)} {cs : List Value} : ∀ {ls : List (List Value)}, ls.length = ds.length -> (∀ (i : Nat) (d : DataW H) (l : List Value), ds[i]? = some d -> ls[i]? = some l -> laidCells d = some l) -> ls.flatten = cs -> laidAll ds = some cs := by
 induction ds generalizing cs with
 | nil => intro ls hl _ h; cases ls with
  | nil => simp at h; subst h; simp [laidAll]
  | cons _ _ => simp at hl
 | cons d r ih =>
  intro ls hl hp h
  cases ls with
  | nil => simp at hl
  | cons l q =>
   have h1 := hp 0 d l rfl rfl
   have h2 := ih (ls := q) (cs := q.flatten) (by simpa using hl) (fun i d l h3 h4 => hp (i + 1) d l (by simpa using h3) (by simpa using h4)) rfl
   simp only [laidAll, h1, h2]
   simpa using h
theorem rowed_flatten {P : Program} {cs : List Value} {n : Nat} (hn : cs.length = n) : ∀ {fs : List Field} {o : Nat}, rowed P n o fs = true -> o <= n -> (fs.map fun f => (cs.drop f.offset).take (P.cellsOf f.type)).flatten = cs.drop o := by
 intro fs
 induction fs with
 | nil =>
  intro o h _
  simp only [rowed, beq_iff_eq] at h
  subst h
  simp [<- hn]
 | cons f r ih =>
  intro o h ho
  simp only [rowed, Bool.and_eq_true, beq_iff_eq] at h
  obtain ⟨h1, h2⟩ := h
  subst h1
  have hle : f.offset + P.cellsOf f.type <= n := by
   clear ih
   have : ∀ {fs : List Field} {o : Nat}, rowed P n o fs = true -> o <= n := by
    intro fs
    induction fs with
    | nil => intro o h; simp only [rowed, beq_iff_eq] at h; omega
    | cons g q ih => intro o h; simp only [rowed, Bool.and_eq_true, beq_iff_eq] at h; have := ih h.2; omega
   exact this h2
  simp only [List.map_cons, List.flatten_cons]
  rw [ih h2 hle]
  rw [<- List.drop_drop, List.take_append_drop]
theorem chunks_flatten {c : Nat} : ∀ {n : Nat} {cs : List Value}, cs.length = n * c -> ((List.range n).map fun i => (cs.drop (i * c)).take c).flatten = cs := by
 intro n
 induction n with
 | zero => intro cs h; simp at h; simp [h]
 | succ n ih =>
  intro cs h
  rw [List.range_succ_eq_map, List.map_cons, List.flatten_cons, List.map_map]
  have h2 := ih (cs := cs.drop c) (by rw [List.length_drop, h, Nat.succ_mul]; omega)
  have e : ((List.range n).map ((fun i => (cs.drop (i * c)).take c) ∘ Nat.succ)) = (List.range n).map fun i => ((cs.drop c).drop (i * c)).take c := by
   apply List.map_congr_left
   intro i _
   simp only [Function.comp, List.drop_drop]
   rw [show Nat.succ i * c = c + i * c by rw [Nat.succ_mul]; omega]
  rw [e, h2]
  simp
theorem laid_cells {H : Type} {enc : TypeId × Value -> H} {P : Program} {w : World} {base : Nat} {sp : Nat -> Bool} {held : Bool} : ∀ (n : Nat) {fuel : Nat} {t : TypeId} {cs : List Value} {d : DataW H} {p : List MemPlace},
  flatT P n t = true -> DataW.trod enc P w base sp held fuel t cs = some (d, p) -> laidCells d = some cs := by
 intro n
 induction n with
 | zero => intro fuel t cs d p h; cases h
 | succ n ih =>
  intro fuel t cs d p h hd
  unfold flatT at h
  split at h
  ·rename_i k hu
   obtain ⟨m, rfl, he, _⟩ := DataW.trod_int hu hd
   cases he
   simp [laidCells]
  ·rename_i hu
   obtain ⟨b, rfl, he⟩ := DataW.trod_bool hu hd
   cases he
   simp [laidCells]
  ·rename_i hu
   obtain ⟨s, rfl, he, _⟩ := DataW.trod_string hu hd
   cases he
   simp [laidCells]
  ·rename_i fs hu
   simp only [Bool.and_eq_true, List.all_eq_true] at h
   obtain ⟨h1, h2⟩ := h
   obtain ⟨xs, m, rfl, he, hl, hxl, hf⟩ := DataW.trod_struct hu hd
   cases he
   rw [laidCells]
   refine laidAll_parts (ls := fs.toList.map fun f => (cs.drop f.offset).take (P.cellsOf f.type)) (by simp [hxl]) (fun i d l hi hl' => ?_) (by rw [rowed_flatten hl h1 (Nat.zero_le _)]; rfl)
   rw [List.getElem?_map] at hi hl'
   cases hfi : fs[i]? with
   | none => rw [Array.getElem?_toList, hfi] at hl'; cases hl'
   | some f =>
    rw [Array.getElem?_toList, hfi] at hl'
    cases hl'
    have h3 := hf i f hfi
    cases hx : xs[i]? with
    | none => rw [hx] at hi; cases hi
    | some x =>
     rw [hx] at hi h3
     cases hi
     exact ih (h2 f (by simpa using Array.mem_of_getElem? hfi)) h3
  ·rename_i m e hu
   simp only [Bool.and_eq_true, beq_iff_eq] at h
   obtain ⟨h1, h2⟩ := h
   obtain ⟨xs, q, rfl, he, hl, hxl, hf⟩ := DataW.trod_array hu hd
   cases he
   rw [laidCells]
   refine laidAll_parts (ls := (List.range m).map fun i => (cs.drop (i * P.cellsOf e)).take (P.cellsOf e)) (by simp [hxl]) (fun i d l hi hl' => ?_) (chunks_flatten (by omega))
   rw [List.getElem?_map] at hi hl'
   have him : i < m := by
    cases hr : (List.range m)[i]? with
    | none => rw [hr] at hl'; cases hl'
    | some j => have := (List.getElem?_eq_some_iff.1 hr).1; simpa using this
   rw [List.getElem?_range him] at hl'
   cases hl'
   have h3 := hf i him
   cases hx : xs[i]? with
   | none => rw [hx] at hi; cases hi
   | some x =>
    rw [hx] at hi h3
    cases hi
    exact ih h2 h3
  ·cases h
theorem laid_at {P : Program} {w : World} {nm : String} {d : DataW Unit} : ∀ {laid : List (String × DataW Unit)} {ps : List MemPlace} {i : Nat}, DataW.LaidVars P w laid ps -> laid[i]? = some (nm, d) ->
  ∃ g t cs fuel p, P.globalNamed nm = some g /\ (P.globals[g]?).map (·.type) = some t /\ w.var? P nm = some cs /\ DataW.trod (fun _ => ()) P w 0 (fun _ => true) false fuel t cs.toList = some (d, p) := by
 intro laid
 induction laid with
 | nil => intro ps i _ h; simp at h
 | cons x r ih =>
  intro ps i h hi
  obtain ⟨n, e⟩ := x
  obtain ⟨g, t, cs, fuel, p, q, h1, h2, h3, h4, h5, _⟩ := h
  cases i with
  | zero =>
   simp only [List.getElem?_cons_zero, Option.some.injEq, Prod.mk.injEq] at hi
   obtain ⟨rfl, rfl⟩ := hi
   exact ⟨g, t, cs, fuel, p, h1, h2, h3, h4⟩
  | succ i => exact ih h5 (by simpa using hi)
theorem laid_rd {α : Type} {P : Program} {W : World} {laid : List (String × DataW Unit)} {nm : String} {d : DataW Unit} {g t sz : Nat} {enc : α -> List Value} {xs : List α} (i k : Nat) (h : laidMet P laid W) (hi : laid[i]? = some (nm, d)) (hg : P.globalNamed nm = some g)
  (hty : (P.globals[g]?).map (·.type) = some t) (hf : flatT P k t = true) (hc : laidCells d = some (flat enc xs)) (he : ∀ x, (enc x).length = sz) (hl : Nat.ble xs.length 9223372036854775807 = true) {m : Nat} (hm : xs.length = m) :
  Rd W [] (.slice (some ⟨g, 0, none⟩) m m) enc sz xs := by
 subst hm
 obtain ⟨ps, hv, _, _⟩ := h
 obtain ⟨g', t', cs, fuel, p, h1, h2, h3, h4⟩ := laid_at hv hi
 obtain rfl := Option.some.inj (hg.symm.trans h1)
 obtain rfl := Option.some.inj (hty.symm.trans h2)
 have h5 := laid_cells k hf h4
 rw [hc] at h5
 have e := Option.some.inj h5
 refine ⟨Nat.le_of_ble_eq_true hl, _, _, rfl, Nat.le_refl _, fun j x f u hx hu => ⟨g, 0, rfl, by simp, ?_⟩⟩
 rw [Nat.zero_add, World.var?_cell hg h3, <- Array.getElem?_toList, <- e]
 exact flat_get he hx hu
theorem lawRow_lifted {C : Checked} {os : Os} {f : FuncId} {fn : Func} {s : ChangeSpec} {F : Stop.Interp} {conds : List PathCond} {laid : List (String × DataW Unit)} {tb : TypeId} (H : Type) (enc : TypeId × Value -> H)
  (own : ownKnob C.prog.godebug = none) (started : os.Started) (noInit : C.prog.inits.idxOf? f = none) (hfn : C.prog.funcs[f]? = some fn)
  (witness : ∃ (w : World) (tape : Tape) (i : Input), w.os = os /\ (w.forCall tape i).Shaped C.prog /\ i.vars = [] /\ Input.okWide C.prog (w.forCall tape i) .any w.heap.size f i /\
   (OpenSpec.ofChange s).preRow enc C.prog fn conds false laid (w.forCall tape i).memory i.args /\ ({} : Assume).holds C.prog (lone (Frame.enter C.prog f i.args .normal) [] (w.forCall tape i)))
  (laidOut : laidOutB C.prog = true) (hvars : s.vars = []) (hts : fn.params.toList.all (fun t => C.prog.readableRec t && decide (t < C.prog.types.size)) = true)
  (hrt : fn.resultTypes = #[tb]) (htb : C.prog.underlying tb = some .bool)
  (hres : ∀ (ds : List (DataW H)), ds.length = fn.params.toList.length -> (s.fn H (ds ++ [])).results = [.lit (.bool true)] /\ (s.fn H (ds ++ [])).args = ds /\ (s.fn H (ds ++ [])).vars = [])
  (contract : ∀ (W : World) (base : Nat) (args : Array Value) (ds : List (DataW H)) (ps : List MemPlace), laidMetH C.prog laid W ->
   (∀ (j : Nat) t v, fn.params[j]? = some t -> args[j]? = some v -> Value.okWide C.prog W .any base t v) ->
   DataW.TrodAll enc C.prog W 0 (fun _ => true) true fn.params.toList args.toList ds ps -> (∀ n ∈ DataW.weightsEach C.prog fn.params.toList ds, n <= reachBytes) ->
   Calls C.prog f args W fun e W' => e = .returned (.bool true) /\ Chg [] W W') :
  ReturnsInHanded {} C os f .any ((OpenSpec.ofChange s).preRow enc C.prog fn conds false laid) (((OpenSpec.ofChange s).at F).post enc C.prog fn false true false false) := by
 refine returnsInHanded_of_row (s := OpenSpec.ofChange s) own started noInit hfn witness ?_
 intro W base args ds gs before hval hW _ _ hsz hL _ _
 have hW' := hW
 obtain ⟨p, q, hA, hV, rfl, _, _⟩ := hW
 have hV' : DataW.TrodVars enc C.prog W (fun _ => true) s.vars gs q := hV
 rw [hvars] at hV'
 obtain ⟨rfl, rfl⟩ := trodVars_none hV'
 have hw : ∀ n ∈ DataW.weightsEach C.prog fn.params.toList ds, n <= reachBytes := by
  intro n hn
  have : n ∈ DataW.weightsEach C.prog (fn.params.toList ++ (OpenSpec.ofChange s).bare.plain.varTypes C.prog) (ds ++ []) := by
   rw [List.append_nil]
   exact weightsEach_app (trodAll_len hA) hn
  have h2 := List.all_eq_true.1 hsz n this
  simpa using h2
 refine (contract W base args ds p hL hval hA hw).mono fun e W' ⟨he, hc⟩ => ?_
 subst he
 have hb := hc.below
 have hlt : ∀ x ∈ p, x.block < W.heap.size := fun x hx => hW'.lt x (List.mem_append_left _ hx)
 obtain ⟨r1, r2, r3⟩ := hres ds (trodAll_len hA)
 refine ⟨_, rfl, ?_⟩
 show s.post enc C.prog fn false true false false W args _ W'
 refine ⟨ds, [], p ++ [], [] ++ [], p, [], hW', ?_, ?_, ?_, hb.frame _, fun h => by cases h⟩
 ·rw [r1, hrt]
  exact shut_true htb
 ·rw [r2]
  exact trodAll_stays laidOut hb hts hA hlt
 ·rw [r3, hvars]
  rfl
def setTab (g : Nat) (cs : List Value) (h : Array Obj) : Array Obj := h.modify g fun
 | .cells _ t frozen => .cells cs.toArray t frozen
 | o => o
def setTabs : List (Nat × List Value) -> Array Obj -> Array Obj
 | [], h => h
 | (g, cs) :: r, h => setTabs r (setTab g cs h)
def laidWorld (P : Program) (os : Os) (ts : List (Nat × List Value)) : World :=
 { World.holding P os ⟨#[], #[], []⟩ with heap := setTabs ts (World.holding P os ⟨#[], #[], []⟩).heap }
end Go.Sx
set_option linter.unusedVariables false
set_option linter.unusedSimpArgs false
namespace Go.Sx
open Go.RowKit
def opnds : List Operand -> List Nat
 | [] => []
 | .tmp t :: r => t :: opnds r
 | _ :: r => opnds r
def lk (l : List Oper) (o : Oper) : List Nat := opnds o.op.operands.toList ++ (match o.guard with
 | none => []
 | some (j, _) => match (opAt l j).bind (·.dst) with
  | some d => [d]
  | none => [])
theorem mem_opnds {t : Nat} {xs : List Operand} (h : Operand.tmp t ∈ xs) : t ∈ opnds xs := by
 induction xs with
 | nil => exact absurd h List.not_mem_nil
 | cons x r ih =>
  rcases List.mem_cons.1 h with h2 | h2
  ·subst h2; exact List.mem_cons_self
  ·cases x with
   | tmp u => exact List.mem_cons_of_mem _ (ih h2)
   | const v => exact ih h2
   | global g => exact ih h2
   | func f => exact ih h2
theorem eval_same {a b : Act} {x : Operand} (h : ∀ t, x = .tmp t -> a.tmps[t]? = b.tmps[t]?) : a.eval x = b.eval x := by
 cases x with
 | tmp t => simp [Act.eval, Array.getD_eq_getD_getElem?, h t rfl]
 | _ => rfl
theorem exec_same {l : List Oper} {o : Oper} {a b : Act} (hs : noSelect o.op = true) (h : ∀ s ∈ lk l o, a.tmps[s]? = b.tmps[s]?) : execOp a.eval o = execOp b.eval o :=
 execOp_congr hs (fun x hx => eval_same (fun t e => h t (List.mem_append_left _ (mem_opnds (by rw [<- e]; exact hx)))))
theorem wanted_same {l : List Oper} {o : Oper} {a b : Act} (h : ∀ s ∈ lk l o, a.tmps[s]? = b.tmps[s]?) : Region.wanted o (yielded l.toArray a.tmps) = Region.wanted o (yielded l.toArray b.tmps) := by
 unfold Region.wanted
 cases hg : o.guard with
 | none => rfl
 | some g =>
  obtain ⟨j, c⟩ := g
  have hy : yielded l.toArray a.tmps j = yielded l.toArray b.tmps j := by
   unfold yielded
   rw [opAt_arr]
   cases hd : (opAt l j).bind (·.dst) with
   | none => rfl
   | some d =>
    have := h d (by
     unfold lk
     rw [hg]
     simp only [hd]
     exact List.mem_append_right _ (List.mem_singleton.2 rfl))
    simp only [Option.bind_some, this]
  simp only [hy]
abbrev Facts := List (Nat × (World -> Prop))
def holds : Facts -> World -> Prop
 | [], _ => True
 | p :: r, w => p.2 w /\ holds r w
def keepF (keep : List Nat) : Facts -> Facts
 | [] => []
 | p :: r => match mem? p.1 keep with
  | true => p :: keepF keep r
  | false => keepF keep r
theorem holds_mem {F : Facts} {w : World} (h : holds F w) : ∀ p ∈ F, p.2 w := by
 induction F with
 | nil => intro p hp; exact absurd hp List.not_mem_nil
 | cons q r ih =>
  intro p hp
  rcases List.mem_cons.1 hp with rfl | hp
  ·exact h.1
  ·exact ih h.2 p hp
theorem mem_keepF {keep : List Nat} {F : Facts} {p : Nat × (World -> Prop)} (hp : p ∈ F) (hk : p.1 ∈ keep) : p ∈ keepF keep F := by
 induction F with
 | nil => exact absurd hp List.not_mem_nil
 | cons q r ih =>
  unfold keepF
  rcases List.mem_cons.1 hp with rfl | hp
  ·rw [mem?_iff.2 hk]; exact List.mem_cons_self
  ·split
   ·exact List.mem_cons_of_mem _ (ih hp)
   ·exact ih hp
def aft (l : List Oper) (i : Nat) : List Nat := match opAt l i with
 | none => []
 | some o => (o.after.toList.filter (fun e => Region.binds .any e)).map (·.on)
theorem mem_aft {l : List Oper} {i j : Nat} {o : Oper} (h : opAt l i = some o) : j ∈ aft l i ↔ ∃ e ∈ o.after, Region.binds .any e = true /\ e.on = j := by
 unfold aft
 rw [h]
 simp only [List.mem_map, List.mem_filter, Array.mem_toList_iff]
 constructor
 ·rintro ⟨e, ⟨h1, h2⟩, h3⟩; exact ⟨e, h1, h2, h3⟩
 ·rintro ⟨e, h1, h2, h3⟩; exact ⟨e, ⟨h1, h2⟩, h3⟩
def close (l : List Oper) : Nat -> List Nat -> List Nat -> List Nat
 | 0, _, seen => seen
 | _ + 1, [], seen => seen
 | n + 1, j :: r, seen => match mem? j seen with
  | true => close l n r seen
  | false => close l n (aft l j ++ r) (j :: seen)
def must (l : List Oper) (i : Nat) : List Nat := close l ((l.length + 1) * (l.length + 1)) (aft l i) []
theorem close_mem {l : List Oper} {p : Nat -> Prop} (down : ∀ j, p j -> ∀ k ∈ aft l j, p k) : ∀ (n : Nat) (todo seen : List Nat), (∀ x ∈ todo, p x) -> (∀ x ∈ seen, p x) -> ∀ x ∈ close l n todo seen, p x
 | 0, _, _, _, h => h
 | _ + 1, [], _, _, h => h
 | n + 1, j :: r, seen, ht, h => by
  unfold close
  split
  ·exact close_mem down n r seen (fun x hx => ht x (List.mem_cons_of_mem _ hx)) h
  ·refine close_mem down n (aft l j ++ r) (j :: seen) (fun x hx => ?_) (fun x hx => ?_)
   ·rcases List.mem_append.1 hx with hx | hx
    ·exact down j (ht j List.mem_cons_self) x hx
    ·exact ht x (List.mem_cons_of_mem _ hx)
   ·rcases List.mem_cons.1 hx with rfl | hx
    ·exact ht _ List.mem_cons_self
    ·exact h x hx
def Pend (P : Program) (l : List Oper) (F : Facts) (b : Act) (j : Nat) : Prop :=
  ∃ (o : Oper) (v : Value), opAt l j = some o /\ noSelect o.op = true /\ (∀ d, o.dst = some d -> b.tmps[d]? = some v) /\
    ((Region.wanted o (yielded l.toArray b.tmps) = true /\ ((∀ w, (execOp b.eval o).run P w = .ok (.value v) w) \/ ∃ Φ, (j, Φ) ∈ F /\ ∀ w, Φ w -> (execOp b.eval o).run P w = .ok (.value v) w)) \/
     (Region.wanted o (yielded l.toArray b.tmps) = false /\ v = undef))
def dstAt (l : List Oper) (j : Nat) : Option Nat := (opAt l j).bind (·.dst)
def lkAt (l : List Oper) (j : Nat) : List Nat := match opAt l j with
 | none => []
 | some o => lk l o
structure Rel (P : Program) (l : List Oper) (done eff : List Nat) (F : Facts) (w : World) (listed : Array Bool) (a b : Act) : Prop where
 size : listed.size = l.length
 asz : a.tmps.size = b.tmps.size
 adf : a.defers = b.defers
 sub : ∀ j, listed.getD j false = true -> j ∈ done
 down : ∀ j, listed.getD j false = true -> ∀ k ∈ aft l j, listed.getD k false = true
 eff : ∀ j ∈ eff, listed.getD j false = true
 same : ∀ s, (∀ j ∈ done, listed.getD j false = false -> dstAt l j ≠ some s) -> a.tmps[s]? = b.tmps[s]?
 facts : ∀ p ∈ F, listed.getD p.1 false = false -> p.2 w
 pend : ∀ j ∈ done, listed.getD j false = false -> Pend P l F b j
 ord : ∀ i ∈ done, listed.getD i false = false -> ∀ j ∈ done, listed.getD j false = false -> ∀ s, dstAt l j = some s -> s ∈ lkAt l i -> j ∈ aft l i
def cnt (l : List Oper) (listed : Array Bool) : Nat := ((List.range l.length).filter (fun j => !listed.getD j false)).length
theorem filter_lt {p q : Nat -> Bool} (h : ∀ j, q j = true -> p j = true) {t : Nat} (hp : p t = true) (hq : q t = false) : ∀ n, t < n -> ((List.range n).filter q).length < ((List.range n).filter p).length := by
 have le : ∀ n, ((List.range n).filter q).length <= ((List.range n).filter p).length := by
  intro n
  induction n with
  | zero => exact Nat.le_refl _
  | succ n ih =>
   rw [List.range_succ, List.filter_append, List.filter_append, List.length_append, List.length_append]
   have : (List.filter q [n]).length <= (List.filter p [n]).length := by
    cases h1 : q n with
    | true => simp [h1, h n h1]
    | false => simp [h1]
   omega
 intro n
 induction n with
 | zero => intro ht; omega
 | succ n ih =>
  intro ht
  rw [List.range_succ, List.filter_append, List.filter_append, List.length_append, List.length_append]
  by_cases e : t = n
  ·subst e
   have := le t
   simp [hp, hq]
   omega
  ·have := ih (by omega)
   have : (List.filter q [n]).length <= (List.filter p [n]).length := by
    cases h1 : q n with
    | true => simp [h1, h n h1]
    | false => simp [h1]
   omega
theorem cnt_set {l : List Oper} {listed : Array Bool} {j : Nat} (hs : listed.size = l.length) (hj : j < l.length) (h : listed.getD j false = false) : cnt l (listed.setIfInBounds j true) < cnt l listed := by
 unfold cnt
 refine filter_lt (fun k hk => ?_) (t := j) (by rw [h]; rfl) ?_ l.length hj
 ·cases hl : listed.getD k false with
  | false => rfl
  | true => rw [getD_set_true hl] at hk; exact hk
 ·simp [hs, hj]
def topo (l : List Oper) : Bool := (List.range l.length).all fun i => (aft l i).all fun j => Nat.blt j i
theorem opAt_lt {l : List Oper} {i : Nat} (h : i < l.length) : ∃ o, opAt l i = some o := by
 have : l.toArray[i]? = some l[i] := by simp [h]
 rw [opAt_arr] at this
 exact ⟨_, this⟩
theorem lt_opAt {l : List Oper} {i : Nat} {o : Oper} (h : opAt l i = some o) : i < l.length := (List.getElem?_eq_some_iff.1 (opAt_get h)).1
theorem getD_flip {listed : Array Bool} {j : Nat} (h : j < listed.size) : listed.getD j true = listed.getD j false := by
 simp [h]
theorem ready_iff {l : List Oper} {listed : Array Bool} (hs : listed.size = l.length) {j : Nat} : j ∈ Region.ready .any l.toArray listed ↔ j < l.length /\ listed.getD j false = false /\ ∀ k ∈ aft l j, listed.getD k false = true := by
 rw [mem_ready]
 constructor
 ·rintro ⟨h0, o, ho, h⟩
  rw [opAt_arr] at ho
  have hj := lt_opAt ho
  refine ⟨hj, by rw [<- getD_flip (by omega)]; exact h0, fun k hk => ?_⟩
  obtain ⟨e, he, hb, rfl⟩ := (mem_aft ho).1 hk
  exact h e he hb
 ·rintro ⟨hj, h0, h⟩
  obtain ⟨o, ho⟩ := opAt_lt hj
  refine ⟨by rw [getD_flip (by omega)]; exact h0, o, by rw [opAt_arr]; exact ho, fun e he hb => h _ ((mem_aft ho).2 ⟨e, he, hb, rfl⟩)⟩
theorem progress {l : List Oper} {listed : Array Bool} (ht : topo l = true) (hs : listed.size = l.length) (hr : Region.ready .any l.toArray listed = []) : ∀ j, j < l.length -> listed.getD j false = true := by
 intro j
 induction j using Nat.strongRecOn with
 | _ j ih =>
  intro hj
  cases h : listed.getD j false with
  | true => rfl
  | false =>
   have : j ∈ Region.ready .any l.toArray listed := (ready_iff hs).2 ⟨hj, h, fun k hk => by
    have h1 := List.all_eq_true.1 (List.all_eq_true.1 ht j (by simpa using hj)) k hk
    have hkj : k < j := by simpa [Nat.blt_eq] using h1
    exact ih k hkj (by omega)⟩
   rw [hr] at this
   exact absurd this List.not_mem_nil
section
variable {P : Program} {l : List Oper} {N : Nat} {Q : Exit -> Act -> World -> Prop} {done eff : List Nat} {F : Facts} {w : World} {fr : List (Nat × Value)} {a b : Act} {listed : Array Bool}
theorem Rel.get_put {d : Option Nat} {v : Value} {a : Act} {s : Nat} (h : d ≠ some s) : (a.put d v).tmps[s]? = a.tmps[s]? := by
 cases d with
 | none => rfl
 | some d =>
  have : d ≠ s := fun e => h (by rw [e])
  simp only [Act.put]
  rw [Array.getElem?_setIfInBounds_ne this]
theorem put_size {d : Option Nat} {v : Value} {a : Act} : (a.put d v).tmps.size = a.tmps.size := by
 cases d <;> simp [Act.put]
theorem put_defers {d : Option Nat} {v : Value} {a : Act} : (a.put d v).defers = a.defers := by
 cases d <;> simp [Act.put]
theorem put_at {d : Nat} {v : Value} {a : Act} (h : d < a.tmps.size) : (a.put (some d) v).tmps[d]? = some v := by
 simp [Act.put, h]
theorem listed_set {listed : Array Bool} {i j : Nat} (h : (listed.setIfInBounds i true).getD j false = false) : listed.getD j false = false := by
 cases hl : listed.getD j false with
 | false => rfl
 | true => rw [getD_set_true hl] at h; exact h
theorem listed_self {listed : Array Bool} {i : Nat} (h : i < listed.size) : (listed.setIfInBounds i true).getD i false = true := by
 simp [h]
theorem wpAny_plan (ht : topo l = true) (hsel : l.all (fun o => noSelect o.op) = true)
  (cbn : ∀ listed a, Rel P l done eff F w listed a b -> Region.ready .any l.toArray listed = [] -> Q .normal a w)
  (cb : ∀ fuel listed a, Rel P l done eff F w listed a b -> cnt l listed <= fuel + 1 -> ∀ j ∈ Region.ready .any l.toArray listed, j ∉ done -> wpOp P l.toArray Q j (wpAny P .any l.toArray Q fuel (listed.setIfInBounds j true)) a w) :
  ∀ fuel listed a, Rel P l done eff F w listed a b -> cnt l listed <= fuel -> wpAny P .any l.toArray Q fuel listed a w := by
 intro fuel
 induction fuel with
 | zero =>
  intro listed a hR hc
  have hr : Region.ready .any l.toArray listed = [] := by
   rw [List.eq_nil_iff_forall_not_mem]
   intro j hj
   obtain ⟨h1, h2, _⟩ := (ready_iff hR.size).1 hj
   have := cnt_set hR.size h1 h2
   omega
  exact ⟨hr, cbn _ _ hR hr⟩
 | succ fuel ih =>
  intro listed a hR hc
  refine ⟨fun hr => cbn _ _ hR hr, fun j hj => ?_⟩
  by_cases hd : j ∈ done
  ·obtain ⟨h1, h2, h3⟩ := (ready_iff hR.size).1 hj
   obtain ⟨o, v, ho, hs, hdst, hrun⟩ := hR.pend j hd h2
   have hagree : ∀ s ∈ lk l o, a.tmps[s]? = b.tmps[s]? := fun s hs' => hR.same s (fun k hk hkl e => by
    have := hR.ord j hd h2 k hk hkl s e (by unfold lkAt; rw [ho]; exact hs')
    rw [h3 k this] at hkl
    cases hkl)
   have next : wpAny P .any l.toArray Q fuel (listed.setIfInBounds j true) (a.put o.dst v) w := by
    refine ih _ _ ⟨by simpa using hR.size, by rw [put_size, hR.asz], by rw [put_defers, hR.adf], fun k hk => ?_, fun k hk q hq => ?_, fun k hk => getD_set_true (hR.eff k hk), fun s hs' => ?_, fun p hp hl => hR.facts p hp (listed_set hl), fun k hk hl => hR.pend k hk (listed_set hl),
     fun i hi hil k hk hkl => hR.ord i hi (listed_set hil) k hk (listed_set hkl)⟩ ?_
    ·by_cases e : j = k
     ·subst e; exact hd
     ·rw [getD_set_ne false e] at hk; exact hR.sub k hk
    ·by_cases e : j = k
     ·subst e; exact getD_set_true (h3 q hq)
     ·rw [getD_set_ne false e] at hk; exact getD_set_true (hR.down k hk q hq)
    ·by_cases e : o.dst = some s
     ·have hb := hdst s e
      have hlt : s < a.tmps.size := by rw [hR.asz]; exact (Array.getElem?_eq_some_iff.1 hb).1
      rw [e, put_at hlt, hb]
     ·rw [Rel.get_put e]
      refine hR.same s (fun k hk hkl hke => ?_)
      by_cases ejk : j = k
      ·subst ejk
       unfold dstAt at hke
       rw [ho] at hke
       exact e hke
      ·exact hs' k hk (by rw [getD_set_ne false ejk]; exact hkl) hke
    ·have := cnt_set hR.size h1 h2
     omega
   unfold wpOp
   rw [opAt_arr, ho]
   simp only []
   rw [wanted_same hagree]
   rcases hrun with ⟨hw, hrun⟩ | ⟨hw, rfl⟩
   ·rw [if_pos hw]
    left
    unfold Oper.wp
    rw [exec_same hs hagree]
    have : (execOp b.eval o).run P w = .ok (.value v) w := by
     rcases hrun with hrun | ⟨Φ, hF, hrun⟩
     ·exact hrun w
     ·exact hrun w (hR.facts _ hF h2)
    rw [this, Oper.upon_value]
    exact next
   ·rw [if_neg (by rw [hw]; exact Bool.false_ne_true)]
    exact next
  ·exact cb fuel listed a hR hc j hj hd
def OAat (P : Program) (l : List Oper) (Q : Exit -> Act -> World -> Prop) (done eff : List Nat) (F : Facts) (b : Act) (w : World) : Prop :=
 ∀ fuel listed a, Rel P l done eff F w listed a b -> cnt l listed <= fuel -> wpAny P .any l.toArray Q fuel listed a w
def OA (P : Program) (l : List Oper) (N : Nat) (Q : Exit -> Act -> World -> Prop) (done eff : List Nat) (F : Facts) (fr : List (Nat × Value)) (w : World) : Prop :=
 ∀ b, Rep N fr b -> OAat P l Q done eff F b w
def planB (l : List Oper) : Bool := topo l && l.all (fun o => noSelect o.op)
theorem CW.plan {id : Nat} (hm : P.follows .mixedOrders = true) (h : ∀ w1, Chg [] w w1 -> OA P l N Q [] [] [] fr w1) : CW P N (.region id l.toArray true) Q fr w := fun a ha => by
 refine wp_region_any hm ?_
 refine h { w with drawn := w.drawn + 1 } ⟨rfl, rfl, rfl, Nat.le_refl _, fun _ _ _ => rfl⟩ a ha _ _ _ ⟨by simp, rfl, rfl, fun j hj => ?_, fun j hj => ?_, fun j hj => absurd hj List.not_mem_nil, fun s _ => rfl, fun p hp => absurd hp List.not_mem_nil, fun j hj => absurd hj List.not_mem_nil, fun j hj => absurd hj List.not_mem_nil⟩ ?_
 ·exfalso
  by_cases hlt : j < l.length
  ·simp [hlt] at hj
  ·simp [hlt] at hj
 ·exfalso
  by_cases hlt : j < l.length
  ·simp [hlt] at hj
  ·simp [hlt] at hj
 ·unfold cnt
  refine Nat.le_trans (List.length_filter_le _ _) ?_
  simp
def addB (l : List Oper) (done eff : List Nat) (i : Nat) : Bool :=
 !mem? i done && (match dstAt l i with
  | none => true
  | some d => !mem? d (lkAt l i) && done.all (fun j => mem? j eff || (!mem? d (lkAt l j) && !(dstAt l j == some d)))) &&
 done.all (fun j => mem? j eff || mem? j (aft l i) || match dstAt l j with
  | none => true
  | some s => !mem? s (lkAt l i))
theorem not_mem? {n : Nat} {l : List Nat} (h : (!mem? n l) = true) : n ∉ l := fun hm => by rw [mem?_iff.2 hm] at h; cases h
theorem OA.add {i : Nat} {o : Oper} {v : Value} (fr2 : List (Nat × Value)) (F2 : Facts) (hl : opAt l i = some o) (hck : addB l done eff i = true) (hs : noSelect o.op = true)
  (hfr : ∀ b, Rep N fr b -> Rep N fr2 (b.put o.dst v))
  (hF : ∀ p ∈ F, p ∈ F2) (hF2 : ∀ p ∈ F2, p ∈ F \/ p.2 w)
  (hv : ∀ b, Rep N fr b -> (Region.wanted o (yielded l.toArray b.tmps) = true /\ ((∀ w, (execOp b.eval o).run P w = .ok (.value v) w) \/ ∃ Φ, (i, Φ) ∈ F2 /\ ∀ w, Φ w -> (execOp b.eval o).run P w = .ok (.value v) w)) \/
   (Region.wanted o (yielded l.toArray b.tmps) = false /\ v = undef))
  (hN : ∀ d, o.dst = some d -> d < N)
  (h : OA P l N Q (i :: done) eff F2 fr2 w) : OA P l N Q done eff F fr w := by
 intro b hb fuel listed a hR hc
 unfold addB at hck
 simp only [Bool.and_eq_true] at hck
 obtain ⟨⟨hn, hd⟩, hlk⟩ := hck
 have hn := not_mem? hn
 have hdi : dstAt l i = o.dst := by unfold dstAt; rw [hl]; rfl
 have hli : lkAt l i = lk l o := by unfold lkAt; rw [hl]
 have hil : listed.getD i false = false := by
  cases hx : listed.getD i false with
  | false => rfl
  | true => exact absurd (hR.sub i hx) hn
 have noteff : ∀ j, listed.getD j false = false -> mem? j eff = false := fun j hj => by
  cases hm : mem? j eff with
  | false => rfl
  | true => rw [hR.eff j (mem?_iff.1 hm)] at hj; cases hj
 have hd1 : ∀ d, o.dst = some d -> d ∉ lk l o /\ ∀ j ∈ done, listed.getD j false = false -> d ∉ lkAt l j /\ dstAt l j ≠ some d := by
  intro d e
  rw [hdi, e] at hd
  simp only [Bool.and_eq_true] at hd
  refine ⟨by rw [<- hli]; exact not_mem? hd.1, fun j hj hjl => ?_⟩
  have := List.all_eq_true.1 hd.2 j hj
  rw [noteff j hjl, Bool.false_or, Bool.and_eq_true] at this
  refine ⟨not_mem? this.1, fun e2 => ?_⟩
  rw [e2] at this
  simp at this
 have hd2 : ∀ j ∈ done, listed.getD j false = false -> ∀ s, dstAt l j = some s -> s ∈ lkAt l i -> j ∈ aft l i := by
  intro j hj hjl s e hs'
  have := List.all_eq_true.1 hlk j hj
  rw [noteff j hjl, Bool.false_or, e] at this
  simp only [Bool.or_eq_true] at this
  rcases this with h1 | h1
  ·exact mem?_iff.1 h1
  ·exact absurd hs' (not_mem? h1)
 have keepL : ∀ (o' : Oper), (∀ d, o.dst = some d -> d ∉ lk l o') -> ∀ s ∈ lk l o', (b.put o.dst v).tmps[s]? = b.tmps[s]? := fun o' h' s hs' => Rel.get_put (fun e => h' s e hs')
 refine h (b.put o.dst v) (hfr b hb) fuel listed a ⟨hR.size, by rw [put_size, hR.asz], by rw [put_defers, hR.adf], fun j hj => List.mem_cons_of_mem _ (hR.sub j hj), hR.down, hR.eff, fun s hs' => ?_, fun p hp hl' => ?_, fun j hj hjl => ?_, ?_⟩ hc
 ·have hne : o.dst ≠ some s := fun e => hs' i List.mem_cons_self hil (by rw [hdi, e])
  rw [Rel.get_put hne]
  exact hR.same s (fun j hj => hs' j (List.mem_cons_of_mem _ hj))
 ·rcases hF2 p hp with h1 | h1
  ·exact hR.facts p h1 hl'
  ·exact h1
 ·rcases List.mem_cons.1 hj with rfl | hj
  ·have e1 := keepL o (fun d e => (hd1 d e).1)
   refine ⟨o, v, hl, hs, fun d e => ?_, ?_⟩
   ·rw [e]
    exact put_at (by rw [hb.size]; exact hN d e)
   ·rw [wanted_same e1, exec_same hs e1]
    exact hv b hb
  ·obtain ⟨o', v', ho', hs', hdst', hrun'⟩ := hR.pend j hj hjl
   have hlj : lkAt l j = lk l o' := by unfold lkAt; rw [ho']
   have hdj : dstAt l j = o'.dst := by unfold dstAt; rw [ho']; rfl
   have e1 := keepL o' (fun d e => by rw [<- hlj]; exact ((hd1 d e).2 j hj hjl).1)
   refine ⟨o', v', ho', hs', fun d e => ?_, ?_⟩
   ·rw [Rel.get_put (fun e2 => ((hd1 d e2).2 j hj hjl).2 (by rw [hdj, e]))]
    exact hdst' d e
   ·rw [wanted_same e1, exec_same hs' e1]
    rcases hrun' with ⟨h1, h2 | ⟨Φ, h2, h3⟩⟩ | h1
    ·exact .inl ⟨h1, .inl h2⟩
    ·exact .inl ⟨h1, .inr ⟨Φ, hF _ h2, h3⟩⟩
    ·exact .inr h1
 ·intro i' hi' hil' j hj hjl s e hs'
  rcases List.mem_cons.1 hi' with rfl | hi2
  ·rcases List.mem_cons.1 hj with rfl | hj2
   ·exfalso
    rw [hdi] at e
    rw [hli] at hs'
    exact (hd1 s e).1 hs'
   ·exact hd2 j hj2 hjl s e hs'
  ·rcases List.mem_cons.1 hj with rfl | hj2
   ·exfalso
    rw [hdi] at e
    exact ((hd1 s e).2 i' hi2 hil').1 hs'
   ·exact hR.ord i' hi2 hil' j hj2 hjl s e hs'
def allB (l : List Oper) (done : List Nat) : Bool := (List.range l.length).all fun j => mem? j done
theorem OA.fin (hp : planB l = true) (hall : allB l done = true) (h : QW N Q .normal fr w) : OA P l N Q done eff F fr w := by
 intro b hb
 unfold planB at hp
 rw [Bool.and_eq_true] at hp
 refine wpAny_plan hp.1 hp.2 (fun listed a hR hr => ?_) (fun fuel listed a hR hc j hj hd => ?_)
 ·have hpr := progress hp.1 hR.size hr
  have same : ∀ s, a.tmps[s]? = b.tmps[s]? := fun s => hR.same s (fun j hj hjl e => by
   unfold dstAt at e
   cases ho : opAt l j with
   | none => rw [ho] at e; cases e
   | some o => rw [hpr j (lt_opAt ho)] at hjl; cases hjl)
  exact h a ⟨hR.asz.trans hb.size, hR.adf.trans hb.defers, fun i v hi => (same i).trans (hb.get i v hi)⟩
 ·obtain ⟨h1, _, _⟩ := (ready_iff hR.size).1 hj
  exact absurd (mem?_iff.1 (List.all_eq_true.1 hall j (by simpa using h1))) hd
def effB (l : List Oper) (done eff : List Nat) (i : Nat) : Bool :=
 !mem? i done &&
 (List.range l.length).all (fun j => mem? j done || Nat.beq j i || (aft l j).any (fun k => !mem? k done)) &&
 done.all (fun j => mem? j eff || mem? j (must l i) || match dstAt l j with
  | none => true
  | some s => !mem? s (lkAt l i)) &&
 (match dstAt l i with
  | none => true
  | some d => done.all (fun j => mem? j eff || mem? j (must l i) || (!mem? d (lkAt l j) && !(dstAt l j == some d))))
def keepB (l : List Oper) (i : Nat) (keep : List Nat) : Facts -> Bool
 | [] => true
 | p :: r => (mem? p.1 (must l i) || mem? p.1 keep) && keepB l i keep r
theorem keepB_mem {i : Nat} {keep : List Nat} (h : keepB l i keep F = true) : ∀ p ∈ F, p.1 ∈ must l i \/ p.1 ∈ keep := by
 induction F with
 | nil => intro p hp; exact absurd hp List.not_mem_nil
 | cons q r ih =>
  unfold keepB at h
  rw [Bool.and_eq_true, Bool.or_eq_true] at h
  intro p hp
  rcases List.mem_cons.1 hp with rfl | hp
  ·exact h.1.imp mem?_iff.1 mem?_iff.1
  ·exact ih h.2 p hp
def After (P : Program) (l : List Oper) (Q : Exit -> Act -> World -> Prop) (done eff : List Nat) (F : Facts) (e : Exit) (b : Act) (w : World) : Prop := match e with
 | .normal => holds F w /\ OAat P l Q done eff F b w
 | _ => False
def bare (o : Oper) : Oper := { o with guard := none }
theorem OA.act {i : Nat} {o : Oper} (keep : List Nat) (hp : planB l = true) (hl : opAt l i = some o) (hg : gd l fr o = some true) (hck : effB l done eff i = true) (hk : keepB l i keep F = true)
  (h : OW P [bare o] N (After P l Q (i :: done) (i :: eff) (keepF keep F)) 0 fr w) : OA P l N Q done eff F fr w := by
 intro b hb
 unfold planB at hp
 rw [Bool.and_eq_true] at hp
 unfold effB at hck
 simp only [Bool.and_eq_true] at hck
 obtain ⟨⟨⟨hn, hsat⟩, hlk⟩, hd⟩ := hck
 have hn := not_mem? hn
 have hilt := lt_opAt hl
 have hs : noSelect o.op = true := List.all_eq_true.1 hp.2 o (List.mem_of_getElem? (opAt_get hl))
 have hdi : dstAt l i = o.dst := by unfold dstAt; rw [hl]; rfl
 have hli : lkAt l i = lk l o := by unfold lkAt; rw [hl]
 refine wpAny_plan hp.1 hp.2 (fun listed a hR hr => ?_) (fun fuel listed a hR hc j hj hd' => ?_)
 ·exact absurd (hR.sub i (progress hp.1 hR.size hr i hilt)) hn
 obtain ⟨h1, h2, h3⟩ := (ready_iff hR.size).1 hj
 have h3' : ∀ k ∈ must l j, listed.getD k false = true := close_mem (p := fun k => listed.getD k false = true) hR.down _ _ _ h3 (fun x hx => absurd hx List.not_mem_nil)
 have noteff : ∀ j, listed.getD j false = false -> mem? j eff = false := fun j hj => by
  cases hm : mem? j eff with
  | false => rfl
  | true => rw [hR.eff j (mem?_iff.1 hm)] at hj; cases hj
 have e : j = i := by
  have := List.all_eq_true.1 hsat j (by simpa using h1)
  simp only [Bool.or_eq_true] at this
  rcases this with (h4 | h4) | h4
  ·exact absurd (mem?_iff.1 h4) hd'
  ·exact Nat.eq_of_beq_eq_true h4
  ·obtain ⟨k, hk1, hk2⟩ := List.any_eq_true.1 h4
   exact absurd (hR.sub k (h3 k hk1)) (not_mem? hk2)
 subst e
 have hagree : ∀ s ∈ lk l o, a.tmps[s]? = b.tmps[s]? := fun s hs' => hR.same s (fun k hk' hkl e => by
  have := List.all_eq_true.1 hlk k hk'
  rw [noteff k hkl, Bool.false_or, e] at this
  simp only [Bool.or_eq_true] at this
  rcases this with h4 | h4
  ·rw [h3' k (mem?_iff.1 h4)] at hkl; cases hkl
  ·exact absurd (by rw [hli]; exact hs') (not_mem? h4))
 have hd1 : ∀ d, o.dst = some d -> ∀ k ∈ done, listed.getD k false = false -> d ∉ lkAt l k /\ dstAt l k ≠ some d := by
  intro d e k hk' hkl
  rw [hdi, e] at hd
  have := List.all_eq_true.1 hd k hk'
  rw [noteff k hkl, Bool.false_or] at this
  simp only [Bool.or_eq_true, Bool.and_eq_true] at this
  rcases this with h4 | h4
  ·rw [h3' k (mem?_iff.1 h4)] at hkl; cases hkl
  ·refine ⟨not_mem? h4.1, fun e2 => ?_⟩
   rw [e2] at h4
   simp at h4
 have next : ∀ (v : Value) (w' : World) (a1 b1 : Act), a1.tmps = (a.put o.dst v).tmps -> b1.tmps = (b.put o.dst v).tmps -> a1.defers = b1.defers -> After P l Q (j :: done) (j :: eff) (keepF keep F) .normal b1 w' ->
   wpAny P .any l.toArray Q fuel (listed.setIfInBounds j true) a1 w' := by
  intro v w' a1 b1 ea eb ed hA
  obtain ⟨hf, hA⟩ := hA
  have isz : j < listed.size := by rw [hR.size]; exact h1
  refine hA fuel _ a1 ⟨by simpa using hR.size, by rw [ea, eb, put_size, put_size, hR.asz], ed, fun k hk' => ?_, fun k hk' q hq => ?_, fun k hk' => ?_, fun s hs' => ?_, fun p hp' _ => holds_mem hf p hp', fun k hk' hkl => ?_, ?_⟩ ?_
  ·by_cases e : j = k
   ·subst e; exact List.mem_cons_self
   ·rw [getD_set_ne false e] at hk'; exact List.mem_cons_of_mem _ (hR.sub k hk')
  ·by_cases e : j = k
   ·subst e; exact getD_set_true (h3 q hq)
   ·rw [getD_set_ne false e] at hk'; exact getD_set_true (hR.down k hk' q hq)
  ·rcases List.mem_cons.1 hk' with rfl | hk'
   ·exact listed_self isz
   ·exact getD_set_true (hR.eff k hk')
  ·rw [ea, eb]
   by_cases e : o.dst = some s
   ·rw [e]
    by_cases hlt : s < b.tmps.size
    ·rw [put_at hlt, put_at (by rw [hR.asz]; exact hlt)]
    ·rw [Array.getElem?_eq_none (by rw [put_size, hR.asz]; omega), Array.getElem?_eq_none (by rw [put_size]; omega)]
   ·rw [Rel.get_put e, Rel.get_put e]
    exact hR.same s (fun k hk' hkl => hs' k (List.mem_cons_of_mem _ hk') (by
     have : j ≠ k := fun e2 => hd' (by rw [e2]; exact hk')
     rw [getD_set_ne false this]
     exact hkl))
  ·rcases List.mem_cons.1 hk' with rfl | hk'
   ·rw [listed_self isz] at hkl; cases hkl
   have hkl := listed_set hkl
   obtain ⟨o', v', ho', hs', hdst', hrun'⟩ := hR.pend k hk' hkl
   have hlj : lkAt l k = lk l o' := by unfold lkAt; rw [ho']
   have hdj : dstAt l k = o'.dst := by unfold dstAt; rw [ho']; rfl
   have e1 : ∀ s ∈ lk l o', b1.tmps[s]? = b.tmps[s]? := fun s hs2 => by
    rw [eb]
    exact Rel.get_put (fun e => (hd1 s e k hk' hkl).1 (by rw [hlj]; exact hs2))
   refine ⟨o', v', ho', hs', fun d e => ?_, ?_⟩
   ·rw [eb, Rel.get_put (fun e2 => (hd1 d e2 k hk' hkl).2 (by rw [hdj, e]))]
    exact hdst' d e
   ·rw [wanted_same e1, exec_same hs' e1]
    rcases hrun' with ⟨g1, g2 | ⟨Φ, g2, g3⟩⟩ | g1
    ·exact .inl ⟨g1, .inl g2⟩
    ·refine .inl ⟨g1, .inr ⟨Φ, mem_keepF g2 ?_, g3⟩⟩
     rcases keepB_mem hk _ g2 with h4 | h4
     ·rw [h3' k h4] at hkl; cases hkl
     ·exact h4
    ·exact .inr g1
  ·intro i' hi' hil' k hk' hkl s e hs'
   rcases List.mem_cons.1 hi' with rfl | hi'
   ·rw [listed_self isz] at hil'; cases hil'
   rcases List.mem_cons.1 hk' with rfl | hk'
   ·rw [listed_self isz] at hkl; cases hkl
   exact hR.ord i' hi' (listed_set hil') k hk' (listed_set hkl) s e hs'
  ·have := cnt_set hR.size h1 h2
   omega
 have hb1 := h b hb
 have hwant : Region.wanted o (yielded l.toArray b.tmps) = true := gd_wanted hg hb
 have hb2 : (bare o).wp P b w (fun a w => After P l Q (j :: done) (j :: eff) (keepF keep F) .normal a w) (After P l Q (j :: done) (j :: eff) (keepF keep F)) := by
  have : wpList P [bare o].toArray (After P l Q (j :: done) (j :: eff) (keepF keep F)) [bare o] b w := hb1
  unfold wpList at this
  rw [if_pos (show Region.wanted (bare o) (yielded [bare o].toArray b.tmps) = true from rfl)] at this
  rcases this with h4 | ⟨_, a', w', h4⟩
  ·exact h4
  ·exact h4.elim
 unfold wpOp
 rw [opAt_arr, hl]
 simp only []
 rw [wanted_same hagree, if_pos hwant]
 left
 unfold Oper.wp at hb2 |-
 have hex : execOp b.eval (bare o) = execOp a.eval o := by
  rw [exec_same hs hagree]
  rfl
 rw [hex] at hb2
 generalize (execOp a.eval o).run P w = r at hb2 |-
 cases r with
 | ok n w' =>
  cases n with
  | value v => exact next v w' _ _ rfl rfl (by rw [put_defers, put_defers, hR.adf]) hb2
  | skip => exact next undef w' _ _ rfl rfl (by rw [put_defers, put_defers, hR.adf]) hb2
  | defer d => exact next undef w' _ _ (by cases ho : o.dst <;> rfl) (by cases ho : o.dst <;> simp [bare, ho, Act.put]) (by rw [put_defers, put_defers, hR.adf]) hb2
  | enter f args =>
   refine Calls.mono hb2 (fun e w'' he => ?_)
   cases e with
   | returned v => exact next v w'' _ _ rfl rfl (by rw [put_defers, put_defers, hR.adf]) he
   | panicked c => exact he.elim
   | outgrown => obtain ⟨_, _, he⟩ := he; exact he.elim
  | row row args => exact Rows.mono hb2 (fun v w'' he => next v w'' _ _ rfl rfl (by rw [put_defers, put_defers, hR.adf]) he)
  | _ => exact hb2.elim
 | halt x w' =>
  cases x with
  | panic v => exact hb2.elim
  | _ => exact hb2.elim
def satB (l : List Oper) (done is : List Nat) : Bool := (List.range l.length).all (fun j => mem? j done || mem? j is || (aft l j).any (fun k => !mem? k done))
def freeB (l : List Oper) (done eff : List Nat) (i : Nat) : Bool :=
 !mem? i done &&
 done.all (fun j => mem? j eff || mem? j (must l i) || match dstAt l j with
  | none => true
  | some s => !mem? s (lkAt l i)) &&
 (match dstAt l i with
  | none => true
  | some d => done.all (fun j => mem? j eff || mem? j (must l i) || (!mem? d (lkAt l j) && !(dstAt l j == some d))))
def Alt (P : Program) (l : List Oper) (N : Nat) (Q : Exit -> Act -> World -> Prop) (done eff : List Nat) (F : Facts) (fr : List (Nat × Value)) (w : World) (i : Nat) : Prop :=
 ∃ (o : Oper) (keep : List Nat), opAt l i = some o /\ gd l fr o = some true /\ freeB l done eff i = true /\ keepB l i keep F = true /\ OW P [bare o] N (After P l Q (i :: done) (i :: eff) (keepF keep F)) 0 fr w
theorem Alt.of {i : Nat} {o : Oper} (keep : List Nat) (hl : opAt l i = some o) (hg : gd l fr o = some true) (hck : freeB l done eff i = true) (hk : keepB l i keep F = true)
  (h : OW P [bare o] N (After P l Q (i :: done) (i :: eff) (keepF keep F)) 0 fr w) : Alt P l N Q done eff F fr w i := ⟨o, keep, hl, hg, hck, hk, h⟩
theorem alts_nil {p : Nat -> Prop} : ∀ i, i ∈ ([] : List Nat) -> p i := fun i h => absurd h List.not_mem_nil
theorem alts_cons {p : Nat -> Prop} {a : Nat} {r : List Nat} (h : p a) (hr : ∀ i, i ∈ r -> p i) : ∀ i, i ∈ a :: r -> p i := fun i hi => by
 rcases List.mem_cons.1 hi with rfl | hi
 ·exact h
 ·exact hr i hi
theorem OA.acts (is : List Nat) (i0 : Nat) (hp : planB l = true) (hi0 : mem? i0 is && !mem? i0 done && Nat.blt i0 l.length = true) (hsat : satB l done is = true)
  (hall : ∀ i, i ∈ is -> Alt P l N Q done eff F fr w i) : OA P l N Q done eff F fr w := by
 intro b hb
 unfold planB at hp
 rw [Bool.and_eq_true] at hp
 simp only [Bool.and_eq_true] at hi0
 refine wpAny_plan hp.1 hp.2 (fun listed a hR hr => ?_) (fun fuel listed a hR hc j hj hd' => ?_)
 ·exact absurd (hR.sub i0 (progress hp.1 hR.size hr i0 (by simpa [Nat.blt_eq] using hi0.2))) (not_mem? hi0.1.2)
 obtain ⟨h1, h2, h3⟩ := (ready_iff hR.size).1 hj
 have h3' : ∀ k ∈ must l j, listed.getD k false = true := close_mem (p := fun k => listed.getD k false = true) hR.down _ _ _ h3 (fun x hx => absurd hx List.not_mem_nil)
 have noteff : ∀ j, listed.getD j false = false -> mem? j eff = false := fun j hj => by
  cases hm : mem? j eff with
  | false => rfl
  | true => rw [hR.eff j (mem?_iff.1 hm)] at hj; cases hj
 have e : j ∈ is := by
  have := List.all_eq_true.1 hsat j (by simpa using h1)
  simp only [Bool.or_eq_true] at this
  rcases this with (h4 | h4) | h4
  ·exact absurd (mem?_iff.1 h4) hd'
  ·exact mem?_iff.1 h4
  ·obtain ⟨k, hk1, hk2⟩ := List.any_eq_true.1 h4
   exact absurd (hR.sub k (h3 k hk1)) (not_mem? hk2)
 obtain ⟨o, keep, hl, hg, hck, hk, h⟩ := hall j e
 unfold freeB at hck
 simp only [Bool.and_eq_true] at hck
 obtain ⟨⟨hn, hlk⟩, hd⟩ := hck
 have hn := not_mem? hn
 have hs : noSelect o.op = true := List.all_eq_true.1 hp.2 o (List.mem_of_getElem? (opAt_get hl))
 have hdi : dstAt l j = o.dst := by unfold dstAt; rw [hl]; rfl
 have hli : lkAt l j = lk l o := by unfold lkAt; rw [hl]
 have hagree : ∀ s ∈ lk l o, a.tmps[s]? = b.tmps[s]? := fun s hs' => hR.same s (fun k hk' hkl e => by
  have := List.all_eq_true.1 hlk k hk'
  rw [noteff k hkl, Bool.false_or, e] at this
  simp only [Bool.or_eq_true] at this
  rcases this with h4 | h4
  ·rw [h3' k (mem?_iff.1 h4)] at hkl; cases hkl
  ·exact absurd (by rw [hli]; exact hs') (not_mem? h4))
 have hd1 : ∀ d, o.dst = some d -> ∀ k ∈ done, listed.getD k false = false -> d ∉ lkAt l k /\ dstAt l k ≠ some d := by
  intro d e k hk' hkl
  rw [hdi, e] at hd
  have := List.all_eq_true.1 hd k hk'
  rw [noteff k hkl, Bool.false_or] at this
  simp only [Bool.or_eq_true, Bool.and_eq_true] at this
  rcases this with h4 | h4
  ·rw [h3' k (mem?_iff.1 h4)] at hkl; cases hkl
  ·refine ⟨not_mem? h4.1, fun e2 => ?_⟩
   rw [e2] at h4
   simp at h4
 have next : ∀ (v : Value) (w' : World) (a1 b1 : Act), a1.tmps = (a.put o.dst v).tmps -> b1.tmps = (b.put o.dst v).tmps -> a1.defers = b1.defers -> After P l Q (j :: done) (j :: eff) (keepF keep F) .normal b1 w' ->
   wpAny P .any l.toArray Q fuel (listed.setIfInBounds j true) a1 w' := by
  intro v w' a1 b1 ea eb ed hA
  obtain ⟨hf, hA⟩ := hA
  have isz : j < listed.size := by rw [hR.size]; exact h1
  refine hA fuel _ a1 ⟨by simpa using hR.size, by rw [ea, eb, put_size, put_size, hR.asz], ed, fun k hk' => ?_, fun k hk' q hq => ?_, fun k hk' => ?_, fun s hs' => ?_, fun p hp' _ => holds_mem hf p hp', fun k hk' hkl => ?_, ?_⟩ ?_
  ·by_cases e : j = k
   ·subst e; exact List.mem_cons_self
   ·rw [getD_set_ne false e] at hk'; exact List.mem_cons_of_mem _ (hR.sub k hk')
  ·by_cases e : j = k
   ·subst e; exact getD_set_true (h3 q hq)
   ·rw [getD_set_ne false e] at hk'; exact getD_set_true (hR.down k hk' q hq)
  ·rcases List.mem_cons.1 hk' with rfl | hk'
   ·exact listed_self isz
   ·exact getD_set_true (hR.eff k hk')
  ·rw [ea, eb]
   by_cases e : o.dst = some s
   ·rw [e]
    by_cases hlt : s < b.tmps.size
    ·rw [put_at hlt, put_at (by rw [hR.asz]; exact hlt)]
    ·rw [Array.getElem?_eq_none (by rw [put_size, hR.asz]; omega), Array.getElem?_eq_none (by rw [put_size]; omega)]
   ·rw [Rel.get_put e, Rel.get_put e]
    exact hR.same s (fun k hk' hkl => hs' k (List.mem_cons_of_mem _ hk') (by
     have : j ≠ k := fun e2 => hd' (by rw [e2]; exact hk')
     rw [getD_set_ne false this]
     exact hkl))
  ·rcases List.mem_cons.1 hk' with rfl | hk'
   ·rw [listed_self isz] at hkl; cases hkl
   have hkl := listed_set hkl
   obtain ⟨o', v', ho', hs', hdst', hrun'⟩ := hR.pend k hk' hkl
   have hlj : lkAt l k = lk l o' := by unfold lkAt; rw [ho']
   have hdj : dstAt l k = o'.dst := by unfold dstAt; rw [ho']; rfl
   have e1 : ∀ s ∈ lk l o', b1.tmps[s]? = b.tmps[s]? := fun s hs2 => by
    rw [eb]
    exact Rel.get_put (fun e => (hd1 s e k hk' hkl).1 (by rw [hlj]; exact hs2))
   refine ⟨o', v', ho', hs', fun d e => ?_, ?_⟩
   ·rw [eb, Rel.get_put (fun e2 => (hd1 d e2 k hk' hkl).2 (by rw [hdj, e]))]
    exact hdst' d e
   ·rw [wanted_same e1, exec_same hs' e1]
    rcases hrun' with ⟨g1, g2 | ⟨Φ, g2, g3⟩⟩ | g1
    ·exact .inl ⟨g1, .inl g2⟩
    ·refine .inl ⟨g1, .inr ⟨Φ, mem_keepF g2 ?_, g3⟩⟩
     rcases keepB_mem hk _ g2 with h4 | h4
     ·rw [h3' k h4] at hkl; cases hkl
     ·exact h4
    ·exact .inr g1
  ·intro i' hi' hil' k hk' hkl s e hs'
   rcases List.mem_cons.1 hi' with rfl | hi'
   ·rw [listed_self isz] at hil'; cases hil'
   rcases List.mem_cons.1 hk' with rfl | hk'
   ·rw [listed_self isz] at hkl; cases hkl
   exact hR.ord i' hi' (listed_set hil') k hk' (listed_set hkl) s e hs'
  ·have := cnt_set hR.size h1 h2
   omega
 have hb1 := h b hb
 have hwant : Region.wanted o (yielded l.toArray b.tmps) = true := gd_wanted hg hb
 have hb2 : (bare o).wp P b w (fun a w => After P l Q (j :: done) (j :: eff) (keepF keep F) .normal a w) (After P l Q (j :: done) (j :: eff) (keepF keep F)) := by
  have : wpList P [bare o].toArray (After P l Q (j :: done) (j :: eff) (keepF keep F)) [bare o] b w := hb1
  unfold wpList at this
  rw [if_pos (show Region.wanted (bare o) (yielded [bare o].toArray b.tmps) = true from rfl)] at this
  rcases this with h4 | ⟨_, a', w', h4⟩
  ·exact h4
  ·exact h4.elim
 unfold wpOp
 rw [opAt_arr, hl]
 simp only []
 rw [wanted_same hagree, if_pos hwant]
 left
 unfold Oper.wp at hb2 |-
 have hex : execOp b.eval (bare o) = execOp a.eval o := by
  rw [exec_same hs hagree]
  rfl
 rw [hex] at hb2
 generalize (execOp a.eval o).run P w = r at hb2 |-
 cases r with
 | ok n w' =>
  cases n with
  | value v => exact next v w' _ _ rfl rfl (by rw [put_defers, put_defers, hR.adf]) hb2
  | skip => exact next undef w' _ _ rfl rfl (by rw [put_defers, put_defers, hR.adf]) hb2
  | defer d => exact next undef w' _ _ (by cases ho : o.dst <;> rfl) (by cases ho : o.dst <;> simp [bare, ho, Act.put]) (by rw [put_defers, put_defers, hR.adf]) hb2
  | enter f args =>
   refine Calls.mono hb2 (fun e w'' he => ?_)
   cases e with
   | returned v => exact next v w'' _ _ rfl rfl (by rw [put_defers, put_defers, hR.adf]) he
   | panicked c => exact he.elim
   | outgrown => obtain ⟨_, _, he⟩ := he; exact he.elim
  | row row args => exact Rows.mono hb2 (fun v w'' he => next v w'' _ _ rfl rfl (by rw [put_defers, put_defers, hR.adf]) he)
  | _ => exact hb2.elim
 | halt x w' =>
  cases x with
  | panic v => exact hb2.elim
  | _ => exact hb2.elim
theorem OA.next {o : Oper} {F2 : Facts} (hf : holds F2 w) (h : OA P l N Q done eff F2 fr w) : OW P [o] N (After P l Q done eff F2) 1 fr w :=
 OW.nil rfl (fun b hb => ⟨hf, h b hb⟩)
def chunkI (P : Program) (l : List Oper) (N : Nat) (eff : List Nat) : List Nat -> List Nat -> List (Nat × Value) -> Option (List (Nat × Value))
 | [], _, fr => some fr
 | i :: r, done, fr => match opAt l i with
  | none => none
  | some o => match addB l done eff i, noSelect o.op with
   | true, true => match o.dst with
    | none => match gd l fr o with
     | some false => chunkI P l N eff r (i :: done) fr
     | _ => none
    | some d => match Nat.blt d N with
     | false => none
     | true => match gd l fr o with
      | some true => match pstep P fr o with
       | some v => chunkI P l N eff r (i :: done) ((d, v) :: fr)
       | none => none
      | some false => chunkI P l N eff r (i :: done) ((d, undef) :: fr)
      | none => none
   | _, _ => none
def onto (is done : List Nat) : List Nat := match is with
 | [] => done
 | i :: r => onto r (i :: done)
theorem chunk_oa : ∀ (is done : List Nat) (fr : List (Nat × Value)) {fr2 : List (Nat × Value)}, chunkI P l N eff is done fr = some fr2 -> OA P l N Q (onto is done) eff F fr2 w -> OA P l N Q done eff F fr w := by
 intro is
 induction is with
 | nil => intro done fr fr2 h k; simp only [chunkI, Option.some.injEq] at h; subst h; exact k
 | cons i r ih =>
  intro done fr fr2 h k
  unfold chunkI at h
  split at h
  ·cases h
  ·rename_i o ho
   split at h
   ·rename_i hck hsel
    split at h
    ·rename_i hd
     split at h
     ·rename_i hg
      refine OA.add (v := undef) fr F ho hck hsel (fun b hb => by rw [hd]; exact hb) (fun p hp => hp) (fun p hp => .inl hp) (fun b hb => .inr ⟨gd_wanted hg hb, rfl⟩) (fun d e => by rw [hd] at e; cases e) ?_
      exact ih _ _ h k
     ·cases h
    ·rename_i d hd
     split at h
     ·cases h
     ·rename_i hN
      have hN' : ∀ d', o.dst = some d' -> d' < N := fun d' e => by rw [hd] at e; cases e; simpa [Nat.blt_eq] using hN
      split at h
      ·rename_i hg
       split at h
       ·rename_i v hv
        refine OA.add (v := v) ((d, v) :: fr) F ho hck hsel (fun b hb => by rw [hd]; exact hb.put hN) (fun p hp => hp) (fun p hp => .inl hp) (fun b hb => .inl ⟨gd_wanted hg hb, .inl (fun w => pstep_run hv hb w)⟩) hN' ?_
        exact ih _ _ h k
       ·cases h
      ·rename_i hg
       refine OA.add (v := undef) ((d, undef) :: fr) F ho hck hsel (fun b hb => by rw [hd]; exact hb.put hN) (fun p hp => hp) (fun p hp => .inl hp) (fun b hb => .inr ⟨gd_wanted hg hb, rfl⟩) hN' ?_
       exact ih _ _ h k
      ·cases h
   ·cases h
theorem OA.pure (is : List Nat) (new : List (Nat × Value))
  (h : (chunkI P l N eff is done fr).map (fun fr2 => finds fr2 (firsts [] (new ++ fr))) = some (theirs (firsts [] (new ++ fr))))
  (k : OA P l N Q (onto is done) eff F (new ++ fr) w) : OA P l N Q done eff F fr w := by
 cases hc' : chunkI P l N eff is done fr with
 | none => rw [hc'] at h; cases h
 | some fr2 =>
  rw [hc'] at h
  simp only [Option.map_some, Option.some.injEq] at h
  exact chunk_oa is done fr hc' (fun a ha => k a (ha.agrees h))
theorem OA.val {i d : Nat} {o : Oper} {v : Value} (hl : opAt l i = some o) (hck : addB l done eff i = true) (hs : noSelect o.op = true) (hg : gd l fr o = some true) (hd : o.dst = some d) (hN : Nat.blt d N = true)
  (hr : ∀ b w, Rep N fr b -> (execOp b.eval o).run P w = .ok (.value v) w)
  (h : OA P l N Q (i :: done) eff F ((d, v) :: fr) w) : OA P l N Q done eff F fr w :=
 OA.add (v := v) ((d, v) :: fr) F hl hck hs (fun b hb => by rw [hd]; exact hb.put hN) (fun p hp => hp) (fun p hp => .inl hp) (fun b hb => .inl ⟨gd_wanted hg hb, .inl (fun w => hr b w hb)⟩)
  (fun d' e => by rw [hd] at e; cases e; simpa [Nat.blt_eq] using hN) h
theorem OA.sees {i d : Nat} {o : Oper} {v : Value} (Φ : World -> Prop) (hl : opAt l i = some o) (hck : addB l done eff i = true) (hs : noSelect o.op = true) (hg : gd l fr o = some true) (hd : o.dst = some d) (hN : Nat.blt d N = true)
  (hr : ∀ b w, Rep N fr b -> Φ w -> (execOp b.eval o).run P w = .ok (.value v) w) (hw : Φ w)
  (h : OA P l N Q (i :: done) eff ((i, Φ) :: F) ((d, v) :: fr) w) : OA P l N Q done eff F fr w :=
 OA.add (v := v) ((d, v) :: fr) ((i, Φ) :: F) hl hck hs (fun b hb => by rw [hd]; exact hb.put hN) (fun p hp => List.mem_cons_of_mem _ hp)
  (fun p hp => by
   rcases List.mem_cons.1 hp with rfl | hp
   ·exact .inr hw
   ·exact .inl hp)
  (fun b hb => .inl ⟨gd_wanted hg hb, .inr ⟨Φ, List.mem_cons_self, fun w hw => hr b w hb hw⟩⟩)
  (fun d' e => by rw [hd] at e; cases e; simpa [Nat.blt_eq] using hN) h
theorem OA.split (s : Nat) {b : Bool} (hs : fget fr s = some (.bool b)) (ht : b = true -> OA P l N Q done eff F ((s, .bool true) :: fr) w) (hf : b = false -> OA P l N Q done eff F ((s, .bool false) :: fr) w) : OA P l N Q done eff F fr w := by
 cases b with
 | true => exact fun a ha => ht rfl a ⟨ha.size, ha.defers, fun j v hj => by
   rw [fget_cons] at hj
   by_cases e : s = j
   ·subst e; rw [if_pos rfl] at hj; exact ha.get _ _ (hs.trans hj)
   ·rw [if_neg e] at hj; exact ha.get _ _ hj⟩
 | false => exact fun a ha => hf rfl a ⟨ha.size, ha.defers, fun j v hj => by
   rw [fget_cons] at hj
   by_cases e : s = j
   ·subst e; rw [if_pos rfl] at hj; exact ha.get _ _ (hs.trans hj)
   ·rw [if_neg e] at hj; exact ha.get _ _ hj⟩
theorem OA.idx {i : Nat} (e sz : Nat) {d : Nat} {t : TypeId} {x y : Operand} {ty : TypeId} {pos : String} {af : Array Edge} {gdd : Option (Nat × Bool)} (hl : opAt l i = some ⟨some d, .indexAddr t x y, ty, pos, af, gdd⟩) (hck : addB l done eff i = true)
  (hg : gd l fr ⟨some d, .indexAddr t x y, ty, pos, af, gdd⟩ = some true) (hN : Nat.blt d N = true)
  {b k n cp : Nat} {q : Int} {kd : IntKind} {v : Value} (hx : look fr x = some v) (hv : v = .slice (some ⟨b, k, none⟩) n cp) (hy : look fr y = some (.int kd q)) (h0 : 0 <= q) (h1 : q < n)
  (ht : P.underlying t = some (.slice e)) (hs : psem P (sizeOf e) = some sz)
  (h : OA P l N Q (i :: done) eff F ((d, .pointer (some ⟨b, k + q.toNat * sz, none⟩)) :: fr) w) : OA P l N Q done eff F fr w := by
 refine OA.val hl hck rfl hg rfl hN (fun a w ha => ?_) h
 have e1 := ha.look hx
 have e2 := ha.look hy
 subst hv
 simp [execOp, Instr.indexAt, e1, e2, asIntOf, run_underlying ht, h0, h1, psem_run hs, add_none]
theorem OA.ld {i d : Nat} {t : TypeId} {x : Operand} {ty : TypeId} {pos : String} {af : Array Edge} {gdd : Option (Nat × Bool)} (hl : opAt l i = some ⟨some d, .load t x, ty, pos, af, gdd⟩) (hck : addB l done eff i = true)
  (hg : gd l fr ⟨some d, .load t x, ty, pos, af, gdd⟩ = some true) (hN : Nat.blt d N = true)
  {a : Addr} {v : Value} (hx : look fr x = some (.pointer (some a))) (hA : psem P (isAgg t) = some false) (hv : w.cell? a = some v)
  (h : OA P l N Q (i :: done) eff ((i, fun w => w.cell? a = some v) :: F) ((d, v) :: fr) w) : OA P l N Q done eff F fr w := by
 refine OA.sees (fun w => w.cell? a = some v) hl hck rfl hg rfl hN (fun a w ha hv => ?_) hv h
 have e1 := ha.look hx
 simp [execOp, e1, run_load1 hA hv]
theorem OA.ldN {i d : Nat} {t : TypeId} {x : Operand} {ty : TypeId} {pos : String} {af : Array Edge} {gdd : Option (Nat × Bool)} (hl : opAt l i = some ⟨some d, .load t x, ty, pos, af, gdd⟩) (hck : addB l done eff i = true)
  (hg : gd l fr ⟨some d, .load t x, ty, pos, af, gdd⟩ = some true) (hN : Nat.blt d N = true)
  {b k : Nat} (cs : List Value) (hx : look fr x = some (.pointer (some ⟨b, k, none⟩))) (hA : psem P (isAgg t) = some true) (hs : psem P (sizeOf t) = some cs.length)
  (hv : ∀ j u, cs[j]? = some u -> w.cell? ⟨b, k + j, none⟩ = some u)
  (h : OA P l N Q (i :: done) eff ((i, fun w => ∀ j u, cs[j]? = some u -> w.cell? ⟨b, k + j, none⟩ = some u) :: F) ((d, .agg cs.toArray) :: fr) w) : OA P l N Q done eff F fr w := by
 refine OA.sees (fun w => ∀ j u, cs[j]? = some u -> w.cell? ⟨b, k + j, none⟩ = some u) hl hck rfl hg rfl hN (fun a w ha hv => ?_) hv h
 have e1 := ha.look hx
 simp [execOp, e1, run_loadN hA hs hv]
theorem OA.rem {i d : Nat} {t t2 : TypeId} {x y : Operand} {ty : TypeId} {pos : String} {af : Array Edge} {gdd : Option (Nat × Bool)} (hl : opAt l i = some ⟨some d, .binOp .rem t x y t2, ty, pos, af, gdd⟩) (hck : addB l done eff i = true)
  (hg : gd l fr ⟨some d, .binOp .rem t x y t2, ty, pos, af, gdd⟩ = some true) (hN : Nat.blt d N = true) {k : IntKind} {a b : Int} (hx : look fr x = some (.int k a)) (hy : look fr y = some (.int k b)) (hb : b ≠ 0)
  (h : OA P l N Q (i :: done) eff F ((d, .int k (a.tmod b)) :: fr) w) : OA P l N Q done eff F fr w := by
 refine OA.val hl hck rfl hg rfl hN (fun a w ha => ?_) h
 have e1 := ha.look hx
 have e2 := ha.look hy
 simp [execOp, eqGuard, binOp, Op.intDiv, e1, e2, hb]
theorem OA.quo {i d : Nat} {t t2 : TypeId} {x y : Operand} {ty : TypeId} {pos : String} {af : Array Edge} {gdd : Option (Nat × Bool)} (hl : opAt l i = some ⟨some d, .binOp .quo t x y t2, ty, pos, af, gdd⟩) (hck : addB l done eff i = true)
  (hg : gd l fr ⟨some d, .binOp .quo t x y t2, ty, pos, af, gdd⟩ = some true) (hN : Nat.blt d N = true) {k : IntKind} {a b : Int} (hx : look fr x = some (.int k a)) (hy : look fr y = some (.int k b)) (hb : b ≠ 0)
  (h : OA P l N Q (i :: done) eff F ((d, .int k (k.wrap (a.tdiv b))) :: fr) w) : OA P l N Q done eff F fr w := by
 refine OA.val hl hck rfl hg rfl hN (fun a w ha => ?_) h
 have e1 := ha.look hx
 have e2 := ha.look hy
 simp [execOp, eqGuard, binOp, Op.intDiv, e1, e2, hb]
end
end Go.Sx
set_option linter.unusedVariables false
set_option linter.unusedSimpArgs false
namespace Go.Sx
open Go.RowKit
section
variable {P : Program} {N : Nat} {fr : List (Nat × Value)} {w : World}
theorem loadVar_run {ty : TypeId} {a : Addr} {v : Value} (h : (Instr.loadAt ty (.pointer (some a))).run P w = .ok v w) : (loadVar ty a).run P w = .ok v w := by
 simpa [Instr.loadAt, Instr.sureAddr] using h
def imin (x y : Int) : Int := if y < x then y else x
def imax (x y : Int) : Int := if y > x then y else x
def sidx (s : ByteArray) (t : Int) : Option Int := match (if 0 <= t then s[t.toNat]? else none) with
 | some b => some (b.toNat : Int)
 | none => none
theorem sidx_run {o : Oper} {t : TypeId} {x y : Operand} {s : ByteArray} {q c : Int} {kd : IntKind} (ho : o.op = .index t x y) (hx : look fr x = some (.string s)) (hy : look fr y = some (.int kd q))
  (ht : P.underlying t = some .string) (h : sidx s q = some c) : ∀ a w, Rep N fr a -> (execOp a.eval o).run P w = .ok (.value (.int .u8 c)) w := by
 intro a w ha
 have e1 := ha.look hx
 have e2 := ha.look hy
 unfold sidx at h
 split at h
 ·rename_i b hb
  cases h
  simp [execOp, ho, Instr.index, e1, e2, asIntOf, run_underlying ht, hb]
 ·cases h
theorem aidx_run {o : Oper} {t : TypeId} {x y : Operand} {n : Nat} (e sz : Nat) {b k : Nat} {q : Int} {kd : IntKind} (ho : o.op = .indexAddr t x y) (hx : look fr x = some (.pointer (some ⟨b, k, none⟩))) (hy : look fr y = some (.int kd q))
  (h0 : 0 <= q) (h1 : q < (n : Int)) (ht : P.underlying t = some (.array n e)) (hs : psem P (sizeOf e) = some sz) : ∀ a w, Rep N fr a -> (execOp a.eval o).run P w = .ok (.value (.pointer (some ⟨b, k + q.toNat * sz, none⟩))) w := by
 intro a w ha
 have e1 := ha.look hx
 have e2 := ha.look hy
 simp [execOp, ho, Instr.indexAt, Instr.sureAddr, e1, e2, asIntOf, run_underlying ht, h0, h1, psem_run hs, add_none]
end
def fieldsEq (P : Program) (eqv : TypeId -> Value -> Value -> Option Bool) (xs ys : Array Value) : List Field -> Option Bool
 | [] => some true
 | f :: r => match f.name == "_", psem P (part f.type xs f.offset), psem P (part f.type ys f.offset) with
  | false, some x, some y => match eqv f.type x y, fieldsEq P eqv xs ys r with
   | some b, some c => some (b && c)
   | _, _ => none
  | _, _, _ => none
def valEq (P : Program) : Nat -> TypeId -> Value -> Value -> Option Bool
 | 0, _, _, _ => none
 | n + 1, t, x, y => match P.underlying t, x, y with
  | some (.int _), .int k a, .int k' b => if k = k' then some (a == b) else none
  | some .bool, .bool a, .bool b => some (a == b)
  | some .string, .string a, .string b => some (a == b)
  | some (.struct fs), .agg xs, .agg ys => match P.stoodInHeld t with
   | false => fieldsEq P (valEq P n) xs ys fs.toList
   | true => none
  | _, _, _ => none
theorem fields_run {P : Program} {eqv : TypeId -> Value -> Value -> Option Bool} {xs ys : Array Value} {d : Nat} {w : World} (he : ∀ t x y r, eqv t x y = some r -> (Op.equalIn d t x y).run P w = .ok r w) :
  ∀ {fs : List Field} {r : Bool}, fieldsEq P eqv xs ys fs = some r -> (Op.eqFields d xs ys fs).run P w = .ok r w := by
 intro fs
 induction fs with
 | nil => intro r h; cases h; simp [Op.eqFields]
 | cons f fs ih =>
  intro r h
  unfold fieldsEq at h
  split at h
  ·rename_i x y hn hx hy
   split at h
   ·rename_i b c hb hc
    cases h
    have hn' : f.name ≠ "_" := by simpa using hn
    have e1 := psem_run hx w
    have e2 := psem_run hy w
    have e3 := he _ _ _ _ hb
    have e4 := ih hc
    unfold Op.eqFields
    rw [if_pos hn']
    simp only [Sem.run_bind, e1, e2, e3, Result.andThen_ok]
    cases b with
    | true => simpa using e4
    | false => simp
   ·cases h
  ·cases h
theorem valEq_run {P : Program} (w : World) : ∀ (n : Nat) {t : TypeId} {x y : Value} {r : Bool}, valEq P n t x y = some r -> ∀ d, n <= d -> (Op.equalIn d t x y).run P w = .ok r w := by
 intro n
 induction n with
 | zero => intro t x y r h; cases h
 | succ n ih =>
  intro t x y r h d hd
  obtain ⟨d, rfl⟩ : ∃ e, d = e + 1 := ⟨d - 1, by omega⟩
  unfold valEq at h
  split at h
  ·rename_i hu
   split at h
   ·rename_i hk
    cases h
    simp [Op.equalIn, run_underlying hu, hk]
   ·cases h
  ·rename_i hu
   cases h
   simp [Op.equalIn, run_underlying hu]
  ·rename_i hu
   cases h
   simp [Op.equalIn, run_underlying hu]
  ·rename_i fs xs ys hu
   split at h
   ·rename_i hp
    have hf : P.fieldsOf t = fs := by unfold Program.fieldsOf; rw [hu]
    rw [run_equalIn_struct w d t xs ys (by rw [hf]; exact hu) hp, hf]
    exact fields_run (fun t x y r h => ih h d (by omega)) h
   ·cases h
  ·cases h
section
variable {P : Program} {N : Nat} {fr : List (Nat × Value)}
theorem seq_run {o : Oper} {t t2 : TypeId} {x y : Operand} {xs ys : Array Value} {r : Bool} (ho : o.op = .binOp .eql t x y t2) (hx : look fr x = some (.agg xs)) (hy : look fr y = some (.agg ys))
  (hm : P.eqGuardType P.depth t = false) (h : valEq P 9 t (.agg xs) (.agg ys) = some r) : ∀ a w, Rep N fr a -> (execOp a.eval o).run P w = .ok (.value (.bool r)) w := by
 intro a w ha
 have e1 := ha.look hx
 have e2 := ha.look hy
 have e3 := run_eqGuard_agg (P := P) w .eql t x y xs ys hm
 have e4 := valEq_run w 9 h 10000 (by omega)
 simp [execOp, ho, e1, e2, e3, run_eql_struct, e4]
theorem sneq_run {o : Oper} {t t2 : TypeId} {x y : Operand} {xs ys : Array Value} {r : Bool} (ho : o.op = .binOp .neq t x y t2) (hx : look fr x = some (.agg xs)) (hy : look fr y = some (.agg ys))
  (hm : P.eqGuardType P.depth t = false) (h : valEq P 9 t (.agg xs) (.agg ys) = some r) : ∀ a w, Rep N fr a -> (execOp a.eval o).run P w = .ok (.value (.bool (!r))) w := by
 intro a w ha
 have e1 := ha.look hx
 have e2 := ha.look hy
 have e3 := run_eqGuard_agg (P := P) w .neq t x y xs ys hm
 have e4 := valEq_run w 9 h 10000 (by omega)
 simp [execOp, ho, e1, e2, e3, run_neq_struct, e4]
end
def cut {α : Type} (xs : List α) (lo hi : Int) : Option (List α) := if 0 <= lo /\ lo <= hi /\ hi <= xs.length then some ((xs.take hi.toNat).drop lo.toNat) else none
theorem cut_some {α : Type} {xs ys : List α} {lo hi : Int} (h : cut xs lo hi = some ys) : 0 <= lo /\ lo <= hi /\ hi <= xs.length /\ ys = (xs.take hi.toNat).drop lo.toNat := by
 unfold cut at h
 split at h
 ·rename_i hc
  cases h
  exact ⟨hc.1, hc.2.1, hc.2.2, rfl⟩
 ·cases h
theorem cut_len {α : Type} {xs ys : List α} {lo hi : Int} (h : cut xs lo hi = some ys) : ys.length = hi.toNat - lo.toNat := by
 obtain ⟨h0, h1, h2, rfl⟩ := cut_some h
 rw [List.length_drop, List.length_take]
 omega
theorem cut_le {α : Type} {xs ys : List α} {lo hi : Int} (h : cut xs lo hi = some ys) : ys.length <= xs.length := by
 obtain ⟨h0, h1, h2, rfl⟩ := cut_some h
 rw [List.length_drop, List.length_take]
 omega
theorem pre_idx {α : Type} {xs ys : List α} {hi t : Int} {x : α} (h : cut xs 0 hi = some ys) (hx : idx ys t = some x) : idx xs t = some x := by
 obtain ⟨h0, h1, h2, rfl⟩ := cut_some h
 obtain ⟨t0, t1, t2⟩ := idx_some hx
 unfold idx
 rw [if_pos t0]
 simp only [Int.toNat_zero, List.drop_zero] at t2 t1
 rw [List.getElem?_take] at t2
 split at t2
 ·exact t2
 ·cases t2
theorem St.cap {w0 w : World} {S0 : List Nat} {L : List Item} (h : St w0 S0 w L) (j : Nat) {α : Type} {a : Option Addr} {n c : Nat} {T : TypeId} {enc : α -> List Value} {sz : Nat} {xs : List α} (hj : L[j]? = some (rowI (.slice a n c) T enc sz xs)) : xs.length <= c := by
 have hr := h.all j _ hj
 rcases hr.2 with ⟨hn, b, he⟩ | ⟨g, o, cap, cur, he, _, _, hnc, _⟩
 ·omega
 ·cases he
  exact hnc
section
variable {P : Program} {N : Nat} {fr : List (Nat × Value)}
theorem pre_run {α : Type} {o : Oper} {t e : TypeId} {x y : Operand} {a : Option Addr} {n c : Nat} {q : Int} {kd : IntKind} {xs ys : List α} (sz : Nat) (ho : o.op = .slice t x none (some y) none) (hx : look fr x = some (.slice a n c)) (hy : look fr y = some (.int kd q))
  (hc : cut xs 0 q = some ys) (hcap : xs.length <= c) (ht : P.underlying t = some (.slice e)) (hs : psem P (sizeOf e) = some sz) : ∀ b w, Rep N fr b -> (execOp b.eval o).run P w = .ok (.value (.slice a ys.length c)) w := by
 intro b w hb
 have e1 := hb.look hx
 have e2 := hb.look hy
 obtain ⟨h0, h1, h2, _⟩ := cut_some hc
 have hl := cut_len hc
 have h3 : 0 <= q /\ q <= (c : Int) := ⟨h1, by omega⟩
 have e3 : q.toNat - 0 = ys.length := by simpa using hl.symm
 have e4 : (if c = 0 then a else a.map (fun x => x.add 0)) = a := by
  split
  ·rfl
  ·cases a with
   | none => rfl
   | some z => simp [Addr.add]
 simp [execOp, ho, Instr.sliceAt, Instr.slice, Instr.sliceBounds, Instr.sliceBound, run_underlying ht, e1, e2, asIntOf, h3, psem_run hs, hl, e4]
end
section
variable {P : Program} {N : Nat} {fr : List (Nat × Value)}
theorem snil_run {o : Oper} {t t2 e : TypeId} {x y : Operand} {a : Option Addr} {n c : Nat} (ho : o.op = .binOp .eql t x y t2) (hx : look fr x = some (.slice a n c)) (hy : look fr y = some (.slice none 0 0)) (ht : P.underlying t = some (.slice e)) :
  ∀ b w, Rep N fr b -> (execOp b.eval o).run P w = .ok (.value (.bool a.isNone)) w := by
 intro b w hb
 have e1 := hb.look hx
 have e2 := hb.look hy
 have e3 : (binOp .eql t (.slice a n c) (.slice none 0 0)).run P w = .ok (.bool a.isNone) w := by
  exact Lib.run_eql_slice_nil w t e a n c 0 0 ht
 simp [execOp, ho, e1, e2, eqGuard, e3]
end
def bAnd (k : IntKind) (x y : Int) : Int := k.wrap (BitVec.ofInt k.bits x &&& BitVec.ofInt k.bits y).toNat
def bOr (k : IntKind) (x y : Int) : Int := k.wrap (BitVec.ofInt k.bits x ||| BitVec.ofInt k.bits y).toNat
def bXor (k : IntKind) (x y : Int) : Int := k.wrap (BitVec.ofInt k.bits x ^^^ BitVec.ofInt k.bits y).toNat
def bAndNot (k : IntKind) (x y : Int) : Int := k.wrap (BitVec.ofInt k.bits x &&& ~~~(BitVec.ofInt k.bits y)).toNat
def bShl (k : IntKind) (x y : Int) : Int := k.wrap (x * 2 ^ (min y.toNat k.bits))
def bShr (k : IntKind) (x y : Int) : Int := x.fdiv (2 ^ (min y.toNat k.bits))
def nn (y : Int) : Option Unit := if y < 0 then none else some ()
theorem wu64_nn (x : Int) : ¬ wu64 x < 0 := by
 have e : wu64 x = x % 18446744073709551616 := rfl
 rw [e]; omega
theorem nn_ge {y : Int} {u : Unit} (h : nn y = some u) : ¬ y < 0 := by
 unfold nn at h
 split at h
 ·cases h
 ·assumption
section
variable {P : Program} {N : Nat} {fr : List (Nat × Value)}
theorem shl_run {o : Oper} {t t2 : TypeId} {x y : Operand} {k yk : IntKind} {a b : Int} (ho : o.op = .binOp .shl t x y t2) (hx : look fr x = some (.int k a)) (hy : look fr y = some (.int yk b)) (hb : ¬ b < 0) :
  ∀ r w, Rep N fr r -> (execOp r.eval o).run P w = .ok (.value (.int k (bShl k a b))) w := by
 intro r w hr
 have e1 := hr.look hx
 have e2 := hr.look hy
 simp [execOp, ho, e1, e2, eqGuard, binOp, Op.shift, hb, bShl]
theorem shr_run {o : Oper} {t t2 : TypeId} {x y : Operand} {k yk : IntKind} {a b : Int} (ho : o.op = .binOp .shr t x y t2) (hx : look fr x = some (.int k a)) (hy : look fr y = some (.int yk b)) (hb : ¬ b < 0) :
  ∀ r w, Rep N fr r -> (execOp r.eval o).run P w = .ok (.value (.int k (bShr k a b))) w := by
 intro r w hr
 have e1 := hr.look hx
 have e2 := hr.look hy
 simp [execOp, ho, e1, e2, eqGuard, binOp, Op.shift, hb, bShr]
end
end Go.Sx
