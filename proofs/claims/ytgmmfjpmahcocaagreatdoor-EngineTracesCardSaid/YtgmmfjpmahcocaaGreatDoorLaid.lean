import Derived.Test.YtgmmfjpmahcocaaGreatDoorGlue
import Derived.OpenShut
import Derived.Deep.DeepHandedRow
import Derived.LaidLaws
import Derived.SevenTiedAt
set_option linter.unusedSimpArgs false
set_option linter.unusedVariables false
namespace Go.Sx
open Go.ChangeShapes Go.WideShapes Go.ChangeAt Go.RowKit
mutual
def xz {H : Type} : DataW H -> Option (List Value)
 | .lit (.int k n) => some [.int k n]
 | .lit (.bool b) => some [.bool b]
 | .lit (.string bs) => some [.string ⟨bs.toArray⟩]
 | .agg ds => zgD ds
 | _ => none
def zgD {H : Type} : List (DataW H) -> Option (List Value)
 | [] => some []
 | d :: r => match xz d, zgD r with
  | some a, some b => some (a ++ b)
  | _, _ => none
end
def zib (P : Program) (n : Nat) : Nat -> List Field -> Bool
 | o, [] => o == n
 | o, f :: r => f.offset == o && zib P n (o + P.cellsOf f.type) r
def zkY (P : Program) : Nat -> TypeId -> Bool
 | 0, _ => false
 | n + 1, t => match P.underlying t with
  | some (.int _) | some .bool | some .string => true
  | some (.struct fs) => zib P (P.cellsOf t) 0 fs.toList && fs.toList.all (fun f => zkY P n f.type)
  | some (.array m e) => P.cellsOf t == m * P.cellsOf e && zkY P n e
  | _ => false
theorem zfn {H : Type} {ds : List (DataW H)} {cs : List Value} : ∀ {ls : List (List Value)}, ls.length = ds.length -> (∀ (i : Nat) (d : DataW H) (l : List Value), ds[i]? = some d -> ls[i]? = some l -> xz d = some l) -> ls.flatten = cs -> zgD ds = some cs := by
 induction ds generalizing cs with
 | nil => intro ls hl _ h; cases ls with
  | nil => simp at h; subst h; simp [zgD]
  | cons _ _ => simp at hl
 | cons d r ih =>
  intro ls hl hp h
  cases ls with
  | nil => simp at hl
  | cons l q =>
   have h1 := hp 0 d l rfl rfl
   have h2 := ih (ls := q) (cs := q.flatten) (by simpa using hl) (fun i d l h3 h4 => hp (i + 1) d l (by simpa using h3) (by simpa using h4)) rfl
   simp only [zgD, h1, h2]
   simpa using h
theorem zhw {P : Program} {cs : List Value} {n : Nat} (hn : cs.length = n) : ∀ {fs : List Field} {o : Nat}, zib P n o fs = true -> o <= n -> (fs.map fun f => (cs.drop f.offset).take (P.cellsOf f.type)).flatten = cs.drop o := by
 intro fs
 induction fs with
 | nil =>
  intro o h _
  simp only [zib, beq_iff_eq] at h
  subst h
  simp [<- hn]
 | cons f r ih =>
  intro o h ho
  simp only [zib, Bool.and_eq_true, beq_iff_eq] at h
  obtain ⟨h1, h2⟩ := h
  subst h1
  have hle : f.offset + P.cellsOf f.type <= n := by
   clear ih
   have : ∀ {fs : List Field} {o : Nat}, zib P n o fs = true -> o <= n := by
    intro fs
    induction fs with
    | nil => intro o h; simp only [zib, beq_iff_eq] at h; omega
    | cons g q ih => intro o h; simp only [zib, Bool.and_eq_true, beq_iff_eq] at h; have := ih h.2; omega
   exact this h2
  simp only [List.map_cons, List.flatten_cons]
  rw [ih h2 hle]
  rw [<- List.drop_drop, List.take_append_drop]
theorem zgT {c : Nat} : ∀ {n : Nat} {cs : List Value}, cs.length = n * c -> ((List.range n).map fun i => (cs.drop (i * c)).take c).flatten = cs := by
 intro n
 induction n with
 | zero => intro cs h; simp at h; simp [h]
 | succ n ih =>
  intro cs h
  rw [List.range_succ_eq_map, List.map_cons, List.flatten_cons, List.map_map]
  have h2 := ih (cs := cs.drop c) (by rw [List.length_drop, h, Nat.succ_mul]; omega)
  have e : ((List.range n).map ((fun i => (cs.drop (i * c)).take c) ∘ Nat.succ)) = (List.range n).map fun i => ((cs.drop c).drop (i * c)).take c := by
   apply List.map_congr_left
   intro i _
   simp only [Function.comp, List.drop_drop]
   rw [show Nat.succ i * c = c + i * c by rw [Nat.succ_mul]; omega]
  rw [e, h2]
  simp
theorem zjV {H : Type} {enc : TypeId × Value -> H} {P : Program} {w : World} {base : Nat} {sp : Nat -> Bool} {held : Bool} : ∀ (n : Nat) {fuel : Nat} {t : TypeId} {cs : List Value} {d : DataW H} {p : List MemPlace},
  zkY P n t = true -> DataW.trod enc P w base sp held fuel t cs = some (d, p) -> xz d = some cs := by
 intro n
 induction n with
 | zero => intro fuel t cs d p h; cases h
 | succ n ih =>
  intro fuel t cs d p h hd
  unfold zkY at h
  split at h
  ·rename_i k hu
   obtain ⟨m, rfl, he, _⟩ := DataW.trod_int hu hd
   cases he
   simp [xz]
  ·rename_i hu
   obtain ⟨b, rfl, he⟩ := DataW.trod_bool hu hd
   cases he
   simp [xz]
  ·rename_i hu
   obtain ⟨s, rfl, he, _⟩ := DataW.trod_string hu hd
   cases he
   simp [xz]
  ·rename_i fs hu
   simp only [Bool.and_eq_true, List.all_eq_true] at h
   obtain ⟨h1, h2⟩ := h
   obtain ⟨xs, m, rfl, he, hl, hxl, hf⟩ := DataW.trod_struct hu hd
   cases he
   rw [xz]
   refine zfn (ls := fs.toList.map fun f => (cs.drop f.offset).take (P.cellsOf f.type)) (by simp [hxl]) (fun i d l hi hl' => ?_) (by rw [zhw hl h1 (Nat.zero_le _)]; rfl)
   rw [List.getElem?_map] at hi hl'
   cases hfi : fs[i]? with
   | none => rw [Array.getElem?_toList, hfi] at hl'; cases hl'
   | some f =>
    rw [Array.getElem?_toList, hfi] at hl'
    cases hl'
    have h3 := hf i f hfi
    cases hx : xs[i]? with
    | none => rw [hx] at hi; cases hi
    | some x =>
     rw [hx] at hi h3
     cases hi
     exact ih (h2 f (by simpa using Array.mem_of_getElem? hfi)) h3
  ·rename_i m e hu
   simp only [Bool.and_eq_true, beq_iff_eq] at h
   obtain ⟨h1, h2⟩ := h
   obtain ⟨xs, q, rfl, he, hl, hxl, hf⟩ := DataW.trod_array hu hd
   cases he
   rw [xz]
   refine zfn (ls := (List.range m).map fun i => (cs.drop (i * P.cellsOf e)).take (P.cellsOf e)) (by simp [hxl]) (fun i d l hi hl' => ?_) (zgT (by omega))
   rw [List.getElem?_map] at hi hl'
   have him : i < m := by
    cases hr : (List.range m)[i]? with
    | none => rw [hr] at hl'; cases hl'
    | some j => have := (List.getElem?_eq_some_iff.1 hr).1; simpa using this
   rw [List.getElem?_range him] at hl'
   cases hl'
   have h3 := hf i him
   cases hx : xs[i]? with
   | none => rw [hx] at hi; cases hi
   | some x =>
    rw [hx] at hi h3
    cases hi
    exact ih h2 h3
  ·cases h
theorem zmT {P : Program} {w : World} {nm : String} {d : DataW Unit} : ∀ {laid : List (String × DataW Unit)} {ps : List MemPlace} {i : Nat}, DataW.LaidVars P w laid ps -> laid[i]? = some (nm, d) ->
  ∃ g t cs fuel p, P.globalNamed nm = some g /\ (P.globals[g]?).map (·.type) = some t /\ w.var? P nm = some cs /\ DataW.trod (fun _ => ()) P w 0 (fun _ => true) false fuel t cs.toList = some (d, p) := by
 intro laid
 induction laid with
 | nil => intro ps i _ h; simp at h
 | cons x r ih =>
  intro ps i h hi
  obtain ⟨n, e⟩ := x
  obtain ⟨g, t, cs, fuel, p, q, h1, h2, h3, h4, h5, _⟩ := h
  cases i with
  | zero =>
   simp only [List.getElem?_cons_zero, Option.some.injEq, Prod.mk.injEq] at hi
   obtain ⟨rfl, rfl⟩ := hi
   exact ⟨g, t, cs, fuel, p, h1, h2, h3, h4⟩
  | succ i => exact ih h5 (by simpa using hi)
theorem zkZ {α : Type} {P : Program} {W : World} {laid : List (String × DataW Unit)} {nm : String} {d : DataW Unit} {g t sz : Nat} {enc : α -> List Value} {xs : List α} (i k : Nat) (h : laidMet P laid W) (hi : laid[i]? = some (nm, d)) (hg : P.globalNamed nm = some g)
  (hty : (P.globals[g]?).map (·.type) = some t) (hf : zkY P k t = true) (hc : xz d = some (zaX enc xs)) (he : ∀ x, (enc x).length = sz) (hl : Nat.ble xs.length 9223372036854775807 = true) {m : Nat} (hm : xs.length = m) :
  Rd W [] (.slice (some ⟨g, 0, none⟩) m m) enc sz xs := by
 subst hm
 obtain ⟨ps, hv, _, _⟩ := h
 obtain ⟨g', t', cs, fuel, p, h1, h2, h3, h4⟩ := zmT hv hi
 obtain rfl := Option.some.inj (hg.symm.trans h1)
 obtain rfl := Option.some.inj (hty.symm.trans h2)
 have h5 := zjV k hf h4
 rw [hc] at h5
 have e := Option.some.inj h5
 refine ⟨Nat.le_of_ble_eq_true hl, _, _, rfl, Nat.le_refl _, fun j x f u hx hu => ⟨g, 0, rfl, by simp, ?_⟩⟩
 rw [Nat.zero_add, World.var?_cell hg h3, <- Array.getElem?_toList, <- e]
 exact zeh he hx hu
theorem zhx {C : Checked} {os : Os} {f : FuncId} {fn : Func} {s : ChangeSpec} {F : Stop.Interp} {conds : List PathCond} {laid : List (String × DataW Unit)} {tb : TypeId} (H : Type) (enc : TypeId × Value -> H)
  (own : ownKnob C.prog.godebug = none) (started : os.Started) (noInit : C.prog.inits.idxOf? f = none) (hfn : C.prog.funcs[f]? = some fn)
  (witness : ∃ (w : World) (tape : Tape) (i : Input), w.os = os /\ (w.forCall tape i).Shaped C.prog /\ i.vars = [] /\ Input.okWide C.prog (w.forCall tape i) .any w.heap.size f i /\
   (OpenSpec.ofChange s).preRow enc C.prog fn conds false laid (w.forCall tape i).memory i.args /\ ({} : Assume).holds C.prog (lone (Frame.enter C.prog f i.args .normal) [] (w.forCall tape i)))
  (laidOut : laidOutB C.prog = true) (hvars : s.vars = []) (hts : fn.params.toList.all (fun t => C.prog.readableRec t && decide (t < C.prog.types.size)) = true)
  (hrt : fn.resultTypes = #[tb]) (htb : C.prog.underlying tb = some .bool)
  (hres : ∀ (ds : List (DataW H)), ds.length = fn.params.toList.length -> (s.fn H (ds ++ [])).results = [.lit (.bool true)] /\ (s.fn H (ds ++ [])).args = ds /\ (s.fn H (ds ++ [])).vars = [])
  (contract : ∀ (W : World) (base : Nat) (args : Array Value) (ds : List (DataW H)) (ps : List MemPlace), laidMetH C.prog laid W ->
   (∀ (j : Nat) t v, fn.params[j]? = some t -> args[j]? = some v -> Value.okWide C.prog W .any base t v) ->
   DataW.TrodAll enc C.prog W 0 (fun _ => true) true fn.params.toList args.toList ds ps -> (∀ n ∈ DataW.weightsEach C.prog fn.params.toList ds, n <= reachBytes) ->
   Calls C.prog f args W fun e W' => e = .returned (.bool true) /\ Chg [] W W') :
  ReturnsInHanded {} C os f .any ((OpenSpec.ofChange s).preRow enc C.prog fn conds false laid) (((OpenSpec.ofChange s).at F).post enc C.prog fn false true false false) := by
 refine returnsInHanded_of_row (s := OpenSpec.ofChange s) own started noInit hfn witness ?_
 intro W base args ds gs before hval hW _ _ hsz hL _ _
 have hW' := hW
 obtain ⟨p, q, hA, hV, rfl, _, _⟩ := hW
 have hV' : DataW.TrodVars enc C.prog W (fun _ => true) s.vars gs q := hV
 rw [hvars] at hV'
 obtain ⟨rfl, rfl⟩ := trodVars_none hV'
 have hw : ∀ n ∈ DataW.weightsEach C.prog fn.params.toList ds, n <= reachBytes := by
  intro n hn
  have : n ∈ DataW.weightsEach C.prog (fn.params.toList ++ (OpenSpec.ofChange s).bare.plain.varTypes C.prog) (ds ++ []) := by
   rw [List.append_nil]
   exact zdJ (zeO hA) hn
  have h2 := List.all_eq_true.1 hsz n this
  simpa using h2
 refine (contract W base args ds p hL hval hA hw).mono fun e W' ⟨he, hc⟩ => ?_
 subst he
 have hb := hc.below
 have hlt : ∀ x ∈ p, x.block < W.heap.size := fun x hx => hW'.lt x (List.mem_append_left _ hx)
 obtain ⟨r1, r2, r3⟩ := hres ds (zeO hA)
 refine ⟨_, rfl, ?_⟩
 show s.post enc C.prog fn false true false false W args _ W'
 refine ⟨ds, [], p ++ [], [] ++ [], p, [], hW', ?_, ?_, ?_, hb.frame _, fun h => by cases h⟩
 ·rw [r1, hrt]
  exact zj4 htb
 ·rw [r2]
  exact zfb laidOut hb hts hA hlt
 ·rw [r3, hvars]
  rfl
def znw (g : Nat) (cs : List Value) (h : Array Obj) : Array Obj := h.modify g fun
 | .cells _ t frozen => .cells cs.toArray t frozen
 | o => o
def zk0 : List (Nat × List Value) -> Array Obj -> Array Obj
 | [], h => h
 | (g, cs) :: r, h => zk0 r (znw g cs h)
def zgE (P : Program) (os : Os) (ts : List (Nat × List Value)) : World :=
 { World.holding P os ⟨#[], #[], []⟩ with heap := zk0 ts (World.holding P os ⟨#[], #[], []⟩).heap }
end Go.Sx
