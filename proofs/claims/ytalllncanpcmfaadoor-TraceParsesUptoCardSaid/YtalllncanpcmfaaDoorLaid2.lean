/- The lift of a law over laid tables, with the world's shape handed on. -/
import Derived.Test.YtalllncanpcmfaaDoorLaid
import Derived.Test.YtalllncanpcmfaaDoorStr
set_option linter.unusedVariables false
namespace Go.Sx
open Go.ChangeShapes Go.WideShapes Go.ChangeAt Go.RowKit
/-- A LAW OVER A ROW THAT LISTS TABLES: it returns true, and the old blocks stay -/
theorem lawRow_lifted2 {C : Checked} {os : Os} {f : FuncId} {fn : Func} {s : ChangeSpec} {F : Stop.Interp} {conds : List PathCond} {laid : List (String × DataW Unit)} {tb : TypeId} (H : Type) (enc : TypeId × Value → H)
    (own : ownKnob C.prog.godebug = none) (started : os.Started) (noInit : C.prog.inits.idxOf? f = none) (hfn : C.prog.funcs[f]? = some fn)
    (witness : ∃ (w : World) (tape : Tape) (i : Input), w.os = os ∧ (w.forCall tape i).Shaped C.prog ∧ i.vars = [] ∧ Input.okWide C.prog (w.forCall tape i) .any w.heap.size f i ∧
      (OpenSpec.ofChange s).preRow enc C.prog fn conds false laid (w.forCall tape i).memory i.args ∧ ({} : Assume).holds C.prog (lone (Frame.enter C.prog f i.args .normal) [] (w.forCall tape i)))
    (laidOut : laidOutB C.prog = true) (hvars : s.vars = []) (hts : fn.params.toList.all (fun t => C.prog.readableRec t && decide (t < C.prog.types.size)) = true)
    (hrt : fn.resultTypes = #[tb]) (htb : C.prog.underlying tb = some .bool)
    (hres : ∀ (ds : List (DataW H)), ds.length = fn.params.toList.length → (s.fn H (ds ++ [])).results = [.lit (.bool true)] ∧ (s.fn H (ds ++ [])).args = ds ∧ (s.fn H (ds ++ [])).vars = [])
    (contract : ∀ (W : World) (base : Nat) (args : Array Value) (ds : List (DataW H)) (ps : List MemPlace), laidMetH C.prog laid W → W.ShapedOpen C.prog →
      (∀ (j : Nat) t v, fn.params[j]? = some t → args[j]? = some v → Value.okWide C.prog W .any base t v) →
      DataW.TrodAll enc C.prog W 0 (fun _ => true) true fn.params.toList args.toList ds ps → (∀ n ∈ DataW.weightsEach C.prog fn.params.toList ds, n ≤ reachBytes) →
      Calls C.prog f args W fun e W' => e = .returned (.bool true) ∧ Chg [] W W') :
    ReturnsInHanded {} C os f .any ((OpenSpec.ofChange s).preRow enc C.prog fn conds false laid) (((OpenSpec.ofChange s).at F).post enc C.prog fn false true false false) := by
  refine returnsInHanded_of_row (s := OpenSpec.ofChange s) own started noInit hfn witness ?_
  intro W base args ds gs before hval hW _ _ hsz hL hsh _
  have hW' := hW
  obtain ⟨p, q, hA, hV, rfl, _, _⟩ := hW
  have hV' : DataW.TrodVars enc C.prog W (fun _ => true) s.vars gs q := hV
  rw [hvars] at hV'
  obtain ⟨rfl, rfl⟩ := trodVars_none hV'
  have hw : ∀ n ∈ DataW.weightsEach C.prog fn.params.toList ds, n ≤ reachBytes := by
    intro n hn
    have : n ∈ DataW.weightsEach C.prog (fn.params.toList ++ (OpenSpec.ofChange s).bare.plain.varTypes C.prog) (ds ++ []) := by
      rw [List.append_nil]
      exact weightsEach_app (trodAll_len hA) hn
    have h2 := List.all_eq_true.1 hsz n this
    simpa using h2
  refine (contract W base args ds p hL hsh hval hA hw).mono fun e W' ⟨he, hc⟩ => ?_
  subst he
  have hb := hc.below
  have hlt : ∀ x ∈ p, x.block < W.heap.size := fun x hx => hW'.lt x (List.mem_append_left _ hx)
  obtain ⟨r1, r2, r3⟩ := hres ds (trodAll_len hA)
  refine ⟨_, rfl, ?_⟩
  show s.post enc C.prog fn false true false false W args _ W'
  refine ⟨ds, [], p ++ [], [] ++ [], p, [], hW', ?_, ?_, ?_, hb.frame _, fun h => by cases h⟩
  · rw [r1, hrt]
    exact shut_true htb
  · rw [r2]
    exact trodAll_stays laidOut hb hts hA hlt
  · rw [r3, hvars]
    rfl
/-- a variable that is listed: its block -/
theorem laid_heap {P : Program} {W : World} {laid : List (String × DataW Unit)} {nm : String} {d : DataW Unit} {g t : Nat} (i k : Nat) (h : laidMet P laid W) (hi : laid[i]? = some (nm, d)) (hg : P.globalNamed nm = some g)
    (hty : (P.globals[g]?).map (·.type) = some t) (hf : flatT P k t = true) : ∃ cs T fz, W.heap[g]? = some (.cells cs T fz) ∧ laidCells d = some cs.toList := by
  obtain ⟨ps, hv, _, _⟩ := h
  obtain ⟨g', t', cs, fuel, p, h1, h2, h3, h4⟩ := laid_at hv hi
  obtain rfl := Option.some.inj (hg.symm.trans h1)
  obtain rfl := Option.some.inj (hty.symm.trans h2)
  have h5 := laid_cells k hf h4
  unfold World.var? at h3
  rw [hg] at h3
  simp only [Option.bind_some] at h3
  split at h3
  · rename_i cs' T fz hh
    cases h3
    exact ⟨_, _, _, hh, h5⟩
  · cases h3
theorem laid_iface {P : Program} {W : World} {laid : List (String × DataW Unit)} {nm q : String} {d : DataW Unit} {g t : Nat} {ms : Array (String × TypeId)} (i : Nat) (h : laidMet P laid W) (hi : laid[i]? = some (nm, .iface q d)) (hg : P.globalNamed nm = some g)
    (hty : (P.globals[g]?).map (·.type) = some t) (hu : P.underlying t = some (.interface ms)) : ∃ ev, W.cell? ⟨g, 0, none⟩ = some ev ∧ (ev = .nilIface ∨ ∃ te pe, ev = .iface te pe) := by
  obtain ⟨ps, hv, _, _⟩ := h
  obtain ⟨g', t', cs, fuel, p, h1, h2, h3, h4⟩ := laid_at hv hi
  obtain rfl := Option.some.inj (hg.symm.trans h1)
  obtain rfl := Option.some.inj (hty.symm.trans h2)
  cases fuel with
  | zero => simp [DataW.trod] at h4
  | succ fuel =>
    unfold DataW.trod at h4
    rw [hu] at h4
    cases hcs : cs.toList with
    | nil => rw [hcs] at h4; simp at h4
    | cons v r =>
      rw [hcs] at h4
      cases r with
      | cons y z => simp at h4
      | nil =>
        cases v with
        | iface u x => exact ⟨.iface u x, by rw [World.var?_cell hg h3, ← Array.getElem?_toList, hcs]; rfl, .inr ⟨u, x, rfl⟩⟩
        | nilIface => exact ⟨.nilIface, by rw [World.var?_cell hg h3, ← Array.getElem?_toList, hcs]; rfl, .inl rfl⟩
        | _ => simp at h4
theorem libG_pow {W : World} {d : DataW Unit} {g : Nat} {cs : Array Value} {T : TypeId} {fz : Nat × Nat} (h : W.heap[g]? = some (.cells cs T fz)) (hc : laidCells d = some cs.toList) (hk : laidCells d = some (Lib.pow10Tab.map fun z => Value.int .u64 z)) :
    ∃ T fz, W.heap[g]? = some (.cells (Lib.pow10Tab.map fun z => Value.int .u64 z).toArray T fz) := ⟨T, fz, by have e := Option.some.inj (hk.symm.trans hc); rw [e]; simpa using h⟩
/-- a world that holds tables, and error texts in blocks of their own behind the heap -/
def lowB (P : Program) : Nat := (World.holding P default ⟨#[], #[], []⟩).heap.size
def ifText : DataW Unit → ByteArray
  | .iface _ (.ptr (.agg [.lit (.string bs)])) => ⟨bs.toArray⟩
  | .iface _ (.ptr (.lit (.string bs))) => ⟨bs.toArray⟩
  | _ => ByteArray.empty
def errObj (T : TypeId) (d : DataW Unit) : Obj := .cells #[.string (ifText d)] T
def errAt (P : Program) (T k : Nat) : List Value := [.iface T (.pointer (some ⟨lowB P + k, 0, none⟩))]
def laidWorldB (P : Program) (os : Os) (bs : List Obj) (ts : List (Nat × List Value)) : World :=
  { World.holding P os ⟨bs.toArray, #[], []⟩ with heap := setTabs ts (World.holding P os ⟨bs.toArray, #[], []⟩).heap }
end Go.Sx
