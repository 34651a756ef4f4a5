/- The lift of a law where what it reads is of a bounded bulk. -/
import Derived.Test.YtalllncanpcmfaaDoorRows
import Derived.Test.YtalllncanpcmfaaDoorLaid2
set_option linter.unusedVariables false
namespace Go.Sx
open Go.ChangeShapes Go.WideShapes Go.ChangeAt Go.RowKit
/-- A LAW OVER A ROW WITH A CONDITION: it returns true, and the old blocks stay -/
theorem lawRow_lifted3 {C : Checked} {os : Os} {f : FuncId} {fn : Func} {s : ChangeSpec} {K : (H : Type) → List (DataW H) → Bool} {F : Stop.Interp} {conds : List PathCond} {laid : List (String × DataW Unit)} {tb : TypeId} (H : Type) (enc : TypeId × Value → H)
    (own : ownKnob C.prog.godebug = none) (started : os.Started) (noInit : C.prog.inits.idxOf? f = none) (hfn : C.prog.funcs[f]? = some fn)
    (witness : ∃ (w : World) (tape : Tape) (i : Input), w.os = os ∧ (w.forCall tape i).Shaped C.prog ∧ i.vars = [] ∧ Input.okWide C.prog (w.forCall tape i) .any w.heap.size f i ∧
      ({ OpenSpec.ofChange s with cond := some K } : OpenSpec).preRow enc C.prog fn conds false laid (w.forCall tape i).memory i.args ∧ ({} : Assume).holds C.prog (lone (Frame.enter C.prog f i.args .normal) [] (w.forCall tape i)))
    (laidOut : laidOutB C.prog = true) (hvars : s.vars = []) (hts : fn.params.toList.all (fun t => C.prog.readableRec t && decide (t < C.prog.types.size)) = true)
    (hrt : fn.resultTypes = #[tb]) (htb : C.prog.underlying tb = some .bool)
    (hres : ∀ (ds : List (DataW H)), ds.length = fn.params.toList.length → (s.fn H (ds ++ [])).results = [.lit (.bool true)] ∧ (s.fn H (ds ++ [])).args = ds ∧ (s.fn H (ds ++ [])).vars = [])
    (contract : ∀ (W : World) (base : Nat) (args : Array Value) (ds : List (DataW H)) (ps : List MemPlace), laidMetH C.prog laid W → W.ShapedOpen C.prog → K H ds = true →
      (∀ (j : Nat) t v, fn.params[j]? = some t → args[j]? = some v → Value.okWide C.prog W .any base t v) →
      DataW.TrodAll enc C.prog W 0 (fun _ => true) true fn.params.toList args.toList ds ps → (∀ n ∈ DataW.weightsEach C.prog fn.params.toList ds, n ≤ reachBytes) →
      Calls C.prog f args W fun e W' => e = .returned (.bool true) ∧ Chg [] W W') :
    ReturnsInHanded {} C os f .any (({ OpenSpec.ofChange s with cond := some K } : OpenSpec).preRow enc C.prog fn conds false laid) ((({ OpenSpec.ofChange s with cond := some K } : OpenSpec).at F).post enc C.prog fn false true false false) := by
  refine returnsInHanded_of_row (s := { OpenSpec.ofChange s with cond := some K }) own started noInit hfn witness ?_
  intro W base args ds gs before hval hW _ hK hsz hL hsh _
  have hK := hK K rfl
  have hW' := hW
  obtain ⟨p, q, hA, hV, rfl, _, _⟩ := hW
  have hV' : DataW.TrodVars enc C.prog W (fun _ => true) s.vars gs q := hV
  rw [hvars] at hV'
  obtain ⟨rfl, rfl⟩ := trodVars_none hV'
  rw [List.append_nil] at hK
  have hw : ∀ n ∈ DataW.weightsEach C.prog fn.params.toList ds, n ≤ reachBytes := by
    intro n hn
    have : n ∈ DataW.weightsEach C.prog (fn.params.toList ++ (OpenSpec.ofChange s).bare.plain.varTypes C.prog) (ds ++ []) := by
      rw [List.append_nil]
      exact weightsEach_app (trodAll_len hA) hn
    have h2 := List.all_eq_true.1 hsz n this
    simpa using h2
  refine (contract W base args ds p hL hsh hK hval hA hw).mono fun e W' ⟨he, hc⟩ => ?_
  subst he
  have hb := hc.below
  have hlt : ∀ x ∈ p, x.block < W.heap.size := fun x hx => hW'.lt x (List.mem_append_left _ hx)
  obtain ⟨r1, r2, r3⟩ := hres ds (trodAll_len hA)
  refine ⟨_, rfl, ?_⟩
  show s.post enc C.prog fn false true false false W args _ W'
  refine ⟨ds, [], p ++ [], [] ++ [], p, [], hW', ?_, ?_, ?_, hb.frame _, fun h => by cases h⟩
  · rw [r1, hrt]
    exact shut_true htb
  · rw [r2]
    exact trodAll_stays laidOut hb hts hA hlt
  · rw [r3, hvars]
    rfl
/-- a text among the arguments: its datum -/
theorem trodAll_text {H : Type} {enc : TypeId × Value → H} {P : Program} {w : World} {base : Nat} {spare : Nat → Bool} {held : Bool} : ∀ {ts : List TypeId} {vs : List Value} {ds : List (DataW H)} {ps : List MemPlace} {i : Nat} {t : TypeId} {x : ByteArray},
    DataW.TrodAll enc P w base spare held ts vs ds ps → ts[i]? = some t → P.underlying t = some .string → vs[i]? = some (.string x) → ds[i]? = some (.lit (.string x.data.toList))
  | [], _, _, _, i, t, x, _, h, _, _ => by simp at h
  | _ :: _, [], _, _, _, _, _, h, _, _, _ => h.elim
  | _ :: _, _ :: _, [], _, _, _, _, h, _, _, _ => h.elim
  | a :: ts, v :: vs, d :: ds, ps, i, t, x, h, ht, hu, hv => by
    obtain ⟨p, q, ⟨fuel, h1⟩, h2, rfl⟩ := h
    cases i with
    | succ i => simpa using trodAll_text (i := i) h2 (by simpa using ht) hu (by simpa using hv)
    | zero =>
      simp at ht hv
      subst ht; subst hv
      obtain ⟨n, e1, e2, _⟩ := DataW.trod_string hu h1
      have e3 : n = x := by simpa [Value.cells] using e1.symm
      subst e3
      have e4 := congrArg Prod.fst e2
      first
        | (simp at e2 ⊢; exact e2.1)
        | (simp at e4 ⊢; exact e4)
/-- a slice among the arguments: its datum is no shorter -/
theorem trodAll_slice {H : Type} {enc : TypeId × Value → H} {P : Program} {w : World} {base : Nat} {spare : Nat → Bool} {held : Bool} : ∀ {ts : List TypeId} {vs : List Value} {ds : List (DataW H)} {ps : List MemPlace} {i : Nat} {t e : TypeId} {a : Option Addr} {n c : Nat},
    DataW.TrodAll enc P w base spare held ts vs ds ps → ts[i]? = some t → P.underlying t = some (.slice e) → vs[i]? = some (.slice a n c) → n = 0 ∨ ∃ es sp, ds[i]? = some (.slice es sp) ∧ n ≤ es.length + sp.length
  | [], _, _, _, i, t, _, _, _, _, _, h, _, _ => by simp at h
  | _ :: _, [], _, _, _, _, _, _, _, _, h, _, _, _ => h.elim
  | _ :: _, _ :: _, [], _, _, _, _, _, _, _, h, _, _, _ => h.elim
  | a :: ts, v :: vs, d :: ds, ps, i, t, e, ad, n, c, h, ht, hu, hv => by
    obtain ⟨p, q, ⟨fuel, h1⟩, h2, rfl⟩ := h
    cases i with
    | succ i => simpa using trodAll_slice (i := i) h2 (by simpa using ht) hu (by simpa using hv)
    | zero =>
      simp at ht hv
      subst ht; subst hv
      rcases Go.Deep.open_slice hu h1 with ⟨e1, _⟩ | ⟨a', len, cap, m, n', Dt, Pl, e1, _, hl, hm, e2, hmm, hx⟩
      · have e3 : (Value.slice ad n c) = .slice none 0 0 := by simpa [Value.cells] using e1
        cases e3
        exact .inl rfl
      · have e3 : (Value.slice ad n c) = .slice (some a') len cap := by simpa [Value.cells] using e1
        cases e3
        right
        have e4 := congrArg Prod.fst hmm
        simp only at e4
        subst e4
        exact ⟨_, _, rfl, by simp⟩
end Go.Sx
namespace Go.Proofs.YtalllncanpcmfaaDoor
theorem upto_len {H : Type} : ∀ (l : List (DataW H)), l.length ≤ Rows.uptoBulkAll l
  | [] => Nat.zero_le _
  | d :: r => by
    have h1 := upto_len r
    have h2 : 1 ≤ Rows.uptoBulk d := by
      unfold Rows.uptoBulk
      split <;> omega
    simp only [Rows.uptoBulkAll, List.length_cons]
    omega
theorem upto_one {H : Type} : ∀ {ds : List (DataW H)} {i : Nat} {d : DataW H}, ds[i]? = some d → Rows.uptoBulk d ≤ Rows.uptoBulkAll ds
  | [], i, d, h => by simp at h
  | a :: r, 0, d, h => by
    simp at h; subst h
    simp only [Rows.uptoBulkAll]
    omega
  | a :: r, i + 1, d, h => by
    have := upto_one (i := i) (ds := r) (by simpa using h)
    simp only [Rows.uptoBulkAll]
    omega
theorem upto_text {H : Type} {ds : List (DataW H)} {i : Nat} {x : ByteArray} (hk : Rows.uptoSmall H ds = true) (h : ds[i]? = some (.lit (.string x.data.toList))) : x.size ≤ 1048575 := by
  have h1 := of_decide_eq_true hk
  have h2 := upto_one h
  simp only [Rows.uptoBulk] at h2
  have h3 : x.size = x.data.toList.length := by
    rw [Array.length_toList]; rfl
  omega
theorem upto_slice {H : Type} {ds : List (DataW H)} {i n : Nat} (hk : Rows.uptoSmall H ds = true) (h : n = 0 ∨ ∃ es sp, ds[i]? = some (.slice es sp) ∧ n ≤ es.length + sp.length) : n ≤ 1048575 := by
  have h1 := of_decide_eq_true hk
  rcases h with rfl | ⟨es, sp, h2, h3⟩
  · omega
  · have h4 := upto_one h2
    simp only [Rows.uptoBulk] at h4
    have h5 := upto_len es
    have h6 := upto_len sp
    omega
end Go.Proofs.YtalllncanpcmfaaDoor
