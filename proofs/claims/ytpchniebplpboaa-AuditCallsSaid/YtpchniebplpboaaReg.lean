/- More of maps and objects: a map's length; pointers out of maps; objects of a map that is ranged over; calls written out; rows that a literal text laid. -/
import Derived.Test.YtpchniebplpboaaRange
import Derived.Test.YtpchniebplpboaaPart
set_option linter.unusedVariables false
set_option linter.unusedSimpArgs false
namespace Go.Sx
open Go.RowKit
section
variable {P : Program} {N : Nat} {Q : Exit → Act → World → Prop} {fr fr' : List (Nat × Value)} {w w0 : World} {l : List Oper} {i : Nat} {o : Oper} {S0 : List Nat} {L : List Item} {α : Type}
theorem mlenI_run {val : α → Value} {r : Nat} {m : List (Int × α)} {t tk te : TypeId} {x : Operand} {ats : List Nat} (hst : St w0 S0 w L) (j : Nat) (hj : L[j]? = some (mapI r val m))
    (hop : o.op = .call ⟨.builtin .len, [x].toArray, ats.toArray⟩) (ha0 : ats[0]? = some t) (hx : look fr x = some (.map (some r))) (ht : P.underlying t = some (.map tk te)) : ∀ b, Rep N fr b → (execOp b.eval o).run P w = .ok (.value (.int .i64 (m.length : Int))) w := by
  intro b hb
  obtain ⟨A, clock, hA, hE⟩ := hst.all j _ hj
  have e1 := hb.look hx
  have h1 : A.size = m.length := by
    have := congrArg List.length hE.eq
    simpa using this
  have ha1 : (ats.toArray)[0]? = some t := by simpa using ha0
  simp [execOp, hop, resolve, invoke, builtin, e1, Builtin.len_, ha1, run_underlying ht, run_getObj hA, goInt, h1]
theorem St.toOpt {R : Rp α} {U : TypeId} {u : Value} {S : List Nat} {y : α} (h : St w0 S0 w L) (j : Nat) (hj : L[j]? = some (itI (ptrP U R) [u] S y)) : St w0 S0 w (L.set j (itI (optP U R) [u] S (some y))) := h.turn j hj (h.all j _ hj) rfl
theorem OW.inl {d M : Nat} {f : FuncId} {fn : Func} {c : Code} {args : List Value} (hl : opAt l i = some o) (hg : gd l fr o = some true) (hd : o.dst = some d) (hN : Nat.blt d N = true)
    (hp : pcall P fr o = some (f, args)) (hf : P.funcs[f]? = some fn) (hb : fn.body = some c) (hM : fn.ntmps = M) (hs : Nat.ble args.length M = true)
    (h : CW P M c (bodyPost P fn (fun e w' => ∃ v, e = .returned v ∧ OW P l N Q (i + 1) ((d, v) :: fr) w')) (argsFr 0 args) w) : OW P l N Q i fr w :=
  OW.fn hl hg hd hN hp (CW.start hf hb hM hs h) (fun _ _ h => h)
def frzI {α : Type} (b : Nat) (enc : α → List Value) (sz : Nat) (xs : List α) : Item where
  S := [b]
  Φ w := Rd w [] (.slice (some ⟨b, 0, none⟩) xs.length xs.length) enc sz xs ∧ b < w.heap.size
  loc w w' hb h := by
    obtain ⟨⟨h1, a, c, hv, hlc, hc⟩, h2⟩ := h
    have e : w'.heap[b]? = w.heap[b]? := hb b (by simp)
    refine ⟨⟨h1, a, c, hv, hlc, fun t x f u hx hu => ?_⟩, ?_⟩
    · obtain ⟨b', o, ha, hn, hcell⟩ := hc t x f u hx hu
      have hb' : b' = b := by
        rw [ha] at hv
        simp only [Value.slice.injEq, Option.some.injEq, Addr.mk.injEq] at hv
        exact hv.1.1.symm
      subst hb'
      refine ⟨b', o, ha, hn, ?_⟩
      rw [← hcell]
      exact World.cell?_of_block e
    · have := Array.getElem?_eq_some_iff.1 (e.trans (Array.getElem?_eq_getElem h2))
      exact this.1
  lt w h x hx := by
    simp only [List.mem_singleton] at hx
    subst hx
    exact h.2
theorem OW.mark {d t e g : Nat} {x : Operand} {ty : TypeId} {pos : String} {af : Array Edge} {gdd : Option (Nat × Bool)} {enc : α → List Value} {sz n : Nat} {xs : List α} {T : TypeId} (hst : St w0 S0 w L) (j : Nat) (hj : L[j]? = some (rowI (.slice (some ⟨g, 0, none⟩) n n) T enc sz xs))
    (hl : opAt l i = some ⟨some d, .convert t t x, ty, pos, af, gdd⟩) (hg : gd l fr ⟨some d, .convert t t x, ty, pos, af, gdd⟩ = some true) (hN : Nat.blt d N = true) (hx : look fr x = some (.slice (some ⟨g, 0, none⟩) n n))
    (ht : P.underlying t = some (.slice e)) (he : P.underlying e = some (.int .u8)) (hen : ∀ x, (enc x).length = sz) (hn : xs.length = n) (hn0 : 0 < n)
    (h : ∀ w', St w0 S0 w' (L.set j (frzI g enc sz xs)) → OW P l N Q (i + 1) ((d, .slice (some ⟨g, 0, none⟩) n n) :: fr) w') : OW P l N Q i fr w := by
  have hrow := hst.all j _ hj
  have hrow2 : Owns w T sz (.slice (some ⟨g, 0, none⟩) n n) xs.length (flat enc xs) := hrow
  have hcopy := hrow2
  obtain ⟨hlen, hc⟩ := hrow2
  rcases hc with ⟨h0, a, hv⟩ | ⟨g', o', cap, cur, hv, hp, hh, hle, hm, hsz, htk⟩
  · exact absurd h0 (by omega)
  · simp only [Value.slice.injEq, Option.some.injEq, Addr.mk.injEq, and_true] at hv
    obtain ⟨⟨rfl, rfl⟩, h1, rfl⟩ := hv
    have hsh : w.shape? g = some (T, cur.size) := by unfold World.shape?; rw [hh]
    let w' := w.freeze ⟨g, cur.size, none⟩ 1
    have hfr : w'.heap[g]? = some (.cells cur T (cur.size, cur.size + 1)) := by
      show (w.freeze ⟨g, cur.size, none⟩ 1).heap[g]? = _
      unfold World.freeze
      rw [if_neg (by decide)]
      simp only
      rw [Array.getElem?_modify, if_pos rfl, hh]
      rfl
    have hoth : ∀ k, k ≠ g → w'.heap[k]? = w.heap[k]? := by
      intro k hk
      show (w.freeze ⟨g, cur.size, none⟩ 1).heap[k]? = _
      unfold World.freeze
      rw [if_neg (by decide)]
      simp only
      rw [Array.getElem?_modify, if_neg (fun e => hk e.symm)]
    have hsz' : w'.heap.size = w.heap.size := by
      show (w.freeze ⟨g, cur.size, none⟩ 1).heap.size = _
      unfold World.freeze
      rw [if_neg (by decide)]
      simp
    refine OW.op (w' := w') hl hg rfl hN (fun a ha => ?_) (h w' ?_)
    · have e1 := ha.look hx
      simp [execOp, e1, convert, run_underlying ht, run_underlying he, markStringish, hsh]
      rfl
    · have hrd : Rd w [] (.slice (some ⟨g, 0, none⟩) xs.length xs.length) enc sz xs := by
        have := rd_of_row (F := []) hen hcopy (fun _ _ => by simp)
        rw [hn]
        exact this
      refine hst.upd j hj ⟨rfl, rfl, rfl, by rw [hsz']; exact Nat.le_refl _, fun k _ hk => hoth k (by rintro rfl; exact hk (by simp [rowI, ownB_pos hp]))⟩ ?_ (fun b hb => .inl ?_) (by simp [frzI])
      · obtain ⟨h1', a, c, hv', hlc, hcl⟩ := hrd
        refine ⟨⟨h1', a, c, hv', hlc, fun q x f u hx hu => ?_⟩, by rw [hsz']; exact (Array.getElem?_eq_some_iff.1 hh).1⟩
        obtain ⟨b', o, ha, hnn, hcell⟩ := hcl q x f u hx hu
        refine ⟨b', o, ha, hnn, ?_⟩
        rw [← hcell]
        have hb' : b' = g := by
          rw [ha] at hv'
          simp only [Value.slice.injEq, Option.some.injEq, Addr.mk.injEq] at hv'
          exact hv'.1.1.symm
        subst hb'
        simp only [World.cell?, hfr, hh]
      · simp only [frzI, List.mem_singleton] at hb
        subst hb
        simp [rowI, ownB_pos hp]
end
section
variable {α : Type} {w w' : World} {r : Nat} {R : Rp α} {S : List Nat} {m : List (Int × α)} {ho : Option (Int × Value)} {mv : List (Int × Value)} {Ss : List (List Nat)}
theorem mget_put : ∀ {m : List (Int × α)} {k : Int} {x : α}, mget (mput m k x) k = some x
  | [], k, x => by simp [mput, mget]
  | p :: m, k, x => by
    unfold mput
    by_cases h : (p.1 == k) = true
    · rw [if_pos h]; simp [mget]
    · rw [if_neg h]
      unfold mget
      rw [if_neg h]
      exact mget_put
theorem mget_none_mem : ∀ {m : List (Int × α)} {k : Int} {x : α}, mget m k = none → (k, x) ∉ m
  | [], k, x, _ => by simp
  | p :: m, k, x, h => by
    unfold mget at h
    by_cases hp : (p.1 == k) = true
    · rw [if_pos hp] at h; cases h
    · rw [if_neg hp] at h
      intro hm
      rcases List.mem_cons.1 hm with e | hm
      · subst e; simp at hp
      · exact mget_none_mem h hm
theorem set_keys {k : Int} {x : α} {i : Nat} (hp : mpos m k = some i) : (m.set i (k, x)).map (·.1) = m.map (·.1) := by
  obtain ⟨v, _, hv⟩ := mpos_at hp
  rw [List.map_set]
  apply List.ext_getElem?
  intro j
  rw [List.getElem?_set]
  split
  · rename_i e
    subst e
    rw [List.getElem?_map, hv]
    have := (List.getElem?_eq_some_iff.1 hv).1
    simp [this]
  · rfl
theorem MRow.giveH (h : MRow w r R S m ho mv Ss) {k : Int} {v : Value} {x : α} {i : Nat} (hho : ∀ k' u, ho = some (k', u) → k' = k) (hp : mpos m k = some i)
    (hw : ∀ b ∈ Ss.flatten, w'.heap[b]? = w.heap[b]?) (hm : ∃ A clock, w'.heap[r]? = some (.map A clock) ∧ Ents (fun v : Value => v) (mv.set i (k, v)) A.toList clock) : MRow w' r R (r :: (Ss.set i []).flatten) (m.set i (k, x)) (some (k, v)) (mv.set i (k, v)) (Ss.set i []) := by
  have hn := h.nd
  rw [h.hS] at hn
  obtain ⟨n1, n2⟩ := List.nodup_cons.1 hn
  have hS := h.hS
  obtain ⟨u0, _, hu0⟩ := mpos_at hp
  have l1 := (List.getElem?_eq_some_iff.1 hu0).1
  have hpv := (mpos_keys h.keys k).trans hp
  obtain ⟨v0, _, hv0⟩ := mpos_at hpv
  have l2 := (List.getElem?_eq_some_iff.1 hv0).1
  have l3 : i < Ss.length := by rw [h.ls]; exact l1
  refine ⟨hm, by rw [List.map_set, List.map_set, h.keys], by rw [List.length_set, List.length_set]; exact h.ls, rfl, ?_, fun k' v' i' e hp' => ?_, fun i' q S' p g1 g2 g3 g4 => ?_⟩
  · refine List.nodup_cons.2 ⟨fun hb => ?_, nodup_flatten_set n2 List.nodup_nil (fun _ _ _ _ b hb => absurd hb List.not_mem_nil)⟩
    rcases mem_flatten_set hb with hb | hb
    · exact absurd hb List.not_mem_nil
    · exact n1 hb
  · simp only [Option.some.injEq, Prod.mk.injEq] at e
    obtain ⟨rfl, rfl⟩ := e
    rw [mpos_keys (set_keys hp) k, hp] at hp'
    cases hp'
    exact ⟨by rw [List.getElem?_set_self l2], by rw [List.getElem?_set_self l3]⟩
  · rcases set_get g3 with ⟨rfl, rfl⟩ | ⟨hne, g3⟩
    · exact absurd ((mpos_keys (set_keys hp) k).trans hp) (g1 k v rfl)
    · rcases set_get g2 with ⟨e, _⟩ | ⟨_, g2⟩
      · exact absurd e hne
      · rcases set_get g4 with ⟨e, _⟩ | ⟨_, g4⟩
        · exact absurd e hne
        · refine R.loc w w' _ S' _ (fun b hb => hw b (List.mem_flatten.2 ⟨S', List.mem_of_getElem? g3, hb⟩)) (h.own i' q S' p (fun k' u e hp' => ?_) g2 g3 g4)
          rw [hho k' u e, hp] at hp'
          exact hne (Option.some.inj hp').symm
theorem MRow.comeH (h : MRow w r R S m ho mv Ss) {k : Int} {v : Value} {x : α} (hho : ∀ k' u, ho = some (k', u) → k' = k) (hp : mpos m k = none)
    (hw : ∀ b ∈ Ss.flatten, w'.heap[b]? = w.heap[b]?) (hm : ∃ A clock, w'.heap[r]? = some (.map A clock) ∧ Ents (fun v : Value => v) (mv ++ [(k, v)]) A.toList clock) : MRow w' r R (r :: (Ss ++ [[]]).flatten) (m ++ [(k, x)]) (some (k, v)) (mv ++ [(k, v)]) (Ss ++ [[]]) := by
  have hn := h.nd
  rw [h.hS] at hn
  obtain ⟨n1, n2⟩ := List.nodup_cons.1 hn
  have hS := h.hS
  have hl := h.len
  have hls := h.ls
  have hpos : mpos (m ++ [(k, x)]) k = some m.length := by
    have hg : mget (m ++ [(k, x)]) k = some x := by
      have := mpos_mget.1 hp
      rw [← mput_none this]
      exact mget_put
    obtain ⟨i, hi, hv⟩ := mpos_get hg
    rw [hi]
    have li := (List.getElem?_eq_some_iff.1 hv).1
    rcases Nat.lt_or_ge i m.length with hlt | hge
    · rw [List.getElem?_append_left hlt] at hv
      have := mpos_mget.1 hp
      exact absurd this (by
        intro hnone
        have hmem := List.mem_of_getElem? hv
        exact mget_none_mem hnone hmem)
    · simp at li
      congr 1
      omega
  refine ⟨hm, by rw [List.map_append, List.map_append, h.keys]; rfl, by simp [h.ls], rfl, ?_, fun k' v' i' e hp' => ?_, fun i' q S' p g1 g2 g3 g4 => ?_⟩
  · rw [List.flatten_append]
    have e1 : [([] : List Nat)].flatten = [] := rfl
    rw [e1, List.append_nil]
    exact hn
  · simp only [Option.some.injEq, Prod.mk.injEq] at e
    obtain ⟨rfl, rfl⟩ := e
    rw [hpos] at hp'
    cases hp'
    constructor
    · rw [List.getElem?_append_right (by omega), show m.length - mv.length = 0 by omega]; rfl
    · rw [List.getElem?_append_right (by omega), show m.length - Ss.length = 0 by omega]; rfl
  · rcases app_get g2 with ⟨l1, g2⟩ | ⟨l1, g2⟩
    · rcases app_get g3 with ⟨l2, g3⟩ | ⟨l2, g3⟩
      · rcases app_get g4 with ⟨l3, g4⟩ | ⟨l3, g4⟩
        · refine R.loc w w' _ S' _ (fun b hb => hw b (List.mem_flatten.2 ⟨S', List.mem_of_getElem? g3, hb⟩)) (h.own i' q S' p (fun k' u e hp' => ?_) g2 g3 g4)
          rw [hho k' u e, hp] at hp'
          cases hp'
        · omega
      · omega
    · have k1 := (List.getElem?_eq_some_iff.1 g2).1
      simp at k1
      exact absurd (by rw [hpos]; congr 1; omega) (g1 k v rfl)
end
section
variable {P : Program} {N : Nat} {Q : Exit → Act → World → Prop} {fr fr' : List (Nat × Value)} {w w0 : World} {l : List Oper} {i : Nat} {o : Oper} {S0 : List Nat} {L : List Item} {α : Type} {R : Rp α} {r : Nat} {S : List Nat} {m : List (Int × α)} {ho : Option (Int × Value)}
theorem OW.mputH {t tk te : TypeId} {x y z : Operand} {ty : TypeId} {pos : String} {af : Array Edge} {gdd : Option (Nat × Bool)} (hst : St w0 S0 w L) (q : Nat) {kd : IntKind} {k : Int} {v : Value} (u : α) (hq : L[q]? = some (mN r R S m ho)) (hho : ∀ k' u, ho = some (k', u) → k' = k)
    (hl : opAt l i = some ⟨none, .mapUpdate t x y z, ty, pos, af, gdd⟩) (hg : gd l fr ⟨none, .mapUpdate t x y z, ty, pos, af, gdd⟩ = some true) (hx : look fr x = some (.map (some r))) (hy : look fr y = some (.int .i64 k)) (hz : look fr z = some v)
    (ht : P.underlying t = some (.map tk te)) (hk : P.underlying tk = some (.int kd)) (h : ∀ S' w', St w0 S0 w' (L.set q (mN r R S' (Sx.mput m k u) (some (k, v)))) → OW P l N Q (i + 1) fr w') : OW P l N Q i fr w := by
  obtain ⟨mv, Ss, hr⟩ := hst.all q _ hq
  have hS := hr.hS
  have hn := hr.nd
  rw [hS] at hn
  obtain ⟨n1, _⟩ := List.nodup_cons.1 hn
  -- the map's own write, by the rule for plain values, on a state of one item
  have hI : St w [r] w [mapI r (fun v : Value => v) mv] := by
    refine ⟨Chg.refl _ _, fun n it hi => ?_, fun n it hi => ?_, fun n n' a b hne h1 h2 => ?_, fun n it hi y hy => ?_⟩
    · cases n with
      | zero => simp at hi; subst hi; exact hr.map
      | succ n => simp at hi
    · cases n with
      | zero => simp at hi; subst hi; simp [mapI]
      | succ n => simp at hi
    · cases n with
      | zero => cases n' with
        | zero => exact absurd rfl hne
        | succ n' => simp at h2
      | succ n => simp at h1
    · cases n with
      | zero => simp at hi; subst hi; exact .inl (by simpa [mapI] using hy)
      | succ n => simp at hi
  obtain ⟨w', hrun, hst'⟩ := update_run (P := P) (k := k) (x := v) hI 0 rfl ht hk
  have hchg : Chg [r] w w' := hst'.chg
  have hm' : ∃ A clock, w'.heap[r]? = some (.map A clock) ∧ Ents (fun v : Value => v) (Sx.mput mv k v) A.toList clock := hst'.all 0 _ rfl
  have hlt := hr.lt
  have hw : ∀ b ∈ Ss.flatten, w'.heap[b]? = w.heap[b]? := fun b hb => hchg.block b (hlt b (by rw [hS]; exact List.mem_cons_of_mem _ hb)) (by simp only [List.mem_singleton]; rintro rfl; exact n1 hb)
  obtain ⟨Ss', mv', hfin, hsub⟩ : ∃ Ss' mv', MRow w' r R (r :: List.flatten Ss') (Sx.mput m k u) (some (k, v)) mv' Ss' ∧ ∀ b ∈ List.flatten Ss', b ∈ Ss.flatten := by
    cases hp : mpos m k with
    | none =>
      have hp' : mpos mv k = none := (mpos_keys hr.keys k).trans hp
      rw [mput_none (mpos_mget.1 hp')] at hm'
      rw [mput_none (mpos_mget.1 hp)]
      refine ⟨_, _, hr.comeH hho hp hw hm', fun b hb => ?_⟩
      rw [List.flatten_append] at hb
      rcases List.mem_append.1 hb with hb | hb
      · exact hb
      · simp at hb
    | some n =>
      have hp' : mpos mv k = some n := (mpos_keys hr.keys k).trans hp
      rw [mput_some hp'] at hm'
      rw [mput_some hp]
      exact ⟨_, _, hr.giveH hho hp hw hm', fun b hb => (mem_flatten_set hb).elim (fun h => absurd h List.not_mem_nil) id⟩
  refine OW.ops hl hg rfl (fun a ha => ?_) (h (r :: List.flatten Ss') w' ?_)
  · simp [execOp, ha.look hx, ha.look hy, ha.look hz, hrun]
  · have hsub2 : ∀ b ∈ r :: List.flatten Ss', b ∈ S := fun b hb => by
      rcases List.mem_cons.1 hb with rfl | hb
      · rw [hS]; exact List.mem_cons_self
      · rw [hS]; exact List.mem_cons_of_mem _ (hsub b hb)
    exact hst.upd q hq (it' := mN r R (r :: List.flatten Ss') (Sx.mput m k u) (some (k, v))) (hchg.mono (fun b hb => by simp only [List.mem_singleton] at hb; subst hb; show b ∈ S; rw [hS]; exact List.mem_cons_self)) ⟨_, _, hfin⟩ (fun b hb => .inl (hsub2 b hb)) hfin.nd
end
end Go.Sx
