/- Written by a program (wip/gen) from the translation: what each Go function computes, as a plain Lean function. -/
import Derived.Test.YtbhbegbnmndhdaaRange
import Derived.Test.YtbhbegbnmndhdaaExt
namespace Go.Proofs.Ytbhbegbnmndhdaa
open Go.Sx
set_option linter.unusedVariables false

def R_t28 : Rp (List Int) := rowP 3 (encInt .i64) 1 (fun _ => rfl) (by decide)

structure refs_Refs where
  maps : Int
  held : List (Int × (List Int))

def R_t41 : Rp (List (Int × (List Int))) := mapNP R_t28

def R_t43 : Rp refs_Refs := structP (fun (x : refs_Refs) vs => [.int .i64 x.maps, vs.getD 0 undef]) 2 (fun _ _ => rfl) (fun x => x.held) (R_t41)

def R_t24 : Rp refs_Refs := ptrP 43 R_t43

structure tappetlaw18_Op where
  Kind : Int
  Prog : Int
  Maps : List Int

def R_t30 : Rp tappetlaw18_Op := structP (fun (x : tappetlaw18_Op) vs => [.int .i64 x.Kind, .int .i64 x.Prog, vs.getD 0 undef]) 3 (fun _ _ => rfl) (fun x => x.Maps) (R_t28)

def refs_New (p0 : Int) : Option ((Option refs_Refs) × Int) :=
  if (decide (p0 < 0) || decide (p0 > 4)) then
    some (none, 2)
  else
    some ((some (refs_Refs.mk p0 ([] : List (Int × (List Int))))), 0)

def slices_Index_int_int_l1 (p0 : List Int) (p1 : Int) (i87 : Nat) (again : Unit → Option (Unit ⊕ Int)) (s86 : Unit) : Option (Unit ⊕ Int) :=
  (idx p0 (i87 : Int)).bind fun x96 =>
  if (p1 == x96) then
    some (.inr (i87 : Int))
  else
    again ()
def slices_Index_int_int (p0 : List Int) (p1 : Int) : Option Int :=
  (forN (slices_Index_int_int_l1 p0 p1) (fun (s86 : Unit) => (.inl ())) ((p0).length) 0 ()).bind fun o52 => match o52 with
    | .inl t54 =>
      some (-1)
    | .inr r => some r

def slices_Contains_int_int (p0 : List Int) (p1 : Int) : Option Bool :=
  (slices_Index_int_int p0 p1).bind fun r8 =>
  some (decide (r8 ≥ 0))

def slices_Clone_int_int (p0 : List Int) : Option (List Int) :=
  (room (([] : List Int).length + p0.length) 8).bind fun u17 =>
  some (([] : List Int) ++ p0)

def refs_Refs_Hold_l1 (p0 : refs_Refs) (p2 : List Int) (i245 : Nat) (again : Unit → Option (Unit ⊕ (Int × refs_Refs))) (s243 : Unit) : Option (Unit ⊕ (Int × refs_Refs)) :=
  (idx p2 (i245 : Int)).bind fun x254 =>
  (if decide (x254 < 0) then
    some true
  else
    if decide (x254 ≥ p0.maps) then
      some true
    else
      (cut p2 0 (i245 : Int)).bind fun ys282 =>
      (slices_Contains_int_int ys282 x254).bind fun r285 =>
      some r285).bind fun o276 =>
  if o276 then
    some (.inr (2, p0))
  else
    again ()
def refs_Refs_Hold (p0 : refs_Refs) (p1 : Int) (p2 : List Int) : Option (Int × refs_Refs) :=
  (forN (refs_Refs_Hold_l1 p0 p2) (fun (s243 : Unit) => (.inl ())) ((p2).length) 0 ()).bind fun o147 => match o147 with
    | .inl t149 =>
      if (mget p0.held p1).isSome then
        some (42, p0)
      else
        (slices_Clone_int_int p2).bind fun r323 =>
        some (0, (refs_Refs.mk p0.maps (mput p0.held p1 r323)))
    | .inr r => some r

def refs_Refs_Holders_b1 (p0 : refs_Refs) (p1 : Int) (e : Int × (List Int)) (s140 : (List Int)) : Option ((List Int) ⊕ (List Int)) :=
  let k158 := e.1
  let x160 := e.2
  (slices_Contains_int_int x160 p1).bind fun r182 =>
  if r182 then
    (room (s140.length + ([k158]).length) 8).bind fun u198 =>
    some (.inl (s140 ++ [k158]))
  else
    some (.inl s140)
def refs_Refs_Holders_f1 (p0 : refs_Refs) (p1 : Int) (s140 : (List Int)) : Option (List Int) :=
  (slices_Sort_int_int s140).bind fun r173 =>
  some r173
def refs_Refs_Holders (p0 : refs_Refs) (p1 : Int) : Option (List Int) :=
  rangeF (refs_Refs_Holders_b1 p0 p1) (refs_Refs_Holders_f1 p0 p1) p0.held ([] : List Int)

def refs_Refs_Count (p0 : refs_Refs) (p1 : Int) : Option (Int × Int) :=
  if (decide (p1 < 0) || decide (p1 ≥ p0.maps)) then
    some (0, 2)
  else
    (refs_Refs_Holders p0 p1).bind fun r19 =>
    some ((((r19).length) : Int), 0)

def refs_Refs_Held (p0 : refs_Refs) (p1 : Int) : Option ((List Int) × Bool) :=
  (slices_Clone_int_int ((mget p0.held p1).getD [])).bind fun r25 =>
  some (r25, (mget p0.held p1).isSome)

def tappetlaw18_awake  : Option Bool :=
  (refs_New 3).bind fun r11 =>
  ocase r11.1
    (some false)
    (fun k15 =>
    (if (r11.2 != 0) then
      some (k15, true)
    else
      (refs_Refs_Hold k15 7 ([2, 0])).bind fun r35 =>
      some (r35.2, (r35.1 != 0))).bind fun o30 =>
    if o30.2 then
      some false
    else
      (refs_Refs_Count o30.1 2).bind fun r46 =>
      (refs_Refs_Held o30.1 7).bind fun r60 =>
      (if (r46.1 == 1) then
        if (r46.2 == 0) then
          if r60.2 then
            if ((((r60.1).length) : Int) == 2) then
              (idx r60.1 0).bind fun x91 =>
              if (x91 == 2) then
                (refs_Refs_Hold o30.1 7 ([] : List Int)).bind fun r98 =>
                some (r98.1 == 42)
              else
                some false
            else
              some false
          else
            some false
        else
          some false
      else
        some false).bind fun o85 =>
      some o85)

def refs_Refs_Drop_l1 (p0 : refs_Refs) (p1 : List Int) (i158 : Nat) (again : Unit → Option (Unit ⊕ (Int × refs_Refs))) (s157 : Unit) : Option (Unit ⊕ (Int × refs_Refs)) :=
  (idx p1 (i158 : Int)).bind fun x167 =>
  (cut p1 0 (i158 : Int)).bind fun ys180 =>
  (slices_Contains_int_int ys180 x167).bind fun r183 =>
  if r183 then
    some (.inr (2, p0))
  else
    again ()
def refs_Refs_Drop_l2 (p0 : refs_Refs) (p1 : List Int) (i373 : Nat) (again : Unit → Option (Unit ⊕ (Int × refs_Refs))) (s371 : Unit) : Option (Unit ⊕ (Int × refs_Refs)) :=
  (idx p1 (i373 : Int)).bind fun x382 =>
  if (!(mget p0.held x382).isSome) then
    some (.inr (41, p0))
  else
    again ()
def refs_Refs_Drop_l3 (p1 : List Int) (i532 : Nat) (again : refs_Refs → Option refs_Refs) (s530 : refs_Refs) : Option refs_Refs :=
  (idx p1 (i532 : Int)).bind fun x541 =>
  again (refs_Refs.mk s530.maps (mdel s530.held x541))
def refs_Refs_Drop (p0 : refs_Refs) (p1 : List Int) : Option (Int × refs_Refs) :=
  (forN (refs_Refs_Drop_l1 p0 p1) (fun (s157 : Unit) => (.inl ())) ((p1).length) 0 ()).bind fun o95 => match o95 with
    | .inl t97 =>
      (forN (refs_Refs_Drop_l2 p0 p1) (fun (s371 : Unit) => (.inl ())) ((p1).length) 0 ()).bind fun o297 => match o297 with
        | .inl t299 =>
          (forN (refs_Refs_Drop_l3 p1) (fun (s530 : refs_Refs) => s530) ((p1).length) 0 p0).bind fun o481 =>
          some (0, o481)
        | .inr r => some r
    | .inr r => some r

def tappetlaw18_RefsOnce_l1 (p1 : List tappetlaw18_Op) (again : (refs_Refs × Int) → Option refs_Refs) (s704 : refs_Refs × Int) : Option refs_Refs :=
  if (decide (s704.2 < (((p1).length) : Int)) && decide (s704.2 < 300)) then
    (idx p1 s704.2).bind fun x722 =>
    if (x722.Kind == 0) then
      (refs_Refs_Hold s704.1 x722.Prog x722.Maps).bind fun r794 =>
      again (r794.2, w64 (s704.2 + 1))
    else
      (refs_Refs_Drop s704.1 ([x722.Prog])).bind fun r832 =>
      again (r832.2, w64 (s704.2 + 1))
  else
    some s704.1
def tappetlaw18_RefsOnce_l2 (p0 : Int) (p2 : Int) (r846 : Int × refs_Refs) (again : ((List Int) × (List Int) × Int) → Option ((List Int) × (List Int))) (s1154 : (List Int) × (List Int) × Int) : Option ((List Int) × (List Int)) :=
  if decide (s1154.2.2 < p0) then
    (refs_Refs_Count r846.2 s1154.2.2).bind fun r1170 =>
    (room (s1154.2.1.length + ([r1170.1]).length) 8).bind fun u1186 =>
    if (s1154.2.2 != (p2.tmod 4)) then
      (room (s1154.1.length + ([s1154.2.2]).length) 8).bind fun u1205 =>
      again ((s1154.1 ++ [s1154.2.2]), (s1154.2.1 ++ [r1170.1]), w64 (s1154.2.2 + 1))
    else
      again (s1154.1, (s1154.2.1 ++ [r1170.1]), w64 (s1154.2.2 + 1))
  else
    some (s1154.1, s1154.2.1)
def tappetlaw18_RefsOnce_l3 (p0 : Int) (p2 : Int) (o1033 : (List Int) × (List Int)) (o1241 : refs_Refs × Bool) (again : Int → Option (Unit ⊕ Bool)) (s1556 : Int) : Option (Unit ⊕ Bool) :=
  if decide (s1556 < p0) then
    (refs_Refs_Count o1241.1 s1556).bind fun r1564 =>
    (if (s1556 == (p2.tmod 4)) then
      some 0
    else
      some 1).bind fun o1570 =>
    ((idx o1033.2 s1556).bind fun x1598 =>
    if (r1564.1 != (w64 (x1598 + o1570))) then
      some true
    else
      (refs_Refs_Holders o1241.1 s1556).bind fun r1605 =>
      some ((((r1605).length) : Int) != r1564.1)).bind fun o1596 =>
    if o1596 then
      some (.inr false)
    else
      again (w64 (s1556 + 1))
  else
    some (.inl ())
def tappetlaw18_RefsOnce_l4 (p0 : Int) (o1033 : (List Int) × (List Int)) (o1652 : refs_Refs × Bool) (again : Int → Option (Unit ⊕ Bool)) (s1819 : Int) : Option (Unit ⊕ Bool) :=
  if decide (s1819 < p0) then
    (refs_Refs_Count o1652.1 s1819).bind fun r1827 =>
    (idx o1033.2 s1819).bind fun x1838 =>
    if (r1827.1 != x1838) then
      some (.inr false)
    else
      again (w64 (s1819 + 1))
  else
    some (.inl ())
def tappetlaw18_RefsOnce (fu : Nat) (p0 : Int) (p1 : List tappetlaw18_Op) (p2 : Int) : Option Bool :=
  tappetlaw18_awake.bind fun r8 =>
  if (!r8) then
    some false
  else
    (refs_New p0).bind fun r23 =>
    ocase r23.1
      (some (r23.2 == 2))
      (fun k27 =>
      if (r23.2 != 0) then
        some false
      else
        (loop (tappetlaw18_RefsOnce_l1 p1) fu (k27, 0)).bind fun o435 =>
        (refs_Refs_Drop o435 ([p2])).bind fun r846 =>
        (loop (tappetlaw18_RefsOnce_l2 p0 p2 r846) fu (([] : List Int), ([] : List Int), 0)).bind fun o1033 =>
        ((refs_Refs_Hold r846.2 p2 o1033.1).bind fun r1243 =>
        if (r1243.1 != 0) then
          some (r1243.2, true)
        else
          (refs_Refs_Hold r1243.2 p2 o1033.1).bind fun r1249 =>
          some (r1249.2, (r1249.1 != 42))).bind fun o1241 =>
        if o1241.2 then
          some false
        else
          (loop (tappetlaw18_RefsOnce_l3 p0 p2 o1033 o1241) fu 0).bind fun o1434 => match o1434 with
            | .inl t1436 =>
              ((refs_Refs_Drop o1241.1 ([p2])).bind fun r1656 =>
              if (r1656.1 != 0) then
                some (r1656.2, true)
              else
                (refs_Refs_Drop r1656.2 ([p2])).bind fun r1664 =>
                if (r1664.1 != 41) then
                  some (r1664.2, true)
                else
                  (refs_Refs_Drop r1664.2 ([p2, p2])).bind fun r1672 =>
                  if (r1672.1 != 2) then
                    some (r1672.2, true)
                  else
                    (refs_Refs_Drop r1672.2 ([] : List Int)).bind fun r1678 =>
                    some (r1678.2, (r1678.1 != 0))).bind fun o1652 =>
              if o1652.2 then
                some false
              else
                (loop (tappetlaw18_RefsOnce_l4 p0 o1033 o1652) fu 0).bind fun o1763 => match o1763 with
                  | .inl t1765 =>
                    some true
                  | .inr r => some r
            | .inr r => some r)

def tappetlaw18_ints_l1 (p0 : List Int) (p1 : List Int) (i171 : Nat) (again : Unit → Option (Unit ⊕ Bool)) (s170 : Unit) : Option (Unit ⊕ Bool) :=
  (idx p0 (i171 : Int)).bind fun x190 =>
  (idx p1 (i171 : Int)).bind fun x196 =>
  if (x190 != x196) then
    some (.inr false)
  else
    again ()
def tappetlaw18_ints (p0 : List Int) (p1 : List Int) : Option Bool :=
  if ((((p0).length) : Int) != (((p1).length) : Int)) then
    some false
  else
    (forN (tappetlaw18_ints_l1 p0 p1) (fun (s170 : Unit) => (.inl ())) ((p0).length) 0 ()).bind fun o104 => match o104 with
      | .inl t106 =>
        some true
      | .inr r => some r

def tappetlaw18_RefsMany_l1 (p0 : List tappetlaw18_Op) (again : (refs_Refs × refs_Refs × Int) → Option ((refs_Refs × refs_Refs) ⊕ Bool)) (s715 : refs_Refs × refs_Refs × Int) : Option ((refs_Refs × refs_Refs) ⊕ Bool) :=
  if (decide (s715.2.2 < (((p0).length) : Int)) && decide (s715.2.2 < 300)) then
    (idx p0 s715.2.2).bind fun x784 =>
    (refs_Refs_Hold s715.1 x784.Prog x784.Maps).bind fun r834 =>
    (refs_Refs_Hold s715.2.1 x784.Prog x784.Maps).bind fun r839 =>
    if (r834.1 != r839.1) then
      some (.inr false)
    else
      again (r834.2, r839.2, w64 (s715.2.2 + 1))
  else
    some (.inl (s715.1, s715.2.1))
def tappetlaw18_RefsMany_l3 (p1 : List Int) (s1397 : Bool × Int) (again : (Bool × Int) → Option Bool) (s1531 : Bool × Int) : Option Bool :=
  if decide (s1531.2 < s1397.2) then
    if s1531.1 then
      (idx p1 s1531.2).bind fun x1538 =>
      (idx p1 s1397.2).bind fun x1544 =>
      again ((x1538 != x1544), w64 (s1531.2 + 1))
    else
      again (false, w64 (s1531.2 + 1))
  else
    some s1531.1
def tappetlaw18_RefsMany_l2 (fu : Nat) (p1 : List Int) (t453 : refs_Refs × refs_Refs) (again : (Bool × Int) → Option Bool) (s1397 : Bool × Int) : Option Bool :=
  if (decide (s1397.2 < (((p1).length) : Int)) && decide (s1397.2 < 100)) then
    (idx p1 s1397.2).bind fun x1416 =>
    (refs_Refs_Held t453.1 x1416).bind fun r1422 =>
    (loop (tappetlaw18_RefsMany_l3 p1 s1397) fu ((s1397.1 && r1422.2), 0)).bind fun o1490 =>
    again (o1490, w64 (s1397.2 + 1))
  else
    some s1397.1
def tappetlaw18_RefsMany_l4 (p1 : List Int) (o1197 : Bool) (again : (refs_Refs × Int) → Option (refs_Refs ⊕ Bool)) (s1741 : refs_Refs × Int) : Option (refs_Refs ⊕ Bool) :=
  if (decide (s1741.2 < (((p1).length) : Int)) && o1197) then
    (idx p1 s1741.2).bind fun x1758 =>
    (refs_Refs_Drop s1741.1 ([x1758])).bind fun r1766 =>
    if (r1766.1 != 0) then
      some (.inr false)
    else
      again (r1766.2, w64 (s1741.2 + 1))
  else
    some (.inl s1741.1)
def tappetlaw18_RefsMany_l7 (i6055 : Nat) (r6793 : (List Int) × Bool) (i6864 : Nat) (again : Bool → Option Bool) (s6863 : Bool) : Option Bool :=
  if s6863 then
    again true
  else
    (idx r6793.1 (i6864 : Int)).bind fun x6868 =>
    again (x6868 == (i6055 : Int))
def tappetlaw18_RefsMany_l6 (r1574 : Int × refs_Refs) (i6055 : Nat) (r6076 : (List Int)) (i6769 : Nat) (again : Unit → Option (Unit ⊕ Bool)) (s6767 : Unit) : Option (Unit ⊕ Bool) :=
  (idx r6076 (i6769 : Int)).bind fun x6787 =>
  (refs_Refs_Held r1574.2 x6787).bind fun r6793 =>
  (forN (tappetlaw18_RefsMany_l7 i6055 r6793) (fun (s6863 : Bool) => s6863) ((r6793.1).length) 0 false).bind fun o6837 =>
  (if (!r6793.2) then
    some true
  else
    if (!o6837) then
      some true
    else
      if decide ((i6769 : Int) > 0) then
        (idx r6076 (w64 ((i6769 : Int) - 1))).bind fun x6898 =>
        some (decide (x6898 ≥ x6787))
      else
        some false).bind fun o6891 =>
  if o6891 then
    some (.inr false)
  else
    again ()
def tappetlaw18_RefsMany_l5 (r1574 : Int × refs_Refs) (t1677 : refs_Refs) (i6055 : Nat) (again : Unit → Option (Unit ⊕ Bool)) (s6052 : Unit) : Option (Unit ⊕ Bool) :=
  (refs_Refs_Holders r1574.2 (i6055 : Int)).bind fun r6076 =>
  (refs_Refs_Holders t1677 (i6055 : Int)).bind fun r6085 =>
  (tappetlaw18_ints r6076 r6085).bind fun r6098 =>
  if (!r6098) then
    some (.inr false)
  else
    (forN (tappetlaw18_RefsMany_l6 r1574 i6055 r6076) (fun (s6767 : Unit) => (.inl ())) ((r6076).length) 0 ()).bind fun o6505 => match o6505 with
      | .inl t6507 =>
        again ()
      | .inr r => some (.inr r)
def tappetlaw18_RefsMany (fu : Nat) (p0 : List tappetlaw18_Op) (p1 : List Int) : Option Bool :=
  tappetlaw18_awake.bind fun r11 =>
  if (!r11) then
    some false
  else
    (refs_New 4).bind fun r26 =>
    ocase r26.1
      ((refs_New 4).bind fun r6919 =>
      ocase r6919.1
        (some false)
        (fun k6923 =>
        some false))
      (fun k30 =>
      (refs_New 4).bind fun r46 =>
      ocase r46.1
        (some false)
        (fun k50 =>
        if ((r26.2 != 0) || (r46.2 != 0)) then
          some false
        else
          (loop (tappetlaw18_RefsMany_l1 p0) fu (k30, k50, 0)).bind fun o451 => match o451 with
            | .inl t453 =>
              (loop (tappetlaw18_RefsMany_l2 fu p1 t453) fu (true, 0)).bind fun o1197 =>
              if decide ((((p1).length) : Int) > 100) then
                some true
              else
                (room (([] : List Int).length + p1.length) 8).bind fun u1567 =>
                (refs_Refs_Drop t453.1 (([] : List Int) ++ p1)).bind fun r1574 =>
                if (!((r1574.1 == 0) == o1197)) then
                  some false
                else
                  (loop (tappetlaw18_RefsMany_l4 p1 o1197) fu (t453.2, 0)).bind fun o1675 => match o1675 with
                    | .inl t1677 =>
                      (forN (tappetlaw18_RefsMany_l5 r1574 t1677) (fun (s6052 : Unit) => (.inl ())) 4 0 ()).bind fun o4339 => match o4339 with
                        | .inl t4341 =>
                          some true
                        | .inr r => some r
                    | .inr r => some r
            | .inr r => some r))

end Go.Proofs.Ytbhbegbnmndhdaa
