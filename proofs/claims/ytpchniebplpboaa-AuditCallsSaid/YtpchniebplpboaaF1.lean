/- Written by a program (wip/gen) from the translation: what each Go function computes, as a plain Lean function. -/
import Derived.Test.YtpchniebplpboaaIfc
import Derived.Test.YtpchniebplpboaaPart
set_option linter.unusedSimpArgs false
namespace Go.Proofs.Ytpchniebplpboaa
open Go.Sx
set_option linter.unusedVariables false
structure api_MapDef where
  Kind : Int
  Cap : Int
def enc_api_MapDef (x : api_MapDef) : List Value := [.int .i64 x.Kind, .int .i64 x.Cap]
structure api_Config where
  Workers : Int
  Shards : Int
  Hooks : Int
  Ring : Int
  Maps : List api_MapDef
structure api_Pair where
  Key : Int
  Val : Int
def enc_api_Pair (x : api_Pair) : List Value := [.int .u64 x.Key, .int .u64 x.Val]
structure book_Book where
  cap : Int
  pairs : List api_Pair
def R_t120 : Rp (List api_Pair) := rowP 129 (enc_api_Pair) 2 (fun _ => rfl) (by decide)
def R_t131 : Rp book_Book := structP (fun (x : book_Book) vs => [.int .i64 x.cap, vs.getD 0 undef]) 2 (fun _ _ => rfl) (fun x => x.pairs) (R_t120)
def R_t114 : Rp book_Book := ptrP 131 R_t131
structure lru_LRU where
  Book : book_Book
  order : List Int
def R_t123 : Rp (List Int) := rowP 42 (encInt .u64) 1 (fun _ => rfl) (by decide)
def R_t133 : Rp lru_LRU := structP (fun (x : lru_LRU) vs => [vs.getD 0 undef, vs.getD 1 undef]) 2 (fun _ _ => rfl) (fun x => (x.Book, x.order)) (pairP R_t114 R_t123)
def R_t117 : Rp lru_LRU := ptrP 133 R_t133
abbrev I_cmap_Shard : Type := book_Book ⊕ lru_LRU
def R_t103 : Rp I_cmap_Shard := sumP (tagP 114 R_t114) (tagP 117 R_t117) rfl rfl
structure cmap_Map where
  def_ : api_MapDef
  shards : List I_cmap_Shard
def R_t99 : Rp (List I_cmap_Shard) := rowNP 103 R_t103 (by decide)
def R_t101 : Rp cmap_Map := structP (fun (x : cmap_Map) vs => [.int .i64 x.def_.Kind, .int .i64 x.def_.Cap, vs.getD 0 undef]) 3 (fun _ _ => rfl) (fun x => x.shards) (R_t99)
def R_t73 : Rp cmap_Map := ptrP 101 R_t101
structure tappetref13_Book where
  Cap : Int
  List : List api_Pair
structure api_Res where
  E : Int
  Found : Bool
  Val : Int
  Out : Bool
  OutKey : Int
  OutVal : Int
def enc_api_Res (x : api_Res) : List Value := [.int .i64 x.E, .bool x.Found, .int .u64 x.Val, .bool x.Out, .int .u64 x.OutKey, .int .u64 x.OutVal]
def R_t46 : Rp api_Res := flatP (enc_api_Res) 6 (fun _ => rfl)
def R_t171 : Rp api_Res := ptrP 46 R_t46
structure tappetref14_LRU where
  B : tappetref13_Book
  Keys : List Int
  When : List Int
  Clock : Int
def R_t39 : Rp (List Int) := rowP 3 (encInt .i64) 1 (fun _ => rfl) (by decide)
structure tappetref15_Shard where
  B : Option tappetref13_Book
  L : Option tappetref14_LRU
structure tappetref15_Map where
  S : List tappetref15_Shard
structure api_Item where
  Map : Int
  Op : Int
  Key : Int
  Val : Int
def enc_api_Item (x : api_Item) : List Value := [.int .i64 x.Map, .int .i64 x.Op, .int .u64 x.Key, .int .u64 x.Val]
structure api_Entry where
  What : Int
  Task : Int
  From : Int
  Cmd : Int
  Tag : Int
  Event : Int
  Hook : Int
  Prog : Int
  Version : Int
  Pc : Int
  Item : api_Item
  Res : api_Res
  Val : Int
  E : Int
def enc_api_Entry (x : api_Entry) : List Value := [.int .i64 x.What, .int .i64 x.Task, .int .i64 x.From, .int .i64 x.Cmd, .int .i64 x.Tag, .int .i64 x.Event, .int .i64 x.Hook, .int .i64 x.Prog, .int .i64 x.Version, .int .i64 x.Pc, .int .i64 x.Item.Map, .int .i64 x.Item.Op, .int .u64 x.Item.Key, .int .u64 x.Item.Val, .int .i64 x.Res.E, .bool x.Res.Found, .int .u64 x.Res.Val, .bool x.Res.Out, .int .u64 x.Res.OutKey, .int .u64 x.Res.OutVal, .int .u64 x.Val, .int .i64 x.E]
structure audit_ask where
  Entry : api_Entry
  done : Bool
  res : api_Res
def enc_audit_ask (x : audit_ask) : List Value := [.int .i64 x.Entry.What, .int .i64 x.Entry.Task, .int .i64 x.Entry.From, .int .i64 x.Entry.Cmd, .int .i64 x.Entry.Tag, .int .i64 x.Entry.Event, .int .i64 x.Entry.Hook, .int .i64 x.Entry.Prog, .int .i64 x.Entry.Version, .int .i64 x.Entry.Pc, .int .i64 x.Entry.Item.Map, .int .i64 x.Entry.Item.Op, .int .u64 x.Entry.Item.Key, .int .u64 x.Entry.Item.Val, .int .i64 x.Entry.Res.E, .bool x.Entry.Res.Found, .int .u64 x.Entry.Res.Val, .bool x.Entry.Res.Out, .int .u64 x.Entry.Res.OutKey, .int .u64 x.Entry.Res.OutVal, .int .u64 x.Entry.Val, .int .i64 x.Entry.E, .bool x.done, .int .i64 x.res.E, .bool x.res.Found, .int .u64 x.res.Val, .bool x.res.Out, .int .u64 x.res.OutKey, .int .u64 x.res.OutVal]
structure audit_calls where
  open_ : List (Int × Int)
  count : List (Int × Int)
  asks : List (Int × audit_ask)
def R_t157 : Rp audit_ask := flatP (enc_audit_ask) 29 (fun _ => rfl)
def R_t154 : Rp audit_ask := ptrP 157 R_t157
def R_t87 : Rp (List (Int × Int)) := mapFP (Value.int .i64)
def R_t88 : Rp (List (Int × audit_ask)) := mapNP R_t154
def R_t90 : Rp audit_calls := structP (fun (x : audit_calls) vs => [vs.getD 0 undef, vs.getD 1 undef, vs.getD 2 undef]) 3 (fun _ _ => rfl) (fun x => (x.open_, (x.count, x.asks))) (pairP R_t87 (pairP R_t87 R_t88))
def R_t63 : Rp audit_calls := ptrP 90 R_t90
structure audit_events where
  room : Int
  count : Int
  wait : List (Int × (List Int))
def R_t91 : Rp (List (Int × (List Int))) := mapNP R_t39
def R_t93 : Rp audit_events := structP (fun (x : audit_events) vs => [.int .i64 x.room, .int .i64 x.count, vs.getD 0 undef]) 3 (fun _ _ => rfl) (fun x => x.wait) (R_t91)
def R_t67 : Rp audit_events := ptrP 93 R_t93
structure audit_runs where
  at_ : List (Int × api_Entry)
  in_ : List (Int × api_Entry)
  last : Int
def R_t94 : Rp (List (Int × api_Entry)) := mapFP (fun x => .agg (enc_api_Entry x).toArray)
def R_t96 : Rp audit_runs := structP (fun (x : audit_runs) vs => [vs.getD 0 undef, vs.getD 1 undef, .int .i64 x.last]) 3 (fun _ _ => rfl) (fun x => (x.at_, x.in_)) (pairP R_t94 R_t94)
def R_t69 : Rp audit_runs := ptrP 96 R_t96
structure audit_grace where
  loaded : List Int
  retired : List Int
  in_ : List (Int × Int)
def R_t98 : Rp audit_grace := structP (fun (x : audit_grace) vs => [vs.getD 0 undef, vs.getD 1 undef, vs.getD 2 undef]) 3 (fun _ _ => rfl) (fun x => (x.loaded, (x.retired, x.in_))) (pairP R_t39 (pairP R_t39 R_t87))
def R_t71 : Rp audit_grace := ptrP 98 R_t98
abbrev I_audit_rule : Type := (List cmap_Map) ⊕ audit_calls ⊕ audit_events ⊕ audit_runs ⊕ audit_grace
def R_t51 : Rp (List cmap_Map) := rowNP 73 R_t73 (by decide)
def R_t78 : Rp I_audit_rule := sumP (tagP 51 R_t51) (sumP (tagP 63 R_t63) (sumP (tagP 67 R_t67) (sumP (tagP 69 R_t69) (tagP 71 R_t71) rfl rfl) rfl rfl) rfl rfl) rfl rfl
def lru_LRU_drop_1 (p0 : Int) (p1 : Int) : Option Bool :=
  some (p0 == p1)
def tappetlaw27_one  : Option api_Config :=
  some (api_Config.mk 0 1 0 1 ([(api_MapDef.mk 0 2)]))
def book_New (p0 : Int) : Option ((Option book_Book) × Int) :=
  if (decide (p0 < 1) || decide (p0 > 16)) then
    some (none, 2)
  else
    some ((some (book_Book.mk p0 ([] : List api_Pair))), 0)
def lru_New (p0 : Int) : Option ((Option lru_LRU) × Int) :=
  (book_New p0).bind fun r11 =>
  ocase r11.1
    (if (r11.2 != 0) then
      some (none, r11.2)
    else
      none)
    (fun k15 =>
    if (r11.2 != 0) then
      some (none, r11.2)
    else
      some ((some (lru_LRU.mk k15 ([] : List Int))), 0))
def cmap_Make (p0 : api_MapDef) : Option ((Option I_cmap_Shard) × Int) :=
  if (p0.Kind == 0) then
    (book_New p0.Cap).bind fun r16 =>
    ocase r16.1
      (if (r16.2 == 0) then
        none
      else
        some (none, 2))
      (fun k20 =>
      if (r16.2 == 0) then
        some ((some (.inl k20)), r16.2)
      else
        some (none, 2))
  else
    if (p0.Kind == 1) then
      (lru_New p0.Cap).bind fun r39 =>
      ocase r39.1
        (if (r39.2 == 0) then
          none
        else
          some (none, 2))
        (fun k43 =>
        if (r39.2 == 0) then
          some ((some (.inr k43)), r39.2)
        else
          some (none, 2))
    else
      some (none, 2)
def cmap_New_l1 (p0 : api_MapDef) (p1 : Int) (again : (cmap_Map × Int) → Option (cmap_Map ⊕ ((Option cmap_Map) × Int))) (s329 : cmap_Map × Int) : Option (cmap_Map ⊕ ((Option cmap_Map) × Int)) :=
  if decide (s329.2 < p1) then
    (cmap_Make p0).bind fun r341 =>
    ocase r341.1
      (if (r341.2 != 0) then
        some (.inr (none, r341.2))
      else
        none)
      (fun k345 =>
      if (r341.2 != 0) then
        some (.inr (none, r341.2))
      else
        (room (s329.1.shards.length + ([k345]).length) 16).bind fun u375 =>
        again ((cmap_Map.mk s329.1.def_ (s329.1.shards ++ [k345])), w64 (s329.2 + 1)))
  else
    some (.inl s329.1)
def cmap_New (fu : Nat) (p0 : api_MapDef) (p1 : Int) : Option ((Option cmap_Map) × Int) :=
  if (decide (p1 < 1) || decide (p1 > 4)) then
    some (none, 2)
  else
    (loop (cmap_New_l1 p0 p1) fu ((cmap_Map.mk p0 ([] : List I_cmap_Shard)), 0)).bind fun o200 => match o200 with
      | .inl t202 =>
        some ((some t202), 0)
      | .inr r => some r
def audit_newMaps_l1 (fu : Nat) (p0 : api_Config) (i371 : Nat) (again : (List cmap_Map) → Option ((List cmap_Map) ⊕ ((List cmap_Map) × Int))) (s368 : (List cmap_Map)) : Option ((List cmap_Map) ⊕ ((List cmap_Map) × Int)) :=
  (idx p0.Maps (i371 : Int)).bind fun x386 =>
  (cmap_New fu x386 p0.Shards).bind fun r405 =>
  ocase r405.1
    (if (r405.2 != 0) then
      some (.inr (([] : List cmap_Map), r405.2))
    else
      none)
    (fun k409 =>
    if (r405.2 != 0) then
      some (.inr (([] : List cmap_Map), r405.2))
    else
      (room (s368.length + ([k409]).length) 8).bind fun u430 =>
      again (s368 ++ [k409]))
def audit_newMaps (fu : Nat) (p0 : api_Config) : Option ((List cmap_Map) × Int) :=
  if ((decide (p0.Shards < 1) || decide (p0.Shards > 4)) || decide (((p0.Maps).length : Int) > 4)) then
    some (([] : List cmap_Map), 2)
  else
    (forN (audit_newMaps_l1 fu p0) (fun (s368 : (List cmap_Map)) => (.inl s368)) (p0.Maps).length 0 ([] : List cmap_Map)).bind fun o225 => match o225 with
      | .inl t227 =>
        some (t227, 0)
      | .inr r => some r
def place_Of (p0 : Int) (p1 : Int) : Option Int :=
  if decide (p1 < 1) then
    some 0
  else
    (nz (wu64 p1)).bind fun u4 =>
    some (w64 ((bShr .u64 (wu64 (p0 * 11400714819323198485)) 32).tmod (wu64 p1)))
def book_Book_find_1 (p0 : api_Pair) (p1 : Int) : Option Int :=
  if decide (p0.Key < p1) then
    some (-1)
  else
    if decide (p0.Key > p1) then
      some 1
    else
      some 0
def slices_BinarySearchFunc_tappet_api_Pair_tappet_api_Pair_uint64_83_l1 (p0 : List api_Pair) (p1 : Int) (again : (Int × Int) → Option Int) (s123 : Int × Int) : Option Int :=
  if decide (s123.1 < s123.2) then
    (idx p0 (w64 (bShr .u64 (wu64 (w64 (s123.1 + s123.2))) 1))).bind fun x135 =>
    (book_Book_find_1 x135 p1).bind fun r141 =>
    if decide (r141 < 0) then
      again (w64 ((w64 (bShr .u64 (wu64 (w64 (s123.1 + s123.2))) 1)) + 1), s123.2)
    else
      again (s123.1, w64 (bShr .u64 (wu64 (w64 (s123.1 + s123.2))) 1))
  else
    some s123.1
def slices_BinarySearchFunc_tappet_api_Pair_tappet_api_Pair_uint64_83 (fu : Nat) (p0 : List api_Pair) (p1 : Int) : Option (Int × Bool) :=
  (loop (slices_BinarySearchFunc_tappet_api_Pair_tappet_api_Pair_uint64_83_l1 p0 p1) fu (0, ((p0).length : Int))).bind fun o74 =>
  (if decide (o74 < ((p0).length : Int)) then
    (idx p0 o74).bind fun x160 =>
    (book_Book_find_1 x160 p1).bind fun r166 =>
    some (r166 == 0)
  else
    some false).bind fun o157 =>
  some (o74, o157)
def book_Book_find (fu : Nat) (p0 : book_Book) (p1 : Int) : Option (Int × Bool) :=
  (slices_BinarySearchFunc_tappet_api_Pair_tappet_api_Pair_uint64_83 fu p0.pairs p1).bind fun r11 =>
  some (r11.1, r11.2)
def slices_Delete_tappet_api_Pair_tappet_api_Pair (p0 : List api_Pair) (p1 p2 : Int) : Option (List api_Pair) := delF p0 p1 p2
def slices_Insert_tappet_api_Pair_tappet_api_Pair (p0 : List api_Pair) (p1 : Int) (p2 : List api_Pair) : Option ((List api_Pair) × (List api_Pair)) := insF 16 p0 p1 p2
def book_Book_Do (fu : Nat) (p0 : book_Book) (p1 : Int) (p2 : Int) (p3 : Int) : Option (api_Res × book_Book) :=
  if (decide (p1 < 0) || decide (p1 ≥ 5)) then
    some ((api_Res.mk 2 false 0 false 0 0), p0)
  else
    (book_Book_find fu p0 p2).bind fun r15 =>
    (if (r15.2 && (p1 != 1)) then
      (idx p0.pairs r15.1).bind fun x64 =>
      some (api_Res.mk 0 r15.2 x64.Val false 0 0)
    else
      some (api_Res.mk 0 r15.2 0 false 0 0)).bind fun o49 =>
    if (p1 == 3) then
      if r15.2 then
        (slices_Delete_tappet_api_Pair_tappet_api_Pair p0.pairs r15.1 (w64 (r15.1 + 1))).bind fun r88 =>
        some (o49, (book_Book.mk p0.cap r88))
      else
        some (o49, p0)
    else
      (if (p1 == 2) then
        some (p1 == 2)
      else
        some (p1 == 4)).bind fun o103 =>
      if o103 then
        if ((!r15.2) && (((p0.pairs).length : Int) == p0.cap)) then
          some ((api_Res.mk 40 false 0 false 0 0), p0)
        else
          (if (!r15.2) then
            (slices_Insert_tappet_api_Pair_tappet_api_Pair p0.pairs r15.1 ([(api_Pair.mk p2 0)])).bind fun r163 =>
            some (book_Book.mk p0.cap r163.1)
          else
            some p0).bind fun o147 =>
          (if (p1 == 4) then
            some (wu64 (o49.Val + p3), (api_Res.mk o49.E o49.Found (wu64 (o49.Val + p3)) o49.Out o49.OutKey o49.OutVal))
          else
            some (p3, o49)).bind fun o177 =>
          (idx o147.pairs r15.1).bind fun x194 =>
          some (o177.2, (book_Book.mk o147.cap (o147.pairs.set (Int.toNat r15.1) (api_Pair.mk x194.Key o177.1))))
      else
        some (o49, p0)
def slices_IndexFunc_uint64_uint64_94_l1 (p0 : List Int) (p1 : Int) (i127 : Nat) (again : Unit → Option (Unit ⊕ Int)) (s126 : Unit) : Option (Unit ⊕ Int) :=
  (idx p0 (i127 : Int)).bind fun x140 =>
  (lru_LRU_drop_1 x140 p1).bind fun r146 =>
  if r146 then
    some (.inr (i127 : Int))
  else
    again ()
def slices_IndexFunc_uint64_uint64_94 (p0 : List Int) (p1 : Int) : Option Int :=
  (forN (slices_IndexFunc_uint64_uint64_94_l1 p0 p1) (fun (s126 : Unit) => (.inl ())) (p0).length 0 ()).bind fun o76 => match o76 with
    | .inl t78 =>
      some (-1)
    | .inr r => some r
def slices_DeleteFunc_uint64_uint64_94_l1 (p1 : Int) (again : ((List Int) × Int × Int) → Option ((List Int) × Int)) (s222 : (List Int) × Int × Int) : Option ((List Int) × Int) :=
  if decide (s222.2.2 < ((s222.1).length : Int)) then
    (idx s222.1 s222.2.2).bind fun x234 =>
    (lru_LRU_drop_1 x234 p1).bind fun r244 =>
    if (!r244) then
      (idx s222.1 s222.2.1).bind fun x256 =>
      again ((s222.1.set (Int.toNat s222.2.1) x234), w64 (s222.2.1 + 1), w64 (s222.2.2 + 1))
    else
      again (s222.1, s222.2.1, w64 (s222.2.2 + 1))
  else
    some (s222.1, s222.2.1)
def slices_DeleteFunc_uint64_uint64_94 (fu : Nat) (p0 : List Int) (p1 : Int) : Option (List Int) :=
  (slices_IndexFunc_uint64_uint64_94 p0 p1).bind fun r8 =>
  if (r8 == (-1)) then
    some p0
  else
    (loop (slices_DeleteFunc_uint64_uint64_94_l1 p1) fu (p0, r8, w64 (r8 + 1))).bind fun o138 =>
    (cut o138.1 o138.2 (o138.1.length : Int)).bind fun ys273 =>
    (cut (o138.1.take (Int.toNat o138.2) ++ List.replicate ys273.length 0) 0 o138.2).bind fun ys278 =>
    some ys278
def lru_LRU_drop (fu : Nat) (p0 : lru_LRU) (p1 : Int) : Option lru_LRU :=
  (slices_DeleteFunc_uint64_uint64_94 fu p0.order p1).bind fun r23 =>
  some (lru_LRU.mk p0.Book r23)
def lru_LRU_evict (fu : Nat) (p0 : lru_LRU) (p1 : api_Res) : Option (lru_LRU × api_Res) :=
  (idx p0.order (w64 (((p0.order).length : Int) - 1))).bind fun x21 =>
  (book_Book_Do fu p0.Book 3 x21 0).bind fun r35 =>
  (lru_LRU_drop fu (lru_LRU.mk r35.2 p0.order) x21).bind fun r50 =>
  some (r50, (api_Res.mk p1.E p1.Found p1.Val true x21 r35.1.Val))
def slices_Insert_uint64_uint64 (p0 : List Int) (p1 : Int) (p2 : List Int) : Option ((List Int) × (List Int)) := insF 8 p0 p1 p2
def lru_LRU_touch (fu : Nat) (p0 : lru_LRU) (p1 : Int) : Option lru_LRU :=
  (lru_LRU_drop fu p0 p1).bind fun r7 =>
  (slices_Insert_uint64_uint64 r7.order 0 ([p1])).bind fun r34 =>
  some (lru_LRU.mk r7.Book r34.1)
def lru_LRU_Do (fu : Nat) (p0 : lru_LRU) (p1 : Int) (p2 : Int) (p3 : Int) : Option (api_Res × lru_LRU) :=
  (book_Book_Do fu p0.Book p1 p2 p3).bind fun r22 =>
  (if (r22.1.E == 40) then
    (lru_LRU_evict fu (lru_LRU.mk r22.2 p0.order) (api_Res.mk 0 false 0 false 0 0)).bind fun r98 =>
    (book_Book_Do fu r98.1.Book p1 p2 p3).bind fun r118 =>
    some ((lru_LRU.mk r118.2 r98.1.order), (api_Res.mk r118.1.E r118.1.Found r118.1.Val r98.2.Out r98.2.OutKey r98.2.OutVal))
  else
    some ((lru_LRU.mk r22.2 p0.order), r22.1)).bind fun o83 =>
  if (o83.2.E != 0) then
    some (o83.2, o83.1)
  else
    (if (p1 == 2) then
      some (p1 == 2)
    else
      if (p1 == 4) then
        some (p1 == 4)
      else
        if (p1 == 0) then
          some o83.2.Found
        else
          some false).bind fun o142 =>
    if o142 then
      (lru_LRU_touch fu o83.1 p2).bind fun r153 =>
      some (o83.2, r153)
    else
      if (p1 == 3) then
        (lru_LRU_drop fu o83.1 p2).bind fun r166 =>
        some (o83.2, r166)
      else
        some (o83.2, o83.1)
def I_cmap_Shard_Do (fu : Nat) (p0 : I_cmap_Shard) (p1 : Int) (p2 : Int) (p3 : Int) : Option (api_Res × I_cmap_Shard) :=
  match p0 with
  | .inl x => (book_Book_Do fu x p1 p2 p3).bind fun q => some (q.1, (.inl q.2))
  | .inr x => (lru_LRU_Do fu x p1 p2 p3).bind fun q => some (q.1, (.inr q.2))
def cmap_Map_Do (fu : Nat) (p0 : cmap_Map) (p1 : Int) (p2 : Int) (p3 : Int) : Option (api_Res × cmap_Map) :=
  (place_Of p2 ((p0.shards).length : Int)).bind fun r36 =>
  (idx p0.shards r36).bind fun x40 =>
  (I_cmap_Shard_Do fu x40 p1 p2 p3).bind fun r50 =>
  some (r50.1, (cmap_Map.mk p0.def_ (p0.shards.set (Int.toNat r36) r50.2)))
def audit_maps_right (fu : Nat) (p0 : List cmap_Map) (p1 : api_Entry) : Option (Bool × (List cmap_Map)) :=
  if (p1.What != 3) then
    some (true, p0)
  else
    if (((decide (p1.Item.Map < 0) || decide (p1.Item.Map ≥ ((p0).length : Int))) || decide (p1.Item.Op < 0)) || decide (p1.Item.Op ≥ 5)) then
      some (false, p0)
    else
      (idx p0 p1.Item.Map).bind fun x39 =>
      (cmap_Map_Do fu x39 p1.Item.Op p1.Item.Key p1.Item.Val).bind fun r50 =>
      some (((r50.1.E == p1.Res.E) && ((r50.1.Found == p1.Res.Found) && ((r50.1.Val == p1.Res.Val) && ((r50.1.Out == p1.Res.Out) && ((r50.1.OutKey == p1.Res.OutKey) && ((r50.1.OutVal == p1.Res.OutVal) && true)))))), (p0.set (Int.toNat p1.Item.Map) r50.2))
def audit_calls_apply (p0 : audit_calls) (p1 : api_Entry) : Option (Bool × audit_calls) :=
  if (p1.Event == 0) then
    some (((mget p0.open_ p1.From).isSome && (((mget p0.open_ p1.From).getD 0) == p1.Cmd)), p0)
  else
    (if (!(mget p0.asks p1.From).isSome) then
      some true
    else
      (mget p0.asks p1.From).bind fun y64 =>
      if y64.done then
        some true
      else
        if (y64.Entry.Event != p1.Event) then
          some true
        else
          if (!((y64.Entry.Item.Map == p1.Item.Map) && ((y64.Entry.Item.Op == p1.Item.Op) && ((y64.Entry.Item.Key == p1.Item.Key) && ((y64.Entry.Item.Val == p1.Item.Val) && true))))) then
            some true
          else
            if (p1.Cmd != 0) then
              some true
            else
              some (p1.Tag != 0)).bind fun o59 =>
    if o59 then
      some (false, p0)
    else
      (mget p0.asks p1.From).bind fun y83 =>
      some (true, (audit_calls.mk p0.open_ p0.count (mset p0.asks p1.From (audit_ask.mk y83.Entry true p1.Res))))
def audit_calls_right (p0 : audit_calls) (p1 : api_Entry) : Option (Bool × audit_calls) :=
  if (p1.What == 1) then
    (if (mget p0.open_ p1.Task).isSome then
      some true
    else
      some (p1.Cmd != ((mget p0.count p1.Task).getD 0))).bind fun o44 =>
    if o44 then
      some (false, p0)
    else
      some (true, (audit_calls.mk (mput p0.open_ p1.Task p1.Cmd) (mput p0.count p1.Task (w64 (((mget p0.count p1.Task).getD 0) + 1))) p0.asks))
  else
    if (p1.What == 2) then
      if ((!(mget p0.open_ p1.Task).isSome) || (((mget p0.open_ p1.Task).getD 0) != p1.Cmd)) then
        some (false, p0)
      else
        some (true, (audit_calls.mk (mdel p0.open_ p1.Task) p0.count p0.asks))
    else
      if (p1.What == 16) then
        if ((mget p0.asks p1.Task).isSome || (p1.Event == 0)) then
          some (false, p0)
        else
          some (true, (audit_calls.mk p0.open_ p0.count (mput p0.asks p1.Task (audit_ask.mk p1 false (api_Res.mk 0 false 0 false 0 0)))))
      else
        if (p1.What == 3) then
          (audit_calls_apply p0 p1).bind fun r118 =>
          some (r118.1, r118.2)
        else
          if (p1.What == 17) then
            (if (!(mget p0.asks p1.Task).isSome) then
              some true
            else
              (mget p0.asks p1.Task).bind fun y159 =>
              if (!y159.done) then
                some true
              else
                if (!((y159.res.E == p1.Res.E) && ((y159.res.Found == p1.Res.Found) && ((y159.res.Val == p1.Res.Val) && ((y159.res.Out == p1.Res.Out) && ((y159.res.OutKey == p1.Res.OutKey) && ((y159.res.OutVal == p1.Res.OutVal) && true))))))) then
                  some true
                else
                  if (y159.Entry.Event != p1.Event) then
                    some true
                  else
                    if (y159.Entry.Prog != p1.Prog) then
                      some true
                    else
                      if (y159.Entry.Version != p1.Version) then
                        some true
                      else
                        some (y159.Entry.Pc != p1.Pc)).bind fun o152 =>
            if o152 then
              some (false, p0)
            else
              some (true, (audit_calls.mk p0.open_ p0.count (mdel p0.asks p1.Task)))
          else
            some (true, p0)
def audit_events_right (p0 : audit_events) (p1 : api_Entry) : Option (Bool × audit_events) :=
  if (p1.What == 4) then
    if ((p1.Event != (w64 (p0.count + 1))) || decide (((((mget p0.wait p1.Hook).getD [])).length : Int) ≥ p0.room)) then
      some (false, (audit_events.mk p0.room (w64 (p0.count + 1)) p0.wait))
    else
      (room (((mget p0.wait p1.Hook).getD []).length + ([p1.Event]).length) 8).bind fun u58 =>
      some (true, (audit_events.mk p0.room (w64 (p0.count + 1)) (mput p0.wait p1.Hook (((mget p0.wait p1.Hook).getD []) ++ [p1.Event]))))
  else
    (if (p1.What == 5) then
      some (p1.What == 5)
    else
      some (p1.What == 10)).bind fun o69 =>
    if o69 then
      (if (((((mget p0.wait p1.Hook).getD [])).length : Int) == 0) then
        some true
      else
        (idx ((mget p0.wait p1.Hook).getD []) 0).bind fun x89 =>
        some (x89 != p1.Event)).bind fun o84 =>
      if o84 then
        some (false, p0)
      else
        (cut ((mget p0.wait p1.Hook).getD []) 1 (((mget p0.wait p1.Hook).getD []).length : Int)).bind fun ys106 =>
        some (true, (audit_events.mk p0.room p0.count (mput p0.wait p1.Hook ys106)))
    else
      some (true, p0)
def audit_runs_publish (p0 : audit_runs) (p1 : api_Entry) : Option (Bool × audit_runs) :=
  (if (p1.Version != 0) then
    if decide ((p0.at_.length : Int) > 0) then
      some (decide (p1.Version ≤ p0.last))
    else
      some false
  else
    some false).bind fun o22 =>
  if o22 then
    some (false, p0)
  else
    (if ((p0.at_.length : Int) == 0) then
      some true
    else
      some (decide (p1.Version > p0.last))).bind fun o46 =>
    (if o46 then
      some (audit_runs.mk p0.at_ p0.in_ p1.Version)
    else
      some p0).bind fun o64 =>
    some (true, (audit_runs.mk (mput o64.at_ p1.Hook p1) o64.in_ o64.last))
def audit_runs_same (p0 : audit_runs) (p1 : api_Entry) : Option Bool :=
  some ((((mget p0.in_ p1.Task).isSome && (((mget p0.in_ p1.Task).getD (api_Entry.mk 0 0 0 0 0 0 0 0 0 0 (api_Item.mk 0 0 0 0) (api_Res.mk 0 false 0 false 0 0) 0 0)).Event == p1.Event)) && (((mget p0.in_ p1.Task).getD (api_Entry.mk 0 0 0 0 0 0 0 0 0 0 (api_Item.mk 0 0 0 0) (api_Res.mk 0 false 0 false 0 0) 0 0)).Prog == p1.Prog)) && (((mget p0.in_ p1.Task).getD (api_Entry.mk 0 0 0 0 0 0 0 0 0 0 (api_Item.mk 0 0 0 0) (api_Res.mk 0 false 0 false 0 0) 0 0)).Version == p1.Version))
def audit_runs_right (p0 : audit_runs) (p1 : api_Entry) : Option (Bool × audit_runs) :=
  if (p1.What == 11) then
    (audit_runs_publish p0 p1).bind fun r40 =>
    some (r40.1, r40.2)
  else
    if (p1.What == 6) then
      if ((((mget p0.in_ p1.Task).isSome || (p1.Version == 0)) || (((mget p0.at_ p1.Hook).getD (api_Entry.mk 0 0 0 0 0 0 0 0 0 0 (api_Item.mk 0 0 0 0) (api_Res.mk 0 false 0 false 0 0) 0 0)).Version != p1.Version)) || (((mget p0.at_ p1.Hook).getD (api_Entry.mk 0 0 0 0 0 0 0 0 0 0 (api_Item.mk 0 0 0 0) (api_Res.mk 0 false 0 false 0 0) 0 0)).Prog != p1.Prog)) then
        some (false, p0)
      else
        some (true, (audit_runs.mk p0.at_ (mput p0.in_ p1.Task p1) p0.last))
    else
      (if (p1.What == 7) then
        some (p1.What == 7)
      else
        if (p1.What == 8) then
          some (p1.What == 8)
        else
          if (p1.What == 16) then
            some (p1.What == 16)
          else
            some (p1.What == 17)).bind fun o66 =>
      if o66 then
        (audit_runs_same p0 p1).bind fun r81 =>
        some (r81, p0)
      else
        if (p1.What == 9) then
          if (p1.Version == 0) then
            some ((((!(mget p0.in_ p1.Task).isSome) && (p1.Prog == 0)) && (((mget p0.at_ p1.Hook).getD (api_Entry.mk 0 0 0 0 0 0 0 0 0 0 (api_Item.mk 0 0 0 0) (api_Res.mk 0 false 0 false 0 0) 0 0)).Version == 0)), p0)
          else
            ((audit_runs_same p0 p1).bind fun r104 =>
            if (!r104) then
              some true
            else
              some (((mget p0.in_ p1.Task).getD (api_Entry.mk 0 0 0 0 0 0 0 0 0 0 (api_Item.mk 0 0 0 0) (api_Res.mk 0 false 0 false 0 0) 0 0)).Hook != p1.Hook)).bind fun o102 =>
            if o102 then
              some (false, p0)
            else
              some (true, (audit_runs.mk p0.at_ (mdel p0.in_ p1.Task) p0.last))
        else
          some (true, p0)
def slices_Index_int_int_l1 (p0 : List Int) (p1 : Int) (i87 : Nat) (again : Unit → Option (Unit ⊕ Int)) (s86 : Unit) : Option (Unit ⊕ Int) :=
  (idx p0 (i87 : Int)).bind fun x96 =>
  if (p1 == x96) then
    some (.inr (i87 : Int))
  else
    again ()
def slices_Index_int_int (p0 : List Int) (p1 : Int) : Option Int :=
  (forN (slices_Index_int_int_l1 p0 p1) (fun (s86 : Unit) => (.inl ())) (p0).length 0 ()).bind fun o52 => match o52 with
    | .inl t54 =>
      some (-1)
    | .inr r => some r
def slices_Contains_int_int (p0 : List Int) (p1 : Int) : Option Bool :=
  (slices_Index_int_int p0 p1).bind fun r8 =>
  some (decide (r8 ≥ 0))
def audit_grace_known (p0 : audit_grace) (p1 : Int) : Option Bool :=
  ((slices_Contains_int_int p0.loaded p1).bind fun r33 =>
  if r33 then
    (slices_Contains_int_int p0.retired p1).bind fun r38 =>
    some (!r38)
  else
    some false).bind fun o31 =>
  some o31
def audit_grace_right_b1 (p0 : audit_grace) (p1 : api_Entry) (e : Int × Int) (s160 : Unit) : Option (Unit ⊕ (Bool × audit_grace)) :=
  let k174 := e.1
  let x176 := e.2
  if (x176 == p1.Prog) then
    some (.inr (false, p0))
  else
    some (.inl ())
def audit_grace_right_f1 (p0 : audit_grace) (p1 : api_Entry) (s160 : Unit) : Option (Bool × audit_grace) :=
  (audit_grace_known p0 p1.Prog).bind fun r192 =>
  if (!r192) then
    some (false, p0)
  else
    (room (p0.retired.length + ([p1.Prog]).length) 8).bind fun u227 =>
    some (true, (audit_grace.mk p0.loaded (p0.retired ++ [p1.Prog]) p0.in_))
def audit_grace_right (p0 : audit_grace) (p1 : api_Entry) : Option (Bool × audit_grace) :=
  if (p1.What == 12) then
    (slices_Contains_int_int p0.loaded p1.Prog).bind fun r28 =>
    if r28 then
      some (false, p0)
    else
      (room (p0.loaded.length + ([p1.Prog]).length) 8).bind fun u50 =>
      some (true, (audit_grace.mk (p0.loaded ++ [p1.Prog]) p0.retired p0.in_))
  else
    if (p1.What == 13) then
      rangeF (audit_grace_right_b1 p0 p1) (audit_grace_right_f1 p0 p1) p0.in_ ()
    else
      if (p1.What == 11) then
        (if (p1.Version == 0) then
          some true
        else
          (audit_grace_known p0 p1.Prog).bind fun r253 =>
          some r253).bind fun o250 =>
        some (o250, p0)
      else
        if (p1.What == 6) then
          (audit_grace_known (audit_grace.mk p0.loaded p0.retired (mput p0.in_ p1.Task p1.Prog)) p1.Prog).bind fun r285 =>
          some (r285, (audit_grace.mk p0.loaded p0.retired (mput p0.in_ p1.Task p1.Prog)))
        else
          (if (p1.What == 7) then
            some (p1.What == 7)
          else
            if (p1.What == 8) then
              some (p1.What == 8)
            else
              if (p1.What == 16) then
                some (p1.What == 16)
              else
                some (p1.What == 17)).bind fun o293 =>
          if o293 then
            (audit_grace_known p0 p1.Prog).bind fun r304 =>
            some (r304, p0)
          else
            if (p1.What == 9) then
              (if (p1.Version == 0) then
                some true
              else
                (audit_grace_known (audit_grace.mk p0.loaded p0.retired (mdel p0.in_ p1.Task)) p1.Prog).bind fun r343 =>
                some r343).bind fun o338 =>
              some (o338, (audit_grace.mk p0.loaded p0.retired (mdel p0.in_ p1.Task)))
            else
              some (true, p0)
def I_audit_rule_right (fu : Nat) (p0 : I_audit_rule) (p1 : api_Entry) : Option (Bool × I_audit_rule) :=
  match p0 with
  | .inl x => (audit_maps_right fu x p1).bind fun q => some (q.1, (.inl q.2))
  | .inr (.inl x) => (audit_calls_right x p1).bind fun q => some (q.1, (.inr (.inl q.2)))
  | .inr (.inr (.inl x)) => (audit_events_right x p1).bind fun q => some (q.1, (.inr (.inr (.inl q.2))))
  | .inr (.inr (.inr (.inl x))) => (audit_runs_right x p1).bind fun q => some (q.1, (.inr (.inr (.inr (.inl q.2)))))
  | .inr (.inr (.inr (.inr x))) => (audit_grace_right x p1).bind fun q => some (q.1, (.inr (.inr (.inr (.inr q.2)))))
def audit_first_l2 (fu : Nat) (i1453 : Nat) (x1468 : api_Entry) (i1693 : Nat) (again : (List I_audit_rule) → Option ((List I_audit_rule) ⊕ Int)) (s1690 : (List I_audit_rule)) : Option ((List I_audit_rule) ⊕ Int) :=
  (idx s1690 (i1693 : Int)).bind fun x1709 =>
  (I_audit_rule_right fu x1709 x1468).bind fun r1724 =>
  if (!r1724.1) then
    some (.inr (i1453 : Int))
  else
    again (s1690.set (Int.toNat (i1693 : Int)) r1724.2)
def audit_first_l1 (fu : Nat) (p0 : List api_Entry) (i1453 : Nat) (again : (List I_audit_rule) → Option ((List I_audit_rule) ⊕ Int)) (s1450 : (List I_audit_rule)) : Option ((List I_audit_rule) ⊕ Int) :=
  (idx p0 (i1453 : Int)).bind fun x1468 =>
  (forN (audit_first_l2 fu i1453 x1468) (fun (s1690 : (List I_audit_rule)) => (.inl s1690)) (s1450).length 0 s1450).bind fun o1604 => match o1604 with
    | .inl t1606 =>
      again t1606
    | .inr r => some (.inr r)
def audit_first (fu : Nat) (p0 : List api_Entry) (p1 : List I_audit_rule) : Option Int :=
  (forN (audit_first_l1 fu p0) (fun (s1450 : (List I_audit_rule)) => (.inl s1450)) (p0).length 0 p1).bind fun o872 => match o872 with
    | .inl t874 =>
      some (-1)
    | .inr r => some r
def audit_Maps (fu : Nat) (p0 : api_Config) (p1 : List api_Entry) : Option (Int × Int) :=
  (audit_newMaps fu p0).bind fun r19 =>
  if (r19.2 != 0) then
    some (0, r19.2)
  else
    (audit_first fu p1 ([(.inl r19.1)])).bind fun r38 =>
    some (r38, 0)
def audit_newCalls  : Option audit_calls :=
  some (audit_calls.mk ([] : List (Int × Int)) ([] : List (Int × Int)) ([] : List (Int × audit_ask)))
def audit_newRuns  : Option audit_runs :=
  some (audit_runs.mk ([] : List (Int × api_Entry)) ([] : List (Int × api_Entry)) 0)
def audit_newGrace  : Option audit_grace :=
  some (audit_grace.mk ([] : List Int) ([] : List Int) ([] : List (Int × Int)))
def audit_newEvents (p0 : Int) : Option audit_events :=
  some (audit_events.mk p0 0 ([] : List (Int × (List Int))))
def audit_All (fu : Nat) (p0 : api_Config) (p1 : List api_Entry) : Option (Int × Int) :=
  (audit_newMaps fu p0).bind fun r19 =>
  if (r19.2 != 0) then
    some (0, r19.2)
  else
    audit_newCalls.bind fun r69 =>
    audit_newRuns.bind fun r76 =>
    audit_newGrace.bind fun r83 =>
    (audit_newEvents p0.Ring).bind fun r90 =>
    (audit_first fu p1 ([(.inl r19.1), (.inr (.inl r69)), (.inr (.inr (.inr (.inl r76)))), (.inr (.inr (.inr (.inr r83)))), (.inr (.inr (.inl r90)))])).bind fun r100 =>
    some (r100, 0)
def audit_Calls (fu : Nat) (p0 : List api_Entry) : Option Int :=
  audit_newCalls.bind fun r18 =>
  (audit_first fu p0 ([(.inr (.inl r18))])).bind fun r28 =>
  some r28
def tappetlaw27_awake (fu : Nat)  : Option Bool :=
  (tappetlaw27_one.bind fun r81 =>
  (audit_Maps fu r81 ([(api_Entry.mk 3 2 0 0 0 0 0 0 0 0 (api_Item.mk 0 2 3 9) (api_Res.mk 0 false 0 false 0 0) 0 0), (api_Entry.mk 3 2 0 0 0 0 0 0 0 0 (api_Item.mk 0 2 3 9) (api_Res.mk 0 false 0 false 0 0) 0 0)])).bind fun r110 =>
  some (r110.1, r110.2)).bind fun o77 =>
  (tappetlaw27_one.bind fun r221 =>
  (audit_All fu r221 ([(api_Entry.mk 1 0 0 0 0 0 0 0 0 0 (api_Item.mk 0 0 0 0) (api_Res.mk 0 false 0 false 0 0) 0 0), (api_Entry.mk 3 2 0 0 0 0 0 0 0 0 (api_Item.mk 0 2 3 9) (api_Res.mk 0 false 0 false 0 0) 0 0), (api_Entry.mk 2 0 0 0 0 0 0 0 0 0 (api_Item.mk 0 0 0 0) (api_Res.mk 0 false 0 false 0 0) 0 0)])).bind fun r250 =>
  some (r250.1, r250.2)).bind fun o217 =>
  (if (o77.1 == 1) then
    if (o77.2 == 0) then
      if (o217.1 == (-1)) then
        if (o217.2 == 0) then
          (audit_Calls fu ([(api_Entry.mk 3 2 0 0 0 0 0 0 0 0 (api_Item.mk 0 2 3 9) (api_Res.mk 0 false 0 false 0 0) 0 0)])).bind fun r305 =>
          some (r305 == 0)
        else
          some false
      else
        some false
    else
      some false
  else
    some false).bind fun o297 =>
  some o297
def tappetlaw27_cut (p0 : List api_Entry) : Option (List api_Entry) :=
  (cut p0 0 (imin ((p0).length : Int) 1500)).bind fun ys18 =>
  (room (([] : List api_Entry).length + ys18.length) 176).bind fun u21 =>
  some (([] : List api_Entry) ++ ys18)
def tappetref27_last_l1 (p0 : List api_Entry) (p2 : Int) (p3 : Int) (p4 : Int) (again : Int → Option (Unit ⊕ Int)) (s264 : Int) : Option (Unit ⊕ Int) :=
  if decide (s264 ≥ 0) then
    ((idx p0 s264).bind fun x294 =>
    if (x294.What == p2) then
      some (x294.Task == p4)
    else
      if (x294.What == p3) then
        some (x294.Task == p4)
      else
        some false).bind fun o292 =>
    if o292 then
      some (.inr s264)
    else
      again (w64 (s264 - 1))
  else
    some (.inl ())
def tappetref27_last (fu : Nat) (p0 : List api_Entry) (p1 : Int) (p2 : Int) (p3 : Int) (p4 : Int) : Option Int :=
  (loop (tappetref27_last_l1 p0 p2 p3 p4) fu (w64 (p1 - 1))).bind fun o158 => match o158 with
    | .inl t160 =>
      some (-1)
    | .inr r => some r
def tappetref27_open (fu : Nat) (p0 : List api_Entry) (p1 : Int) (p2 : Int) (p3 : Int) (p4 : Int) : Option Int :=
  (tappetref27_last fu p0 p1 p2 p3 p4).bind fun r8 =>
  (if decide (r8 ≥ 0) then
    (idx p0 r8).bind fun x22 =>
    some (x22.What == p2)
  else
    some false).bind fun o19 =>
  if o19 then
    some r8
  else
    some (-1)
def tappetref27_applied_l1 (p0 : List api_Entry) (p2 : Int) (p3 : Int) (p4 : Int) (again : Int → Option (Unit ⊕ Int)) (s224 : Int) : Option (Unit ⊕ Int) :=
  if decide (s224 < p2) then
    ((idx p0 s224).bind fun x250 =>
    if (x250.What == 3) then
      if (x250.From == p3) then
        some (x250.Event == p4)
      else
        some false
    else
      some false).bind fun o248 =>
    if o248 then
      some (.inr s224)
    else
      again (w64 (s224 + 1))
  else
    some (.inl ())
def tappetref27_applied (fu : Nat) (p0 : List api_Entry) (p1 : Int) (p2 : Int) (p3 : Int) (p4 : Int) : Option Int :=
  (loop (tappetref27_applied_l1 p0 p2 p3 p4) fu (w64 (p1 + 1))).bind fun o134 => match o134 with
    | .inl t136 =>
      some (-1)
    | .inr r => some r
def tappetref27_Calls_l2 (p0 : List api_Entry) (x2818 : api_Entry) (i3408 : Nat) (again : Int → Option Int) (s3407 : Int) : Option Int :=
  ((idx p0 (i3408 : Int)).bind fun x3438 =>
  if (x3438.What == 1) then
    some (x3438.Task == x2818.Task)
  else
    some false).bind fun o3434 =>
  if o3434 then
    again (w64 (s3407 + 1))
  else
    again s3407
def tappetref27_Calls_l1 (fu : Nat) (p0 : List api_Entry) (i2806 : Nat) (again : Unit → Option (Unit ⊕ Int)) (s2805 : Unit) : Option (Unit ⊕ Int) :=
  (idx p0 (i2806 : Int)).bind fun x2818 =>
  (tappetref27_open fu p0 (i2806 : Int) 1 2 x2818.Task).bind fun r2831 =>
  (tappetref27_open fu p0 (i2806 : Int) 16 17 x2818.Task).bind fun r2839 =>
  ((if (x2818.What == 1) then
    ((room i2806 1).bind fun u3410 =>
    forN (tappetref27_Calls_l2 p0 x2818) (fun (s3407 : Int) => s3407) i2806 0 0).bind fun o3326 =>
    if decide (r2831 ≥ 0) then
      some (.inl true)
    else
      some (.inl (x2818.Cmd != o3326))
  else
    if (x2818.What == 2) then
      if decide (r2831 < 0) then
        some (.inl true)
      else
        (idx p0 r2831).bind fun x3457 =>
        some (.inl (x3457.Cmd != x2818.Cmd))
    else
      if (x2818.What == 16) then
        if decide (r2839 ≥ 0) then
          some (.inl true)
        else
          some (.inl (x2818.Event == 0))
      else
        if (x2818.What == 3) then
          (tappetref27_open fu p0 (i2806 : Int) 1 2 x2818.From).bind fun r3470 =>
          (tappetref27_open fu p0 (i2806 : Int) 16 17 x2818.From).bind fun r3478 =>
          if (x2818.Event == 0) then
            if decide (r3470 < 0) then
              some (.inl true)
            else
              (idx p0 r3470).bind fun x3488 =>
              some (.inl (x3488.Cmd != x2818.Cmd))
          else
            if decide (r3478 < 0) then
              some (.inl true)
            else
              if (x2818.Cmd != 0) then
                some (.inl true)
              else
                if (x2818.Tag != 0) then
                  some (.inl true)
                else
                  (idx p0 r3478).bind fun x3501 =>
                  if (x3501.Event != x2818.Event) then
                    some (.inl true)
                  else
                    if (!((x3501.Item.Map == x2818.Item.Map) && ((x3501.Item.Op == x2818.Item.Op) && ((x3501.Item.Key == x2818.Item.Key) && ((x3501.Item.Val == x2818.Item.Val) && true))))) then
                      some (.inl true)
                    else
                      (tappetref27_applied fu p0 r3478 (i2806 : Int) x2818.From x2818.Event).bind fun r3513 =>
                      some (.inl (decide (r3513 ≥ 0)))
        else
          if (x2818.What == 17) then
            if decide (r2839 < 0) then
              some (.inr (i2806 : Int))
            else
              (tappetref27_applied fu p0 r2839 (i2806 : Int) x2818.Task x2818.Event).bind fun r3523 =>
              (idx p0 r2839).bind fun x3536 =>
              if decide (r3523 < 0) then
                some (.inl true)
              else
                (idx p0 r3523).bind fun x3550 =>
                if (!((x3550.Res.E == x2818.Res.E) && ((x3550.Res.Found == x2818.Res.Found) && ((x3550.Res.Val == x2818.Res.Val) && ((x3550.Res.Out == x2818.Res.Out) && ((x3550.Res.OutKey == x2818.Res.OutKey) && ((x3550.Res.OutVal == x2818.Res.OutVal) && true))))))) then
                  some (.inl true)
                else
                  if (x3536.Event != x2818.Event) then
                    some (.inl true)
                  else
                    if (x3536.Prog != x2818.Prog) then
                      some (.inl true)
                    else
                      if (x3536.Version != x2818.Version) then
                        some (.inl true)
                      else
                        some (.inl (x3536.Pc != x2818.Pc))
          else
            some (.inl false)) : Option (Bool ⊕ Int)).bind fun o3200 => match o3200 with
    | .inl t3202 =>
      if t3202 then
        some (.inr (i2806 : Int))
      else
        again ()
    | .inr r => some (.inr r)
def tappetref27_Calls (fu : Nat) (p0 : List api_Entry) : Option Int :=
  (forN (tappetref27_Calls_l1 fu p0) (fun (s2805 : Unit) => (.inl ())) (p0).length 0 ()).bind fun o1781 => match o1781 with
    | .inl t1783 =>
      some (-1)
    | .inr r => some r
def audit_Events (fu : Nat) (p0 : Int) (p1 : List api_Entry) : Option Int :=
  (audit_newEvents p0).bind fun r18 =>
  (audit_first fu p1 ([(.inr (.inr (.inl r18)))])).bind fun r28 =>
  some r28
def tappetref27_Events_l2 (p1 : List api_Entry) (x2733 : api_Entry) (i3428 : Nat) (again : (Int × (List Int)) → Option (Int × (List Int))) (s3426 : Int × (List Int)) : Option (Int × (List Int)) :=
  (idx p1 (i3428 : Int)).bind fun x3442 =>
  (if (x3442.What == 4) then
    some (w64 (s3426.1 + 1))
  else
    some s3426.1).bind fun o3449 =>
  if (x3442.Hook != x2733.Hook) then
    again (o3449, s3426.2)
  else
    (if (x3442.What == 4) then
      (room (s3426.2.length + ([x3442.Event]).length) 8).bind fun u3524 =>
      some (s3426.2 ++ [x3442.Event])
    else
      some s3426.2).bind fun o3502 =>
    (if (x3442.What == 5) then
      some true
    else
      some (x3442.What == 10)).bind fun o3549 =>
    if o3549 then
      (cut o3502 1 (o3502.length : Int)).bind fun ys3563 =>
      again (o3449, ys3563)
    else
      again (o3449, o3502)
def tappetref27_Events_l1 (p0 : Int) (p1 : List api_Entry) (i2721 : Nat) (again : Unit → Option (Unit ⊕ Int)) (s2720 : Unit) : Option (Unit ⊕ Int) :=
  (idx p1 (i2721 : Int)).bind fun x2733 =>
  if (((x2733.What != 4) && (x2733.What != 5)) && (x2733.What != 10)) then
    again ()
  else
    ((room i2721 1).bind fun u3430 =>
    forN (tappetref27_Events_l2 p1 x2733) (fun (s3426 : Int × (List Int)) => (s3426.1, s3426.2)) i2721 0 (0, ([] : List Int))).bind fun o3155 =>
    if ((x2733.What == 4) && ((x2733.Event != (w64 (o3155.1 + 1))) || decide (((o3155.2).length : Int) ≥ p0))) then
      some (.inr (i2721 : Int))
    else
      (if (x2733.What != 4) then
        if (((o3155.2).length : Int) == 0) then
          some true
        else
          (idx o3155.2 0).bind fun x3592 =>
          some (x3592 != x2733.Event)
      else
        some false).bind fun o3586 =>
      if o3586 then
        some (.inr (i2721 : Int))
      else
        again ()
def tappetref27_Events (fu : Nat) (p0 : Int) (p1 : List api_Entry) : Option Int :=
  (forN (tappetref27_Events_l1 p0 p1) (fun (s2720 : Unit) => (.inl ())) (p1).length 0 ()).bind fun o1800 => match o1800 with
    | .inl t1802 =>
      some (-1)
    | .inr r => some r
def tappetlaw27_AuditCalls (fu : Nat) (p0 : Int) (p1 : List api_Entry) : Option Bool :=
  (tappetlaw27_awake fu).bind fun r8 =>
  if (!r8) then
    some false
  else
    ((tappetlaw27_cut p1).bind fun r89 =>
    (audit_Calls fu r89).bind fun r97 =>
    (tappetlaw27_cut p1).bind fun r101 =>
    (tappetref27_Calls fu r101).bind fun r109 =>
    if (r97 == r109) then
      (tappetlaw27_cut p1).bind fun r114 =>
      (audit_Events fu p0 r114).bind fun r122 =>
      (tappetlaw27_cut p1).bind fun r126 =>
      (tappetref27_Events fu p0 r126).bind fun r134 =>
      some (r122 == r134)
    else
      some false).bind fun o87 =>
    some o87
end Go.Proofs.Ytpchniebplpboaa
