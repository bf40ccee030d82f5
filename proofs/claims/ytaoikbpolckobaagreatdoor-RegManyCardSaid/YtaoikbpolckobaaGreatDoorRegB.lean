/-
  The registry in general: a collation is added, found by its name; its names.
-/
import Derived.Test.YtaoikbpolckobaaGreatDoorRead
import Derived.Test.YtaoikbpolckobaaGreatDoorName
namespace Go.Proofs.YtaoikbpolckobaaGreatDoor
open Go.RowKit Go.Lib
set_option maxRecDepth 100000

/-- A name as a key. -/
def kN (s : ByteArray) : Value := .agg #[.string s]
theorem kN_inj {s t : ByteArray} (h : kN s = kN t) : s = t := by simpa [kN] using h
/-- A collation by a table. -/
def clV (k lv : Int) (sh bk : Bool) (p : Option Addr) : Value := .agg #[.int .i64 k, .int .i64 lv, .bool sh, .bool bk, .pointer p]
/-- A registry at block q: its map in block M holds these pairs. -/
structure RegsAt (w : World) (q M : Nat) (l : List (Value × Value)) : Prop where
  blk : Blk w q #[.map (some M)] 132
  map : GMap Tryz.prog 128 w M l
theorem RegsAt.ext {w w' : World} {q M : Nat} {l : List (Value × Value)} (h : RegsAt w q M l) (hx : Ext w w') : RegsAt w' q M l := ⟨h.blk.keep hx, h.map.keep hx⟩
theorem zeroColl : ∀ w, (zeroValue 56).run Tryz.prog w = .ok (.agg #[.int .i64 0, .int .i64 0, .bool false, .bool false, .pointer none]) w := fun _ => by kernel_rfl
def NameIs (w : World) (s m : ByteArray) : Prop := Calls Tryz.prog 41 #[.string s] w fun e w' => e = .returned (.tuple #[.string m, .bool true]) ∧ Below w.heap.size w w'
set_option maxHeartbeats 4000000 in
theorem add_ok (q M B : Nat) (l : List (Value × Value)) (s m : ByteArray) (lv : Int) (sh : Bool) (w : World) (hB : B ≤ M) (hBw : B ≤ w.heap.size) (hR : RegsAt w q M l) (hN : NameIs w s m) (hnew : ∀ p ∈ l, p.1 ≠ kN m) (hm : m.size ≤ maxLen)
    (h1 : 1 ≤ lv) (h3 : lv ≤ 3) (hlen : l.length ≤ 10) :
    Calls Tryz.prog 32 #[.pointer (some ⟨q, 0, none⟩), .string s, .string ⟨#[]⟩, .int .i64 lv, .bool sh, .bool false] w fun e w' =>
      e = .returned (.tuple #[.int .i64 0, .int .i64 0]) ∧ (∃ p, RegsAt w' q M (l ++ [(kN m, clV 3 lv sh false (some ⟨p, 0, none⟩))])) ∧ Below B w w' := by
  have HR := Lib.hid hR
  have HNm := Lib.hid hN
  have HNew := Lib.hid hnew
  have HK := Lib.hid (keyName m hm)
  have d1 : decide (lv < 1) = false := by simp; omega
  have d3 : decide (3 < lv) = false := by simp; omega
  have dl : decide (11 ≤ ((l.length : Nat) : Int)) = false := by simp; omega
  generalize hll : l.length = n at dl
  have HLL := Lib.hid hll
  clear hR hN hnew hll hlen
  go_enter Tryz.func32, Tryz.ntmps32
  go_wp2_with fail
  refine HNm.out.mono ?_
  rintro e w2 ⟨rfl, hb2⟩
  have HB2 := Lib.hid hb2
  have HR2 := Lib.hid (HR.out.ext hb2)
  have hql := HR2.out.blk.lt
  obtain ⟨cq, fq⟩ := HR2.out.blk.facts
  clear hb2
  go_simp
  go_wp2_with (first
    | (at_lookup; refine wpList_look rfl _ _ _ _ rfl M (.tuple #[.agg #[.int .i64 0, .int .i64 0, .bool false, .bool false, .pointer none], .bool false]) rfl (HR2.out.map.run_miss keyedName Tryz.underlying130 zeroColl HK.out HNew.out true) ?_)
    | (refine wpList_glen rfl _ _ rfl _ _ Tryz.underlying130 M l n rfl (HR2.out.map.alloc _) HLL.out ?_))
  refine (read_none _).mono ?_
  rintro e w3 ⟨p, rfl, _, _, hb3⟩
  have hx3 : Ext w2 w3 := Below.trans ((Ext.refl w2).alloc _) (hb3.mono (by simp))
  have HR3 := Lib.hid (HR2.out.ext hx3)
  have HB3 : Hid (Below w.heap.size w w3) := Lib.hid (HB2.out.trans (hx3.mono HB2.out.size))
  have hql3 := HR3.out.blk.lt
  obtain ⟨cq3, fq3⟩ := HR3.out.blk.facts
  clear cq fq hb3 hx3
  have HP := Lib.hid (show ∀ w', GMap Tryz.prog 128 w' M (l ++ [(kN m, clV 3 lv sh false (some ⟨p, 0, none⟩))]) → w3.grownBy w' (some M) →
      (∃ p, RegsAt w' q M (l ++ [(kN m, clV 3 lv sh false (some ⟨p, 0, none⟩))])) ∧ Below B w w' from
    fun w' g1 g2 => ⟨⟨p, blk_grownM HR3.out.blk g2 HR3.out.map.nocells, g1⟩, (HB3.out.mono hBw).grown g2 (Nat.le_trans hBw HB3.out.size) (fun k hk => by cases hk; exact hB)⟩)
  go_simp
  go_wp2_with (at_mapUpdate; refine wpList_gput rfl _ _ _ _ rfl _ _ keyedName Tryz.underlying130 M l rfl HR3.out.map HK.out HNew.out ?_; intro w4 g1 g2 g3)
  go_ret2
  obtain ⟨h1, h2⟩ := HP.out _ g1 g2
  exact ⟨rfl, h1, h2⟩
set_option maxHeartbeats 4000000 in
theorem add_full (q M : Nat) (l : List (Value × Value)) (s m : ByteArray) (lv : Int) (sh : Bool) (w : World) (hR : RegsAt w q M l) (hN : NameIs w s m) (hnew : ∀ p ∈ l, p.1 ≠ kN m) (hm : m.size ≤ maxLen)
    (hlen : l.length = 11) :
    Calls Tryz.prog 32 #[.pointer (some ⟨q, 0, none⟩), .string s, .string ⟨#[]⟩, .int .i64 lv, .bool sh, .bool false] w fun e w' =>
      e = .returned (.tuple #[.int .i64 0, .int .i64 65]) ∧ Below w.heap.size w w' := by
  have HR := Lib.hid hR
  have HNm := Lib.hid hN
  have HNew := Lib.hid hnew
  have HK := Lib.hid (keyName m hm)
  have HLL := Lib.hid hlen
  clear hR hN hnew hlen
  go_enter Tryz.func32, Tryz.ntmps32
  go_wp2_with fail
  refine HNm.out.mono ?_
  rintro e w2 ⟨rfl, hb2⟩
  have HB2 := Lib.hid hb2
  have HR2 := Lib.hid (HR.out.ext hb2)
  have hql := HR2.out.blk.lt
  obtain ⟨cq, fq⟩ := HR2.out.blk.facts
  clear hb2
  go_simp
  go_wp2_with (first
    | (at_lookup; refine wpList_look rfl _ _ _ _ rfl M (.tuple #[.agg #[.int .i64 0, .int .i64 0, .bool false, .bool false, .pointer none], .bool false]) rfl (HR2.out.map.run_miss keyedName Tryz.underlying130 zeroColl HK.out HNew.out true) ?_)
    | (refine wpList_glen rfl _ _ rfl _ _ Tryz.underlying130 M l 11 rfl (HR2.out.map.alloc _) HLL.out ?_))
  go_ret2
  exact ⟨rfl, HB2.out.alloc HB2.out.size _⟩
end Go.Proofs.YtaoikbpolckobaaGreatDoor
