/-
  A collation is found by its name.
-/
import Derived.Test.YtaoikbpolckobaaGreatDoorRegB
import Derived.Test.YtaoikbpolckobaaGreatDoorNameB
namespace Go.Proofs.YtaoikbpolckobaaGreatDoor
open Go.RowKit Go.Lib
set_option maxRecDepth 100000

set_option maxHeartbeats 4000000 in
theorem get_hit (q M : Nat) (l : List (Value × Value)) (s m : ByteArray) (k1 l1 : Int) (a1 b1 : Bool) (p1 : Option Addr) (w : World) (hR : RegsAt w q M l) (hN : ∀ W, Ext w W → NameIs W s m) (hm : (kN m, clV k1 l1 a1 b1 p1) ∈ l) :
    Calls Tryz.prog 33 #[.pointer (some ⟨q, 0, none⟩), .string s] w fun e w' => e = .returned (.tuple #[clV k1 l1 a1 b1 p1, .bool true]) ∧ Below w.heap.size w w' := by
  have HR := Lib.hid hR
  have HNm := Lib.hid hN
  have HMm := Lib.hid hm
  clear hR hN hm
  go_enter Tryz.func33, Tryz.ntmps33
  repeat (first | go_values | go_skip | go_guarded | go_step | go_upon)
  have hT0 : Blk (w.alloc (.cells #[.int .i64 0, .int .i64 0, .bool false, .bool false, .pointer none] 56)) w.heap.size #[.int .i64 0, .int .i64 0, .bool false, .bool false, .pointer none] 56 := Blk.new w _ _ rfl
  have hx0 : Ext w (w.alloc (.cells #[.int .i64 0, .int .i64 0, .bool false, .bool false, .pointer none] 56)) := (Ext.refl _).alloc _
  generalize (w.alloc (.cells #[.int .i64 0, .int .i64 0, .bool false, .bool false, .pointer none] 56)) = W0 at hT0 hx0 ⊢
  refine (HNm.out W0 hx0).mono ?_
  rintro e w2 ⟨rfl, hb2⟩
  have hT2 := hT0.keep hb2
  have HT2 := Lib.hid hT2
  have hR2 := HR.out.ext (Below.trans hx0 (hb2.mono hx0.size))
  have HX2 : Hid (Below w.heap.size w w2) := Lib.hid (Below.trans hx0 (hb2.mono hx0.size))
  have HL := Lib.hid hR2.map
  have hql := hR2.blk.lt
  obtain ⟨cq, fq⟩ := hR2.blk.facts
  obtain ⟨ct, ft⟩ := hT2.facts
  have hs2 := hT2.lt
  clear hT0 hx0 hb2 hT2 hR2
  go_simp
  go_wp2_with (at_lookup; refine wpList_look rfl _ _ _ _ rfl M (.tuple #[.agg #[.int .i64 k1, .int .i64 l1, .bool a1, .bool b1, .pointer p1], .bool true]) rfl (HL.out.run_hit keyedName Tryz.underlying130 HMm.out true) ?_)
  have hb := HX2.out
  refine bodyPost_ret (ret_coll2 rfl _ rfl rfl ((blk5 HT2.out _ _ _ _ _).alloc _)) rfl ?_
  exact ⟨rfl, by go_grown⟩

end Go.Proofs.YtaoikbpolckobaaGreatDoor
