/-
  What two texts bring together is what the document says.
-/
import Derived.Test.YtaoikbpolckobaaGreatDoorBindJ
namespace Go.Proofs.YtaoikbpolckobaaGreatDoor
open Go.RowKit
set_option maxRecDepth 100000

def cD (r : Int) (s : ByteArray) (r' : Int) (s' : ByteArray) : Int × ByteArray × Int :=
  match combF r s r' s' with
  | none => (0, ⟨#[]⟩, 13)
  | some d => (d.1, d.2, 0)
theorem combR_eq (r : Int) (s : ByteArray) (r' : Int) (s' : ByteArray) : combR r s r' s' = .tuple #[.agg #[.int .i64 (cD r s r' s').1, .string (cD r s r' s').2.1], .int .i64 (cD r s r' s').2.2] := by
  unfold cD
  cases h : combF r s r' s' with
  | none => rw [combR_none h]
  | some d => rw [combR_some h]
set_option maxHeartbeats 16000000 in
theorem law_combines (r : Int) (s : ByteArray) (r' : Int) (s' : ByteArray) (w : World) :
    Calls Tryz.prog 4 #[dV r s, dV r' s'] w fun e w' => e = .returned (.bool true) ∧ Below w.heap.size w w' := by
  rw [show dV r s = .agg #[.int .i64 r, .string s] from rfl, show dV r' s' = .agg #[.int .i64 r', .string s'] from rfl]
  go_enter Tryz.func4, Tryz.ntmps4
  have hA : Blk ((w.alloc (.cells #[.int .i64 r, .string s] 34)).alloc (.cells #[.int .i64 r', .string s'] 34)) w.heap.size #[.int .i64 r, .string s] 34 := (Blk.new w #[.int .i64 r, .string s] 34 rfl).alloc _
  have hB : Blk ((w.alloc (.cells #[.int .i64 r, .string s] 34)).alloc (.cells #[.int .i64 r', .string s'] 34)) (w.heap.size + 1) #[.int .i64 r', .string s'] 34 := Blk.new (w.alloc (.cells #[.int .i64 r, .string s] 34)) #[.int .i64 r', .string s'] 34 (by simp)
  have hb0 : Below w.heap.size w ((w.alloc (.cells #[.int .i64 r, .string s] 34)).alloc (.cells #[.int .i64 r', .string s'] 34)) := by go_grown
  have HX0 := Lib.hid hb0
  have HA := Lib.hid hA
  have HB := Lib.hid hB
  clear hA hB hb0
  go_wp2_with fail
  all_goals try subst_vars
  all_goals first
    | (refine (awake_any _).mono ?_
       rintro e w2 ⟨rfl, hb2⟩
       have HX2 : Hid (Below w.heap.size w w2) := Lib.hid (Below.trans HX0.out (hb2.mono HX0.out.size))
       clear hb2
       go_simp
       repeat (first | go_values | go_skip | go_guarded | go_step | go_upon)
       go_ret
       exact ⟨rfl, HX2.out⟩)
    | (refine (combine_any _ _ _ _ _).mono ?_
       rintro e w2 ⟨rfl, hb2⟩
       have HX2 : Hid (Below w.heap.size w w2) := Lib.hid (Below.trans HX0.out (hb2.mono HX0.out.size))
       have hA2 := HA.out.keep hb2
       have hB2 := HB.out.keep hb2
       have HA2 := Lib.hid hA2
       have HB2 := Lib.hid hB2
       obtain ⟨ca, fa⟩ := hA2.facts
       obtain ⟨cb, fb⟩ := hB2.facts
       have hla := hA2.lt
       have hlb := hB2.lt
       clear hb2 hA2 hB2
       rw [combR_eq]
       go_simp
       repeat (first | go_values | go_skip | go_guarded | go_step | go_upon)
       refine (refcombine_any _ _ _ _ _).mono ?_
       rintro e w3 ⟨rfl, hb3⟩
       have hC3 := Blk.keep (Blk.new w2 _ 34 rfl) hb3
       have HX3 : Hid (Below w.heap.size w w3) := Lib.hid (Below.trans (HX2.out.alloc HX2.out.size _) (hb3.mono (by have := HX2.out.size; simp; omega)))
       obtain ⟨cc, fc⟩ := hC3.facts
       have hlc := hC3.lt
       clear hb3 hC3 ca fa cb fb hla hlb
       rw [combR_eq]
       go_simp
       repeat (first | go_values | go_skip | go_guarded | go_step | go_upon)
       refine (awake_any _).mono ?_
       rintro e w4 ⟨rfl, hb4⟩
       have HX4 : Hid (Below w.heap.size w w4) := Lib.hid (Below.trans (HX3.out.alloc HX3.out.size _) (hb4.mono (by have := HX3.out.size; simp; omega)))
       clear hb4
       go_simp
       repeat (first | go_values | go_skip | go_guarded | go_step | go_upon)
       go_ret
       exact ⟨rfl, HX4.out⟩)
end Go.Proofs.YtaoikbpolckobaaGreatDoor
