import Derived.Test.YtcgbpmeadohbkaaGreatDoorEvalH
import Derived.Test.YtcgbpmeadohbkaaGreatDoorEvalR
import Derived.Test.YtcgbpmeadohbkaaGreatDoorReg
namespace Go.Proofs.YtcgbpmeadohbkaaGreatDoor
open Go.RowKit Go.Lib
set_option maxRecDepth 100000
theorem ndAt_two {w : World} {g : Nat} {x y : N6} (h : Blk w g #[.int .i64 x.k, .int .i64 x.o, .string x.s, .string x.t, .int .i64 x.n, .slice x.la x.ln x.lc, .int .i64 y.k, .int .i64 y.o, .string y.s, .string y.t, .int .i64 y.n, .slice y.la y.ln y.lc] 24) : NdAt w g [x, y] :=
 ⟨h.lt, fun i z hz => by
  have hi : i = 0 ∨ i = 1 := by have := (List.getElem?_eq_some_iff.1 hz).1; simp at this; omega
  rcases hi with rfl | rfl
  ·obtain rfl : x = z := by simpa using hz
   exact ⟨h.cell 0, h.cell 1, h.cell 2, h.cell 3, h.cell 4, h.cell 5⟩
  ·obtain rfl : y = z := by simpa using hz
   exact ⟨h.cell 6, h.cell 7, h.cell 8, h.cell 9, h.cell 10, h.cell 11⟩⟩
end Go.Proofs.YtcgbpmeadohbkaaGreatDoor
namespace Go.Proofs.YtcgbpmeadohbkaaGreatDoor
open Go.RowKit Go.Lib
set_option maxRecDepth 100000
theorem sh18 : tr3 (shT 18 0 0) = (1, 0, emp) := by
 simp [tr3, shT, andT, trK, trN]
set_option maxHeartbeats 16000000 in
theorem evalawake_any (w : World) : Calls Tryz.prog 11 #[] w fun e w' => e = .returned (.bool true) ∧ Below w.heap.size w w' := by
 have KR := Lib.hid (fun W => regnew_any W)
 have KC := Lib.hid (fun W g (hN : NdAt W g [numN (some 1), numN (some 0)]) => const_div ⟨#[]⟩ ⟨#[]⟩ 0 g 2 (numN (some 1)) (numN (some 0)) W hN (fun W2 _ => const_num _ _ _ _ W2) (fun W2 _ => const_num _ _ _ _ W2))
 have KS := Lib.hid (fun W g (hN : NdAt W g [numN (some 1), numN (some 0)]) => safe_div ⟨#[]⟩ ⟨#[]⟩ 0 g 2 (numN (some 1)) (numN (some 0)) W hN (fun W2 _ => safe_num _ _ _ _ W2) (fun W2 _ => safe_num _ _ _ _ W2))
 simp only [ndE] at KC KS
 go_enter Tryz.func11, Tryz.ntmps11
 go_wp2_with fail
 refine Calls.mono (KR.out _) ?_
 rintro e w1 ⟨q, rfl, _, _, hb⟩
 have HX1 := Lib.hid (show Ext w w1 from hb)
 clear hb
 go_simp
 repeat (first | go_values | go_skip | go_guarded | go_step | go_upon)
 have HA1 := Lib.hid (show Blk (((((w1.alloc (.cells #[.int .i64 2, .int .i64 0, .string ⟨#[]⟩, .string ⟨#[]⟩, .int .i64 1, .slice none 0 0, .int .i64 2, .int .i64 0, .string ⟨#[]⟩, .string ⟨#[]⟩, .int .i64 0, .slice none 0 0] 24)).alloc (.cells #[.int .i64 6, .int .i64 10, .string ⟨#[]⟩, .string ⟨#[]⟩, .int .i64 0, .slice (some ⟨w1.heap.size, 0, none⟩) 2 2] 24)).alloc (.cells #[.int .i64 6, .int .i64 10, .string ⟨#[]⟩, .string ⟨#[]⟩, .int .i64 0, .slice (some ⟨w1.heap.size, 0, none⟩) 2 2, .int .i64 2, .int .i64 0, .string ⟨#[]⟩, .string ⟨#[]⟩, .int .i64 1, .slice none 0 0] 24)).alloc (.cells #[.int .i64 6, .int .i64 1, .string ⟨#[]⟩, .string ⟨#[]⟩, .int .i64 0, .slice (some ⟨w1.heap.size + 1 + 1, 0, none⟩) 2 2] 24)).alloc (.cells #[.int .i64 1, .int .i64 0, .string ⟨#[]⟩, .string ⟨#[]⟩, .int .i64 0, .slice none 0 0, .int .i64 6, .int .i64 1, .string ⟨#[]⟩, .string ⟨#[]⟩, .int .i64 0, .slice (some ⟨w1.heap.size + 1 + 1, 0, none⟩) 2 2] 24)) (w1.heap.size) #[.int .i64 2, .int .i64 0, .string ⟨#[]⟩, .string ⟨#[]⟩, .int .i64 1, .slice none 0 0, .int .i64 2, .int .i64 0, .string ⟨#[]⟩, .string ⟨#[]⟩, .int .i64 0, .slice none 0 0] 24 from (((((Blk.new w1 #[.int .i64 2, .int .i64 0, .string ⟨#[]⟩, .string ⟨#[]⟩, .int .i64 1, .slice none 0 0, .int .i64 2, .int .i64 0, .string ⟨#[]⟩, .string ⟨#[]⟩, .int .i64 0, .slice none 0 0] 24 (n := w1.heap.size) (by simp)).alloc _).alloc _).alloc _).alloc _))
 have HD1 := Lib.hid (show Blk (((((w1.alloc (.cells #[.int .i64 2, .int .i64 0, .string ⟨#[]⟩, .string ⟨#[]⟩, .int .i64 1, .slice none 0 0, .int .i64 2, .int .i64 0, .string ⟨#[]⟩, .string ⟨#[]⟩, .int .i64 0, .slice none 0 0] 24)).alloc (.cells #[.int .i64 6, .int .i64 10, .string ⟨#[]⟩, .string ⟨#[]⟩, .int .i64 0, .slice (some ⟨w1.heap.size, 0, none⟩) 2 2] 24)).alloc (.cells #[.int .i64 6, .int .i64 10, .string ⟨#[]⟩, .string ⟨#[]⟩, .int .i64 0, .slice (some ⟨w1.heap.size, 0, none⟩) 2 2, .int .i64 2, .int .i64 0, .string ⟨#[]⟩, .string ⟨#[]⟩, .int .i64 1, .slice none 0 0] 24)).alloc (.cells #[.int .i64 6, .int .i64 1, .string ⟨#[]⟩, .string ⟨#[]⟩, .int .i64 0, .slice (some ⟨w1.heap.size + 1 + 1, 0, none⟩) 2 2] 24)).alloc (.cells #[.int .i64 1, .int .i64 0, .string ⟨#[]⟩, .string ⟨#[]⟩, .int .i64 0, .slice none 0 0, .int .i64 6, .int .i64 1, .string ⟨#[]⟩, .string ⟨#[]⟩, .int .i64 0, .slice (some ⟨w1.heap.size + 1 + 1, 0, none⟩) 2 2] 24)) (w1.heap.size + 1) #[.int .i64 6, .int .i64 10, .string ⟨#[]⟩, .string ⟨#[]⟩, .int .i64 0, .slice (some ⟨w1.heap.size, 0, none⟩) 2 2] 24 from ((((Blk.new (w1.alloc (.cells #[.int .i64 2, .int .i64 0, .string ⟨#[]⟩, .string ⟨#[]⟩, .int .i64 1, .slice none 0 0, .int .i64 2, .int .i64 0, .string ⟨#[]⟩, .string ⟨#[]⟩, .int .i64 0, .slice none 0 0] 24)) #[.int .i64 6, .int .i64 10, .string ⟨#[]⟩, .string ⟨#[]⟩, .int .i64 0, .slice (some ⟨w1.heap.size, 0, none⟩) 2 2] 24 (n := w1.heap.size + 1) (by simp)).alloc _).alloc _).alloc _))
 have HG1 := Lib.hid (show Blk (((((w1.alloc (.cells #[.int .i64 2, .int .i64 0, .string ⟨#[]⟩, .string ⟨#[]⟩, .int .i64 1, .slice none 0 0, .int .i64 2, .int .i64 0, .string ⟨#[]⟩, .string ⟨#[]⟩, .int .i64 0, .slice none 0 0] 24)).alloc (.cells #[.int .i64 6, .int .i64 10, .string ⟨#[]⟩, .string ⟨#[]⟩, .int .i64 0, .slice (some ⟨w1.heap.size, 0, none⟩) 2 2] 24)).alloc (.cells #[.int .i64 6, .int .i64 10, .string ⟨#[]⟩, .string ⟨#[]⟩, .int .i64 0, .slice (some ⟨w1.heap.size, 0, none⟩) 2 2, .int .i64 2, .int .i64 0, .string ⟨#[]⟩, .string ⟨#[]⟩, .int .i64 1, .slice none 0 0] 24)).alloc (.cells #[.int .i64 6, .int .i64 1, .string ⟨#[]⟩, .string ⟨#[]⟩, .int .i64 0, .slice (some ⟨w1.heap.size + 1 + 1, 0, none⟩) 2 2] 24)).alloc (.cells #[.int .i64 1, .int .i64 0, .string ⟨#[]⟩, .string ⟨#[]⟩, .int .i64 0, .slice none 0 0, .int .i64 6, .int .i64 1, .string ⟨#[]⟩, .string ⟨#[]⟩, .int .i64 0, .slice (some ⟨w1.heap.size + 1 + 1, 0, none⟩) 2 2] 24)) (w1.heap.size + 1 + 1) #[.int .i64 6, .int .i64 10, .string ⟨#[]⟩, .string ⟨#[]⟩, .int .i64 0, .slice (some ⟨w1.heap.size, 0, none⟩) 2 2, .int .i64 2, .int .i64 0, .string ⟨#[]⟩, .string ⟨#[]⟩, .int .i64 1, .slice none 0 0] 24 from (((Blk.new ((w1.alloc (.cells #[.int .i64 2, .int .i64 0, .string ⟨#[]⟩, .string ⟨#[]⟩, .int .i64 1, .slice none 0 0, .int .i64 2, .int .i64 0, .string ⟨#[]⟩, .string ⟨#[]⟩, .int .i64 0, .slice none 0 0] 24)).alloc (.cells #[.int .i64 6, .int .i64 10, .string ⟨#[]⟩, .string ⟨#[]⟩, .int .i64 0, .slice (some ⟨w1.heap.size, 0, none⟩) 2 2] 24)) #[.int .i64 6, .int .i64 10, .string ⟨#[]⟩, .string ⟨#[]⟩, .int .i64 0, .slice (some ⟨w1.heap.size, 0, none⟩) 2 2, .int .i64 2, .int .i64 0, .string ⟨#[]⟩, .string ⟨#[]⟩, .int .i64 1, .slice none 0 0] 24 (n := w1.heap.size + 1 + 1) (by simp)).alloc _).alloc _))
 have HO1 := Lib.hid (show Blk (((((w1.alloc (.cells #[.int .i64 2, .int .i64 0, .string ⟨#[]⟩, .string ⟨#[]⟩, .int .i64 1, .slice none 0 0, .int .i64 2, .int .i64 0, .string ⟨#[]⟩, .string ⟨#[]⟩, .int .i64 0, .slice none 0 0] 24)).alloc (.cells #[.int .i64 6, .int .i64 10, .string ⟨#[]⟩, .string ⟨#[]⟩, .int .i64 0, .slice (some ⟨w1.heap.size, 0, none⟩) 2 2] 24)).alloc (.cells #[.int .i64 6, .int .i64 10, .string ⟨#[]⟩, .string ⟨#[]⟩, .int .i64 0, .slice (some ⟨w1.heap.size, 0, none⟩) 2 2, .int .i64 2, .int .i64 0, .string ⟨#[]⟩, .string ⟨#[]⟩, .int .i64 1, .slice none 0 0] 24)).alloc (.cells #[.int .i64 6, .int .i64 1, .string ⟨#[]⟩, .string ⟨#[]⟩, .int .i64 0, .slice (some ⟨w1.heap.size + 1 + 1, 0, none⟩) 2 2] 24)).alloc (.cells #[.int .i64 1, .int .i64 0, .string ⟨#[]⟩, .string ⟨#[]⟩, .int .i64 0, .slice none 0 0, .int .i64 6, .int .i64 1, .string ⟨#[]⟩, .string ⟨#[]⟩, .int .i64 0, .slice (some ⟨w1.heap.size + 1 + 1, 0, none⟩) 2 2] 24)) (w1.heap.size + 1 + 1 + 1) #[.int .i64 6, .int .i64 1, .string ⟨#[]⟩, .string ⟨#[]⟩, .int .i64 0, .slice (some ⟨w1.heap.size + 1 + 1, 0, none⟩) 2 2] 24 from ((Blk.new (((w1.alloc (.cells #[.int .i64 2, .int .i64 0, .string ⟨#[]⟩, .string ⟨#[]⟩, .int .i64 1, .slice none 0 0, .int .i64 2, .int .i64 0, .string ⟨#[]⟩, .string ⟨#[]⟩, .int .i64 0, .slice none 0 0] 24)).alloc (.cells #[.int .i64 6, .int .i64 10, .string ⟨#[]⟩, .string ⟨#[]⟩, .int .i64 0, .slice (some ⟨w1.heap.size, 0, none⟩) 2 2] 24)).alloc (.cells #[.int .i64 6, .int .i64 10, .string ⟨#[]⟩, .string ⟨#[]⟩, .int .i64 0, .slice (some ⟨w1.heap.size, 0, none⟩) 2 2, .int .i64 2, .int .i64 0, .string ⟨#[]⟩, .string ⟨#[]⟩, .int .i64 1, .slice none 0 0] 24)) #[.int .i64 6, .int .i64 1, .string ⟨#[]⟩, .string ⟨#[]⟩, .int .i64 0, .slice (some ⟨w1.heap.size + 1 + 1, 0, none⟩) 2 2] 24 (n := w1.heap.size + 1 + 1 + 1) (by simp)).alloc _))
 have HF1 := Lib.hid (show Blk (((((w1.alloc (.cells #[.int .i64 2, .int .i64 0, .string ⟨#[]⟩, .string ⟨#[]⟩, .int .i64 1, .slice none 0 0, .int .i64 2, .int .i64 0, .string ⟨#[]⟩, .string ⟨#[]⟩, .int .i64 0, .slice none 0 0] 24)).alloc (.cells #[.int .i64 6, .int .i64 10, .string ⟨#[]⟩, .string ⟨#[]⟩, .int .i64 0, .slice (some ⟨w1.heap.size, 0, none⟩) 2 2] 24)).alloc (.cells #[.int .i64 6, .int .i64 10, .string ⟨#[]⟩, .string ⟨#[]⟩, .int .i64 0, .slice (some ⟨w1.heap.size, 0, none⟩) 2 2, .int .i64 2, .int .i64 0, .string ⟨#[]⟩, .string ⟨#[]⟩, .int .i64 1, .slice none 0 0] 24)).alloc (.cells #[.int .i64 6, .int .i64 1, .string ⟨#[]⟩, .string ⟨#[]⟩, .int .i64 0, .slice (some ⟨w1.heap.size + 1 + 1, 0, none⟩) 2 2] 24)).alloc (.cells #[.int .i64 1, .int .i64 0, .string ⟨#[]⟩, .string ⟨#[]⟩, .int .i64 0, .slice none 0 0, .int .i64 6, .int .i64 1, .string ⟨#[]⟩, .string ⟨#[]⟩, .int .i64 0, .slice (some ⟨w1.heap.size + 1 + 1, 0, none⟩) 2 2] 24)) (w1.heap.size + 1 + 1 + 1 + 1) #[.int .i64 1, .int .i64 0, .string ⟨#[]⟩, .string ⟨#[]⟩, .int .i64 0, .slice none 0 0, .int .i64 6, .int .i64 1, .string ⟨#[]⟩, .string ⟨#[]⟩, .int .i64 0, .slice (some ⟨w1.heap.size + 1 + 1, 0, none⟩) 2 2] 24 from (Blk.new ((((w1.alloc (.cells #[.int .i64 2, .int .i64 0, .string ⟨#[]⟩, .string ⟨#[]⟩, .int .i64 1, .slice none 0 0, .int .i64 2, .int .i64 0, .string ⟨#[]⟩, .string ⟨#[]⟩, .int .i64 0, .slice none 0 0] 24)).alloc (.cells #[.int .i64 6, .int .i64 10, .string ⟨#[]⟩, .string ⟨#[]⟩, .int .i64 0, .slice (some ⟨w1.heap.size, 0, none⟩) 2 2] 24)).alloc (.cells #[.int .i64 6, .int .i64 10, .string ⟨#[]⟩, .string ⟨#[]⟩, .int .i64 0, .slice (some ⟨w1.heap.size, 0, none⟩) 2 2, .int .i64 2, .int .i64 0, .string ⟨#[]⟩, .string ⟨#[]⟩, .int .i64 1, .slice none 0 0] 24)).alloc (.cells #[.int .i64 6, .int .i64 1, .string ⟨#[]⟩, .string ⟨#[]⟩, .int .i64 0, .slice (some ⟨w1.heap.size + 1 + 1, 0, none⟩) 2 2] 24)) #[.int .i64 1, .int .i64 0, .string ⟨#[]⟩, .string ⟨#[]⟩, .int .i64 0, .slice none 0 0, .int .i64 6, .int .i64 1, .string ⟨#[]⟩, .string ⟨#[]⟩, .int .i64 0, .slice (some ⟨w1.heap.size + 1 + 1, 0, none⟩) 2 2] 24 (n := w1.heap.size + 1 + 1 + 1 + 1) (by simp)))
 have HX2 := Lib.hid (show Ext w (((((w1.alloc (.cells #[.int .i64 2, .int .i64 0, .string ⟨#[]⟩, .string ⟨#[]⟩, .int .i64 1, .slice none 0 0, .int .i64 2, .int .i64 0, .string ⟨#[]⟩, .string ⟨#[]⟩, .int .i64 0, .slice none 0 0] 24)).alloc (.cells #[.int .i64 6, .int .i64 10, .string ⟨#[]⟩, .string ⟨#[]⟩, .int .i64 0, .slice (some ⟨w1.heap.size, 0, none⟩) 2 2] 24)).alloc (.cells #[.int .i64 6, .int .i64 10, .string ⟨#[]⟩, .string ⟨#[]⟩, .int .i64 0, .slice (some ⟨w1.heap.size, 0, none⟩) 2 2, .int .i64 2, .int .i64 0, .string ⟨#[]⟩, .string ⟨#[]⟩, .int .i64 1, .slice none 0 0] 24)).alloc (.cells #[.int .i64 6, .int .i64 1, .string ⟨#[]⟩, .string ⟨#[]⟩, .int .i64 0, .slice (some ⟨w1.heap.size + 1 + 1, 0, none⟩) 2 2] 24)).alloc (.cells #[.int .i64 1, .int .i64 0, .string ⟨#[]⟩, .string ⟨#[]⟩, .int .i64 0, .slice none 0 0, .int .i64 6, .int .i64 1, .string ⟨#[]⟩, .string ⟨#[]⟩, .int .i64 0, .slice (some ⟨w1.heap.size + 1 + 1, 0, none⟩) 2 2] 24)) from Ext.trans HX1.out (((((((Ext.refl w1).alloc _).alloc _).alloc _).alloc _).alloc _)))
 clear HX1
 generalize (((((w1.alloc (.cells #[.int .i64 2, .int .i64 0, .string ⟨#[]⟩, .string ⟨#[]⟩, .int .i64 1, .slice none 0 0, .int .i64 2, .int .i64 0, .string ⟨#[]⟩, .string ⟨#[]⟩, .int .i64 0, .slice none 0 0] 24)).alloc (.cells #[.int .i64 6, .int .i64 10, .string ⟨#[]⟩, .string ⟨#[]⟩, .int .i64 0, .slice (some ⟨w1.heap.size, 0, none⟩) 2 2] 24)).alloc (.cells #[.int .i64 6, .int .i64 10, .string ⟨#[]⟩, .string ⟨#[]⟩, .int .i64 0, .slice (some ⟨w1.heap.size, 0, none⟩) 2 2, .int .i64 2, .int .i64 0, .string ⟨#[]⟩, .string ⟨#[]⟩, .int .i64 1, .slice none 0 0] 24)).alloc (.cells #[.int .i64 6, .int .i64 1, .string ⟨#[]⟩, .string ⟨#[]⟩, .int .i64 0, .slice (some ⟨w1.heap.size + 1 + 1, 0, none⟩) 2 2] 24)).alloc (.cells #[.int .i64 1, .int .i64 0, .string ⟨#[]⟩, .string ⟨#[]⟩, .int .i64 0, .slice none 0 0, .int .i64 6, .int .i64 1, .string ⟨#[]⟩, .string ⟨#[]⟩, .int .i64 0, .slice (some ⟨w1.heap.size + 1 + 1, 0, none⟩) 2 2] 24)) = W1 at HA1 HD1 HG1 HO1 HF1 HX2 ⊢
 generalize w1.heap.size = B at HA1 HD1 HG1 HO1 HF1 ⊢
 have NA := ndAt_two (x := numN (some 1)) (y := numN (some 0)) HA1.out
 have NG := ndAt_two (x := opEv 10 B) (y := numN (some 1)) HG1.out
 have NF := ndAt_two (x := ⟨1, 0, ⟨#[]⟩, ⟨#[]⟩, 0, none, 0, 0⟩) (y := opEv 1 (B + 1 + 1)) HF1.out
 have E1 : Ev W1 (evV none 0 0 none 0 0 (some ⟨q, 0, none⟩) 9) (opEv 1 (B + 1 + 1)) (0, 0, emp) 18 := ev_err NG (ev_div NA (ev_num (some 1)) (ev_num (some 0)))
 have E2 : Ev W1 (evV none 0 0 none 0 0 (some ⟨q, 0, none⟩) 9) (opEv 18 (B + 1 + 1 + 1 + 1)) (tr3 (shT 18 0 0)) 0 := ev_short 18 (.inl rfl) (b := 0) (by decide) (by decide) NF ev_false fun h => absurd (.inl ⟨rfl, rfl⟩) h
 rw [sh18] at E2
 have HE1 := Lib.hid E1
 have HNA := Lib.hid NA
 have E3 := E2 W1 (Ext.refl _)
 simp only [opEv, N6.v, ndE, evV, vV, emp] at E3
 clear NG NF NA E1 E2
 refine Calls.mono E3 ?_
 rintro e W2 ⟨rfl, hb⟩
 clear E3
 have HD2 := Lib.hid (HD1.out.keep hb)
 have HO2 := Lib.hid (HO1.out.keep hb)
 have HE2 := Lib.hid (HE1.out.ext hb)
 have HNA2 := Lib.hid (HNA.out.ext hb)
 have HX3 := Lib.hid (Ext.trans HX2.out hb)
 clear hb HA1 HD1 HG1 HO1 HF1 HX2 HE1 HNA
 obtain ⟨cD, fD⟩ := HD2.out.facts
 obtain ⟨cO, fO⟩ := HO2.out.facts
 have hDl := HD2.out.lt
 have hOl := HO2.out.lt
 go_simp
 repeat (first | go_values | go_skip | go_guarded | go_step | go_upon)
 have HV3 := Lib.hid (show Blk ((W2.alloc (.cells #[.int .i64 1, .int .i64 0, .string ⟨#[]⟩] 69)).alloc (.cells #[.int .i64 6, .int .i64 1, .string ⟨#[]⟩, .string ⟨#[]⟩, .int .i64 0, .slice (some ⟨B + 1 + 1, 0, none⟩) 2 2, .int .i64 1, .int .i64 0, .string ⟨#[]⟩, .string ⟨#[]⟩, .int .i64 0, .slice none 0 0] 24)) W2.heap.size #[.int .i64 1, .int .i64 0, .string ⟨#[]⟩] 69 from (Blk.new W2 #[.int .i64 1, .int .i64 0, .string ⟨#[]⟩] 69 rfl).alloc _)
 have HL3 := Lib.hid (show Blk ((W2.alloc (.cells #[.int .i64 1, .int .i64 0, .string ⟨#[]⟩] 69)).alloc (.cells #[.int .i64 6, .int .i64 1, .string ⟨#[]⟩, .string ⟨#[]⟩, .int .i64 0, .slice (some ⟨B + 1 + 1, 0, none⟩) 2 2, .int .i64 1, .int .i64 0, .string ⟨#[]⟩, .string ⟨#[]⟩, .int .i64 0, .slice none 0 0] 24)) (W2.heap.size + 1) #[.int .i64 6, .int .i64 1, .string ⟨#[]⟩, .string ⟨#[]⟩, .int .i64 0, .slice (some ⟨B + 1 + 1, 0, none⟩) 2 2, .int .i64 1, .int .i64 0, .string ⟨#[]⟩, .string ⟨#[]⟩, .int .i64 0, .slice none 0 0] 24 from Blk.new (W2.alloc (.cells #[.int .i64 1, .int .i64 0, .string ⟨#[]⟩] 69)) #[.int .i64 6, .int .i64 1, .string ⟨#[]⟩, .string ⟨#[]⟩, .int .i64 0, .slice (some ⟨B + 1 + 1, 0, none⟩) 2 2, .int .i64 1, .int .i64 0, .string ⟨#[]⟩, .string ⟨#[]⟩, .int .i64 0, .slice none 0 0] 24 (n := W2.heap.size + 1) (by simp))
 have hx : Ext W2 ((W2.alloc (.cells #[.int .i64 1, .int .i64 0, .string ⟨#[]⟩] 69)).alloc (.cells #[.int .i64 6, .int .i64 1, .string ⟨#[]⟩, .string ⟨#[]⟩, .int .i64 0, .slice (some ⟨B + 1 + 1, 0, none⟩) 2 2, .int .i64 1, .int .i64 0, .string ⟨#[]⟩, .string ⟨#[]⟩, .int .i64 0, .slice none 0 0] 24)) := (((Ext.refl W2).alloc _).alloc _)
 have HD3 := Lib.hid (HD2.out.keep hx)
 have HE3 := Lib.hid (HE2.out.ext hx)
 have HNA3 := Lib.hid (HNA2.out.ext hx)
 have HX4 := Lib.hid (Ext.trans HX3.out hx)
 clear hx HD2 HO2 HE2 HNA2 HX3 cD fD cO fO hDl hOl
 generalize ((W2.alloc (.cells #[.int .i64 1, .int .i64 0, .string ⟨#[]⟩] 69)).alloc (.cells #[.int .i64 6, .int .i64 1, .string ⟨#[]⟩, .string ⟨#[]⟩, .int .i64 0, .slice (some ⟨B + 1 + 1, 0, none⟩) 2 2, .int .i64 1, .int .i64 0, .string ⟨#[]⟩, .string ⟨#[]⟩, .int .i64 0, .slice none 0 0] 24)) = W3 at HV3 HL3 HD3 HE3 HNA3 HX4 ⊢
 generalize W2.heap.size = B2 at HV3 HL3 ⊢
 have E3 : Ev W3 (evV none 0 0 none 0 0 (some ⟨q, 0, none⟩) 9) (opEv 18 (B2 + 1)) (0, 0, emp) 18 := ev_sherr (ndAt_two (x := opEv 1 (B + 1 + 1)) (y := ⟨1, 0, ⟨#[]⟩, ⟨#[]⟩, 0, none, 0, 0⟩) HL3.out) HE3.out
 have E4 := E3 W3 (Ext.refl _)
 simp only [opEv, N6.v, ndE, evV, vV, emp] at E4
 clear E3
 refine Calls.mono E4 ?_
 rintro e W4 ⟨rfl, hb⟩
 clear E4
 have HD4 := Lib.hid (HD3.out.keep hb)
 have HV4 := Lib.hid (HV3.out.keep hb)
 have HNA4 := Lib.hid (HNA3.out.ext hb)
 have HX5 := Lib.hid (Ext.trans HX4.out hb)
 clear hb HD3 HV3 HL3 HE3 HNA3 HX4
 obtain ⟨cD, fD⟩ := HD4.out.facts
 obtain ⟨cV, fV⟩ := HV4.out.facts
 have hDl := HD4.out.lt
 have hVl := HV4.out.lt
 go_simp
 repeat (first | go_values | go_skip | go_guarded | go_step | go_upon)
 have hx : Ext W4 (W4.alloc (.cells #[.int .i64 0, .int .i64 0, .string ⟨#[]⟩] 69)) := (Ext.refl W4).alloc _
 refine Calls.mono (KS.out _ B (HNA4.out.ext hx)) ?_
 rintro e W5 ⟨rfl, hb⟩
 have hx5 := Ext.trans hx hb
 have HD5 := Lib.hid (HD4.out.keep hx5)
 have HNA5 := Lib.hid (HNA4.out.ext hx5)
 have HX6 := Lib.hid (Ext.trans HX5.out hx5)
 clear hb hx hx5 HD4 HV4 HNA4 HX5 cD fD hDl cV fV hVl
 obtain ⟨cD, fD⟩ := HD5.out.facts
 have hDl := HD5.out.lt
 go_simp
 repeat (first | go_values | go_skip | go_guarded | go_step | go_upon)
 refine Calls.mono (KC.out _ B HNA5.out) ?_
 rintro e W6 ⟨rfl, hb⟩
 have HX7 := Lib.hid (Ext.trans HX6.out hb)
 clear hb HD5 HNA5 HX6 cD fD hDl
 go_simp
 repeat (first | go_values | go_skip | go_guarded | go_step | go_upon)
 go_returns
 exact ⟨rfl, HX7.out⟩
end Go.Proofs.YtcgbpmeadohbkaaGreatDoor
