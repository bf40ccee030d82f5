/-
  What every statement of layer 10 holds against itself (umlautlaw10.awake).
-/
import Derived.Test.YtaoikbpolckobaaGreatDoorRegD
import Derived.Test.YtaoikbpolckobaaGreatDoorRegG
namespace Go.Proofs.YtaoikbpolckobaaGreatDoor
open Go.RowKit Go.Lib
set_option maxRecDepth 100000

theorem name_noCase (w : World) (hG : Glob w) : NameIs w ⟨#[78, 111, 67, 97, 115, 101]⟩ bF :=
  name_any _ _ w (by decide +kernel) (by decide +kernel) (by decide +kernel) (by decide) (by decide) (by decide) (by decide) (by unfold AllIn; decide) hG.tabs
theorem name_root1 (w : World) (hG : Glob w) : NameIs w ⟨#[82, 111, 111, 116, 95, 49]⟩ ⟨#[114, 111, 111, 116, 95, 49]⟩ :=
  name_any _ _ w (by decide +kernel) (by decide +kernel) (by decide +kernel) (by decide) (by decide) (by decide) (by decide) (by unfold AllIn; decide) hG.tabs
set_option maxHeartbeats 8000000 in
theorem awake10_any (w : World) (hG : Glob w) : Calls Tryz.prog 35 #[] w fun e w' => e = .returned (.bool true) ∧ Below w.heap.size w w' := by
  have HG := Lib.hid hG
  clear hG
  go_enter Tryz.func35, Tryz.ntmps35
  repeat (first | go_values | go_skip | go_guarded | go_step | go_upon)
  refine (regnew_any _).mono ?_
  rintro e w1 ⟨q, rfl, hq, hR1, hb1⟩
  obtain ⟨M, l, hR, hper, hmB, hmF, p, hmR⟩ := hR1.regs
  have HR1 := Lib.hid hR
  have HX1 := Lib.hid hb1
  have HM := Lib.hid hmF
  have HP := Lib.hid hper
  clear hb1 hR1 hR hper hmB hmF hmR
  go_simp
  repeat (first | go_values | go_skip | go_guarded | go_step | go_upon)
  refine (names_any q M 2 l _ HR1.out (fun x hx => by
    obtain ⟨s, _, h⟩ := List.mem_map.1 (HP.out.mem_iff.1 (List.mem_map.2 ⟨x, hx, rfl⟩))
    exact ⟨s, h.symm⟩) (by simpa using HP.out.length_eq) (by omega)).mono ?_
  rintro e w2 ⟨g, ds, rfl, hd, hc, hb2⟩
  rw [sort3 (kN_perm (hd.trans HP.out))] at hc
  have c0 : w2.cell? ⟨g, 0, none⟩ = some (.string bB) := hc 0 _ rfl
  have c1 : w2.cell? ⟨g, 1, none⟩ = some (.string bF) := hc 1 _ rfl
  have c2 : w2.cell? ⟨g, 2, none⟩ = some (.string bR) := hc 2 _ rfl
  have HC := Lib.hid (And.intro c0 (And.intro c1 c2))
  have hgl := World.block_lt_of_cell? w2 _ c0
  have HR2 := Lib.hid (HR1.out.ext hb2)
  have HX2 : Hid (Below w.heap.size w w2) := Lib.hid (HX1.out.trans (hb2.mono HX1.out.size))
  clear hb2 hd hc c0 c1 c2
  go_simp
  repeat (first | go_values | go_skip | go_guarded | go_step | go_upon)
  refine (get_hit q M l _ bF 2 0 false false none w2 HR2.out (fun W hW => name_noCase W (HG.out.keep (HX2.out.trans (hW.mono HX2.out.size)))) HM.out).mono ?_
  rintro e w3 ⟨rfl, hb3⟩
  have HX3 : Hid (Below w.heap.size w w3) := Lib.hid (HX2.out.trans (hb3.mono HX2.out.size))
  have HB3 := Lib.hid hb3
  have hgl3 := Nat.lt_of_lt_of_le hgl hb3.size
  clear hb3
  rw [show clV 2 0 false false none = .agg #[.int .i64 2, .int .i64 0, .bool false, .bool false, .pointer none] from rfl]
  go_simp
  repeat (first | go_values | go_skip | go_guarded | go_step | go_upon)
  have hx4 : Ext w2 (w3.alloc (.cells #[.int .i64 2, .int .i64 0, .bool false, .bool false, .pointer none] 56)) := HB3.out.trans ((Ext.refl w3).alloc _ |>.mono HB3.out.size)
  refine (name_root1 _ (HG.out.keep (HX2.out.trans (hx4.mono HX2.out.size)))).mono ?_
  rintro e w4 ⟨rfl, hb4⟩
  have hx5 : Ext w2 w4 := hx4.trans hb4
  have c0 : w4.cell? ⟨g, 0, none⟩ = some (.string bB) := by rw [hx5.cell (p := ⟨g, 0, none⟩) hgl]; exact HC.out.1
  have c1 : w4.cell? ⟨g, 1, none⟩ = some (.string bF) := by rw [hx5.cell (p := ⟨g, 1, none⟩) hgl]; exact HC.out.2.1
  have c2 : w4.cell? ⟨g, 2, none⟩ = some (.string bR) := by rw [hx5.cell (p := ⟨g, 2, none⟩) hgl]; exact HC.out.2.2
  have HX5 : Hid (Below w.heap.size w w4) := Lib.hid (HX2.out.trans (hx5.mono HX2.out.size))
  have e0 : (bB.toList == [98, 105, 110, 97, 114, 121]) = true := by decide +kernel
  have e1 : (bF.toList == [110, 111, 99, 97, 115, 101]) = true := by decide +kernel
  have e2 : (bR.toList == [114, 111, 111, 116]) = true := by decide +kernel
  clear hx4 hb4 hx5
  go_simp
  repeat (first | go_values | go_skip | go_guarded | go_step | go_upon)
  go_ret
  exact ⟨rfl, HX5.out⟩
end Go.Proofs.YtaoikbpolckobaaGreatDoor
