/-
  What is said outright beats what a column brings, that beats a literal; two columns of unlike collations compare by neither.
-/
import Derived.Test.YtaoikbpolckobaaGreatDoorRankB
namespace Go.Proofs.YtaoikbpolckobaaGreatDoor
open Go.RowKit Go.Lib
set_option maxRecDepth 100000

set_option maxHeartbeats 16000000 in
theorem law_ranks (a b l r : Int) (w : World) (hG : Glob w) :
    Calls Tryz.prog 3 #[.int .i64 a, .int .i64 b, .int .i64 l, .int .i64 r] w fun e w' => e = .returned (.bool true) ∧ Below w.heap.size w w' := by
  obtain ⟨x, hx4, hax⟩ := and3 a
  obtain ⟨y, hy4, hay⟩ := and3 b
  obtain ⟨zp, hzp, hap⟩ := and3 l
  obtain ⟨zq, hzq, haq⟩ := and3 r
  go_enter Tryz.func3, Tryz.ntmps3
  repeat (first | go_values | go_skip | go_guarded | go_step | go_upon)
  refine (Y.fields_any _).mono ?_
  rintro e w1 ⟨⟨g, c, v2, rfl, hf⟩, hb1⟩
  have HF1 := Lib.hid hf
  have HX1 := Lib.hid hb1
  clear hf hb1
  go_simp
  repeat (first | go_values | go_skip | go_guarded | go_step | go_upon)
  refine (regnew_any _).mono ?_
  rintro e w2 ⟨q, rfl, hq, hR2, hb2⟩
  have HX2 : Hid (Below w.heap.size w w2) := Lib.hid (HX1.out.trans (hb2.mono HX1.out.size))
  have HF2 := Lib.hid (HF1.out.ext hb2)
  have HR2 := Lib.hid hR2
  clear hb2 hR2
  go_simp
  repeat (first | go_values | go_skip | go_guarded | go_step | go_upon)
  have hC : Blk (((w2.alloc (.cells colsA 9)).alloc (.cells ownA 9)).alloc (.cells nmsA 9)) w2.heap.size colsA 9 := ((Blk.new w2 colsA 9 rfl).alloc _).alloc _
  have hO : Blk (((w2.alloc (.cells colsA 9)).alloc (.cells ownA 9)).alloc (.cells nmsA 9)) (w2.heap.size + 1) ownA 9 := (Blk.new (w2.alloc (.cells colsA 9)) ownA 9 (by simp)).alloc _
  have hM : Blk (((w2.alloc (.cells colsA 9)).alloc (.cells ownA 9)).alloc (.cells nmsA 9)) (w2.heap.size + 1 + 1) nmsA 9 := Blk.new ((w2.alloc (.cells colsA 9)).alloc (.cells ownA 9)) nmsA 9 (by simp)
  have hx3 : Ext w2 (((w2.alloc (.cells colsA 9)).alloc (.cells ownA 9)).alloc (.cells nmsA 9)) := (((Ext.refl _).alloc _).alloc _).alloc _
  rw [show (((w2.alloc (.cells #[.string ⟨#[98]⟩, .string ⟨#[99]⟩, .string ⟨#[100]⟩, .string ⟨#[102]⟩] 9)).alloc (.cells #[.string ⟨#[98, 105, 110, 97, 114, 121]⟩, .string ⟨#[110, 111, 99, 97, 115, 101]⟩, .string ⟨#[114, 111, 111, 116]⟩, .string ⟨#[110, 111, 99, 97, 115, 101]⟩] 9)).alloc (.cells #[.string ⟨#[]⟩, .string ⟨#[98, 105, 110, 97, 114, 121]⟩, .string ⟨#[110, 111, 99, 97, 115, 101]⟩, .string ⟨#[114, 111, 111, 116]⟩] 9)) = (((w2.alloc (.cells colsA 9)).alloc (.cells ownA 9)).alloc (.cells nmsA 9)) from rfl]
  generalize (((w2.alloc (.cells colsA 9)).alloc (.cells ownA 9)).alloc (.cells nmsA 9)) = W3 at hC hO hM hx3 ⊢
  have HC := Lib.hid hC
  have HO := Lib.hid hO
  have HM := Lib.hid hM
  have HX3 : Hid (Below w.heap.size w W3) := Lib.hid (HX2.out.trans (hx3.mono HX2.out.size))
  have HF3 := Lib.hid (HF2.out.ext hx3)
  have HR3 := Lib.hid (HR2.out.ext hx3)
  clear hC hO hM hx3 HF1 HX1 HF2 HR2 HX2
  have HF := Lib.hid (show ∀ W, Ext W3 W → W.cell? ⟨w2.heap.size + 1 + 1, zp, none⟩ = some (.string (nmOf zp)) ∧ W.cell? ⟨w2.heap.size + 1 + 1, zq, none⟩ = some (.string (nmOf zq)) from
    fun W hW => ⟨((HM.out.keep hW).cell zp).trans (nms_at hzp), ((HM.out.keep hW).cell zq).trans (nms_at hzq)⟩)
  have hzp' : (zp : Int) < 4 := by omega
  have hzq' : (zq : Int) < 4 := by omega
  refine wp_par 12 (fun
      | 0 => fun v _ => v = .slice (some ⟨w2.heap.size + 1 + 1, 0, none⟩) 4 4
      | 1 => fun v _ => v = .int .i64 l
      | 2 => fun v _ => v = .int .i64 (zp : Int)
      | 3 => fun v _ => v = .pointer (some ⟨w2.heap.size + 1 + 1, zp, none⟩)
      | 4 => fun v _ => v = .string (nmOf zp)
      | 5 => fun v _ => v = .slice (some ⟨w2.heap.size + 1 + 1, 0, none⟩) 4 4
      | 6 => fun v _ => v = .int .i64 r
      | 7 => fun v _ => v = .int .i64 (zq : Int)
      | 8 => fun v _ => v = .pointer (some ⟨w2.heap.size + 1 + 1, zq, none⟩)
      | 9 => fun v _ => v = .string (nmOf zq)
      | 10 => fun v _ => v = .string (nmOf zp)
      | 11 => fun v _ => v = .string (nmOf zq)
      | _ => fun _ _ => True) (by kernel_rfl) (by kernel_rfl) (by kernel_rfl) ?_ ?_
  · simp (maxSteps := 20000000) only [List.take_succ_cons, List.take_zero, ParAll, Act.put, List.setIfInBounds_toArray, List.set_cons_succ, List.set_cons_zero]
    refine ⟨?_, ?_, ?_, ?_, ?_, ?_, ?_, ?_, ?_, ?_, ?_, ?_, trivial⟩
    · intro vals W hx hd
      have hW := HF.out W hx
      simp [PDeps, pdeps, Region.binds] at hd
      first
        | refine ParOb.plain rfl ?_
        | refine ParOb.wanted (by simp [Region.wanted, yielded, hd]) ?_
      go_simp
      exact ParPost.same fun _ _ => rfl
    · intro vals W hx hd
      have hW := HF.out W hx
      simp [PDeps, pdeps, Region.binds] at hd
      first
        | refine ParOb.plain rfl ?_
        | refine ParOb.wanted (by simp [Region.wanted, yielded, hd]) ?_
      go_simp
      exact ParPost.same fun _ _ => rfl
    · intro vals W hx hd
      have hW := HF.out W hx
      simp [PDeps, pdeps, Region.binds] at hd
      first
        | refine ParOb.plain rfl ?_
        | refine ParOb.wanted (by simp [Region.wanted, yielded, hd]) ?_
      go_simp
      exact ParPost.same fun _ _ => rfl
    · intro vals W hx hd
      have hW := HF.out W hx
      simp [PDeps, pdeps, Region.binds] at hd
      first
        | refine ParOb.plain rfl ?_
        | refine ParOb.wanted (by simp [Region.wanted, yielded, hd]) ?_
      go_simp
      exact ParPost.same fun _ _ => rfl
    · intro vals W hx hd
      have hW := HF.out W hx
      simp [PDeps, pdeps, Region.binds] at hd
      first
        | refine ParOb.plain rfl ?_
        | refine ParOb.wanted (by simp [Region.wanted, yielded, hd]) ?_
      go_simp
      exact ParPost.same fun _ _ => rfl
    · intro vals W hx hd
      have hW := HF.out W hx
      simp [PDeps, pdeps, Region.binds] at hd
      first
        | refine ParOb.plain rfl ?_
        | refine ParOb.wanted (by simp [Region.wanted, yielded, hd]) ?_
      go_simp
      exact ParPost.same fun _ _ => rfl
    · intro vals W hx hd
      have hW := HF.out W hx
      simp [PDeps, pdeps, Region.binds] at hd
      first
        | refine ParOb.plain rfl ?_
        | refine ParOb.wanted (by simp [Region.wanted, yielded, hd]) ?_
      go_simp
      exact ParPost.same fun _ _ => rfl
    · intro vals W hx hd
      have hW := HF.out W hx
      simp [PDeps, pdeps, Region.binds] at hd
      first
        | refine ParOb.plain rfl ?_
        | refine ParOb.wanted (by simp [Region.wanted, yielded, hd]) ?_
      go_simp
      exact ParPost.same fun _ _ => rfl
    · intro vals W hx hd
      have hW := HF.out W hx
      simp [PDeps, pdeps, Region.binds] at hd
      first
        | refine ParOb.plain rfl ?_
        | refine ParOb.wanted (by simp [Region.wanted, yielded, hd]) ?_
      go_simp
      exact ParPost.same fun _ _ => rfl
    · intro vals W hx hd
      have hW := HF.out W hx
      simp [PDeps, pdeps, Region.binds] at hd
      first
        | refine ParOb.plain rfl ?_
        | refine ParOb.wanted (by simp [Region.wanted, yielded, hd]) ?_
      go_simp
      exact ParPost.same fun _ _ => rfl
    · intro vals W hx hd
      have hW := HF.out W hx
      simp [PDeps, pdeps, Region.binds] at hd
      first
        | refine ParOb.plain rfl ?_
        | refine ParOb.wanted (by simp [Region.wanted, yielded, hd]) ?_
      go_simp
      exact ParPost.same fun _ _ => rfl
    · intro vals W hx hd
      have hW := HF.out W hx
      simp [PDeps, pdeps, Region.binds] at hd
      first
        | refine ParOb.plain rfl ?_
        | refine ParOb.wanted (by simp [Region.wanted, yielded, hd]) ?_
      go_simp
      exact ParPost.same fun _ _ => rfl
  intro vals W hx hf
  simp (maxSteps := 20000000) only [ParFacts, List.take_succ_cons, List.take_zero, and_true] at hf
  simp (maxSteps := 20000000) only [List.drop_succ_cons, List.drop_zero, List.take_succ_cons, List.take_zero, ParEnd, Act.put, List.setIfInBounds_toArray, List.set_cons_succ, List.set_cons_zero, hf]
  clear hf
  obtain ⟨e5, Fx, hres, hfin⟩ := rank_res hx4 hy4 hzp hzq
  have HRes := Lib.hid hres
  have HFin := Lib.hid hfin
  clear hres hfin HF
  rename World => W4
  have HX4 : Hid (Below w.heap.size w W4) := Lib.hid (HX3.out.trans (hx.mono HX3.out.size))
  have HC4 := Lib.hid (HC.out.keep hx)
  have HO4 := Lib.hid (HO.out.keep hx)
  have HF4 := Lib.hid (HF3.out.ext hx)
  have HR4 := Lib.hid (HR3.out.ext hx)
  clear hx HX3 HC HO HF3 HR3 HM
  repeat (first | go_values | go_skip | go_guarded | go_step | go_upon)
  have hx4' : (x : Int) < 4 := by omega
  have hy4' : (y : Int) < 4 := by omega
  have HF := Lib.hid (show ∀ W, LeT W4.heap.size Fx W4 W → W.cell? ⟨w2.heap.size, x, none⟩ = some (.string (colOf x)) ∧ W.cell? ⟨w2.heap.size, y, none⟩ = some (.string (colOf y)) from
    fun W hW => ⟨((HC4.out.keep hW.ext).cell x).trans (cols_at hx4), ((HC4.out.keep hW.ext).cell y).trans (cols_at hy4)⟩)
  refine wp_parZG (leT W4.heap.size Fx) [0, 1, 2, 3, 4, 5, 6, 7, 8, 9, 10, 11, 12, 13, 14, 15, 16, 17, 18, 19, 20, 21, 22, 23, 24, 25] 26 26 (fun
      | 0 => fun _ v _ => v = .slice (some ⟨g, 0, none⟩) 7 c
      | 1 => fun _ v _ => v = .agg #[.slice (some ⟨g, 0, none⟩) 7 c]
      | 2 => fun _ v _ => v = .pointer (some ⟨q, 0, none⟩)
      | 3 => fun _ v _ => v = .func (.func 17) #[] #[]
      | 4 => fun _ v _ => v = .slice (some ⟨w2.heap.size, 0, none⟩) 4 4
      | 5 => fun _ v _ => v = .int .i64 (x : Int)
      | 6 => fun _ v _ => v = .pointer (some ⟨w2.heap.size, x, none⟩)
      | 7 => fun _ v _ => v = .string (colOf x)
      | 8 => fun _ v _ => v = .string (nmOf zp)
      | 9 => fun _ => isSide (colOf x) (nmOf zp)
      | 10 => fun _ v _ => v = .func (.func 17) #[] #[]
      | 11 => fun _ v _ => v = .slice (some ⟨w2.heap.size, 0, none⟩) 4 4
      | 12 => fun _ v _ => v = .int .i64 (y : Int)
      | 13 => fun _ v _ => v = .pointer (some ⟨w2.heap.size, y, none⟩)
      | 14 => fun _ v _ => v = .string (colOf y)
      | 15 => fun _ v _ => v = .string (nmOf zq)
      | 16 => fun _ => isSide (colOf y) (nmOf zq)
      | 17 => fun _ => isPair (colOf x) (nmOf zp) (colOf y) (nmOf zq)
      | 18 => fun _ => isCmp (colOf x) (nmOf zp) (colOf y) (nmOf zq)
      | 19 => fun _ => isRes Fx e5
      | 20 => fun _ => isRes Fx e5
      | 21 => fun _ => isVal Fx
      | 22 => fun _ v _ => v = .int .i64 e5
      | 23 => fun _ => newTy W4.heap.size
      | 24 => stored W4.heap.size Fx
      | 25 => fun _ v _ => v = .int .i64 e5
      | _ => fun _ _ _ => True) (fun
      | _ => undef) (by kernel_rfl) (by kernel_rfl) (by kernel_rfl) ?_ ?_ ?_
  · simp (maxSteps := 20000000) only [permL, permOp, List.filterMap_cons, List.filterMap_nil, List.getElem?_cons_succ, List.getElem?_cons_zero, Option.map_some, Option.map_none, List.take_succ_cons, List.take_zero, ParAllG, Act.put, List.setIfInBounds_toArray, List.set_cons_succ, List.set_cons_zero]
    refine ⟨?_, ?_, ?_, ?_, ?_, ?_, ?_, ?_, ?_, ?_, ?_, ?_, ?_, ?_, ?_, ?_, ?_, ?_, ?_, ?_, ?_, ?_, ?_, ?_, ?_, ?_, trivial⟩
    · intro vals W hx hd
      have hW := HF.out W hx
      simp [PDepsG, pdeps, Region.binds, List.idxOf_cons] at hd
      first
        | refine ParObG.plain rfl ?_
        | refine ParObG.wanted (by simp [Region.wanted, yielded, hd]) ?_
      go_simp
      exact ParPostG.same (leT W4.heap.size Fx) fun _ _ => rfl
    · intro vals W hx hd
      have hW := HF.out W hx
      simp [PDepsG, pdeps, Region.binds, List.idxOf_cons] at hd
      first
        | refine ParObG.plain rfl ?_
        | refine ParObG.wanted (by simp [Region.wanted, yielded, hd]) ?_
      go_simp
      exact ParPostG.same (leT W4.heap.size Fx) fun _ _ => rfl
    · intro vals W hx hd
      have hW := HF.out W hx
      simp [PDepsG, pdeps, Region.binds, List.idxOf_cons] at hd
      first
        | refine ParObG.plain rfl ?_
        | refine ParObG.wanted (by simp [Region.wanted, yielded, hd]) ?_
      go_simp
      exact ParPostG.same (leT W4.heap.size Fx) fun _ _ => rfl
    · intro vals W hx hd
      have hW := HF.out W hx
      simp [PDepsG, pdeps, Region.binds, List.idxOf_cons] at hd
      first
        | refine ParObG.plain rfl ?_
        | refine ParObG.wanted (by simp [Region.wanted, yielded, hd]) ?_
      go_simp
      exact ParPostG.same (leT W4.heap.size Fx) fun _ _ => rfl
    · intro vals W hx hd
      have hW := HF.out W hx
      simp [PDepsG, pdeps, Region.binds, List.idxOf_cons] at hd
      first
        | refine ParObG.plain rfl ?_
        | refine ParObG.wanted (by simp [Region.wanted, yielded, hd]) ?_
      go_simp
      exact ParPostG.same (leT W4.heap.size Fx) fun _ _ => rfl
    · intro vals W hx hd
      have hW := HF.out W hx
      simp [PDepsG, pdeps, Region.binds, List.idxOf_cons] at hd
      first
        | refine ParObG.plain rfl ?_
        | refine ParObG.wanted (by simp [Region.wanted, yielded, hd]) ?_
      go_simp
      exact ParPostG.same (leT W4.heap.size Fx) fun _ _ => rfl
    · intro vals W hx hd
      have hW := HF.out W hx
      simp [PDepsG, pdeps, Region.binds, List.idxOf_cons] at hd
      first
        | refine ParObG.plain rfl ?_
        | refine ParObG.wanted (by simp [Region.wanted, yielded, hd]) ?_
      go_simp
      exact ParPostG.same (leT W4.heap.size Fx) fun _ _ => rfl
    · intro vals W hx hd
      have hW := HF.out W hx
      simp [PDepsG, pdeps, Region.binds, List.idxOf_cons] at hd
      first
        | refine ParObG.plain rfl ?_
        | refine ParObG.wanted (by simp [Region.wanted, yielded, hd]) ?_
      go_simp
      exact ParPostG.same (leT W4.heap.size Fx) fun _ _ => rfl
    · intro vals W hx hd
      have hW := HF.out W hx
      simp [PDepsG, pdeps, Region.binds, List.idxOf_cons] at hd
      first
        | refine ParObG.plain rfl ?_
        | refine ParObG.wanted (by simp [Region.wanted, yielded, hd]) ?_
      go_simp
      exact ParPostG.same (leT W4.heap.size Fx) fun _ _ => rfl
    · intro vals W hx hd
      have hW := HF.out W hx
      simp [PDepsG, pdeps, Region.binds, List.idxOf_cons] at hd
      first
        | refine ParObG.plain rfl ?_
        | refine ParObG.wanted (by simp [Region.wanted, yielded, hd]) ?_
      go_simp
      refine (sideN_any (colOf x) (nmOf zp) W (nm_known zp)).mono ?_
      rintro e w9 ⟨⟨d, rfl, hd9⟩, hb9⟩
      exact ⟨_, rfl, LeT.ofExt hb9, fun w10 h10 => ⟨d, rfl, hd9.le h10⟩⟩
    · intro vals W hx hd
      have hW := HF.out W hx
      simp [PDepsG, pdeps, Region.binds, List.idxOf_cons] at hd
      first
        | refine ParObG.plain rfl ?_
        | refine ParObG.wanted (by simp [Region.wanted, yielded, hd]) ?_
      go_simp
      exact ParPostG.same (leT W4.heap.size Fx) fun _ _ => rfl
    · intro vals W hx hd
      have hW := HF.out W hx
      simp [PDepsG, pdeps, Region.binds, List.idxOf_cons] at hd
      first
        | refine ParObG.plain rfl ?_
        | refine ParObG.wanted (by simp [Region.wanted, yielded, hd]) ?_
      go_simp
      exact ParPostG.same (leT W4.heap.size Fx) fun _ _ => rfl
    · intro vals W hx hd
      have hW := HF.out W hx
      simp [PDepsG, pdeps, Region.binds, List.idxOf_cons] at hd
      first
        | refine ParObG.plain rfl ?_
        | refine ParObG.wanted (by simp [Region.wanted, yielded, hd]) ?_
      go_simp
      exact ParPostG.same (leT W4.heap.size Fx) fun _ _ => rfl
    · intro vals W hx hd
      have hW := HF.out W hx
      simp [PDepsG, pdeps, Region.binds, List.idxOf_cons] at hd
      first
        | refine ParObG.plain rfl ?_
        | refine ParObG.wanted (by simp [Region.wanted, yielded, hd]) ?_
      go_simp
      exact ParPostG.same (leT W4.heap.size Fx) fun _ _ => rfl
    · intro vals W hx hd
      have hW := HF.out W hx
      simp [PDepsG, pdeps, Region.binds, List.idxOf_cons] at hd
      first
        | refine ParObG.plain rfl ?_
        | refine ParObG.wanted (by simp [Region.wanted, yielded, hd]) ?_
      go_simp
      exact ParPostG.same (leT W4.heap.size Fx) fun _ _ => rfl
    · intro vals W hx hd
      have hW := HF.out W hx
      simp [PDepsG, pdeps, Region.binds, List.idxOf_cons] at hd
      first
        | refine ParObG.plain rfl ?_
        | refine ParObG.wanted (by simp [Region.wanted, yielded, hd]) ?_
      go_simp
      exact ParPostG.same (leT W4.heap.size Fx) fun _ _ => rfl
    · intro vals W hx hd
      have hW := HF.out W hx
      simp [PDepsG, pdeps, Region.binds, List.idxOf_cons] at hd
      first
        | refine ParObG.plain rfl ?_
        | refine ParObG.wanted (by simp [Region.wanted, yielded, hd]) ?_
      go_simp
      refine (sideN_any (colOf y) (nmOf zq) W (nm_known zq)).mono ?_
      rintro e w9 ⟨⟨d, rfl, hd9⟩, hb9⟩
      exact ⟨_, rfl, LeT.ofExt hb9, fun w10 h10 => ⟨d, rfl, hd9.le h10⟩⟩
    · intro vals W hx hd
      have hW := HF.out W hx
      simp [PDepsG, pdeps, Region.binds, List.idxOf_cons] at hd
      first
        | refine ParObG.plain rfl ?_
        | refine ParObG.wanted (by simp [Region.wanted, yielded, hd]) ?_
      obtain ⟨⟨d, hd1, hd2⟩, ⟨d', hd3, hd4⟩⟩ := hd
      simp only [NdR.cells] at hd1 hd3
      go_simp
      exact ⟨LeT.ofExt ((Ext.refl _).alloc _), fun w10 h10 => ⟨_, d, d', rfl, h10.nd _ _ (Blk.new W (d.cells ++ d'.cells) 31 rfl), (hd2.le (B := W4.heap.size) (Fx := Fx) (LeT.ofExt ((Ext.refl _).alloc _))).le h10, (hd4.le (B := W4.heap.size) (Fx := Fx) (LeT.ofExt ((Ext.refl _).alloc _))).le h10⟩⟩
    · intro vals W hx hd
      have hW := HF.out W hx
      simp [PDepsG, pdeps, Region.binds, List.idxOf_cons] at hd
      first
        | refine ParObG.plain rfl ?_
        | refine ParObG.wanted (by simp [Region.wanted, yielded, hd]) ?_
      obtain ⟨gl, d, d', hv, hb, h1, h2⟩ := hd
      go_simp
      exact ⟨(leT _ _).refl _, fun w10 h10 => ⟨gl, d, d', rfl, h10.nd _ _ hb, h1.le h10, h2.le h10⟩⟩
    · intro vals W hx hd
      have hW := HF.out W hx
      simp [PDepsG, pdeps, Region.binds, List.idxOf_cons] at hd
      first
        | refine ParObG.plain rfl ?_
        | refine ParObG.wanted (by simp [Region.wanted, yielded, hd]) ?_
      obtain ⟨ha1, ha2, ⟨gl, d, d', hv, hb, h1, h2⟩, _⟩ := hd
      go_simp
      refine (exprcmp_any g c q gl d d' (colOf x) (nmOf zp) (colOf y) (nmOf zq) (colT x) (colT y) W (HF4.out.ext hx.ext) (HR4.out.ext hx.ext) (hG.keep (HX4.out.trans (hx.ext.mono HX4.out.size))) hb h1 h2 (colT_ok x) rfl (colT_ok y) rfl).mono ?_
      rintro e w9 ⟨⟨lp, ll, lc, rfl⟩, hb9⟩
      obtain ⟨V, hV1, hV2, hV3, hV4⟩ := HRes.out lp ll lc
      exact ⟨_, rfl, LeT.ofExt hb9, fun w10 h10 => ⟨V, hV1, hV2, hV3, hV4⟩⟩
    · intro vals W hx hd
      have hW := HF.out W hx
      simp [PDepsG, pdeps, Region.binds, List.idxOf_cons] at hd
      first
        | refine ParObG.plain rfl ?_
        | refine ParObG.wanted (by simp [Region.wanted, yielded, hd]) ?_
      go_simp
      exact ⟨(leT _ _).refl _, fun _ _ => hd⟩
    · intro vals W hx hd
      have hW := HF.out W hx
      simp [PDepsG, pdeps, Region.binds, List.idxOf_cons] at hd
      first
        | refine ParObG.plain rfl ?_
        | refine ParObG.wanted (by simp [Region.wanted, yielded, hd]) ?_
      obtain ⟨V, hv, h1, h2, h3⟩ := hd
      go_simp
      exact ⟨(leT _ _).refl _, fun _ _ => ⟨V, rfl, h1, h2, h3⟩⟩
    · intro vals W hx hd
      have hW := HF.out W hx
      simp [PDepsG, pdeps, Region.binds, List.idxOf_cons] at hd
      first
        | refine ParObG.plain rfl ?_
        | refine ParObG.wanted (by simp [Region.wanted, yielded, hd]) ?_
      obtain ⟨V, hv, h1, h2, h3⟩ := hd
      go_simp
      exact ⟨(leT _ _).refl _, fun _ _ => rfl⟩
    · intro vals W hx hd
      have hW := HF.out W hx
      simp [PDepsG, pdeps, Region.binds, List.idxOf_cons] at hd
      first
        | refine ParObG.plain rfl ?_
        | refine ParObG.wanted (by simp [Region.wanted, yielded, hd]) ?_
      go_simp
      exact ⟨LeT.ofExt ((Ext.refl _).alloc _), fun w3 h3 => by
        obtain ⟨cs, h4, h5⟩ := h3.row _ _ (Blk.new W #[.int .i64 0, .int .i64 0, .string ⟨#[]⟩, .string ⟨#[]⟩, .int .i64 0, .slice none 0 0, .int .i64 0, .int .i64 0, .string ⟨#[]⟩] 36 rfl) rfl
        exact ⟨_, cs, rfl, hx.size, h4, h5⟩⟩
    · intro vals W hx hd
      have hW := HF.out W hx
      simp [PDepsG, pdeps, Region.binds, List.idxOf_cons] at hd
      first
        | refine ParObG.plain rfl ?_
        | refine ParObG.wanted (by simp [Region.wanted, yielded, hd]) ?_
      obtain ⟨⟨gc, old, hgv, hge, hgb, hgs⟩, ⟨V, hcv, hV1, hV2, hV3⟩, _⟩ := hd
      refine yields_storeT rfl (by simpa [Act.eval] using hgv) (by simpa [Act.eval] using hcv) hgb hgs hV1 hV2 ?_
      refine ⟨LeT.setRow hgb hge hV1 hV3, fun w10 h10 => ?_⟩
      obtain ⟨cs', k1, k2, k3⟩ := h10.keep gc V (setRow_heap W gc old V _ _ hgb) hV1 hV3
      exact ⟨gc, cs', by simp [dv, ldeps, pdeps, Region.binds, List.idxOf_cons, hgv], hge, k1, k2, k3⟩
    · intro vals W hx hd
      have hW := HF.out W hx
      simp [PDepsG, pdeps, Region.binds, List.idxOf_cons] at hd
      first
        | refine ParObG.plain rfl ?_
        | refine ParObG.wanted (by simp [Region.wanted, yielded, hd]) ?_
      go_simp
      exact ParPostG.same (leT W4.heap.size Fx) fun _ _ => rfl
  · simp (maxSteps := 20000000) only [permL, permOp, List.filterMap_cons, List.filterMap_nil, List.getElem?_cons_succ, List.getElem?_cons_zero, Option.map_some, Option.map_none, List.drop_succ_cons, List.drop_zero, List.take_succ_cons, List.take_zero, Nat.reduceSub, ZAll, ParEnd, Act.put, List.setIfInBounds_toArray, List.set_cons_succ, List.set_cons_zero]
  intro vals W hx hf hz
  simp (maxSteps := 20000000) only [permL, permOp, List.filterMap_cons, List.filterMap_nil, List.getElem?_cons_succ, List.getElem?_cons_zero, Option.map_some, Option.map_none, ParFactsG, List.take_succ_cons, List.take_zero, and_true, Nat.reduceAdd] at hf
  obtain ⟨f0, f1, f2, f3, f4, f5, f6, f7, f8, f9, f10, f11, f12, f13, f14, f15, f16, f17, f18, f19, f20, f21, f22, f23, f24, f25⟩ := hf
  clear hz
  simp (maxSteps := 20000000) only [permL, permOp, List.filterMap_cons, List.filterMap_nil, List.getElem?_cons_succ, List.getElem?_cons_zero, Option.map_some, Option.map_none, List.drop_succ_cons, List.drop_zero, List.take_succ_cons, List.take_zero, Nat.reduceSub, ParEnd, ZTail, Act.put, List.setIfInBounds_toArray, List.set_cons_succ, List.set_cons_zero, Nat.reduceAdd, f0, f1, f2, f3, f4, f5, f6, f7, f8, f10, f11, f12, f13, f14, f15, f22, f25]
  clear f0 f1 f2 f3 f4 f5 f6 f7 f8 f10 f11 f12 f13 f14 f15 f22 f25
  obtain ⟨g20, cs20, hds, _, hb20, _, hfx⟩ := f24
  simp [dv, ldeps, pdeps, Region.binds, List.idxOf_cons] at hds
  have hW5 := hx.ext
  have HX5 : Hid (Below w.heap.size w W) := Lib.hid (HX4.out.trans (hW5.mono HX4.out.size))
  have HO5 := Lib.hid (HO4.out.keep hW5)
  have HC5 := Lib.hid (HC4.out.keep hW5)
  have HF5 := Lib.hid (HF4.out.ext hW5)
  have HR5 := Lib.hid (HR4.out.ext hW5)
  have H20 := Lib.hid hb20
  have HFx := Lib.hid hfx
  have cx := (HC5.out.cell x).trans (cols_at hx4)
  have cox := (HO5.out.cell x).trans (own_at hx4)
  have coy := (HO5.out.cell y).trans (own_at hy4)
  have c20 := hb20.cell
  clear f9 f16 f17 f18 f19 f20 f21 f23 hx hW5 hb20 hfx HF HRes
  rw [hds]
  clear hds
  go_simp
  have hpE : ((nmOf zp).toList == []) = decide (nmOf zp = ⟨#[]⟩) := nm_emp zp (mem4 hzp)
  have hqE : ((nmOf zq).toList == []) = decide (nmOf zq = ⟨#[]⟩) := nm_emp zq (mem4 hzq)
  have hbE : ((nmOf zp).toList == (nmOf zq).toList) = decide (nmOf zp = nmOf zq) := nm_beq zp (mem4 hzp) zq (mem4 hzq)
  have HE := Lib.hid (And.intro hpE (And.intro hqE hbE))
  clear hpE hqE hbE
  cases hp0 : ((nmOf zp).toList == []) <;> cases hq0 : ((nmOf zq).toList == []) <;> cases hpq : ((nmOf zp).toList == (nmOf zq).toList)
  · have hpe : nmOf zp ≠ ⟨#[]⟩ := by have := HE.out.1; rw [hp0] at this; simpa using this
    have hqe : nmOf zq ≠ ⟨#[]⟩ := by have := HE.out.2.1; rw [hq0] at this; simpa using this
    have hpqe : nmOf zp ≠ nmOf zq := by have := HE.out.2.2; rw [hpq] at this; simpa using this
    have hwn : wantOf x y zp zq = none := by unfold wantOf; rw [if_pos ⟨hpe, hqe, hpqe⟩]
    rcases HFin.out with ⟨_, he, hf⟩ | ⟨cw, hw, _, _⟩
    · have c26 := (c20 6).trans (hf cs20 HFx.out)
      subst he
      clear hpe hqe hpqe hwn hf c20
      repeat (first | go_values | go_skip | go_guarded | go_step | go_upon)
      refine (awake_any W).mono ?_
      rintro e w9 ⟨rfl, hb9⟩
      have hbE := HX5.out.trans (hb9.mono HX5.out.size)
      clear hb9
      go_simp
      repeat (first | go_values | go_skip | go_guarded | go_step | go_upon)
      go_ret
      exact ⟨rfl, hbE⟩
    · rw [hwn] at hw
      cases hw
  · have hpe : nmOf zp ≠ ⟨#[]⟩ := by have := HE.out.1; rw [hp0] at this; simpa using this
    have hpqe : nmOf zp = nmOf zq := by have := HE.out.2.2; rw [hpq] at this; simpa using this
    have hwn : wantOf x y zp zq = some (nmOf zp) := by unfold wantOf; rw [if_neg (fun h => h.2.2 hpqe), if_pos hpe]
    have hlit : litOf x zp = nmOf zp := by unfold litOf; rw [if_neg hpe]
    rcases HFin.out with ⟨hw, _, _⟩ | ⟨cw, hw, he, hf⟩
    · rw [hwn] at hw; cases hw
    rw [hwn] at hw
    obtain rfl := Option.some.inj hw
    have HC2 := Lib.hid (hf cs20 HFx.out)
    have HL := Lib.hid hlit
    subst he
    clear hpe hpqe hwn hf c20 hlit hw
    repeat (first | go_values | go_skip | go_guarded | go_step | go_upon)
    refine (sideN_any (colOf x) (nmOf zp) W (nm_known zp)).mono ?_
    rintro e w9 ⟨⟨d, rfl, hd9⟩, hb9⟩
    have HD9 := Lib.hid hd9
    have HX9 := Lib.hid hb9
    clear hd9 hb9
    go_simp
    simp only [NdR.cells]
    repeat (first | go_values | go_skip | go_guarded | go_step | go_upon)
    have hl : Blk (w9.alloc (.cells #[.int .i64 d.k, .int .i64 d.o, .string d.s, .string d.t, .int .i64 d.n, .slice d.lp d.ll d.lc, .int .i64 3, .int .i64 0, .string ⟨#[120]⟩, .string ⟨#[]⟩, .int .i64 0, .slice none 0 0] 31)) w9.heap.size (d.cells ++ (ndTxt ⟨#[120]⟩).cells) 31 := by
      rw [show d.cells ++ (ndTxt ⟨#[120]⟩).cells = #[.int .i64 d.k, .int .i64 d.o, .string d.s, .string d.t, .int .i64 d.n, .slice d.lp d.ll d.lc, .int .i64 3, .int .i64 0, .string ⟨#[120]⟩, .string ⟨#[]⟩, .int .i64 0, .slice none 0 0] from rfl]
      exact Blk.new w9 _ _ rfl
    have hE : Ext W (w9.alloc (.cells #[.int .i64 d.k, .int .i64 d.o, .string d.s, .string d.t, .int .i64 d.n, .slice d.lp d.ll d.lc, .int .i64 3, .int .i64 0, .string ⟨#[120]⟩, .string ⟨#[]⟩, .int .i64 0, .slice none 0 0] 31)) := Ext.trans HX9.out ((Ext.refl w9).alloc _)
    have hd10 : SideN (w9.alloc (.cells #[.int .i64 d.k, .int .i64 d.o, .string d.s, .string d.t, .int .i64 d.n, .slice d.lp d.ll d.lc, .int .i64 3, .int .i64 0, .string ⟨#[120]⟩, .string ⟨#[]⟩, .int .i64 0, .slice none 0 0] 31)) d (colOf x) (nmOf zp) := HD9.out.le (B := 0) (Fx := fun _ => True) (LeT.ofExt ((Ext.refl w9).alloc _))
    refine (exprlit_any g c q w9.heap.size d x zp _ (HF5.out.ext hE) (HR5.out.ext hE) (hG.keep (HX5.out.trans (hE.mono HX5.out.size))) hl hd10).mono ?_
    rintro e w11 ⟨⟨lp, ll, lc, rfl⟩, hb11⟩
    have hE11 : Ext W w11 := hE.trans hb11
    have HX11 : Hid (Below w.heap.size w w11) := Lib.hid (HX5.out.trans (hE11.mono HX5.out.size))
    have h20 := H20.out.keep hE11
    have ho := HO5.out.keep hE11
    have c22 := (h20.cell 2).trans HC2.out.1
    have c26 := (h20.cell 6).trans HC2.out.2
    have cox2 := (ho.cell x).trans (own_at hx4)
    have hl20 := h20.lt
    have hlo := ho.lt
    rw [HL.out]
    clear hl hE hd10 hb11 hE11 h20 ho cx cox coy
    go_simp
    repeat (first | go_values | go_skip | go_guarded | go_step | go_upon)
    refine (awake_any _).mono ?_
    rintro e w13 ⟨rfl, hb13⟩
    have hbE := (HX11.out.alloc HX11.out.size _).trans (hb13.mono (HX11.out.alloc HX11.out.size _).size)
    clear hb13
    go_simp
    repeat (first | go_values | go_skip | go_guarded | go_step | go_upon)
    go_ret
    exact ⟨rfl, hbE⟩
  · have hpe : nmOf zp ≠ ⟨#[]⟩ := by have := HE.out.1; rw [hp0] at this; simpa using this
    have hqe : nmOf zq = ⟨#[]⟩ := by have := HE.out.2.1; rw [hq0] at this; simpa using this
    have hwn : wantOf x y zp zq = some (nmOf zp) := by unfold wantOf; rw [if_neg (fun h => h.2.1 hqe), if_pos hpe]
    have hlit : litOf x zp = nmOf zp := by unfold litOf; rw [if_neg hpe]
    rcases HFin.out with ⟨hw, _, _⟩ | ⟨cw, hw, he, hf⟩
    · rw [hwn] at hw; cases hw
    rw [hwn] at hw
    obtain rfl := Option.some.inj hw
    have HC2 := Lib.hid (hf cs20 HFx.out)
    have HL := Lib.hid hlit
    subst he
    clear hpe hqe hwn hf c20 hlit hw
    repeat (first | go_values | go_skip | go_guarded | go_step | go_upon)
    refine (sideN_any (colOf x) (nmOf zp) W (nm_known zp)).mono ?_
    rintro e w9 ⟨⟨d, rfl, hd9⟩, hb9⟩
    have HD9 := Lib.hid hd9
    have HX9 := Lib.hid hb9
    clear hd9 hb9
    go_simp
    simp only [NdR.cells]
    repeat (first | go_values | go_skip | go_guarded | go_step | go_upon)
    have hl : Blk (w9.alloc (.cells #[.int .i64 d.k, .int .i64 d.o, .string d.s, .string d.t, .int .i64 d.n, .slice d.lp d.ll d.lc, .int .i64 3, .int .i64 0, .string ⟨#[120]⟩, .string ⟨#[]⟩, .int .i64 0, .slice none 0 0] 31)) w9.heap.size (d.cells ++ (ndTxt ⟨#[120]⟩).cells) 31 := by
      rw [show d.cells ++ (ndTxt ⟨#[120]⟩).cells = #[.int .i64 d.k, .int .i64 d.o, .string d.s, .string d.t, .int .i64 d.n, .slice d.lp d.ll d.lc, .int .i64 3, .int .i64 0, .string ⟨#[120]⟩, .string ⟨#[]⟩, .int .i64 0, .slice none 0 0] from rfl]
      exact Blk.new w9 _ _ rfl
    have hE : Ext W (w9.alloc (.cells #[.int .i64 d.k, .int .i64 d.o, .string d.s, .string d.t, .int .i64 d.n, .slice d.lp d.ll d.lc, .int .i64 3, .int .i64 0, .string ⟨#[120]⟩, .string ⟨#[]⟩, .int .i64 0, .slice none 0 0] 31)) := Ext.trans HX9.out ((Ext.refl w9).alloc _)
    have hd10 : SideN (w9.alloc (.cells #[.int .i64 d.k, .int .i64 d.o, .string d.s, .string d.t, .int .i64 d.n, .slice d.lp d.ll d.lc, .int .i64 3, .int .i64 0, .string ⟨#[120]⟩, .string ⟨#[]⟩, .int .i64 0, .slice none 0 0] 31)) d (colOf x) (nmOf zp) := HD9.out.le (B := 0) (Fx := fun _ => True) (LeT.ofExt ((Ext.refl w9).alloc _))
    refine (exprlit_any g c q w9.heap.size d x zp _ (HF5.out.ext hE) (HR5.out.ext hE) (hG.keep (HX5.out.trans (hE.mono HX5.out.size))) hl hd10).mono ?_
    rintro e w11 ⟨⟨lp, ll, lc, rfl⟩, hb11⟩
    have hE11 : Ext W w11 := hE.trans hb11
    have HX11 : Hid (Below w.heap.size w w11) := Lib.hid (HX5.out.trans (hE11.mono HX5.out.size))
    have h20 := H20.out.keep hE11
    have ho := HO5.out.keep hE11
    have c22 := (h20.cell 2).trans HC2.out.1
    have c26 := (h20.cell 6).trans HC2.out.2
    have cox2 := (ho.cell x).trans (own_at hx4)
    have hl20 := h20.lt
    have hlo := ho.lt
    rw [HL.out]
    clear hl hE hd10 hb11 hE11 h20 ho cx cox coy
    go_simp
    repeat (first | go_values | go_skip | go_guarded | go_step | go_upon)
    refine (awake_any _).mono ?_
    rintro e w13 ⟨rfl, hb13⟩
    have hbE := (HX11.out.alloc HX11.out.size _).trans (hb13.mono (HX11.out.alloc HX11.out.size _).size)
    clear hb13
    go_simp
    repeat (first | go_values | go_skip | go_guarded | go_step | go_upon)
    go_ret
    exact ⟨rfl, hbE⟩
  · have hpe : nmOf zp ≠ ⟨#[]⟩ := by have := HE.out.1; rw [hp0] at this; simpa using this
    have hqe : nmOf zq = ⟨#[]⟩ := by have := HE.out.2.1; rw [hq0] at this; simpa using this
    have hpqe : nmOf zp = nmOf zq := by have := HE.out.2.2; rw [hpq] at this; simpa using this
    exact absurd (hpqe.trans hqe) hpe
  · have hpe : nmOf zp = ⟨#[]⟩ := by have := HE.out.1; rw [hp0] at this; simpa using this
    have hqe : nmOf zq ≠ ⟨#[]⟩ := by have := HE.out.2.1; rw [hq0] at this; simpa using this
    have hwn : wantOf x y zp zq = some (nmOf zq) := by unfold wantOf; rw [if_neg (fun h => h.1 hpe), if_neg (fun h => h hpe), if_pos hqe]
    have hlit : litOf x zp = ownOf x := by unfold litOf; rw [if_pos hpe]
    rcases HFin.out with ⟨hw, _, _⟩ | ⟨cw, hw, he, hf⟩
    · rw [hwn] at hw; cases hw
    rw [hwn] at hw
    obtain rfl := Option.some.inj hw
    have HC2 := Lib.hid (hf cs20 HFx.out)
    have HL := Lib.hid hlit
    subst he
    clear hpe hqe hwn hf c20 hlit hw
    repeat (first | go_values | go_skip | go_guarded | go_step | go_upon)
    refine (sideN_any (colOf x) (nmOf zp) W (nm_known zp)).mono ?_
    rintro e w9 ⟨⟨d, rfl, hd9⟩, hb9⟩
    have HD9 := Lib.hid hd9
    have HX9 := Lib.hid hb9
    clear hd9 hb9
    go_simp
    simp only [NdR.cells]
    repeat (first | go_values | go_skip | go_guarded | go_step | go_upon)
    have hl : Blk (w9.alloc (.cells #[.int .i64 d.k, .int .i64 d.o, .string d.s, .string d.t, .int .i64 d.n, .slice d.lp d.ll d.lc, .int .i64 3, .int .i64 0, .string ⟨#[120]⟩, .string ⟨#[]⟩, .int .i64 0, .slice none 0 0] 31)) w9.heap.size (d.cells ++ (ndTxt ⟨#[120]⟩).cells) 31 := by
      rw [show d.cells ++ (ndTxt ⟨#[120]⟩).cells = #[.int .i64 d.k, .int .i64 d.o, .string d.s, .string d.t, .int .i64 d.n, .slice d.lp d.ll d.lc, .int .i64 3, .int .i64 0, .string ⟨#[120]⟩, .string ⟨#[]⟩, .int .i64 0, .slice none 0 0] from rfl]
      exact Blk.new w9 _ _ rfl
    have hE : Ext W (w9.alloc (.cells #[.int .i64 d.k, .int .i64 d.o, .string d.s, .string d.t, .int .i64 d.n, .slice d.lp d.ll d.lc, .int .i64 3, .int .i64 0, .string ⟨#[120]⟩, .string ⟨#[]⟩, .int .i64 0, .slice none 0 0] 31)) := Ext.trans HX9.out ((Ext.refl w9).alloc _)
    have hd10 : SideN (w9.alloc (.cells #[.int .i64 d.k, .int .i64 d.o, .string d.s, .string d.t, .int .i64 d.n, .slice d.lp d.ll d.lc, .int .i64 3, .int .i64 0, .string ⟨#[120]⟩, .string ⟨#[]⟩, .int .i64 0, .slice none 0 0] 31)) d (colOf x) (nmOf zp) := HD9.out.le (B := 0) (Fx := fun _ => True) (LeT.ofExt ((Ext.refl w9).alloc _))
    refine (exprlit_any g c q w9.heap.size d x zp _ (HF5.out.ext hE) (HR5.out.ext hE) (hG.keep (HX5.out.trans (hE.mono HX5.out.size))) hl hd10).mono ?_
    rintro e w11 ⟨⟨lp, ll, lc, rfl⟩, hb11⟩
    have hE11 : Ext W w11 := hE.trans hb11
    have HX11 : Hid (Below w.heap.size w w11) := Lib.hid (HX5.out.trans (hE11.mono HX5.out.size))
    have h20 := H20.out.keep hE11
    have ho := HO5.out.keep hE11
    have c22 := (h20.cell 2).trans HC2.out.1
    have c26 := (h20.cell 6).trans HC2.out.2
    have cox2 := (ho.cell x).trans (own_at hx4)
    have hl20 := h20.lt
    have hlo := ho.lt
    rw [HL.out]
    clear hl hE hd10 hb11 hE11 h20 ho cx cox coy
    go_simp
    repeat (first | go_values | go_skip | go_guarded | go_step | go_upon)
    refine (awake_any _).mono ?_
    rintro e w13 ⟨rfl, hb13⟩
    have hbE := (HX11.out.alloc HX11.out.size _).trans (hb13.mono (HX11.out.alloc HX11.out.size _).size)
    clear hb13
    go_simp
    repeat (first | go_values | go_skip | go_guarded | go_step | go_upon)
    go_ret
    exact ⟨rfl, hbE⟩
  · have hpe : nmOf zp = ⟨#[]⟩ := by have := HE.out.1; rw [hp0] at this; simpa using this
    have hqe : nmOf zq ≠ ⟨#[]⟩ := by have := HE.out.2.1; rw [hq0] at this; simpa using this
    have hpqe : nmOf zp = nmOf zq := by have := HE.out.2.2; rw [hpq] at this; simpa using this
    exact absurd (hpqe.symm.trans hpe) hqe
  · have hpe : nmOf zp = ⟨#[]⟩ := by have := HE.out.1; rw [hp0] at this; simpa using this
    have hqe : nmOf zq = ⟨#[]⟩ := by have := HE.out.2.1; rw [hq0] at this; simpa using this
    have hpqe : nmOf zp ≠ nmOf zq := by have := HE.out.2.2; rw [hpq] at this; simpa using this
    exact absurd (hpe.trans hqe.symm) hpqe
  · have hpe : nmOf zp = ⟨#[]⟩ := by have := HE.out.1; rw [hp0] at this; simpa using this
    have hqe : nmOf zq = ⟨#[]⟩ := by have := HE.out.2.1; rw [hq0] at this; simpa using this
    have hlit : litOf x zp = ownOf x := by unfold litOf; rw [if_pos hpe]
    have hob := own_beq x (mem4 hx4) y (mem4 hy4)
    have ho0 := own_ne x (mem4 hx4)
    cases hoo : ((ownOf x).toList == (ownOf y).toList)
    · have hown : ownOf x ≠ ownOf y := by rw [hoo] at hob; simpa using hob
      have hwn : wantOf x y zp zq = none := by unfold wantOf; rw [if_neg (fun h => h.1 hpe), if_neg (fun h => h hpe), if_neg (fun h => h hqe), if_neg hown]
      rcases HFin.out with ⟨_, he, hf⟩ | ⟨cw, hw, _, _⟩
      · have HC2 := Lib.hid (hf cs20 HFx.out)
        subst he
        clear hpe hqe hwn hf hlit hown hob
        have HF := Lib.hid (show ∀ W', Ext W W' → W'.cell? ⟨w2.heap.size + 1, x, none⟩ = some (.string (ownOf x)) ∧ W'.cell? ⟨w2.heap.size + 1, y, none⟩ = some (.string (ownOf y)) from
          fun W' hW => ⟨((HO5.out.keep hW).cell x).trans (own_at hx4), ((HO5.out.keep hW).cell y).trans (own_at hy4)⟩)
        clear cx cox coy c20
        repeat (first | go_values | go_skip | go_guarded | go_step | go_upon)
        refine wp_par 10 (fun
            | 0 => fun v _ => v = .slice (some ⟨w2.heap.size + 1, 0, none⟩) 4 4
            | 1 => fun v _ => v = .int .i64 (x : Int)
            | 2 => fun v _ => v = .pointer (some ⟨w2.heap.size + 1, x, none⟩)
            | 3 => fun v _ => v = .string (ownOf x)
            | 4 => fun v _ => v = .slice (some ⟨w2.heap.size + 1, 0, none⟩) 4 4
            | 5 => fun v _ => v = .int .i64 (y : Int)
            | 6 => fun v _ => v = .pointer (some ⟨w2.heap.size + 1, y, none⟩)
            | 7 => fun v _ => v = .string (ownOf y)
            | 8 => fun v _ => v = .bool false
            | 9 => fun v _ => v = .bool false
            | _ => fun _ _ => True) (by kernel_rfl) (by kernel_rfl) (by kernel_rfl) ?_ ?_
        · simp (maxSteps := 20000000) only [List.take_succ_cons, List.take_zero, ParAll, Act.put, List.setIfInBounds_toArray, List.set_cons_succ, List.set_cons_zero]
          refine ⟨?_, ?_, ?_, ?_, ?_, ?_, ?_, ?_, ?_, ?_, trivial⟩
          · intro vals W hx hd
            have hW := HF.out W hx
            simp [PDeps, pdeps, Region.binds] at hd
            first
              | refine ParOb.plain rfl ?_
              | refine ParOb.wanted (by simp [Region.wanted, yielded, hd]) ?_
            go_simp
            exact ParPost.same fun _ _ => rfl
          · intro vals W hx hd
            have hW := HF.out W hx
            simp [PDeps, pdeps, Region.binds] at hd
            first
              | refine ParOb.plain rfl ?_
              | refine ParOb.wanted (by simp [Region.wanted, yielded, hd]) ?_
            go_simp
            exact ParPost.same fun _ _ => rfl
          · intro vals W hx hd
            have hW := HF.out W hx
            simp [PDeps, pdeps, Region.binds] at hd
            first
              | refine ParOb.plain rfl ?_
              | refine ParOb.wanted (by simp [Region.wanted, yielded, hd]) ?_
            go_simp
            exact ParPost.same fun _ _ => rfl
          · intro vals W hx hd
            have hW := HF.out W hx
            simp [PDeps, pdeps, Region.binds] at hd
            first
              | refine ParOb.plain rfl ?_
              | refine ParOb.wanted (by simp [Region.wanted, yielded, hd]) ?_
            go_simp
            exact ParPost.same fun _ _ => rfl
          · intro vals W hx hd
            have hW := HF.out W hx
            simp [PDeps, pdeps, Region.binds] at hd
            first
              | refine ParOb.plain rfl ?_
              | refine ParOb.wanted (by simp [Region.wanted, yielded, hd]) ?_
            go_simp
            exact ParPost.same fun _ _ => rfl
          · intro vals W hx hd
            have hW := HF.out W hx
            simp [PDeps, pdeps, Region.binds] at hd
            first
              | refine ParOb.plain rfl ?_
              | refine ParOb.wanted (by simp [Region.wanted, yielded, hd]) ?_
            go_simp
            exact ParPost.same fun _ _ => rfl
          · intro vals W hx hd
            have hW := HF.out W hx
            simp [PDeps, pdeps, Region.binds] at hd
            first
              | refine ParOb.plain rfl ?_
              | refine ParOb.wanted (by simp [Region.wanted, yielded, hd]) ?_
            go_simp
            exact ParPost.same fun _ _ => rfl
          · intro vals W hx hd
            have hW := HF.out W hx
            simp [PDeps, pdeps, Region.binds] at hd
            first
              | refine ParOb.plain rfl ?_
              | refine ParOb.wanted (by simp [Region.wanted, yielded, hd]) ?_
            go_simp
            exact ParPost.same fun _ _ => rfl
          · intro vals W hx hd
            have hW := HF.out W hx
            simp [PDeps, pdeps, Region.binds] at hd
            first
              | refine ParOb.plain rfl ?_
              | refine ParOb.wanted (by simp [Region.wanted, yielded, hd]) ?_
            go_simp
            exact ParPost.same fun _ _ => rfl
          · intro vals W hx hd
            have hW := HF.out W hx
            simp [PDeps, pdeps, Region.binds] at hd
            first
              | refine ParOb.plain rfl ?_
              | refine ParOb.wanted (by simp [Region.wanted, yielded, hd]) ?_
            go_simp
            exact ParPost.same fun _ _ => rfl
        intro vals W hx hf
        simp (maxSteps := 20000000) only [ParFacts, List.take_succ_cons, List.take_zero, and_true] at hf
        simp (maxSteps := 20000000) only [List.drop_succ_cons, List.drop_zero, List.take_succ_cons, List.take_zero, ParEnd, Act.put, List.setIfInBounds_toArray, List.set_cons_succ, List.set_cons_zero, hf]
        clear hf
        have HX5 : Hid (Below w.heap.size w W) := Lib.hid (HX5.out.trans (hx.mono HX5.out.size))
        have HO5 := Lib.hid (HO5.out.keep hx)
        have HC5 := Lib.hid (HC5.out.keep hx)
        have HF5 := Lib.hid (HF5.out.ext hx)
        have HR5 := Lib.hid (HR5.out.ext hx)
        have H20 := Lib.hid (H20.out.keep hx)
        have cx := (HC5.out.cell x).trans (cols_at hx4)
        have cox := (HO5.out.cell x).trans (own_at hx4)
        have coy := (HO5.out.cell y).trans (own_at hy4)
        clear hx HF
        have c26 := (H20.out.cell 6).trans HC2.out
        clear HC2
        repeat (first | go_values | go_skip | go_guarded | go_step | go_upon)
        refine (awake_any W).mono ?_
        rintro e w9 ⟨rfl, hb9⟩
        have hbE := HX5.out.trans (hb9.mono HX5.out.size)
        clear hb9
        go_simp
        repeat (first | go_values | go_skip | go_guarded | go_step | go_upon)
        go_ret
        exact ⟨rfl, hbE⟩
      · rw [hwn] at hw
        cases hw
    · have hown : ownOf x = ownOf y := by rw [hoo] at hob; simpa using hob
      have hwn : wantOf x y zp zq = some (ownOf x) := by unfold wantOf; rw [if_neg (fun h => h.1 hpe), if_neg (fun h => h hpe), if_neg (fun h => h hqe), if_pos hown]
      rcases HFin.out with ⟨hw, _, _⟩ | ⟨cw, hw, he, hf⟩
      · rw [hwn] at hw; cases hw
      rw [hwn] at hw
      obtain rfl := Option.some.inj hw
      have HC2 := Lib.hid (hf cs20 HFx.out)
      have HL := Lib.hid hlit
      subst he
      clear hpe hqe hwn hf hlit hown hob hw
      have HF := Lib.hid (show ∀ W', Ext W W' → W'.cell? ⟨w2.heap.size + 1, x, none⟩ = some (.string (ownOf x)) ∧ W'.cell? ⟨w2.heap.size + 1, y, none⟩ = some (.string (ownOf y)) from
        fun W' hW => ⟨((HO5.out.keep hW).cell x).trans (own_at hx4), ((HO5.out.keep hW).cell y).trans (own_at hy4)⟩)
      clear cx cox coy c20
      repeat (first | go_values | go_skip | go_guarded | go_step | go_upon)
      refine wp_par 10 (fun
          | 0 => fun v _ => v = .slice (some ⟨w2.heap.size + 1, 0, none⟩) 4 4
          | 1 => fun v _ => v = .int .i64 (x : Int)
          | 2 => fun v _ => v = .pointer (some ⟨w2.heap.size + 1, x, none⟩)
          | 3 => fun v _ => v = .string (ownOf x)
          | 4 => fun v _ => v = .slice (some ⟨w2.heap.size + 1, 0, none⟩) 4 4
          | 5 => fun v _ => v = .int .i64 (y : Int)
          | 6 => fun v _ => v = .pointer (some ⟨w2.heap.size + 1, y, none⟩)
          | 7 => fun v _ => v = .string (ownOf y)
          | 8 => fun v _ => v = .bool true
          | 9 => fun v _ => v = .bool true
          | _ => fun _ _ => True) (by kernel_rfl) (by kernel_rfl) (by kernel_rfl) ?_ ?_
      · simp (maxSteps := 20000000) only [List.take_succ_cons, List.take_zero, ParAll, Act.put, List.setIfInBounds_toArray, List.set_cons_succ, List.set_cons_zero]
        refine ⟨?_, ?_, ?_, ?_, ?_, ?_, ?_, ?_, ?_, ?_, trivial⟩
        · intro vals W hx hd
          have hW := HF.out W hx
          simp [PDeps, pdeps, Region.binds] at hd
          first
            | refine ParOb.plain rfl ?_
            | refine ParOb.wanted (by simp [Region.wanted, yielded, hd]) ?_
          go_simp
          exact ParPost.same fun _ _ => rfl
        · intro vals W hx hd
          have hW := HF.out W hx
          simp [PDeps, pdeps, Region.binds] at hd
          first
            | refine ParOb.plain rfl ?_
            | refine ParOb.wanted (by simp [Region.wanted, yielded, hd]) ?_
          go_simp
          exact ParPost.same fun _ _ => rfl
        · intro vals W hx hd
          have hW := HF.out W hx
          simp [PDeps, pdeps, Region.binds] at hd
          first
            | refine ParOb.plain rfl ?_
            | refine ParOb.wanted (by simp [Region.wanted, yielded, hd]) ?_
          go_simp
          exact ParPost.same fun _ _ => rfl
        · intro vals W hx hd
          have hW := HF.out W hx
          simp [PDeps, pdeps, Region.binds] at hd
          first
            | refine ParOb.plain rfl ?_
            | refine ParOb.wanted (by simp [Region.wanted, yielded, hd]) ?_
          go_simp
          exact ParPost.same fun _ _ => rfl
        · intro vals W hx hd
          have hW := HF.out W hx
          simp [PDeps, pdeps, Region.binds] at hd
          first
            | refine ParOb.plain rfl ?_
            | refine ParOb.wanted (by simp [Region.wanted, yielded, hd]) ?_
          go_simp
          exact ParPost.same fun _ _ => rfl
        · intro vals W hx hd
          have hW := HF.out W hx
          simp [PDeps, pdeps, Region.binds] at hd
          first
            | refine ParOb.plain rfl ?_
            | refine ParOb.wanted (by simp [Region.wanted, yielded, hd]) ?_
          go_simp
          exact ParPost.same fun _ _ => rfl
        · intro vals W hx hd
          have hW := HF.out W hx
          simp [PDeps, pdeps, Region.binds] at hd
          first
            | refine ParOb.plain rfl ?_
            | refine ParOb.wanted (by simp [Region.wanted, yielded, hd]) ?_
          go_simp
          exact ParPost.same fun _ _ => rfl
        · intro vals W hx hd
          have hW := HF.out W hx
          simp [PDeps, pdeps, Region.binds] at hd
          first
            | refine ParOb.plain rfl ?_
            | refine ParOb.wanted (by simp [Region.wanted, yielded, hd]) ?_
          go_simp
          exact ParPost.same fun _ _ => rfl
        · intro vals W hx hd
          have hW := HF.out W hx
          simp [PDeps, pdeps, Region.binds] at hd
          first
            | refine ParOb.plain rfl ?_
            | refine ParOb.wanted (by simp [Region.wanted, yielded, hd]) ?_
          go_simp
          exact ParPost.same fun _ _ => rfl
        · intro vals W hx hd
          have hW := HF.out W hx
          simp [PDeps, pdeps, Region.binds] at hd
          first
            | refine ParOb.plain rfl ?_
            | refine ParOb.wanted (by simp [Region.wanted, yielded, hd]) ?_
          go_simp
          exact ParPost.same fun _ _ => rfl
      intro vals W hx hf
      simp (maxSteps := 20000000) only [ParFacts, List.take_succ_cons, List.take_zero, and_true] at hf
      simp (maxSteps := 20000000) only [List.drop_succ_cons, List.drop_zero, List.take_succ_cons, List.take_zero, ParEnd, Act.put, List.setIfInBounds_toArray, List.set_cons_succ, List.set_cons_zero, hf]
      clear hf
      have HX5 : Hid (Below w.heap.size w W) := Lib.hid (HX5.out.trans (hx.mono HX5.out.size))
      have HO5 := Lib.hid (HO5.out.keep hx)
      have HC5 := Lib.hid (HC5.out.keep hx)
      have HF5 := Lib.hid (HF5.out.ext hx)
      have HR5 := Lib.hid (HR5.out.ext hx)
      have H20 := Lib.hid (H20.out.keep hx)
      have cx := (HC5.out.cell x).trans (cols_at hx4)
      have cox := (HO5.out.cell x).trans (own_at hx4)
      have coy := (HO5.out.cell y).trans (own_at hy4)
      clear hx HF
      repeat (first | go_values | go_skip | go_guarded | go_step | go_upon)
      refine (sideN_any (colOf x) (nmOf zp) W (nm_known zp)).mono ?_
      rintro e w9 ⟨⟨d, rfl, hd9⟩, hb9⟩
      have HD9 := Lib.hid hd9
      have HX9 := Lib.hid hb9
      clear hd9 hb9
      go_simp
      simp only [NdR.cells]
      repeat (first | go_values | go_skip | go_guarded | go_step | go_upon)
      have hl : Blk (w9.alloc (.cells #[.int .i64 d.k, .int .i64 d.o, .string d.s, .string d.t, .int .i64 d.n, .slice d.lp d.ll d.lc, .int .i64 3, .int .i64 0, .string ⟨#[120]⟩, .string ⟨#[]⟩, .int .i64 0, .slice none 0 0] 31)) w9.heap.size (d.cells ++ (ndTxt ⟨#[120]⟩).cells) 31 := by
        rw [show d.cells ++ (ndTxt ⟨#[120]⟩).cells = #[.int .i64 d.k, .int .i64 d.o, .string d.s, .string d.t, .int .i64 d.n, .slice d.lp d.ll d.lc, .int .i64 3, .int .i64 0, .string ⟨#[120]⟩, .string ⟨#[]⟩, .int .i64 0, .slice none 0 0] from rfl]
        exact Blk.new w9 _ _ rfl
      have hE : Ext W (w9.alloc (.cells #[.int .i64 d.k, .int .i64 d.o, .string d.s, .string d.t, .int .i64 d.n, .slice d.lp d.ll d.lc, .int .i64 3, .int .i64 0, .string ⟨#[120]⟩, .string ⟨#[]⟩, .int .i64 0, .slice none 0 0] 31)) := Ext.trans HX9.out ((Ext.refl w9).alloc _)
      have hd10 : SideN (w9.alloc (.cells #[.int .i64 d.k, .int .i64 d.o, .string d.s, .string d.t, .int .i64 d.n, .slice d.lp d.ll d.lc, .int .i64 3, .int .i64 0, .string ⟨#[120]⟩, .string ⟨#[]⟩, .int .i64 0, .slice none 0 0] 31)) d (colOf x) (nmOf zp) := HD9.out.le (B := 0) (Fx := fun _ => True) (LeT.ofExt ((Ext.refl w9).alloc _))
      refine (exprlit_any g c q w9.heap.size d x zp _ (HF5.out.ext hE) (HR5.out.ext hE) (hG.keep (HX5.out.trans (hE.mono HX5.out.size))) hl hd10).mono ?_
      rintro e w11 ⟨⟨lp, ll, lc, rfl⟩, hb11⟩
      have hE11 : Ext W w11 := hE.trans hb11
      have HX11 : Hid (Below w.heap.size w w11) := Lib.hid (HX5.out.trans (hE11.mono HX5.out.size))
      have h20 := H20.out.keep hE11
      have ho := HO5.out.keep hE11
      have c22 := (h20.cell 2).trans HC2.out.1
      have c26 := (h20.cell 6).trans HC2.out.2
      have cox2 := (ho.cell x).trans (own_at hx4)
      have hl20 := h20.lt
      have hlo := ho.lt
      rw [HL.out]
      clear hl hE hd10 hb11 hE11 h20 ho cx cox coy
      go_simp
      repeat (first | go_values | go_skip | go_guarded | go_step | go_upon)
      refine (awake_any _).mono ?_
      rintro e w13 ⟨rfl, hb13⟩
      have hbE := (HX11.out.alloc HX11.out.size _).trans (hb13.mono (HX11.out.alloc HX11.out.size _).size)
      clear hb13
      go_simp
      repeat (first | go_values | go_skip | go_guarded | go_step | go_upon)
      go_ret
      exact ⟨rfl, hbE⟩
end Go.Proofs.YtaoikbpolckobaaGreatDoor
