/-
  What holds texts against each other (bind.test) for nodes that are no LIKE.
-/
import Derived.Test.YtaoikbpolckobaaGreatDoorBindC
namespace Go.Proofs.YtaoikbpolckobaaGreatDoor
open Go.RowKit
set_option maxRecDepth 100000

def misfit (a m : Int) : Bool := !(a == m || a == 0) && (m != 0)
def kindL : List TyR → Int → Option Int
  | [], m => some m
  | x :: xs, m => if misfit x.ty m = true then none else kindL xs (max m x.ty)
def tyErr (e : Int) : Value := .tuple #[.agg #[.int .i64 0, .int .i64 0, .string ⟨#[]⟩, .string ⟨#[]⟩, .int .i64 0, .slice none 0 0, .int .i64 0, .int .i64 0, .string ⟨#[]⟩], .int .i64 e]
def testV (k o : Int) (t : ByteArray) (n : Int) (lp : Option Addr) (ll lc : Nat) (ts : List TyR) : Value :=
  match kindL ts 0 with
  | none => tyErr 12
  | some _ => match combL ts (0, binS) false with
    | none => tyErr 13
    | some (d, b) => if (b && d.1 == 2) = true then tyErr 13 else .tuple #[tyV k o (if b = true then d.2 else ⟨#[]⟩) t n (.slice lp ll lc) 1 0 ⟨#[]⟩, .int .i64 0]
theorem ret_typed2 {t u : Tmp} {fn : Func} (h : fn.results = #[.cell t 36, .tmp u]) (tmps : Array Value) {w : World} {g : Nat} {cs : Array Value} (hc : cs.size = 9) (hp : tmps.getD t undef = .pointer (some ⟨g, 0, none⟩)) (hg : Blk w g cs 36) :
    (results fn tmps).run Tryz.prog w = .ok (.tuple #[.agg cs, tmps.getD u undef]) w := by
  have hp' : tmps[t]?.getD undef = .pointer (some ⟨g, 0, none⟩) := by simpa using hp
  have hr := run_loadVar_row w g 36 36 cs (0, 0) _ hg Tryz.underlying36 rfl (by rw [hc]; kernel_rfl)
  simp [results, h, hp', asAddr, hr]
set_option maxHeartbeats 8000000 in
theorem test_any (k o : Int) (s t : ByteArray) (n : Int) (lp : Option Addr) (ll lc : Nat) (v : Value) (ts : List TyR) (w : World) (hk8 : k ≠ 8) (hne : ts ≠ []) (hp : TypsAt w v ts) (hlen : ts.length ≤ 1000000) :
    Calls Tryz.prog 99 #[ndV k o s t n (.slice lp ll lc), v] w fun e w' => e = .returned (testV k o t n lp ll lc ts) ∧ Below w.heap.size w w' := by
  have HP := Lib.hid hp
  rcases hp with ⟨rfl, rfl⟩ | ⟨g, c, rfl, hc, hgl, hcell⟩
  · exact absurd rfl hne
  · have HC := Lib.hid hcell
    clear hcell hne
    rw [show ndV k o s t n (.slice lp ll lc) = .agg #[.int .i64 k, .int .i64 o, .string s, .string t, .int .i64 n, .slice lp ll lc] from rfl]
    go_enter Tryz.func99, Tryz.ntmps99
    go_wp2_with fail
    have hA : Blk ((w.alloc (.cells #[.int .i64 k, .int .i64 o, .string s, .string t, .int .i64 n, .slice lp ll lc] 31)).alloc (.cells #[.int .i64 0, .int .i64 0, .string ⟨#[]⟩, .string ⟨#[]⟩, .int .i64 0, .slice none 0 0, .int .i64 0, .int .i64 0, .string ⟨#[]⟩] 36)) w.heap.size #[.int .i64 k, .int .i64 o, .string s, .string t, .int .i64 n, .slice lp ll lc] 31 := (Blk.new w #[.int .i64 k, .int .i64 o, .string s, .string t, .int .i64 n, .slice lp ll lc] 31 rfl).alloc _
    have hB : Blk ((w.alloc (.cells #[.int .i64 k, .int .i64 o, .string s, .string t, .int .i64 n, .slice lp ll lc] 31)).alloc (.cells #[.int .i64 0, .int .i64 0, .string ⟨#[]⟩, .string ⟨#[]⟩, .int .i64 0, .slice none 0 0, .int .i64 0, .int .i64 0, .string ⟨#[]⟩] 36)) (w.heap.size + 1) #[.int .i64 0, .int .i64 0, .string ⟨#[]⟩, .string ⟨#[]⟩, .int .i64 0, .slice none 0 0, .int .i64 0, .int .i64 0, .string ⟨#[]⟩] 36 := Blk.new (w.alloc (.cells #[.int .i64 k, .int .i64 o, .string s, .string t, .int .i64 n, .slice lp ll lc] 31)) #[.int .i64 0, .int .i64 0, .string ⟨#[]⟩, .string ⟨#[]⟩, .int .i64 0, .slice none 0 0, .int .i64 0, .int .i64 0, .string ⟨#[]⟩] 36 (by simp)
    have hb0 : Below w.heap.size w ((w.alloc (.cells #[.int .i64 k, .int .i64 o, .string s, .string t, .int .i64 n, .slice lp ll lc] 31)).alloc (.cells #[.int .i64 0, .int .i64 0, .string ⟨#[]⟩, .string ⟨#[]⟩, .int .i64 0, .slice none 0 0, .int .i64 0, .int .i64 0, .string ⟨#[]⟩] 36)) := by go_grown
    generalize ((w.alloc (.cells #[.int .i64 k, .int .i64 o, .string s, .string t, .int .i64 n, .slice lp ll lc] 31)).alloc (.cells #[.int .i64 0, .int .i64 0, .string ⟨#[]⟩, .string ⟨#[]⟩, .int .i64 0, .slice none 0 0, .int .i64 0, .int .i64 0, .string ⟨#[]⟩] 36)) = W0 at hA hB hb0 ⊢
    go_loopw [6, 14] (fun kd i W => ∃ (j : Nat) (m : Int), j ≤ ts.length ∧ kd = .int .i64 m ∧ i = .int .i64 j ∧ kindL ts 0 = kindL (ts.drop j) m ∧ Blk W w.heap.size #[.int .i64 k, .int .i64 o, .string s, .string t, .int .i64 n, .slice lp ll lc] 31 ∧ Blk W (w.heap.size + 1) #[.int .i64 0, .int .i64 0, .string ⟨#[]⟩, .string ⟨#[]⟩, .int .i64 0, .slice none 0 0, .int .i64 0, .int .i64 0, .string ⟨#[]⟩] 36 ∧ Below w.heap.size w W) (fun _ i _ => ts.length - (intOf i).toNat)
    case atStart => exact ⟨0, 0, Nat.zero_le _, rfl, rfl, rfl, hA, hB, hb0⟩
    case round =>
      obtain ⟨j, m, hj, rfl, rfl, hkl, hN, hR, hX⟩ := hrel
      have HN := Lib.hid hN
      have HR := Lib.hid hR
      have HX := Lib.hid hX
      have HK := Lib.hid hkl
      obtain ⟨cn, fn⟩ := hN.facts
      obtain ⟨cr, fr⟩ := hR.facts
      have hs := hR.lt
      by_cases hlt : j < ts.length
      · have hx : ts[j]? = some ts[j] := List.getElem?_eq_getElem hlt
        have hcs : ∀ i, i < 9 → wr.cell? ⟨g, j * 9 + i, none⟩ = (ts[j]).cells[i]? := fun i hi => by rw [hX.cell (p := ⟨g, j * 9 + i, none⟩) hgl]; exact HC.out j _ hx i hi
        have HDr := Lib.hid (List.drop_eq_getElem_cons hlt)
        have c0 := hcs 0 (by decide)
        have c1 := hcs 1 (by decide)
        have c2 := hcs 2 (by decide)
        have c3 := hcs 3 (by decide)
        have c4 := hcs 4 (by decide)
        have c5 := hcs 5 (by decide)
        have c6 := hcs 6 (by decide)
        have c7 := hcs 7 (by decide)
        have c8 := hcs 8 (by decide)
        clear hcs hx hN hR hX hkl hA hB hb0
        generalize ts[j] = x at c0 c1 c2 c3 c4 c5 c6 c7 c8 HDr
        obtain ⟨xk, xo, xs, xt, xn, xlp, xll, xlc, xty, xr, xc⟩ := x
        simp [TyR.cells] at c0 c1 c2 c3 c4 c5 c6 c7 c8
        go_wp2_with fail
        refine (fits_any xty m _).mono ?_
        rintro e w3 ⟨rfl, rfl⟩
        cases hf : (xty == m || xty == 0) <;> cases hm : (m != 0)
        all_goals
          have hmf : misfit xty m = (!(xty == m || xty == 0) && (m != 0)) := rfl
          rw [hf, hm] at hmf
          go_simp
          repeat (first | go_values | go_skip | go_guarded | go_step | go_upon)
        all_goals first
          | (go_roundw
             case rel => exact ⟨j + 1, max m xty, by omega, by rw [show (max m xty) = if m < xty then xty else m from by split <;> omega], by go_num, by rw [HK.out, HDr.out, kindL]; simp [hmf], HN.out.alloc _, HR.out.alloc _, by have := HX.out; go_grown⟩
             case measure => simp [intOf]; omega)
          | (have hb := HX.out
             have hd : kindL ts 0 = none := by rw [HK.out, HDr.out, kindL]; simp [hmf]
             refine bodyPost_ret (ret_typed2 rfl _ rfl rfl ((blk9 HR.out _ _ _ _ _ _ _ _ _).alloc _)) rfl ?_
             exact ⟨by rw [testV, hd]; rfl, by go_grown⟩)
      · obtain rfl : j = ts.length := by omega
        have hk2 : kindL ts 0 = some m := by rw [hkl, List.drop_length]; rfl
        have hs0 : w.heap.size < wr.heap.size := hN.lt
        have hTy := HP.out.ext hX
        clear hX hN hR hkl hA hB hb0
        go_wp2_with fail
        refine (bindcombine_any _ ts _ hTy hlen).mono ?_
        rintro e w3 ⟨rfl, hb3⟩
        have hX3 : Below w.heap.size w w3 := HX.out.trans (hb3.mono (by omega))
        have hN3 := HN.out.keep hb3
        have hR3 := HR.out.keep hb3
        have HX3 := Lib.hid hX3
        have HN3 := Lib.hid hN3
        have HR3 := Lib.hid hR3
        obtain ⟨cn3, fn3⟩ := hN3.facts
        obtain ⟨cr3, fr3⟩ := hR3.facts
        have hs3 := hR3.lt
        have HK2 := Lib.hid hk2
        rcases hC : combL ts (0, binS) false with _ | ⟨⟨d, c⟩, b⟩
        · clear hk2 hN3 hR3 hX3 hb3 hTy hj hlt hs hs0
          rw [show combLV none = .tuple #[.agg #[.int .i64 0, .string ⟨#[]⟩], .bool false, .int .i64 13] from rfl]
          go_simp
          repeat (first | go_values | go_skip | go_guarded | go_step | go_upon)
          have hb := HX3.out
          refine bodyPost_ret (ret_typed2 rfl _ rfl rfl ((blk9 HR3.out _ _ _ _ _ _ _ _ _).alloc _)) rfl ?_
          exact ⟨by rw [testV, HK2.out, hC]; rfl, by go_grown⟩
        · clear hk2 hN3 hR3 hX3 hb3 hTy hj hlt hs hs0
          rw [show combLV (some ((d, c), b)) = .tuple #[.agg #[.int .i64 d, .string c], .bool b, .int .i64 0] from rfl]
          have hs4 : w.heap.size < w3.heap.size := by omega
          cases b <;> cases hd2 : (d == 2)
          all_goals
            go_simp
            repeat (first | go_values | go_skip | go_guarded | go_step | go_upon)
          · go_simp
            repeat (first | go_values | go_skip | go_guarded | go_step | go_upon)
            refine (typed_any k o ⟨#[]⟩ t n lp ll lc 1 _).mono ?_
            rintro e w4 ⟨rfl, hb4⟩
            have hR4 := ((HR3.out.other (a := ⟨w.heap.size, 2, none⟩) (by simp) (.string ⟨#[]⟩)).alloc _).keep hb4
            have hX4 : Below w.heap.size w w4 := Below.trans (by have := HX3.out; go_grown) (hb4.mono (by simp; omega))
            have HR4 := Lib.hid hR4
            have HX4 := Lib.hid hX4
            obtain ⟨cr4, fr4⟩ := hR4.facts
            clear hR4 hX4 hb4
            rw [show tyV k o ⟨#[]⟩ t n (.slice lp ll lc) 1 0 (if isText 1 = true then binS else ⟨#[]⟩) = .agg #[.int .i64 k, .int .i64 o, .string ⟨#[]⟩, .string t, .int .i64 n, .slice lp ll lc, .int .i64 1, .int .i64 0, .string ⟨#[]⟩] from rfl]
            go_simp
            repeat (first | go_values | go_skip | go_guarded | go_step | go_upon)
            have hb := HX4.out
            refine bodyPost_ret (ret_typed2 rfl _ rfl rfl (blk9 HR4.out _ _ _ _ _ _ _ _ _)) rfl ?_
            exact ⟨by rw [testV, HK2.out, hC]; simp [hd2]; rfl, by go_grown⟩
          · go_simp
            repeat (first | go_values | go_skip | go_guarded | go_step | go_upon)
            refine (typed_any k o ⟨#[]⟩ t n lp ll lc 1 _).mono ?_
            rintro e w4 ⟨rfl, hb4⟩
            have hR4 := ((HR3.out.other (a := ⟨w.heap.size, 2, none⟩) (by simp) (.string ⟨#[]⟩)).alloc _).keep hb4
            have hX4 : Below w.heap.size w w4 := Below.trans (by have := HX3.out; go_grown) (hb4.mono (by simp; omega))
            have HR4 := Lib.hid hR4
            have HX4 := Lib.hid hX4
            obtain ⟨cr4, fr4⟩ := hR4.facts
            clear hR4 hX4 hb4
            rw [show tyV k o ⟨#[]⟩ t n (.slice lp ll lc) 1 0 (if isText 1 = true then binS else ⟨#[]⟩) = .agg #[.int .i64 k, .int .i64 o, .string ⟨#[]⟩, .string t, .int .i64 n, .slice lp ll lc, .int .i64 1, .int .i64 0, .string ⟨#[]⟩] from rfl]
            go_simp
            repeat (first | go_values | go_skip | go_guarded | go_step | go_upon)
            have hb := HX4.out
            refine bodyPost_ret (ret_typed2 rfl _ rfl rfl (blk9 HR4.out _ _ _ _ _ _ _ _ _)) rfl ?_
            exact ⟨by rw [testV, HK2.out, hC]; simp [hd2]; rfl, by go_grown⟩
          · go_simp
            repeat (first | go_values | go_skip | go_guarded | go_step | go_upon)
            go_simp
            repeat (first | go_values | go_skip | go_guarded | go_step | go_upon)
            refine (typed_any k o c t n lp ll lc 1 _).mono ?_
            rintro e w4 ⟨rfl, hb4⟩
            have hR4 := (((HR3.out.other (a := ⟨w.heap.size, 2, none⟩) (by simp) (.string ⟨#[]⟩)).other (a := ⟨w.heap.size, 2, none⟩) (by simp) (.string c)).alloc _).keep hb4
            have hX4 : Below w.heap.size w w4 := Below.trans (by have := HX3.out; go_grown) (hb4.mono (by simp; omega))
            have HR4 := Lib.hid hR4
            have HX4 := Lib.hid hX4
            obtain ⟨cr4, fr4⟩ := hR4.facts
            clear hR4 hX4 hb4
            rw [show tyV k o c t n (.slice lp ll lc) 1 0 (if isText 1 = true then binS else ⟨#[]⟩) = .agg #[.int .i64 k, .int .i64 o, .string c, .string t, .int .i64 n, .slice lp ll lc, .int .i64 1, .int .i64 0, .string ⟨#[]⟩] from rfl]
            go_simp
            repeat (first | go_values | go_skip | go_guarded | go_step | go_upon)
            have hb := HX4.out
            refine bodyPost_ret (ret_typed2 rfl _ rfl rfl (blk9 HR4.out _ _ _ _ _ _ _ _ _)) rfl ?_
            exact ⟨by rw [testV, HK2.out, hC]; simp [hd2]; rfl, by go_grown⟩
          · have hb := HX3.out
            refine bodyPost_ret (ret_typed2 rfl _ rfl rfl ((blk9 HR3.out _ _ _ _ _ _ _ _ _).alloc _)) rfl ?_
            exact ⟨by rw [testV, HK2.out, hC]; simp [hd2]; rfl, by go_grown⟩
end Go.Proofs.YtaoikbpolckobaaGreatDoor
