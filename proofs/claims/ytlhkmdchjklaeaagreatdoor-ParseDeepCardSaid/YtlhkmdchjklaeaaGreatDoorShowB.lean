/-
  Trees that are shown: an operand, an op's strength and sign; whether two are one tree (parse.at, strength, sign, Same).
-/
import Derived.Test.YtlhkmdchjklaeaaGreatDoorShowA
namespace Go.Proofs.YtlhkmdchjklaeaaGreatDoor
open Go.RowKit Go.Lib
set_option maxRecDepth 100000

set_option maxHeartbeats 4000000 in
theorem at_nd (A : Nat → Prop) (x : PN) (t : Tr) (i : Nat) (w : World) (hT : TrAt A w x t) :
    Calls Tryz.prog 73 #[x.v, .int .i64 i] w fun e w' => (∃ y : PN, e = .returned y.v ∧ TrAt A w' y (((kidsT t)[i]?).getD zTr)) ∧ Ext w w' := by
  obtain ⟨k, o, s, t', n, l⟩ := t
  obtain ⟨_, _, _, _, _, hK⟩ := hT.parts
  obtain ⟨xk, xo, xs, xt, xn, xla, xln, xlc⟩ := x
  simp only [kidsT] at hK ⊢
  simp only [PN.v]
  clear hT
  rcases hK with ⟨rfl, rfl, rfl, rfl⟩ | ⟨g, L, rfl, rfl, hlc, hL, _, hN, hch, _⟩
  · have hltI : ¬ (i : Int) < (0 : Int) := by omega
    simp only [List.getElem?_nil, Option.getD_none]
    go_enter Tryz.func73, Tryz.ntmps73
    go_simp
    repeat (first | go_values | go_skip | go_guarded | go_step | go_upon)
    refine bodyPost_ret (ret_ndP rfl _ rfl rfl (Blk.new _ _ _ (by simp))) rfl ?_
    exact ⟨⟨⟨0, 0, ⟨#[]⟩, ⟨#[]⟩, 0, none, 0, 0⟩, rfl, .leaf 0 0 [] [] 0⟩, ((Ext.refl w).alloc _).alloc _⟩
  · by_cases hlt : i < l.length
    · obtain ⟨y, hy⟩ : ∃ y, L[i]? = some y := ⟨_, List.getElem?_eq_getElem (by omega)⟩
      obtain ⟨z, hz⟩ : ∃ z, l[i]? = some z := ⟨_, List.getElem?_eq_getElem hlt⟩
      rw [hz, Option.getD_some]
      have hltI : (i : Int) < (l.length : Int) := by omega
      have HT := Lib.hid (hch i y z hy hz)
      obtain ⟨c0, c1, c2, c3, c4, c5⟩ := hN.at6 hy
      have hgl := hN.1
      obtain ⟨yk, yo, ys, yt, yn, yla, yln, ylc⟩ := y
      simp only at c0 c1 c2 c3 c4 c5
      clear hN hch hy hz
      go_enter Tryz.func73, Tryz.ntmps73
      go_simp
      repeat (first | go_values | go_skip | go_guarded | go_step | go_upon)
      refine bodyPost_ret (ret_ndP rfl _ rfl rfl (Blk.new _ _ _ (by simp))) rfl ?_
      exact ⟨⟨⟨yk, yo, ys, yt, yn, yla, yln, ylc⟩, rfl, HT.out.ext (((Ext.refl w).alloc _).alloc _)⟩, ((Ext.refl w).alloc _).alloc _⟩
    · have hltI : ¬ (i : Int) < (l.length : Int) := by omega
      rw [List.getElem?_eq_none (by omega), Option.getD_none]
      clear hN hch
      go_enter Tryz.func73, Tryz.ntmps73
      go_simp
      repeat (first | go_values | go_skip | go_guarded | go_step | go_upon)
      refine bodyPost_ret (ret_ndP rfl _ rfl rfl (Blk.new _ _ _ (by simp))) rfl ?_
      exact ⟨⟨⟨0, 0, ⟨#[]⟩, ⟨#[]⟩, 0, none, 0, 0⟩, rfl, .leaf 0 0 [] [] 0⟩, ((Ext.refl w).alloc _).alloc _⟩
/-- An op's level, from one on. -/
def opB (o : Int) (b : Int × List UInt8 × Int) : Bool := b.2.2 == o
def lvl (o : Int) : Nat → Nat → Int
  | 0, _ => 12
  | m + 1, k => if ((binsL k).find? (opB o)).isSome then (k : Int) else lvl o m (k + 1)
def strT (k o : Int) : Int := if k = 7 ∨ k = 8 ∨ k = 9 ∨ k = 10 then 4 else if k = 11 then 11 else if k = 5 then (if o = 21 then 3 else 10) else if k = 6 then lvl o 9 1 else 12
def sgn (o : Int) : Nat → Nat → List UInt8
  | 0, _ => []
  | m + 1, k => match (binsL k).find? (opB o) with | some b => b.2.1 | none => sgn o m (k + 1)
theorem find_drop {α : Type} (p : α → Bool) (L : List α) (j : Nat) (b : α) (h : L[j]? = some b) (hb : p b = false) : (L.drop (j + 1)).find? p = (L.drop j).find? p := by
  obtain ⟨hlt, rfl⟩ := List.getElem?_eq_some_iff.1 h
  rw [List.drop_eq_getElem_cons hlt, List.find?_cons_of_neg (by simp [hb])]
theorem find_here {α : Type} (p : α → Bool) (L : List α) (j : Nat) (b : α) (h : L[j]? = some b) (hb : p b = true) : (L.drop j).find? p = some b := by
  obtain ⟨hlt, rfl⟩ := List.getElem?_eq_some_iff.1 h
  rw [List.drop_eq_getElem_cons hlt, List.find?_cons_of_pos (by simp [hb])]
theorem binsL_few (k : Nat) (hk : k ≤ 12) : (binsL k).length ≤ 6 := by
  rcases (by omega : k = 0 ∨ k = 1 ∨ k = 2 ∨ k = 3 ∨ k = 4 ∨ k = 5 ∨ k = 6 ∨ k = 7 ∨ k = 8 ∨ k = 9 ∨ k = 10 ∨ k = 11 ∨ k = 12) with rfl | rfl | rfl | rfl | rfl | rfl | rfl | rfl | rfl | rfl | rfl | rfl | rfl <;> decide
set_option maxHeartbeats 4000000 in
theorem sign_nd (o : Int) (w : World) : Calls Tryz.prog 137 #[.int .i64 o] w fun e w' => e = .returned (.string ⟨(sgn o 9 1).toArray⟩) ∧ Ext w w' := by
  have KB := Lib.hid (fun k hk W => binaries_any k hk W)
  obtain ⟨R, hR⟩ : ∃ R, R = sgn o 9 1 := ⟨_, rfl⟩
  rw [← hR]
  have HR := Lib.hid hR
  clear hR
  go_enter Tryz.func137, Tryz.ntmps137
  go_simp
  repeat (first | go_values | go_skip | go_guarded | go_step | go_upon)
  go_loopg [3] 9 (fun m lv wr => ∃ kk : Nat, lv = .int .i64 kk ∧ kk + m = 10 ∧ Ext w wr ∧ sgn o m kk = R)
  case atStart => exact ⟨1, rfl, rfl, Ext.refl w, HR.out.symm⟩
  case round =>
    obtain ⟨kk, rfl, hkm, hx, hs⟩ := hrel
    have HX := Lib.hid hx
    have HS := Lib.hid hs
    clear hx hs
    cases gk with
    | zero =>
      obtain rfl : kk = 10 := by omega
      obtain rfl : R = [] := HS.out.symm
      go_simp
      repeat (first | go_values | go_skip | go_guarded | go_step | go_upon)
      go_returns
      exact ⟨rfl, HX.out⟩
    | succ m =>
      have hle : (kk : Int) ≤ 9 := by omega
      have hs := HS.out
      rw [sgn] at hs
      have HS2 := Lib.hid hs
      have hlen := binsL_few kk (by omega)
      clear hs
      go_simp
      repeat (first | go_values | go_skip | go_guarded | go_step | go_upon)
      refine Calls.mono (KB.out kk (by omega) wr) ?_
      rintro e W0 ⟨⟨v, rfl, a, bcap, rfl, hbc, hc⟩, hx0⟩
      have HC := Lib.hid hc
      have HX0 := Lib.hid (Ext.trans HX.out hx0)
      clear hc hx0
      generalize binsL kk = L at HS2 HC hlen hbc ⊢
      go_simp
      repeat (first | go_values | go_skip | go_guarded | go_step | go_upon)
      go_loopg [5, 13] L.length (fun jj _ ix wr2 => ∃ i : Nat, ix = .int .i64 i ∧ i + jj = L.length ∧ Ext W0 wr2 ∧ (L.drop i).find? (opB o) = L.find? (opB o))
      case atStart => exact ⟨0, rfl, by omega, Ext.refl _, by rw [List.drop_zero]⟩
      case round =>
        obtain ⟨i, rfl, hij, hx2, hfd⟩ := hrel
        have HX2 := Lib.hid (Ext.trans HX0.out hx2)
        have HF := Lib.hid hfd
        by_cases hlt : i < L.length
        · obtain ⟨jj, rfl⟩ : ∃ jj, gk = jj + 1 := ⟨gk - 1, by omega⟩
          have hltI : (i : Int) < (L.length : Int) := by omega
          obtain ⟨b, hbe⟩ : ∃ b, L[i]? = some b := ⟨_, List.getElem?_eq_getElem hlt⟩
          obtain ⟨gb, rfl, hgb, c0, c1, c2⟩ := HC.out i b hbe
          have HBE := Lib.hid hbe
          have d0 := (hx2.cell (p := ⟨gb, i * 3, none⟩) hgb).trans c0
          have d1 := (hx2.cell (p := ⟨gb, i * 3 + 1, none⟩) hgb).trans c1
          have d2 := (hx2.cell (p := ⟨gb, i * 3 + 2, none⟩) hgb).trans c2
          have hbl : gb < wr.heap.size := Nat.lt_of_lt_of_le hgb hx2.size
          have HX3 := Lib.hid hx2
          obtain ⟨bk, bt, bo⟩ := b
          simp only at d0 d1 d2
          clear c0 c1 c2 hgb hbe hx2 hfd
          cases hB : bo == o
          · go_simp
            repeat (first | go_values | go_skip | go_guarded | go_step | go_upon)
            go_roundg jj
            case measure => omega
            case rel =>
              exact ⟨i + 1, by simp, by omega, HX3.out.trans ((Ext.refl _).alloc _), by rw [← HF.out]; exact find_drop (opB o) L i _ HBE.out hB⟩
          · go_simp
            repeat (first | go_values | go_skip | go_guarded | go_step | go_upon)
            have hs := HS2.out
            rw [← HF.out, find_here (opB o) L i _ HBE.out hB] at hs
            obtain rfl : R = bt := hs.symm
            go_returns
            exact ⟨rfl, HX2.out.trans ((Ext.refl _).alloc _)⟩
        · obtain rfl : i = L.length := by omega
          obtain rfl : gk = 0 := by omega
          have hltI : ¬ (L.length : Int) < (L.length : Int) := by omega
          have hnone : L.find? (opB o) = none := by rw [← HF.out, List.drop_length]; rfl
          have hs := HS2.out
          rw [hnone] at hs
          have HS3 := Lib.hid hs
          have hk1 := IntWalk.i64_in ((kk : Int) + 1) (by omega)
          clear hx2 hfd hs
          go_simp
          repeat (first | go_values | go_skip | go_guarded | go_step | go_upon)
          go_roundg m
          case measure => omega
          case rel => exact ⟨kk + 1, by simp, by omega, HX2.out, HS3.out⟩
set_option maxHeartbeats 4000000 in
theorem strength_nd (A : Nat → Prop) (x : PN) (k o : Int) (s t : List UInt8) (n : Int) (l : List Tr) (w : World) (hT : TrAt A w x (.mk k o s t n l)) : Calls Tryz.prog 38 #[x.v] w fun e w' => e = .returned (.int .i64 (strT k o)) ∧ Ext w w' := by
  obtain ⟨h1, h2, _, _, _, _⟩ := hT.parts
  obtain ⟨xk, xo, xs, xt, xn, xla, xln, xlc⟩ := x
  simp only at h1 h2
  subst h1 h2
  simp only [PN.v]
  clear hT
  unfold strT
  by_cases k7 : xk = 7 ∨ xk = 8 ∨ xk = 9 ∨ xk = 10
  · rw [if_pos k7]
    rcases k7 with rfl | rfl | rfl | rfl
    all_goals
      go_enter Tryz.func38, Tryz.ntmps38
      go_simp
      repeat (first | go_values | go_skip | go_guarded | go_step | go_upon)
      go_returns
      exact ⟨rfl, (Ext.refl w).alloc _⟩
  rw [if_neg k7]
  have n7 : (xk == 7) = false := by rw [beq_eq_false_iff_ne]; omega
  have n8 : (xk == 8) = false := by rw [beq_eq_false_iff_ne]; omega
  have n9 : (xk == 9) = false := by rw [beq_eq_false_iff_ne]; omega
  have n10 : (xk == 10) = false := by rw [beq_eq_false_iff_ne]; omega
  by_cases k11 : xk = 11
  · rw [if_pos k11]
    subst k11
    go_enter Tryz.func38, Tryz.ntmps38
    go_simp
    repeat (first | go_values | go_skip | go_guarded | go_step | go_upon)
    go_returns
    exact ⟨rfl, (Ext.refl w).alloc _⟩
  rw [if_neg k11]
  have n11 : (xk == 11) = false := by rw [beq_eq_false_iff_ne]; omega
  by_cases k5 : xk = 5
  · rw [if_pos k5]
    subst k5
    by_cases o21 : xo = 21
    · rw [if_pos o21]
      subst o21
      go_enter Tryz.func38, Tryz.ntmps38
      go_simp
      repeat (first | go_values | go_skip | go_guarded | go_step | go_upon)
      go_returns
      exact ⟨rfl, (Ext.refl w).alloc _⟩
    · rw [if_neg o21]
      have no : (xo == 21) = false := by rw [beq_eq_false_iff_ne]; omega
      go_enter Tryz.func38, Tryz.ntmps38
      go_simp
      repeat (first | go_values | go_skip | go_guarded | go_step | go_upon)
      go_returns
      exact ⟨rfl, (Ext.refl w).alloc _⟩
  rw [if_neg k5]
  have n5 : (xk == 5) = false := by rw [beq_eq_false_iff_ne]; omega
  by_cases k6 : xk = 6
  · rw [if_pos k6]
    subst k6
    have KB := Lib.hid (fun k hk W => binaries_any k hk W)
    obtain ⟨R, hR⟩ : ∃ R, R = lvl xo 9 1 := ⟨_, rfl⟩
    rw [← hR]
    have HR := Lib.hid hR
    have HXa := Lib.hid (show Ext w (w.alloc (.cells #[.int .i64 6, .int .i64 xo, .string xs, .string xt, .int .i64 xn, .slice xla xln xlc] 25)) from (Ext.refl w).alloc _)
    have HBa := Lib.hid (Blk.new w #[.int .i64 6, .int .i64 xo, .string xs, .string xt, .int .i64 xn, .slice xla xln xlc] 25 rfl)
    clear hR
    go_enter Tryz.func38, Tryz.ntmps38
    go_simp
    repeat (first | go_values | go_skip | go_guarded | go_step | go_upon)
    generalize w.alloc (.cells #[.int .i64 6, .int .i64 xo, .string xs, .string xt, .int .i64 xn, .slice xla xln xlc] 25) = Wa at HXa HBa ⊢
    go_loopg [3] 9 (fun m lv wr => ∃ kk : Nat, lv = .int .i64 kk ∧ kk + m = 10 ∧ Ext Wa wr ∧ lvl xo m kk = R)
    case atStart => exact ⟨1, rfl, rfl, Ext.refl _, HR.out.symm⟩
    case round =>
      obtain ⟨kk, rfl, hkm, hx, hs⟩ := hrel
      have HX := Lib.hid hx
      have HS := Lib.hid hs
      clear hx hs
      cases gk with
      | zero =>
        obtain rfl : kk = 10 := by omega
        obtain rfl : R = 12 := HS.out.symm
        go_simp
        repeat (first | go_values | go_skip | go_guarded | go_step | go_upon)
        go_returns
        exact ⟨rfl, HXa.out.trans HX.out⟩
      | succ m =>
        have hle : (kk : Int) ≤ 9 := by omega
        have hs := HS.out
        rw [lvl] at hs
        have HS2 := Lib.hid hs
        have hlen := binsL_few kk (by omega)
        clear hs
        go_simp
        repeat (first | go_values | go_skip | go_guarded | go_step | go_upon)
        refine Calls.mono (KB.out kk (by omega) wr) ?_
        rintro e W0 ⟨⟨v, rfl, a, bcap, rfl, hbc, hc⟩, hx0⟩
        have HC := Lib.hid hc
        have HX0 := Lib.hid (Ext.trans HX.out hx0)
        clear hc hx0
        generalize binsL kk = L at HS2 HC hlen hbc ⊢
        go_simp
        repeat (first | go_values | go_skip | go_guarded | go_step | go_upon)
        go_loopg [5, 29] L.length (fun jj _ ix wr2 => ∃ i : Nat, ix = .int .i64 i ∧ i + jj = L.length ∧ Ext W0 wr2 ∧ (L.drop i).find? (opB xo) = L.find? (opB xo))
        case atStart => exact ⟨0, rfl, by omega, Ext.refl _, by rw [List.drop_zero]⟩
        case round =>
          obtain ⟨i, rfl, hij, hx2, hfd⟩ := hrel
          have HX2 := Lib.hid (Ext.trans HX0.out hx2)
          have HF := Lib.hid hfd
          by_cases hlt : i < L.length
          · obtain ⟨jj, rfl⟩ : ∃ jj, gk = jj + 1 := ⟨gk - 1, by omega⟩
            have hltI : (i : Int) < (L.length : Int) := by omega
            obtain ⟨b, hbe⟩ : ∃ b, L[i]? = some b := ⟨_, List.getElem?_eq_getElem hlt⟩
            obtain ⟨gb, rfl, hgb, c0, c1, c2⟩ := HC.out i b hbe
            have HBE := Lib.hid hbe
            have d0 := (hx2.cell (p := ⟨gb, i * 3, none⟩) hgb).trans c0
            have d1 := (hx2.cell (p := ⟨gb, i * 3 + 1, none⟩) hgb).trans c1
            have d2 := (hx2.cell (p := ⟨gb, i * 3 + 2, none⟩) hgb).trans c2
            have hbl : gb < wr.heap.size := Nat.lt_of_lt_of_le hgb hx2.size
            have HX3 := Lib.hid hx2
            obtain ⟨bk, bt, bo⟩ := b
            simp only at d0 d1 d2
            clear c0 c1 c2 hgb hbe hx2 hfd
            obtain ⟨ca, fa⟩ := (HBa.out.keep HX2.out).facts
            have hal := (HBa.out.keep HX2.out).lt
            cases hB : bo == xo
            · go_simp
              repeat (first | go_values | go_skip | go_guarded | go_step | go_upon)
              go_roundg jj
              case measure => omega
              case rel =>
                exact ⟨i + 1, by simp, by omega, HX3.out.trans ((Ext.refl _).alloc _), by rw [← HF.out]; exact find_drop (opB xo) L i _ HBE.out hB⟩
            · go_simp
              repeat (first | go_values | go_skip | go_guarded | go_step | go_upon)
              have hs := HS2.out
              rw [← HF.out, find_here (opB xo) L i _ HBE.out hB] at hs
              obtain rfl : R = (kk : Int) := hs.symm
              go_returns
              exact ⟨rfl, HXa.out.trans (HX2.out.trans ((Ext.refl _).alloc _))⟩
          · obtain rfl : i = L.length := by omega
            obtain rfl : gk = 0 := by omega
            have hltI : ¬ (L.length : Int) < (L.length : Int) := by omega
            have hnone : L.find? (opB xo) = none := by rw [← HF.out, List.drop_length]; rfl
            have hs := HS2.out
            rw [hnone] at hs
            have HS3 := Lib.hid hs
            have hk1 := IntWalk.i64_in ((kk : Int) + 1) (by omega)
            clear hx2 hfd hs
            go_simp
            repeat (first | go_values | go_skip | go_guarded | go_step | go_upon)
            go_roundg m
            case measure => omega
            case rel => exact ⟨kk + 1, by simp, by omega, HX2.out, HS3.out⟩
  rw [if_neg k6]
  have n6 : (xk == 6) = false := by rw [beq_eq_false_iff_ne]; omega
  go_enter Tryz.func38, Tryz.ntmps38
  go_simp
  repeat (first | go_values | go_skip | go_guarded | go_step | go_upon)
  go_returns
  exact ⟨rfl, (Ext.refl w).alloc _⟩
end Go.Proofs.YtlhkmdchjklaeaaGreatDoor
