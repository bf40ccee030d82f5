/-
  What a row of texts brings together.
-/
import Derived.Test.YtaoikbpolckobaaGreatDoorBindB
namespace Go.Proofs.YtaoikbpolckobaaGreatDoor
open Go.RowKit
set_option maxRecDepth 100000

structure TyR where
  k : Int
  o : Int
  s : ByteArray
  t : ByteArray
  n : Int
  lp : Option Addr
  ll : Nat
  lc : Nat
  ty : Int
  r : Int
  c : ByteArray
def TyR.cells (x : TyR) : Array Value := #[.int .i64 x.k, .int .i64 x.o, .string x.s, .string x.t, .int .i64 x.n, .slice x.lp x.ll x.lc, .int .i64 x.ty, .int .i64 x.r, .string x.c]
/-- A slice of bound nodes. -/
def TypsAt (w : World) (v : Value) (ts : List TyR) : Prop :=
  (v = .slice none 0 0 ∧ ts = []) ∨ ∃ g c, v = .slice (some ⟨g, 0, none⟩) ts.length c ∧ ts.length ≤ c ∧ g < w.heap.size ∧
    ∀ j x, ts[j]? = some x → ∀ i, i < 9 → w.cell? ⟨g, j * 9 + i, none⟩ = x.cells[i]?
theorem TypsAt.ext {w w' : World} {v : Value} {ts : List TyR} (h : TypsAt w v ts) (hx : Ext w w') : TypsAt w' v ts := by
  rcases h with h | ⟨g, c, h1, h2, h3, h4⟩
  · exact .inl h
  · exact .inr ⟨g, c, h1, h2, Nat.lt_of_lt_of_le h3 hx.size, fun j x hj i hi => by rw [hx.cell (p := ⟨g, j * 9 + i, none⟩) h3]; exact h4 j x hj i hi⟩
def combF (r : Int) (s : ByteArray) (r' : Int) (s' : ByteArray) : Option (Int × ByteArray) :=
  if r = 3 ∧ r' = 3 ∧ (s.toList == s'.toList) = false then none else if r = 1 ∧ r' = 1 ∧ (s.toList == s'.toList) = false then some (2, ⟨#[]⟩) else if r < r' then some (r', s') else some (r, s)
theorem combR_none {r : Int} {s : ByteArray} {r' : Int} {s' : ByteArray} (h : combF r s r' s' = none) : combR r s r' s' = .tuple #[.agg #[.int .i64 0, .string ⟨#[]⟩], .int .i64 13] := by
  unfold combF at h
  unfold combR
  split at h
  · rw [if_pos ‹_›]; rfl
  · split at h
    · simp at h
    · split at h <;> simp at h
theorem combR_some {r : Int} {s : ByteArray} {r' : Int} {s' : ByteArray} {d : Int × ByteArray} (h : combF r s r' s' = some d) : combR r s r' s' = .tuple #[.agg #[.int .i64 d.1, .string d.2], .int .i64 0] := by
  unfold combF at h
  unfold combR
  split at h
  · simp at h
  · rw [if_neg ‹_›]
    split at h
    · rw [if_pos ‹_›]; injection h with h; subst h; rfl
    · rw [if_neg ‹_›]
      split at h
      · rw [if_pos ‹_›]; injection h with h; subst h; rfl
      · rw [if_neg ‹_›]; injection h with h; subst h; rfl
/-- All of them, from the left. -/
def combL : List TyR → Int × ByteArray → Bool → Option ((Int × ByteArray) × Bool)
  | [], d, b => some (d, b)
  | x :: xs, d, b => if isText x.ty = true then (match combF d.1 d.2 x.r x.c with | none => none | some d' => combL xs d' (b || x.ty == 3)) else combL xs d (b || x.ty == 3)
def combLV : Option ((Int × ByteArray) × Bool) → Value
  | none => .tuple #[.agg #[.int .i64 0, .string ⟨#[]⟩], .bool false, .int .i64 13]
  | some (d, b) => .tuple #[.agg #[.int .i64 d.1, .string d.2], .bool b, .int .i64 0]
theorem ret_deriv3 {t u v : Tmp} {fn : Func} (h : fn.results = #[.cell t 34, .tmp u, .tmp v]) (tmps : Array Value) {w : World} {g : Nat} {cs : Array Value} (hc : cs.size = 2) (hp : tmps.getD t undef = .pointer (some ⟨g, 0, none⟩)) (hg : Blk w g cs 34) :
    (results fn tmps).run Tryz.prog w = .ok (.tuple #[.agg cs, tmps.getD u undef, tmps.getD v undef]) w := by
  have hp' : tmps[t]?.getD undef = .pointer (some ⟨g, 0, none⟩) := by simpa using hp
  have hr := run_loadVar_row w g 34 34 cs (0, 0) _ hg Tryz.underlying34 rfl (by rw [hc]; kernel_rfl)
  simp [results, h, hp', asAddr, hr]
set_option maxHeartbeats 4000000 in
theorem bindcombine_any (v : Value) (ts : List TyR) (w : World) (hp : TypsAt w v ts) (hlen : ts.length ≤ 1000000) :
    Calls Tryz.prog 146 #[v] w fun e w' => e = .returned (combLV (combL ts (0, binS) false)) ∧ Below w.heap.size w w' := by
  rcases hp with ⟨rfl, rfl⟩ | ⟨g, c, rfl, hc, hgl, hcell⟩
  · go_enter Tryz.func146, Tryz.ntmps146
    go_wp2_with fail
    have hA := Blk.new w #[.int .i64 0, .string ⟨#[]⟩] 34 rfl
    have hb0 : Below w.heap.size w (w.alloc (.cells #[.int .i64 0, .string ⟨#[]⟩] 34)) := by go_grown
    have hs0 : (w.alloc (.cells #[.int .i64 0, .string ⟨#[]⟩] 34)).heap.size = w.heap.size + 1 := by simp
    generalize (w.alloc (.cells #[.int .i64 0, .string ⟨#[]⟩] 34)) = W0 at hA hb0 hs0 ⊢
    refine (bindliteral_any _).mono ?_
    rintro e w2 ⟨rfl, hb⟩
    rw [show dV 0 binS = .agg #[.int .i64 0, .string binS] from rfl]
    have hA2 := hA.keep hb
    have HA := Lib.hid hA2
    have HB := Lib.hid (hb0.trans (hb.mono (by omega)))
    obtain ⟨ca, fa⟩ := hA2.facts
    clear hA hb0 hs0 hb hA2
    go_wp2_with fail
    go_loopw [3, 4, 10] (fun b e i W => b = .bool false ∧ e = .int .i64 0 ∧ i = .int .i64 0 ∧ Blk W w.heap.size #[.int .i64 0, .string binS] 34 ∧ Below w.heap.size w W) (fun _ _ _ _ => 0)
    case atStart =>
      have hb := HB.out
      exact ⟨rfl, rfl, rfl, (HA.out.set 0 (.int .i64 0)).set 1 (.string binS), by go_grown⟩
    case round =>
      obtain ⟨rfl, rfl, rfl, hD, hX⟩ := hrel
      have HD := Lib.hid hD
      have HX := Lib.hid hX
      obtain ⟨cd, fd⟩ := hD.facts
      clear hX hD
      go_wp2_with fail
      have hb := HX.out
      refine bodyPost_ret (ret_deriv3 rfl _ rfl rfl ((HD.out.set 0 _).set 1 _)) rfl ?_
      exact ⟨rfl, by go_grown⟩
  · have HC := Lib.hid hcell
    clear hcell
    go_enter Tryz.func146, Tryz.ntmps146
    go_wp2_with fail
    have hA := Blk.new w #[.int .i64 0, .string ⟨#[]⟩] 34 rfl
    have hb0 : Below w.heap.size w (w.alloc (.cells #[.int .i64 0, .string ⟨#[]⟩] 34)) := by go_grown
    have hs0 : (w.alloc (.cells #[.int .i64 0, .string ⟨#[]⟩] 34)).heap.size = w.heap.size + 1 := by simp
    generalize (w.alloc (.cells #[.int .i64 0, .string ⟨#[]⟩] 34)) = W0 at hA hb0 hs0 ⊢
    refine (bindliteral_any _).mono ?_
    rintro e w2 ⟨rfl, hb⟩
    rw [show dV 0 binS = .agg #[.int .i64 0, .string binS] from rfl]
    have hA2 := hA.keep hb
    have HA := Lib.hid hA2
    have HB := Lib.hid (hb0.trans (hb.mono (by omega)))
    obtain ⟨ca, fa⟩ := hA2.facts
    clear hA hb0 hs0 hb hA2
    go_wp2_with fail
    go_loopw [3, 4, 10] (fun b e i W => ∃ (k : Nat) (d : Int × ByteArray) (bb : Bool), k ≤ ts.length ∧ b = .bool bb ∧ e = .int .i64 0 ∧ i = .int .i64 k ∧ combL ts (0, binS) false = combL (ts.drop k) d bb ∧ Blk W w.heap.size #[.int .i64 d.1, .string d.2] 34 ∧ Below w.heap.size w W ∧ w.heap.size < W.heap.size) (fun _ _ i _ => ts.length - (intOf i).toNat)
    case atStart =>
      have hb := HB.out
      exact ⟨0, (0, binS), false, Nat.zero_le _, rfl, rfl, rfl, rfl, (HA.out.set 0 (.int .i64 0)).set 1 (.string binS), by go_grown, by have := HA.out.lt; simpa using this⟩
    case round =>
      obtain ⟨k, ⟨r, s⟩, bb, hk, rfl, rfl, rfl, hcomb, hD, hX, hs⟩ := hrel
      have HCm := Lib.hid hcomb
      have HD := Lib.hid hD
      have HX := Lib.hid hX
      have HS := Lib.hid hs
      obtain ⟨cd, fd⟩ := hD.facts
      by_cases hlt : k < ts.length
      · have hx : ts[k]? = some ts[k] := List.getElem?_eq_getElem hlt
        have hcs : ∀ i, i < 9 → wr.cell? ⟨g, k * 9 + i, none⟩ = (ts[k]).cells[i]? := fun i hi => by rw [hX.cell (p := ⟨g, k * 9 + i, none⟩) hgl]; exact HC.out k _ hx i hi
        have hdrop : ts.drop k = ts[k] :: ts.drop (k + 1) := List.drop_eq_getElem_cons hlt
        have HDr := Lib.hid hdrop
        have c0 := hcs 0 (by decide)
        have c1 := hcs 1 (by decide)
        have c2 := hcs 2 (by decide)
        have c3 := hcs 3 (by decide)
        have c4 := hcs 4 (by decide)
        have c5 := hcs 5 (by decide)
        have c6 := hcs 6 (by decide)
        have c7 := hcs 7 (by decide)
        have c8 := hcs 8 (by decide)
        clear hcs hx hdrop hD hX hcomb
        generalize ts[k] = x at c0 c1 c2 c3 c4 c5 c6 c7 c8 HDr
        obtain ⟨xk, xo, xs, xt, xn, xlp, xll, xlc, xty, xr, xc⟩ := x
        simp [TyR.cells] at c0 c1 c2 c3 c4 c5 c6 c7 c8
        cases bb
        all_goals
          cases hT : isText xty
        all_goals
          go_wp2_with fail
          refine (bindtext_any xty _).mono ?_
          rintro e w3 ⟨rfl, rfl⟩
          rw [hT]
          go_wp2_with fail
        all_goals first
          | (go_roundw
             case rel => exact ⟨k + 1, (r, s), _, by omega, rfl, rfl, by go_num, by rw [HCm.out, HDr.out, combL]; simp [hT], HD.out.alloc _, (by have := HX.out; go_grown), by have := HS.out; simp; omega⟩
             case measure => simp [intOf]; omega)
          | skip
        all_goals
          rcases hC : combF r s xr xc with _ | ⟨r2, s2⟩
        all_goals
          refine (combine_any r s xr xc _).mono ?_
          rintro e w4 ⟨rfl, hb4⟩
          have hD4 := (HD.out.alloc _).keep hb4
          have hX4 : Below w.heap.size w w4 := Below.trans (by have := HX.out; go_grown) (hb4.mono (by have := HS.out; simp; omega))
          have HD4 := Lib.hid hD4
          have HX4 := Lib.hid hX4
          obtain ⟨ce, fe⟩ := hD4.facts
          clear hD4 hX4 hb4
          first
            | (rw [combR_none hC]
               go_wp2_with fail
               have hd : combL ts (0, binS) false = none := by rw [HCm.out, HDr.out, combL]; simp [hT, hC]
               have hb := HX4.out
               refine bodyPost_ret (ret_deriv3 rfl _ rfl rfl ((((HD4.out.set 0 _).set 1 _).set 0 _).set 1 _)) rfl ?_
               exact ⟨by rw [hd]; rfl, by go_grown⟩)
            | (rw [combR_some hC]
               go_wp2_with fail
               go_roundw
               case rel => exact ⟨k + 1, (r2, s2), _, by omega, rfl, rfl, by go_num, by rw [HCm.out, HDr.out, combL]; simp [hT, hC], (HD4.out.set 0 _).set 1 _, (by have := HX4.out; go_grown), by have := HD4.out.lt; simpa using this⟩
               case measure => simp [intOf]; omega)
      · obtain rfl : k = ts.length := by omega
        clear hX hD hcomb
        go_wp2_with fail
        have hd : combL ts (0, binS) false = some ((r, s), bb) := by rw [HCm.out, List.drop_length]; rfl
        have hb := HX.out
        refine bodyPost_ret (ret_deriv3 rfl _ rfl rfl ((HD.out.set 0 (.int .i64 r)).set 1 (.string s))) rfl ?_
        exact ⟨by rw [hd]; rfl, by go_grown⟩
end Go.Proofs.YtaoikbpolckobaaGreatDoor
