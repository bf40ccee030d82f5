/-
  Kinds and what they bring.
-/
import Derived.Test.YtaoikbpolckobaaGreatDoorBindA
namespace Go.Proofs.YtaoikbpolckobaaGreatDoor
open Go.RowKit
set_option maxRecDepth 100000

def binS : ByteArray := ⟨#[98, 105, 110, 97, 114, 121]⟩
theorem bindliteral_any (w : World) : Calls Tryz.prog 142 #[] w fun e w' => e = .returned (dV 0 binS) ∧ Below w.heap.size w w' := by
  go_enter Tryz.func142, Tryz.ntmps142
  go_wp2_with fail
  go_returns
  exact ⟨rfl, by go_grown⟩
theorem fits_any (a b : Int) (w : World) : Calls Tryz.prog 144 #[.int .i64 a, .int .i64 b] w fun e w' => e = .returned (.bool (a == b || a == 0)) ∧ w = w' := by
  go_enter Tryz.func144, Tryz.ntmps144
  go_wp2_with fail
  all_goals
    go_ret
    refine ⟨?_, rfl⟩
    simp_all
def isText (k : Int) : Bool := k == 3 || k == 0
theorem bindtext_any (a : Int) (w : World) : Calls Tryz.prog 141 #[.int .i64 a] w fun e w' => e = .returned (.bool (isText a)) ∧ w = w' := by
  go_enter Tryz.func141, Tryz.ntmps141
  go_wp2_with fail
  all_goals
    go_ret
    refine ⟨?_, rfl⟩
    simp only [isText]
    simp_all
def kindsR (op : Int) : Value :=
  if op = 18 ∨ op = 19 ∨ op = 22 ∨ op = 21 then .tuple #[.int .i64 1, .int .i64 1, .bool true] else if op = 17 then .tuple #[.int .i64 3, .int .i64 3, .bool true] else .tuple #[.int .i64 2, .int .i64 2, .bool (decide (7 ≤ op ∧ op ≤ 16) || decide (op = 20))]
theorem kinds_any (op : Int) (w : World) : Calls Tryz.prog 145 #[.int .i64 op] w fun e w' => e = .returned (kindsR op) ∧ w = w' := by
  go_enter Tryz.func145, Tryz.ntmps145
  go_wp2_with fail
  all_goals
    go_ret3
    refine ⟨?_, rfl⟩
    simp only [kindsR]
    simp_all
  all_goals first | (rw [Bool.eq_iff_iff]; simp; done) | (rw [Bool.eq_iff_iff]; simp <;> omega)
/-- A node and its row. -/
def ndC (k o : Int) (s t : ByteArray) (n : Int) (l : Value) : Array Value := #[.int .i64 k, .int .i64 o, .string s, .string t, .int .i64 n, l]
def ndV (k o : Int) (s t : ByteArray) (n : Int) (l : Value) : Value := .agg (ndC k o s t n l)
def tyV (k o : Int) (s t : ByteArray) (n : Int) (l : Value) (ty r : Int) (c : ByteArray) : Value := .agg #[.int .i64 k, .int .i64 o, .string s, .string t, .int .i64 n, l, .int .i64 ty, .int .i64 r, .string c]
theorem blk9 {W : World} {g : Nat} {a b c d e f x y z : Value} {t : TypeId} (h : Blk W g #[a, b, c, d, e, f, x, y, z] t) (a' b' c' d' e' f' x' y' z' : Value) :
    Blk (((((((((W.setCell ⟨g, 0, none⟩ a').setCell ⟨g, 1, none⟩ b').setCell ⟨g, 2, none⟩ c').setCell ⟨g, 3, none⟩ d').setCell ⟨g, 4, none⟩ e').setCell ⟨g, 5, none⟩ f').setCell ⟨g, 6, none⟩ x').setCell ⟨g, 7, none⟩ y').setCell ⟨g, 8, none⟩ z') g #[a', b', c', d', e', f', x', y', z'] t := by
  have h0 : Blk _ g #[a', b, c, d, e, f, x, y, z] t := h.set 0 a'
  have h1 : Blk _ g #[a', b', c, d, e, f, x, y, z] t := h0.set 1 b'
  have h2 : Blk _ g #[a', b', c', d, e, f, x, y, z] t := h1.set 2 c'
  have h3 : Blk _ g #[a', b', c', d', e, f, x, y, z] t := h2.set 3 d'
  have h4 : Blk _ g #[a', b', c', d', e', f, x, y, z] t := h3.set 4 e'
  have h5 : Blk _ g #[a', b', c', d', e', f', x, y, z] t := h4.set 5 f'
  have h6 : Blk _ g #[a', b', c', d', e', f', x', y, z] t := h5.set 6 x'
  have h7 : Blk _ g #[a', b', c', d', e', f', x', y', z] t := h6.set 7 y'
  have h8 : Blk _ g #[a', b', c', d', e', f', x', y', z'] t := h7.set 8 z'
  exact h8
theorem ret_typed {t : Tmp} {fn : Func} (h : fn.results = #[.cell t 36]) (tmps : Array Value) {w : World} {g : Nat} {cs : Array Value} (hc : cs.size = 9) (hp : tmps.getD t undef = .pointer (some ⟨g, 0, none⟩)) (hg : Blk w g cs 36) :
    (results fn tmps).run Tryz.prog w = .ok (.agg cs) w :=
  results_cell_row h tmps w g _ cs (0, 0) _ hp hg Tryz.underlying36 rfl (by rw [hc]; kernel_rfl)
theorem typed_any (k o : Int) (s t : ByteArray) (n : Int) (lp : Option Addr) (ll lc : Nat) (ty : Int) (w : World) : Calls Tryz.prog 95 #[ndV k o s t n (.slice lp ll lc), .int .i64 ty] w fun e w' => e = .returned (tyV k o s t n (.slice lp ll lc) ty 0 (if isText ty = true then binS else ⟨#[]⟩)) ∧ Below w.heap.size w w' := by
  cases hT : isText ty
  all_goals
    rw [show ndV k o s t n (.slice lp ll lc) = .agg #[.int .i64 k, .int .i64 o, .string s, .string t, .int .i64 n, .slice lp ll lc] from rfl]
    go_enter Tryz.func95, Tryz.ntmps95
    go_wp2_with fail
    refine (bindtext_any ty _).mono ?_
    rintro e w2 ⟨rfl, rfl⟩
    rw [hT]
    go_wp2_with fail
  · go_returns
    exact ⟨rfl, by go_grown⟩
  · have hA : Blk (((w.alloc (.cells #[.int .i64 k, .int .i64 o, .string s, .string t, .int .i64 n, .slice lp ll lc] 31)).alloc (.cells #[.int .i64 0, .int .i64 0, .string ⟨#[]⟩, .string ⟨#[]⟩, .int .i64 0, .slice none 0 0, .int .i64 0, .int .i64 0, .string ⟨#[]⟩] 36)).alloc (.cells #[.int .i64 k, .int .i64 o, .string s, .string t, .int .i64 n, .slice lp ll lc, .int .i64 ty, .int .i64 0, .string ⟨#[]⟩] 36)) (w.heap.size + 1) #[.int .i64 0, .int .i64 0, .string ⟨#[]⟩, .string ⟨#[]⟩, .int .i64 0, .slice none 0 0, .int .i64 0, .int .i64 0, .string ⟨#[]⟩] 36 := (Blk.new (w.alloc (.cells #[.int .i64 k, .int .i64 o, .string s, .string t, .int .i64 n, .slice lp ll lc] 31)) #[.int .i64 0, .int .i64 0, .string ⟨#[]⟩, .string ⟨#[]⟩, .int .i64 0, .slice none 0 0, .int .i64 0, .int .i64 0, .string ⟨#[]⟩] 36 (by simp)).alloc _
    have hB : Blk (((w.alloc (.cells #[.int .i64 k, .int .i64 o, .string s, .string t, .int .i64 n, .slice lp ll lc] 31)).alloc (.cells #[.int .i64 0, .int .i64 0, .string ⟨#[]⟩, .string ⟨#[]⟩, .int .i64 0, .slice none 0 0, .int .i64 0, .int .i64 0, .string ⟨#[]⟩] 36)).alloc (.cells #[.int .i64 k, .int .i64 o, .string s, .string t, .int .i64 n, .slice lp ll lc, .int .i64 ty, .int .i64 0, .string ⟨#[]⟩] 36)) (w.heap.size + 2) #[.int .i64 k, .int .i64 o, .string s, .string t, .int .i64 n, .slice lp ll lc, .int .i64 ty, .int .i64 0, .string ⟨#[]⟩] 36 := Blk.new ((w.alloc (.cells #[.int .i64 k, .int .i64 o, .string s, .string t, .int .i64 n, .slice lp ll lc] 31)).alloc (.cells #[.int .i64 0, .int .i64 0, .string ⟨#[]⟩, .string ⟨#[]⟩, .int .i64 0, .slice none 0 0, .int .i64 0, .int .i64 0, .string ⟨#[]⟩] 36)) #[.int .i64 k, .int .i64 o, .string s, .string t, .int .i64 n, .slice lp ll lc, .int .i64 ty, .int .i64 0, .string ⟨#[]⟩] 36 (by simp)
    have hb0 : Below w.heap.size w (((w.alloc (.cells #[.int .i64 k, .int .i64 o, .string s, .string t, .int .i64 n, .slice lp ll lc] 31)).alloc (.cells #[.int .i64 0, .int .i64 0, .string ⟨#[]⟩, .string ⟨#[]⟩, .int .i64 0, .slice none 0 0, .int .i64 0, .int .i64 0, .string ⟨#[]⟩] 36)).alloc (.cells #[.int .i64 k, .int .i64 o, .string s, .string t, .int .i64 n, .slice lp ll lc, .int .i64 ty, .int .i64 0, .string ⟨#[]⟩] 36)) := by go_grown
    have hsz : (((w.alloc (.cells #[.int .i64 k, .int .i64 o, .string s, .string t, .int .i64 n, .slice lp ll lc] 31)).alloc (.cells #[.int .i64 0, .int .i64 0, .string ⟨#[]⟩, .string ⟨#[]⟩, .int .i64 0, .slice none 0 0, .int .i64 0, .int .i64 0, .string ⟨#[]⟩] 36)).alloc (.cells #[.int .i64 k, .int .i64 o, .string s, .string t, .int .i64 n, .slice lp ll lc, .int .i64 ty, .int .i64 0, .string ⟨#[]⟩] 36)).heap.size = w.heap.size + 3 := by simp
    generalize (((w.alloc (.cells #[.int .i64 k, .int .i64 o, .string s, .string t, .int .i64 n, .slice lp ll lc] 31)).alloc (.cells #[.int .i64 0, .int .i64 0, .string ⟨#[]⟩, .string ⟨#[]⟩, .int .i64 0, .slice none 0 0, .int .i64 0, .int .i64 0, .string ⟨#[]⟩] 36)).alloc (.cells #[.int .i64 k, .int .i64 o, .string s, .string t, .int .i64 n, .slice lp ll lc, .int .i64 ty, .int .i64 0, .string ⟨#[]⟩] 36)) = W0 at hA hB hb0 hsz ⊢
    refine (bindliteral_any _).mono ?_
    rintro e w2 ⟨rfl, hb⟩
    rw [show dV 0 binS = .agg #[.int .i64 0, .string binS] from rfl]
    have hs2 : w.heap.size + 2 < w2.heap.size := by have := hb.size; omega
    have hA2 := hA.keep hb
    have hB2 := hB.keep hb
    have HB := Lib.hid (hb0.trans (hb.mono (by omega)))
    obtain ⟨ca, fa⟩ := hA2.facts
    obtain ⟨cb, fb⟩ := hB2.facts
    have HA := Lib.hid hA2
    clear hA hB hb0 hsz hb hA2 hB2
    go_wp2_with fail
    have hb := HB.out
    have hf := blk9 ((HA.out.other (a := ⟨w.heap.size + 1 + 1, 7, none⟩) (by simp) (.int .i64 0)).other (a := ⟨w.heap.size + 1 + 1, 8, none⟩) (by simp) (.string binS)) (.int .i64 k) (.int .i64 o) (.string s) (.string t) (.int .i64 n) (.slice lp ll lc) (.int .i64 ty) (.int .i64 0) (.string binS)
    refine bodyPost_ret (ret_typed rfl _ rfl rfl hf) rfl ?_
    exact ⟨rfl, by go_grown⟩
end Go.Proofs.YtaoikbpolckobaaGreatDoor
