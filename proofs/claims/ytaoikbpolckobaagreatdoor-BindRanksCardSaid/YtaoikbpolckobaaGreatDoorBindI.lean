/-
  Expressions (bind.Expr).
-/
import Derived.Test.YtaoikbpolckobaaGreatDoorBindG
namespace Go.Proofs.YtaoikbpolckobaaGreatDoor
open Go.RowKit
set_option maxRecDepth 100000

def Form9 (v : Value) : Prop := ∃ (k o : Int) (s t : ByteArray) (n : Int) (lp : Option Addr) (ll lc : Nat) (ty r : Int) (c : ByteArray) (e : Int), v = .tuple #[.agg #[.int .i64 k, .int .i64 o, .string s, .string t, .int .i64 n, .slice lp ll lc, .int .i64 ty, .int .i64 r, .string c], .int .i64 e]
theorem Form9.col (k o : Int) (s t : ByteArray) (lp : Option Addr) (ll lc : Nat) (fs : List FdR) : Form9 (colV k o s t lp ll lc fs) := by
  rcases colV_form k o s t lp ll lc fs with h | ⟨i, ty, r, cl, h⟩
  · rw [h]; exact ⟨_, _, _, _, _, _, _, _, _, _, _, _, rfl⟩
  · rw [h]; exact ⟨_, _, _, _, _, _, _, _, _, _, _, _, rfl⟩
theorem Form9.node (k o : Int) (s t : ByteArray) (n : Int) (lp : Option Addr) (ll lc : Nat) (xs : List TyR) (sm : ByteArray) (cty : Int) : Form9 (nodeV k o s t n lp ll lc xs sm cty) := by
  unfold nodeV
  split
  · exact ⟨_, _, _, _, _, _, _, _, _, _, _, _, rfl⟩
  · split
    · rcases testV_form k o t n lp ll lc xs with ⟨e, h⟩ | ⟨cl, h⟩
      · rw [h]; exact ⟨_, _, _, _, _, _, _, _, _, _, _, _, rfl⟩
      · rw [h]; exact ⟨_, _, _, _, _, _, _, _, _, _, _, _, rfl⟩
    · exact ⟨_, _, _, _, _, _, _, _, _, _, _, _, rfl⟩
set_option maxHeartbeats 8000000 in
theorem expr_any (g c nf q : Nat) (k o : Int) (s t : ByteArray) (n : Int) (lp0 : Option Addr) (ll0 lc0 : Nat) (F : Option Addr → Nat → Nat → Value) (ns : List Int) (w : World) (hform : ∀ lp ll lc, Form9 (F lp ll lc))
    (hnode : ∀ W b, Ext w W → Blk W b #[.slice (some ⟨g, 0, none⟩) nf c, .pointer (some ⟨q, 0, none⟩), .nilFunc] 136 →
      Calls Tryz.prog 61 #[.pointer (some ⟨b, 0, none⟩), ndV k o s t n (.slice lp0 ll0 lc0)] W fun e W' => (∃ lp ll lc, e = .returned (F lp ll lc) ∧ NsAt W' lp ll ns) ∧ Below W.heap.size W W') :
    Calls Tryz.prog 18 #[.agg #[.slice (some ⟨g, 0, none⟩) nf c], .pointer (some ⟨q, 0, none⟩), ndV k o s t n (.slice lp0 ll0 lc0)] w fun e w' => (∃ lp ll lc, e = .returned (F lp ll lc) ∧ NsAt w' lp ll ns) ∧ Below w.heap.size w w' := by
  have HNd := Lib.hid hnode
  have HFm := Lib.hid hform
  clear hnode hform
  rw [show ndV k o s t n (.slice lp0 ll0 lc0) = .agg #[.int .i64 k, .int .i64 o, .string s, .string t, .int .i64 n, .slice lp0 ll0 lc0] from rfl]
  go_enter Tryz.func18, Tryz.ntmps18
  repeat (first | go_values | go_skip | go_guarded | go_step | go_upon)
  have hR0 : Blk ((((w.alloc (.cells #[.slice (some ⟨g, 0, none⟩) nf c] 41)).alloc (.cells #[.int .i64 k, .int .i64 o, .string s, .string t, .int .i64 n, .slice lp0 ll0 lc0] 31)).alloc (.cells #[.int .i64 0, .int .i64 0, .string ⟨#[]⟩, .string ⟨#[]⟩, .int .i64 0, .slice none 0 0, .int .i64 0, .int .i64 0, .string ⟨#[]⟩] 36)).alloc (.cells #[.slice (some ⟨g, 0, none⟩) nf c, .pointer (some ⟨q, 0, none⟩), .nilFunc] 136)) (w.heap.size + 1 + 1) #[.int .i64 0, .int .i64 0, .string ⟨#[]⟩, .string ⟨#[]⟩, .int .i64 0, .slice none 0 0, .int .i64 0, .int .i64 0, .string ⟨#[]⟩] 36 := (Blk.new ((w.alloc (.cells #[.slice (some ⟨g, 0, none⟩) nf c] 41)).alloc (.cells #[.int .i64 k, .int .i64 o, .string s, .string t, .int .i64 n, .slice lp0 ll0 lc0] 31)) #[.int .i64 0, .int .i64 0, .string ⟨#[]⟩, .string ⟨#[]⟩, .int .i64 0, .slice none 0 0, .int .i64 0, .int .i64 0, .string ⟨#[]⟩] 36 (by simp)).alloc _
  have hB0 : Blk ((((w.alloc (.cells #[.slice (some ⟨g, 0, none⟩) nf c] 41)).alloc (.cells #[.int .i64 k, .int .i64 o, .string s, .string t, .int .i64 n, .slice lp0 ll0 lc0] 31)).alloc (.cells #[.int .i64 0, .int .i64 0, .string ⟨#[]⟩, .string ⟨#[]⟩, .int .i64 0, .slice none 0 0, .int .i64 0, .int .i64 0, .string ⟨#[]⟩] 36)).alloc (.cells #[.slice (some ⟨g, 0, none⟩) nf c, .pointer (some ⟨q, 0, none⟩), .nilFunc] 136)) (w.heap.size + 1 + 1 + 1) #[.slice (some ⟨g, 0, none⟩) nf c, .pointer (some ⟨q, 0, none⟩), .nilFunc] 136 := Blk.new (((w.alloc (.cells #[.slice (some ⟨g, 0, none⟩) nf c] 41)).alloc (.cells #[.int .i64 k, .int .i64 o, .string s, .string t, .int .i64 n, .slice lp0 ll0 lc0] 31)).alloc (.cells #[.int .i64 0, .int .i64 0, .string ⟨#[]⟩, .string ⟨#[]⟩, .int .i64 0, .slice none 0 0, .int .i64 0, .int .i64 0, .string ⟨#[]⟩] 36)) #[.slice (some ⟨g, 0, none⟩) nf c, .pointer (some ⟨q, 0, none⟩), .nilFunc] 136 (by simp)
  have hb0 : Below w.heap.size w ((((w.alloc (.cells #[.slice (some ⟨g, 0, none⟩) nf c] 41)).alloc (.cells #[.int .i64 k, .int .i64 o, .string s, .string t, .int .i64 n, .slice lp0 ll0 lc0] 31)).alloc (.cells #[.int .i64 0, .int .i64 0, .string ⟨#[]⟩, .string ⟨#[]⟩, .int .i64 0, .slice none 0 0, .int .i64 0, .int .i64 0, .string ⟨#[]⟩] 36)).alloc (.cells #[.slice (some ⟨g, 0, none⟩) nf c, .pointer (some ⟨q, 0, none⟩), .nilFunc] 136)) := by go_grown
  generalize ((((w.alloc (.cells #[.slice (some ⟨g, 0, none⟩) nf c] 41)).alloc (.cells #[.int .i64 k, .int .i64 o, .string s, .string t, .int .i64 n, .slice lp0 ll0 lc0] 31)).alloc (.cells #[.int .i64 0, .int .i64 0, .string ⟨#[]⟩, .string ⟨#[]⟩, .int .i64 0, .slice none 0 0, .int .i64 0, .int .i64 0, .string ⟨#[]⟩] 36)).alloc (.cells #[.slice (some ⟨g, 0, none⟩) nf c, .pointer (some ⟨q, 0, none⟩), .nilFunc] 136)) = W0 at hR0 hB0 hb0 ⊢
  refine (HNd.out W0 _ hb0 hB0).mono ?_
  rintro e w2 ⟨⟨lp, ll, lc, rfl, hns⟩, hb2⟩
  have hR2 := hR0.keep hb2
  have HR := Lib.hid hR2
  have HNs := Lib.hid hns
  have HX : Hid (Below w.heap.size w w2) := Lib.hid (hb0.trans (hb2.mono hb0.size))
  obtain ⟨cr, fr⟩ := hR2.facts
  clear hR0 hB0 hb0 hb2 hR2 hns
  obtain ⟨k', o', s', t', n', lp', ll', lc', ty', r', c', e', hF⟩ := HFm.out lp ll lc
  have HF := Lib.hid hF
  rw [hF]
  clear hF
  go_simp
  repeat (first | go_values | go_skip | go_guarded | go_step | go_upon)
  have hb := HX.out
  refine bodyPost_ret (ret_typed2 rfl _ rfl rfl (blk9 HR.out _ _ _ _ _ _ _ _ _)) rfl ?_
  exact ⟨⟨lp, ll, lc, by rw [HF.out]; rfl, HNs.out.set9 HR.out _ _ _ _ _ _ _ _ _⟩, by go_grown⟩
end Go.Proofs.YtaoikbpolckobaaGreatDoor
