/-
  Pairs of signs and numbers in memory; whether they may be.
-/
import Derived.Test.YtaoikbpolckobaaGreatDoorTrieA
import Derived.Outline
namespace Go.Proofs.YtaoikbpolckobaaGreatDoor
open Go.RowKit
set_option maxRecDepth 100000

/-- A slice of pairs. -/
def PairsAt (w : World) (v : Value) (ps : List (Nat × Int)) : Prop :=
  (v = .slice none 0 0 ∧ ps = []) ∨ ∃ g c, v = .slice (some ⟨g, 0, none⟩) ps.length c ∧ ps.length ≤ c ∧ g < w.heap.size ∧
    ∀ j, j < ps.length → w.cell? ⟨g, j * 2, none⟩ = some (.int .i64 ((ps.getD j (0, 0)).1 : Int)) ∧ w.cell? ⟨g, j * 2 + 1, none⟩ = some (.int .i64 (ps.getD j (0, 0)).2)
theorem PairsAt.ext {w w' : World} {v : Value} {ps : List (Nat × Int)} (h : PairsAt w v ps) (hx : Ext w w') : PairsAt w' v ps := by
  rcases h with h | ⟨g, c, h1, h2, h3, h4⟩
  · exact .inl h
  · exact .inr ⟨g, c, h1, h2, Nat.lt_of_lt_of_le h3 hx.size, fun j hj => ⟨by rw [hx.cell (p := ⟨g, j * 2, none⟩) h3]; exact (h4 j hj).1, by rw [hx.cell (p := ⟨g, j * 2 + 1, none⟩) h3]; exact (h4 j hj).2⟩⟩
def goodPair (p : Nat × Int) : Prop := p.1 ≤ 1114367 ∧ -2147483648 ≤ p.2 ∧ p.2 ≤ 2147483647
theorem valid_any (c : Nat) (v : Int) (w : World) (h1 : c ≤ 1114367) (h2 : -2147483648 ≤ v) (h3 : v ≤ 2147483647) :
    Calls Tryz.prog 204 #[.agg #[.int .i64 c, .int .i64 v]] w fun e w' => e = .returned (.bool true) ∧ Below w.heap.size w w' := by
  have g0 : decide (0 ≤ (c : Int)) = true := by simp
  have g1 : decide ((c : Int) ≤ 1114367) = true := by simp; omega
  have g2 : decide (-2147483648 ≤ v) = true := by simpa using h2
  have g3 : decide (v ≤ 2147483647) = true := by simpa using h3
  go_enter Tryz.func204, Tryz.ntmps204
  go_wp2_with fail
  go_ret
  exact ⟨rfl, by go_grown⟩
theorem notvalid_any (c : Nat) (v : Int) (w : World) (h1 : c ≤ 1114367) (h2 : -2147483648 ≤ v) (h3 : v ≤ 2147483647) :
    Calls Tryz.prog 203 #[.agg #[.int .i64 c, .int .i64 v]] w fun e w' => e = .returned (.bool false) ∧ Below w.heap.size w w' := by
  go_enter Tryz.func203, Tryz.ntmps203
  go_wp2_with fail
  refine (valid_any c v _ h1 h2 h3).mono ?_
  rintro e w2 ⟨rfl, hb⟩
  have HB := Lib.hid (show Below w.heap.size w w2 from Below.trans (by go_grown) (hb.mono (by simp)))
  clear hb
  go_wp2_with fail
  go_ret
  exact ⟨rfl, HB.out⟩
set_option maxHeartbeats 1000000 in
theorem indexPair_none (v : Value) (ps : List (Nat × Int)) (w : World) (hp : PairsAt w v ps) (hlen : ps.length ≤ 1000000) (hg : ∀ p ∈ ps, goodPair p) :
    Calls Tryz.prog 253 #[v, .func (.func 203) #[] #[]] w fun e w' => e = .returned (.int .i64 (-1)) ∧ Below w.heap.size w w' := by
  rcases hp with ⟨rfl, rfl⟩ | ⟨g, c, rfl, hc, hgl, hcell⟩
  · go_enter Tryz.func253, Tryz.ntmps253
    go_wp2_with fail
    go_loopw [8] (fun i wr => i = .int .i64 0 ∧ Ext w wr) (fun _ _ => 0)
    case atStart => exact ⟨rfl, Ext.refl w⟩
    case round =>
      obtain ⟨rfl, hx⟩ := hrel
      have HX := Lib.hid hx
      clear hx
      go_wp2_with fail
      go_ret
      exact ⟨rfl, HX.out⟩
  · have HC := Lib.hid hcell
    have HG := Lib.hid hg
    clear hcell hg
    go_enter Tryz.func253, Tryz.ntmps253
    go_wp2_with fail
    go_loopw [8] (fun i wr => ∃ k : Nat, k ≤ ps.length ∧ i = .int .i64 k ∧ Ext w wr) (fun i _ => ps.length - (intOf i).toNat)
    case atStart => exact ⟨0, Nat.zero_le _, rfl, Ext.refl w⟩
    case round =>
      obtain ⟨k, hk, rfl, hx⟩ := hrel
      have HX := Lib.hid hx
      by_cases hlt : k < ps.length
      · have hgp : goodPair (ps.getD k (0, 0)) := HG.out _ (by rw [List.getD_eq_getElem?_getD, List.getElem?_eq_getElem hlt]; exact List.getElem_mem _)
        obtain ⟨b1, b2, b3⟩ := hgp
        have c1 : wr.cell? ⟨g, k * 2, none⟩ = some (.int .i64 ((ps.getD k (0, 0)).1 : Int)) := by rw [hx.cell (p := ⟨g, k * 2, none⟩) hgl]; exact (HC.out k hlt).1
        have c2 : wr.cell? ⟨g, k * 2 + 1, none⟩ = some (.int .i64 (ps.getD k (0, 0)).2) := by rw [hx.cell (p := ⟨g, k * 2 + 1, none⟩) hgl]; exact (HC.out k hlt).2
        generalize ps.getD k (0, 0) = p at b1 b2 b3 c1 c2
        obtain ⟨pc, pv⟩ := p
        simp only at b1 b2 b3 c1 c2
        clear hx
        go_wp2_with fail
        refine (notvalid_any pc pv _ b1 b2 b3).mono ?_
        rintro e w2 ⟨rfl, hb⟩
        have HB := Lib.hid (HX.out.trans hb)
        clear hb
        go_wp2_with fail
        go_roundw
        case rel => exact ⟨k + 1, by omega, by go_num, HB.out⟩
        case measure => simp [intOf]; omega
      · obtain rfl : k = ps.length := by omega
        clear hx
        go_wp2_with fail
        go_ret
        exact ⟨rfl, HX.out⟩
theorem containsPair_none (v : Value) (ps : List (Nat × Int)) (w : World) (hp : PairsAt w v ps) (hlen : ps.length ≤ 1000000) (hg : ∀ p ∈ ps, goodPair p) :
    Calls Tryz.prog 202 #[v, .func (.func 203) #[] #[]] w fun e w' => e = .returned (.bool false) ∧ Below w.heap.size w w' := by
  have HC := Lib.hid (indexPair_none v ps w hp hlen hg)
  clear hp hg
  go_enter Tryz.func202, Tryz.ntmps202
  go_wp2_with fail
  refine HC.out.mono ?_
  rintro e w2 ⟨rfl, hb⟩
  go_wp2_with fail
  go_ret
  exact ⟨rfl, hb⟩
end Go.Proofs.YtaoikbpolckobaaGreatDoor
