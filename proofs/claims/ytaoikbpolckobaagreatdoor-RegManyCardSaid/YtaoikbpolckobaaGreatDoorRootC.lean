/-
  The first table is built of its entries: the signs of a key.
-/
import Derived.Test.YtaoikbpolckobaaGreatDoorRootB
import Derived.Test.YtaoikbpolckobaaGreatDoorTrieE
import Derived.Outline
namespace Go.Proofs.YtaoikbpolckobaaGreatDoor
open Go.RowKit
set_option maxRecDepth 100000

theorem infoInt1 : (Tryz.prog.info? 3).map (fun i => (i.zero, i.size, i.bytes)) = some (some (.int .i64 0), 1, 8) := by kernel_rfl
/-- Round k of the loop over a key's places: nothing yet, then the sign. -/
def SgSt (w0 w : World) (c k : Nat) (v : Value) : Prop := (k = 0 ∧ v = .slice none 0 0 ∨ 1 ≤ k ∧ ∃ g cap, v = .slice (some ⟨g, 0, none⟩) 1 cap ∧ w.cell? ⟨g, 0, none⟩ = some (.int .i64 (c : Int))) ∧ Below w0.heap.size w0 w
def SgPost (w : World) (c : Nat) (e : Ending) (w' : World) : Prop := ∃ g cap, e = .returned (.slice (some ⟨g, 0, none⟩) 1 cap) ∧ w'.cell? ⟨g, 0, none⟩ = some (.int .i64 (c : Int)) ∧ Below w.heap.size w w'
set_option maxHeartbeats 1000000 in
theorem signs_one (c : Nat) (hc : c ≤ 1114367) (w : World) : Calls Tryz.prog 139 #[kS c] w (SgPost w c) := by
  have i0 : ∀ W, (Instr.index 169 (.agg #[.int .i64 ((c : Int) + 1), .int .i64 0, .int .i64 0]) (.int .i64 0)).run Tryz.prog W = .ok (.int .i64 ((c : Int) + 1)) W := fun _ => by kernel_rfl
  have i1 : ∀ W, (Instr.index 169 (.agg #[.int .i64 ((c : Int) + 1), .int .i64 0, .int .i64 0]) (.int .i64 1)).run Tryz.prog W = .ok (.int .i64 0) W := fun _ => by kernel_rfl
  have i2 : ∀ W, (Instr.index 169 (.agg #[.int .i64 ((c : Int) + 1), .int .i64 0, .int .i64 0]) (.int .i64 2)).run Tryz.prog W = .ok (.int .i64 0) W := fun _ => by kernel_rfl
  have hpos : decide (0 < (c : Int) + 1) = true := by simp <;> omega
  unfold kS
  go_enter Tryz.func139, Tryz.ntmps139
  go_wp2_with fail
  have hb0 : Below w.heap.size w (w.alloc (.cells #[.int .i64 ((c : Int) + 1), .int .i64 0, .int .i64 0] 169)) := (Below.refl _ _).alloc (Nat.le_refl _) _
  generalize w.alloc (.cells #[.int .i64 ((c : Int) + 1), .int .i64 0, .int .i64 0] 169) = W0 at hb0 ⊢
  have HB0 := Lib.hid hb0
  clear hb0
  go_loopw [3, 7] (fun v i wr => ∃ k : Nat, k ≤ 3 ∧ i = .int .i64 k ∧ SgSt w wr c k v) (fun _ i _ => 3 - (intOf i).toNat)
  case atStart => exact ⟨0, by omega, rfl, .inl ⟨rfl, rfl⟩, HB0.out⟩
  case round =>
    obtain ⟨k, hk, rfl, hown, hb⟩ := hrel
    have HB := Lib.hid hb
    have hbs := hb.size
    clear hb
    rcases hown with ⟨rfl, rfl⟩ | ⟨h1, g, cap, rfl, hcell⟩
    · go_wp2_with (at_builtin; refine wpList_push rfl _ _ _ rfl w.heap.size 3 (.int .i64 0) 1 8 Tryz.underlying70 infoInt1 rfl (by decide) (.slice none 0 0) 0 [] rfl (World.ownsRow_nil _ _ _ _) wr.heap.size 3 #[.int .i64 (c : Int)] rfl (Blk.new _ _ _ rfl) rfl (by simp [Value.oneCell']) (by decide) (by decide) (by simp <;> omega) ?_; intro v2 w2 hown hgr hat)
      obtain ⟨g, cap, rfl⟩ := own_form hown
      have hcell : w2.cell? ⟨g, 0, none⟩ = some (.int .i64 (c : Int)) := by rw [hown.cellAt 0 (by omega)]; rfl
      have HC := Lib.hid hcell
      have HB2 := Lib.hid (show Below w.heap.size w w2 from (HB.out.alloc hbs _).grown hgr (by simp <;> omega) (by simp [Value.ownBlock]))
      clear hown hgr hat hcell
      go_wp2_with fail
      go_roundw
      case rel => exact ⟨1, by omega, rfl, .inr ⟨by omega, g, cap, rfl, HC.out⟩, HB2.out⟩
      case measure => simp [intOf]
    · have HC := Lib.hid hcell
      clear hcell
      rcases k with _ | _ | _ | _ | k
      · omega
      · go_wp2_with fail
        go_roundw
        case rel => exact ⟨2, by omega, rfl, .inr ⟨by omega, g, cap, rfl, HC.out⟩, HB.out⟩
        case measure => simp [intOf]
      · go_wp2_with fail
        go_roundw
        case rel => exact ⟨3, by omega, rfl, .inr ⟨by omega, g, cap, rfl, HC.out⟩, HB.out⟩
        case measure => simp [intOf]
      · go_wp2_with fail
        go_ret
        exact ⟨g, cap, rfl, HC.out, HB.out⟩
      · omega
end Go.Proofs.YtaoikbpolckobaaGreatDoor
