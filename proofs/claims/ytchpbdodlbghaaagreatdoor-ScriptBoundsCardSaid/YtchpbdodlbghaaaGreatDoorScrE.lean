import Derived.Shelf.Strings.BuilderF
import Derived.Test.YtchpbdodlbghaaaGreatDoorPar
import Derived.Test.YtchpbdodlbghaaaGreatDoorShelf
namespace Go.Proofs.YtchpbdodlbghaaaGreatDoor
open Go.RowKit Go.Lib
set_option maxRecDepth 100000

set_option maxHeartbeats 1000000 in
theorem copyCheck_new (b : Nat) (v : Value) (w : World) (hb : Blk w b #[.pointer none, v] 36) :
    Calls Tryz.prog 19 #[.pointer (some ⟨b, 0, none⟩)] w fun e w' => e = .returned (.tuple #[]) ∧ w' = w.setCell ⟨b, 0, none⟩ (.pointer (some ⟨b, 0, none⟩)) := by
  obtain ⟨j, hj, hjs⟩ := Option.map_eq_some_iff.1 Tryz.Builder_Extra_169.toX72.sizeBuilder
  have hj2 : Tryz.prog.info? 36 = some j := hj
  have h0 : w.cell? ⟨b, 0, none⟩ = some (.pointer none) := hb.cell 0
  have hfz : w.frozen? ⟨b, 0, none⟩ = false := hb.free 0
  have hsh : w.shape? b = some (36, 2) := by
    have : w.heap[b]? = _ := hb
    simp [World.shape?, this]
  go_enter Tryz.func19, Tryz.ntmps19
  go_wp2
  rw [Lib.run_to_unsafe w ⟨b, 0, none⟩ Tryz.underlying34 Tryz.underlying91 hj2 (by rw [hjs]; decide) hsh (Nat.zero_lt_succ 1)]
  simp only [Result.andThen]
  rw [Oper.upon_value]
  go_wp2
  rw [run_callFunc_extern Tryz.func33 (by kernel_rfl) (by kernel_rfl) (by kernel_rfl) (e := Extern.AbiNoEscape.same) (by kernel_rfl)]
  rw [Lib.run_noEscape]
  simp only [Result.andThen]
  rw [Oper.upon_value]
  go_wp2
  rw [Lib.run_from_unsafe w ⟨b, 0, none⟩ Tryz.underlying91 Tryz.underlying34 hj2 hsh Tryz.Builder_Extra_169.toX72.liesBuilder]
  simp only [Result.andThen]
  rw [Oper.upon_value]
  go_wp2
  go_end0
  exact ⟨rfl, rfl⟩
set_option maxHeartbeats 2000000 in
theorem writeString_new (B b : Nat) (s : ByteArray) (w : World) (hb : Blk w b #[.pointer none, .slice none 0 0] 36) (hB : B ≤ b) (hs : s.size ≤ 1000000) :
    Calls Tryz.prog 10 #[.pointer (some ⟨b, 0, none⟩), .string s] w fun e w' => e = .returned (.tuple #[.int .i64 s.size, .nilIface]) ∧ (Lib.BuilderAtF 36 5 B b (.pointer (some ⟨b, 0, none⟩)) (Lib.strCells s) w' ∧ Below B w w') := by
  obtain ⟨i0, hi, hz0, hz1, hz2⟩ := info_parts Tryz.Builder_Extra_169.infoByte
  have hlt := hb.lt
  go_enter Tryz.func10, Tryz.ntmps10
  go_wp2_with fail
  refine (copyCheck_new b _ w hb).mono ?_
  rintro e w1 ⟨rfl, hw1⟩
  have hb1 : Blk w1 b #[.pointer (some ⟨b, 0, none⟩), .slice none 0 0] 36 := by rw [hw1]; exact hb.set 0 _
  have hx1 : Below B w w1 := by rw [hw1]; exact (Below.refl B w).setCell (p := ⟨b, 0, none⟩) hB _
  have hsz : w1.heap.size = w.heap.size := by rw [hw1]; simp
  clear hw1
  obtain ⟨cb, fb⟩ := hb1.facts
  go_wp2_with (at_builtin; refine Lib.wpList_append_own_stringF _ rfl _ _ 24 9 rfl B 5 i0 Tryz.underlying24 Tryz.underlying9 hi hz0 hz1 hz2 _ 0 [] rfl (World.ownsRowF_of (World.ownsRow_nil _ _ _ _)) s rfl ?c3 ?c4 ?c5 ?_)
  case c3 => unfold maxLen; omega
  case c4 => omega
  case c5 => omega
  intro v' w2 hown' hgrow _
  have hb2 : w2.heap[b]? = some (.cells #[.pointer (some ⟨b, 0, none⟩), .slice none 0 0] 36 (0, 0)) := by
    rw [hgrow.block b (by omega) (fun e => by cases e)]
    exact hb1
  have d0 : w2.cell? ⟨b, 0, none⟩ = some (.pointer (some ⟨b, 0, none⟩)) := by rw [Lib.cell_of_heap hb2]; rfl
  have d1 : w2.cell? ⟨b, 1, none⟩ = some (.slice none 0 0) := by rw [Lib.cell_of_heap hb2]; rfl
  have f1 : w2.frozen? ⟨b, 1, none⟩ = false := Lib.frozen_of_heap hb2 1
  obtain ⟨ao, n', cap, rfl⟩ : ∃ ao n' cap, v' = .slice ao n' cap := by
    rcases hown'.2 with ⟨hv, _⟩ | ⟨g, cap, cur, fz, hv, _⟩
    · exact ⟨_, _, _, hv⟩
    · exact ⟨_, _, _, hv⟩
  go_wp2
  go_ret2
  refine ⟨rfl, ?_, ?_⟩
  · exact Lib.BuilderAtF.put (T := 36) (e := 5) hB hb2 (bs' := Lib.strCells s) (by simpa [Lib.strCells_length] using hown') Tryz.Builder_Extra_169.neB5
  · exact (hx1.grown hgrow (by omega) (fun k hk => by cases hk)).setCell (p := ⟨b, 1, none⟩) hB _
theorem strCells_bytes (s : ByteArray) : Lib.strCells s = Lib.byteCells s.data.toList := rfl
end Go.Proofs.YtchpbdodlbghaaaGreatDoor
