/-
  The registry's names, in order.
-/
import Derived.Test.YtaoikbpolckobaaGreatDoorRegB
namespace Go.Proofs.YtaoikbpolckobaaGreatDoor
open Go.RowKit Go.Lib Go.Sort
set_option maxRecDepth 100000

theorem infoStr : (Tryz.prog.info? 9).map (fun i => (i.zero, i.size, i.bytes)) = some (some (.string ⟨#[]⟩), 1, 16) := by kernel_rfl
def txL (ds : List ByteArray) : List (List UInt8) := ds.map fun s => s.data.toList
/-- Names in order. -/
def sortN (ds : List ByteArray) : List (List UInt8) := (txL ds).mergeSort fun x y => decide (x ≤ y)
theorem txL_length (ds : List ByteArray) : (txL ds).length = ds.length := by simp [txL]
theorem sortN_length (ds : List ByteArray) : (sortN ds).length = ds.length := by unfold sortN; rw [List.length_mergeSort, txL_length]
/-- Under way: these names are told, these entries are to come. -/
structure NmSt (w0 w : World) (M r : Nat) (L left : List (Value × Value)) (ds : List ByteArray) (v : Value) : Prop where
  it : GIter Tryz.prog 128 w M r L left
  row : w.ownsRow w0.heap.size 9 1 v ds.length (ds.map Value.string)
  perm : (ds.map kN ++ left.map (·.1)).Perm (L.map (·.1))
  below : Below w0.heap.size w0 w
  hr : w0.heap.size ≤ r
theorem below_sorted {α : Type} [Inhabited α] {B : Nat} {w0 w : World} (hb : Below B w0 w) (hB : B ≤ w.heap.size) (enc : α → Value) {blk : Nat} (hblk : B ≤ blk) (n off : Nat) (d : Array α) (os : Array Obj) : Below B w0 (grow (putRow enc (Sort.ahead w n) blk off d) os) := by
  refine ⟨hb.os, hb.tape, hb.output, ?_, fun i hi => ?_⟩
  · have := hb.size
    simp [Sort.ahead]
    omega
  · rw [heap_grow_old _ _ (by simp [Sort.ahead]; omega)]
    have : blk ≠ i := by omega
    simp [putRow, mapBlock, Sort.ahead, Array.getElem?_modify, this]
    exact hb.block i hi
theorem clipS_any (g n cap : Nat) (h : n ≤ cap) (w : World) : Calls Tryz.prog 74 #[.slice (some ⟨g, 0, none⟩) n cap] w fun e w' => e = .returned (.slice (some ⟨g, 0, none⟩) n n) ∧ w = w' := by
  go_enter Tryz.func74, Tryz.ntmps74
  go_wp2_with fail
  go_ret
  exact ⟨rfl, rfl⟩
set_option maxHeartbeats 4000000 in
theorem names_any (q M n : Nat) (l : List (Value × Value)) (w : World) (hR : RegsAt w q M l) (hk : ∀ p ∈ l, ∃ s : ByteArray, p.1 = kN s) (hn : l.length = n + 1) (hn2 : n ≤ 1000) :
    Calls Tryz.prog 34 #[.pointer (some ⟨q, 0, none⟩)] w fun e w' => ∃ (g : Nat) (ds : List ByteArray), e = .returned (.slice (some ⟨g, 0, none⟩) (n + 1) (n + 1)) ∧ (ds.map kN).Perm (l.map (·.1)) ∧
      (∀ (j : Nat) (s : List UInt8), (sortN ds)[j]? = some s → w'.cell? ⟨g, j, none⟩ = some (.string ⟨s.toArray⟩)) ∧ Below w.heap.size w w' := by
  have HR := Lib.hid hR
  have HKs := Lib.hid hk
  have hql := hR.blk.lt
  have hml := hR.map.lt
  obtain ⟨cq, fq⟩ := hR.blk.facts
  have HN := Lib.hid hn
  clear hR hk hn
  go_enter Tryz.func34, Tryz.ntmps34
  go_wp2_with (refine wpList_grange rfl _ _ rfl _ _ Tryz.underlying130 M l rfl HR.out.map ?_; intro w1 hit hb1 hs1)
  go_frame
  have hS0 : NmSt w w1 M w.heap.size l l [] (.slice none 0 0) := ⟨hit, World.ownsRow_nil _ _ _ _, by simp, hb1, Nat.le_refl _⟩
  generalize w.heap.size = r at hS0 ⊢
  clear hit hb1 hs1
  have HS0 := Lib.hid hS0
  clear hS0
  go_loopw [3] (fun v wr => ∃ left ds, NmSt w wr M r l left ds v) (fun _ wr => gleft wr M r)
  case atStart => exact ⟨_, _, HS0.out⟩
  case round =>
    obtain ⟨left, ds, hr⟩ := hrel
    have HR2 := Lib.hid hr
    clear hr
    go_wp2_with (refine wpList_gnext rfl _ rfl 128 M r l left rfl HR2.out.it ?_ ?_)
    · intro h0
      subst h0
      have hper : (ds.map kN).Perm (l.map (·.1)) := by simpa using HR2.out.perm
      have hdl : ds.length = n + 1 := by have := hper.length_eq; simp at this; rw [this]; exact HN.out
      have hrow := HR2.out.row
      rw [hdl] at hrow
      obtain ⟨g, cap, rfl⟩ := own_form hrow
      obtain ⟨cur, hcur, hgl⟩ := ownsRow_heap hrow (g := g) rfl
      have hgB : w.heap.size ≤ g := by
        rcases hrow.2 with ⟨h, _⟩ | ⟨g', _, _, h, hB, _⟩
        · cases h
        · simp at h; omega
      have hcap : n + 1 ≤ cap := by
        obtain ⟨a, c, e, hc⟩ := ownsRow_slice hrow
        simp only [Value.slice.injEq] at e
        omega
      have hH : Holds encStr wr g 0 (txL ds).toArray := by
        intro j hj
        have hj2 : j < ds.length := by simpa [txL] using hj
        refine ⟨?_, ?_⟩
        · rw [Nat.zero_add, hrow.cellAt j (by omega)]
          simp [hj2, txL]
        · rw [Nat.zero_add]; exact hrow.frozenAt j
      have hS := Tryz.slices_Sort_string g 0 cap (txL ds) wr hH hgl (by rw [txL_length]; omega)
      rw [txL_length, hdl] at hS
      have HP := Lib.hid hper
      have HS := Lib.hid hS
      have HH := Lib.hid hH
      have HB := Lib.hid HR2.out.below
      have HD := Lib.hid hdl
      clear hper hrow hcur hH hS hdl HR2
      go_wp2_with fail
      refine HS.out.mono ?_
      rintro e w5 ⟨rfl, nd, os, rfl⟩
      have HB5 := Lib.hid (below_sorted HB.out HB.out.size encStr hgB nd 0 (sortN ds).toArray os)
      have HC5 := Lib.hid (show ∀ (j : Nat) (s : List UInt8), (sortN ds)[j]? = some s → (grow (putRow encStr (Sort.ahead wr nd) g 0 (sortN ds).toArray) os).cell? ⟨g, j, none⟩ = some (.string ⟨s.toArray⟩) from by
        intro j s hj
        have hjl := (List.getElem?_eq_some_iff.1 hj).1
        have h1 := holds_putRow encStr (Sort.ahead wr nd) g 0 (txL ds).toArray (sortN ds).toArray HH.out (by simp [sortN_length, txL_length])
        have h2 := (holds_grow encStr _ os g 0 _ (by simpa [Sort.ahead] using hgl) h1 j (by simpa using hjl)).1
        rw [Nat.zero_add] at h2
        rw [h2]
        simp [hj])
      rw [show (txL ds).mergeSort (fun x y => decide (x ≤ y)) = sortN ds from rfl]
      generalize (grow (putRow encStr (Sort.ahead wr nd) g 0 (sortN ds).toArray) os) = W5 at HB5 HC5 ⊢
      go_simp
      go_wp2_with fail
      refine (clipS_any g (n + 1) cap hcap W5).mono ?_
      rintro e w6 ⟨rfl, rfl⟩
      go_simp
      go_wp2_with fail
      go_ret
      exact ⟨g, ds, rfl, HP.out, HC5.out, HB5.out⟩
    · intro x y l1 l2 w4 hl hit4 hg4 hs4 hen
      subst hl
      obtain ⟨s, rfl⟩ := HKs.out (x, y) (HR2.out.it.sub _ (by simp))
      have hr4 : w4.ownsRow w.heap.size 9 1 u3 ds.length (ds.map Value.string) := HR2.out.row.kept hg4 (.inr (fun e => by
        obtain ⟨cur, hc, _⟩ := ownsRow_heap HR2.out.row e
        obtain ⟨_, _, _, _, _, _, _, _, h4, _⟩ := HR2.out.it.ex
        rw [h4] at hc; cases hc))
      have HR4 := Lib.hid hr4
      have HI4 := Lib.hid hit4
      have HB4 := Lib.hid (Below.grown HR2.out.below hg4 HR2.out.below.size (fun k hk => by cases hk; exact HR2.out.hr))
      have hdl : ds.length ≤ 1001 := by
        have h1 := HR2.out.perm.length_eq
        have h2 := HN.out
        simp at h1
        omega
      clear hr4 hit4 hg4 hs4
      rw [show kN s = .agg #[.string s] from rfl] at hen
      go_wp2_with (at_builtin; refine wpList_push rfl _ _ _ rfl w.heap.size 9 (.string ⟨#[]⟩) 1 16 Tryz.underlying28 infoStr rfl (by decide) u3 ds.length (ds.map Value.string) rfl ((HR4.out.alloc _).alloc _) (w4.heap.size + 1) 9 #[.string s] rfl (Blk.new _ _ _ (by simp)) rfl (by simp [Value.oneCell']) (by unfold maxLen; omega) (by omega) (by have := HB4.out.size; simp <;> omega) ?_; intro v5 w5 hown hgr hat)
      have HO5 := Lib.hid hown
      have hit5 := ((HI4.out.alloc (.cells #[.string s] 128)).alloc (.cells #[.string s] 9)).grown hgr (HI4.out.map.ne_row HR4.out) (fun e => by
        obtain ⟨cur, hc, _⟩ := ownsRow_heap HR4.out e.symm
        obtain ⟨_, _, _, _, _, _, _, _, h4, _⟩ := HI4.out.ex
        rw [h4] at hc; cases hc)
      have hb5 : Below w.heap.size w w5 := ((HB4.out.alloc HB4.out.size _).alloc (HB4.out.alloc HB4.out.size _).size _).grown hgr (by have := HB4.out.size; simp <;> omega) (fun k hk => by
        rcases HR4.out.2 with ⟨e, _⟩ | ⟨g', _, _, e, hB, _⟩
        · rw [e] at hk; simp [Value.ownBlock] at hk
        · rw [e] at hk; simp [Value.ownBlock] at hk; omega)
      have HZ := Lib.hid (show NmSt w w5 M r l (l1 ++ l2) (ds ++ [s]) v5 from ⟨hit5, by rw [List.map_append, List.length_append]; exact HO5.out, by
        refine List.Perm.trans ?_ HR2.out.perm
        simp only [List.map_append, List.map_cons, List.map_nil, List.append_assoc]
        refine List.Perm.append_left _ ?_
        rw [List.singleton_append]
        exact List.perm_middle.symm, hb5, HR2.out.hr⟩)
      clear hown hgr hat hit5 hb5
      go_wp2_with fail
      go_roundw
      case rel => exact ⟨_, _, HZ.out⟩
      case measure => rw [HZ.out.it.count, HR2.out.it.count]; simp
end Go.Proofs.YtaoikbpolckobaaGreatDoor
