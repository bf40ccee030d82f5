import Derived.WalkKit
import Derived.Outline
import Derived.Laws.Rows
import Derived.Laws.Tables
import Derived.Test.YtchpbdodlbghaaaGreatDoorGMap
import Derived.Test.YtchpbdodlbghaaaGreatDoorIter
import Derived.Test.YtchpbdodlbghaaaGreatDoorOwn
import Derived.Test.YtchpbdodlbghaaaGreatDoorParZ
import Derived.Test.YtchpbdodlbghaaaGreatDoorRootA
import Derived.Test.YtchpbdodlbghaaaGreatDoorShelf
namespace Go.Proofs.YtchpbdodlbghaaaGreatDoor
set_option maxRecDepth 100000

def fOf (ps : List (Nat × Int)) (c : Nat) : Int := ((ps.find? (fun p => p.1 == c)).map (·.2)).getD 0
def blk (f : Nat → Int) (i : Nat) : List Int := (List.range 64).map fun j => f (64 * i + j)
def addIdx (l : List Nat) (i : Nat) : List Nat := if i ∈ l then l else l ++ [i]
def idxs (ps : List (Nat × Int)) : List Nat := ps.foldl (fun l p => addIdx l (p.1 / 64)) []
theorem idxs_snoc (ps : List (Nat × Int)) (p : Nat × Int) : idxs (ps ++ [p]) = addIdx (idxs ps) (p.1 / 64) := by simp [idxs]
theorem blk_length (f : Nat → Int) (i : Nat) : (blk f i).length = 64 := by simp [blk]
theorem fOf_snoc (ps : List (Nat × Int)) (c : Nat) (v : Int) (h : ∀ p ∈ ps, p.1 ≠ c) (d : Nat) : fOf (ps ++ [(c, v)]) d = if d = c then v else fOf ps d := by
  unfold fOf
  rw [List.find?_append]
  by_cases hd : d = c
  · subst hd
    rw [List.find?_eq_none.2 (fun p hp => by simpa using h p hp)]
    simp
  · rw [if_neg hd]
    have : List.find? (fun p : Nat × Int => p.1 == d) [(c, v)] = none := by simp; exact fun e => hd e.symm
    rw [this]; simp
theorem fOf_none (ps : List (Nat × Int)) (c : Nat) (h : ∀ p ∈ ps, p.1 ≠ c) : fOf ps c = 0 := by
  unfold fOf
  rw [List.find?_eq_none.2 (fun p hp => by simpa using h p hp)]
  rfl
theorem mem_addIdx {l : List Nat} {i j : Nat} : j ∈ addIdx l i ↔ j ∈ l ∨ j = i := by
  unfold addIdx
  split
  · constructor
    · exact .inl
    · rintro (h | rfl)
      · exact h
      · assumption
  · simp
theorem mem_idxs (ps : List (Nat × Int)) (i : Nat) : i ∈ idxs ps ↔ ∃ p ∈ ps, p.1 / 64 = i := by
  have : ∀ (ps : List (Nat × Int)) (l : List Nat), i ∈ ps.foldl (fun l p => addIdx l (p.1 / 64)) l ↔ i ∈ l ∨ ∃ p ∈ ps, p.1 / 64 = i := by
    intro ps
    induction ps with
    | nil => intro l; simp
    | cons p ps ih =>
      intro l
      rw [List.foldl_cons, ih, mem_addIdx]
      simp only [List.mem_cons, exists_eq_or_imp]
      constructor
      · rintro ((h | h) | h)
        · exact .inl h
        · exact .inr (.inl h.symm)
        · exact .inr (.inr h)
      · rintro (h | h | h)
        · exact .inl (.inl h)
        · exact .inl (.inr h.symm)
        · exact .inr h
  have h := this ps []
  unfold idxs
  rw [h]
  simp
theorem addIdx_nodup {l : List Nat} (h : l.Nodup) (i : Nat) : (addIdx l i).Nodup := by
  unfold addIdx
  split
  · exact h
  · rename_i hi
    rw [List.nodup_append]
    refine ⟨h, by simp, ?_⟩
    intro a ha b hb
    simp at hb
    subst hb
    exact fun e => hi (e ▸ ha)
theorem idxs_nodup (ps : List (Nat × Int)) : (idxs ps).Nodup := by
  have : ∀ (ps : List (Nat × Int)) (l : List Nat), l.Nodup → (ps.foldl (fun l p => addIdx l (p.1 / 64)) l).Nodup := by
    intro ps
    induction ps with
    | nil => intro l h; exact h
    | cons p ps ih => intro l h; exact ih _ (addIdx_nodup h _)
  exact this ps [] List.nodup_nil
theorem idxs_length (ps : List (Nat × Int)) : (idxs ps).length ≤ ps.length := by
  have : ∀ (ps : List (Nat × Int)) (l : List Nat), (ps.foldl (fun l p => addIdx l (p.1 / 64)) l).length ≤ l.length + ps.length := by
    intro ps
    induction ps with
    | nil => intro l; simp
    | cons p ps ih =>
      intro l
      rw [List.foldl_cons]
      have := ih (addIdx l (p.1 / 64))
      have h2 : (addIdx l (p.1 / 64)).length ≤ l.length + 1 := by unfold addIdx; split <;> simp
      simp only [List.length_cons]
      omega
  have h := this ps []
  unfold idxs
  simpa using h
theorem blk_set (ps : List (Nat × Int)) (c : Nat) (v : Int) (h : ∀ p ∈ ps, p.1 ≠ c) : blk (fOf (ps ++ [(c, v)])) (c / 64) = (blk (fOf ps) (c / 64)).set (c % 64) v := by
  apply List.ext_getElem?
  intro j
  rw [List.getElem?_set]
  by_cases hj : j < 64
  · simp only [blk, List.getElem?_map, List.getElem?_range hj, Option.map_some, List.length_map, List.length_range]
    rw [fOf_snoc ps c v h]
    by_cases he : c % 64 = j
    · rw [if_pos he, if_pos (by omega), if_pos (by omega)]
    · rw [if_neg he, if_neg (by omega)]
  · have h1 : (blk (fOf (ps ++ [(c, v)])) (c / 64))[j]? = none := List.getElem?_eq_none (by rw [blk_length]; omega)
    rw [h1, if_neg (by omega), List.getElem?_eq_none (by rw [blk_length]; omega)]
theorem blk_other (ps : List (Nat × Int)) (c : Nat) (v : Int) (h : ∀ p ∈ ps, p.1 ≠ c) {i : Nat} (hi : i ≠ c / 64) : blk (fOf (ps ++ [(c, v)])) i = blk (fOf ps) i := by
  unfold blk
  apply List.map_congr_left
  intro j hj
  have := List.mem_range.1 hj
  rw [fOf_snoc ps c v h, if_neg (by omega)]
theorem blk_zero (ps : List (Nat × Int)) {i : Nat} (hi : i ∉ idxs ps) : blk (fOf ps) i = List.replicate 64 0 := by
  apply List.ext_getElem?
  intro j
  by_cases hj : j < 64
  · simp only [blk, List.getElem?_map, List.getElem?_range hj, Option.map_some, List.getElem?_replicate, if_pos hj]
    rw [fOf_none]
    intro p hp e
    exact hi ((mem_idxs ps i).2 ⟨p, hp, by omega⟩)
  · rw [List.getElem?_eq_none (by rw [blk_length]; omega), List.getElem?_eq_none (by simp; omega)]
def addBlk (B : List (List Int)) (b : List Int) : List (List Int) := if b ∈ B then B else B ++ [b]
def blks (f : Nat → Int) (is : List Nat) : List (List Int) := is.foldl (fun B i => addBlk B (blk f i)) [List.replicate 64 0]
theorem blks_snoc (f : Nat → Int) (is : List Nat) (i : Nat) : blks f (is ++ [i]) = addBlk (blks f is) (blk f i) := by simp [blks]
theorem addBlk_mem (B : List (List Int)) (b : List Int) : b ∈ addBlk B b := by
  unfold addBlk
  split
  · assumption
  · simp
theorem addBlk_nodup {B : List (List Int)} (h : B.Nodup) (b : List Int) : (addBlk B b).Nodup := by
  unfold addBlk
  split
  · exact h
  · rename_i hi
    rw [List.nodup_append]
    refine ⟨h, by simp, ?_⟩
    intro x hx y hy
    simp at hy
    subst hy
    exact fun e => hi (e ▸ hx)
theorem blks_nodup (f : Nat → Int) (is : List Nat) : (blks f is).Nodup := by
  have : ∀ (is : List Nat) (B : List (List Int)), B.Nodup → (is.foldl (fun B i => addBlk B (blk f i)) B).Nodup := by
    intro is
    induction is with
    | nil => intro B h; exact h
    | cons i is ih => intro B h; exact ih _ (addBlk_nodup h _)
  exact this is _ (by simp)
theorem addBlk_idx (B : List (List Int)) (b x : List Int) (h : x ∈ B) : (addBlk B b).idxOf x = B.idxOf x := by
  unfold addBlk
  split
  · rfl
  · rw [List.idxOf_append, if_pos h]
theorem blks_len64 (f : Nat → Int) (is : List Nat) : ∀ b ∈ blks f is, b.length = 64 := by
  have : ∀ (is : List Nat) (B : List (List Int)), (∀ b ∈ B, b.length = 64) → ∀ b ∈ is.foldl (fun B i => addBlk B (blk f i)) B, b.length = 64 := by
    intro is
    induction is with
    | nil => intro B h; exact h
    | cons i is ih =>
      intro B h
      refine ih (addBlk B (blk f i)) fun b hb => ?_
      unfold addBlk at hb
      split at hb
      · exact h b hb
      · rcases List.mem_append.1 hb with h1 | h1
        · exact h b h1
        · simp at h1; rw [h1]; exact blk_length f i
  exact this is _ (by simp)
theorem blks_length (f : Nat → Int) (is : List Nat) : (blks f is).length ≤ is.length + 1 := by
  have : ∀ (is : List Nat) (B : List (List Int)), (is.foldl (fun B i => addBlk B (blk f i)) B).length ≤ B.length + is.length := by
    intro is
    induction is with
    | nil => intro B; simp
    | cons i is ih =>
      intro B
      rw [List.foldl_cons]
      have := ih (addBlk B (blk f i))
      have h2 : (addBlk B (blk f i)).length ≤ B.length + 1 := by unfold addBlk; split <;> simp
      simp only [List.length_cons]
      omega
  have h := this is [List.replicate 64 0]
  rw [List.length_cons, List.length_nil] at h
  unfold blks
  omega
end Go.Proofs.YtchpbdodlbghaaaGreatDoor

namespace Go.Proofs.YtchpbdodlbghaaaGreatDoor
open Go.RowKit
set_option maxRecDepth 100000

def anyElem : Value → Option (DataW Unit × List MemPlace) := fun _ => some (.nil, [])
theorem GMap.ownsInts {P : Program} {k : TypeId} {w : World} {b : Nat} {l : List (Value × Value)} {is : List Int} (hk : P.underlying k = some (.int .i64)) (h : GMap P k w b l) (hl : l.map (·.1) = is.map (Value.int .i64)) (hwf : ∀ i ∈ is, (Lit.int .i64 i).wf = true) (hsz : is.length ≤ maxLen) :
    ∃ D0 : DataW Unit, w.ownsMap P k anyElem b is.length D0 ∧ (intKeys D0).Perm is ∧ Maps.size D0 = is.length := by
  obtain ⟨es, clock, hb, he, hborn, hclk⟩ := h.ex
  have hlen : es.toList.length = is.length := by
    have h1 := congrArg List.length he
    have h2 := congrArg List.length hl
    simp only [List.length_map] at h1 h2
    omega
  have hkeys : es.toList.map (·.key) = is.map (Value.int .i64) := by
    rw [← hl, ← he, List.map_map]
    rfl
  have hrd : ∀ x ∈ es.toList, ∃ i, i ∈ is ∧ x.key = .int .i64 i ∧ WideElems.rd P k anyElem x = some (.int .i64 i, .nil) := by
    intro x hx
    have hm : x.key ∈ is.map (Value.int .i64) := by rw [← hkeys]; exact List.mem_map.2 ⟨x, hx, rfl⟩
    obtain ⟨i, hi, hxi⟩ := List.mem_map.1 hm
    refine ⟨i, hi, hxi.symm, ?_⟩
    simp [WideElems.rd, ← hxi, Maps.keyOf_int_mk hk (hwf i hi), anyElem]
  have hrg : es.toList.map (WideElems.rg P k anyElem) = is.map fun i => (Lit.int .i64 i, (.nil : DataW Unit)) := by
    apply List.ext_getElem?
    intro j
    have hj := congrArg (fun l => l[j]?) hkeys
    simp only [List.getElem?_map] at hj ⊢
    cases hx : es.toList[j]? with
    | none =>
      rw [hx] at hj
      cases hi : is[j]? with
      | none => rfl
      | some i => rw [hi] at hj; cases hj
    | some x =>
      rw [hx] at hj
      cases hi : is[j]? with
      | none => rw [hi] at hj; cases hj
      | some i =>
        rw [hi] at hj
        obtain ⟨i', _, h1, h2⟩ := hrd x (List.mem_of_getElem? hx)
        have h3 : x.key = .int .i64 i := by simpa using hj
        rw [h1] at h3
        obtain rfl : i' = i := by simpa using h3
        simp only [Option.map_some]
        rw [WideElems.rg_of h2]
  refine ⟨.map ((es.toList.map (WideElems.rg P k anyElem)).foldr DataW.insert []), ⟨es, clock, hb, ⟨?_, ⟨hclk, hborn.imp (fun hlt => by omega), ?_⟩, fun x hx => ?_⟩, ?_, rfl⟩, ?_, ?_⟩
  · rw [← Array.length_toList, hlen]; exact hsz
  · have := h.nodup
    rw [hl, ← hkeys] at this
    exact this
  · obtain ⟨i, _, _, h2⟩ := hrd x hx
    exact ⟨_, h2⟩
  · rw [← Array.length_toList]; omega
  · have hp := (Go.WideShapes.sorted_perm (es.toList.map (WideElems.rg P k anyElem))).map (fun p => Go.intOf p.1)
    refine hp.trans ?_
    rw [hrg, List.map_map]
    have : is.map ((fun p : Lit × DataW Unit => Go.intOf p.1) ∘ fun i => (Lit.int .i64 i, .nil)) = is := by
      exact (List.map_congr_left (g := id) (fun i _ => rfl)).trans (List.map_id is)
    rw [this]
  · have := (Go.WideShapes.sorted_perm (es.toList.map (WideElems.rg P k anyElem))).length_eq
    rw [List.length_map] at this
    simp only [Maps.size]
    omega
theorem keys_any (mb : Option Nat) (W : World) : Calls Tryz.prog 110 #[.map mb] W fun e w' => e = .returned (.func (.func 183) #[] #[.pointer (some ⟨W.heap.size, 0, none⟩)]) ∧ w' = W.alloc (.cells #[.map mb] 231) :=
  callsIn_wide.1 (AnyZI.keys_in Tryz.keysBlk Fence.wide 5 trivial rfl mb W)
theorem sortsInt (m : Nat) : AnyZI.SortsIn Tryz.prog Tryz.sortedInt_ren Fence.wide m :=
  ⟨fun blk off cap ss W hH hblk hsz => callsIn_wide.2 (Tryz.slices_Sort_int blk off cap ss W hH hblk hsz), fun p cap W => callsIn_wide.2 (Tryz.slices_Sort_int_none p cap W)⟩
def SortedPost (w : World) (is : List Int) (e : Ending) (w' : World) : Prop :=
  ∃ v, e = .returned v ∧ w'.ownsRow w.heap.size 3 1 v is.length ((is.mergeSort fun x y => decide (x ≤ y)).map (Value.int .i64)) ∧ Below w.heap.size w w'
set_option maxHeartbeats 1000000 in
theorem sorted_any (b : Nat) (l : List (Value × Value)) (is : List Int) (w : World) (h : GMap Tryz.prog 3 w b l) (hl : l.map (·.1) = is.map (Value.int .i64)) (hwf : ∀ i ∈ is, (Lit.int .i64 i).wf = true) (hsz : is.length ≤ 100000) :
    Calls Tryz.prog 109 #[.func (.func 183) #[] #[.pointer (some ⟨w.heap.size, 0, none⟩)]] (w.alloc (.cells #[.map (some b)] 231)) (SortedPost (w.alloc (.cells #[.map (some b)] 231)) is) := by
  obtain ⟨D0, hown, hperm, hsize⟩ := h.ownsInts Tryz.underlying3 hl hwf (Nat.le_trans hsz (by decide))
  have hbl := hown.lt
  have hseq : SeqGives Fence.wide 2 Tryz.prog 183 #[.pointer (some ⟨w.heap.size, 0, none⟩)] encZ (fun ss => ss.Perm (intKeys D0)) (Maps.size D0) (w.alloc (.cells #[.map (some b)] 231)) :=
    AnyZI.keys_gives (ρ := Tryz.keysBlk_ren) { Tryz.keysBlk with } Fence.wide _ trivial rfl (by omega) w.heap.size b is.length D0 _ (by simp) (by simp) (by
      obtain ⟨es, clock, hb, Ft, hs, hD⟩ := hown
      exact ⟨es, clock, (Below.heap_alloc _ _ b hbl).trans hb, Ft, hs, hD⟩)
  have cS := AnyZI.sorted_in Tryz.sortedInt Fence.wide 5 trivial trivial trivial trivial rfl (by omega) (sortsInt _) (enters_of Tryz.func182 (by kernel_rfl) rfl) 183 #[.pointer (some ⟨w.heap.size, 0, none⟩)] trivial (enters_of Tryz.func183 (by kernel_rfl) rfl) _ _ (by rw [hsize]; exact Nat.le_trans hsz (by decide)) (by rw [hsize]; omega) _ hseq
  refine (callsIn_wide.1 cS).mono ?_
  rintro e w' ⟨v, ss, rfl, hS, hrow, _, hb⟩
  have hp := hS.trans hperm
  refine ⟨v, rfl, ?_, hb⟩
  rw [← hp.length_eq, ← mergeSort_of_perm_i hp]
  exact hrow
end Go.Proofs.YtchpbdodlbghaaaGreatDoor

namespace Go.Proofs.YtchpbdodlbghaaaGreatDoor
open Go.RowKit
set_option maxRecDepth 100000

def PairsAt (w : World) (v : Value) (ps : List (Nat × Int)) : Prop :=
  (v = .slice none 0 0 ∧ ps = []) ∨ ∃ g c, v = .slice (some ⟨g, 0, none⟩) ps.length c ∧ ps.length ≤ c ∧ g < w.heap.size ∧
    ∀ j, j < ps.length → w.cell? ⟨g, j * 2, none⟩ = some (.int .i64 ((ps.getD j (0, 0)).1 : Int)) ∧ w.cell? ⟨g, j * 2 + 1, none⟩ = some (.int .i64 (ps.getD j (0, 0)).2)
theorem PairsAt.ext {w w' : World} {v : Value} {ps : List (Nat × Int)} (h : PairsAt w v ps) (hx : Ext w w') : PairsAt w' v ps := by
  rcases h with h | ⟨g, c, h1, h2, h3, h4⟩
  · exact .inl h
  · exact .inr ⟨g, c, h1, h2, Nat.lt_of_lt_of_le h3 hx.size, fun j hj => ⟨by rw [hx.cell (p := ⟨g, j * 2, none⟩) h3]; exact (h4 j hj).1, by rw [hx.cell (p := ⟨g, j * 2 + 1, none⟩) h3]; exact (h4 j hj).2⟩⟩
def goodPair (p : Nat × Int) : Prop := p.1 ≤ 1114367 ∧ -2147483648 ≤ p.2 ∧ p.2 ≤ 2147483647
theorem valid_any (c : Nat) (v : Int) (w : World) (h1 : c ≤ 1114367) (h2 : -2147483648 ≤ v) (h3 : v ≤ 2147483647) :
    Calls Tryz.prog 108 #[.agg #[.int .i64 c, .int .i64 v]] w fun e w' => e = .returned (.bool true) ∧ Below w.heap.size w w' := by
  have g0 : decide (0 ≤ (c : Int)) = true := by simp
  have g1 : decide ((c : Int) ≤ 1114367) = true := by simp; omega
  have g2 : decide (-2147483648 ≤ v) = true := by simpa using h2
  have g3 : decide (v ≤ 2147483647) = true := by simpa using h3
  go_enter Tryz.func108, Tryz.ntmps108
  go_wp2_with fail
  go_ret
  exact ⟨rfl, by go_grown⟩
theorem notvalid_any (c : Nat) (v : Int) (w : World) (h1 : c ≤ 1114367) (h2 : -2147483648 ≤ v) (h3 : v ≤ 2147483647) :
    Calls Tryz.prog 107 #[.agg #[.int .i64 c, .int .i64 v]] w fun e w' => e = .returned (.bool false) ∧ Below w.heap.size w w' := by
  go_enter Tryz.func107, Tryz.ntmps107
  go_wp2_with fail
  refine (valid_any c v _ h1 h2 h3).mono ?_
  rintro e w2 ⟨rfl, hb⟩
  have HB := Lib.hid (show Below w.heap.size w w2 from Below.trans (by go_grown) (hb.mono (by simp)))
  clear hb
  go_wp2_with fail
  go_ret
  exact ⟨rfl, HB.out⟩
set_option maxHeartbeats 1000000 in
theorem indexPair_none (v : Value) (ps : List (Nat × Int)) (w : World) (hp : PairsAt w v ps) (hlen : ps.length ≤ 1000000) (hg : ∀ p ∈ ps, goodPair p) :
    Calls Tryz.prog 180 #[v, .func (.func 107) #[] #[]] w fun e w' => e = .returned (.int .i64 (-1)) ∧ Below w.heap.size w w' := by
  rcases hp with ⟨rfl, rfl⟩ | ⟨g, c, rfl, hc, hgl, hcell⟩
  · go_enter Tryz.func180, Tryz.ntmps180
    go_wp2_with fail
    go_loopw [8] (fun i wr => i = .int .i64 0 ∧ Ext w wr) (fun _ _ => 0)
    case atStart => exact ⟨rfl, Ext.refl w⟩
    case round =>
      obtain ⟨rfl, hx⟩ := hrel
      have HX := Lib.hid hx
      clear hx
      go_wp2_with fail
      go_ret
      exact ⟨rfl, HX.out⟩
  · have HC := Lib.hid hcell
    have HG := Lib.hid hg
    clear hcell hg
    go_enter Tryz.func180, Tryz.ntmps180
    go_wp2_with fail
    go_loopw [8] (fun i wr => ∃ k : Nat, k ≤ ps.length ∧ i = .int .i64 k ∧ Ext w wr) (fun i _ => ps.length - (intOf i).toNat)
    case atStart => exact ⟨0, Nat.zero_le _, rfl, Ext.refl w⟩
    case round =>
      obtain ⟨k, hk, rfl, hx⟩ := hrel
      have HX := Lib.hid hx
      by_cases hlt : k < ps.length
      · have hgp : goodPair (ps.getD k (0, 0)) := HG.out _ (by rw [List.getD_eq_getElem?_getD, List.getElem?_eq_getElem hlt]; exact List.getElem_mem _)
        obtain ⟨b1, b2, b3⟩ := hgp
        have c1 : wr.cell? ⟨g, k * 2, none⟩ = some (.int .i64 ((ps.getD k (0, 0)).1 : Int)) := by rw [hx.cell (p := ⟨g, k * 2, none⟩) hgl]; exact (HC.out k hlt).1
        have c2 : wr.cell? ⟨g, k * 2 + 1, none⟩ = some (.int .i64 (ps.getD k (0, 0)).2) := by rw [hx.cell (p := ⟨g, k * 2 + 1, none⟩) hgl]; exact (HC.out k hlt).2
        generalize ps.getD k (0, 0) = p at b1 b2 b3 c1 c2
        obtain ⟨pc, pv⟩ := p
        simp only at b1 b2 b3 c1 c2
        clear hx
        go_wp2_with fail
        refine (notvalid_any pc pv _ b1 b2 b3).mono ?_
        rintro e w2 ⟨rfl, hb⟩
        have HB := Lib.hid (HX.out.trans hb)
        clear hb
        go_wp2_with fail
        go_roundw
        case rel => exact ⟨k + 1, by omega, by go_num, HB.out⟩
        case measure => simp [intOf]; omega
      · obtain rfl : k = ps.length := by omega
        clear hx
        go_wp2_with fail
        go_ret
        exact ⟨rfl, HX.out⟩
theorem containsPair_none (v : Value) (ps : List (Nat × Int)) (w : World) (hp : PairsAt w v ps) (hlen : ps.length ≤ 1000000) (hg : ∀ p ∈ ps, goodPair p) :
    Calls Tryz.prog 106 #[v, .func (.func 107) #[] #[]] w fun e w' => e = .returned (.bool false) ∧ Below w.heap.size w w' := by
  have HC := Lib.hid (indexPair_none v ps w hp hlen hg)
  clear hp hg
  go_enter Tryz.func106, Tryz.ntmps106
  go_wp2_with fail
  refine HC.out.mono ?_
  rintro e w2 ⟨rfl, hb⟩
  go_wp2_with fail
  go_ret
  exact ⟨rfl, hb⟩
end Go.Proofs.YtchpbdodlbghaaaGreatDoor

namespace Go.Proofs.YtchpbdodlbghaaaGreatDoor
open Go.RowKit
set_option maxRecDepth 100000

section
variable {P : Program} {w : World} {ops : Array Oper} {rest : List Oper} {o : Oper} {a : Act} {Q : Exit → Act → World → Prop}
theorem wpList_look (hg : o.guard = none) (m x : Operand) (t : TypeId) (ok : Bool) (hop : o.op = Op.lookup t m x ok) (b : Nat) (v : Value) (hm : a.eval m = .map (some b))
    (hrun : (Instr.lookup t (.map (some b)) (a.eval x) ok).run P w = .ok v w) (hK : wpList P ops Q rest (a.put o.dst v) w) : wpList P ops Q (o :: rest) a w := by
  refine wpList_plain hg fun K' hK' => ?_
  unfold Oper.wp
  simp [execOp, hop, hm, hrun, Result.andThen]
  exact hK' _ _ hK
theorem wpList_upd (hg : o.guard = none) (m x y : Operand) (t : TypeId) (hop : o.op = Op.mapUpdate t m x y) (b : Nat) (R : World → Prop) (hm : a.eval m = .map (some b))
    (hrun : ∃ w', (Instr.mapUpdate t (.map (some b)) (a.eval x) (a.eval y)).run P w = .ok () w' ∧ R w') (hK : ∀ w', R w' → wpList P ops Q rest (a.put o.dst undef) w') : wpList P ops Q (o :: rest) a w := by
  obtain ⟨w', hrun, hR⟩ := hrun
  refine wpList_plain hg fun K' hK' => ?_
  unfold Oper.wp
  simp [execOp, hop, hm, hrun, Result.andThen]
  exact hK' _ _ (hK w' hR)
theorem wpList_store_blk (hg : o.guard = none) (ty : TypeId) (x y : Operand) (ho : o.op = .store ty x y) (g : Nat) (cells : Array Value) (hx : a.eval x = .pointer (some ⟨g, 0, none⟩)) (hy : a.eval y = .agg cells)
    (t : TypeId) (old : Array Value) (hb : Blk w g old t) (hi : (P.info? ty).map (·.size) = some cells.size) (hold : old.size = cells.size) (h1 : cells.all (·.oneCell') = true)
    (hK : ∀ w', Blk w' g cells t → w.grownBy w' (some g) → w'.heap.size = w.heap.size → wpList P ops Q rest (a.put o.dst undef) w') : wpList P ops Q (o :: rest) a w := by
  refine wpList_store_row hg ty x y ho g cells hx hy t old hb hi hold h1 (hK _ ?_ ?_ ?_)
  · unfold Blk at hb ⊢
    show (w.heap.modify g _)[g]? = _
    rw [Array.getElem?_modify, if_pos rfl, hb]
    rfl
  · refine ⟨rfl, rfl, rfl, by simp [World.setRow], fun i hi hne => ?_⟩
    have : g ≠ i := fun e => hne (by rw [e])
    show (w.heap.modify g _)[i]? = _
    rw [Array.getElem?_modify, if_neg this]
  · simp [World.setRow]
end
def blkI (b : List Int) : Array Value := (b.map (Value.int .i32)).toArray
theorem blkI_size (b : List Int) : (blkI b).size = b.length := by simp [blkI]
theorem blkI_one (b : List Int) : (blkI b).all (·.oneCell') = true := by simp [blkI, Value.oneCell']
theorem blkI_inj {b c : List Int} (h : blkI b = blkI c) : b = c := by
  have h1 := congrArg Array.toList h
  simp only [blkI] at h1
  exact List.map_inj_right (fun x y e => by simpa using e) |>.1 h1
theorem blkI_set (b : List Int) (j : Nat) (v : Int) : (blkI b).setIfInBounds j (.int .i32 v) = blkI (b.set j v) := by
  apply Array.ext'
  simp [blkI, List.map_set]
def ownL (qs : List (Nat × Int)) : List (Value × Value) := (idxs qs).map fun i : Nat => (.int .i64 (i : Int), .agg (blkI (blk (fOf qs) i)))
theorem keyInt (i : Nat) (h : i ≤ 2000000) : KeyOk Tryz.prog 3 (.int .i64 i) :=
  ⟨_, Maps.keyOf_int_mk Tryz.underlying3 (by
    simp [Lit.wf, IntKind.min, IntKind.max, IntKind.bits, IntKind.signed]
    omega)⟩
theorem keyedInt : Maps.Keyed Tryz.prog 3 := Maps.int_keyed Tryz.underlying3
theorem zeroBlk : ∀ w, (zeroValue 233).run Tryz.prog w = .ok (.agg (blkI (List.replicate 64 0))) w := fun _ => by kernel_rfl
theorem zeroBool : ∀ w, (zeroValue 4).run Tryz.prog w = .ok (.bool false) w := fun _ => by kernel_rfl
theorem own_get {w : World} {O : Nat} {qs : List (Nat × Int)} (h : GMap Tryz.prog 3 w O (ownL qs)) (i : Nat) (hi : i ≤ 2000000) :
    (Instr.lookup 231 (.map (some O)) (.int .i64 i) false).run Tryz.prog w = .ok (.agg (blkI (blk (fOf qs) i))) w := by
  by_cases hm : i ∈ idxs qs
  · exact h.run_hit keyedInt Tryz.underlying231 (List.mem_map.2 ⟨i, hm, rfl⟩) false
  · have := h.run_miss keyedInt Tryz.underlying231 zeroBlk (keyInt i hi) (fun p hp e => by
      obtain ⟨j, hj, rfl⟩ := List.mem_map.1 hp
      simp only [Value.int.injEq, true_and] at e
      have : j = i := by omega
      exact hm (this ▸ hj)) false
    rw [this, blk_zero qs hm]
    rfl
theorem own_put {w : World} {O : Nat} {qs : List (Nat × Int)} (h : GMap Tryz.prog 3 w O (ownL qs)) (c : Nat) (v : Int) (hc : c ≤ 1114367) (hn : ∀ p ∈ qs, p.1 ≠ c) :
    ∃ w', (Instr.mapUpdate 231 (.map (some O)) (.int .i64 ((c / 64 : Nat) : Int)) (.agg (blkI ((blk (fOf qs) (c / 64)).set (c % 64) v)))).run Tryz.prog w = .ok () w' ∧
      (GMap Tryz.prog 3 w' O (ownL (qs ++ [(c, v)])) ∧ w.grownBy w' (some O) ∧ w'.heap.size = w.heap.size) := by
  have hb := blk_set qs c v hn
  by_cases hm : c / 64 ∈ idxs qs
  · obtain ⟨l1, l2, hl⟩ := List.append_of_mem hm
    have hnd := idxs_nodup qs
    rw [hl, List.nodup_append, List.nodup_cons] at hnd
    obtain ⟨n1, ⟨n2, n3⟩, n4⟩ := hnd
    have e1 : ownL qs = (l1.map fun i : Nat => (.int .i64 (i : Int), .agg (blkI (blk (fOf qs) i)))) ++ (.int .i64 ((c / 64 : Nat) : Int), .agg (blkI (blk (fOf qs) (c / 64)))) :: (l2.map fun i : Nat => (.int .i64 (i : Int), .agg (blkI (blk (fOf qs) i)))) := by
      unfold ownL
      rw [hl]
      simp
    rw [e1] at h
    obtain ⟨w', h1, h2, h3, h4⟩ := h.run_set keyedInt Tryz.underlying231 (.agg (blkI ((blk (fOf qs) (c / 64)).set (c % 64) v)))
    refine ⟨w', h1, ?_, h3, h4⟩
    have e2 : ownL (qs ++ [(c, v)]) = (l1.map fun i : Nat => (.int .i64 (i : Int), .agg (blkI (blk (fOf qs) i)))) ++ (.int .i64 ((c / 64 : Nat) : Int), .agg (blkI ((blk (fOf qs) (c / 64)).set (c % 64) v))) :: (l2.map fun i : Nat => (.int .i64 (i : Int), .agg (blkI (blk (fOf qs) i)))) := by
      unfold ownL
      rw [idxs_snoc, addIdx, if_pos hm, hl, List.map_append, List.map_cons, hb]
      congr 1
      · apply List.map_congr_left
        intro i hi
        rw [blk_other qs c v hn]
        exact fun e => n4 i hi (c / 64) (List.mem_cons_self ..) e
      · congr 1
        apply List.map_congr_left
        intro i hi
        rw [blk_other qs c v hn]
        exact fun e => n2 (e ▸ hi)
    rw [e2]
    exact h2
  · obtain ⟨w', h1, h2, h3, h4⟩ := h.run_put keyedInt Tryz.underlying231 (keyInt (c / 64) (by omega)) (fun p hp e => by
      obtain ⟨j, hj, rfl⟩ := List.mem_map.1 hp
      simp only [Value.int.injEq, true_and] at e
      have : j = c / 64 := by omega
      exact hm (this ▸ hj)) (.agg (blkI ((blk (fOf qs) (c / 64)).set (c % 64) v)))
    refine ⟨w', h1, ?_, h3, h4⟩
    have e2 : ownL (qs ++ [(c, v)]) = ownL qs ++ [(.int .i64 ((c / 64 : Nat) : Int), .agg (blkI ((blk (fOf qs) (c / 64)).set (c % 64) v)))] := by
      unfold ownL
      rw [idxs_snoc, addIdx, if_neg hm, List.map_append, List.map_cons, List.map_nil, hb]
      congr 1
      apply List.map_congr_left
      intro i hi
      rw [blk_other qs c v hn]
      exact fun e => hm (e ▸ hi)
    rw [e2]
    exact h2
def seenL (qs : List (Nat × Int)) : List (Value × Value) := qs.map fun p => (.int .i64 (p.1 : Int), .bool true)
theorem seen_get {w : World} {S : Nat} {qs : List (Nat × Int)} (h : GMap Tryz.prog 3 w S (seenL qs)) (c : Nat) (hc : c ≤ 1114367) (hn : ∀ p ∈ qs, p.1 ≠ c) :
    (Instr.lookup 230 (.map (some S)) (.int .i64 c) false).run Tryz.prog w = .ok (.bool false) w :=
  h.run_miss keyedInt Tryz.underlying230 zeroBool (keyInt c (by omega)) (fun p hp e => by
    obtain ⟨q, hq, rfl⟩ := List.mem_map.1 hp
    simp only [Value.int.injEq, true_and] at e
    exact hn q hq (by omega)) false
theorem seen_put {w : World} {S : Nat} {qs : List (Nat × Int)} (h : GMap Tryz.prog 3 w S (seenL qs)) (c : Nat) (v : Int) (hc : c ≤ 1114367) (hn : ∀ p ∈ qs, p.1 ≠ c) :
    ∃ w', (Instr.mapUpdate 230 (.map (some S)) (.int .i64 c) (.bool true)).run Tryz.prog w = .ok () w' ∧ (GMap Tryz.prog 3 w' S (seenL (qs ++ [(c, v)])) ∧ w.grownBy w' (some S) ∧ w'.heap.size = w.heap.size) := by
  obtain ⟨w', h1, h2, h3, h4⟩ := h.run_put keyedInt Tryz.underlying230 (keyInt c (by omega)) (fun p hp e => by
    obtain ⟨q, hq, rfl⟩ := List.mem_map.1 hp
    simp only [Value.int.injEq, true_and] at e
    exact hn q hq (by omega)) (.bool true)
  exact ⟨w', h1, by simpa [seenL] using h2, h3, h4⟩
theorem PairsAt.grown {w w' : World} {v : Value} {ps : List (Nat × Int)} {b : Nat} (h : PairsAt w v ps) (hg : w.grownBy w' (some b)) (hm : ∀ c t f, w.heap[b]? ≠ some (.cells c t f)) : PairsAt w' v ps := by
  rcases h with h | ⟨g, c, h1, h2, h3, h4⟩
  · exact .inl h
  · refine .inr ⟨g, c, h1, h2, Nat.lt_of_lt_of_le h3 hg.size, fun j hj => ?_⟩
    have hne : ∀ u o, w.cell? ⟨g, o, none⟩ = some u → some g ≠ some b := by
      intro u o hu e
      obtain rfl := Option.some.inj e
      unfold World.cell? at hu
      cases hh : w.heap[g]? with
      | none => simp [hh] at hu
      | some ob => cases ob <;> first | exact hm _ _ _ hh | simp [hh] at hu
    exact ⟨hg.cell (h4 j hj).1 (hne _ _ (h4 j hj).1), hg.cell (h4 j hj).2 (hne _ _ (h4 j hj).2)⟩
theorem blk_grownM {W W' : World} {g b : Nat} {cs : Array Value} {t : TypeId} (h : Blk W g cs t) (hg : W.grownBy W' (some b)) (hm : ∀ c t f, W.heap[b]? ≠ some (.cells c t f)) : Blk W' g cs t :=
  (hg.block g h.lt (fun e => hm _ _ _ (by rw [← Option.some.inj e]; exact h))).trans h
structure TS1 (w0 w : World) (S O : Nat) (v : Value) (ps : List (Nat × Int)) (k : Nat) : Prop where
  seen : GMap Tryz.prog 3 w S (seenL (ps.take k))
  own : GMap Tryz.prog 3 w O (ownL (ps.take k))
  pairs : PairsAt w v ps
  below : Below w0.heap.size w0 w
  hS : w0.heap.size ≤ S
  hO : w0.heap.size ≤ O
  ne : S ≠ O
theorem TS1.ext {w0 w w' : World} {S O : Nat} {v : Value} {ps : List (Nat × Int)} {k : Nat} (h : TS1 w0 w S O v ps k) (hx : Ext w w') : TS1 w0 w' S O v ps k :=
  ⟨h.seen.keep hx, h.own.keep hx, h.pairs.ext hx, Below.trans h.below (Below.mono hx h.below.size), h.hS, h.hO, h.ne⟩
end Go.Proofs.YtchpbdodlbghaaaGreatDoor
