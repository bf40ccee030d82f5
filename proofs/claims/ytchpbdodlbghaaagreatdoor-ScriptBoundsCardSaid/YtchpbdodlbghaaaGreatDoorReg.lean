import Derived.Outline
import Derived.Test.YtchpbdodlbghaaaGreatDoorParF
import Derived.Test.YtchpbdodlbghaaaGreatDoorRootB
import Derived.Test.YtchpbdodlbghaaaGreatDoorTrieD
import Derived.Test.YtchpbdodlbghaaaGreatDoorTrieE
namespace Go.Proofs.YtchpbdodlbghaaaGreatDoor
open Go.RowKit
set_option maxRecDepth 100000

theorem infoInt1 : (Tryz.prog.info? 3).map (fun i => (i.zero, i.size, i.bytes)) = some (some (.int .i64 0), 1, 8) := by kernel_rfl
def SgSt (w0 w : World) (c k : Nat) (v : Value) : Prop := (k = 0 ∧ v = .slice none 0 0 ∨ 1 ≤ k ∧ ∃ g cap, v = .slice (some ⟨g, 0, none⟩) 1 cap ∧ w.cell? ⟨g, 0, none⟩ = some (.int .i64 (c : Int))) ∧ Below w0.heap.size w0 w
def SgPost (w : World) (c : Nat) (e : Ending) (w' : World) : Prop := ∃ g cap, e = .returned (.slice (some ⟨g, 0, none⟩) 1 cap) ∧ w'.cell? ⟨g, 0, none⟩ = some (.int .i64 (c : Int)) ∧ Below w.heap.size w w'
set_option maxHeartbeats 1000000 in
theorem signs_one (c : Nat) (hc : c ≤ 1114367) (w : World) : Calls Tryz.prog 61 #[kS c] w (SgPost w c) := by
  have i0 : ∀ W, (Instr.index 122 (.agg #[.int .i64 ((c : Int) + 1), .int .i64 0, .int .i64 0]) (.int .i64 0)).run Tryz.prog W = .ok (.int .i64 ((c : Int) + 1)) W := fun _ => by kernel_rfl
  have i1 : ∀ W, (Instr.index 122 (.agg #[.int .i64 ((c : Int) + 1), .int .i64 0, .int .i64 0]) (.int .i64 1)).run Tryz.prog W = .ok (.int .i64 0) W := fun _ => by kernel_rfl
  have i2 : ∀ W, (Instr.index 122 (.agg #[.int .i64 ((c : Int) + 1), .int .i64 0, .int .i64 0]) (.int .i64 2)).run Tryz.prog W = .ok (.int .i64 0) W := fun _ => by kernel_rfl
  have hpos : decide (0 < (c : Int) + 1) = true := by simp <;> omega
  unfold kS
  go_enter Tryz.func61, Tryz.ntmps61
  go_wp2_with fail
  have hb0 : Below w.heap.size w (w.alloc (.cells #[.int .i64 ((c : Int) + 1), .int .i64 0, .int .i64 0] 122)) := (Below.refl _ _).alloc (Nat.le_refl _) _
  generalize w.alloc (.cells #[.int .i64 ((c : Int) + 1), .int .i64 0, .int .i64 0] 122) = W0 at hb0 ⊢
  have HB0 := Lib.hid hb0
  clear hb0
  go_loopw [3, 7] (fun v i wr => ∃ k : Nat, k ≤ 3 ∧ i = .int .i64 k ∧ SgSt w wr c k v) (fun _ i _ => 3 - (intOf i).toNat)
  case atStart => exact ⟨0, by omega, rfl, .inl ⟨rfl, rfl⟩, HB0.out⟩
  case round =>
    obtain ⟨k, hk, rfl, hown, hb⟩ := hrel
    have HB := Lib.hid hb
    have hbs := hb.size
    clear hb
    rcases hown with ⟨rfl, rfl⟩ | ⟨h1, g, cap, rfl, hcell⟩
    · go_wp2_with (at_builtin; refine wpList_push rfl _ _ _ rfl w.heap.size 3 (.int .i64 0) 1 8 Tryz.underlying113 infoInt1 rfl (by decide) (.slice none 0 0) 0 [] rfl (World.ownsRow_nil _ _ _ _) wr.heap.size 3 #[.int .i64 (c : Int)] rfl (Blk.new _ _ _ rfl) rfl (by simp [Value.oneCell']) (by decide) (by decide) (by simp <;> omega) ?_; intro v2 w2 hown hgr hat)
      obtain ⟨g, cap, rfl⟩ := own_form hown
      have hcell : w2.cell? ⟨g, 0, none⟩ = some (.int .i64 (c : Int)) := by rw [hown.cellAt 0 (by omega)]; rfl
      have HC := Lib.hid hcell
      have HB2 := Lib.hid (show Below w.heap.size w w2 from (HB.out.alloc hbs _).grown hgr (by simp <;> omega) (by simp [Value.ownBlock]))
      clear hown hgr hat hcell
      go_wp2_with fail
      go_roundw
      case rel => exact ⟨1, by omega, rfl, .inr ⟨by omega, g, cap, rfl, HC.out⟩, HB2.out⟩
      case measure => simp [intOf]
    · have HC := Lib.hid hcell
      clear hcell
      rcases k with _ | _ | _ | _ | k
      · omega
      · go_wp2_with fail
        go_roundw
        case rel => exact ⟨2, by omega, rfl, .inr ⟨by omega, g, cap, rfl, HC.out⟩, HB.out⟩
        case measure => simp [intOf]
      · go_wp2_with fail
        go_roundw
        case rel => exact ⟨3, by omega, rfl, .inr ⟨by omega, g, cap, rfl, HC.out⟩, HB.out⟩
        case measure => simp [intOf]
      · go_wp2_with fail
        go_ret
        exact ⟨g, cap, rfl, HC.out, HB.out⟩
      · omega
end Go.Proofs.YtchpbdodlbghaaaGreatDoor

namespace Go.Proofs.YtchpbdodlbghaaaGreatDoor
open Go.RowKit
set_option maxRecDepth 100000

def gleft (w : World) (b r : Nat) : Nat := match w.heap[b]?, w.heap[r]? with | some (.map es _), some (.mapIter _ _ seen _) => (leftOf es seen).size | _, _ => 0
theorem GIter.count {P : Program} {k : TypeId} {w : World} {b r : Nat} {l left : List (Value × Value)} (h : GIter P k w b r l left) : gleft w b r = left.length := by
  obtain ⟨es, clock, since, seen, c0, h1, h2, h3, h4, h5, h6, h7, h8⟩ := h.ex
  unfold gleft
  rw [h1, h4]
  simp only
  rw [← h8, List.length_map, Array.length_toList]
theorem RootTo.list {w : World} {b : Nat} (h : RootTo w b 132) : ∃ L, GMap Tryz.prog 122 w b L ∧ L.map (·.1) = rootL.map (fun x => kS x.1) := by
  obtain ⟨L, h1, h2, h3, h4⟩ := h
  refine ⟨L, h1, ?_⟩
  apply List.ext_getElem?
  intro i
  rw [List.getElem?_map, List.getElem?_map]
  rcases Nat.lt_or_ge i 132 with hi | hi
  · have hr : rootL[i]? = some rootL[i] := List.getElem?_eq_getElem (by rw [rootL_length]; exact hi)
    obtain ⟨v, h5, _⟩ := h4 i _ _ hi hr
    rw [h5, hr]
    rfl
  · rw [List.getElem?_eq_none (by omega), List.getElem?_eq_none (by rw [rootL_length]; exact hi)]
    rfl
def longL (cs : List Nat) : List (Value × Value) := cs.map fun c : Nat => (.int .i64 (c : Int), .int .i64 1)
structure LS1 (w0 w : World) (b r G : Nat) (L left : List (Value × Value)) (cs : List Nat) : Prop where
  it : GIter Tryz.prog 122 w b r L left
  long : GMap Tryz.prog 3 w G (longL cs)
  perm : (cs.map kS ++ left.map (·.1)).Perm (rootL.map fun x => kS x.1)
  below : Below w0.heap.size w0 w
  hG : w0.heap.size ≤ G
  hr : w0.heap.size ≤ r
  hb : b < w0.heap.size
  ne : r ≠ G
theorem kS_map_nodup : (rootL.map fun x => kS x.1).Nodup := by
  have h := rootL_nodup
  rw [List.Nodup, List.pairwise_map] at h ⊢
  exact h.imp fun hne e => hne (kS_inj e)
def rootC : List Nat := rootL.map (·.1)
theorem rootC_le : ∀ c ∈ rootC, c ≤ 1000 := by decide +kernel
theorem mem_rootC {c : Nat} (h : kS c ∈ rootL.map fun x => kS x.1) : c ∈ rootC := by
  obtain ⟨x, hx, e⟩ := List.mem_map.1 h
  exact List.mem_map.2 ⟨x, hx, kS_inj e⟩
theorem kS_perm {cs : List Nat} (h : (cs.map kS).Perm (rootL.map fun x => kS x.1)) : cs.Perm rootC := by
  have hnd : (cs.map kS).Nodup := h.nodup_iff.2 kS_map_nodup
  have h1 : cs.Nodup := by
    rw [List.Nodup, List.pairwise_map] at hnd
    exact hnd.imp fun hne e => hne (by rw [e])
  refine (List.perm_ext_iff_of_nodup h1 (by unfold rootC; exact rootL_nodup)).2 fun c => ?_
  constructor
  · intro hc
    exact mem_rootC (h.mem_iff.1 (List.mem_map.2 ⟨c, hc, rfl⟩))
  · intro hc
    obtain ⟨x, hx, rfl⟩ := List.mem_map.1 hc
    obtain ⟨d, hd, e⟩ := List.mem_map.1 (h.mem_iff.2 (List.mem_map.2 ⟨x, hx, rfl⟩))
    rw [← kS_inj e]; exact hd
theorem LS1.key {w0 w : World} {b r G : Nat} {L l1 l2 : List (Value × Value)} {cs : List Nat} {x v : Value} (h : LS1 w0 w b r G L (l1 ++ (x, v) :: l2) cs) : ∃ c, x = kS c ∧ c ≤ 1000 ∧ c ∉ cs ∧ (∀ w1, GIter Tryz.prog 122 w1 b r L (l1 ++ l2) → GMap Tryz.prog 3 w1 G (longL (cs ++ [c])) → Below w0.heap.size w0 w1 → LS1 w0 w1 b r G L (l1 ++ l2) (cs ++ [c])) := by
  have hm : x ∈ rootL.map fun x => kS x.1 := h.perm.mem_iff.1 (by simp)
  obtain ⟨y, hy, rfl⟩ := List.mem_map.1 hm
  refine ⟨y.1, rfl, (rootL_ok y hy).1, fun hc => ?_, fun w1 h1 h2 h3 => ⟨h1, h2, ?_, h3, h.hG, h.hr, h.hb, h.ne⟩⟩
  · have hnd := h.perm.nodup_iff.2 kS_map_nodup
    rw [List.nodup_append] at hnd
    exact hnd.2.2 _ (List.mem_map.2 ⟨y.1, hc, rfl⟩) _ (by simp) rfl
  · refine List.Perm.trans ?_ h.perm
    simp only [List.map_append, List.map_cons, List.map_nil, List.append_assoc]
    refine List.Perm.append_left _ ?_
    rw [List.singleton_append]
    exact List.perm_middle.symm
theorem long_get {w : World} {G : Nat} {cs : List Nat} (h : GMap Tryz.prog 3 w G (longL cs)) (c : Nat) (hc : c ≤ 1000) (hn : c ∉ cs) :
    (Instr.lookup 147 (.map (some G)) (.int .i64 c) false).run Tryz.prog w = .ok (.int .i64 0) w :=
  h.run_miss keyedInt Tryz.underlying147 zeroInt (keyInt c (by omega)) (fun p hp e => by
    obtain ⟨d, hd, rfl⟩ := List.mem_map.1 hp
    simp only [Value.int.injEq, true_and] at e
    have : d = c := by omega
    exact hn (this ▸ hd)) false
theorem long_put {w : World} {G : Nat} {cs : List Nat} (h : GMap Tryz.prog 3 w G (longL cs)) (c : Nat) (hc : c ≤ 1000) (hn : c ∉ cs) :
    ∃ w', (Instr.mapUpdate 147 (.map (some G)) (.int .i64 c) (.int .i64 1)).run Tryz.prog w = .ok () w' ∧ (GMap Tryz.prog 3 w' G (longL (cs ++ [c])) ∧ w.grownBy w' (some G) ∧ w'.heap.size = w.heap.size) := by
  obtain ⟨w', h1, h2, h3, h4⟩ := h.run_put keyedInt Tryz.underlying147 (keyInt c (by omega)) (fun p hp e => by
    obtain ⟨d, hd, rfl⟩ := List.mem_map.1 hp
    simp only [Value.int.injEq, true_and] at e
    have : d = c := by omega
    exact hn (this ▸ hd)) (.int .i64 1)
  exact ⟨w', h1, by simpa [longL] using h2, h3, h4⟩
theorem infoPair : (Tryz.prog.info? 151).map (fun i => (i.zero, i.size, i.bytes)) = some (some (.agg #[.int .i64 0, .int .i64 0]), 2, 16) := by kernel_rfl
def flatP (ds : List Nat) : List Value := ds.flatMap fun c : Nat => [.int .i64 (c : Int), .int .i64 1]
theorem flatP_snoc (ds : List Nat) (c : Nat) : flatP (ds ++ [c]) = flatP ds ++ [.int .i64 (c : Int), .int .i64 1] := by simp [flatP]
theorem flatP_get : ∀ (ds : List Nat) (j : Nat), j < ds.length → (flatP ds)[j * 2]? = some (.int .i64 ((ds.getD j 0 : Nat) : Int)) ∧ (flatP ds)[j * 2 + 1]? = some (.int .i64 1)
  | [], j, h => absurd h (Nat.not_lt_zero _)
  | d :: ds, 0, _ => by simp [flatP]
  | d :: ds, j + 1, h => by
    have := flatP_get ds j (by simpa using h)
    have e : flatP (d :: ds) = .int .i64 (d : Int) :: .int .i64 1 :: flatP ds := by simp [flatP]
    rw [e, show (j + 1) * 2 = j * 2 + 1 + 1 by omega]
    simpa using this
structure LS2 (w0 w : World) (G r : Nat) (left : List (Value × Value)) (cs ds : List Nat) (v : Value) : Prop where
  it : GIter Tryz.prog 3 w G r (longL cs) left
  row : w.ownsRow w0.heap.size 151 2 v ds.length (flatP ds)
  perm : (longL ds ++ left).Perm (longL cs)
  below : Below w0.heap.size w0 w
  hr : w0.heap.size ≤ r
theorem longL_inj {cs ds : List Nat} (h : (longL ds).Perm (longL cs)) : ds.Perm cs := by
  have h1 := h.map (fun p : Value × Value => match p.1 with | .int _ n => n.toNat | _ => 0)
  have e : ∀ l : List Nat, (longL l).map (fun p : Value × Value => match p.1 with | .int _ n => n.toNat | _ => 0) = l := by
    intro l
    simp only [longL, List.map_map]
    exact (List.map_congr_left (g := id) fun i _ => by simp).trans (List.map_id l)
  rw [e, e] at h1
  exact h1
theorem pairs_of {w : World} {B : Nat} {v : Value} {ds : List Nat} (h : w.ownsRow B 151 2 v ds.length (flatP ds)) : PairsAt w v (ds.map fun c => (c, 1)) := by
  rcases Nat.eq_zero_or_pos ds.length with h0 | h0
  · rcases h.2 with ⟨h1, _⟩ | ⟨g, cap, cur, h1, _, hh, hn, _⟩
    · exact .inl ⟨h1, by rw [List.eq_nil_of_length_eq_zero h0]; rfl⟩
    · refine .inr ⟨g, cap, by rw [h1, List.length_map], by rw [List.length_map]; exact hn, (Array.getElem?_eq_some_iff.1 hh).1, fun j hj => ?_⟩
      rw [List.length_map] at hj; omega
  · obtain ⟨g, cap, rfl⟩ := own_form' h (by omega)
    obtain ⟨cur, _, hlt⟩ := ownsRow_heap h (g := g) rfl
    have hcap : ds.length ≤ cap := by
      obtain ⟨a, c, e, hc⟩ := ownsRow_slice h
      simp only [Value.slice.injEq] at e
      omega
    refine .inr ⟨g, cap, by rw [List.length_map], by rw [List.length_map]; exact hcap, hlt, fun j hj => ?_⟩
    rw [List.length_map] at hj
    have hd : (ds.map fun c => (c, (1 : Int))).getD j (0, 0) = (ds.getD j 0, 1) := by
      simp [List.getD_eq_getElem?_getD, List.getElem?_eq_getElem hj]
    obtain ⟨f1, f2⟩ := flatP_get ds j hj
    rw [hd]
    exact ⟨by rw [h.cellAt (j * 2) (by omega)]; exact f1, by rw [h.cellAt (j * 2 + 1) (by omega)]; exact f2⟩
theorem fOf_ones {ds : List Nat} (h : ds.Perm rootC) (c : Nat) : fOf (ds.map fun c => (c, 1)) c = if c ∈ rootC then 1 else 0 := by
  unfold fOf
  by_cases hc : c ∈ rootC
  · rw [if_pos hc]
    have hd := h.mem_iff.2 hc
    cases hf : (ds.map fun c => (c, (1 : Int))).find? (fun p => p.1 == c) with
    | none =>
      rw [List.find?_eq_none] at hf
      exact absurd (by simp) (hf (c, 1) (List.mem_map.2 ⟨c, hd, rfl⟩))
    | some p =>
      obtain ⟨d, _, rfl⟩ := List.mem_map.1 (List.mem_of_find?_eq_some hf)
      rfl
  · rw [if_neg hc, List.find?_eq_none.2]
    · rfl
    · intro p hp
      obtain ⟨d, hd, rfl⟩ := List.mem_map.1 hp
      have : d ≠ c := fun e => hc (e ▸ h.mem_iff.1 hd)
      simpa using this
def RootAt (w : World) (p : Nat) : Prop := ∃ b T f, Blk w p #[.map (some b), .pointer (some ⟨T, 0, none⟩)] 156 ∧ RootTo w b 132 ∧ TrieAt w T f ∧ ∀ c, f c = if c ∈ rootC then 1 else 0
theorem RootAt.ext {w w' : World} {p : Nat} (h : RootAt w p) (hx : Ext w w') : RootAt w' p := by
  obtain ⟨b, T, f, h1, h2, h3, h4⟩ := h
  exact ⟨b, T, f, h1.keep hx, h2.ext hx, h3.ext hx, h4⟩
def TabPost (B : Nat) (w0 : World) (e : Ending) (w' : World) : Prop := ∃ p, e = .returned (.pointer (some ⟨p, 0, none⟩)) ∧ B ≤ p ∧ RootAt w' p ∧ Below B w0 w'
set_option maxHeartbeats 4000000 in
theorem build_root (b : Nat) (w : World) (h : RootTo w b 132) : Calls Tryz.prog 41 #[.map (some b)] w (TabPost w.heap.size w) := by
  have hmm := @run_makeMap Tryz.prog
  obtain ⟨L, hL, hk⟩ := h.list
  have HL := Lib.hid hL
  have HK := Lib.hid hk
  have HR := Lib.hid h
  have hbl := hL.lt
  clear hL hk h
  go_enter Tryz.func41, Tryz.ntmps41
  go_wp2_with (refine wpList_grange rfl _ _ rfl _ _ Tryz.underlying119 b L rfl (HL.out.alloc _) ?_; intro w1 hit hb1 hs1)
  go_frame
  have hS0 : LS1 w w1 b (w.alloc (.map #[] 0)).heap.size w.heap.size L L [] :=
    ⟨hit, (GMap.new _ _ w rfl).below hb1 (by simp), by simp [HK.out], Below.trans ((Below.refl _ _).alloc (Nat.le_refl _) _) (Below.mono hb1 (by simp)), Nat.le_refl _, by simp, hbl, by simp⟩
  generalize (w.alloc (.map #[] 0)).heap.size = r at hS0 ⊢
  clear hit hb1 hs1
  have HS0 := Lib.hid hS0
  clear hS0
  go_loopw [14] (fun _ wr => ∃ left cs, LS1 w wr b r w.heap.size L left cs) (fun _ wr => gleft wr b r)
  case atStart => exact ⟨L, [], HS0.out⟩
  case round =>
    obtain ⟨left, cs, hr⟩ := hrel
    have HR1 := Lib.hid hr
    clear hr
    go_wp2_with (refine wpList_gnext rfl _ rfl 122 b r L left rfl HR1.out.it ?_ ?_)
    · intro h0
      subst h0
      have HP := Lib.hid (kS_perm (by simpa using HR1.out.perm))
      go_wp2_with (refine wpList_grange rfl _ _ rfl _ _ Tryz.underlying147 w.heap.size (longL cs) rfl HR1.out.long ?_; intro w2 hit2 hb2 hs2)
      go_frame
      have hS2 : LS2 w w2 w.heap.size wr.heap.size (longL cs) cs [] (.slice none 0 0) :=
        ⟨hit2, World.ownsRow_nil _ _ _ _, by simp [longL], Below.trans HR1.out.below (Below.mono hb2 HR1.out.below.size), HR1.out.below.size⟩
      have HS2 := Lib.hid hS2
      clear hS2 hit2 hb2 hs2 HR1
      generalize wr.heap.size = r2 at HS2 ⊢
      go_loopw [6] (fun v wr => ∃ left ds, LS2 w wr w.heap.size r2 left cs ds v) (fun _ wr => gleft wr w.heap.size r2)
      case atStart => exact ⟨_, _, HS2.out⟩
      case round =>
        obtain ⟨left, ds, hr⟩ := hrel
        have HR2 := Lib.hid hr
        clear hr
        go_wp2_with (refine wpList_gnext rfl _ rfl 3 w.heap.size r2 (longL cs) left rfl HR2.out.it ?_ ?_)
        · intro h0
          subst h0
          have hds : ds.Perm rootC := (longL_inj (by simpa using HR2.out.perm)).trans HP.out
          have HDS := Lib.hid hds
          have hlen : ds.length = 132 := by rw [hds.length_eq]; decide +kernel
          clear hds
          go_wp2_with fail
          refine (build_walk _ (ds.map fun c => (c, 1)) _ (pairs_of HR2.out.row) (by rw [List.length_map]; omega) (fun p hp => by
            obtain ⟨c, hc, rfl⟩ := List.mem_map.1 hp
            have := rootC_le c (HDS.out.mem_iff.1 hc)
            exact ⟨by simp only; omega, by simp only; omega, by simp only; omega⟩) (by
            rw [List.map_map]
            have e : ds.map ((fun x : Nat × Int => x.1) ∘ fun c => (c, 1)) = ds := (List.map_congr_left (g := id) fun i _ => rfl).trans (List.map_id ds)
            rw [e]
            exact HDS.out.nodup_iff.2 rootL_nodup)).mono ?_
          rintro e w5 ⟨T, rfl, hT1, hT2, hb5⟩
          have HT := Lib.hid hT2
          have HB5 := Lib.hid (Below.trans HR2.out.below (Below.mono hb5 HR2.out.below.size))
          clear hT1 hT2 hb5
          go_wp2_with fail
          go_ret
          refine ⟨w5.heap.size, rfl, HB5.out.size, ⟨b, T, _, Blk.new w5 _ _ rfl, ((HR.out.ext HB5.out).ext ((Ext.refl _).alloc _)), HT.out.ext ((Ext.refl _).alloc _), fun c => fOf_ones HDS.out c⟩, HB5.out.alloc HB5.out.size _⟩
        · intro x y l1 l2 w4 hl hit4 hg4 hs4 hen
          subst hl
          obtain ⟨d, hd, he⟩ := List.mem_map.1 (show (x, y) ∈ longL cs from HR2.out.perm.mem_iff.1 (by simp))
          obtain ⟨rfl, rfl⟩ := Prod.mk.inj he
          clear he
          have hr4 : w4.ownsRow w.heap.size 151 2 u6 ds.length (flatP ds) := HR2.out.row.kept hg4 (.inr (fun e => by
            obtain ⟨cur, hc, _⟩ := ownsRow_heap HR2.out.row e
            obtain ⟨_, _, _, _, _, _, _, _, h4, _⟩ := HR2.out.it.ex
            rw [h4] at hc; cases hc))
          have HR4 := Lib.hid hr4
          have HI4 := Lib.hid hit4
          have HB4 := Lib.hid (Below.grown HR2.out.below hg4 HR2.out.below.size (fun k hk => by cases hk; exact HR2.out.hr))
          have hdl : ds.length ≤ 132 := by
            have h1 := HR2.out.perm.length_eq
            have h2 := HP.out.length_eq
            have h3 : rootC.length = 132 := by decide +kernel
            simp [longL] at h1
            omega
          clear hr4 hit4 hg4 hs4 hd
          go_wp2_with (at_builtin; refine wpList_push rfl _ _ _ rfl w.heap.size 151 (.agg #[.int .i64 0, .int .i64 0]) 2 16 Tryz.underlying149 infoPair rfl (by decide) u6 ds.length (flatP ds) rfl (HR4.out.alloc _) w4.heap.size 151 #[.int .i64 (d : Int), .int .i64 1] rfl (Blk.new _ _ _ rfl) rfl (by simp [Value.oneCell']) (by unfold maxLen; omega) (by omega) (by have := HB4.out.size; simp <;> omega) ?_; intro v5 w5 hown hgr hat)
          have HO5 := Lib.hid hown
          have hit5 := (HI4.out.alloc (.cells #[.int .i64 (d : Int), .int .i64 1] 151)).grown hgr (HI4.out.map.ne_row HR4.out) (fun e => by
            obtain ⟨cur, hc, _⟩ := ownsRow_heap HR4.out e.symm
            obtain ⟨_, _, _, _, _, _, _, _, h4, _⟩ := HI4.out.ex
            rw [h4] at hc; cases hc)
          have hb5 : Below w.heap.size w w5 := (HB4.out.alloc HB4.out.size _).grown hgr (by have := HB4.out.size; simp <;> omega) (fun k hk => by
            rcases HR4.out.2 with ⟨e, _⟩ | ⟨g', _, _, e, hB, _⟩
            · rw [e] at hk; simp [Value.ownBlock] at hk
            · rw [e] at hk; simp [Value.ownBlock] at hk; omega)
          have HZ := Lib.hid (show LS2 w w5 w.heap.size r2 (l1 ++ l2) cs (ds ++ [d]) v5 from ⟨hit5, by rw [flatP_snoc, List.length_append]; exact HO5.out, by
            refine List.Perm.trans ?_ HR2.out.perm
            simp only [longL, List.map_append, List.map_cons, List.map_nil, List.append_assoc]
            refine List.Perm.append_left _ ?_
            rw [List.singleton_append]
            exact List.perm_middle.symm, hb5, HR2.out.hr⟩)
          clear hown hgr hat hit5 hb5
          go_wp2_with fail
          go_roundw
          case rel => exact ⟨_, _, HZ.out⟩
          case measure => rw [HZ.out.it.count, HR2.out.it.count]; simp
    · intro x v l1 l2 w2 hl hit2 hg2 hs2 hen
      subst hl
      obtain ⟨c, rfl, hc, hcn, hstep⟩ := HR1.out.key
      have HST := Lib.hid hstep
      have HI2 := Lib.hid hit2
      have HG2 := Lib.hid (HR1.out.long.grown hg2 (fun e => HR1.out.ne (Option.some.inj e).symm))
      have HB2 := Lib.hid (Below.grown HR1.out.below hg2 HR1.out.below.size (fun k hk => by cases hk; exact HR1.out.hr))
      have HCN := Lib.hid hcn
      clear hstep hit2 hg2 hs2 hcn
      rw [show kS c = .agg #[.int .i64 ((c : Int) + 1), .int .i64 0, .int .i64 0] from rfl] at hen
      go_wp2_with fail
      rw [show Value.agg #[.int .i64 ((c : Int) + 1), .int .i64 0, .int .i64 0] = kS c from rfl]
      refine (signs_one c (by omega) _).mono ?_
      rintro e w3 ⟨g, cap, rfl, hcell, hb3⟩
      have hE : Ext w2 w3 := Below.trans ((Ext.refl w2).alloc _) (Below.mono hb3 (by simp))
      have HE := Lib.hid hE
      have hgl := World.block_lt_of_cell? w3 _ hcell
      have HF := Lib.hid (show ∀ W, Ext w3 W → W.cell? ⟨g, 0, none⟩ = some (.int .i64 (c : Int)) ∧ (Instr.lookup 147 (.map (some w.heap.size)) (.int .i64 c) false).run Tryz.prog W = .ok (.int .i64 0) W from
        fun W hW => ⟨by rw [hW.cell (p := ⟨g, 0, none⟩) hgl]; exact hcell, long_get (HG2.out.keep (hE.trans hW)) c hc HCN.out⟩)
      clear hcell hb3 hE hen
      go_wp2_with fail
      refine wp_par 12 (fun
          | 0 => fun v _ => v = .map (some w.heap.size)
          | 1 => fun v _ => v = .slice (some ⟨g, 0, none⟩) 1 cap
          | 2 => fun v _ => v = .pointer (some ⟨g, 0, none⟩)
          | 3 => fun v _ => v = .int .i64 c
          | 4 => fun v _ => v = .map (some w.heap.size)
          | 5 => fun v _ => v = .slice (some ⟨g, 0, none⟩) 1 cap
          | 6 => fun v _ => v = .pointer (some ⟨g, 0, none⟩)
          | 7 => fun v _ => v = .int .i64 c
          | 8 => fun v _ => v = .int .i64 0
          | 9 => fun v _ => v = .slice (some ⟨g, 0, none⟩) 1 cap
          | 10 => fun v _ => v = .int .i64 1
          | 11 => fun v _ => v = .int .i64 1
          | _ => fun _ _ => True) (by kernel_rfl) (by kernel_rfl) (by kernel_rfl) ?_ ?_
      · simp (maxSteps := 20000000) only [List.take_succ_cons, List.take_zero, ParAll, Act.put, List.setIfInBounds_toArray, List.set_cons_succ, List.set_cons_zero]
        refine ⟨?_, ?_, ?_, ?_, ?_, ?_, ?_, ?_, ?_, ?_, ?_, ?_, trivial⟩
        · intro vals W hx hd
          have hW := HF.out W hx
          simp [PDeps, pdeps, Region.binds] at hd
          first
            | refine ParOb.plain rfl ?_
            | refine ParOb.wanted (by simp [Region.wanted, yielded, hd]) ?_
          go_simp
          exact ParPost.same fun _ _ => rfl
        · intro vals W hx hd
          have hW := HF.out W hx
          simp [PDeps, pdeps, Region.binds] at hd
          first
            | refine ParOb.plain rfl ?_
            | refine ParOb.wanted (by simp [Region.wanted, yielded, hd]) ?_
          go_simp
          exact ParPost.same fun _ _ => rfl
        · intro vals W hx hd
          have hW := HF.out W hx
          simp [PDeps, pdeps, Region.binds] at hd
          first
            | refine ParOb.plain rfl ?_
            | refine ParOb.wanted (by simp [Region.wanted, yielded, hd]) ?_
          go_simp
          exact ParPost.same fun _ _ => rfl
        · intro vals W hx hd
          have hW := HF.out W hx
          simp [PDeps, pdeps, Region.binds] at hd
          first
            | refine ParOb.plain rfl ?_
            | refine ParOb.wanted (by simp [Region.wanted, yielded, hd]) ?_
          go_simp
          exact ParPost.same fun _ _ => rfl
        · intro vals W hx hd
          have hW := HF.out W hx
          simp [PDeps, pdeps, Region.binds] at hd
          first
            | refine ParOb.plain rfl ?_
            | refine ParOb.wanted (by simp [Region.wanted, yielded, hd]) ?_
          go_simp
          exact ParPost.same fun _ _ => rfl
        · intro vals W hx hd
          have hW := HF.out W hx
          simp [PDeps, pdeps, Region.binds] at hd
          first
            | refine ParOb.plain rfl ?_
            | refine ParOb.wanted (by simp [Region.wanted, yielded, hd]) ?_
          go_simp
          exact ParPost.same fun _ _ => rfl
        · intro vals W hx hd
          have hW := HF.out W hx
          simp [PDeps, pdeps, Region.binds] at hd
          first
            | refine ParOb.plain rfl ?_
            | refine ParOb.wanted (by simp [Region.wanted, yielded, hd]) ?_
          go_simp
          exact ParPost.same fun _ _ => rfl
        · intro vals W hx hd
          have hW := HF.out W hx
          simp [PDeps, pdeps, Region.binds] at hd
          first
            | refine ParOb.plain rfl ?_
            | refine ParOb.wanted (by simp [Region.wanted, yielded, hd]) ?_
          go_simp
          exact ParPost.same fun _ _ => rfl
        · intro vals W hx hd
          have hW := HF.out W hx
          simp [PDeps, pdeps, Region.binds] at hd
          first
            | refine ParOb.plain rfl ?_
            | refine ParOb.wanted (by simp [Region.wanted, yielded, hd]) ?_
          go_simp
          exact ParPost.same fun _ _ => rfl
        · intro vals W hx hd
          have hW := HF.out W hx
          simp [PDeps, pdeps, Region.binds] at hd
          first
            | refine ParOb.plain rfl ?_
            | refine ParOb.wanted (by simp [Region.wanted, yielded, hd]) ?_
          go_simp
          exact ParPost.same fun _ _ => rfl
        · intro vals W hx hd
          have hW := HF.out W hx
          simp [PDeps, pdeps, Region.binds] at hd
          first
            | refine ParOb.plain rfl ?_
            | refine ParOb.wanted (by simp [Region.wanted, yielded, hd]) ?_
          go_simp
          exact ParPost.same fun _ _ => rfl
        · intro vals W hx hd
          have hW := HF.out W hx
          simp [PDeps, pdeps, Region.binds] at hd
          first
            | refine ParOb.plain rfl ?_
            | refine ParOb.wanted (by simp [Region.wanted, yielded, hd]) ?_
          go_simp
          exact ParPost.same fun _ _ => rfl
      intro vals W hx hf
      simp (maxSteps := 20000000) only [ParFacts, List.take_succ_cons, List.take_zero, and_true] at hf
      simp (maxSteps := 20000000) only [List.drop_succ_cons, List.drop_zero, List.take_succ_cons, List.take_zero, ParEnd, Act.put, List.setIfInBounds_toArray, List.set_cons_succ, List.set_cons_zero, hf]
      clear hf
      have HW := Lib.hid (HE.out.trans hx)
      clear hx
      go_wp2_with (at_mapUpdate; refine wpList_upd rfl _ _ _ _ rfl w.heap.size _ rfl (long_put (HG2.out.keep HW.out) c hc HCN.out) ?_; intro w5 hR5)
      have HR5 := Lib.hid hR5
      clear hR5
      have hit5 := (HI2.out.keep HW.out).grown HR5.out.2.1 (fun e => by have := HR1.out.hb; have := Option.some.inj e; omega) (fun e => HR1.out.ne (Option.some.inj e))
      have HZ := Lib.hid (HST.out w5 hit5 HR5.out.1 (Below.grown (Below.trans HB2.out (Below.mono HW.out HB2.out.size)) HR5.out.2.1 (Nat.le_trans HB2.out.size HW.out.size) (fun k hk => by cases hk; exact Nat.le_refl _)))
      clear hit5
      go_frame
      go_roundw
      case rel => exact ⟨_, _, HZ.out⟩
      case measure => rw [HZ.out.it.count, HR1.out.it.count]; simp
theorem root_any (w : World) : Calls Tryz.prog 23 #[] w (TabPost w.heap.size w) := by
  refine (root_walk w (fun v w' => ∃ p, v = .pointer (some ⟨p, 0, none⟩) ∧ w.heap.size ≤ p ∧ RootAt w' p ∧ Below w.heap.size w w') fun wd h => ?_).mono ?_
  · refine (build_root w.heap.size wd h.root).mono ?_
    rintro e w' ⟨p, rfl, h1, h2, h3⟩
    exact ⟨_, rfl, p, rfl, Nat.le_trans h.hw h1, h2, Below.trans h.below (Below.mono h3 h.hw)⟩
  · rintro e w' ⟨v, rfl, p, rfl, h1, h2, h3⟩
    exact ⟨p, rfl, h1, h2, h3⟩
end Go.Proofs.YtchpbdodlbghaaaGreatDoor
namespace Go.Proofs.YtchpbdodlbghaaaGreatDoor
open Go.RowKit
set_option maxRecDepth 100000

def kB : Value := .agg #[.string ⟨#[98, 105, 110, 97, 114, 121]⟩]
def kF : Value := .agg #[.string ⟨#[110, 111, 99, 97, 115, 101]⟩]
def kR : Value := .agg #[.string ⟨#[114, 111, 111, 116]⟩]
def cB : Value := .agg #[.int .i64 1, .int .i64 0, .bool false, .bool false, .pointer none]
def cF : Value := .agg #[.int .i64 2, .int .i64 0, .bool false, .bool false, .pointer none]
def cR (p : Nat) : Value := .agg #[.int .i64 3, .int .i64 3, .bool false, .bool false, .pointer (some ⟨p, 0, none⟩)]
def goodE (w : World) (q : Value × Value) : Prop := q = (kB, cB) ∨ q = (kF, cF) ∨ (q.1 = kR ∧ ∃ p, q.2 = cR p ∧ RootAt w p)
def RegOk (B : Nat) (w : World) (M : Nat) (ks : List Value) : Prop := B ≤ M ∧ ∃ l, GMap Tryz.prog 74 w M l ∧ (∀ k ∈ ks, k ∈ l.map (·.1)) ∧ ∀ q ∈ l, goodE w q
structure LeM (B : Nat) (w w' : World) : Prop where
  os : w'.os = w.os
  tape : w'.tape = w.tape
  out : w'.output = w.output
  size : w.heap.size ≤ w'.heap.size
  old : ∀ i, i < B → i < w.heap.size → w'.heap[i]? = w.heap[i]?
  reg : ∀ M ks, RegOk B w M ks → RegOk B w' M ks
  root : ∀ p, RootAt w p → RootAt w' p
theorem leM (B : Nat) : IsLe (LeM B) :=
  ⟨fun _ => ⟨rfl, rfl, rfl, Nat.le_refl _, fun _ _ _ => rfl, fun _ _ h => h, fun _ h => h⟩,
   fun {a b c} h k => ⟨k.os.trans h.os, k.tape.trans h.tape, k.out.trans h.out, Nat.le_trans h.size k.size, fun i h1 h2 => (k.old i h1 (Nat.lt_of_lt_of_le h2 h.size)).trans (h.old i h1 h2), fun M ks hr => k.reg M ks (h.reg M ks hr), fun p hp => k.root p (h.root p hp)⟩,
   fun {a b} h => ⟨h.os, h.tape, h.out, h.size, h.old, fun M ks hr => by
      obtain ⟨h1, l, h2, h3, h4⟩ := h.reg M ks hr
      exact ⟨h1, l, h2.drew, h3, fun q hq => by
        rcases h4 q hq with h | h | ⟨h, p, h5, h6⟩
        · exact .inl h
        · exact .inr (.inl h)
        · exact .inr (.inr ⟨h, p, h5, h6.ext ((Ext.refl _).drew)⟩)⟩, fun p hp => (h.root p hp).ext ((Ext.refl _).drew)⟩⟩
theorem goodE.ext {w w' : World} {q : Value × Value} (h : goodE w q) (hx : ∀ p, RootAt w p → RootAt w' p) : goodE w' q := by
  rcases h with h | h | ⟨h, p, h5, h6⟩
  · exact .inl h
  · exact .inr (.inl h)
  · exact .inr (.inr ⟨h, p, h5, hx p h6⟩)
theorem LeM.ofExt {B : Nat} {w w' : World} (h : Ext w w') : LeM B w w' :=
  ⟨h.os, h.tape, h.output, h.size, fun i _ hi => h.block i hi, fun _ _ ⟨h1, l, h2, h3, h4⟩ => ⟨h1, l, h2.keep h, h3, fun q hq => (h4 q hq).ext fun _ hp => hp.ext h⟩, fun _ hp => hp.ext h⟩
theorem GMap.uniq {P : Program} {k k' : TypeId} {w : World} {b : Nat} {l l' : List (Value × Value)} (h : GMap P k w b l) (h' : GMap P k' w b l') : l = l' := by
  obtain ⟨es, c, h1, h2, _⟩ := h.ex
  obtain ⟨es', c', h1', h2', _⟩ := h'.ex
  rw [h1] at h1'
  injection h1' with h1'
  injection h1' with h3 _
  rw [← h2, ← h2', h3]
theorem goodE_key {w : World} {q : Value × Value} (h : goodE w q) : ∃ s, q.1 = .agg #[.string s] := by
  rcases h with rfl | rfl | ⟨h, _⟩
  · exact ⟨_, rfl⟩
  · exact ⟨_, rfl⟩
  · exact ⟨_, h⟩
theorem RootAt.grown {w w' : World} {B p M : Nat} {ks : List Value} (h : RootAt w p) (hR : RegOk B w M ks) (hg : w.grownBy w' (some M)) : RootAt w' p := by
  obtain ⟨_, l, hl, _, hq⟩ := hR
  obtain ⟨b, T, f, h1, h2, h3, h4⟩ := h
  have hb : b ≠ M := by
    rintro rfl
    obtain ⟨L, k1, k2, k3, k4⟩ := h2
    obtain ⟨v, k5, _⟩ := k4 0 _ _ (by omega) (List.getElem?_eq_getElem (show 0 < rootL.length by rw [rootL_length]; omega))
    have := hl.uniq k1
    subst this
    obtain ⟨s, hs⟩ := goodE_key (hq _ (List.mem_of_getElem? k5))
    simp [kS] at hs
  obtain ⟨L, k1, k2, k3, k4⟩ := h2
  refine ⟨b, T, f, blk_grownM h1 hg hl.nocells, ⟨L, k1.grown hg (fun e => hb (Option.some.inj e)), k2, k3, fun i c es hi hr => ?_⟩, ?_, h4⟩
  · obtain ⟨v, k5, k6⟩ := k4 i c es hi hr
    exact ⟨v, k5, k6.grown hg hl.nocells⟩
  · obtain ⟨Mt, g, c, is, t1, t2, t3, t4, t5, t6, t7⟩ := h3
    have hM : Mt ≠ M := by
      rintro rfl
      have := hl.uniq t2
      subst this
      cases is with
      | nil =>
        have h0 := t5 0 (by simp)
        have h32 := h4 32
        rw [if_pos (by decide +kernel)] at h32
        have h5 := congrArg (fun l => l[32]?) h0
        simp [blk] at h5
        omega
      | cons i is =>
        obtain ⟨s, hs⟩ := goodE_key (hq (.int .i64 (i : Int), .int .i64 (((blks f (i :: is)).idxOf (blk f i) : Nat) : Int)) (by simp [atL]))
        simp at hs
    exact ⟨Mt, g, c, is, blk_grownM t1 hg hl.nocells, t2.grown hg (fun e => hM (Option.some.inj e)), Nat.lt_of_lt_of_le t3 hg.size, fun k j hk hj => by
      have hc := t4 k j hk hj
      exact hg.cell hc (fun e => by
        obtain rfl := Option.some.inj e
        unfold World.cell? at hc
        cases hh : w.heap[g]? with
        | none => simp [hh] at hc
        | some ob => cases ob <;> first | exact hl.nocells _ _ _ hh | simp [hh] at hc), t5, t6, t7⟩
theorem keyName (s : ByteArray) (h : s.size ≤ maxLen) : KeyOk Tryz.prog 74 (.agg #[.string s]) := by
  have hkt : Tryz.prog.keyType 74 = true := by kernel_rfl
  have hc : Tryz.prog.cellsOf 74 = 1 := by kernel_rfl
  have hs : Tryz.prog.cellsOf 9 = 1 := by kernel_rfl
  obtain ⟨m, hm⟩ := typesSize
  unfold KeyOk keyOf
  simp only [Tryz.underlying74]
  rw [if_pos (by simp [hkt, Value.formed, Tryz.underlying74, hc]), hm]
  simp [Program.keyLits, Tryz.underlying74, Tryz.underlying9, Value.cells, hc, hs, h]
theorem keyedName : Maps.Keyed Tryz.prog 74 := Maps.Keyed.of_law (deep_law (m := 2) (by omega) (by kernel_rfl) (by kernel_rfl) (by kernel_rfl))
theorem reg_put {B M : Nat} {w : World} {ks : List Value} (h : RegOk B w M ks) {k v : Value} (hk : KeyOk Tryz.prog 74 k) (hg : goodE w (k, v)) :
    ∃ w', (Instr.mapUpdate 79 (.map (some M)) k v).run Tryz.prog w = .ok () w' ∧ (LeM B w w' ∧ RegOk B w' M [k]) := by
  have h0 := h
  obtain ⟨hB, l, hl, hks, hq⟩ := h
  have main : ∀ w' l', (Instr.mapUpdate 79 (.map (some M)) k v).run Tryz.prog w = .ok () w' → GMap Tryz.prog 74 w' M l' → w.grownBy w' (some M) → w'.heap.size = w.heap.size →
      (∀ x, x ∈ l.map (·.1) → x ∈ l'.map (·.1)) → k ∈ l'.map (·.1) → (∀ q ∈ l', q ∈ l ∨ q = (k, v)) →
      ∃ w', (Instr.mapUpdate 79 (.map (some M)) k v).run Tryz.prog w = .ok () w' ∧ (LeM B w w' ∧ RegOk B w' M [k]) := by
    intro w' l' hrun g1 g2 g3 g4 g5 g6
    have hroot : ∀ p, RootAt w p → RootAt w' p := fun p hp => hp.grown h0 g2
    have hall : ∀ q ∈ l', goodE w' q := fun q hq' => by
      rcases g6 q hq' with h | rfl
      · exact (hq q h).ext hroot
      · exact hg.ext hroot
    refine ⟨w', hrun, ⟨g2.os, g2.tape, g2.output, g2.size, fun i h1 h2 => g2.block i h2 (fun e => by have := Option.some.inj e; omega), fun M' ks' hr => ?_, hroot⟩, hB, l', g1, fun x hx => by
      simp at hx; subst hx; exact g5, hall⟩
    obtain ⟨hB', m, hm, hks', hq'⟩ := hr
    by_cases he : M' = M
    · subst he
      have := hl.uniq hm
      subst this
      exact ⟨hB', l', g1, fun x hx => g4 x (hks' x hx), hall⟩
    · exact ⟨hB', m, hm.grown g2 (fun e => he (Option.some.inj e)), hks', fun q hx => (hq' q hx).ext hroot⟩
  by_cases hmem : k ∈ l.map (·.1)
  · obtain ⟨q, hq1, rfl⟩ := List.mem_map.1 hmem
    obtain ⟨l1, l2, rfl⟩ := List.append_of_mem hq1
    obtain ⟨x, v0⟩ := q
    obtain ⟨w', h1, h2, h3, h4⟩ := hl.run_set keyedName Tryz.underlying79 v
    refine main w' _ h1 h2 h3 h4 (fun y hy => by simpa using hy) (by simp) (fun q hq => ?_)
    simp only [List.mem_append, List.mem_cons] at hq ⊢
    rcases hq with h | h | h
    · exact .inl (.inl h)
    · exact .inr h
    · exact .inl (.inr (.inr h))
  · obtain ⟨w', h1, h2, h3, h4⟩ := hl.run_put keyedName Tryz.underlying79 hk (fun p hp e => hmem (List.mem_map.2 ⟨p, hp, e⟩)) v
    refine main w' _ h1 h2 h3 h4 (fun y hy => by simp at hy ⊢; exact .inl hy) (by simp) (fun q hq => by simpa using hq)
theorem yields_ins {P : Program} {w : World} {o : Oper} {ρ : Operand → Value} {Y : Value → World → Prop} (t : TypeId) (m x y : Operand) (ho : o.op = .insert t m x y) {b : Nat} {k v : Value} (hm : ρ m = .map (some b)) (hx : ρ x = k) (hy : ρ y = v) (R : World → Prop)
    (hrun : ∃ w', (Instr.mapUpdate t (.map (some b)) k v).run P w = .ok () w' ∧ R w') (h : ∀ w', R w' → Y undef w') : yields P o ρ w Y := by
  obtain ⟨w', hr, hR⟩ := hrun
  unfold yields execOp
  simp [ho, hm, hx, hy, hr, Result.andThen]
  exact h w' hR
def isMap (B : Nat) (v : Value) (w : World) : Prop := ∃ M, v = .map (some M) ∧ RegOk B w M []
def hasKey (B : Nat) (k : Value) (ds : List Value) (_v : Value) (w : World) : Prop := ∃ M, ds.head? = some (.map (some M)) ∧ RegOk B w M [k]
def isRoot (v : Value) (w : World) : Prop := ∃ p, v = .pointer (some ⟨p, 0, none⟩) ∧ RootAt w p
def isColl (v : Value) (w : World) : Prop := ∃ p, v = cR p ∧ RootAt w p
def RegAt (w : World) (q : Nat) : Prop := ∃ M l, Blk w q #[.map (some M)] 81 ∧ GMap Tryz.prog 74 w M l ∧ (kB, cB) ∈ l ∧ (kF, cF) ∈ l ∧ (∃ p, (kR, cR p) ∈ l ∧ RootAt w p) ∧ ∀ x ∈ l, x.1 = kB ∨ x.1 = kF ∨ x.1 = kR
theorem RegAt.ext {w w' : World} {q : Nat} (h : RegAt w q) (hx : Ext w w') : RegAt w' q := by
  obtain ⟨M, l, h1, h2, h3, h4, ⟨p, h5, h6⟩, h7⟩ := h
  exact ⟨M, l, h1.keep hx, h2.keep hx, h3, h4, ⟨p, h5, h6.ext hx⟩, h7⟩
def RegPost (w : World) (e : Ending) (w' : World) : Prop := ∃ q, e = .returned (.pointer (some ⟨q, 0, none⟩)) ∧ w.heap.size ≤ q ∧ RegAt w' q ∧ Below w.heap.size w w'
theorem regOf {B M : Nat} {W : World} (h1 : RegOk B W M [kB]) (h2 : RegOk B W M [kF]) (h3 : RegOk B W M [kR]) : ∀ (w' : World) (q : Nat), Blk w' q #[.map (some M)] 81 → Ext W w' → RegAt w' q := by
  intro w' q hq hx
  obtain ⟨_, l, g1, k1, e1⟩ := h1
  obtain ⟨_, l2, g2, k2, _⟩ := h2
  obtain ⟨_, l3, g3, k3, _⟩ := h3
  have := g1.uniq g2; subst this
  have := g1.uniq g3; subst this
  have nBF : kB ≠ kF := by simp [kB, kF]
  have nBR : kB ≠ kR := by simp [kB, kR]
  have nFR : kF ≠ kR := by simp [kF, kR]
  refine ⟨M, l, hq, g1.keep hx, ?_, ?_, ?_, fun x hm => ?_⟩
  · obtain ⟨x, hx1, hx2⟩ := List.mem_map.1 (k1 kB (by simp))
    rcases e1 x hx1 with rfl | rfl | ⟨h, _⟩
    · exact hx1
    · exact absurd hx2.symm nBF
    · exact absurd (hx2.symm.trans h) nBR
  · obtain ⟨x, hx1, hx2⟩ := List.mem_map.1 (k2 kF (by simp))
    rcases e1 x hx1 with rfl | rfl | ⟨h, _⟩
    · exact absurd hx2 nBF
    · exact hx1
    · exact absurd (hx2.symm.trans h) nFR
  · obtain ⟨x, hx1, hx2⟩ := List.mem_map.1 (k3 kR (by simp))
    rcases e1 x hx1 with rfl | rfl | ⟨h, p, h5, h6⟩
    · exact absurd hx2 nBR
    · exact absurd hx2 nFR
    · refine ⟨p, ?_, h6.ext hx⟩
      obtain ⟨a, b⟩ := x
      simp only at h h5
      subst h h5
      exact hx1
  · rcases e1 x hm with rfl | rfl | ⟨h, _⟩
    · exact .inl rfl
    · exact .inr (.inl rfl)
    · exact .inr (.inr h)
set_option maxHeartbeats 4000000 in
theorem regnew_any (w : World) : Calls Tryz.prog 14 #[] w (RegPost w) := by
  have hmm := @run_makeMap Tryz.prog
  have HF := Lib.hid (show ∀ W, LeM w.heap.size w W → w.heap.size ≤ W.heap.size from fun W h => h.size)
  go_enter Tryz.func14, Tryz.ntmps14
  go_wp2_with fail
  refine wp_parZG (leM w.heap.size) [0, 1, 2, 3, 4, 5, 6, 7, 8, 9, 10, 11, 12, 13, 14] 11 11 (fun
      | 0 => fun _ => isMap w.heap.size
      | 1 => fun _ v _ => v = kB
      | 2 => fun _ v _ => v = cB
      | 3 => hasKey w.heap.size kB
      | 4 => fun _ v _ => v = kF
      | 5 => fun _ v _ => v = cF
      | 6 => hasKey w.heap.size kF
      | 7 => fun _ v _ => v = kR
      | 8 => fun _ => isRoot
      | 9 => fun _ => isColl
      | 10 => hasKey w.heap.size kR
      | _ => fun _ _ _ => True) (fun
      | _ => undef) (by kernel_rfl) (by kernel_rfl) (by kernel_rfl) ?_ ?_ ?_
  · simp (maxSteps := 20000000) only [permL, permOp, List.filterMap_cons, List.filterMap_nil, List.getElem?_cons_succ, List.getElem?_cons_zero, Option.map_some, Option.map_none, List.take_succ_cons, List.take_zero, ParAllG, Act.put, List.setIfInBounds_toArray, List.set_cons_succ, List.set_cons_zero]
    refine ⟨?_, ?_, ?_, ?_, ?_, ?_, ?_, ?_, ?_, ?_, ?_, trivial⟩
    · intro vals W hx hd
      have hW := HF.out W hx
      simp [PDepsG, pdeps, Region.binds, List.idxOf_cons] at hd
      first
        | refine ParObG.plain rfl ?_
        | refine ParObG.wanted (by simp [Region.wanted, yielded, hd]) ?_
      go_simp
      exact ⟨LeM.ofExt ((Ext.refl _).alloc _), fun w2 h2 => ⟨_, rfl, h2.reg _ _ ⟨hW, [], GMap.new _ _ _ rfl, by simp, by simp⟩⟩⟩
    · intro vals W hx hd
      have hW := HF.out W hx
      simp [PDepsG, pdeps, Region.binds, List.idxOf_cons] at hd
      first
        | refine ParObG.plain rfl ?_
        | refine ParObG.wanted (by simp [Region.wanted, yielded, hd]) ?_
      go_simp
      exact ParPostG.same (leM w.heap.size) fun _ _ => rfl
    · intro vals W hx hd
      have hW := HF.out W hx
      simp [PDepsG, pdeps, Region.binds, List.idxOf_cons] at hd
      first
        | refine ParObG.plain rfl ?_
        | refine ParObG.wanted (by simp [Region.wanted, yielded, hd]) ?_
      go_simp
      exact ParPostG.same (leM w.heap.size) fun _ _ => rfl
    · intro vals W hx hd
      have hW := HF.out W hx
      simp [PDepsG, pdeps, Region.binds, List.idxOf_cons] at hd
      first
        | refine ParObG.plain rfl ?_
        | refine ParObG.wanted (by simp [Region.wanted, yielded, hd]) ?_
      obtain ⟨⟨M, hv, hR⟩, h1, h2⟩ := hd
      refine yields_ins (k := kB) (v := cB) _ _ _ _ rfl (by simpa [Act.eval] using hv) (by simpa [Act.eval] using h1) (by simpa [Act.eval] using h2) _ (reg_put hR (keyName _ (by decide)) (.inl rfl)) ?_
      rintro w2 ⟨g1, g2⟩
      exact ⟨g1, fun w3 h3 => ⟨M, by simp [dv, ldeps, pdeps, Region.binds, List.idxOf_cons, hv], h3.reg _ _ g2⟩⟩
    · intro vals W hx hd
      have hW := HF.out W hx
      simp [PDepsG, pdeps, Region.binds, List.idxOf_cons] at hd
      first
        | refine ParObG.plain rfl ?_
        | refine ParObG.wanted (by simp [Region.wanted, yielded, hd]) ?_
      go_simp
      exact ParPostG.same (leM w.heap.size) fun _ _ => rfl
    · intro vals W hx hd
      have hW := HF.out W hx
      simp [PDepsG, pdeps, Region.binds, List.idxOf_cons] at hd
      first
        | refine ParObG.plain rfl ?_
        | refine ParObG.wanted (by simp [Region.wanted, yielded, hd]) ?_
      go_simp
      exact ParPostG.same (leM w.heap.size) fun _ _ => rfl
    · intro vals W hx hd
      have hW := HF.out W hx
      simp [PDepsG, pdeps, Region.binds, List.idxOf_cons] at hd
      first
        | refine ParObG.plain rfl ?_
        | refine ParObG.wanted (by simp [Region.wanted, yielded, hd]) ?_
      obtain ⟨⟨M, hv, hR⟩, h1, h2⟩ := hd
      refine yields_ins (k := kF) (v := cF) _ _ _ _ rfl (by simpa [Act.eval] using hv) (by simpa [Act.eval] using h1) (by simpa [Act.eval] using h2) _ (reg_put hR (keyName _ (by decide)) (.inr (.inl rfl))) ?_
      rintro w2 ⟨g1, g2⟩
      exact ⟨g1, fun w3 h3 => ⟨M, by simp [dv, ldeps, pdeps, Region.binds, List.idxOf_cons, hv], h3.reg _ _ g2⟩⟩
    · intro vals W hx hd
      have hW := HF.out W hx
      simp [PDepsG, pdeps, Region.binds, List.idxOf_cons] at hd
      first
        | refine ParObG.plain rfl ?_
        | refine ParObG.wanted (by simp [Region.wanted, yielded, hd]) ?_
      go_simp
      exact ParPostG.same (leM w.heap.size) fun _ _ => rfl
    · intro vals W hx hd
      have hW := HF.out W hx
      simp [PDepsG, pdeps, Region.binds, List.idxOf_cons] at hd
      first
        | refine ParObG.plain rfl ?_
        | refine ParObG.wanted (by simp [Region.wanted, yielded, hd]) ?_
      go_simp
      refine (root_any W).mono ?_
      rintro e w2 ⟨p, rfl, h1, h2, h3⟩
      exact ⟨_, rfl, LeM.ofExt h3, fun w4 h4 => ⟨p, rfl, h4.root p h2⟩⟩
    · intro vals W hx hd
      have hW := HF.out W hx
      simp [PDepsG, pdeps, Region.binds, List.idxOf_cons] at hd
      first
        | refine ParObG.plain rfl ?_
        | refine ParObG.wanted (by simp [Region.wanted, yielded, hd]) ?_
      obtain ⟨p, hv, hp⟩ := hd
      go_simp
      exact ⟨(leM _).refl _, fun w2 h2 => ⟨p, rfl, h2.root p hp⟩⟩
    · intro vals W hx hd
      have hW := HF.out W hx
      simp [PDepsG, pdeps, Region.binds, List.idxOf_cons] at hd
      first
        | refine ParObG.plain rfl ?_
        | refine ParObG.wanted (by simp [Region.wanted, yielded, hd]) ?_
      obtain ⟨⟨M, hv, hR⟩, h1, p, h2, hp⟩ := hd
      refine yields_ins (k := kR) (v := cR p) _ _ _ _ rfl (by simpa [Act.eval] using hv) (by simpa [Act.eval] using h1) (by simpa [Act.eval] using h2) _ (reg_put hR (keyName _ (by decide)) (.inr (.inr ⟨rfl, p, rfl, hp⟩))) ?_
      rintro w2 ⟨g1, g2⟩
      exact ⟨g1, fun w3 h3 => ⟨M, by simp [dv, ldeps, pdeps, Region.binds, List.idxOf_cons, hv], h3.reg _ _ g2⟩⟩
  · simp (maxSteps := 20000000) only [permL, permOp, List.filterMap_cons, List.filterMap_nil, List.getElem?_cons_succ, List.getElem?_cons_zero, Option.map_some, Option.map_none, List.drop_succ_cons, List.drop_zero, List.take_succ_cons, List.take_zero, Nat.reduceSub, ZAll, ParEnd, Act.put, List.setIfInBounds_toArray, List.set_cons_succ, List.set_cons_zero]
  intro vals W hx hf hz
  simp (maxSteps := 20000000) only [permL, permOp, List.filterMap_cons, List.filterMap_nil, List.getElem?_cons_succ, List.getElem?_cons_zero, Option.map_some, Option.map_none, ParFactsG, List.take_succ_cons, List.take_zero, and_true, Nat.reduceAdd] at hf
  obtain ⟨f0, f1, f2, f3, f4, f5, f6, f7, f8, f9, f10⟩ := hf
  clear hz
  simp (maxSteps := 20000000) only [permL, permOp, List.filterMap_cons, List.filterMap_nil, List.getElem?_cons_succ, List.getElem?_cons_zero, Option.map_some, Option.map_none, List.drop_succ_cons, List.drop_zero, List.take_succ_cons, List.take_zero, Nat.reduceSub, ParEnd, ZTail, Act.put, List.setIfInBounds_toArray, List.set_cons_succ, List.set_cons_zero, Nat.reduceAdd, f1, f2, f4, f5, f7]
  clear f1 f2 f4 f5 f7
  have hb : Below w.heap.size w W := ⟨hx.os, hx.tape, hx.out, hx.size, fun i hi => hx.old i hi hi⟩
  obtain ⟨M, hM, hR0⟩ := f0
  have link : ∀ {k : Value} {ds : List Value} {v : Value}, hasKey w.heap.size k ds v W → ds.head? = some (vals 0) → RegOk w.heap.size W M [k] := by
    rintro k ds v ⟨M', h1, h2⟩ h3
    rw [h3, hM] at h1
    simp only [Option.some.injEq, Value.map.injEq] at h1
    subst h1
    exact h2
  have r3 := link f3 (by simp [dv, ldeps, pdeps, Region.binds, List.idxOf_cons])
  have r6 := link f6 (by simp [dv, ldeps, pdeps, Region.binds, List.idxOf_cons])
  have r10 := link f10 (by simp [dv, ldeps, pdeps, Region.binds, List.idxOf_cons])
  clear f3 f6 f8 f9 f10 link hx
  rw [hM]
  clear hM
  have HQ := Lib.hid (regOf r3 r6 r10)
  have HB := Lib.hid hb
  clear r3 r6 r10 hb hR0
  go_simp
  go_wp2_with fail
  go_ret
  exact ⟨W.heap.size, rfl, HB.out.size, HQ.out _ _ (Blk.new W _ _ rfl) ((Ext.refl _).alloc _), HB.out.alloc HB.out.size _⟩
end Go.Proofs.YtchpbdodlbghaaaGreatDoor
