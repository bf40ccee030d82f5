/-
  The document's weights of a text (umlautref8.Coll.Weights), no backward level. The document's way of texts (umlautref1.FoldText, umlautref8.Coll.Cmp), no backward level. The document's way of two texts (umlautref8.Coll.Cmp): what the program's is, too.
-/
import Derived.Test.YtipokgedmfnlaaaGreatDoorDocH
import Derived.Test.YtipokgedmfnlaaaGreatDoorValB
import Derived.Test.YtipokgedmfnlaaaGreatDoorMake
namespace Go.Proofs.YtipokgedmfnlaaaGreatDoor
open Go.RowKit Go.Lib
set_option maxRecDepth 100000

def pst (e : El) : Array Value := #[.int .i64 (e.p : Int), .int .i64 (e.s : Int), .int .i64 (e.t : Int)]
def isI3 (e : El) (v : Value) (w : World) : Prop := ∃ b, v = .slice (some ⟨b, 0, none⟩) 3 3 ∧ Blk w b (pst e) 3
def isI3At (e : El) (k : Nat) (v : Value) (w : World) : Prop := ∃ b, v = .pointer (some ⟨b, k, none⟩) ∧ Blk w b (pst e) 3
theorem pst_at (e : El) (l : Nat) (h : l = 1 ∨ l = 2 ∨ l = 3) : (pst e)[l - 1]? = some (.int .i64 (e.wt l : Int)) := by
  rcases h with rfl | rfl | rfl <;> rfl
set_option maxHeartbeats 32000000 in
theorem weightsR_any (lv : Int) (sh : Bool) (tv : Value) (s : ByteArray) (L : List (Nat × List El)) (l : Nat) (w : World) (hl : l = 1 ∨ l = 2 ∨ l = 3) (hL : EntsR w tv L) (hn : L.length ≤ 1000) (h8 : ∀ y ∈ L, y.2.length ≤ 8) (hz : s.size ≤ 10000) :
    Calls Tryz.prog 89 #[rV 3 lv sh false tv, .string s, .int .i64 (l : Int)] w fun e w' => (∃ u, e = .returned u ∧ ReadsL w' u (intsV (wtL l sh (elsL L (signs s.data.toList))))) ∧ Below w.heap.size w w' := by
  obtain ⟨tp, tn, tk, rfl⟩ := hL.slice
  have HPL := Lib.hid (fun e => pst_at e l hl)
  have hl1 : (1 : Int) ≤ l := by omega
  have hl3 : (l : Int) ≤ 3 := by omega
  have hll : ((l - 1 : Nat) : Int) = (l : Int) - 1 := by omega
  have hlt3 : l - 1 < 3 := by omega
  have hel : (elsL L (signs s.data.toList)).length ≤ 80000 := by
    have h1 := elsL_len L h8 (signs s.data.toList)
    have h2 := signs_length s.data.toList
    rw [Array.length_toList] at h2
    have h3 : (signs s.data.toList).length ≤ 10000 := Nat.le_trans h2 hz
    omega
  have KE := Lib.hid (fun (W : World) (hW : Ext w W) => elementsR_any (.slice tp tn tk) s L W (hL.ext hW) hn h8 (by omega))
  generalize elsL L (signs s.data.toList) = es at KE hel ⊢
  rw [show rV 3 lv sh false (.slice tp tn tk) = .agg #[.int .i64 3, .int .i64 lv, .bool sh, .bool false, .slice tp tn tk] from rfl]
  clear hL h8 hl
  go_enter Tryz.func89, Tryz.ntmps89
  go_wp2_with fail
  have hQ : Blk (w.alloc (.cells #[.int .i64 3, .int .i64 lv, .bool sh, .bool false, .slice tp tn tk] 30)) w.heap.size #[.int .i64 3, .int .i64 lv, .bool sh, .bool false, .slice tp tn tk] 30 := Blk.new w _ _ rfl
  have hx0 : Ext w (w.alloc (.cells #[.int .i64 3, .int .i64 lv, .bool sh, .bool false, .slice tp tn tk] 30)) := (Ext.refl w).alloc _
  refine Calls.mono (KE.out _ hx0) ?_
  rintro e w1 ⟨⟨u, rfl, hu⟩, hb1⟩
  have HQ := Lib.hid (hQ.keep hb1)
  have HX0 := Lib.hid (Ext.trans hx0 hb1)
  obtain ⟨ao, cap, rfl, hcap, hcl⟩ := elsAt hu
  have HCl := Lib.hid hcl
  clear hQ hx0 hb1 hu hcl KE
  have hesI : (es.length : Int) ≤ 80000 := by omega
  generalize w.heap.size = q at HQ ⊢
  go_simp
  repeat (first | go_values | go_skip | go_guarded | go_step | go_upon)
  go_loopw [8, 9] (fun o i wr => ∃ k : Nat, k ≤ es.length ∧ i = .int .i64 k ∧ wr.ownsRow w1.heap.size 3 1 o (wtL l sh (es.take k)).length (intsV (wtL l sh (es.take k))) ∧ Ext w1 wr) (fun _ i _ => es.length - (intOf i).toNat)
  case atStart => exact ⟨0, Nat.zero_le _, rfl, World.ownsRow_nil _ _ _ _, Ext.refl _⟩
  case round =>
    obtain ⟨k, hk, rfl, ho, hx⟩ := hrel
    have HO := Lib.hid ho
    have HXr := Lib.hid hx
    clear ho hx
    by_cases hlt : k < es.length
    · have hk' : (k : Int) < es.length := by omega
      obtain ⟨g, rfl, _⟩ := HCl.out wr HXr.out k hlt
      have HC := Lib.hid (show ∀ W, Ext wr W → W.cell? ⟨g, k * 4, none⟩ = some (.int .i64 (es[k].p : Int)) ∧ W.cell? ⟨g, k * 4 + 1, none⟩ = some (.int .i64 (es[k].s : Int)) ∧ W.cell? ⟨g, k * 4 + 2, none⟩ = some (.int .i64 (es[k].t : Int)) ∧ W.cell? ⟨g, k * 4 + 3, none⟩ = some (.bool es[k].v) from fun W hW => by
        obtain ⟨g', hg, h⟩ := HCl.out W (Ext.trans HXr.out hW) k hlt
        cases hg
        exact h)
      have ht := wtL_take l sh es k hlt
      have hle := wtL_len l sh es k
      have HP := Lib.hid (HPL.out es[k])
      generalize es[k] = e0 at HC ht HP
      have hcn : cnts l sh e0 = (!((e0.wt l : Int) == 0) && !(sh && e0.v)) := by
        unfold cnts
        congr 1
        rw [Bool.eq_iff_iff]
        simp
        omega
      generalize e0.wt l = x at ht HP hcn
      obtain ⟨X, hX⟩ : ∃ X : Int, X = (x : Int) := ⟨_, rfl⟩
      rw [← hX] at HP hcn
      have HXx := Lib.hid hX
      generalize cnts l sh e0 = cn at ht hcn
      generalize wtL l sh (es.take k) = ds at HO hle ht
      have HT := Lib.hid ht
      clear ht hX
      have HF := HC
      go_wp2_with fail
      refine wp_par 21 (fun
          | 0 => fun v _ => v = .slice (some ⟨g, 0, none⟩) es.length cap
          | 1 => fun v _ => v = .int .i64 (k : Int)
          | 2 => fun v _ => v = .pointer (some ⟨g, k * 4, none⟩)
          | 3 => fun v _ => v = .pointer (some ⟨g, k * 4, none⟩)
          | 4 => fun v _ => v = .int .i64 (e0.p : Int)
          | 5 => fun v _ => v = .slice (some ⟨g, 0, none⟩) es.length cap
          | 6 => fun v _ => v = .int .i64 (k : Int)
          | 7 => fun v _ => v = .pointer (some ⟨g, k * 4, none⟩)
          | 8 => fun v _ => v = .pointer (some ⟨g, k * 4 + 1, none⟩)
          | 9 => fun v _ => v = .int .i64 (e0.s : Int)
          | 10 => fun v _ => v = .slice (some ⟨g, 0, none⟩) es.length cap
          | 11 => fun v _ => v = .int .i64 (k : Int)
          | 12 => fun v _ => v = .pointer (some ⟨g, k * 4, none⟩)
          | 13 => fun v _ => v = .pointer (some ⟨g, k * 4 + 2, none⟩)
          | 14 => fun v _ => v = .int .i64 (e0.t : Int)
          | 15 => isI3 e0
          | 16 => fun v _ => v = .int .i64 (l : Int)
          | 17 => fun v _ => v = .int .i64 ((l - 1 : Nat) : Int)
          | 18 => isI3At e0 (l - 1)
          | 19 => fun v _ => v = .int .i64 X
          | 20 => fun v _ => v = .int .i64 X
          | _ => fun _ _ => True) (by kernel_rfl) (by kernel_rfl) (by kernel_rfl) ?_ ?_
      · simp (maxSteps := 20000000) only [List.take_succ_cons, List.take_zero, ParAll, Act.put, List.setIfInBounds_toArray, List.set_cons_succ, List.set_cons_zero]
        refine ⟨?_, ?_, ?_, ?_, ?_, ?_, ?_, ?_, ?_, ?_, ?_, ?_, ?_, ?_, ?_, ?_, ?_, ?_, ?_, ?_, ?_, trivial⟩
        · intro vals W hx hd
          have hW := HF.out W hx
          simp [PDeps, pdeps, Region.binds] at hd
          first
            | refine ParOb.plain rfl ?_
            | refine ParOb.wanted (by simp [Region.wanted, yielded, hd]) ?_
          go_simp
          exact ParPost.same fun _ _ => rfl
        · intro vals W hx hd
          have hW := HF.out W hx
          simp [PDeps, pdeps, Region.binds] at hd
          first
            | refine ParOb.plain rfl ?_
            | refine ParOb.wanted (by simp [Region.wanted, yielded, hd]) ?_
          go_simp
          exact ParPost.same fun _ _ => rfl
        · intro vals W hx hd
          have hW := HF.out W hx
          simp [PDeps, pdeps, Region.binds] at hd
          first
            | refine ParOb.plain rfl ?_
            | refine ParOb.wanted (by simp [Region.wanted, yielded, hd]) ?_
          go_simp
          exact ParPost.same fun _ _ => rfl
        · intro vals W hx hd
          have hW := HF.out W hx
          simp [PDeps, pdeps, Region.binds] at hd
          first
            | refine ParOb.plain rfl ?_
            | refine ParOb.wanted (by simp [Region.wanted, yielded, hd]) ?_
          go_simp
          exact ParPost.same fun _ _ => rfl
        · intro vals W hx hd
          have hW := HF.out W hx
          simp [PDeps, pdeps, Region.binds] at hd
          first
            | refine ParOb.plain rfl ?_
            | refine ParOb.wanted (by simp [Region.wanted, yielded, hd]) ?_
          go_simp
          exact ParPost.same fun _ _ => rfl
        · intro vals W hx hd
          have hW := HF.out W hx
          simp [PDeps, pdeps, Region.binds] at hd
          first
            | refine ParOb.plain rfl ?_
            | refine ParOb.wanted (by simp [Region.wanted, yielded, hd]) ?_
          go_simp
          exact ParPost.same fun _ _ => rfl
        · intro vals W hx hd
          have hW := HF.out W hx
          simp [PDeps, pdeps, Region.binds] at hd
          first
            | refine ParOb.plain rfl ?_
            | refine ParOb.wanted (by simp [Region.wanted, yielded, hd]) ?_
          go_simp
          exact ParPost.same fun _ _ => rfl
        · intro vals W hx hd
          have hW := HF.out W hx
          simp [PDeps, pdeps, Region.binds] at hd
          first
            | refine ParOb.plain rfl ?_
            | refine ParOb.wanted (by simp [Region.wanted, yielded, hd]) ?_
          go_simp
          exact ParPost.same fun _ _ => rfl
        · intro vals W hx hd
          have hW := HF.out W hx
          simp [PDeps, pdeps, Region.binds] at hd
          first
            | refine ParOb.plain rfl ?_
            | refine ParOb.wanted (by simp [Region.wanted, yielded, hd]) ?_
          go_simp
          exact ParPost.same fun _ _ => rfl
        · intro vals W hx hd
          have hW := HF.out W hx
          simp [PDeps, pdeps, Region.binds] at hd
          first
            | refine ParOb.plain rfl ?_
            | refine ParOb.wanted (by simp [Region.wanted, yielded, hd]) ?_
          go_simp
          exact ParPost.same fun _ _ => rfl
        · intro vals W hx hd
          have hW := HF.out W hx
          simp [PDeps, pdeps, Region.binds] at hd
          first
            | refine ParOb.plain rfl ?_
            | refine ParOb.wanted (by simp [Region.wanted, yielded, hd]) ?_
          go_simp
          exact ParPost.same fun _ _ => rfl
        · intro vals W hx hd
          have hW := HF.out W hx
          simp [PDeps, pdeps, Region.binds] at hd
          first
            | refine ParOb.plain rfl ?_
            | refine ParOb.wanted (by simp [Region.wanted, yielded, hd]) ?_
          go_simp
          exact ParPost.same fun _ _ => rfl
        · intro vals W hx hd
          have hW := HF.out W hx
          simp [PDeps, pdeps, Region.binds] at hd
          first
            | refine ParOb.plain rfl ?_
            | refine ParOb.wanted (by simp [Region.wanted, yielded, hd]) ?_
          go_simp
          exact ParPost.same fun _ _ => rfl
        · intro vals W hx hd
          have hW := HF.out W hx
          simp [PDeps, pdeps, Region.binds] at hd
          first
            | refine ParOb.plain rfl ?_
            | refine ParOb.wanted (by simp [Region.wanted, yielded, hd]) ?_
          go_simp
          exact ParPost.same fun _ _ => rfl
        · intro vals W hx hd
          have hW := HF.out W hx
          simp [PDeps, pdeps, Region.binds] at hd
          first
            | refine ParOb.plain rfl ?_
            | refine ParOb.wanted (by simp [Region.wanted, yielded, hd]) ?_
          go_simp
          exact ParPost.same fun _ _ => rfl
        · intro vals W hx hd
          have hW := HF.out W hx
          simp [PDeps, pdeps, Region.binds] at hd
          first
            | refine ParOb.plain rfl ?_
            | refine ParOb.wanted (by simp [Region.wanted, yielded, hd]) ?_
          go_simp
          exact ⟨(Ext.refl _).alloc _, fun w2 h2 => ⟨_, rfl, (Blk.new _ _ _ rfl).keep h2⟩⟩
        · intro vals W hx hd
          have hW := HF.out W hx
          simp [PDeps, pdeps, Region.binds] at hd
          first
            | refine ParOb.plain rfl ?_
            | refine ParOb.wanted (by simp [Region.wanted, yielded, hd]) ?_
          go_simp
          exact ParPost.same fun _ _ => rfl
        · intro vals W hx hd
          have hW := HF.out W hx
          simp [PDeps, pdeps, Region.binds] at hd
          first
            | refine ParOb.plain rfl ?_
            | refine ParOb.wanted (by simp [Region.wanted, yielded, hd]) ?_
          have hsum := IntWalk.i64_in ((l : Int) - 1) (by omega)
          go_simp
          exact ParPost.same fun _ _ => rfl
        · intro vals W hx hd
          have hW := HF.out W hx
          simp [PDeps, pdeps, Region.binds] at hd
          first
            | refine ParOb.plain rfl ?_
            | refine ParOb.wanted (by simp [Region.wanted, yielded, hd]) ?_
          obtain ⟨⟨b, h1, h2⟩, h3⟩ := hd
          have h4 : (l : Int) - 1 < 3 := by omega
          go_simp
          exact ParPost.same fun w2 h9 => ⟨b, rfl, h2.keep h9⟩
        · intro vals W hx hd
          have hW := HF.out W hx
          simp [PDeps, pdeps, Region.binds] at hd
          first
            | refine ParOb.plain rfl ?_
            | refine ParOb.wanted (by simp [Region.wanted, yielded, hd]) ?_
          obtain ⟨b, h1, h2⟩ := hd
          have h4 := h2.cell (l - 1)
          rw [HP.out] at h4
          go_simp
          exact ParPost.same fun _ _ => rfl
        · intro vals W hx hd
          have hW := HF.out W hx
          simp [PDeps, pdeps, Region.binds] at hd
          first
            | refine ParOb.plain rfl ?_
            | refine ParOb.wanted (by simp [Region.wanted, yielded, hd]) ?_
          go_simp
          exact ParPost.same fun _ _ => rfl
      intro vals W hx hf
      simp (maxSteps := 20000000) only [ParFacts, List.take_succ_cons, List.take_zero, and_true, Nat.reduceAdd] at hf
      obtain ⟨f0, f1, f2, f3, f4, f5, f6, f7, f8, f9, f10, f11, f12, f13, f14, f15, f16, f17, f18, f19, f20⟩ := hf
      simp (maxSteps := 20000000) only [List.drop_succ_cons, List.drop_zero, List.take_succ_cons, List.take_zero, ParEnd, Act.put, List.setIfInBounds_toArray, List.set_cons_succ, List.set_cons_zero, Nat.reduceAdd, f0, f1, f2, f3, f4, f5, f6, f7, f8, f9, f10, f11, f12, f13, f14, f16, f17, f19, f20]
      clear f0 f1 f2 f3 f4 f5 f6 f7 f8 f9 f10 f11 f12 f13 f14 f16 f17 f19 f20
      generalize vals 15 = y15 at f15 ⊢
      generalize vals 18 = y18 at f18 ⊢
      have HX2 := Lib.hid (Ext.trans HXr.out hx)
      have HO2 := Lib.hid (ownsRow_ext HO.out hx)
      obtain ⟨_, _, _, d3⟩ := HC.out _ hx
      obtain ⟨cq, fq⟩ := (HQ.out.keep HX2.out).facts
      have hql := (HQ.out.keep HX2.out).lt
      clear hx HF HC HO f15 f18
      rename World => w3
      cases hx0 : (X == 0)
      · rw [hx0] at hcn
        cases sh
        · have HN := Lib.hid (show wtL l false (es.take (k + 1)) = ds ++ [x] by rw [HT.out, hcn]; simp)
          clear hcn
          have hone : intsV (ds ++ [x]) = intsV ds ++ [.int .i64 X] := by rw [intsV_snoc, HXx.out]
          go_wp2_with (at_builtin; refine wpList_push rfl _ _ _ rfl w1.heap.size 3 (.int .i64 0) 1 8 Tryz.underlying40 infoInt1 rfl (by decide) u8 ds.length (intsV ds) rfl (HO2.out.alloc _) w3.heap.size 3 #[.int .i64 X] rfl (Blk.new _ _ _ rfl) rfl (by simp [Value.oneCell']) (by unfold maxLen; omega) (by omega) (by have := HX2.out.size; simp <;> omega) ?_; intro v5 w5 hown hgr hat)
          have HX5 := Lib.hid (ext_own HX2.out HO2.out hgr)
          have HO5 := Lib.hid (show w5.ownsRow w1.heap.size 3 1 v5 (ds ++ [x]).length (intsV (ds ++ [x])) from by rw [hone, List.length_append]; exact hown)
          clear hown hgr hat hone
          go_wp2_with fail
          go_roundw
          case rel => exact ⟨k + 1, by omega, by go_num, by rw [HN.out]; exact HO5.out, HX5.out⟩
          case measure => simp [intOf]; omega
        · cases hev : e0.v
          · rw [hev] at hcn d3
            have HN := Lib.hid (show wtL l true (es.take (k + 1)) = ds ++ [x] by rw [HT.out, hcn]; simp)
            clear hcn
            have hone : intsV (ds ++ [x]) = intsV ds ++ [.int .i64 X] := by rw [intsV_snoc, HXx.out]
            go_wp2_with (at_builtin; refine wpList_push rfl _ _ _ rfl w1.heap.size 3 (.int .i64 0) 1 8 Tryz.underlying40 infoInt1 rfl (by decide) u8 ds.length (intsV ds) rfl (HO2.out.alloc _) w3.heap.size 3 #[.int .i64 X] rfl (Blk.new _ _ _ rfl) rfl (by simp [Value.oneCell']) (by unfold maxLen; omega) (by omega) (by have := HX2.out.size; simp <;> omega) ?_; intro v5 w5 hown hgr hat)
            have HX5 := Lib.hid (ext_own HX2.out HO2.out hgr)
            have HO5 := Lib.hid (show w5.ownsRow w1.heap.size 3 1 v5 (ds ++ [x]).length (intsV (ds ++ [x])) from by rw [hone, List.length_append]; exact hown)
            clear hown hgr hat hone
            go_wp2_with fail
            go_roundw
            case rel => exact ⟨k + 1, by omega, by go_num, by rw [HN.out]; exact HO5.out, HX5.out⟩
            case measure => simp [intOf]; omega
          · rw [hev] at hcn d3
            have HN := Lib.hid (show wtL l true (es.take (k + 1)) = ds by rw [HT.out, hcn]; simp)
            clear hcn
            go_wp2_with fail
            go_roundw
            case rel => exact ⟨k + 1, by omega, by go_num, by rw [HN.out]; exact HO2.out, HX2.out⟩
            case measure => simp [intOf]; omega
      · rw [hx0] at hcn
        have HN := Lib.hid (show wtL l sh (es.take (k + 1)) = ds by rw [HT.out, hcn]; simp)
        clear hcn
        go_wp2_with fail
        go_roundw
        case rel => exact ⟨k + 1, by omega, by go_num, by rw [HN.out]; exact HO2.out, HX2.out⟩
        case measure => simp [intOf]; omega
    · obtain rfl : k = es.length := by omega
      have HR := Lib.hid (show ReadsL wr u8 (intsV (wtL l sh es)) from by
        have := ownsRow_reads HO.out
        rw [List.take_length] at this
        exact this)
      obtain ⟨cq, fq⟩ := (HQ.out.keep HXr.out).facts
      have hql := (HQ.out.keep HXr.out).lt
      cases hl2 : ((l : Int) == 2)
      all_goals
        go_wp2_with fail
        go_ret
        exact ⟨⟨_, rfl, HR.out⟩, Ext.trans HX0.out HXr.out⟩
end Go.Proofs.YtipokgedmfnlaaaGreatDoor

namespace Go.Proofs.YtipokgedmfnlaaaGreatDoor
open Go.RowKit Go.Lib
set_option maxRecDepth 100000

def FoldTR (s : ByteArray) (w : World) (e : Ending) (w' : World) : Prop := (∃ t : ByteArray, e = .returned (.string t) ∧ t.data.toList = foldT s.data.toList) ∧ Below w.heap.size w w'
set_option maxHeartbeats 8000000 in
theorem foldTextR_any (s : ByteArray) (hs : s.size ≤ 100000) (w : World) : Calls Tryz.prog 87 #[.string s] w (FoldTR s w) := by
  have HA := Lib.hid (signs_all s.data.toList)
  have hlen : (signs s.data.toList).length ≤ 100000 := by
    have h1 := signs_length s.data.toList
    rw [Array.length_toList] at h1
    exact Nat.le_trans h1 hs
  have KS := Lib.hid (signsR_of (fun s h w => signR_any s h w) s (by omega) w)
  obtain ⟨fs, hfs⟩ : ∃ fs, fs = foldT s.data.toList := ⟨_, rfl⟩
  unfold FoldTR
  rw [← hfs]
  unfold foldT at hfs
  generalize signs s.data.toList = cs at HA hlen KS hfs
  have HFs := Lib.hid hfs
  clear hfs
  have hcI : (cs.length : Int) ≤ 100000 := by omega
  go_enter Tryz.func87, Tryz.ntmps87
  go_wp2_with fail
  refine Calls.mono KS.out ?_
  rintro e w1 ⟨v, rfl, hr, hb1⟩
  obtain ⟨ao, cap, rfl, hcap, h1⟩ := intsAt hr
  have HC := Lib.hid h1
  have HX1 := Lib.hid (show Ext w w1 from hb1)
  clear hr hb1 h1 KS
  go_simp
  repeat (first | go_values | go_skip | go_guarded | go_step | go_upon)
  go_loopw [4, 5] (fun t i wr => ∃ (k : Nat) (u : ByteArray), k ≤ cs.length ∧ t = .string u ∧ i = .int .i64 k ∧ u.data.toList = putL ((cs.take k).map foldC) ∧ Ext w1 wr) (fun _ i _ => cs.length - (intOf i).toNat)
  case atStart => exact ⟨0, ⟨#[]⟩, Nat.zero_le _, rfl, rfl, rfl, Ext.refl _⟩
  case round =>
    obtain ⟨k, u, hk, rfl, rfl, hu, hx⟩ := hrel
    have HU := Lib.hid hu
    have HXr := Lib.hid hx
    clear hu hx
    by_cases hlt : k < cs.length
    · have hlt' : (k : Int) < cs.length := by omega
      obtain ⟨g, rfl, c1⟩ := HC.out wr HXr.out k hlt
      obtain ⟨_, hc2⟩ := HA.out cs[k] (List.getElem_mem hlt)
      have hT : (cs.take (k + 1)).map foldC = (cs.take k).map foldC ++ [foldC cs[k]] := by
        rw [List.take_add_one, List.getElem?_eq_getElem hlt, List.map_append]
        rfl
      have HT := Lib.hid hT
      have KF := Lib.hid (foldR_any cs[k] hc2)
      have KO := Lib.hid (oneR_any (foldC cs[k]) (foldC_le cs[k] hc2))
      generalize foldC cs[k] = fc at HT KF KO
      generalize cs[k] = c at c1 KF
      clear hT hc2
      go_wp2_with fail
      refine Calls.mono (KF.out wr) ?_
      rintro e w2 ⟨rfl, rfl⟩
      go_simp
      repeat (first | go_values | go_skip | go_guarded | go_step | go_upon)
      refine Calls.mono (KO.out wr) ?_
      rintro e w2 ⟨rfl, hb2⟩
      have HX2 := Lib.hid (Ext.trans HXr.out hb2)
      clear hb2 c1
      have HU2 := Lib.hid (show (u ++ ⟨(oneC fc).toArray⟩ : ByteArray).data.toList = putL ((cs.take (k + 1)).map foldC) from by
        rw [HT.out, putL_snoc, ByteArray.data_append, Array.toList_append, HU.out])
      have hul : u.size = u.data.toList.length := Array.length_toList.symm
      have hb8 : u.size + (oneC fc).length ≤ 9223372036854775807 := by
        rw [hul, HU.out]
        have h1 := putL_length ((cs.take k).map foldC)
        have h2 := (oneC_length fc).2
        rw [List.length_map, List.length_take] at h1
        omega
      clear hul
      go_simp
      go_wp2_with fail
      go_roundw
      case rel => exact ⟨k + 1, _, by omega, rfl, by go_num, HU2.out, HX2.out⟩
      case measure => simp [intOf]; omega
    · obtain rfl : k = cs.length := by omega
      have HU2 := Lib.hid (show u.data.toList = fs from by rw [HU.out, List.take_length, HFs.out])
      go_wp2_with fail
      go_ret
      exact ⟨⟨u, rfl, HU2.out⟩, Ext.trans HX1.out HXr.out⟩
end Go.Proofs.YtipokgedmfnlaaaGreatDoor

namespace Go.Proofs.YtipokgedmfnlaaaGreatDoor
open Go.RowKit Go.Lib
set_option maxRecDepth 100000

/-- What a text of small signs answers: its bytes are these. -/
def isFold (s : ByteArray) (v : Value) (_ : World) : Prop := ∃ t : ByteArray, v = .string t ∧ t.data.toList = foldT s.data.toList
set_option maxHeartbeats 8000000 in
theorem cmpR_fold (lv : Int) (sh bk : Bool) (tp : Option Addr) (tn tk : Nat) (a b : ByteArray) (w : World) (ha : a.size ≤ 100000) (hb : b.size ≤ 100000) :
    Calls Tryz.prog 49 #[rV 2 lv sh bk (.slice tp tn tk), .string a, .string b] w fun e w' => e = .returned (.int .i64 (collC 2 0 sh bk a.data.toList b.data.toList)) ∧ Below w.heap.size w w' := by
  rw [show rV 2 lv sh bk (.slice tp tn tk) = .agg #[.int .i64 2, .int .i64 lv, .bool sh, .bool bk, .slice tp tn tk] from rfl, show collC 2 0 sh bk a.data.toList b.data.toList = cmpL (bytesN (foldT a.data.toList)) (bytesN (foldT b.data.toList)) from rfl]
  go_enter Tryz.func49, Tryz.ntmps49
  go_wp2_with fail
  refine Calls.mono (foldTextR_any a ha _) ?_
  rintro e w1 ⟨⟨t1, rfl, h1⟩, hb1⟩
  have HX1 := Lib.hid (show Ext w w1 from Ext.trans ((Ext.refl w).alloc _) hb1)
  have H1 := Lib.hid h1
  clear h1 hb1
  go_simp
  repeat (first | go_values | go_skip | go_guarded | go_step | go_upon)
  refine Calls.mono (foldTextR_any b hb _) ?_
  rintro e w2 ⟨⟨t2, rfl, h2⟩, hb2⟩
  have HX2 := Lib.hid (Ext.trans HX1.out hb2)
  have H2 := Lib.hid h2
  clear h2 hb2
  go_simp
  repeat (first | go_values | go_skip | go_guarded | go_step | go_upon)
  refine Calls.mono (textsR_any t1 t2 _) ?_
  rintro e w3 ⟨rfl, rfl⟩
  rw [H1.out, H2.out]
  go_simp
  repeat (first | go_values | go_skip | go_guarded | go_step | go_upon)
  go_ret
  exact ⟨rfl, HX2.out⟩
set_option maxHeartbeats 8000000 in
theorem cmpR_bin (kind lv : Int) (sh bk : Bool) (tp : Option Addr) (tn tk : Nat) (a b : ByteArray) (w : World) (h2 : kind ≠ 2) (h3 : kind ≠ 3) :
    Calls Tryz.prog 49 #[rV kind lv sh bk (.slice tp tn tk), .string a, .string b] w fun e w' => e = .returned (.int .i64 (collC kind 0 sh bk a.data.toList b.data.toList)) ∧ Below w.heap.size w w' := by
  rw [show rV kind lv sh bk (.slice tp tn tk) = .agg #[.int .i64 kind, .int .i64 lv, .bool sh, .bool bk, .slice tp tn tk] from rfl, show collC kind 0 sh bk a.data.toList b.data.toList = cmpL (bytesN a.data.toList) (bytesN b.data.toList) from by unfold collC; rw [if_neg h2, if_neg h3]]
  have k2 : (kind == 2) = false := by simpa using h2
  have k3 : (kind == 3) = false := by simpa using h3
  clear h2 h3
  go_enter Tryz.func49, Tryz.ntmps49
  go_wp2_with fail
  refine Calls.mono (textsR_any a b _) ?_
  rintro e w3 ⟨rfl, rfl⟩
  go_simp
  repeat (first | go_values | go_skip | go_guarded | go_step | go_upon)
  go_ret
  exact ⟨rfl, (Ext.refl w).alloc _⟩
def isWtR (l : Nat) (sh : Bool) (es : List El) (v : Value) (w : World) : Prop := ReadsL w v (intsV (wtL l sh es))
set_option maxHeartbeats 16000000 in
theorem cmpR_table (lv : Nat) (sh : Bool) (tv : Value) (L : List (Nat × List El)) (a b : ByteArray) (w : World) (hlv : 1 ≤ lv ∧ lv ≤ 3) (hL : EntsR w tv L) (hn : L.length ≤ 1000) (h8 : ∀ y ∈ L, y.2.length ≤ 8) (ha : a.size ≤ 10000) (hb : b.size ≤ 10000) :
    Calls Tryz.prog 49 #[rV 3 lv sh false tv, .string a, .string b] w fun e w' => e = .returned (.int .i64 (weighL sh false (elsL L (signs a.data.toList)) (elsL L (signs b.data.toList)) (List.range' 1 lv))) ∧ Below w.heap.size w w' := by
  obtain ⟨tp, tn, tk, rfl⟩ := hL.slice
  have len : ∀ s : ByteArray, s.size ≤ 10000 → (elsL L (signs s.data.toList)).length ≤ 80000 := fun s hs => by
    have h1 := elsL_len L h8 (signs s.data.toList)
    have h2 := signs_length s.data.toList
    rw [Array.length_toList] at h2
    have h3 : (signs s.data.toList).length ≤ 10000 := Nat.le_trans h2 hs
    omega
  have hal := len a ha
  have hbl := len b hb
  have KA := Lib.hid (fun (l : Nat) (hl : l = 1 ∨ l = 2 ∨ l = 3) (W : World) (hW : Ext w W) => weightsR_any lv sh (.slice tp tn tk) a L l W hl (hL.ext hW) hn h8 ha)
  have KB := Lib.hid (fun (l : Nat) (hl : l = 1 ∨ l = 2 ∨ l = 3) (W : World) (hW : Ext w W) => weightsR_any lv sh (.slice tp tn tk) b L l W hl (hL.ext hW) hn h8 hb)
  rw [show rV 3 lv sh false (.slice tp tn tk) = .agg #[.int .i64 3, .int .i64 lv, .bool sh, .bool false, .slice tp tn tk] from rfl] at KA KB ⊢
  generalize elsL L (signs a.data.toList) = xs at KA hal ⊢
  generalize elsL L (signs b.data.toList) = ys at KB hbl ⊢
  have hlI : (lv : Int) ≤ 3 := by omega
  clear hL h8 len
  go_enter Tryz.func49, Tryz.ntmps49
  go_wp2_with fail
  have hQ : Blk (w.alloc (.cells #[.int .i64 3, .int .i64 lv, .bool sh, .bool false, .slice tp tn tk] 30)) w.heap.size #[.int .i64 3, .int .i64 lv, .bool sh, .bool false, .slice tp tn tk] 30 := Blk.new w _ _ rfl
  have hx0 : Ext w (w.alloc (.cells #[.int .i64 3, .int .i64 lv, .bool sh, .bool false, .slice tp tn tk] 30)) := (Ext.refl w).alloc _
  generalize (w.alloc (.cells #[.int .i64 3, .int .i64 lv, .bool sh, .bool false, .slice tp tn tk] 30)) = W0 at hQ hx0 ⊢
  have HQ := Lib.hid hQ
  have HX0 := Lib.hid hx0
  clear hQ hx0
  generalize w.heap.size = q at HQ ⊢
  go_loopw [6, 7] (fun _ i wr => ∃ l : Nat, 1 ≤ l ∧ l ≤ lv + 1 ∧ i = .int .i64 l ∧ weighL sh false xs ys (List.range' 1 lv) = weighL sh false xs ys (List.range' l (lv + 1 - l)) ∧ Ext W0 wr) (fun _ i _ => lv + 1 - (intOf i).toNat)
  case atStart => exact ⟨1, Nat.le_refl _, by omega, rfl, rfl, Ext.refl _⟩
  case round =>
    obtain ⟨l, hl1, hl2, rfl, hw, hx⟩ := hrel
    have HXr := Lib.hid hx
    obtain ⟨cq, fq⟩ := (HQ.out.keep hx).facts
    have hql := (HQ.out.keep hx).lt
    clear hx
    by_cases hle : l ≤ lv
    · have hleI : (l : Int) ≤ lv := by omega
      have h123 : l = 1 ∨ l = 2 ∨ l = 3 := by omega
      rw [show lv + 1 - l = (lv - l) + 1 by omega, weigh_step] at hw
      have HSt := Lib.hid hw
      clear hw
      have KA2 := Lib.hid (KA.out l h123)
      have KB2 := Lib.hid (KB.out l h123)
      have HF := Lib.hid (show ∀ W, Ext wr W → (∀ o, W.cell? ⟨q, o, none⟩ = (#[.int .i64 3, .int .i64 lv, .bool sh, .bool false, .slice tp tn tk] : Array Value)[o]?) from fun W hW => (HQ.out.keep (Ext.trans HXr.out hW)).cell)
      go_wp2_with fail
      clear cq fq hql
      refine wp_par 10 (fun
          | 0 => fun v _ => v = .agg #[.int .i64 3, .int .i64 lv, .bool sh, .bool false, .slice tp tn tk]
          | 1 => fun v _ => v = .string a
          | 2 => fun v _ => v = .int .i64 (l : Int)
          | 3 => isWtR l sh xs
          | 4 => fun v _ => v = .agg #[.int .i64 3, .int .i64 lv, .bool sh, .bool false, .slice tp tn tk]
          | 5 => fun v _ => v = .string b
          | 6 => fun v _ => v = .int .i64 (l : Int)
          | 7 => isWtR l sh ys
          | 8 => fun v _ => v = .int .i64 (cmpL (wtL l sh xs) (wtL l sh ys))
          | 9 => fun v _ => v = .int .i64 (cmpL (wtL l sh xs) (wtL l sh ys))
          | _ => fun _ _ => True) (by kernel_rfl) (by kernel_rfl) (by kernel_rfl) ?_ ?_
      · simp (maxSteps := 20000000) only [List.take_succ_cons, List.take_zero, ParAll, Act.put, List.setIfInBounds_toArray, List.set_cons_succ, List.set_cons_zero]
        refine ⟨?_, ?_, ?_, ?_, ?_, ?_, ?_, ?_, ?_, ?_, trivial⟩
        · intro vals W hx hd
          have hW := HF.out W hx
          simp [PDeps, pdeps, Region.binds] at hd
          first
            | refine ParOb.plain rfl ?_
            | refine ParOb.wanted (by simp [Region.wanted, yielded, hd]) ?_
          go_simp
          exact ParPost.same fun _ _ => rfl
        · intro vals W hx hd
          have hW := HF.out W hx
          simp [PDeps, pdeps, Region.binds] at hd
          first
            | refine ParOb.plain rfl ?_
            | refine ParOb.wanted (by simp [Region.wanted, yielded, hd]) ?_
          go_simp
          exact ParPost.same fun _ _ => rfl
        · intro vals W hx hd
          have hW := HF.out W hx
          simp [PDeps, pdeps, Region.binds] at hd
          first
            | refine ParOb.plain rfl ?_
            | refine ParOb.wanted (by simp [Region.wanted, yielded, hd]) ?_
          go_simp
          exact ParPost.same fun _ _ => rfl
        · intro vals W hx hd
          have hW := HF.out W hx
          simp [PDeps, pdeps, Region.binds] at hd
          first
            | refine ParOb.plain rfl ?_
            | refine ParOb.wanted (by simp [Region.wanted, yielded, hd]) ?_
          go_simp
          refine Calls.mono (KA2.out W (Ext.trans HX0.out (Ext.trans HXr.out hx))) ?_
          rintro e w9 ⟨⟨u, rfl, hu⟩, hb9⟩
          exact ⟨u, rfl, hb9, fun w10 h10 => ReadsL.ext hu h10⟩
        · intro vals W hx hd
          have hW := HF.out W hx
          simp [PDeps, pdeps, Region.binds] at hd
          first
            | refine ParOb.plain rfl ?_
            | refine ParOb.wanted (by simp [Region.wanted, yielded, hd]) ?_
          go_simp
          exact ParPost.same fun _ _ => rfl
        · intro vals W hx hd
          have hW := HF.out W hx
          simp [PDeps, pdeps, Region.binds] at hd
          first
            | refine ParOb.plain rfl ?_
            | refine ParOb.wanted (by simp [Region.wanted, yielded, hd]) ?_
          go_simp
          exact ParPost.same fun _ _ => rfl
        · intro vals W hx hd
          have hW := HF.out W hx
          simp [PDeps, pdeps, Region.binds] at hd
          first
            | refine ParOb.plain rfl ?_
            | refine ParOb.wanted (by simp [Region.wanted, yielded, hd]) ?_
          go_simp
          exact ParPost.same fun _ _ => rfl
        · intro vals W hx hd
          have hW := HF.out W hx
          simp [PDeps, pdeps, Region.binds] at hd
          first
            | refine ParOb.plain rfl ?_
            | refine ParOb.wanted (by simp [Region.wanted, yielded, hd]) ?_
          go_simp
          refine Calls.mono (KB2.out W (Ext.trans HX0.out (Ext.trans HXr.out hx))) ?_
          rintro e w9 ⟨⟨u, rfl, hu⟩, hb9⟩
          exact ⟨u, rfl, hb9, fun w10 h10 => ReadsL.ext hu h10⟩
        · intro vals W hx hd
          have hW := HF.out W hx
          simp [PDeps, pdeps, Region.binds] at hd
          first
            | refine ParOb.plain rfl ?_
            | refine ParOb.wanted (by simp [Region.wanted, yielded, hd]) ?_
          have hx1 : (wtL l sh xs).length ≤ 80000 := by have := wtL_len l sh xs xs.length; rw [List.take_length] at this; omega
          have hy1 : (wtL l sh ys).length ≤ 80000 := by have := wtL_len l sh ys ys.length; rw [List.take_length] at this; omega
          go_simp
          refine Calls.mono (listsR_any _ _ (wtL l sh xs) (wtL l sh ys) W hd.1 hd.2 (by omega) (by omega)) ?_
          rintro e w9 ⟨rfl, hb9⟩
          exact ⟨_, rfl, hb9, fun _ _ => rfl⟩
        · intro vals W hx hd
          have hW := HF.out W hx
          simp [PDeps, pdeps, Region.binds] at hd
          first
            | refine ParOb.plain rfl ?_
            | refine ParOb.wanted (by simp [Region.wanted, yielded, hd]) ?_
          go_simp
          exact ParPost.same fun _ _ => rfl
      intro vals W hx hf
      simp (maxSteps := 20000000) only [ParFacts, List.take_succ_cons, List.take_zero, and_true, Nat.reduceAdd] at hf
      obtain ⟨f0, f1, f2, f3, f4, f5, f6, f7, f8, f9⟩ := hf
      simp (maxSteps := 20000000) only [List.drop_succ_cons, List.drop_zero, List.take_succ_cons, List.take_zero, ParEnd, Act.put, List.setIfInBounds_toArray, List.set_cons_succ, List.set_cons_zero, Nat.reduceAdd, f0, f1, f2, f4, f5, f6, f8, f9]
      clear f0 f1 f2 f4 f5 f6 f8 f9
      generalize vals 3 = y3 at f3 ⊢
      generalize vals 7 = y7 at f7 ⊢
      have HX5 := Lib.hid (Ext.trans HXr.out hx)
      clear hx HF f3 f7
      have hst := HSt.out
      generalize cmpL (wtL l sh xs) (wtL l sh ys) = r at hst ⊢
      cases hz : (r != 0)
      · have hr0 : r = 0 := by simpa using hz
        rw [if_neg (by simp [hr0])] at hst
        have HN := Lib.hid hst
        clear hst HSt
        subst hr0
        go_wp2_with fail
        go_roundw
        case rel => exact ⟨l + 1, by omega, by omega, by go_num, by rw [HN.out, show lv + 1 - (l + 1) = lv - l by omega], HX5.out⟩
        case measure => simp [intOf]; omega
      · have hr0 : r ≠ 0 := by simpa using hz
        rw [if_pos hr0] at hst
        have HN := Lib.hid hst
        clear hst HSt hr0
        go_wp2_with fail
        go_ret
        exact ⟨by rw [HN.out]; rfl, Ext.trans HX0.out HX5.out⟩
    · have hle' : ¬ (l : Int) ≤ lv := by omega
      have h0 : weighL sh false xs ys (List.range' 1 lv) = 0 := by rw [hw, show lv + 1 - l = 0 by omega]; rfl
      have H0 := Lib.hid h0
      clear hw h0
      go_wp2_with fail
      go_ret
      exact ⟨by rw [H0.out]; rfl, Ext.trans HX0.out HXr.out⟩
end Go.Proofs.YtipokgedmfnlaaaGreatDoor
