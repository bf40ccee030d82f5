/-
  Texts held byte by byte (cmp.Compare of texts). Texts held by their weights (Coll.weigh, no backward level).
-/
import Derived.Test.YtipokgedmfnlaaaGreatDoorWts
namespace Go.Proofs.YtipokgedmfnlaaaGreatDoor
open Go.RowKit Go.Lib
set_option maxRecDepth 100000

theorem less_cmp : ∀ (l m : List UInt8), cmpL (bytesN l) (bytesN m) = if Op.bytesLess l m = true then -1 else if l = m then 0 else 1
  | [], [] => rfl
  | [], _ :: _ => rfl
  | _ :: _, [] => rfl
  | a :: l, b :: m => by
    have ih := less_cmp l m
    unfold bytesN at ih ⊢
    rw [List.map_cons, List.map_cons, cmpL, ih]
    rcases Nat.lt_trichotomy a.toNat b.toNat with h | h | h
    · have hab : a < b := h
      rw [if_pos h, Op.bytesLess, if_pos (by simp [hab])]
    · obtain rfl := UInt8.toNat_inj.1 h
      have hnn : ¬ a < a := fun h : a.toNat < a.toNat => absurd h (Nat.lt_irrefl _)
      rw [if_neg (Nat.lt_irrefl _), if_neg (Nat.lt_irrefl _), Op.bytesLess]
      simp [hnn]
    · have hnab : ¬ a < b := fun h2 : a.toNat < b.toNat => absurd h2 (Nat.not_lt.2 (Nat.le_of_lt h))
      have hne : a ≠ b := fun e => absurd h (by rw [e]; exact Nat.lt_irrefl _)
      rw [if_neg (Nat.not_lt.2 (Nat.le_of_lt h)), if_pos h, Op.bytesLess, if_neg (by simp [hnab, hne]), if_neg (by simp [hne])]
theorem nanS_any (x : ByteArray) (w : World) : Calls Tryz.prog 207 #[.string x] w fun e w' => e = .returned (.bool false) ∧ w = w' := by
  go_enter Tryz.func207, Tryz.ntmps207
  go_wp2_with fail
  go_ret
  exact ⟨rfl, rfl⟩
theorem cmps_any (a b : ByteArray) (w : World) : Calls Tryz.prog 156 #[.string a, .string b] w fun e w' => e = .returned (.int .i64 (cmpL (bytesN a.data.toList) (bytesN b.data.toList))) ∧ w = w' := by
  go_enter Tryz.func156, Tryz.ntmps156
  go_wp2_with fail
  refine (nanS_any a w).mono ?_
  rintro e w2 ⟨rfl, rfl⟩
  go_wp2_with fail
  refine (nanS_any b w).mono ?_
  rintro e w2 ⟨rfl, rfl⟩
  go_wp2_with fail
  · have h : Op.bytesLess a.toList b.toList = true := by assumption
    rw [ByteArray.toList_eq, ByteArray.toList_eq] at h
    go_ret
    refine ⟨?_, rfl⟩
    rw [less_cmp, if_pos h]
    rfl
  · have h1 : Op.bytesLess a.toList b.toList = false := by assumption
    have h2 : (!a.toList == b.toList) = true := by assumption
    rw [ByteArray.toList_eq, ByteArray.toList_eq] at h1 h2
    go_ret
    refine ⟨?_, rfl⟩
    rw [less_cmp, if_neg (by rw [h1]; simp), if_neg (by simpa using h2)]
    rfl
  · have h1 : Op.bytesLess a.toList b.toList = false := by assumption
    have h2 : (!a.toList == b.toList) = false := by assumption
    rw [ByteArray.toList_eq, ByteArray.toList_eq] at h1 h2
    go_ret
    refine ⟨?_, rfl⟩
    rw [less_cmp, if_neg (by rw [h1]; simp), if_pos (by simpa using h2)]
    rfl
/-! ### The ways of a collation -/
theorem cmpBinary_any (kind level : Int) (shift back : Bool) (p : Option Addr) (a b : ByteArray) (w : World) :
    Calls Tryz.prog 93 #[cV kind level shift back p, .string a, .string b] w fun e w' => e = .returned (.int .i64 (cmpL (bytesN a.data.toList) (bytesN b.data.toList))) ∧ Below w.heap.size w w' := by
  rw [show cV kind level shift back p = .agg #[.int .i64 kind, .int .i64 level, .bool shift, .bool back, .pointer p] from rfl]
  go_enter Tryz.func93, Tryz.ntmps93
  go_wp2_with fail
  refine (cmps_any a b _).mono ?_
  rintro e w2 ⟨rfl, rfl⟩
  go_wp2_with fail
  go_ret
  exact ⟨rfl, by go_grown⟩
end Go.Proofs.YtipokgedmfnlaaaGreatDoor

namespace Go.Proofs.YtipokgedmfnlaaaGreatDoor
open Go.RowKit Go.Lib
set_option maxRecDepth 100000

/-- A text's elements. -/
def isEls (s : ByteArray) (v : Value) (w : World) : Prop := ReadsL w v (wordsV (els (signs s.data.toList)))
/-- .. their weights of a level. -/
def isWts (level : Nat) (shift : Bool) (es : List El) (v : Value) (w : World) : Prop := ReadsL w v (intsV (wtL level shift es))
theorem wtL_le (level : Nat) (shift : Bool) (es : List El) : (wtL level shift es).length ≤ es.length := by
  have := wtL_len level shift es es.length
  rwa [List.take_length] at this
theorem weigh_step (shift : Bool) (x y : List El) (l n : Nat) : weighL shift false x y (List.range' l (n + 1)) = if cmpL (wtL l shift x) (wtL l shift y) ≠ 0 then cmpL (wtL l shift x) (wtL l shift y) else weighL shift false x y (List.range' (l + 1) n) := by
  rw [List.range'_succ, weighL, wts_fwd, wts_fwd]
set_option maxHeartbeats 16000000 in
theorem weigh_any (kind : Int) (lv : Nat) (shift : Bool) (p : Nat) (a b : ByteArray) (w : World) (hp : RootAt w p) (ha : a.size ≤ 100000) (hb : b.size ≤ 100000) (hl : 1 ≤ lv ∧ lv ≤ 3) (hT : ∀ W, Ext w W → Lib.Utf8Tabs 0 1 W) :
    Calls Tryz.prog 158 #[cV kind lv shift false (some ⟨p, 0, none⟩), .string a, .string b] w fun e w' => e = .returned (.int .i64 (weighL shift false (els (signs a.data.toList)) (els (signs b.data.toList)) (List.range' 1 lv))) ∧ Below w.heap.size w w' := by
  have HP := Lib.hid hp
  have HT := Lib.hid hT
  have hQ : Blk (w.alloc (.cells #[.int .i64 kind, .int .i64 lv, .bool shift, .bool false, .pointer (some ⟨p, 0, none⟩)] 25)) w.heap.size #[.int .i64 kind, .int .i64 lv, .bool shift, .bool false, .pointer (some ⟨p, 0, none⟩)] 25 := Blk.new w _ _ rfl
  have hx0 : Ext w (w.alloc (.cells #[.int .i64 kind, .int .i64 lv, .bool shift, .bool false, .pointer (some ⟨p, 0, none⟩)] 25)) := (Ext.refl w).alloc _
  have HQ := Lib.hid hQ
  have HX0 := Lib.hid hx0
  have hea : (els (signs a.data.toList)).length ≤ 200000 := by
    have h1 := els_len (signs a.data.toList)
    have h2 : (signs a.data.toList).length ≤ a.size := by
      have h := signs_length a.data.toList
      rw [Array.length_toList] at h
      exact h
    omega
  have heb : (els (signs b.data.toList)).length ≤ 200000 := by
    have h1 := els_len (signs b.data.toList)
    have h2 : (signs b.data.toList).length ≤ b.size := by
      have h := signs_length b.data.toList
      rw [Array.length_toList] at h
      exact h
    omega
  have hoa := els_ok (signs a.data.toList) (fun c hc => (signs_all _ c hc).2)
  have hob := els_ok (signs b.data.toList) (fun c hc => (signs_all _ c hc).2)
  obtain ⟨xs, hxs⟩ : ∃ xs, xs = els (signs a.data.toList) := ⟨_, rfl⟩
  obtain ⟨ys, hys⟩ : ∃ ys, ys = els (signs b.data.toList) := ⟨_, rfl⟩
  rw [← hxs] at hea hoa ⊢
  rw [← hys] at heb hob ⊢
  have HXs := Lib.hid hxs
  have HYs := Lib.hid hys
  have HOa := Lib.hid hoa
  have HOb := Lib.hid hob
  rw [show cV kind lv shift false (some ⟨p, 0, none⟩) = .agg #[.int .i64 kind, .int .i64 lv, .bool shift, .bool false, .pointer (some ⟨p, 0, none⟩)] from rfl]
  clear hp hT hQ hx0 hoa hob hxs hys
  go_enter Tryz.func158, Tryz.ntmps158
  go_wp2_with fail
  generalize (w.alloc (.cells #[.int .i64 kind, .int .i64 lv, .bool shift, .bool false, .pointer (some ⟨p, 0, none⟩)] 25)) = W0 at HQ HX0 ⊢
  have HF := Lib.hid (show ∀ W, Ext W0 W → W.cell? ⟨w.heap.size, 4, none⟩ = some (.pointer (some ⟨p, 0, none⟩)) from fun W hW => (HQ.out.keep hW).cell 4)
  have HE := Lib.hid (fun (s : ByteArray) (hs : s.size ≤ 100000) (W : World) (hW : Ext W0 W) => elements_any p s W (HP.out.ext (Ext.trans HX0.out hW)) hs (fun W' hW' => HT.out W' (Ext.trans (Ext.trans HX0.out hW) hW')))
  generalize w.heap.size = q at HQ HF ⊢
  refine wp_par 10 (fun
      | 0 => fun v _ => v = .pointer (some ⟨q, 4, none⟩)
      | 1 => fun v _ => v = .pointer (some ⟨p, 0, none⟩)
      | 2 => fun v _ => v = .string a
      | 3 => isEls a
      | 4 => fun v _ => v = .pointer (some ⟨q, 4, none⟩)
      | 5 => fun v _ => v = .pointer (some ⟨p, 0, none⟩)
      | 6 => fun v _ => v = .string b
      | 7 => isEls b
      | 8 => isEls a
      | 9 => isEls b
      | _ => fun _ _ => True) (by kernel_rfl) (by kernel_rfl) (by kernel_rfl) ?_ ?_
  · simp (maxSteps := 20000000) only [List.take_succ_cons, List.take_zero, ParAll, Act.put, List.setIfInBounds_toArray, List.set_cons_succ, List.set_cons_zero]
    refine ⟨?_, ?_, ?_, ?_, ?_, ?_, ?_, ?_, ?_, ?_, trivial⟩
    · intro vals W hx hd
      have hW := HF.out W hx
      simp [PDeps, pdeps, Region.binds] at hd
      first
        | refine ParOb.plain rfl ?_
        | refine ParOb.wanted (by simp [Region.wanted, yielded, hd]) ?_
      go_simp
      exact ParPost.same fun _ _ => rfl
    · intro vals W hx hd
      have hW := HF.out W hx
      simp [PDeps, pdeps, Region.binds] at hd
      first
        | refine ParOb.plain rfl ?_
        | refine ParOb.wanted (by simp [Region.wanted, yielded, hd]) ?_
      go_simp
      exact ParPost.same fun _ _ => rfl
    · intro vals W hx hd
      have hW := HF.out W hx
      simp [PDeps, pdeps, Region.binds] at hd
      first
        | refine ParOb.plain rfl ?_
        | refine ParOb.wanted (by simp [Region.wanted, yielded, hd]) ?_
      go_simp
      exact ParPost.same fun _ _ => rfl
    · intro vals W hx hd
      have hW := HF.out W hx
      simp [PDeps, pdeps, Region.binds] at hd
      first
        | refine ParOb.plain rfl ?_
        | refine ParOb.wanted (by simp [Region.wanted, yielded, hd]) ?_
      go_simp
      refine (HE.out a ha W hx).mono ?_
      rintro e w9 ⟨⟨v9, rfl, hr⟩, hb9⟩
      exact ⟨_, rfl, hb9, fun w10 h10 => hr.ext h10⟩
    · intro vals W hx hd
      have hW := HF.out W hx
      simp [PDeps, pdeps, Region.binds] at hd
      first
        | refine ParOb.plain rfl ?_
        | refine ParOb.wanted (by simp [Region.wanted, yielded, hd]) ?_
      go_simp
      exact ParPost.same fun _ _ => rfl
    · intro vals W hx hd
      have hW := HF.out W hx
      simp [PDeps, pdeps, Region.binds] at hd
      first
        | refine ParOb.plain rfl ?_
        | refine ParOb.wanted (by simp [Region.wanted, yielded, hd]) ?_
      go_simp
      exact ParPost.same fun _ _ => rfl
    · intro vals W hx hd
      have hW := HF.out W hx
      simp [PDeps, pdeps, Region.binds] at hd
      first
        | refine ParOb.plain rfl ?_
        | refine ParOb.wanted (by simp [Region.wanted, yielded, hd]) ?_
      go_simp
      exact ParPost.same fun _ _ => rfl
    · intro vals W hx hd
      have hW := HF.out W hx
      simp [PDeps, pdeps, Region.binds] at hd
      first
        | refine ParOb.plain rfl ?_
        | refine ParOb.wanted (by simp [Region.wanted, yielded, hd]) ?_
      go_simp
      refine (HE.out b hb W hx).mono ?_
      rintro e w9 ⟨⟨v9, rfl, hr⟩, hb9⟩
      exact ⟨_, rfl, hb9, fun w10 h10 => hr.ext h10⟩
    · intro vals W hx hd
      have hW := HF.out W hx
      simp [PDeps, pdeps, Region.binds] at hd
      first
        | refine ParOb.plain rfl ?_
        | refine ParOb.wanted (by simp [Region.wanted, yielded, hd]) ?_
      go_simp
      exact ParPost.same fun w2 h2 => ReadsL.ext hd.1 h2
    · intro vals W hx hd
      have hW := HF.out W hx
      simp [PDeps, pdeps, Region.binds] at hd
      first
        | refine ParOb.plain rfl ?_
        | refine ParOb.wanted (by simp [Region.wanted, yielded, hd]) ?_
      go_simp
      exact ParPost.same fun w2 h2 => ReadsL.ext hd.1 h2
  intro vals W hx hf
  simp (maxSteps := 20000000) only [ParFacts, List.take_succ_cons, List.take_zero, and_true, Nat.reduceAdd] at hf
  obtain ⟨f0, f1, f2, f3, f4, f5, f6, f7, f8, f9⟩ := hf
  simp (maxSteps := 20000000) only [List.drop_succ_cons, List.drop_zero, List.take_succ_cons, List.take_zero, ParEnd, Act.put, List.setIfInBounds_toArray, List.set_cons_succ, List.set_cons_zero, Nat.reduceAdd, f0, f1, f2, f4, f5, f6]
  clear f0 f1 f2 f4 f5 f6
  generalize vals 3 = y3 at f3 ⊢
  generalize vals 7 = y7 at f7 ⊢
  generalize vals 8 = y8 at f8 ⊢
  generalize vals 9 = y9 at f9 ⊢
  rename World => W1
  clear HF f3 f7
  unfold isEls at f8 f9
  rw [← HXs.out] at f8
  rw [← HYs.out] at f9
  have HY8 := Lib.hid f8
  have HY9 := Lib.hid f9
  have HX1 := Lib.hid (Ext.trans HX0.out hx)
  have HQ1 := Lib.hid (HQ.out.keep hx)
  clear f8 f9 hx HE HP HT HQ HX0 HXs HYs
  have hlI : (lv : Int) ≤ 3 := by omega
  go_wp2_with fail
  go_loopw [6, 9] (fun _ i wr => ∃ l : Nat, 1 ≤ l ∧ l ≤ lv + 1 ∧ i = .int .i64 l ∧ weighL shift false xs ys (List.range' 1 lv) = weighL shift false xs ys (List.range' l (lv + 1 - l)) ∧ Ext W1 wr) (fun _ i _ => lv + 1 - (intOf i).toNat)
  case atStart => exact ⟨1, Nat.le_refl _, by omega, rfl, rfl, Ext.refl _⟩
  case round =>
    obtain ⟨l, hl1, hl2, rfl, hw, hx⟩ := hrel
    have HW := Lib.hid hw
    have HXr := Lib.hid hx
    have hq2 := HQ1.out.keep hx
    obtain ⟨cq, fq⟩ := hq2.facts
    have hql := hq2.lt
    by_cases hle : l ≤ lv
    · have hleI : (l : Int) ≤ lv := by omega
      have h123 : l = 1 ∨ l = 2 ∨ l = 3 := by omega
      rw [show lv + 1 - l = (lv - l) + 1 by omega, weigh_step] at hw
      have HSt := Lib.hid hw
      clear hw hx hq2
      have HF := Lib.hid (show ∀ W, Ext wr W → W.cell? ⟨q, 0, none⟩ = some (.int .i64 kind) ∧ W.cell? ⟨q, 1, none⟩ = some (.int .i64 lv) ∧ W.cell? ⟨q, 2, none⟩ = some (.bool shift) ∧ W.cell? ⟨q, 3, none⟩ = some (.bool false) ∧ W.cell? ⟨q, 4, none⟩ = some (.pointer (some ⟨p, 0, none⟩)) from
        fun W hW => ⟨(HQ1.out.keep (Ext.trans HXr.out hW)).cell 0, (HQ1.out.keep (Ext.trans HXr.out hW)).cell 1, (HQ1.out.keep (Ext.trans HXr.out hW)).cell 2, (HQ1.out.keep (Ext.trans HXr.out hW)).cell 3, (HQ1.out.keep (Ext.trans HXr.out hW)).cell 4⟩)
      have HOf := Lib.hid (fun (v : Value) (es : List El) (W : World) (hv : ReadsL W v (wordsV es)) (hn : es.length ≤ 300000) (hok : ∀ e ∈ es, e.ok) => collOf_any kind lv shift (some ⟨p, 0, none⟩) v es l W hv hn hok h123)
      go_wp2_with fail
      clear cq fq hql
      refine wp_par 10 (fun
          | 0 => fun v _ => v = .agg #[.int .i64 kind, .int .i64 lv, .bool shift, .bool false, .pointer (some ⟨p, 0, none⟩)]
          | 1 => fun v _ => v = y8
          | 2 => fun v _ => v = .int .i64 (l : Int)
          | 3 => isWts l shift xs
          | 4 => fun v _ => v = .agg #[.int .i64 kind, .int .i64 lv, .bool shift, .bool false, .pointer (some ⟨p, 0, none⟩)]
          | 5 => fun v _ => v = y9
          | 6 => fun v _ => v = .int .i64 (l : Int)
          | 7 => isWts l shift ys
          | 8 => fun v _ => v = .int .i64 (cmpL (wtL l shift xs) (wtL l shift ys))
          | 9 => fun v _ => v = .int .i64 (cmpL (wtL l shift xs) (wtL l shift ys))
          | _ => fun _ _ => True) (by kernel_rfl) (by kernel_rfl) (by kernel_rfl) ?_ ?_
      · simp (maxSteps := 20000000) only [List.take_succ_cons, List.take_zero, ParAll, Act.put, List.setIfInBounds_toArray, List.set_cons_succ, List.set_cons_zero]
        refine ⟨?_, ?_, ?_, ?_, ?_, ?_, ?_, ?_, ?_, ?_, trivial⟩
        · intro vals W hx hd
          have hW := HF.out W hx
          simp [PDeps, pdeps, Region.binds] at hd
          first
            | refine ParOb.plain rfl ?_
            | refine ParOb.wanted (by simp [Region.wanted, yielded, hd]) ?_
          go_simp
          exact ParPost.same fun _ _ => rfl
        · intro vals W hx hd
          have hW := HF.out W hx
          simp [PDeps, pdeps, Region.binds] at hd
          first
            | refine ParOb.plain rfl ?_
            | refine ParOb.wanted (by simp [Region.wanted, yielded, hd]) ?_
          go_simp
          exact ParPost.same fun _ _ => rfl
        · intro vals W hx hd
          have hW := HF.out W hx
          simp [PDeps, pdeps, Region.binds] at hd
          first
            | refine ParOb.plain rfl ?_
            | refine ParOb.wanted (by simp [Region.wanted, yielded, hd]) ?_
          go_simp
          exact ParPost.same fun _ _ => rfl
        · intro vals W hx hd
          have hW := HF.out W hx
          simp [PDeps, pdeps, Region.binds] at hd
          first
            | refine ParOb.plain rfl ?_
            | refine ParOb.wanted (by simp [Region.wanted, yielded, hd]) ?_
          go_simp
          refine (HOf.out y8 xs W (HY8.out.ext (Ext.trans HXr.out hx)) (by omega) HOa.out).mono ?_
          rintro e w9 ⟨⟨v9, rfl, hr⟩, hb9⟩
          exact ⟨_, rfl, hb9, fun w10 h10 => hr.ext h10⟩
        · intro vals W hx hd
          have hW := HF.out W hx
          simp [PDeps, pdeps, Region.binds] at hd
          first
            | refine ParOb.plain rfl ?_
            | refine ParOb.wanted (by simp [Region.wanted, yielded, hd]) ?_
          go_simp
          exact ParPost.same fun _ _ => rfl
        · intro vals W hx hd
          have hW := HF.out W hx
          simp [PDeps, pdeps, Region.binds] at hd
          first
            | refine ParOb.plain rfl ?_
            | refine ParOb.wanted (by simp [Region.wanted, yielded, hd]) ?_
          go_simp
          exact ParPost.same fun _ _ => rfl
        · intro vals W hx hd
          have hW := HF.out W hx
          simp [PDeps, pdeps, Region.binds] at hd
          first
            | refine ParOb.plain rfl ?_
            | refine ParOb.wanted (by simp [Region.wanted, yielded, hd]) ?_
          go_simp
          exact ParPost.same fun _ _ => rfl
        · intro vals W hx hd
          have hW := HF.out W hx
          simp [PDeps, pdeps, Region.binds] at hd
          first
            | refine ParOb.plain rfl ?_
            | refine ParOb.wanted (by simp [Region.wanted, yielded, hd]) ?_
          go_simp
          refine (HOf.out y9 ys W (HY9.out.ext (Ext.trans HXr.out hx)) (by omega) HOb.out).mono ?_
          rintro e w9 ⟨⟨v9, rfl, hr⟩, hb9⟩
          exact ⟨_, rfl, hb9, fun w10 h10 => hr.ext h10⟩
        · intro vals W hx hd
          have hW := HF.out W hx
          simp [PDeps, pdeps, Region.binds] at hd
          first
            | refine ParOb.plain rfl ?_
            | refine ParOb.wanted (by simp [Region.wanted, yielded, hd]) ?_
          have hlx := wtL_le l shift xs
          have hly := wtL_le l shift ys
          go_simp
          refine (compare_any _ _ (wtL l shift xs) (wtL l shift ys) W hd.1 hd.2 (by omega) (by omega)).mono ?_
          rintro e w9 ⟨rfl, rfl⟩
          exact ⟨_, rfl, Ext.refl _, fun _ _ => rfl⟩
        · intro vals W hx hd
          have hW := HF.out W hx
          simp [PDeps, pdeps, Region.binds] at hd
          first
            | refine ParOb.plain rfl ?_
            | refine ParOb.wanted (by simp [Region.wanted, yielded, hd]) ?_
          go_simp
          exact ParPost.same fun _ _ => rfl
      intro vals W hx hf
      simp (maxSteps := 20000000) only [ParFacts, List.take_succ_cons, List.take_zero, and_true, Nat.reduceAdd] at hf
      obtain ⟨f0, f1, f2, f3, f4, f5, f6, f7, f8, f9⟩ := hf
      simp (maxSteps := 20000000) only [List.drop_succ_cons, List.drop_zero, List.take_succ_cons, List.take_zero, ParEnd, Act.put, List.setIfInBounds_toArray, List.set_cons_succ, List.set_cons_zero, Nat.reduceAdd, f0, f1, f2, f4, f5, f6, f8, f9]
      clear f0 f1 f2 f4 f5 f6 f8 f9
      generalize vals 3 = y3 at f3 ⊢
      generalize vals 7 = y7 at f7 ⊢
      have HX5 := Lib.hid (Ext.trans HXr.out hx)
      clear hx HF HOf f3 f7
      have hst := HSt.out
      generalize cmpL (wtL l shift xs) (wtL l shift ys) = r at hst ⊢
      cases hz : (r != 0)
      · have hr0 : r = 0 := by simpa using hz
        rw [if_neg (by simp [hr0])] at hst
        have HN := Lib.hid hst
        clear hst HSt HW
        subst hr0
        go_wp2_with fail
        go_roundw
        case rel => exact ⟨l + 1, by omega, by omega, by go_num, by rw [HN.out, show lv + 1 - (l + 1) = lv - l by omega], HX5.out⟩
        case measure => simp [intOf]; omega
      · have hr0 : r ≠ 0 := by simpa using hz
        rw [if_pos hr0] at hst
        have HN := Lib.hid hst
        clear hst HSt HW hr0
        go_wp2_with fail
        go_ret
        exact ⟨by rw [HN.out]; rfl, HX1.out.trans HX5.out⟩
    · have hle' : ¬ (l : Int) ≤ lv := by omega
      have h0 : weighL shift false xs ys (List.range' 1 lv) = 0 := by rw [hw, show lv + 1 - l = 0 by omega]; rfl
      have H0 := Lib.hid h0
      clear hw hx hq2 h0
      go_wp2_with fail
      go_ret
      exact ⟨by rw [H0.out]; rfl, HX1.out.trans HXr.out⟩
end Go.Proofs.YtipokgedmfnlaaaGreatDoor
