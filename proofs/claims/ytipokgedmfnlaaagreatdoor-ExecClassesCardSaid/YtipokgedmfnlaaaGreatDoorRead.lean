/-
  The first table is in order (Table.Check): its elements' weights go together, none is as high as those of no entry. A table of no rules is the first table (tailor.Read of the empty text).
-/
import Derived.Test.YtipokgedmfnlaaaGreatDoorReg
import Derived.Test.YtipokgedmfnlaaaGreatDoorElemB
import Derived.OwnWalk
namespace Go.Proofs.YtipokgedmfnlaaaGreatDoor
open Go.RowKit Go.Lib
set_option maxRecDepth 100000

/-- Under way: these entries are to come, all of the first table. -/
structure CkSt (w0 w : World) (b r : Nat) (L left : List (Value × Value)) : Prop where
  it : GIter Tryz.prog 146 w b r L left
  sub : ∀ x ∈ left, x ∈ L
  below : Below w0.heap.size w0 w
  hr : w0.heap.size ≤ r
/-- An entry of the first table: its key, and its elements in any later world. -/
theorem RootTo.entry {w : World} {b : Nat} (h : RootTo w b 132) {L : List (Value × Value)} (hL : GMap Tryz.prog 146 w b L) {x v : Value} (hm : (x, v) ∈ L) :
    ∃ c es, x = kS c ∧ c ≤ 1000 ∧ (∀ e ∈ es, El.good e) ∧ es.length ≤ 2 ∧ ReadsL w v (wordsE es) := by
  obtain ⟨L', h1, h2, h3, h4⟩ := h
  obtain rfl := hL.uniq h1
  obtain ⟨i, hi, he⟩ := List.getElem_of_mem hm
  have hr : rootL[i]? = some rootL[i] := List.getElem?_eq_getElem (by rw [rootL_length]; omega)
  obtain ⟨v', h5, h6⟩ := h4 i _ _ (by omega) hr
  rw [List.getElem?_eq_getElem hi, he] at h5
  obtain ⟨rfl, rfl⟩ := Prod.mk.inj (Option.some.inj h5)
  have hmem : rootL[i] ∈ rootL := List.getElem_mem _
  exact ⟨rootL[i].1, rootL[i].2, rfl, (rootL_ok _ hmem).1, fun e he => rootL_fit _ hmem e he, (rootL_ok _ hmem).2.1, h6⟩
set_option maxHeartbeats 4000000 in
theorem check_any (p : Nat) (w : World) (h : RootAt w p) : Calls Tryz.prog 123 #[.pointer (some ⟨p, 0, none⟩)] w fun e w' => e = .returned (.int .i64 0) ∧ Below w.heap.size w w' := by
  obtain ⟨b, T, f, hp, hR, _, _⟩ := h
  obtain ⟨L, hL, hk⟩ := hR.list
  have HL := Lib.hid hL
  have HR := Lib.hid hR
  have HE := Lib.hid (fun (x v : Value) (hm : (x, v) ∈ L) => hR.entry hL hm)
  have hbl := hL.lt
  obtain ⟨cp, fp⟩ := hp.facts
  have hpl := hp.lt
  clear hL hk hR hp
  go_enter Tryz.func123, Tryz.ntmps123
  go_wp2_with (refine wpList_grange rfl _ _ rfl _ _ Tryz.underlying143 b L rfl HL.out ?_; intro w1 hit hb1 hs1)
  go_frame
  have hS0 : CkSt w w1 b w.heap.size L L := ⟨hit, fun _ h => h, hb1, Nat.le_refl _⟩
  generalize w.heap.size = r at hS0 ⊢
  clear hit hb1 hs1
  have HS0 := Lib.hid hS0
  clear hS0
  go_loopw [14] (fun _ wr => ∃ left, CkSt w wr b r L left) (fun _ wr => gleft wr b r)
  case atStart => exact ⟨L, HS0.out⟩
  case round =>
    obtain ⟨left, hr⟩ := hrel
    have HR1 := Lib.hid hr
    clear hr
    go_wp2_with (refine wpList_gnext rfl _ rfl 146 b r L left rfl HR1.out.it ?_ ?_)
    · intro h0
      subst h0
      go_wp2_with fail
      go_ret
      exact ⟨rfl, HR1.out.below⟩
    · intro x v l1 l2 w2 hl hit2 hg2 hs2 hen
      subst hl
      have hm : (x, v) ∈ L := HR1.out.sub _ (by simp)
      obtain ⟨c, es, rfl, hc, hgood, hlen, hreads⟩ := HE.out x v hm
      have hb2 : Below w.heap.size w w2 := Below.grown HR1.out.below hg2 HR1.out.below.size (fun k hk => by cases hk; exact HR1.out.hr)
      have HI2 := Lib.hid hit2
      have HB2 := Lib.hid hb2
      have HV := Lib.hid hreads
      have HG := Lib.hid hgood
      clear hit2 hg2 hs2 hreads hgood hb2 hm
      rw [show kS c = .agg #[.int .i64 ((c : Int) + 1), .int .i64 0, .int .i64 0] from rfl] at hen
      go_wp2_with fail
      rw [show Value.agg #[.int .i64 ((c : Int) + 1), .int .i64 0, .int .i64 0] = kS c from rfl]
      refine (signs_one c (by omega) _).mono ?_
      rintro e w3 ⟨g, cap, rfl, hcell, hb3⟩
      have hE : Ext w2 w3 := Below.trans ((Ext.refl w2).alloc _) (Below.mono hb3 (by simp))
      have HE2 := Lib.hid hE
      clear hcell hb3 hE hen
      go_simp
      repeat (first | go_values | go_skip | go_guarded | go_step | go_upon)
      go_loopw [6] (fun v wq => v = .int .i64 1 ∧ wq = w3) (fun _ _ => 0)
      case atStart => exact ⟨rfl, rfl⟩
      case round =>
        obtain ⟨rfl, rfl⟩ := hrel
        go_simp
        repeat (first | go_values | go_skip | go_guarded | go_step | go_upon)
        refine (containsEl_none v es _ ((HV.out.ext HB2.out).ext HE2.out) (by omega) HG.out).mono ?_
        rintro e w4 ⟨rfl, rfl⟩
        have hit4 := HI2.out.keep HE2.out
        have hb4 : Below w.heap.size w _ := Below.trans HB2.out (Below.mono HE2.out HB2.out.size)
        go_simp
        repeat (first | go_values | go_skip | go_guarded | go_step | go_upon)
        go_roundw
        case rel => exact ⟨_, hit4, fun x hx => HR1.out.sub x (by simp at hx ⊢; rcases hx with h | h <;> simp [h]), hb4, HR1.out.hr⟩
        case measure => rw [hit4.count, HR1.out.it.count]; simp
end Go.Proofs.YtipokgedmfnlaaaGreatDoor

namespace Go.Proofs.YtipokgedmfnlaaaGreatDoor
open Go.RowKit Go.Lib
set_option maxRecDepth 100000

theorem clip_none (w : World) : Calls Tryz.prog 51 #[.slice none 0 0] w fun e w' => e = .returned (.slice none 0 0) ∧ w = w' := by
  go_enter Tryz.func51, Tryz.ntmps51
  go_wp2_with fail
  go_ret
  exact ⟨rfl, rfl⟩
theorem clipR_none (w : World) : Calls Tryz.prog 121 #[.slice none 0 0] w fun e w' => e = .returned (.slice none 0 0) ∧ w = w' := by
  go_enter Tryz.func121, Tryz.ntmps121
  go_wp2_with fail
  go_ret
  exact ⟨rfl, rfl⟩
theorem signs_none (w : World) : Calls Tryz.prog 116 #[.string ⟨#[]⟩] w fun e w' => e = .returned (.slice none 0 0) ∧ w = w' := by
  go_enter Tryz.func116, Tryz.ntmps116
  go_wp2_with fail
  go_loopw [0, 3] (fun s v wr => s = .string ⟨#[]⟩ ∧ v = .slice none 0 0 ∧ w = wr) (fun _ _ _ => 0)
  case atStart => exact ⟨rfl, rfl, rfl⟩
  case round =>
    obtain ⟨rfl, rfl, rfl⟩ := hrel
    go_wp2_with fail
    refine (clip_none _).mono ?_
    rintro e w2 ⟨rfl, rfl⟩
    go_wp2_with fail
    go_ret
    exact ⟨rfl, rfl⟩
/-- The reader over no signs. -/
def RdAt (w : World) (q : Nat) : Prop := ∃ a, Blk w q #[.slice none 0 0, a, .int .i64 0] 205
theorem sign_none (q : Nat) (w : World) (h : RdAt w q) : Calls Tryz.prog 119 #[.pointer (some ⟨q, 0, none⟩)] w fun e w' => e = .returned (.int .i64 (-1)) ∧ Ext w w' := by
  obtain ⟨a, hq⟩ := h
  have HF := Lib.hid (show ∀ W, Ext w W → W.cell? ⟨q, 0, none⟩ = some (.slice none 0 0) ∧ W.cell? ⟨q, 2, none⟩ = some (.int .i64 0) from
    fun W hW => ⟨(hq.keep hW).cell 0, (hq.keep hW).cell 2⟩)
  clear hq
  go_enter Tryz.func119, Tryz.ntmps119
  go_wp2_with fail
  refine wp_par 10 (fun
      | 0 => fun v _ => v = .pointer (some ⟨q, 0, none⟩)
      | 1 => fun v _ => v = .pointer (some ⟨q, 0, none⟩)
      | 2 => fun v _ => v = .pointer (some ⟨q, 2, none⟩)
      | 3 => fun v _ => v = .int .i64 0
      | 4 => fun v _ => v = .pointer (some ⟨q, 0, none⟩)
      | 5 => fun v _ => v = .pointer (some ⟨q, 0, none⟩)
      | 6 => fun v _ => v = .pointer (some ⟨q, 0, none⟩)
      | 7 => fun v _ => v = .slice none 0 0
      | 8 => fun v _ => v = .int .i64 0
      | 9 => fun v _ => v = .bool true
      | _ => fun _ _ => True) (by kernel_rfl) (by kernel_rfl) (by kernel_rfl) ?_ ?_
  · simp (maxSteps := 20000000) only [List.take_succ_cons, List.take_zero, ParAll, Act.put, List.setIfInBounds_toArray, List.set_cons_succ, List.set_cons_zero]
    refine ⟨?_, ?_, ?_, ?_, ?_, ?_, ?_, ?_, ?_, ?_, trivial⟩
    · intro vals W hx hd
      have hW := HF.out W hx
      simp [PDeps, pdeps, Region.binds] at hd
      first
        | refine ParOb.plain rfl ?_
        | refine ParOb.wanted (by simp [Region.wanted, yielded, hd]) ?_
      go_simp
      exact ParPost.same fun _ _ => rfl
    · intro vals W hx hd
      have hW := HF.out W hx
      simp [PDeps, pdeps, Region.binds] at hd
      first
        | refine ParOb.plain rfl ?_
        | refine ParOb.wanted (by simp [Region.wanted, yielded, hd]) ?_
      go_simp
      exact ParPost.same fun _ _ => rfl
    · intro vals W hx hd
      have hW := HF.out W hx
      simp [PDeps, pdeps, Region.binds] at hd
      first
        | refine ParOb.plain rfl ?_
        | refine ParOb.wanted (by simp [Region.wanted, yielded, hd]) ?_
      go_simp
      exact ParPost.same fun _ _ => rfl
    · intro vals W hx hd
      have hW := HF.out W hx
      simp [PDeps, pdeps, Region.binds] at hd
      first
        | refine ParOb.plain rfl ?_
        | refine ParOb.wanted (by simp [Region.wanted, yielded, hd]) ?_
      go_simp
      exact ParPost.same fun _ _ => rfl
    · intro vals W hx hd
      have hW := HF.out W hx
      simp [PDeps, pdeps, Region.binds] at hd
      first
        | refine ParOb.plain rfl ?_
        | refine ParOb.wanted (by simp [Region.wanted, yielded, hd]) ?_
      go_simp
      exact ParPost.same fun _ _ => rfl
    · intro vals W hx hd
      have hW := HF.out W hx
      simp [PDeps, pdeps, Region.binds] at hd
      first
        | refine ParOb.plain rfl ?_
        | refine ParOb.wanted (by simp [Region.wanted, yielded, hd]) ?_
      go_simp
      exact ParPost.same fun _ _ => rfl
    · intro vals W hx hd
      have hW := HF.out W hx
      simp [PDeps, pdeps, Region.binds] at hd
      first
        | refine ParOb.plain rfl ?_
        | refine ParOb.wanted (by simp [Region.wanted, yielded, hd]) ?_
      go_simp
      exact ParPost.same fun _ _ => rfl
    · intro vals W hx hd
      have hW := HF.out W hx
      simp [PDeps, pdeps, Region.binds] at hd
      first
        | refine ParOb.plain rfl ?_
        | refine ParOb.wanted (by simp [Region.wanted, yielded, hd]) ?_
      go_simp
      exact ParPost.same fun _ _ => rfl
    · intro vals W hx hd
      have hW := HF.out W hx
      simp [PDeps, pdeps, Region.binds] at hd
      first
        | refine ParOb.plain rfl ?_
        | refine ParOb.wanted (by simp [Region.wanted, yielded, hd]) ?_
      go_simp
      exact ParPost.same fun _ _ => rfl
    · intro vals W hx hd
      have hW := HF.out W hx
      simp [PDeps, pdeps, Region.binds] at hd
      first
        | refine ParOb.plain rfl ?_
        | refine ParOb.wanted (by simp [Region.wanted, yielded, hd]) ?_
      go_simp
      exact ParPost.same fun _ _ => rfl
  intro vals W hx hf
  simp (maxSteps := 20000000) only [ParFacts, List.take_succ_cons, List.take_zero, and_true] at hf
  simp (maxSteps := 20000000) only [List.drop_succ_cons, List.drop_zero, List.take_succ_cons, List.take_zero, ParEnd, Act.put, List.setIfInBounds_toArray, List.set_cons_succ, List.set_cons_zero, hf]
  clear hf
  have HX := Lib.hid hx
  clear hx HF
  go_simp
  repeat (first | go_values | go_skip | go_guarded | go_step | go_upon)
  go_ret
  exact ⟨rfl, HX.out⟩
theorem blank_none (q : Nat) (w : World) (h : RdAt w q) : Calls Tryz.prog 118 #[.pointer (some ⟨q, 0, none⟩)] w fun e w' => e = .returned (.tuple #[]) ∧ Ext w w' := by
  have H := Lib.hid h
  clear h
  go_enter Tryz.func118, Tryz.ntmps118
  go_wp2_with fail
  refine (sign_none q _ H.out).mono ?_
  rintro e w2 ⟨rfl, hb⟩
  have HB := Lib.hid hb
  clear hb
  go_simp
  repeat (first | go_values | go_skip | go_guarded | go_step | go_upon)
  go_loopw [2] (fun v wr => v = .int .i64 (-1) ∧ wr = w2) (fun _ _ => 0)
  case atStart => exact ⟨rfl, rfl⟩
  case round =>
    obtain ⟨rfl, rfl⟩ := hrel
    go_simp
    repeat (first | go_values | go_skip | go_guarded | go_step | go_upon)
    go_end0
    exact ⟨rfl, HB.out⟩
theorem parse_none (w : World) : Calls Tryz.prog 71 #[.string ⟨#[]⟩] w fun e w' => e = .returned (.tuple #[.slice none 0 0, .int .i64 0, .int .i64 0]) ∧ Below w.heap.size w w' := by
  go_enter Tryz.func71, Tryz.ntmps71
  go_wp2_with fail
  refine (signs_none _).mono ?_
  rintro e w2 ⟨rfl, rfl⟩
  go_simp
  repeat (first | go_values | go_skip | go_guarded | go_step | go_upon)
  generalize hW1 : w.alloc (.cells #[.slice none 0 0, .slice none 0 0, .int .i64 0] 205) = W1
  have hq : Blk W1 w.heap.size #[.slice none 0 0, .slice none 0 0, .int .i64 0] 205 := by rw [← hW1]; exact Blk.new w _ _ rfl
  have hb1 : Below w.heap.size w W1 := by rw [← hW1]; exact (Below.refl _ _).alloc (Nat.le_refl _) _
  clear hW1
  have HQ := Lib.hid hq
  have HB1 := Lib.hid hb1
  have hql := hq.lt
  obtain ⟨cq, fq⟩ := hq.facts
  clear hq hb1
  go_loopw [6, 20] (fun n v wr => n = .int .i64 0 ∧ v = .int .i64 0 ∧ wr = W1) (fun _ _ _ => 0)
  case atStart => exact ⟨rfl, rfl, rfl⟩
  case round =>
    obtain ⟨rfl, rfl, rfl⟩ := hrel
    go_wp2_with (at_builtin; refine wpList_push rfl _ _ _ rfl w.heap.size 3 (.int .i64 0) 1 8 Tryz.underlying40 infoInt1 rfl (by decide) (.slice none 0 0) 0 [] rfl (World.ownsRow_nil _ _ _ _) wr.heap.size 3 #[.int .i64 0] rfl (Blk.new _ _ _ rfl) rfl (by simp [Value.oneCell']) (by decide) (by decide) (by simp <;> omega) ?_; intro v2 w2 hown hgr hat; obtain ⟨g2, cap2, rfl⟩ := own_form hown; have hb2 : Below wr.heap.size wr w2 := ((Below.refl _ _).alloc (Nat.le_refl _) _).grown hgr (by simp) (by simp [Value.ownBlock]); have hq2 := HQ.out.keep hb2; have hql2 := hq2.lt; obtain ⟨cq2, fq2⟩ := hq2.facts; clear hown hgr hat)
    have HQ2 := Lib.hid hq2
    have HB2 : Hid (Below w.heap.size w w2) := Lib.hid (HB1.out.trans (hb2.mono HB1.out.size))
    clear hq2 hb2
    have hq3 : Blk (w2.setCell ⟨w.heap.size, 1, none⟩ (.slice (some ⟨g2, 0, none⟩) 1 cap2)) w.heap.size #[.slice none 0 0, .slice (some ⟨g2, 0, none⟩) 1 cap2, .int .i64 0] 205 := HQ2.out.set 1 _
    have hb3 : Below w.heap.size w (w2.setCell ⟨w.heap.size, 1, none⟩ (.slice (some ⟨g2, 0, none⟩) 1 cap2)) := HB2.out.setCell (Nat.le_refl _) _
    generalize (w2.setCell ⟨w.heap.size, 1, none⟩ (.slice (some ⟨g2, 0, none⟩) 1 cap2)) = W3 at hq3 hb3 ⊢
    clear cq2 fq2 cq fq HQ HB1 HQ2 HB2
    have HQ3 := Lib.hid hq3
    have HB3 := Lib.hid hb3
    clear hq3 hb3
    refine (blank_none w.heap.size W3 ⟨_, HQ3.out⟩).mono ?_
    rintro e w4 ⟨rfl, hb4⟩
    have HX4 : Hid (Ext W3 w4) := Lib.hid hb4
    clear hb4
    go_simp
    repeat (first | go_values | go_skip | go_guarded | go_step | go_upon)
    go_loopw [2] (fun l wr => l = .slice none 0 0 ∧ wr = w4) (fun _ _ => 0)
    case atStart => exact ⟨rfl, rfl⟩
    case round =>
      obtain ⟨rfl, rfl⟩ := hrel
      go_simp
      repeat (first | go_values | go_skip | go_guarded | go_step | go_upon)
      refine (sign_none w.heap.size _ ⟨_, HQ3.out.keep HX4.out⟩).mono ?_
      rintro e w5 ⟨rfl, hb5⟩
      have HX5 : Hid (Below w.heap.size w w5) := Lib.hid (HB3.out.trans ((Ext.trans HX4.out hb5).mono HB3.out.size))
      clear hb5
      go_simp
      repeat (first | go_values | go_skip | go_guarded | go_step | go_upon)
      refine (clipR_none _).mono ?_
      rintro e w6 ⟨rfl, rfl⟩
      go_simp
      repeat (first | go_values | go_skip | go_guarded | go_step | go_upon)
      go_ret3
      exact ⟨rfl, HX5.out⟩
theorem apply_none (p : Nat) (w : World) (h : RootAt w p) : Calls Tryz.prog 72 #[.pointer (some ⟨p, 0, none⟩), .slice none 0 0] w fun e w' => e = .returned (.tuple #[.pointer (some ⟨p, 0, none⟩), .int .i64 0]) ∧ Below w.heap.size w w' := by
  have H := Lib.hid h
  clear h
  go_enter Tryz.func72, Tryz.ntmps72
  go_wp2_with fail
  generalize hW1 : w.alloc (.cells #[.pointer (some ⟨p, 0, none⟩), .slice none 0 0] 214) = W1
  have hq : Blk W1 w.heap.size #[.pointer (some ⟨p, 0, none⟩), .slice none 0 0] 214 := by rw [← hW1]; exact Blk.new w _ _ rfl
  have hb1 : Below w.heap.size w W1 := by rw [← hW1]; exact (Below.refl _ _).alloc (Nat.le_refl _) _
  clear hW1
  have HQ := Lib.hid hq
  have HB1 := Lib.hid hb1
  have hql := hq.lt
  obtain ⟨cq, fq⟩ := hq.facts
  clear hq hb1
  go_loopw [17] (fun v wr => v = .int .i64 0 ∧ wr = W1) (fun _ _ => 0)
  case atStart => exact ⟨rfl, rfl⟩
  case round =>
    obtain ⟨rfl, rfl⟩ := hrel
    go_simp
    repeat (first | go_values | go_skip | go_guarded | go_step | go_upon)
    refine (check_any p _ (H.out.ext HB1.out)).mono ?_
    rintro e w2 ⟨rfl, hb2⟩
    have hq2 := HQ.out.keep hb2
    have hql2 := hq2.lt
    obtain ⟨cq2, fq2⟩ := hq2.facts
    have HX2 : Hid (Below w.heap.size w w2) := Lib.hid (HB1.out.trans (hb2.mono HB1.out.size))
    clear hq2 hb2 cq fq
    go_simp
    repeat (first | go_values | go_skip | go_guarded | go_step | go_upon)
    go_ret2
    exact ⟨rfl, HX2.out⟩
/-- A table of no rules is the first table. -/
theorem read_none (w : World) : Calls Tryz.prog 39 #[.string ⟨#[]⟩] w fun e w' => ∃ p, e = .returned (.tuple #[.pointer (some ⟨p, 0, none⟩), .int .i64 0, .int .i64 0]) ∧ w.heap.size ≤ p ∧ RootAt w' p ∧ Below w.heap.size w w' := by
  go_enter Tryz.func39, Tryz.ntmps39
  go_wp2_with fail
  refine (parse_none _).mono ?_
  rintro e w2 ⟨rfl, hb2⟩
  have HB2 := Lib.hid hb2
  clear hb2
  go_simp
  repeat (first | go_values | go_skip | go_guarded | go_step | go_upon)
  refine (root_any _).mono ?_
  rintro e w3 ⟨p, rfl, hp, hR, hb3⟩
  have HB3 : Hid (Below w.heap.size w w3) := Lib.hid (HB2.out.trans (hb3.mono HB2.out.size))
  have HR := Lib.hid hR
  have HP := Lib.hid (Nat.le_trans HB2.out.size hp)
  clear hb3 hR hp
  go_simp
  repeat (first | go_values | go_skip | go_guarded | go_step | go_upon)
  refine (apply_none p _ HR.out).mono ?_
  rintro e w4 ⟨rfl, hb4⟩
  have HB4 : Hid (Below w.heap.size w w4) := Lib.hid (HB3.out.trans (hb4.mono HB3.out.size))
  have HR4 := Lib.hid (HR.out.ext hb4)
  clear hb4
  go_simp
  repeat (first | go_values | go_skip | go_guarded | go_step | go_upon)
  go_ret3
  exact ⟨p, rfl, HP.out, HR4.out, HB4.out⟩
end Go.Proofs.YtipokgedmfnlaaaGreatDoor
