/-
  A column is found by its name, if just one has it; by its table's name, if two have it.
-/
import Derived.Test.YtaoikbpolckobaaGreatDoorBindJ
namespace Go.Proofs.YtaoikbpolckobaaGreatDoor
open Go.RowKit
set_option maxRecDepth 100000

theorem wrap8 (x : Int) (h0 : 0 ≤ x) (h1 : x < 256) : IntKind.u8.wrap x = x := by
  simp [IntKind.wrap, IntKind.signed, IntKind.bits]
  omega
def oneB (z : Int) (v : Value) (w : World) : Prop := ∃ g, v = .slice (some ⟨g, 0, none⟩) 1 1 ∧ Blk w g #[.int .u8 z] 5
theorem yields_conv {o : Oper} {ρ : Operand → Value} {w : World} {x : Operand} {g : Nat} {b : UInt8} (ho : o.op = .convert 49 9 x) (hx : ρ x = .slice (some ⟨g, 0, none⟩) 1 1) (hb : Blk w g #[.int .u8 (b.toNat : Int)] 5) :
    yields Tryz.prog o ρ w (ParPost (fun v _ => v = .string ⟨#[b]⟩) w) := by
  have hr := run_convert_bytes_back (P := Tryz.prog) w 49 9 5 ⟨g, 0, none⟩ 1 [b] Tryz.underlying49 Tryz.underlying5 Tryz.underlying9 (fun j hj => by
    have : j = 0 := by simpa using hj
    subst this
    rw [Addr.add_lit, Nat.zero_add, hb.cell]
    rfl)
  unfold yields execOp
  simp only [ho, hx]
  simp only [List.length_singleton] at hr
  simp [hr, Result.andThen]
  exact ⟨Ext.refl _, fun _ _ => rfl⟩
theorem colV_none {k o : Int} {s t : ByteArray} {lp : Option Addr} {ll lc : Nat} {fs : List FdR} (h : findF s t fs 0 none = none) : colV k o s t lp ll lc fs = tyErr 11 := by
  unfold colV
  rw [h]
theorem colV_some7 {s t : ByteArray} {i : Nat} (h : findF s t fds 0 none = some i) (hi : i < 7) : ∃ x r cl, fds[i]? = some x ∧ colV 4 0 s t none 0 0 fds = .tuple #[.agg #[.int .i64 4, .int .i64 0, .string s, .string t, .int .i64 (i : Int), .slice none 0 0, .int .i64 x.ty, .int .i64 r, .string cl], .int .i64 0] := by
  have hx : fds[i]? = some (fds[i]'hi) := List.getElem?_eq_getElem hi
  refine ⟨fds[i]'hi, (if (fds[i]'hi).ty = 3 then 1 else 0), (if (fds[i]'hi).ty = 3 then (fds[i]'hi).cl else ⟨#[]⟩), hx, ?_⟩
  unfold colV
  rw [h]
  simp only [hx]
  rfl
/-- How many columns have the name, how many of them that table's; where the last of these stands. -/
def nst (nm tb : ByteArray) : List FdR → Nat → Nat → Nat → Int → Nat × Nat × Int
  | [], _, n, m, at_ => (n, m, at_)
  | x :: xs, i, n, m, at_ => if (x.nm.toList == nm.toList) = true then (if (x.tb.toList == tb.toList) = true then nst nm tb xs (i + 1) (n + 1) (m + 1) (i : Int) else nst nm tb xs (i + 1) (n + 1) m at_) else nst nm tb xs (i + 1) n m at_
def chk (na tb : UInt8) : Bool :=
  let f1 := findF ⟨#[na]⟩ ⟨#[]⟩ fds 0 none
  let f2 := findF ⟨#[na]⟩ ⟨#[tb]⟩ fds 0 none
  let r := nst ⟨#[na]⟩ ⟨#[tb]⟩ fds 0 0 0 (-1)
  (match f1 with | none => r.1 != 1 | some i => r.1 == 1 && decide (i < 7)) && (match f2 with | none => r.2.1 != 1 | some i => r.2.1 == 1 && r.2.2 == (i : Int) && decide (i < 7))
theorem chk_all : ∀ na ∈ ([97, 98, 99, 100, 101, 102, 103, 104] : List UInt8), ∀ tb ∈ ([115, 116, 117, 118] : List UInt8), chk na tb = true := by decide +kernel
theorem chk_of {a b : Int} {na tb : UInt8} (hna : (na.toNat : Int) = 97 + a % 8) (htb : (tb.toNat : Int) = 115 + b % 4) : chk na tb = true := by
  refine chk_all na ?_ tb ?_
  · have h1 : na.toNat = 97 ∨ na.toNat = 98 ∨ na.toNat = 99 ∨ na.toNat = 100 ∨ na.toNat = 101 ∨ na.toNat = 102 ∨ na.toNat = 103 ∨ na.toNat = 104 := by omega
    rcases h1 with h | h | h | h | h | h | h | h <;> (have h2 : UInt8.ofNat na.toNat ∈ ([97, 98, 99, 100, 101, 102, 103, 104] : List UInt8) := by rw [h]; decide) <;> simpa using h2
  · have h1 : tb.toNat = 115 ∨ tb.toNat = 116 ∨ tb.toNat = 117 ∨ tb.toNat = 118 := by omega
    rcases h1 with h | h | h | h <;> (have h2 : UInt8.ofNat tb.toNat ∈ ([115, 116, 117, 118] : List UInt8) := by rw [h]; decide) <;> simpa using h2
set_option maxHeartbeats 16000000 in
theorem law_names (a b : Int) (na tb : UInt8) (w : World) (ha : 0 ≤ a ∧ a < 256) (hb : 0 ≤ b ∧ b < 256) (hna : (na.toNat : Int) = 97 + a % 8) (htb : (tb.toNat : Int) = 115 + b % 4) :
    Calls Tryz.prog 5 #[.int .u8 a, .int .u8 b] w fun e w' => e = .returned (.bool true) ∧ Below w.heap.size w w' := by
  have hm1 : a.tmod 8 = a % 8 := Int.tmod_eq_emod_of_nonneg ha.1
  have hm2 : b.tmod 4 = b % 4 := Int.tmod_eq_emod_of_nonneg hb.1
  have hw1 : IntKind.u8.wrap (97 + a % 8) = (na.toNat : Int) := by rw [hna]; exact wrap8 _ (by omega) (by omega)
  have hw2 : IntKind.u8.wrap (115 + b % 4) = (tb.toNat : Int) := by rw [htb]; exact wrap8 _ (by omega) (by omega)
  have HNa := Lib.hid hna
  have HTb := Lib.hid htb
  clear hna htb
  go_enter Tryz.func5, Tryz.ntmps5
  repeat (first | go_values | go_skip | go_guarded | go_step | go_upon)
  refine (Y.fields_any _).mono ?_
  rintro e w1 ⟨⟨g, c, v2, rfl, hf⟩, hb1⟩
  have HF1 := Lib.hid hf
  have HX1 := Lib.hid hb1
  clear hf hb1
  go_simp
  repeat (first | go_values | go_skip | go_guarded | go_step | go_upon)
  refine (regnew_any _).mono ?_
  rintro e w2 ⟨q, rfl, hq, _, hb2⟩
  have HX2 : Hid (Below w.heap.size w w2) := Lib.hid (HX1.out.trans (hb2.mono HX1.out.size))
  have HF2 := Lib.hid (HF1.out.ext hb2)
  clear hb2
  go_simp
  repeat (first | go_values | go_skip | go_guarded | go_step | go_upon)
  have HF := Lib.hid (show ∀ W, Ext w2 W → True from fun _ _ => trivial)
  refine wp_par 12 (fun
      | 0 => fun v _ => v = .int .u8 a
      | 1 => fun v _ => v = .int .u8 (a % 8)
      | 2 => fun v _ => v = .int .u8 (na.toNat : Int)
      | 3 => oneB (na.toNat : Int)
      | 4 => fun v _ => v = .string ⟨#[na]⟩
      | 5 => fun v _ => v = .int .u8 b
      | 6 => fun v _ => v = .int .u8 (b % 4)
      | 7 => fun v _ => v = .int .u8 (tb.toNat : Int)
      | 8 => oneB (tb.toNat : Int)
      | 9 => fun v _ => v = .string ⟨#[tb]⟩
      | 10 => fun v _ => v = .string ⟨#[na]⟩
      | 11 => fun v _ => v = .string ⟨#[tb]⟩
      | _ => fun _ _ => True) (by kernel_rfl) (by kernel_rfl) (by kernel_rfl) ?_ ?_
  · simp (maxSteps := 20000000) only [List.take_succ_cons, List.take_zero, ParAll, Act.put, List.setIfInBounds_toArray, List.set_cons_succ, List.set_cons_zero]
    refine ⟨?_, ?_, ?_, ?_, ?_, ?_, ?_, ?_, ?_, ?_, ?_, ?_, trivial⟩
    · intro vals W hx hd
      have hW := HF.out W hx
      simp [PDeps, pdeps, Region.binds] at hd
      first
        | refine ParOb.plain rfl ?_
        | refine ParOb.wanted (by simp [Region.wanted, yielded, hd]) ?_
      go_simp
      exact ParPost.same fun _ _ => rfl
    · intro vals W hx hd
      have hW := HF.out W hx
      simp [PDeps, pdeps, Region.binds] at hd
      first
        | refine ParOb.plain rfl ?_
        | refine ParOb.wanted (by simp [Region.wanted, yielded, hd]) ?_
      go_simp
      exact ParPost.same fun _ _ => rfl
    · intro vals W hx hd
      have hW := HF.out W hx
      simp [PDeps, pdeps, Region.binds] at hd
      first
        | refine ParOb.plain rfl ?_
        | refine ParOb.wanted (by simp [Region.wanted, yielded, hd]) ?_
      go_simp
      exact ParPost.same fun _ _ => rfl
    · intro vals W hx hd
      have hW := HF.out W hx
      simp [PDeps, pdeps, Region.binds] at hd
      first
        | refine ParOb.plain rfl ?_
        | refine ParOb.wanted (by simp [Region.wanted, yielded, hd]) ?_
      go_simp
      exact ⟨(Ext.refl _).alloc _, fun w2 h2 => ⟨_, rfl, (Blk.new _ _ _ rfl).keep h2⟩⟩
    · intro vals W hx hd
      have hW := HF.out W hx
      simp [PDeps, pdeps, Region.binds] at hd
      first
        | refine ParOb.plain rfl ?_
        | refine ParOb.wanted (by simp [Region.wanted, yielded, hd]) ?_
      obtain ⟨gn, hv, hbn⟩ := hd
      exact yields_conv rfl (by simpa [Act.eval] using hv) hbn
    · intro vals W hx hd
      have hW := HF.out W hx
      simp [PDeps, pdeps, Region.binds] at hd
      first
        | refine ParOb.plain rfl ?_
        | refine ParOb.wanted (by simp [Region.wanted, yielded, hd]) ?_
      go_simp
      exact ParPost.same fun _ _ => rfl
    · intro vals W hx hd
      have hW := HF.out W hx
      simp [PDeps, pdeps, Region.binds] at hd
      first
        | refine ParOb.plain rfl ?_
        | refine ParOb.wanted (by simp [Region.wanted, yielded, hd]) ?_
      go_simp
      exact ParPost.same fun _ _ => rfl
    · intro vals W hx hd
      have hW := HF.out W hx
      simp [PDeps, pdeps, Region.binds] at hd
      first
        | refine ParOb.plain rfl ?_
        | refine ParOb.wanted (by simp [Region.wanted, yielded, hd]) ?_
      go_simp
      exact ParPost.same fun _ _ => rfl
    · intro vals W hx hd
      have hW := HF.out W hx
      simp [PDeps, pdeps, Region.binds] at hd
      first
        | refine ParOb.plain rfl ?_
        | refine ParOb.wanted (by simp [Region.wanted, yielded, hd]) ?_
      go_simp
      exact ⟨(Ext.refl _).alloc _, fun w2 h2 => ⟨_, rfl, (Blk.new _ _ _ rfl).keep h2⟩⟩
    · intro vals W hx hd
      have hW := HF.out W hx
      simp [PDeps, pdeps, Region.binds] at hd
      first
        | refine ParOb.plain rfl ?_
        | refine ParOb.wanted (by simp [Region.wanted, yielded, hd]) ?_
      obtain ⟨gn, hv, hbn⟩ := hd
      exact yields_conv rfl (by simpa [Act.eval] using hv) hbn
    · intro vals W hx hd
      have hW := HF.out W hx
      simp [PDeps, pdeps, Region.binds] at hd
      first
        | refine ParOb.plain rfl ?_
        | refine ParOb.wanted (by simp [Region.wanted, yielded, hd]) ?_
      go_simp
      exact ParPost.same fun _ _ => rfl
    · intro vals W hx hd
      have hW := HF.out W hx
      simp [PDeps, pdeps, Region.binds] at hd
      first
        | refine ParOb.plain rfl ?_
        | refine ParOb.wanted (by simp [Region.wanted, yielded, hd]) ?_
      go_simp
      exact ParPost.same fun _ _ => rfl
  intro vals W hx hf
  simp (maxSteps := 20000000) only [ParFacts, List.take_succ_cons, List.take_zero, and_true, Nat.reduceAdd] at hf
  obtain ⟨f0, f1, f2, f3, f4, f5, f6, f7, f8, f9, f10, f11⟩ := hf
  simp (maxSteps := 20000000) only [List.drop_succ_cons, List.drop_zero, List.take_succ_cons, List.take_zero, ParEnd, Act.put, List.setIfInBounds_toArray, List.set_cons_succ, List.set_cons_zero, Nat.reduceAdd, f0, f1, f2, f4, f5, f6, f7, f9, f10, f11]
  clear f0 f1 f2 f4 f5 f6 f7 f9 f10 f11
  generalize vals 3 = y3 at f3 ⊢
  generalize vals 8 = y8 at f8 ⊢
  clear f3 f8
  have HFW := Lib.hid (HF2.out.ext hx)
  have HXW : Hid (Below w.heap.size w W) := Lib.hid (HX2.out.trans (hx.mono HX2.out.size))
  clear hx
  repeat (first | go_values | go_skip | go_guarded | go_step | go_upon)
  have HChk := Lib.hid (chk_of HNa.out HTb.out)
  unfold chk at HChk
  generalize (⟨#[na]⟩ : ByteArray) = nm at HChk ⊢
  generalize (⟨#[tb]⟩ : ByteArray) = tbs at HChk ⊢
  go_loopw [10, 11, 12, 13] (fun nv mv av i W => ∃ (j n m : Nat) (at_ : Int), j ≤ 7 ∧ nv = .int .i64 n ∧ mv = .int .i64 m ∧ av = .int .i64 at_ ∧ i = .int .i64 j ∧ n ≤ j ∧ m ≤ j ∧ nst nm tbs fds 0 0 0 (-1) = nst nm tbs (fds.drop j) j n m at_ ∧ FldsAt W g fds ∧ Below w.heap.size w W) (fun _ _ _ i _ => 7 - (intOf i).toNat)
  case atStart => exact ⟨0, 0, 0, -1, by omega, rfl, rfl, rfl, rfl, Nat.le_refl _, Nat.le_refl _, rfl, HFW.out, HXW.out⟩
  case round =>
    obtain ⟨j, n, m, at_, hj, rfl, rfl, rfl, rfl, hn, hm, hst, hF, hX⟩ := hrel
    have HSt := Lib.hid hst
    have HF := Lib.hid hF
    have HX := Lib.hid hX
    clear hst hX HFW HXW
    by_cases hlt : j < 7
    · have hx : fds[j]? = some (fds[j]'hlt) := List.getElem?_eq_getElem hlt
      have hcs : ∀ i, i < 4 → wr.cell? ⟨g, j * 4 + i, none⟩ = (fds[j]'hlt).cells[i]? := fun i hi => hF.2 j _ hx i hi
      have HDr := Lib.hid (List.drop_eq_getElem_cons (l := fds) hlt)
      have c0 := hcs 0 (by decide)
      have c1 := hcs 1 (by decide)
      clear hcs hx hF
      generalize fds[j]'hlt = x at c0 c1 HDr
      obtain ⟨xt, xn, xc, xty⟩ := x
      simp [FdR.cells] at c0 c1
      cases h1 : (xn.toList == nm.toList) <;> cases h2 : (xt.toList == tbs.toList)
      all_goals
        repeat (first | go_values | go_skip | go_guarded | go_step | go_upon)
        go_roundw
        case rel =>
          first
            | exact ⟨j + 1, n, m, at_, by omega, by go_num, by go_num, by go_num, by go_num, by omega, by omega, (by rw [HSt.out, HDr.out, nst]; first | (simp [h1]; done) | (simp [h1, h2]; done)), HF.out, HX.out⟩
            | exact ⟨j + 1, n + 1, m, at_, by omega, by go_num, by go_num, by go_num, by go_num, by omega, by omega, (by rw [HSt.out, HDr.out, nst]; first | (simp [h1]; done) | (simp [h1, h2]; done)), HF.out, HX.out⟩
            | exact ⟨j + 1, n + 1, m + 1, (j : Int), by omega, by go_num, by go_num, by go_num, by go_num, by omega, by omega, (by rw [HSt.out, HDr.out, nst]; first | (simp [h1]; done) | (simp [h1, h2]; done)), HF.out, HX.out⟩
        case measure => simp [intOf]; omega
    · obtain rfl : j = 7 := by omega
      clear hF hj hlt
      have hst2 : nst nm tbs fds 0 0 0 (-1) = (n, m, at_) := by rw [HSt.out]; rfl
      rw [hst2] at HChk
      repeat (first | go_values | go_skip | go_guarded | go_step | go_upon)
      refine (exprcol_any g c q nm ⟨#[]⟩ wr HF.out).mono ?_
      rintro e w5 ⟨rfl, hb5⟩
      have HX5 : Hid (Below w.heap.size w w5) := Lib.hid (HX.out.trans (hb5.mono HX.out.size))
      have HF5 := Lib.hid (HF.out.ext hb5)
      clear hb5
      obtain ⟨k1, o1, s1, t1, n1, p1, l1, q1, y1, r1, c1, e1, hV1⟩ := Form9.col 4 0 nm ⟨#[]⟩ none 0 0 fds
      have he1 : (e1 == 0) = ((n : Int) == 1) := by
        have hc := HChk.out
        rcases h1 : findF nm ⟨#[]⟩ fds 0 none with _ | i1
        · rw [colV_none h1] at hV1
          simp [tyErr] at hV1
          simp [h1] at hc
          rw [← hV1.2]
          simp
          omega
        · simp [h1] at hc
          obtain ⟨x, r, cl, _, h3⟩ := colV_some7 h1 hc.1.2
          rw [h3] at hV1
          simp at hV1
          rw [← hV1.2]
          simp
          omega
      rw [hV1]
      clear hV1
      go_simp
      repeat (first | go_values | go_skip | go_guarded | go_step | go_upon)
      have hx5 : Ext w5 (w5.alloc (.cells #[.int .i64 k1, .int .i64 o1, .string s1, .string t1, .int .i64 n1, .slice p1 l1 q1, .int .i64 y1, .int .i64 r1, .string c1] 36)) := (Ext.refl _).alloc _
      generalize (w5.alloc (.cells #[.int .i64 k1, .int .i64 o1, .string s1, .string t1, .int .i64 n1, .slice p1 l1 q1, .int .i64 y1, .int .i64 r1, .string c1] 36)) = W5 at hx5 ⊢
      refine (exprcol_any g c q nm tbs W5 (HF5.out.ext hx5)).mono ?_
      rintro e w6 ⟨rfl, hb6⟩
      have HX6 : Hid (Below w.heap.size w w6) := Lib.hid (HX5.out.trans ((Below.trans hx5 (hb6.mono hx5.size)).mono HX5.out.size))
      have HF6 := Lib.hid ((HF5.out.ext hx5).ext hb6)
      clear hb6 hx5
      rcases h2 : findF nm tbs fds 0 none with _ | i2
      · have hm1 : ((m : Int) == 1) = false := by
          have hc := HChk.out
          simp [h2] at hc
          simp
          omega
        rw [colV_none h2, show tyErr 11 = .tuple #[.agg #[.int .i64 0, .int .i64 0, .string ⟨#[]⟩, .string ⟨#[]⟩, .int .i64 0, .slice none 0 0, .int .i64 0, .int .i64 0, .string ⟨#[]⟩], .int .i64 11] from rfl]
        clear h2
        go_simp
        repeat (first | go_values | go_skip | go_guarded | go_step | go_upon)
        have hx6 : Ext w6 (w6.alloc (.cells #[.int .i64 0, .int .i64 0, .string ⟨#[]⟩, .string ⟨#[]⟩, .int .i64 0, .slice none 0 0, .int .i64 0, .int .i64 0, .string ⟨#[]⟩] 36)) := (Ext.refl _).alloc _
        generalize (w6.alloc (.cells #[.int .i64 0, .int .i64 0, .string ⟨#[]⟩, .string ⟨#[]⟩, .int .i64 0, .slice none 0 0, .int .i64 0, .int .i64 0, .string ⟨#[]⟩] 36)) = W6 at hx6 ⊢
        have HX7 : Hid (Below w.heap.size w W6) := Lib.hid (HX6.out.trans (hx6.mono HX6.out.size))
        clear hx6
        have HF := Lib.hid (show ∀ W, Ext W6 W → w.heap.size ≤ W.heap.size from fun W h => Nat.le_trans HX7.out.size h.size)
        refine wp_par 31 (fun
            | 0 => fun v _ => v = .int .i64 11
            | 1 => fun v _ => v = .bool true
            | 2 => fun v _ => v = .bool true
            | 3 => fun v _ => v = .int .i64 11
            | 4 => fun v _ => v = .bool true
            | 5 => fun v _ => v = .bool true
            | 6 => fun v _ => v = .bool true
            | 7 => fun v _ => v = undef
            | 8 => fun v _ => v = undef
            | 9 => fun v _ => v = undef
            | 10 => fun v _ => v = undef
            | 11 => fun v _ => v = undef
            | 12 => fun v _ => v = undef
            | 13 => fun v _ => v = undef
            | 14 => fun v _ => v = undef
            | 15 => fun v _ => v = undef
            | 16 => fun v _ => v = undef
            | 17 => fun v _ => v = undef
            | 18 => fun v _ => v = undef
            | 19 => fun v _ => v = undef
            | 20 => fun v _ => v = undef
            | 21 => fun v _ => v = undef
            | 22 => fun v _ => v = undef
            | 23 => fun v _ => v = undef
            | 24 => fun v _ => v = undef
            | 25 => fun v _ => v = undef
            | 26 => fun v _ => v = .bool true
            | 27 => fun v _ => v = .bool true
            | 28 => fun v _ => v = .bool true
            | 29 => fun v _ => v = .bool true
            | 30 => fun v _ => v = .bool true
            | _ => fun _ _ => True) (by kernel_rfl) (by kernel_rfl) (by kernel_rfl) ?_ ?_
        · simp (maxSteps := 20000000) only [List.take_succ_cons, List.take_zero, ParAll, Act.put, List.setIfInBounds_toArray, List.set_cons_succ, List.set_cons_zero]
          refine ⟨?_, ?_, ?_, ?_, ?_, ?_, ?_, ?_, ?_, ?_, ?_, ?_, ?_, ?_, ?_, ?_, ?_, ?_, ?_, ?_, ?_, ?_, ?_, ?_, ?_, ?_, ?_, ?_, ?_, ?_, ?_, trivial⟩
          · intro vals W hx hd
            have hW := HF.out W hx
            simp [PDeps, pdeps, Region.binds] at hd
            first
              | refine ParOb.plain rfl ?_
              | refine ParOb.wanted (by simp [Region.wanted, yielded, hd]) ?_
            go_simp
            exact ParPost.same fun _ _ => rfl
          · intro vals W hx hd
            have hW := HF.out W hx
            simp [PDeps, pdeps, Region.binds] at hd
            first
              | refine ParOb.plain rfl ?_
              | refine ParOb.wanted (by simp [Region.wanted, yielded, hd]) ?_
            go_simp
            exact ParPost.same fun _ _ => rfl
          · intro vals W hx hd
            have hW := HF.out W hx
            simp [PDeps, pdeps, Region.binds] at hd
            first
              | refine ParOb.plain rfl ?_
              | refine ParOb.wanted (by simp [Region.wanted, yielded, hd]) ?_
            go_simp
            exact ParPost.same fun _ _ => rfl
          · intro vals W hx hd
            have hW := HF.out W hx
            simp [PDeps, pdeps, Region.binds] at hd
            first
              | refine ParOb.plain rfl ?_
              | refine ParOb.wanted (by simp [Region.wanted, yielded, hd]) ?_
            go_simp
            exact ParPost.same fun _ _ => rfl
          · intro vals W hx hd
            have hW := HF.out W hx
            simp [PDeps, pdeps, Region.binds] at hd
            first
              | refine ParOb.plain rfl ?_
              | refine ParOb.wanted (by simp [Region.wanted, yielded, hd]) ?_
            go_simp
            exact ParPost.same fun _ _ => rfl
          · intro vals W hx hd
            have hW := HF.out W hx
            simp [PDeps, pdeps, Region.binds] at hd
            first
              | refine ParOb.plain rfl ?_
              | refine ParOb.wanted (by simp [Region.wanted, yielded, hd]) ?_
            go_simp
            exact ParPost.same fun _ _ => rfl
          · intro vals W hx hd
            have hW := HF.out W hx
            simp [PDeps, pdeps, Region.binds] at hd
            first
              | refine ParOb.plain rfl ?_
              | refine ParOb.wanted (by simp [Region.wanted, yielded, hd]) ?_
            go_simp
            exact ParPost.same fun _ _ => rfl
          · intro vals W hx hd
            have hW := HF.out W hx
            simp [PDeps, pdeps, Region.binds] at hd
            exact ParOb.passed (by simp [Region.wanted, yielded, hd] <;> decide) fun _ _ => rfl
          · intro vals W hx hd
            have hW := HF.out W hx
            simp [PDeps, pdeps, Region.binds] at hd
            exact ParOb.passed (by simp [Region.wanted, yielded, hd] <;> decide) fun _ _ => rfl
          · intro vals W hx hd
            have hW := HF.out W hx
            simp [PDeps, pdeps, Region.binds] at hd
            exact ParOb.passed (by simp [Region.wanted, yielded, hd] <;> decide) fun _ _ => rfl
          · intro vals W hx hd
            have hW := HF.out W hx
            simp [PDeps, pdeps, Region.binds] at hd
            exact ParOb.passed (by simp [Region.wanted, yielded, hd] <;> decide) fun _ _ => rfl
          · intro vals W hx hd
            have hW := HF.out W hx
            simp [PDeps, pdeps, Region.binds] at hd
            exact ParOb.passed (by simp [Region.wanted, yielded, hd] <;> decide) fun _ _ => rfl
          · intro vals W hx hd
            have hW := HF.out W hx
            simp [PDeps, pdeps, Region.binds] at hd
            exact ParOb.passed (by simp [Region.wanted, yielded, hd] <;> decide) fun _ _ => rfl
          · intro vals W hx hd
            have hW := HF.out W hx
            simp [PDeps, pdeps, Region.binds] at hd
            exact ParOb.passed (by simp [Region.wanted, yielded, hd] <;> decide) fun _ _ => rfl
          · intro vals W hx hd
            have hW := HF.out W hx
            simp [PDeps, pdeps, Region.binds] at hd
            exact ParOb.passed (by simp [Region.wanted, yielded, hd] <;> decide) fun _ _ => rfl
          · intro vals W hx hd
            have hW := HF.out W hx
            simp [PDeps, pdeps, Region.binds] at hd
            exact ParOb.passed (by simp [Region.wanted, yielded, hd] <;> decide) fun _ _ => rfl
          · intro vals W hx hd
            have hW := HF.out W hx
            simp [PDeps, pdeps, Region.binds] at hd
            exact ParOb.passed (by simp [Region.wanted, yielded, hd] <;> decide) fun _ _ => rfl
          · intro vals W hx hd
            have hW := HF.out W hx
            simp [PDeps, pdeps, Region.binds] at hd
            exact ParOb.passed (by simp [Region.wanted, yielded, hd] <;> decide) fun _ _ => rfl
          · intro vals W hx hd
            have hW := HF.out W hx
            simp [PDeps, pdeps, Region.binds] at hd
            exact ParOb.passed (by simp [Region.wanted, yielded, hd] <;> decide) fun _ _ => rfl
          · intro vals W hx hd
            have hW := HF.out W hx
            simp [PDeps, pdeps, Region.binds] at hd
            exact ParOb.passed (by simp [Region.wanted, yielded, hd] <;> decide) fun _ _ => rfl
          · intro vals W hx hd
            have hW := HF.out W hx
            simp [PDeps, pdeps, Region.binds] at hd
            exact ParOb.passed (by simp [Region.wanted, yielded, hd] <;> decide) fun _ _ => rfl
          · intro vals W hx hd
            have hW := HF.out W hx
            simp [PDeps, pdeps, Region.binds] at hd
            exact ParOb.passed (by simp [Region.wanted, yielded, hd] <;> decide) fun _ _ => rfl
          · intro vals W hx hd
            have hW := HF.out W hx
            simp [PDeps, pdeps, Region.binds] at hd
            exact ParOb.passed (by simp [Region.wanted, yielded, hd] <;> decide) fun _ _ => rfl
          · intro vals W hx hd
            have hW := HF.out W hx
            simp [PDeps, pdeps, Region.binds] at hd
            exact ParOb.passed (by simp [Region.wanted, yielded, hd] <;> decide) fun _ _ => rfl
          · intro vals W hx hd
            have hW := HF.out W hx
            simp [PDeps, pdeps, Region.binds] at hd
            exact ParOb.passed (by simp [Region.wanted, yielded, hd] <;> decide) fun _ _ => rfl
          · intro vals W hx hd
            have hW := HF.out W hx
            simp [PDeps, pdeps, Region.binds] at hd
            exact ParOb.passed (by simp [Region.wanted, yielded, hd] <;> decide) fun _ _ => rfl
          · intro vals W hx hd
            have hW := HF.out W hx
            simp [PDeps, pdeps, Region.binds] at hd
            first
              | refine ParOb.plain rfl ?_
              | refine ParOb.wanted (by simp [Region.wanted, yielded, hd]) ?_
            go_simp
            exact ParPost.same fun _ _ => rfl
          · intro vals W hx hd
            have hW := HF.out W hx
            simp [PDeps, pdeps, Region.binds] at hd
            first
              | refine ParOb.plain rfl ?_
              | refine ParOb.wanted (by simp [Region.wanted, yielded, hd]) ?_
            go_simp
            exact ParPost.same fun _ _ => rfl
          · intro vals W hx hd
            have hW := HF.out W hx
            simp [PDeps, pdeps, Region.binds] at hd
            first
              | refine ParOb.plain rfl ?_
              | refine ParOb.wanted (by simp [Region.wanted, yielded, hd]) ?_
            go_simp
            refine (awake_any W).mono ?_
            rintro e w9 ⟨rfl, hb9⟩
            exact ⟨_, rfl, hb9, fun _ _ => rfl⟩
          · intro vals W hx hd
            have hW := HF.out W hx
            simp [PDeps, pdeps, Region.binds] at hd
            first
              | refine ParOb.plain rfl ?_
              | refine ParOb.wanted (by simp [Region.wanted, yielded, hd]) ?_
            go_simp
            exact ParPost.same fun _ _ => rfl
          · intro vals W hx hd
            have hW := HF.out W hx
            simp [PDeps, pdeps, Region.binds] at hd
            first
              | refine ParOb.plain rfl ?_
              | refine ParOb.wanted (by simp [Region.wanted, yielded, hd]) ?_
            go_simp
            exact ParPost.same fun _ _ => rfl
        intro vals W hx hf
        simp (maxSteps := 20000000) only [ParFacts, List.take_succ_cons, List.take_zero, and_true] at hf
        simp (maxSteps := 20000000) only [List.drop_succ_cons, List.drop_zero, List.take_succ_cons, List.take_zero, ParEnd, Act.put, List.setIfInBounds_toArray, List.set_cons_succ, List.set_cons_zero, hf]
        clear hf
        have hbE : Below w.heap.size w W := HX7.out.trans (hx.mono HX7.out.size)
        repeat (first | go_values | go_skip | go_guarded | go_step | go_upon)
        go_ret
        exact ⟨rfl, hbE⟩
      · have hc := HChk.out
        simp [h2] at hc
        obtain ⟨⟨xt, xn, xc, xty⟩, r2, cl2, hx2, h3⟩ := colV_some7 h2 hc.2.2
        obtain ⟨hmm, hat⟩ := hc.2.1
        have hi2 := hc.2.2
        have hi3 : (i2 : Int) < 7 := by omega
        subst hmm hat
        rw [h3]
        clear h2 h3 hc
        have HI := Lib.hid hx2
        clear hx2
        go_simp
        repeat (first | go_values | go_skip | go_guarded | go_step | go_upon)
        have hT : Blk (w6.alloc (.cells #[.int .i64 4, .int .i64 0, .string nm, .string tbs, .int .i64 (i2 : Int), .slice none 0 0, .int .i64 xty, .int .i64 r2, .string cl2] 36)) w6.heap.size #[.int .i64 4, .int .i64 0, .string nm, .string tbs, .int .i64 (i2 : Int), .slice none 0 0, .int .i64 xty, .int .i64 r2, .string cl2] 36 := Blk.new w6 _ _ rfl
        have hx6 : Ext w6 (w6.alloc (.cells #[.int .i64 4, .int .i64 0, .string nm, .string tbs, .int .i64 (i2 : Int), .slice none 0 0, .int .i64 xty, .int .i64 r2, .string cl2] 36)) := (Ext.refl _).alloc _
        generalize (w6.alloc (.cells #[.int .i64 4, .int .i64 0, .string nm, .string tbs, .int .i64 (i2 : Int), .slice none 0 0, .int .i64 xty, .int .i64 r2, .string cl2] 36)) = W6 at hT hx6 ⊢
        have HX7 : Hid (Below w.heap.size w W6) := Lib.hid (HX6.out.trans (hx6.mono HX6.out.size))
        have HF := Lib.hid (show ∀ W, Ext W6 W → W.cell? ⟨w6.heap.size, 4, none⟩ = some (.int .i64 (i2 : Int)) ∧ W.cell? ⟨w6.heap.size, 6, none⟩ = some (.int .i64 xty) ∧ W.cell? ⟨g, i2 * 4 + 3, none⟩ = some (.int .i64 xty) from
          fun W h => ⟨(hT.keep h).cell 4, (hT.keep h).cell 6, (((HF6.out.ext hx6).ext h).2 i2 _ HI.out 3 (by omega)).trans rfl⟩)
        clear hT hx6
        refine wp_par 31 (fun
            | 0 => fun v _ => v = .int .i64 0
            | 1 => fun v _ => v = .bool false
            | 2 => fun v _ => v = .bool false
            | 3 => fun v _ => v = undef
            | 4 => fun v _ => v = undef
            | 5 => fun v _ => v = .bool false
            | 6 => fun v _ => v = .bool false
            | 7 => fun v _ => v = .int .i64 0
            | 8 => fun v _ => v = .bool true
            | 9 => fun v _ => v = .bool true
            | 10 => fun v _ => v = .pointer (some ⟨w6.heap.size, 0, none⟩)
            | 11 => fun v _ => v = .pointer (some ⟨w6.heap.size, 4, none⟩)
            | 12 => fun v _ => v = .int .i64 (i2 : Int)
            | 13 => fun v _ => v = .int .i64 (i2 : Int)
            | 14 => fun v _ => v = .bool true
            | 15 => fun v _ => v = .bool true
            | 16 => fun v _ => v = .bool true
            | 17 => fun v _ => v = .pointer (some ⟨w6.heap.size, 6, none⟩)
            | 18 => fun v _ => v = .int .i64 xty
            | 19 => fun v _ => v = .slice (some ⟨g, 0, none⟩) 7 c
            | 20 => fun v _ => v = .int .i64 (i2 : Int)
            | 21 => fun v _ => v = .pointer (some ⟨g, i2 * 4, none⟩)
            | 22 => fun v _ => v = .pointer (some ⟨g, i2 * 4 + 3, none⟩)
            | 23 => fun v _ => v = .int .i64 xty
            | 24 => fun v _ => v = .bool true
            | 25 => fun v _ => v = .bool true
            | 26 => fun v _ => v = .bool true
            | 27 => fun v _ => v = .bool true
            | 28 => fun v _ => v = .bool true
            | 29 => fun v _ => v = .bool true
            | 30 => fun v _ => v = .bool true
            | _ => fun _ _ => True) (by kernel_rfl) (by kernel_rfl) (by kernel_rfl) ?_ ?_
        · simp (maxSteps := 20000000) only [List.take_succ_cons, List.take_zero, ParAll, Act.put, List.setIfInBounds_toArray, List.set_cons_succ, List.set_cons_zero]
          refine ⟨?_, ?_, ?_, ?_, ?_, ?_, ?_, ?_, ?_, ?_, ?_, ?_, ?_, ?_, ?_, ?_, ?_, ?_, ?_, ?_, ?_, ?_, ?_, ?_, ?_, ?_, ?_, ?_, ?_, ?_, ?_, trivial⟩
          · intro vals W hx hd
            have hW := HF.out W hx
            simp [PDeps, pdeps, Region.binds] at hd
            first
              | refine ParOb.plain rfl ?_
              | refine ParOb.wanted (by simp [Region.wanted, yielded, hd]) ?_
            go_simp
            exact ParPost.same fun _ _ => rfl
          · intro vals W hx hd
            have hW := HF.out W hx
            simp [PDeps, pdeps, Region.binds] at hd
            first
              | refine ParOb.plain rfl ?_
              | refine ParOb.wanted (by simp [Region.wanted, yielded, hd]) ?_
            go_simp
            exact ParPost.same fun _ _ => rfl
          · intro vals W hx hd
            have hW := HF.out W hx
            simp [PDeps, pdeps, Region.binds] at hd
            first
              | refine ParOb.plain rfl ?_
              | refine ParOb.wanted (by simp [Region.wanted, yielded, hd]) ?_
            go_simp
            exact ParPost.same fun _ _ => rfl
          · intro vals W hx hd
            have hW := HF.out W hx
            simp [PDeps, pdeps, Region.binds] at hd
            exact ParOb.passed (by simp [Region.wanted, yielded, hd] <;> decide) fun _ _ => rfl
          · intro vals W hx hd
            have hW := HF.out W hx
            simp [PDeps, pdeps, Region.binds] at hd
            exact ParOb.passed (by simp [Region.wanted, yielded, hd] <;> decide) fun _ _ => rfl
          · intro vals W hx hd
            have hW := HF.out W hx
            simp [PDeps, pdeps, Region.binds] at hd
            first
              | refine ParOb.plain rfl ?_
              | refine ParOb.wanted (by simp [Region.wanted, yielded, hd]) ?_
            go_simp
            exact ParPost.same fun _ _ => rfl
          · intro vals W hx hd
            have hW := HF.out W hx
            simp [PDeps, pdeps, Region.binds] at hd
            first
              | refine ParOb.plain rfl ?_
              | refine ParOb.wanted (by simp [Region.wanted, yielded, hd]) ?_
            go_simp
            exact ParPost.same fun _ _ => rfl
          · intro vals W hx hd
            have hW := HF.out W hx
            simp [PDeps, pdeps, Region.binds] at hd
            first
              | refine ParOb.plain rfl ?_
              | refine ParOb.wanted (by simp [Region.wanted, yielded, hd]) ?_
            go_simp
            exact ParPost.same fun _ _ => rfl
          · intro vals W hx hd
            have hW := HF.out W hx
            simp [PDeps, pdeps, Region.binds] at hd
            first
              | refine ParOb.plain rfl ?_
              | refine ParOb.wanted (by simp [Region.wanted, yielded, hd]) ?_
            go_simp
            exact ParPost.same fun _ _ => rfl
          · intro vals W hx hd
            have hW := HF.out W hx
            simp [PDeps, pdeps, Region.binds] at hd
            first
              | refine ParOb.plain rfl ?_
              | refine ParOb.wanted (by simp [Region.wanted, yielded, hd]) ?_
            go_simp
            exact ParPost.same fun _ _ => rfl
          · intro vals W hx hd
            have hW := HF.out W hx
            simp [PDeps, pdeps, Region.binds] at hd
            first
              | refine ParOb.plain rfl ?_
              | refine ParOb.wanted (by simp [Region.wanted, yielded, hd]) ?_
            go_simp
            exact ParPost.same fun _ _ => rfl
          · intro vals W hx hd
            have hW := HF.out W hx
            simp [PDeps, pdeps, Region.binds] at hd
            first
              | refine ParOb.plain rfl ?_
              | refine ParOb.wanted (by simp [Region.wanted, yielded, hd]) ?_
            go_simp
            exact ParPost.same fun _ _ => rfl
          · intro vals W hx hd
            have hW := HF.out W hx
            simp [PDeps, pdeps, Region.binds] at hd
            first
              | refine ParOb.plain rfl ?_
              | refine ParOb.wanted (by simp [Region.wanted, yielded, hd]) ?_
            go_simp
            exact ParPost.same fun _ _ => rfl
          · intro vals W hx hd
            have hW := HF.out W hx
            simp [PDeps, pdeps, Region.binds] at hd
            first
              | refine ParOb.plain rfl ?_
              | refine ParOb.wanted (by simp [Region.wanted, yielded, hd]) ?_
            go_simp
            exact ParPost.same fun _ _ => rfl
          · intro vals W hx hd
            have hW := HF.out W hx
            simp [PDeps, pdeps, Region.binds] at hd
            first
              | refine ParOb.plain rfl ?_
              | refine ParOb.wanted (by simp [Region.wanted, yielded, hd]) ?_
            go_simp
            exact ParPost.same fun _ _ => rfl
          · intro vals W hx hd
            have hW := HF.out W hx
            simp [PDeps, pdeps, Region.binds] at hd
            first
              | refine ParOb.plain rfl ?_
              | refine ParOb.wanted (by simp [Region.wanted, yielded, hd]) ?_
            go_simp
            exact ParPost.same fun _ _ => rfl
          · intro vals W hx hd
            have hW := HF.out W hx
            simp [PDeps, pdeps, Region.binds] at hd
            first
              | refine ParOb.plain rfl ?_
              | refine ParOb.wanted (by simp [Region.wanted, yielded, hd]) ?_
            go_simp
            exact ParPost.same fun _ _ => rfl
          · intro vals W hx hd
            have hW := HF.out W hx
            simp [PDeps, pdeps, Region.binds] at hd
            first
              | refine ParOb.plain rfl ?_
              | refine ParOb.wanted (by simp [Region.wanted, yielded, hd]) ?_
            go_simp
            exact ParPost.same fun _ _ => rfl
          · intro vals W hx hd
            have hW := HF.out W hx
            simp [PDeps, pdeps, Region.binds] at hd
            first
              | refine ParOb.plain rfl ?_
              | refine ParOb.wanted (by simp [Region.wanted, yielded, hd]) ?_
            go_simp
            exact ParPost.same fun _ _ => rfl
          · intro vals W hx hd
            have hW := HF.out W hx
            simp [PDeps, pdeps, Region.binds] at hd
            first
              | refine ParOb.plain rfl ?_
              | refine ParOb.wanted (by simp [Region.wanted, yielded, hd]) ?_
            go_simp
            exact ParPost.same fun _ _ => rfl
          · intro vals W hx hd
            have hW := HF.out W hx
            simp [PDeps, pdeps, Region.binds] at hd
            first
              | refine ParOb.plain rfl ?_
              | refine ParOb.wanted (by simp [Region.wanted, yielded, hd]) ?_
            go_simp
            exact ParPost.same fun _ _ => rfl
          · intro vals W hx hd
            have hW := HF.out W hx
            simp [PDeps, pdeps, Region.binds] at hd
            first
              | refine ParOb.plain rfl ?_
              | refine ParOb.wanted (by simp [Region.wanted, yielded, hd]) ?_
            go_simp
            exact ParPost.same fun _ _ => rfl
          · intro vals W hx hd
            have hW := HF.out W hx
            simp [PDeps, pdeps, Region.binds] at hd
            first
              | refine ParOb.plain rfl ?_
              | refine ParOb.wanted (by simp [Region.wanted, yielded, hd]) ?_
            go_simp
            exact ParPost.same fun _ _ => rfl
          · intro vals W hx hd
            have hW := HF.out W hx
            simp [PDeps, pdeps, Region.binds] at hd
            first
              | refine ParOb.plain rfl ?_
              | refine ParOb.wanted (by simp [Region.wanted, yielded, hd]) ?_
            go_simp
            exact ParPost.same fun _ _ => rfl
          · intro vals W hx hd
            have hW := HF.out W hx
            simp [PDeps, pdeps, Region.binds] at hd
            first
              | refine ParOb.plain rfl ?_
              | refine ParOb.wanted (by simp [Region.wanted, yielded, hd]) ?_
            go_simp
            exact ParPost.same fun _ _ => rfl
          · intro vals W hx hd
            have hW := HF.out W hx
            simp [PDeps, pdeps, Region.binds] at hd
            first
              | refine ParOb.plain rfl ?_
              | refine ParOb.wanted (by simp [Region.wanted, yielded, hd]) ?_
            go_simp
            exact ParPost.same fun _ _ => rfl
          · intro vals W hx hd
            have hW := HF.out W hx
            simp [PDeps, pdeps, Region.binds] at hd
            first
              | refine ParOb.plain rfl ?_
              | refine ParOb.wanted (by simp [Region.wanted, yielded, hd]) ?_
            go_simp
            exact ParPost.same fun _ _ => rfl
          · intro vals W hx hd
            have hW := HF.out W hx
            simp [PDeps, pdeps, Region.binds] at hd
            first
              | refine ParOb.plain rfl ?_
              | refine ParOb.wanted (by simp [Region.wanted, yielded, hd]) ?_
            go_simp
            exact ParPost.same fun _ _ => rfl
          · intro vals W hx hd
            have hW := HF.out W hx
            simp [PDeps, pdeps, Region.binds] at hd
            first
              | refine ParOb.plain rfl ?_
              | refine ParOb.wanted (by simp [Region.wanted, yielded, hd]) ?_
            go_simp
            refine (awake_any W).mono ?_
            rintro e w9 ⟨rfl, hb9⟩
            exact ⟨_, rfl, hb9, fun _ _ => rfl⟩
          · intro vals W hx hd
            have hW := HF.out W hx
            simp [PDeps, pdeps, Region.binds] at hd
            first
              | refine ParOb.plain rfl ?_
              | refine ParOb.wanted (by simp [Region.wanted, yielded, hd]) ?_
            go_simp
            exact ParPost.same fun _ _ => rfl
          · intro vals W hx hd
            have hW := HF.out W hx
            simp [PDeps, pdeps, Region.binds] at hd
            first
              | refine ParOb.plain rfl ?_
              | refine ParOb.wanted (by simp [Region.wanted, yielded, hd]) ?_
            go_simp
            exact ParPost.same fun _ _ => rfl
        intro vals W hx hf
        simp (maxSteps := 20000000) only [ParFacts, List.take_succ_cons, List.take_zero, and_true] at hf
        simp (maxSteps := 20000000) only [List.drop_succ_cons, List.drop_zero, List.take_succ_cons, List.take_zero, ParEnd, Act.put, List.setIfInBounds_toArray, List.set_cons_succ, List.set_cons_zero, hf]
        clear hf
        have hbE : Below w.heap.size w W := HX7.out.trans (hx.mono HX7.out.size)
        repeat (first | go_values | go_skip | go_guarded | go_step | go_upon)
        go_ret
        exact ⟨rfl, hbE⟩
end Go.Proofs.YtaoikbpolckobaaGreatDoor
