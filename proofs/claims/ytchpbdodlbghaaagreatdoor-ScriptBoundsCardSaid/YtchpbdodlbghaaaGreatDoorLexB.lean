import Derived.Shelf.Strings.Builder1
import Derived.Lib.PathFns
import Derived.Lib.SmallJoins
import Derived.Test.YtchpbdodlbghaaaGreatDoorLexA
import Derived.Test.YtchpbdodlbghaaaGreatDoorShelf
namespace Go.Proofs.YtchpbdodlbghaaaGreatDoor
open Go.RowKit Go.Shelf
set_option maxRecDepth 100000

theorem builder_WriteByte (B b : Nat) (bs : List Value) (c : Int) (w : World) (h : Lib.IsBuilder 36 5 B b bs w) (hlen : bs.length + 1 ≤ 140737488355328) (hBw : B ≤ w.heap.size) :
    Calls Tryz.prog 273 #[.pointer (some ⟨b, 0, none⟩), .int .u8 c] w fun e w' => e = .returned .nilIface ∧ (Lib.BuilderAt 36 5 B b (.pointer (some ⟨b, 0, none⟩)) (bs ++ [.int .u8 c]) w' ∧ Below B w w') :=
  Any.Builder_WriteByte (P := Tryz.prog) (ρ := Tryz.lays158_ren) { Tryz.lays158 with } Tryz.Builder_Extra_158 B b bs c w h hlen hBw

theorem bsl_from (s : ByteArray) (k : Nat) : bsl (s.extract k s.size) = (bsl s).drop k := Lib.extract_to_end s k
theorem bsl_upto (s : ByteArray) (k : Nat) : bsl (s.extract 0 k) = (bsl s).take k := by rw [Lib.extract_upto]; simp [bsl]
theorem bsl_mk (l : List UInt8) : bsl ⟨l.toArray⟩ = l := by simp [bsl]
theorem bsl_drop_cons (s : ByteArray) (k : Nat) (h : k < s.size) : (bsl s).drop k = s[k]'h :: (bsl s).drop (k + 1) := by
  have h' : k < (bsl s).length := by rw [bsl_length]; exact h
  rw [List.drop_eq_getElem_cons h']
  congr 1
theorem isBlank_eq (c : UInt8) : Lx.isBlank c = decide ((0 : Int) ≤ Lib.indexByte [32, 9, 10, 13] c) := by
  revert c
  apply u8_all
  decide +kernel
theorem u8_back (c : UInt8) : (Int.toNat (c.toNat : Int)).toUInt8 = c := by simp
theorem remark_eq (l : List UInt8) (c : UInt8) : Lib.hasPrefix (c :: l) [45, 45] = (c == 45 && l.head? == some 45) := by
  cases l with
  | nil => simp [Lib.hasPrefix, List.isPrefixOf]
  | cons d r => 
    rw [Bool.eq_iff_iff]
    simp [Lib.hasPrefix]
    exact ⟨fun h => ⟨h.1.symm, h.2.symm⟩, fun h => ⟨h.1.symm, h.2.symm⟩⟩

set_option maxHeartbeats 1000000 in
theorem skip_any (s : ByteArray) (w : World) (hs : s.size ≤ maxLen) :
    Calls Tryz.prog 120 #[.string s] w fun e w' => e = .returned (.int .i64 (Lx.skip false (bsl s))) ∧ w = w' := by
  unfold maxLen at hs
  have hle := Lx.skip_le false (bsl s)
  rw [bsl_length] at hle
  have HLE := Lib.hid hle
  clear hle
  go_enter Tryz.func120, Tryz.ntmps120
  go_wp2_with fail
  go_loop [3] (fun i => ∃ k : Nat, k ≤ s.size ∧ Lx.skip false (bsl s) = k + Lx.skip false ((bsl s).drop k) ∧ i = .int .i64 k) (fun i => s.size - (intOf i).toNat)
  case atStart => exact ⟨0, Nat.zero_le _, by simp, rfl⟩
  case round =>
    obtain ⟨k, hk, hsk, rfl⟩ := hrel
    have HS := Lib.hid hsk
    clear hsk
    by_cases hlt : k < s.size
    · have HD := Lib.hid (bsl_drop_cons s k hlt)
      go_wp2_with fail
      refine (Tryz.strings_IndexByte _ _ w).mono ?_
      rintro e w' ⟨rfl, rfl⟩
      rw [u8_back]
      by_cases hb : (0 : Int) ≤ Lib.indexByte [32, 9, 10, 13] (s[k]'hlt)
      · go_wp2
        go_round
        case rel =>
          refine ⟨k + 1, hlt, ?_, by go_num⟩
          rw [HS.out, HD.out, Lx.skip_blank (by rw [isBlank_eq]; simpa using hb)]
          omega
        case measure => simp [intOf]; omega
      · have hb' : Lib.indexByte [32, 9, 10, 13] (s[k]'hlt) < 0 := by omega
        have HB := Lib.hid hb'
        go_wp2_with fail
        refine (Tryz.strings_HasPrefix _ _ w').mono ?_
        rintro e w ⟨rfl, rfl⟩
        have e1 : (s.extract k s.size).data.toList = s[k]'hlt :: (bsl s).drop (k + 1) := by rw [← HD.out]; exact bsl_from s k
        have hr := remark_eq ((bsl s).drop (k + 1)) (s[k]'hlt)
        have HR := Lib.hid hr
        clear hr
        rw [e1, HR.out]
        cases hp : (s[k]'hlt == 45 && ((bsl s).drop (k + 1)).head? == some 45)
        · have HP := Lib.hid hp
          clear hp
          go_wp2
          go_ret
          refine ⟨?_, rfl⟩
          rw [HS.out, HD.out, Lx.skip_stop]
          · simp
          · rw [isBlank_eq]; simpa using HB.out
          · have := HP.out; intro h; simp [h.1, h.2] at this
        · have HP := Lib.hid hp
          clear hp
          have hsz : (s.extract k s.size).size ≤ maxLen := by unfold maxLen; simp; omega
          have hsp := Lx.span_le (fun c => c != 10) (bsl (s.extract k s.size))
          rw [bsl_length] at hsp
          simp at hsp
          have hpos : 0 < Lx.span (fun c => c != 10) (bsl (s.extract k s.size)) := by
            rw [bsl_from, HD.out]
            apply Lx.span_pos
            have := HP.out
            simp at this
            simp [this.1]
          have HZ := Lib.hid hsz
          clear hsz
          go_wp2_with fail
          refine (span_line _ w HZ.out).mono ?_
          rintro e w' ⟨rfl, rfl⟩
          generalize hN : Lx.span (fun c => c != 10) (bsl (s.extract k s.size)) = N at hsp hpos ⊢
          have HN := Lib.hid hN
          clear hN
          go_wp2
          go_round
          case rel =>
            refine ⟨k + N, by omega, ?_, by go_num⟩
            have := HP.out
            simp at this
            obtain ⟨t1, t2⟩ := this
            rw [← List.head?_drop] at t2
            have h2 : ∃ r, (bsl s).drop k = 45 :: 45 :: r := by
              rw [HD.out, t1]
              cases hq : (bsl s).drop (k + 1) with
              | nil => rw [hq] at t2; simp at t2
              | cons c r => rw [hq] at t2; simp at t2; exact ⟨r, by rw [t2]⟩
            obtain ⟨r, h2⟩ := h2
            have hN := HN.out
            rw [bsl_from, h2] at hN
            rw [HS.out, h2, Lx.skip_remark, hN, ← h2, List.drop_drop]
            omega
          case measure => simp [intOf]; omega
    · go_wp2
      go_ret
      refine ⟨?_, rfl⟩
      rw [HS.out, List.drop_eq_nil_of_le (by rw [bsl_length]; omega)]
      simp [Lx.skip]

structure GlobL (w : World) : Prop where
  maxLen : ∃ m, w.cell? ⟨3, 0, none⟩ = some (.int .i64 m)
  range : ∃ tp p, w.var? Tryz.prog "strconv.ErrRange" = some #[.iface tp p]
  size : 3 < w.heap.size
theorem globalRange : Tryz.prog.globalNamed "strconv.ErrRange" = some 8 := by kernel_rfl
theorem GlobL.keep {w w' : World} (h : GlobL w) (hb : Below w.heap.size w w') : GlobL w' := by
  obtain ⟨m, hm⟩ := h.maxLen
  obtain ⟨tp, p, hr⟩ := h.range
  exact ⟨⟨m, by rw [hb.cell (p := ⟨3, 0, none⟩) h.size]; exact hm⟩, ⟨tp, p, Joins.var_stays globalRange hr hb (Nat.le_refl _)⟩, Nat.lt_of_lt_of_le h.size hb.size⟩
def tokV (k : Nat) (t : List UInt8) (n : Int) (at_ : Nat) : Value := .agg #[.int .i64 k, .string ⟨t.toArray⟩, .int .i64 n, .int .i64 at_]
def tokE : Option (Nat × List UInt8 × Int × Nat) → Ending
  | none => .returned (.tuple #[tokV 0 [] 0 0, .int .i64 0])
  | some x => .returned (.tuple #[tokV x.1 x.2.1 x.2.2.1 0, .int .i64 x.2.2.2])

theorem contains_cons (b : UInt8) (l sub : List UInt8) : Lib.contains (b :: l) sub = (sub.isPrefixOf (b :: l) || Lib.contains l sub) := by
  unfold Lib.contains
  rw [Lib.index]
  cases h : sub.isPrefixOf (b :: l)
  · have := Lib.index_spec l sub
    simp
    by_cases e : Lib.index l sub = -1
    · simp [e]
    · simp [e]
      have : 0 ≤ Lib.index l sub := by rcases this with h | ⟨i, h, _⟩ <;> omega
      omega
  · simp
theorem contains_skip (X : List UInt8) : ∀ (w t : List UInt8), (∀ c ∈ w, c ≠ 32) → Lib.contains (w ++ t) (32 :: X) = Lib.contains t (32 :: X)
  | [], _, _ => rfl
  | c :: w, t, h => by
    rw [List.cons_append, contains_cons, contains_skip X w t (fun x hx => h x (List.mem_cons_of_mem _ hx))]
    have : c ≠ 32 := h c (by simp)
    simp [List.isPrefixOf, Ne.symm this]
theorem prefix_word (t : List UInt8) : ∀ (X w : List UInt8), (∀ c ∈ X, c ≠ 32) → (∀ c ∈ w, c ≠ 32) → (X ++ [32]).isPrefixOf (w ++ 32 :: t) = (w == X)
  | [], [], _, _ => by simp [List.isPrefixOf]
  | [], c :: w, _, hw => by
    have : c ≠ 32 := hw c (by simp)
    simp [List.isPrefixOf, Ne.symm this]
  | c :: X, [], hX, _ => by
    have : c ≠ 32 := hX c (by simp)
    simp [List.isPrefixOf, this]
  | c :: X, d :: w, hX, hw => by
    have := prefix_word t X w (fun x hx => hX x (List.mem_cons_of_mem _ hx)) (fun x hx => hw x (List.mem_cons_of_mem _ hx))
    simp only [List.cons_append, List.isPrefixOf, this]
    rw [Bool.eq_iff_iff]
    simp
    intro _
    exact eq_comm
def joinW : List (List UInt8) → List UInt8
  | [] => [32]
  | w :: r => 32 :: (w ++ joinW r)
theorem joinW_head : ∀ l, ∃ t, joinW l = 32 :: t
  | [] => ⟨_, rfl⟩
  | _ :: _ => ⟨_, rfl⟩
theorem contains_words (X : List UInt8) (hX : ∀ c ∈ X, c ≠ 32) : ∀ l : List (List UInt8), (∀ w ∈ l, ∀ c ∈ w, c ≠ 32) → Lib.contains (joinW l) (32 :: (X ++ [32])) = l.contains X
  | [], _ => by
    have : Lib.contains [] (32 :: (X ++ [32])) = false := by simp [Lib.contains, Lib.index]
    rw [joinW, contains_cons, this]
    cases X <;> simp [List.isPrefixOf]
  | w :: r, h => by
    have hw := h w (by simp)
    obtain ⟨t, ht⟩ := joinW_head r
    rw [joinW, contains_cons, contains_skip _ _ _ hw, contains_words X hX r (fun x hx => h x (List.mem_cons_of_mem _ hx))]
    rw [List.isPrefixOf, ht, prefix_word t X w hX hw]
    rw [Bool.eq_iff_iff]
    simp
    rw [eq_comm]
theorem words_plain : ∀ w ∈ Lx.words, ∀ c ∈ w, c ≠ 32 := by decide +kernel

theorem blk4 {w : World} {g : Nat} {a b c d : Value} {t : TypeId} (h : Blk w g #[a, b, c, d] t) (a' b' c' d' : Value) : Blk ((((w.setCell ⟨g, 0, none⟩ a').setCell ⟨g, 1, none⟩ b').setCell ⟨g, 2, none⟩ c').setCell ⟨g, 3, none⟩ d') g #[a', b', c', d'] t :=
  (((h.set 0 a').set 1 b').set 2 c').set 3 d'
theorem below4 {w w0 : World} {g B : Nat} (h : Below B w0 w) (hg : B ≤ g) (a' b' c' d' : Value) : Below B w0 ((((w.setCell ⟨g, 0, none⟩ a').setCell ⟨g, 1, none⟩ b').setCell ⟨g, 2, none⟩ c').setCell ⟨g, 3, none⟩ d') :=
  (((h.setCell (p := ⟨g, 0, none⟩) hg a').setCell (p := ⟨g, 1, none⟩) hg b').setCell (p := ⟨g, 2, none⟩) hg c').setCell (p := ⟨g, 3, none⟩) hg d'
def nameE (l : List UInt8) : Option (Nat × List UInt8 × Int × Nat) :=
  if Lx.span Lx.isNameB l ≤ 16 then
    (if Lx.isWord ((l.take (Lx.span Lx.isNameB l)).map Lib.upperB) then some (2, (l.take (Lx.span Lx.isNameB l)).map Lib.upperB, 0, Lx.span Lx.isNameB l)
     else some (1, (l.take (Lx.span Lx.isNameB l)).map Lib.lowerB, 0, Lx.span Lx.isNameB l))
  else none
theorem name_ascii (c : UInt8) : Lx.isNameB c = true → c.toNat < 128 := by
  revert c
  apply u8_all
  decide +kernel
theorem name_upper (c : UInt8) : Lx.isNameB c = true → Lib.upperB c ≠ 32 := by
  revert c
  apply u8_all
  decide +kernel
set_option maxHeartbeats 1000000 in
theorem name_any (s : ByteArray) (w : World) (hs : s.size ≤ 140737488355328) (hG : GlobL w) :
    Calls Tryz.prog 191 #[.string s] w fun e w' => e = tokE (nameE (bsl s)) ∧ Below w.heap.size w w' := by
  have hle := Lx.span_le Lx.isNameB (bsl s)
  rw [bsl_length] at hle
  have HA := Lib.hid (Lx.span_all Lx.isNameB (bsl s))
  go_enter Tryz.func191, Tryz.ntmps191
  go_wp2_with fail
  refine (span_name _ _ (by unfold maxLen; omega)).mono ?_
  rintro e w1 ⟨rfl, rfl⟩
  generalize hN : Lx.span Lx.isNameB (bsl s) = N at hle HA ⊢
  have HN := Lib.hid hN
  clear hN
  go_wp2_with fail
  · refine bodyPost_ret (v := .tuple #[tokV 0 [] 0 0, .int .i64 0]) (by simp [results, Tryz.results191, go_sem]; rfl) rfl ⟨?_, by go_grown⟩
    rw [nameE, HN.out, if_neg (by omega)]
    rfl
  · rename_i h16
    have hsz : (s.extract 0 N).size ≤ 140737488355328 := by simp; omega
    have el : (s.extract 0 N).data.toList = (bsl s).take N := bsl_upto s N
    have hasc : ∀ (j : Nat) (b : UInt8), (s.extract 0 N).data.toList[j]? = some b → b.toNat < 128 := by
      intro j b hj
      rw [el] at hj
      exact name_ascii b (HA.out b (List.mem_of_getElem? hj))
    have HSZ := Lib.hid hsz
    have HAS := Lib.hid hasc
    have EL := Lib.hid el
    clear hsz hasc el
    refine (Tryz.strings_ToUpper_ascii _ _ HSZ.out HAS.out).mono ?_
    rintro e w2 ⟨rfl, hb2⟩
    rw [EL.out, Lib.toUpperA]
    have hUl : (((bsl s).take N).map Lib.upperB).length ≤ 16 := by simp; omega
    have hU32 : ∀ c ∈ ((bsl s).take N).map Lib.upperB, c ≠ 32 := by
      intro c hc
      obtain ⟨d, hd, rfl⟩ := List.mem_map.1 hc
      exact name_upper d (HA.out d hd)
    generalize hU : ((bsl s).take N).map Lib.upperB = U at hUl hU32 ⊢
    have HU := Lib.hid hU
    have HU32 := Lib.hid hU32
    clear hU hU32
    have hb1 : Below w.heap.size w w2 := by
      refine Below.trans ?_ (hb2.mono (by simp))
      go_grown
    have HB1 := Lib.hid hb1
    clear hb1
    have hblk : Blk w2 w.heap.size #[.int .i64 0, .string ⟨#[]⟩, .int .i64 0, .int .i64 0] 259 := (Blk.new w _ 259 rfl).keep hb2
    clear hb2
    have HM := (hG.keep HB1.out).maxLen
    obtain ⟨m, hm⟩ := HM
    have e2 : (ByteArray.mk #[32] ++ ByteArray.mk U.toArray ++ ByteArray.mk #[32]) = ⟨(32 :: (U ++ [32])).toArray⟩ := by
      apply ByteArray.ext
      simp
    go_wp2_with fail
    refine (Tryz.strings_Contains _ _ m w2 (by decide) hm).mono ?_
    rintro e w3 ⟨rfl, rfl⟩
    have e3 : ∀ x, x = joinW Lx.words → Lib.contains x (32 :: (U ++ [32])) = Lx.isWord U := by
      rintro x rfl
      exact contains_words U HU32.out Lx.words words_plain
    rw [show (ByteArray.mk (32 :: (U ++ [32])).toArray).data.toList = 32 :: (U ++ [32]) from rfl, e3 _ (by decide +kernel)]
    clear e3 e2 hm
    cases hw : Lx.isWord U
    · have HW := Lib.hid hw
      clear hw
      go_wp2_with fail
      refine (Tryz.strings_ToLower_ascii _ _ HSZ.out HAS.out).mono ?_
      rintro e w2 ⟨rfl, hb2⟩
      rw [EL.out, Lib.toLowerA]
      generalize hL : ((bsl s).take N).map Lib.lowerB = L
      have HL := Lib.hid hL
      clear hL
      have HB2 := Lib.hid (HB1.out.trans (hb2.mono HB1.out.size))
      have hblk2 := hblk.keep hb2
      clear hb2 hblk
      obtain ⟨hc, hf⟩ := hblk2.facts
      go_wp2_with fail
      refine bodyPost_ret (v := .tuple #[tokV 1 L 0 0, .int .i64 N]) (by simp [results, Tryz.results191, go_sem, (blk4 hblk2 _ _ _ _).cell]; rfl) rfl ⟨?_, below4 HB2.out (Nat.le_refl _) _ _ _ _⟩
      rw [nameE, HN.out, if_pos (by omega), HU.out, HW.out, HL.out]
      rfl
    · have HW := Lib.hid hw
      clear hw
      obtain ⟨hc, hf⟩ := hblk.facts
      go_wp2_with fail
      refine bodyPost_ret (v := .tuple #[tokV 2 U 0 0, .int .i64 N]) (by simp [results, Tryz.results191, go_sem, (blk4 hblk _ _ _ _).cell]; rfl) rfl ⟨?_, below4 HB1.out (Nat.le_refl _) _ _ _ _⟩
      rw [nameE, HN.out, if_pos (by omega), HU.out, HW.out]
      rfl

theorem digits_u (l : List UInt8) : ∀ (acc : Nat), (∀ c ∈ l, Lx.isDigit c = true) → acc ≤ 18446744073709551615 →
    Lib.parseUintM 18446744073709551615 acc l = (if l.foldl (fun a c => a * 10 + (c.toNat - 48)) acc ≤ 18446744073709551615 then .ok (l.foldl (fun a c => a * 10 + (c.toNat - 48)) acc) else .range) := by
  have grow : ∀ (l : List UInt8) (a : Nat), a ≤ l.foldl (fun a c => a * 10 + (c.toNat - 48)) a := by
    intro l
    induction l with
    | nil => intro a; exact Nat.le_refl _
    | cons c r ih => intro a; exact Nat.le_trans (by omega) (ih (a * 10 + (c.toNat - 48)))
  induction l with
  | nil => intro acc _ h; simp [Lib.parseUintM, h]
  | cons c r ih =>
    intro acc hd hacc
    have hc : 48 ≤ c.toNat ∧ c.toNat ≤ 57 := by
      have := hd c (by simp)
      simpa [Lx.isDigit, UInt8.le_iff_toNat_le] using this
    rw [Lib.parseUintM, if_pos hc, List.foldl_cons]
    have hg := grow r (acc * 10 + (c.toNat - 48))
    split
    · rw [if_neg (by omega)]
    · split
      · rw [if_neg (by omega)]
      · exact ih _ (fun x hx => hd x (List.mem_cons_of_mem _ hx)) (by omega)
theorem digits_int (l : List UInt8) (hne : l ≠ []) (hd : ∀ c ∈ l, Lx.isDigit c = true) :
    Lib.parseIntB 64 l = (if Lx.num l ≤ 9223372036854775807 then .ok (Lx.num l : Int) else .range) := by
  match l, hne, hd with
  | c :: r, _, hd =>
    have hc : 48 ≤ c.toNat ∧ c.toNat ≤ 57 := by
      have := hd c (by simp)
      simpa [Lx.isDigit, UInt8.le_iff_toNat_le] using this
    have hu : Lib.parseUintB 64 (c :: r) = (if Lx.num (c :: r) ≤ 18446744073709551615 then .ok (Lx.num (c :: r)) else .range) := by
      rw [Lib.parseUintB, if_neg (by simp)]
      exact digits_u (c :: r) 0 hd (by omega)
    have h45 : ¬ c.toNat = 45 := by omega
    have h43 : ¬ (c.toNat = 43 ∨ c.toNat = 45) := by omega
    simp only [Lib.parseIntB, if_neg h43]
    generalize Lx.num (c :: r) = n at hu ⊢
    by_cases h : n ≤ 18446744073709551615
    · rw [if_pos h] at hu
      rw [hu]
      by_cases h2 : n ≤ 9223372036854775807
      · rw [if_pos h2]
        simp only [h45, not_false_iff, true_and, false_and, if_false]
        rw [if_neg (by omega)]
      · rw [if_neg h2]
        simp only [h45, not_false_iff, true_and]
        rw [if_pos (by omega)]
    · rw [if_neg h] at hu
      rw [hu, if_neg (by omega)]
def numberE (l : List UInt8) : Option (Nat × List UInt8 × Int × Nat) :=
  if Lx.num (l.take (Lx.span Lx.isDigit l)) ≤ 9223372036854775807 ∧ (l.drop (Lx.span Lx.isDigit l)).head?.all (fun d => !Lx.isLetter d) then
    some (3, [], (Lx.num (l.take (Lx.span Lx.isDigit l)) : Int), Lx.span Lx.isDigit l) else none
theorem below_number {w w' : World} (h : w' = w ∨ ∃ t, w' = Lib.bytesWorld w 5 t) : Below w.heap.size w w' := by
  rcases h with rfl | ⟨t, rfl⟩
  · exact Below.refl _ _
  · exact Lib.bytesWorld_below w 5 t
theorem parseInt_any (s : ByteArray) (w : World) (hs : s.size ≤ 140737488355328) (hG : GlobL w) (hne : bsl s ≠ []) (hd : ∀ c ∈ bsl s, Lx.isDigit c = true) :
    Calls Tryz.prog 272 #[.string s, .int .i64 10, .int .i64 64] w fun e w' => (∃ v x, e = .returned (.tuple #[.int .i64 v, x]) ∧
      ((Lx.num (bsl s) ≤ 9223372036854775807 ∧ v = Lx.num (bsl s) ∧ x = .nilIface) ∨ (¬ Lx.num (bsl s) ≤ 9223372036854775807 ∧ ∃ t p, x = .iface t (.pointer (some p))))) ∧ Below w.heap.size w w' := by
  have h := digits_int (bsl s) hne hd
  by_cases hn : Lx.num (bsl s) ≤ 9223372036854775807
  · rw [if_pos hn] at h
    refine (Tryz.strconv_ParseInt_10_at64_ok s (by omega) _ h w).mono ?_
    rintro e w' ⟨rfl, hb⟩
    exact ⟨⟨_, _, rfl, Or.inl ⟨hn, rfl, rfl⟩⟩, below_number hb⟩
  · rw [if_neg hn] at h
    obtain ⟨tp, p, hr⟩ := hG.range
    refine (Any.strconv_ParseInt_10_at64_range_var Tryz.laysC174 s (by omega) h tp p w hr).mono ?_
    rintro e w' ⟨N, rfl, _, _, hb⟩
    exact ⟨⟨_, _, rfl, Or.inr ⟨hn, _, _, rfl⟩⟩, hb⟩
set_option maxHeartbeats 1000000 in
theorem number_any (s : ByteArray) (w : World) (hs : s.size ≤ 140737488355328) (hG : GlobL w) (hl : ∃ c r, bsl s = c :: r ∧ Lx.isDigit c = true) :
    Calls Tryz.prog 193 #[.string s] w fun e w' => e = tokE (numberE (bsl s)) ∧ Below w.heap.size w w' := by
  have hle := Lx.span_le Lx.isDigit (bsl s)
  rw [bsl_length] at hle
  have HA := Lib.hid (Lx.span_all Lx.isDigit (bsl s))
  have hpos : 0 < Lx.span Lx.isDigit (bsl s) := by
    obtain ⟨c, r, e, hc⟩ := hl
    rw [e]; exact Lx.span_pos hc
  go_enter Tryz.func193, Tryz.ntmps193
  go_wp2_with fail
  refine (span_digit _ _ (by unfold maxLen; omega)).mono ?_
  rintro e w1 ⟨rfl, rfl⟩
  generalize hN : Lx.span Lx.isDigit (bsl s) = N at hle HA hpos ⊢
  have HN := Lib.hid hN
  clear hN
  have hsz : (s.extract 0 N).size ≤ 140737488355328 := by simp; omega
  have el : bsl (s.extract 0 N) = (bsl s).take N := bsl_upto s N
  have hne : bsl (s.extract 0 N) ≠ [] := by
    rw [el]; intro h
    have := congrArg List.length h
    rw [List.length_take, bsl_length, List.length_nil] at this
    omega
  have HSZ := Lib.hid hsz
  have EL := Lib.hid el
  have HNE := Lib.hid hne
  clear hsz el hne
  go_wp2_with fail
  refine (parseInt_any _ _ HSZ.out (hG.keep (by go_grown)) HNE.out (by rw [EL.out]; exact HA.out)).mono ?_
  rintro e w2 ⟨⟨v, x, rfl, hvx⟩, hb2⟩
  rw [EL.out] at hvx
  have hb1 : Below w.heap.size w w2 := by
    refine Below.trans ?_ (hb2.mono (by simp))
    go_grown
  have HB2 := Lib.hid hb1
  clear hb1
  have hblk : Blk w2 w.heap.size #[.int .i64 0, .string ⟨#[]⟩, .int .i64 0, .int .i64 0] 259 := (Blk.new w _ 259 rfl).keep hb2
  clear hb2
  obtain ⟨hc, hf⟩ := hblk.facts
  rcases hvx with ⟨hn, rfl, rfl⟩ | ⟨hn, t, p, rfl⟩
  · generalize hM : Lx.num ((bsl s).take N) = M at hn ⊢
    have HM := Lib.hid hM
    have HNN := Lib.hid hn
    clear hM hn
    by_cases hlt : N < s.size
    · go_wp2_with fail
      refine (lexLetter_any _ w2).mono ?_
      rintro e w3 ⟨rfl, rfl⟩
      cases hL : Lx.isLetter (s[N]'hlt)
      · have HL := Lib.hid hL
        clear hL
        go_wp2_with fail
        refine bodyPost_ret (v := .tuple #[tokV 3 [] M 0, .int .i64 N]) (by simp [results, Tryz.results193, go_sem, (blk4 hblk _ _ _ _).cell]; rfl) rfl ⟨?_, below4 HB2.out (Nat.le_refl _) _ _ _ _⟩
        rw [numberE, HN.out, HM.out, if_pos ⟨HNN.out, by rw [bsl_drop_cons s N hlt]; simp [HL.out]⟩]
        rfl
      · have HL := Lib.hid hL
        clear hL
        go_wp2_with fail
        refine bodyPost_ret (v := .tuple #[tokV 0 [] 0 0, .int .i64 0]) (by simp [results, Tryz.results193, go_sem, (blk4 hblk _ _ _ _).cell]; rfl) rfl ⟨?_, below4 HB2.out (Nat.le_refl _) _ _ _ _⟩
        rw [numberE, HN.out, HM.out, if_neg (by rw [bsl_drop_cons s N hlt]; simp [HL.out])]
        rfl
    · go_wp2_with fail
      refine bodyPost_ret (v := .tuple #[tokV 3 [] M 0, .int .i64 N]) (by simp [results, Tryz.results193, go_sem, (blk4 hblk _ _ _ _).cell]; rfl) rfl ⟨?_, below4 HB2.out (Nat.le_refl _) _ _ _ _⟩
      rw [numberE, HN.out, HM.out, if_pos ⟨HNN.out, by rw [List.drop_eq_nil_of_le (by rw [bsl_length]; omega)]; rfl⟩]
      rfl
  · have HNN := Lib.hid hn
    clear hn
    go_wp2_with fail
    refine bodyPost_ret (v := .tuple #[tokV 0 [] 0 0, .int .i64 0]) (by simp [results, Tryz.results193, go_sem, (blk4 hblk _ _ _ _).cell]; rfl) rfl ⟨?_, below4 HB2.out (Nat.le_refl _) _ _ _ _⟩
    rw [numberE, HN.out, if_neg (fun h => HNN.out h.1)]
    rfl

def opE (l : List UInt8) : Option (Nat × List UInt8 × Int × Nat) :=
  if Lx.ops2.contains (l.take 2) then some (5, l.take 2, 0, 2)
  else match l with
    | [] => none
    | c :: _ => if Lx.ops1.contains c then some (5, [c], 0, 1) else none
end Go.Proofs.YtchpbdodlbghaaaGreatDoor
