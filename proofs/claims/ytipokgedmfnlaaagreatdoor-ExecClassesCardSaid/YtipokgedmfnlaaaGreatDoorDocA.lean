/-
  The document's signs of a text (umlautref1.Sign).
-/
import Derived.Test.YtipokgedmfnlaaaGreatDoorTab
import Derived.Test.YtipokgedmfnlaaaGreatDoorPar
import Derived.Test.YtipokgedmfnlaaaGreatDoorOwn
import Derived.Test.YtipokgedmfnlaaaGreatDoorElemB
namespace Go.Proofs.YtipokgedmfnlaaaGreatDoor
open Go.RowKit Go.Lib
set_option maxRecDepth 100000

/-- Whether a byte goes on a sign. -/
def tl (x : Nat) : Bool := decide (128 ≤ x) && decide (x ≤ 191)
theorem tailR_any (b : UInt8) (w : World) : Calls Tryz.prog 235 #[.int .u8 b.toNat] w fun e w' => e = .returned (.bool (tl b.toNat)) ∧ w' = w := by
  have hb := b.toNat_lt
  unfold tl
  generalize b.toNat = x at hb ⊢
  obtain ⟨X, hX⟩ : ∃ X : Int, X = (x : Int) := ⟨_, rfl⟩
  have e1 : decide (128 ≤ x) = decide ((128 : Int) ≤ X) := by rw [hX, Bool.eq_iff_iff]; simp <;> omega
  have e2 : decide (x ≤ 191) = decide (X ≤ (191 : Int)) := by rw [hX, Bool.eq_iff_iff]; simp <;> omega
  rw [e1, e2, ← hX]
  clear e1 e2 hX
  cases h1 : decide ((128 : Int) ≤ X)
  all_goals
    go_enter Tryz.func235, Tryz.ntmps235
    go_wp2_with fail
    go_ret
    exact ⟨by simp, rfl⟩
/-! ### The sign, class by class of its first byte -/
def v3 (b0 b1 b2 : Nat) : Nat := (b0 - 224) * 4096 + (b1 - 128) * 64 + b2 - 128
def v4 (b0 b1 b2 b3 : Nat) : Nat := (b0 - 240) * 262144 + (b1 - 128) * 4096 + (b2 - 128) * 64 + b3 - 128
theorem sgN_1 (n b0 b1 b2 b3 : Nat) (h : b0 < 128) : sgnN n b0 b1 b2 b3 = (b0, 1) := by
  unfold sgnN decodeN
  rw [if_pos h]
  split
  · rename_i hh; simp at hh; omega
  · rfl
theorem sgN_x (n b0 b1 b2 b3 : Nat) (h0 : b0 < 256) (h : 128 ≤ b0 ∧ b0 < 194 ∨ 245 ≤ b0) (_h1 : b1 < 256) : sgnN n b0 b1 b2 b3 = (1114112 + b0, 1) := by
  unfold sgnN decodeN
  repeat' split
  all_goals first | rfl | (exfalso; simp at * <;> omega)
theorem sgN_2 (n b0 b1 b2 b3 : Nat) (h : 194 ≤ b0 ∧ b0 ≤ 223) (h1 : b1 < 256) : sgnN n b0 b1 b2 b3 = if 1 < n ∧ tl b1 = true then ((b0 - 192) * 64 + b1 - 128, 2) else (1114112 + b0, 1) := by
  unfold sgnN decodeN tl
  simp only [Bool.and_eq_true, decide_eq_true_eq]
  repeat' split
  all_goals first | rfl | (exfalso; simp at *; omega) | (apply Prod.ext <;> simp only <;> omega)
theorem sgN_3 (n b0 b1 b2 b3 : Nat) (h : 224 ≤ b0 ∧ b0 ≤ 239) (h1 : b1 < 256) (h2 : b2 < 256) :
    sgnN n b0 b1 b2 b3 = if 2 < n ∧ tl b1 = true ∧ tl b2 = true ∧ 2048 ≤ v3 b0 b1 b2 ∧ (v3 b0 b1 b2 < 55296 ∨ 57343 < v3 b0 b1 b2) then (v3 b0 b1 b2, 3) else (1114112 + b0, 1) := by
  unfold sgnN decodeN tl v3
  simp only [Bool.and_eq_true, decide_eq_true_eq]
  repeat' split
  all_goals first | rfl | (exfalso; simp at *; omega) | (apply Prod.ext <;> simp only <;> omega)
theorem sgN_4 (n b0 b1 b2 b3 : Nat) (h : 240 ≤ b0 ∧ b0 ≤ 244) (h1 : b1 < 256) (h2 : b2 < 256) (h3 : b3 < 256) :
    sgnN n b0 b1 b2 b3 = if 3 < n ∧ tl b1 = true ∧ tl b2 = true ∧ tl b3 = true ∧ 65536 ≤ v4 b0 b1 b2 b3 ∧ v4 b0 b1 b2 b3 ≤ 1114111 then (v4 b0 b1 b2 b3, 4) else (1114112 + b0, 1) := by
  unfold sgnN decodeN tl v4
  simp only [Bool.and_eq_true, decide_eq_true_eq]
  repeat' split
  all_goals first | rfl | (exfalso; simp at *; omega) | (apply Prod.ext <;> simp only <;> omega)
theorem nb_at (s : ByteArray) (i : Nat) (h : i < s.size) : nb s.data.toList i = (s[i]'h).toNat := by
  unfold nb
  rw [List.getD_eq_getElem?_getD, Array.getElem?_toList]
  have : s.data[i]? = some (s[i]'h) := by
    rw [Array.getElem?_eq_getElem (show i < s.data.size from h)]
    rfl
  rw [this]
  rfl
theorem sgn_at (s : ByteArray) : sgn s.data.toList = sgnN s.size (nb s.data.toList 0) (nb s.data.toList 1) (nb s.data.toList 2) (nb s.data.toList 3) := by
  unfold sgn
  rw [Array.length_toList]
  rfl
def SgR (s : ByteArray) (w : World) (e : Ending) (w' : World) : Prop := e = .returned (.tuple #[.int .i64 ((sgn s.data.toList).1 : Nat), .int .i64 ((sgn s.data.toList).2 : Nat)]) ∧ Below w.heap.size w w'
theorem sg_leaf {s : ByteArray} {w w' : World} {A k : Int} {m j : Nat} (h : sgn s.data.toList = (m, j)) (h1 : A = m) (h2 : k = j) (hw : Below w.heap.size w w') : SgR s w (.returned (.tuple #[.int .i64 A, .int .i64 k])) w' := by
  unfold SgR
  rw [h, h1, h2]
  exact ⟨rfl, hw⟩
set_option maxHeartbeats 8000000 in
theorem signR_1 (s : ByteArray) (h : 0 < s.size) (hb : (s[0]'h).toNat < 128) (w : World) : Calls Tryz.prog 184 #[.string s] w (SgR s w) := by
  have hs : sgn s.data.toList = ((s[0]'h).toNat, 1) := by rw [sgn_at, nb_at s 0 h, sgN_1 _ _ _ _ _ hb]
  have HS := Lib.hid hs
  have hb0 : ((s[0]'h).toNat : Int) < 128 := by omega
  clear hs
  go_enter Tryz.func184, Tryz.ntmps184
  go_wp2_with fail
  go_ret2
  exact sg_leaf HS.out rfl rfl (Below.refl _ _)
set_option maxHeartbeats 8000000 in
theorem signR_x (s : ByteArray) (h : 0 < s.size) (hb : 128 ≤ (s[0]'h).toNat ∧ (s[0]'h).toNat < 194 ∨ 245 ≤ (s[0]'h).toNat) (w : World) : Calls Tryz.prog 184 #[.string s] w (SgR s w) := by
  have h0 := (s[0]'h).toNat_lt
  have hs : sgn s.data.toList = (1114112 + (s[0]'h).toNat, 1) := by rw [sgn_at, nb_at s 0 h, sgN_x _ _ _ _ _ h0 hb (nb_lt _ _)]
  have HS := Lib.hid hs
  have hb0 : ((s[0]'h).toNat : Int) < 256 := by omega
  clear hs
  rcases hb with ⟨hb, hc⟩ | hb
  · have hb1 : ¬ ((s[0]'h).toNat : Int) < 128 := by omega
    have hb2 : ¬ (194 : Int) ≤ (s[0]'h).toNat := by omega
    have hb3 : ¬ (224 : Int) ≤ (s[0]'h).toNat := by omega
    have hb4 : ¬ (240 : Int) ≤ (s[0]'h).toNat := by omega
    go_enter Tryz.func184, Tryz.ntmps184
    go_wp2_with fail
    go_ret2
    exact sg_leaf HS.out (by omega) rfl (Below.refl _ _)
  · have hb1 : ¬ ((s[0]'h).toNat : Int) < 128 := by omega
    have hb2 : ¬ ((s[0]'h).toNat : Int) ≤ 223 := by omega
    have hb3 : ¬ ((s[0]'h).toNat : Int) ≤ 239 := by omega
    have hb4 : ¬ ((s[0]'h).toNat : Int) ≤ 244 := by omega
    go_enter Tryz.func184, Tryz.ntmps184
    go_wp2_with fail
    go_ret2
    exact sg_leaf HS.out (by omega) rfl (Below.refl _ _)
set_option maxHeartbeats 8000000 in
theorem signR_2 (s : ByteArray) (h : 0 < s.size) (hb : 194 ≤ (s[0]'h).toNat ∧ (s[0]'h).toNat ≤ 223) (w : World) : Calls Tryz.prog 184 #[.string s] w (SgR s w) := by
  have hb1 : ¬ ((s[0]'h).toNat : Int) < 128 := by omega
  have hb2 : (194 : Int) ≤ (s[0]'h).toNat := by omega
  have hb3 : ((s[0]'h).toNat : Int) ≤ 223 := by omega
  by_cases h1 : 1 < s.size
  · have hbb : ((s[1]'h1).toNat : Int) < 256 := by have := (s[1]'h1).toNat_lt; omega
    have hs : sgn s.data.toList = if 1 < s.size ∧ tl (s[1]'h1).toNat = true then (((s[0]'h).toNat - 192) * 64 + (s[1]'h1).toNat - 128, 2) else (1114112 + (s[0]'h).toNat, 1) := by
      rw [sgn_at, nb_at s 0 h, nb_at s 1 h1, sgN_2 _ _ _ _ _ hb (by omega)]
    have h1I : (1 : Int) < s.size := by omega
    cases ht : tl (s[1]'h1).toNat
    · rw [if_neg (by rw [ht]; simp)] at hs
      have HS := Lib.hid hs
      have KT := Lib.hid (tailR_any (s[1]'h1))
      rw [ht] at KT
      clear hs
      go_enter Tryz.func184, Tryz.ntmps184
      go_wp2_with (refine (KT.out _).mono ?_; rintro e w2 ⟨rfl, rfl⟩)
      go_ret2
      exact sg_leaf HS.out (by omega) rfl (Below.refl _ _)
    · rw [if_pos ⟨h1, ht⟩] at hs
      have HS := Lib.hid hs
      have KT := Lib.hid (tailR_any (s[1]'h1))
      rw [ht] at KT
      have ht2 : 128 ≤ (s[1]'h1).toNat := by unfold tl at ht; simp at ht; omega
      have ht3 : (128 : Int) ≤ (s[1]'h1).toNat := by omega
      clear hs
      go_enter Tryz.func184, Tryz.ntmps184
      go_wp2_with (refine (KT.out _).mono ?_; rintro e w2 ⟨rfl, rfl⟩)
      go_ret2
      exact sg_leaf HS.out (by omega) rfl (Below.refl _ _)
  · have h1I : ¬ (1 : Int) < s.size := by omega
    have hs : sgn s.data.toList = (1114112 + (s[0]'h).toNat, 1) := by
      rw [sgn_at, nb_at s 0 h, sgN_2 _ _ _ _ _ hb (nb_lt _ _), if_neg (by omega)]
    have HS := Lib.hid hs
    clear hs
    go_enter Tryz.func184, Tryz.ntmps184
    go_wp2_with fail
    go_ret2
    exact sg_leaf HS.out (by omega) rfl (Below.refl _ _)
set_option maxHeartbeats 8000000 in
theorem signR_3 (s : ByteArray) (h : 0 < s.size) (hb : 224 ≤ (s[0]'h).toNat ∧ (s[0]'h).toNat ≤ 239) (w : World) : Calls Tryz.prog 184 #[.string s] w (SgR s w) := by
  have hb1 : ¬ ((s[0]'h).toNat : Int) < 128 := by omega
  have hb2 : (224 : Int) ≤ (s[0]'h).toNat := by omega
  have hb3 : ((s[0]'h).toNat : Int) ≤ 239 := by omega
  have hb4 : ¬ ((s[0]'h).toNat : Int) ≤ 223 := by omega
  by_cases h2 : 2 < s.size
  · have h1 : 1 < s.size := by omega
    have c1 := (s[1]'h1).toNat_lt
    have c2 := (s[2]'h2).toNat_lt
    have hs : sgn s.data.toList = if 2 < s.size ∧ tl (s[1]'h1).toNat = true ∧ tl (s[2]'h2).toNat = true ∧ 2048 ≤ v3 (s[0]'h).toNat (s[1]'h1).toNat (s[2]'h2).toNat ∧ (v3 (s[0]'h).toNat (s[1]'h1).toNat (s[2]'h2).toNat < 55296 ∨ 57343 < v3 (s[0]'h).toNat (s[1]'h1).toNat (s[2]'h2).toNat) then (v3 (s[0]'h).toNat (s[1]'h1).toNat (s[2]'h2).toNat, 3) else (1114112 + (s[0]'h).toNat, 1) := by
      rw [sgn_at, nb_at s 0 h, nb_at s 1 h1, nb_at s 2 h2, sgN_3 _ _ _ _ _ hb c1 c2]
    have h2I : (2 : Int) < s.size := by omega
    have h1I : (1 : Int) < s.size := by omega
    have KT := Lib.hid (tailR_any (s[1]'h1))
    have KU := Lib.hid (tailR_any (s[2]'h2))
    cases ht : tl (s[1]'h1).toNat
    · rw [if_neg (by rw [ht]; simp)] at hs
      have HS := Lib.hid hs
      rw [ht] at KT
      clear hs c1 c2
      go_enter Tryz.func184, Tryz.ntmps184
      go_wp2_with (refine (KT.out _).mono ?_; rintro e w2 ⟨rfl, rfl⟩)
      go_ret2
      exact sg_leaf HS.out (by omega) rfl (Below.refl _ _)
    · cases hu : tl (s[2]'h2).toNat
      · rw [if_neg (by rw [hu]; simp)] at hs
        have HS := Lib.hid hs
        rw [ht] at KT
        rw [hu] at KU
        clear hs c1 c2
        go_enter Tryz.func184, Tryz.ntmps184
        go_wp2_with (first | (refine (KT.out _).mono ?_; rintro e w2 ⟨rfl, rfl⟩) | (refine (KU.out _).mono ?_; rintro e w2 ⟨rfl, rfl⟩))
        go_ret2
        exact sg_leaf HS.out (by omega) rfl (Below.refl _ _)
      · simp only [ht, hu, true_and, h2] at hs
        have HS := Lib.hid hs
        rw [ht] at KT
        rw [hu] at KU
        have d1 : (128 : Int) ≤ (s[1]'h1).toNat := by unfold tl at ht; simp at ht; omega
        have d2 : (128 : Int) ≤ (s[2]'h2).toNat := by unfold tl at hu; simp at hu; omega
        have e1 : ((s[1]'h1).toNat : Int) < 256 := by omega
        have e2 : ((s[2]'h2).toNat : Int) < 256 := by omega
        obtain ⟨V, hV⟩ : ∃ V : Int, V = (((s[0]'h).toNat : Int) - (224 : Int)) * (4096 : Int) + (((s[1]'h1).toNat : Int) - (128 : Int)) * (64 : Int) + ((s[2]'h2).toNat : Int) - (128 : Int) := ⟨_, rfl⟩
        have hVN : V = (v3 (s[0]'h).toNat (s[1]'h1).toNat (s[2]'h2).toNat : Nat) := by rw [hV]; unfold v3; omega
        generalize v3 (s[0]'h).toNat (s[1]'h1).toNat (s[2]'h2).toNat = N at hs HS hVN
        have HV := Lib.hid hV
        have HVN := Lib.hid hVN
        clear hs c1 c2 ht hu hV hVN
        go_enter Tryz.func184, Tryz.ntmps184
        go_wp2_with (first | (refine (KT.out _).mono ?_; rintro e w2 ⟨rfl, rfl⟩) | (refine (KU.out _).mono ?_; rintro e w2 ⟨rfl, rfl⟩))
        rename World => W0
        refine wp_par 15 (fun
            | 0 => fun v _ => v = .int .i64 (((s[0]'h).toNat : Int))
            | 1 => fun v _ => v = .int .i64 (((s[0]'h).toNat : Int) - (224 : Int))
            | 2 => fun v _ => v = .int .i64 ((((s[0]'h).toNat : Int) - (224 : Int)) * (4096 : Int))
            | 3 => fun v _ => v = .string s
            | 4 => fun v _ => v = .int .u8 (((s[1]'h1).toNat : Int))
            | 5 => fun v _ => v = .int .i64 (((s[1]'h1).toNat : Int))
            | 6 => fun v _ => v = .int .i64 (((s[1]'h1).toNat : Int) - (128 : Int))
            | 7 => fun v _ => v = .int .i64 ((((s[1]'h1).toNat : Int) - (128 : Int)) * (64 : Int))
            | 8 => fun v _ => v = .int .i64 ((((s[0]'h).toNat : Int) - (224 : Int)) * (4096 : Int) + (((s[1]'h1).toNat : Int) - (128 : Int)) * (64 : Int))
            | 9 => fun v _ => v = .string s
            | 10 => fun v _ => v = .int .u8 (((s[2]'h2).toNat : Int))
            | 11 => fun v _ => v = .int .i64 (((s[2]'h2).toNat : Int))
            | 12 => fun v _ => v = .int .i64 ((((s[0]'h).toNat : Int) - (224 : Int)) * (4096 : Int) + (((s[1]'h1).toNat : Int) - (128 : Int)) * (64 : Int) + ((s[2]'h2).toNat : Int))
            | 13 => fun v _ => v = .int .i64 V
            | 14 => fun v _ => v = .int .i64 V
            | _ => fun _ _ => True) (by kernel_rfl) (by kernel_rfl) (by kernel_rfl) ?_ ?_
        · simp (maxSteps := 20000000) only [List.take_succ_cons, List.take_zero, ParAll, Act.put, List.setIfInBounds_toArray, List.set_cons_succ, List.set_cons_zero]
          refine ⟨?_, ?_, ?_, ?_, ?_, ?_, ?_, ?_, ?_, ?_, ?_, ?_, ?_, ?_, ?_, trivial⟩
          · intro vals W hx hd
            simp [PDeps, pdeps, Region.binds] at hd
            first
              | refine ParOb.plain rfl ?_
              | refine ParOb.wanted (by simp [Region.wanted, yielded, hd]) ?_
            go_simp
            exact ParPost.same fun _ _ => rfl
          · intro vals W hx hd
            simp [PDeps, pdeps, Region.binds] at hd
            first
              | refine ParOb.plain rfl ?_
              | refine ParOb.wanted (by simp [Region.wanted, yielded, hd]) ?_
            have hsum := IntWalk.i64_in (((s[0]'h).toNat : Int) - (224 : Int)) (by omega)
            go_simp
            exact ParPost.same fun _ _ => rfl
          · intro vals W hx hd
            simp [PDeps, pdeps, Region.binds] at hd
            first
              | refine ParOb.plain rfl ?_
              | refine ParOb.wanted (by simp [Region.wanted, yielded, hd]) ?_
            have hsum := IntWalk.i64_in ((((s[0]'h).toNat : Int) - (224 : Int)) * (4096 : Int)) (by omega)
            go_simp
            exact ParPost.same fun _ _ => rfl
          · intro vals W hx hd
            simp [PDeps, pdeps, Region.binds] at hd
            first
              | refine ParOb.plain rfl ?_
              | refine ParOb.wanted (by simp [Region.wanted, yielded, hd]) ?_
            go_simp
            exact ParPost.same fun _ _ => rfl
          · intro vals W hx hd
            simp [PDeps, pdeps, Region.binds] at hd
            first
              | refine ParOb.plain rfl ?_
              | refine ParOb.wanted (by simp [Region.wanted, yielded, hd]) ?_
            go_simp
            exact ParPost.same fun _ _ => rfl
          · intro vals W hx hd
            simp [PDeps, pdeps, Region.binds] at hd
            first
              | refine ParOb.plain rfl ?_
              | refine ParOb.wanted (by simp [Region.wanted, yielded, hd]) ?_
            have hsum := IntWalk.i64_in (((s[1]'h1).toNat : Int)) (by omega)
            go_simp
            exact ParPost.same fun _ _ => rfl
          · intro vals W hx hd
            simp [PDeps, pdeps, Region.binds] at hd
            first
              | refine ParOb.plain rfl ?_
              | refine ParOb.wanted (by simp [Region.wanted, yielded, hd]) ?_
            have hsum := IntWalk.i64_in (((s[1]'h1).toNat : Int) - (128 : Int)) (by omega)
            go_simp
            exact ParPost.same fun _ _ => rfl
          · intro vals W hx hd
            simp [PDeps, pdeps, Region.binds] at hd
            first
              | refine ParOb.plain rfl ?_
              | refine ParOb.wanted (by simp [Region.wanted, yielded, hd]) ?_
            have hsum := IntWalk.i64_in ((((s[1]'h1).toNat : Int) - (128 : Int)) * (64 : Int)) (by omega)
            go_simp
            exact ParPost.same fun _ _ => rfl
          · intro vals W hx hd
            simp [PDeps, pdeps, Region.binds] at hd
            first
              | refine ParOb.plain rfl ?_
              | refine ParOb.wanted (by simp [Region.wanted, yielded, hd]) ?_
            have hsum := IntWalk.i64_in ((((s[0]'h).toNat : Int) - (224 : Int)) * (4096 : Int) + (((s[1]'h1).toNat : Int) - (128 : Int)) * (64 : Int)) (by omega)
            go_simp
            exact ParPost.same fun _ _ => rfl
          · intro vals W hx hd
            simp [PDeps, pdeps, Region.binds] at hd
            first
              | refine ParOb.plain rfl ?_
              | refine ParOb.wanted (by simp [Region.wanted, yielded, hd]) ?_
            go_simp
            exact ParPost.same fun _ _ => rfl
          · intro vals W hx hd
            simp [PDeps, pdeps, Region.binds] at hd
            first
              | refine ParOb.plain rfl ?_
              | refine ParOb.wanted (by simp [Region.wanted, yielded, hd]) ?_
            go_simp
            exact ParPost.same fun _ _ => rfl
          · intro vals W hx hd
            simp [PDeps, pdeps, Region.binds] at hd
            first
              | refine ParOb.plain rfl ?_
              | refine ParOb.wanted (by simp [Region.wanted, yielded, hd]) ?_
            have hsum := IntWalk.i64_in (((s[2]'h2).toNat : Int)) (by omega)
            go_simp
            exact ParPost.same fun _ _ => rfl
          · intro vals W hx hd
            simp [PDeps, pdeps, Region.binds] at hd
            first
              | refine ParOb.plain rfl ?_
              | refine ParOb.wanted (by simp [Region.wanted, yielded, hd]) ?_
            have hsum := IntWalk.i64_in ((((s[0]'h).toNat : Int) - (224 : Int)) * (4096 : Int) + (((s[1]'h1).toNat : Int) - (128 : Int)) * (64 : Int) + ((s[2]'h2).toNat : Int)) (by omega)
            go_simp
            exact ParPost.same fun _ _ => rfl
          · intro vals W hx hd
            simp [PDeps, pdeps, Region.binds] at hd
            first
              | refine ParOb.plain rfl ?_
              | refine ParOb.wanted (by simp [Region.wanted, yielded, hd]) ?_
            have hsum := IntWalk.i64_in ((((s[0]'h).toNat : Int) - (224 : Int)) * (4096 : Int) + (((s[1]'h1).toNat : Int) - (128 : Int)) * (64 : Int) + ((s[2]'h2).toNat : Int) - (128 : Int)) (by omega)
            go_simp
            exact ParPost.same fun _ _ => by rw [HV.out]
          · intro vals W hx hd
            simp [PDeps, pdeps, Region.binds] at hd
            first
              | refine ParOb.plain rfl ?_
              | refine ParOb.wanted (by simp [Region.wanted, yielded, hd]) ?_
            go_simp
            exact ParPost.same fun _ _ => rfl
        intro vals W hx hf
        simp (maxSteps := 20000000) only [ParFacts, List.take_succ_cons, List.take_zero, and_true] at hf
        simp (maxSteps := 20000000) only [List.drop_succ_cons, List.drop_zero, List.take_succ_cons, List.take_zero, ParEnd, Act.put, List.setIfInBounds_toArray, List.set_cons_succ, List.set_cons_zero, hf]
        clear hf
        have HX := Lib.hid hx
        clear hx
        by_cases hv : 2048 ≤ N ∧ (N < 55296 ∨ 57343 < N)
        · have hsg := HS.out
          rw [if_pos hv] at hsg
          have hvn := HVN.out
          have HS2 := Lib.hid hsg
          clear hsg HS HV
          rcases hv with ⟨hv1, hv2 | hv2⟩
          · have k1 : (2048 : Int) ≤ V := by omega
            have k2 : V < 55296 := by omega
            clear hvn
            go_wp2_with fail
            go_ret2
            exact sg_leaf HS2.out HVN.out rfl HX.out
          · have k1 : (2048 : Int) ≤ V := by omega
            have k2 : ¬ V < 55296 := by omega
            have k3 : 57343 < V := by omega
            clear hvn
            go_wp2_with fail
            go_ret2
            exact sg_leaf HS2.out HVN.out rfl HX.out
        · have hsg := HS.out
          rw [if_neg hv] at hsg
          have hvn := HVN.out
          have HS2 := Lib.hid hsg
          clear hsg HS HV
          by_cases hv1 : 2048 ≤ N
          · have k1 : (2048 : Int) ≤ V := by omega
            have k2 : ¬ V < 55296 := by omega
            have k3 : ¬ 57343 < V := by omega
            clear hvn hv hv1
            go_wp2_with fail
            go_ret2
            exact sg_leaf HS2.out (by omega) rfl HX.out
          · have k1 : ¬ (2048 : Int) ≤ V := by omega
            clear hvn hv hv1
            go_wp2_with fail
            go_ret2
            exact sg_leaf HS2.out (by omega) rfl HX.out
  · have h2I : ¬ (2 : Int) < s.size := by omega
    have hs : sgn s.data.toList = (1114112 + (s[0]'h).toNat, 1) := by
      rw [sgn_at, nb_at s 0 h, sgN_3 _ _ _ _ _ hb (nb_lt _ _) (nb_lt _ _), if_neg (by omega)]
    have HS := Lib.hid hs
    clear hs
    go_enter Tryz.func184, Tryz.ntmps184
    go_wp2_with fail
    go_ret2
    exact sg_leaf HS.out (by omega) rfl (Below.refl _ _)
end Go.Proofs.YtipokgedmfnlaaaGreatDoor
