import Derived.Shelf.Strings.AsciiSet
import Derived.Test.YtchpbdodlbghaaaGreatDoorBase
import Derived.Test.YtchpbdodlbghaaaGreatDoorLexA
import Derived.Test.YtchpbdodlbghaaaGreatDoorOwn
import Derived.Test.YtchpbdodlbghaaaGreatDoorScrC
import Derived.Test.YtchpbdodlbghaaaGreatDoorShelf
namespace Go.Proofs.YtchpbdodlbghaaaGreatDoor
set_option maxRecDepth 100000

def trimR (l s : List UInt8) : List UInt8 := (s.reverse.dropWhile fun c => decide (c ∈ l)).reverse
def trimL (l s : List UInt8) : List UInt8 := s.dropWhile fun c => decide (c ∈ l)
def trimB (l s : List UInt8) : List UInt8 := trimL l (trimR l s)
theorem trimR_snoc (l a : List UInt8) (x : UInt8) : trimR l (a ++ [x]) = if x ∈ l then trimR l a else a ++ [x] := by
  unfold trimR
  rw [List.reverse_append, List.reverse_singleton, List.singleton_append, List.dropWhile_cons]
  by_cases h : x ∈ l <;> simp [h]
theorem trimR_nil (l : List UInt8) : trimR l [] = [] := rfl
theorem trimL_cons (l a : List UInt8) (x : UInt8) : trimL l (x :: a) = if x ∈ l then trimL l a else x :: a := by
  unfold trimL
  rw [List.dropWhile_cons]
  by_cases h : x ∈ l <;> simp [h]
theorem trimL_nil (l : List UInt8) : trimL l [] = [] := rfl
theorem trimL_len (l : List UInt8) : ∀ a, (trimL l a).length ≤ a.length
  | [] => Nat.le_refl _
  | x :: a => by
    rw [trimL_cons]
    have := trimL_len l a
    split <;> simp <;> omega
theorem trimR_len (l a : List UInt8) : (trimR l a).length ≤ a.length := by
  have := trimL_len l a.reverse
  unfold trimR
  unfold trimL at this
  simpa using this
theorem bsl_snoc (t : ByteArray) (h : 0 < t.size) : bsl t = bsl (t.extract 0 (t.size - 1)) ++ [t[t.size - 1]'(by omega)] := by
  have hl : (bsl t).length = t.size := by unfold bsl; rw [Array.length_toList]; rfl
  have h1 : bsl (t.extract 0 (t.size - 1)) = (bsl t).take (t.size - 1) := by
    unfold bsl
    rw [ByteArray.data_extract, Array.toList_extract]
    simp
  rw [h1]
  have h2 : t.size - 1 < (bsl t).length := by omega
  conv => lhs; rw [← List.take_append_drop (t.size - 1) (bsl t), List.drop_eq_getElem_cons h2, List.drop_of_length_le (by omega)]
  rfl
theorem bsl_uncons (t : ByteArray) (h : 0 < t.size) : bsl t = t[0]'h :: bsl (t.extract 1 t.size) := by
  have hl : (bsl t).length = t.size := by unfold bsl; rw [Array.length_toList]; rfl
  have h1 : bsl (t.extract 1 t.size) = (bsl t).drop 1 := by
    unfold bsl
    rw [ByteArray.data_extract, Array.toList_extract]
    simp
    rw [List.take_of_length_le]
    rw [List.length_tail, Array.length_toList]
    exact Nat.le_refl _
  rw [h1]
  conv => lhs; rw [← List.drop_zero (l := bsl t), List.drop_eq_getElem_cons (show 0 < (bsl t).length by omega)]
  rfl
def qt (s : List UInt8) (i : Nat) (q : Bool) : Bool := if s.getD i 0 = 39 then !q else q
def pcs (s : List UInt8) : Nat → Bool × Nat × List (List UInt8)
  | 0 => (false, 0, [])
  | i + 1 =>
    if s.getD i 0 = 59 ∧ qt s i (pcs s i).1 = false then (false, i + 1, (pcs s i).2.2 ++ [(s.take i).drop (pcs s i).2.1])
    else (qt s i (pcs s i).1, (pcs s i).2)
def pieces (s : List UInt8) : List (List UInt8) := (pcs s s.length).2.2 ++ [s.drop (pcs s s.length).2.1]
theorem pcs_from (s : List UInt8) : ∀ i, (pcs s i).2.1 ≤ i
  | 0 => Nat.le_refl _
  | i + 1 => by
    have := pcs_from s i
    rw [pcs]
    split <;> simp <;> omega
theorem pcs_count (s : List UInt8) : ∀ i, (pcs s i).2.2.length ≤ i
  | 0 => Nat.le_refl _
  | i + 1 => by
    have := pcs_count s i
    rw [pcs]
    split <;> simp <;> omega
theorem pcs_mono (s : List UInt8) (i : Nat) : ∀ k, (pcs s i).2.2.length ≤ (pcs s (i + k)).2.2.length
  | 0 => Nat.le_refl _
  | k + 1 => by
    have := pcs_mono s i k
    rw [← Nat.add_assoc, pcs]
    split <;> simp <;> omega
theorem pcs_quote (s : List UInt8) (i : Nat) (h : s.getD i 0 = 39) : pcs s (i + 1) = (!(pcs s i).1, (pcs s i).2) := by
  rw [pcs, if_neg (fun e => by rw [h] at e; exact absurd e.1 (by decide))]
  unfold qt
  rw [if_pos h]
theorem pcs_semi (s : List UInt8) (i : Nat) (h : s.getD i 0 = 59) (hq : (pcs s i).1 = false) : pcs s (i + 1) = (false, i + 1, (pcs s i).2.2 ++ [(s.take i).drop (pcs s i).2.1]) := by
  have e : qt s i (pcs s i).1 = (pcs s i).1 := by unfold qt; rw [if_neg (by rw [h]; decide)]
  rw [pcs, e, if_pos ⟨h, hq⟩]
theorem pcs_other (s : List UInt8) (i : Nat) (h : s.getD i 0 ≠ 39) (h2 : s.getD i 0 = 59 → (pcs s i).1 = true) : pcs s (i + 1) = pcs s i := by
  have e : qt s i (pcs s i).1 = (pcs s i).1 := by unfold qt; rw [if_neg h]
  rw [pcs, e, if_neg (fun e => by have := h2 e.1; rw [e.2] at this; cases this)]
def blankL : List UInt8 := [32, 9, 10, 13]
def splitT (s : List UInt8) : List (List UInt8) := ((pieces s).map (trimB blankL)).filter fun p => !p.isEmpty
theorem pcs_le (s : List UInt8) : ∀ i, ∀ p ∈ (pcs s i).2.2, p.length ≤ s.length
  | 0, p, h => by cases h
  | i + 1, p, h => by
    rw [pcs] at h
    split at h
    · rcases List.mem_append.1 h with h | h
      · exact pcs_le s i p h
      · obtain rfl := List.mem_singleton.1 h
        rw [List.length_drop, List.length_take]
        omega
    · exact pcs_le s i p h
theorem pieces_le (s : List UInt8) (p : List UInt8) (h : p ∈ pieces s) : p.length ≤ s.length := by
  unfold pieces at h
  rcases List.mem_append.1 h with h | h
  · exact pcs_le s _ p h
  · obtain rfl := List.mem_singleton.1 h
    rw [List.length_drop]
    omega
theorem pieces_count (s : List UInt8) : (pieces s).length ≤ s.length + 1 := by
  have := pcs_count s s.length
  unfold pieces
  simp
  omega
theorem pcs_none (s : List UInt8) (h : ∀ c ∈ s, c ≠ 59 ∧ c ≠ 39) : ∀ i, i ≤ s.length → pcs s i = (false, 0, [])
  | 0, _ => rfl
  | i + 1, hi => by
    have ih := pcs_none s h i (by omega)
    have hc := h s[i] (List.getElem_mem _)
    have hg : s.getD i 0 = s[i] := by rw [List.getD_eq_getElem?_getD, List.getElem?_eq_getElem (show i < s.length by omega)]; rfl
    rw [pcs, ih, hg, if_neg (fun e => hc.1 e.1)]
    unfold qt
    rw [hg, if_neg hc.2]
theorem pieces_none (s : List UInt8) (h : ∀ c ∈ s, c ≠ 59 ∧ c ≠ 39) : pieces s = [s] := by
  unfold pieces
  rw [pcs_none s h _ (Nat.le_refl _)]
  rfl
theorem trimL_all (l : List UInt8) : ∀ s, (∀ c ∈ s, c ∈ l) → trimL l s = []
  | [], _ => rfl
  | x :: s, h => by rw [trimL_cons, if_pos (h x (by simp)), trimL_all l s fun c hc => h c (by simp [hc])]
theorem split_blanks (n : Nat) : splitT (List.replicate n 32) = [] := by
  unfold splitT
  rw [pieces_none _ (fun c hc => by rw [(List.mem_replicate.1 hc).2]; decide)]
  have h1 : trimR blankL (List.replicate n 32) = [] := by
    unfold trimR
    have := trimL_all blankL (List.replicate n 32).reverse (fun c hc => by
      rw [List.mem_reverse] at hc
      rw [(List.mem_replicate.1 hc).2]; decide)
    unfold trimL at this
    rw [this]; rfl
  simp [trimB, h1, trimL_nil]
def zzL : List UInt8 := [122, 122]
def ctL : List UInt8 := [67, 82, 69, 65, 84, 69, 32, 84, 65, 66, 76, 69, 32, 116, 32, 40, 97, 32, 73, 78, 84, 41]
def abL : List UInt8 := [97, 59, 98, 32, 59, 32, 59]
theorem split_zz : splitT zzL = [zzL] := by decide +kernel
theorem split_ct : splitT ctL = [ctL] := by decide +kernel
theorem split_ab : splitT abL = [[97], [98]] := by decide +kernel
end Go.Proofs.YtchpbdodlbghaaaGreatDoor
namespace Go.Proofs.YtchpbdodlbghaaaGreatDoor
open Go.RowKit Go.Lib
set_option maxRecDepth 100000

theorem ba_of (t : ByteArray) : (⟨(bsl t).toArray⟩ : ByteArray) = t := by cases t; simp [bsl]
theorem bsl_none {t : ByteArray} (h : t.size = 0) : bsl t = [] := List.eq_nil_of_length_eq_zero (by rw [bsl_length]; exact h)
theorem bsl_cons' (t : ByteArray) (h : 0 < t.size) : (t.toList == []) = false := by
  have : t.toList ≠ [] := by
    intro h2
    rw [ByteArray.toList_eq] at h2
    have h3 : t.data.toList.length = t.size := Array.length_toList
    rw [h2] at h3
    simp at h3
    omega
  simpa using this
set_option maxHeartbeats 4000000 in
theorem trimRight_ex (b : Nat) (l : List UInt8) (s : ByteArray) (w : World) (hS : ∀ x : UInt8, w.cell? ⟨b, x.toNat, none⟩ = some (.bool (decide (x ∈ l)))) (hs : s.size ≤ 1000000) :
    Calls Tryz.prog 30 #[.string s, .pointer (some ⟨b, 0, none⟩)] w fun e w' => e = .returned (.string ⟨(trimR l (bsl s)).toArray⟩) ∧ w' = w := by
  have HS := Lib.hid hS
  clear hS
  go_enter Tryz.func30, Tryz.ntmps30
  repeat (first | go_values | go_skip | go_guarded | go_step | go_upon)
  go_loopw [0] (fun v W => ∃ t : ByteArray, v = .string t ∧ trimR l (bsl t) = trimR l (bsl s) ∧ t.size ≤ s.size ∧ W = w) (fun v _ => match v with | .string t => t.size | _ => 0)
  case atStart => exact ⟨s, rfl, rfl, Nat.le_refl _, rfl⟩
  case round =>
    obtain ⟨t, rfl, ht, hts, rfl⟩ := hrel
    have HT := Lib.hid ht
    clear ht
    by_cases h0 : 0 < t.size
    · have HC := Lib.hid (bsl_snoc t h0)
      go_wp2_with fail
      refine (Tryz.asciiSet_contains b (t[t.size - 1]'(by omega)) _ _ (HS.out _)).mono ?_
      rintro e w2 ⟨rfl, rfl⟩
      by_cases hin : t[t.size - 1]'(by omega) ∈ l
      · rw [decide_eq_true hin]
        have HIn := Lib.hid hin
        clear hin
        go_simp
        repeat (first | go_values | go_skip | go_guarded | go_step | go_upon)
        go_roundw
        case rel => exact ⟨_, rfl, by rw [← HT.out, HC.out, trimR_snoc, if_pos HIn.out], by simp [ByteArray.size_extract]; omega, trivial⟩
        case measure => simp [ByteArray.size_extract]; omega
      · rw [decide_eq_false hin]
        have HIn := Lib.hid hin
        clear hin
        go_simp
        repeat (first | go_values | go_skip | go_guarded | go_step | go_upon)
        go_ret
        refine ⟨?_, rfl⟩
        rw [← HT.out, HC.out, trimR_snoc, if_neg HIn.out, ← HC.out, ba_of]
        rfl
    · repeat (first | go_values | go_skip | go_guarded | go_step | go_upon)
      go_ret
      refine ⟨?_, rfl⟩
      rw [← HT.out, bsl_none (show t.size = 0 by omega), trimR_nil, ← bsl_none (show t.size = 0 by omega), ba_of]
      rfl
set_option maxHeartbeats 4000000 in
theorem trimLeft_ex (b : Nat) (l : List UInt8) (s : ByteArray) (w : World) (hS : ∀ x : UInt8, w.cell? ⟨b, x.toNat, none⟩ = some (.bool (decide (x ∈ l)))) (_hs : s.size ≤ 1000000) :
    Calls Tryz.prog 29 #[.string s, .pointer (some ⟨b, 0, none⟩)] w fun e w' => e = .returned (.string ⟨(trimL l (bsl s)).toArray⟩) ∧ w' = w := by
  have HS := Lib.hid hS
  clear hS
  go_enter Tryz.func29, Tryz.ntmps29
  repeat (first | go_values | go_skip | go_guarded | go_step | go_upon)
  go_loopw [0] (fun v W => ∃ t : ByteArray, v = .string t ∧ trimL l (bsl t) = trimL l (bsl s) ∧ t.size ≤ s.size ∧ W = w) (fun v _ => match v with | .string t => t.size | _ => 0)
  case atStart => exact ⟨s, rfl, rfl, Nat.le_refl _, rfl⟩
  case round =>
    obtain ⟨t, rfl, ht, hts, rfl⟩ := hrel
    have HT := Lib.hid ht
    clear ht
    by_cases h0 : 0 < t.size
    · have HC := Lib.hid (bsl_uncons t h0)
      go_wp2_with fail
      refine (Tryz.asciiSet_contains b (t[0]'h0) _ _ (HS.out _)).mono ?_
      rintro e w2 ⟨rfl, rfl⟩
      by_cases hin : t[0]'h0 ∈ l
      · rw [decide_eq_true hin]
        have HIn := Lib.hid hin
        clear hin
        go_simp
        repeat (first | go_values | go_skip | go_guarded | go_step | go_upon)
        go_roundw
        case rel => exact ⟨_, rfl, by rw [← HT.out, HC.out, trimL_cons, if_pos HIn.out], by simp [ByteArray.size_extract]; omega, trivial⟩
        case measure => simp [ByteArray.size_extract]; omega
      · rw [decide_eq_false hin]
        have HIn := Lib.hid hin
        clear hin
        go_simp
        repeat (first | go_values | go_skip | go_guarded | go_step | go_upon)
        go_ret
        refine ⟨?_, rfl⟩
        rw [← HT.out, HC.out, trimL_cons, if_neg HIn.out, ← HC.out, ba_of]
        rfl
    · repeat (first | go_values | go_skip | go_guarded | go_step | go_upon)
      go_ret
      refine ⟨?_, rfl⟩
      rw [← HT.out, bsl_none (show t.size = 0 by omega), trimL_nil, ← bsl_none (show t.size = 0 by omega), ba_of]
      rfl
theorem zeroSetB : ∀ w, (zeroValue 86).run Tryz.prog w = .ok (.agg (Array.replicate 256 (.bool false))) w := fun _ => by kernel_rfl
theorem infoSetB : (Tryz.prog.info? 86).map (·.size) = some 256 := by kernel_rfl
set_option maxHeartbeats 4000000 in
theorem trim_blank (s : ByteArray) (w : World) (hs : s.size ≤ 1000000) :
    Calls Tryz.prog 17 #[.string s, .string ⟨#[32, 9, 10, 13]⟩] w fun e w' => e = .returned (.string ⟨(trimB blankL (bsl s)).toArray⟩) ∧ Below w.heap.size w w' := by
  by_cases h0 : s.size = 0
  · have h1 : s = ⟨#[]⟩ := by rw [← ba_of s, bsl_none h0]
    subst h1
    go_enter Tryz.func17, Tryz.ntmps17
    repeat (first | go_values | go_skip | go_guarded | go_step | go_upon)
    go_ret
    exact ⟨rfl, Below.refl _ w⟩
  · have hse : (s.toList == []) = false := bsl_cons' s (by omega)
    have hce : blankL.isEmpty = false := rfl
    have hcl : (blankL.length : Int) = 4 := rfl
    rw [show (⟨#[32, 9, 10, 13]⟩ : ByteArray) = ⟨blankL.toArray⟩ from rfl]
    unfold trimB
    obtain ⟨R, hR⟩ : ∃ R, R = trimL blankL (trimR blankL (bsl s)) := ⟨_, rfl⟩
    have HRR := Lib.hid hR
    rw [← hR]
    clear hR
    go_enter Tryz.func17, Tryz.ntmps17
    repeat (first | go_values | go_skip | go_guarded | go_step | go_upon)
    refine (Tryz.strings_makeASCIISet zeroSetB ⟨blankL.toArray⟩ _ (by decide) ?_).mono ?_
    · intro j b hj
      have hm := List.mem_of_getElem? hj
      have hall : ∀ b ∈ blankL, b.toNat < 128 := by decide
      exact hall b hm
    rintro e w2 ⟨rfl, rfl⟩
    generalize hSC : Lib.setCells (⟨blankL.toArray⟩ : ByteArray).data.toList = sc
    have hsz : sc.size = 256 := by rw [← hSC]; exact Lib.setCells_size _
    have hall : sc.all (·.oneCell') = true := by
      rw [← hSC, Lib.setCells_eq, Array.all_eq_true]
      intro i hi
      simp [Value.oneCell']
    have hin : ∀ x : UInt8, sc[x.toNat]? = some (.bool (decide (x ∈ blankL))) := by
      intro x
      rw [← hSC, Lib.setCells_at]
      simp
    have HSZ := Lib.hid hsz
    have HAL := Lib.hid hall
    have HIN := Lib.hid hin
    clear hSC hsz hall hin
    have hz := zeroSetB
    go_simp
    go_wp2_with (refine wpList_store_row rfl 86 (.tmp 5) (.tmp 32) rfl (w.heap.size + 1) sc rfl rfl 86 (Array.replicate 256 (.bool false)) (Blk.new (w.alloc (.cells sc 86)) (Array.replicate 256 (.bool false)) 86 (by simp)) (by rw [HSZ.out]; exact infoSetB) (by rw [HSZ.out, Array.size_replicate]) HAL.out ?_)
    rw [show ((w.alloc (.cells sc 86)).alloc (.cells (Array.replicate 256 (.bool false)) 86)).setRow (w.heap.size + 1) sc = (w.alloc (.cells sc 86)).alloc (.cells sc 86) from by
      have := World.setRow_alloc_new (w.alloc (.cells sc 86)) (Array.replicate 256 (.bool false)) sc 86
      simpa using this]
    clear hz
    have hB : Blk ((w.alloc (.cells sc 86)).alloc (.cells sc 86)) (w.heap.size + 1) sc 86 := Blk.new (w.alloc (.cells sc 86)) sc 86 (by simp)
    have hX : Below w.heap.size w ((w.alloc (.cells sc 86)).alloc (.cells sc 86)) := by go_grown
    generalize ((w.alloc (.cells sc 86)).alloc (.cells sc 86)) = W1 at hB hX ⊢
    have HBs := Lib.hid (fun x : UInt8 => (hB.cell x.toNat).trans (HIN.out x))
    clear hB
    repeat (first | go_values | go_skip | go_guarded | go_step | go_upon)
    refine (trimRight_ex (w.heap.size + 1) blankL s W1 HBs.out hs).mono ?_
    rintro e w3 ⟨rfl, rfl⟩
    have hlen : (⟨(trimR blankL (bsl s)).toArray⟩ : ByteArray).size ≤ 1000000 := by
      have := trimR_len blankL (bsl s)
      rw [bsl_length] at this
      show (trimR blankL (bsl s)).toArray.size ≤ _
      rw [List.size_toArray]; omega
    have hbm : bsl ⟨(trimR blankL (bsl s)).toArray⟩ = trimR blankL (bsl s) := by simp [bsl]
    generalize trimR blankL (bsl s) = r at hlen hbm HRR ⊢
    have HLn := Lib.hid hlen
    have HBm := Lib.hid hbm
    clear hlen hbm
    go_simp
    repeat (first | go_values | go_skip | go_guarded | go_step | go_upon)
    refine (trimLeft_ex (w.heap.size + 1) blankL ⟨r.toArray⟩ _ HBs.out HLn.out).mono ?_
    rw [HBm.out]
    rintro e w4 ⟨rfl, rfl⟩
    rw [← HRR.out]
    go_simp
    repeat (first | go_values | go_skip | go_guarded | go_step | go_upon)
    go_ret
    exact ⟨rfl, hX⟩
end Go.Proofs.YtchpbdodlbghaaaGreatDoor
namespace Go.Proofs.YtchpbdodlbghaaaGreatDoor
open Go.RowKit Go.Shelf Go.Lib
attribute [local go_sem] Oper.semAt_some
set_option maxRecDepth 100000

abbrev BA := { s : ByteArray // s.size ≤ 70000 }
def mkB (l : List UInt8) : BA := if h : l.length ≤ 70000 then ⟨⟨l.toArray⟩, by show l.toArray.size ≤ _; rw [List.size_toArray]; exact h⟩ else ⟨⟨#[]⟩, by decide⟩
theorem mkB_val {l : List UInt8} (h : l.length ≤ 70000) : (mkB l).1 = ⟨l.toArray⟩ := by unfold mkB; rw [dif_pos h]
def encB (x : BA) : Array Value := #[.string x.1]
def KeepT (B : Nat) (W W' : World) : Prop := ∀ cs t, Blk W B cs t → Blk W' B cs t
theorem keepT_t {B : Nat} {X Y Z : World} (h : KeepT B X Y) (k : KeepT B Y Z) : KeepT B X Z := fun cs t hb => k cs t (h cs t hb)
theorem keepT_b {B : Nat} (W : World) (l : Nat) (o o' : Obj) (h : W.heap[l]? = some o) (hc : o.isCells = false) : KeepT B W (W.putObj l o') := fun cs t hb =>
  (World.putObj_heap_other (fun e => by
    subst e
    rw [show W.heap[B]? = _ from hb] at h
    cases h
    cases hc)).trans hb
theorem ext_mid (s : ByteArray) (f k : Nat) : s.extract f k = ⟨(((bsl s).take k).drop f).toArray⟩ := by
  have h1 : bsl (s.extract f k) = ((bsl s).take k).drop f := by
    unfold bsl
    rw [ByteArray.data_extract, Array.toList_extract]
    simp [List.drop_take]
  rw [← h1, ba_of]
theorem ext_tail (s : ByteArray) (f : Nat) : s.extract f s.size = ⟨((bsl s).drop f).toArray⟩ := by
  have h1 : bsl (s.extract f s.size) = (bsl s).drop f := Lib.extract_to_end s f
  rw [← h1, ba_of]
theorem bsl_getD (s : ByteArray) (k : Nat) (h : k < s.size) : (bsl s).getD k 0 = s[k] := by rw [List.getD_eq_getElem?_getD, bsl_get s k h]; rfl
theorem u8_is {c : UInt8} {n : Nat} (hn : n < 256) : (c = UInt8.ofNat n) ↔ ((c.toNat : Nat) : Int) = (n : Int) := by
  have h1 : (UInt8.ofNat n).toNat = n := by simp; omega
  constructor
  · rintro rfl
    rw [h1]
  · intro h
    exact UInt8.toNat_inj.1 (by rw [h1]; omega)
theorem u8_eq (c : UInt8) (n : Nat) (hn : n < 256) : (((c.toNat : Nat) : Int) == (n : Int)) = decide (c = UInt8.ofNat n) := by
  have h1 : (UInt8.ofNat n).toNat = n := by simp; omega
  by_cases h : c = UInt8.ofNat n
  · rw [h, h1]; simp
  · have h2 : c.toNat ≠ n := fun e => h (UInt8.toNat_inj.1 (by rw [e, h1]))
    rw [decide_eq_false h, beq_eq_false_iff_ne]
    omega
set_option maxHeartbeats 4000000 in
theorem pieces_hands (m : Nat) (s : ByteArray) (B : Nat) (w : World) (hb : Blk w B #[.string s] 9) (hs : s.size ≤ 70000) :
    Hands Fence.wide m Tryz.prog 25 #[.pointer (some ⟨B, 0, none⟩)] encB (KeepT B) B ((pieces (bsl s)).map mkB) w := by
  intro l J W hW hJ hJs hY h0
  have k1 := hb.keep hW
  have HB1 := Lib.hid k1
  obtain ⟨c1, f1⟩ := k1.facts
  have hLN : (bsl s).length = s.size := bsl_length s
  have HLN := Lib.hid hLN
  have HY := Lib.hid (fun (pre : List (List UInt8)) (p : List UInt8) (W1 : World) (hj : J (pre.map mkB) W1) (hp : pre.length < (pieces (bsl s)).length) (hl : p.length ≤ 70000) => (by
    have h1 := hY (pre.map mkB) (mkB p) W1 hj (by simpa using hp)
    rw [show encB (mkB p) = #[.string ⟨p.toArray⟩] by unfold encB; rw [mkB_val hl], show pre.map mkB ++ [mkB p] = (pre ++ [p]).map mkB by simp] at h1
    exact h1))
  clear hY hLN
  refine callsIn_of_wp Tryz.func25 rfl trivial ?_ rfl
  simp only [Tryz.ntmps25, List.size_toArray, List.length_cons, List.length_nil, Nat.reduceAdd, Nat.reduceSub, Array.replicate_succ, Array.replicate_zero, List.push_toArray, List.append_toArray, List.nil_append, List.cons_append]
  gi_wp2
  gi_loopw [3, 4, 5, 8] (fun q f _ i wr => ∃ k : Nat, k ≤ s.size ∧ i = .int .i64 k ∧ q = .bool (pcs (bsl s) k).1 ∧ f = .int .i64 ((pcs (bsl s) k).2.1 : Nat) ∧ J ((pcs (bsl s) k).2.2.map mkB) wr ∧ Blk wr B #[.string s] 9) (fun _ _ _ i _ => s.size - (intOf i).toNat)
  case atStart => exact ⟨0, Nat.zero_le _, rfl, rfl, rfl, h0, HB1.out⟩
  case round =>
    obtain ⟨k, hk, rfl, rfl, rfl, hj, hb1⟩ := hrel
    obtain ⟨c1, f1⟩ := hb1.facts
    have HB1'' := Lib.hid hb1
    have hfk := pcs_from (bsl s) k
    have hpl : (pcs (bsl s) k).2.2.length < (pieces (bsl s)).length := by
      have := pcs_mono (bsl s) k (s.size - k)
      rw [show k + (s.size - k) = (bsl s).length by rw [HLN.out]; omega] at this
      unfold pieces
      rw [List.length_append]
      simp
      omega
    have HJ := Lib.hid hj
    have HPL := Lib.hid hpl
    clear hb1 hj hpl
    have HQ := Lib.hid (pcs_quote (bsl s) k)
    have HS := Lib.hid (pcs_semi (bsl s) k)
    have HO := Lib.hid (pcs_other (bsl s) k)
    by_cases hlt : k < s.size
    · have HG := Lib.hid (bsl_getD s k hlt)
      have hfkI : ((pcs (bsl s) k).2.1 : Int) ≤ (k : Int) := by omega
      have hltI : (k : Int) < (s.size : Int) := by omega
      have e39 := u8_eq s[k] 39 (by decide)
      have e59 := u8_eq s[k] 59 (by decide)
      by_cases h39 : s[k] = 39
      · have n39 : ((s[k].toNat : Nat) : Int) = 39 := (u8_is (n := 39) (by decide)).1 h39
        have n59 : ¬ ((s[k].toNat : Nat) : Int) = 59 := by omega
        rw [decide_eq_true (show s[k] = UInt8.ofNat 39 from h39)] at e39
        rw [decide_eq_false (show ¬ s[k] = UInt8.ofNat 59 by rw [h39]; decide)] at e59
        have HN := Lib.hid (HQ.out (by rw [HG.out]; exact h39))
        clear h39
        generalize pcs (bsl s) k = st at *
        obtain ⟨q, f, L⟩ := st
        simp only at *
        gi_wp2
        go_roundw
        case rel => exact ⟨k + 1, by omega, by go_num, by rw [HN.out], by rw [HN.out], by rw [HN.out]; exact HJ.out, HB1''.out⟩
        case measure => simp [intOf]; omega
      · have n39 : ¬ ((s[k].toNat : Nat) : Int) = 39 := fun e => h39 ((u8_is (n := 39) (by decide)).2 e)
        rw [decide_eq_false (show ¬ s[k] = UInt8.ofNat 39 from h39)] at e39
        by_cases h59 : s[k] = 59
        · have n59 : ((s[k].toNat : Nat) : Int) = 59 := (u8_is (n := 59) (by decide)).1 h59
          rw [decide_eq_true (show s[k] = UInt8.ofNat 59 from h59)] at e59
          by_cases hq : (pcs (bsl s) k).1 = true
          · have HN := Lib.hid (HO.out (by rw [HG.out]; exact h39) (fun _ => hq))
            clear h39 h59
            generalize pcs (bsl s) k = st at *
            obtain ⟨q, f, L⟩ := st
            simp only at *
            subst hq
            gi_wp2
            go_roundw
            case rel => exact ⟨k + 1, by omega, by go_num, by rw [HN.out], by rw [HN.out], by rw [HN.out]; exact HJ.out, HB1''.out⟩
            case measure => simp [intOf]; omega
          · have hq' : (pcs (bsl s) k).1 = false := by simpa using hq
            have HN := Lib.hid (HS.out (by rw [HG.out]; exact h59) hq')
            have hpl2 : (((bsl s).take k).drop (pcs (bsl s) k).2.1).length ≤ 70000 := by
              rw [List.length_drop, List.length_take]
              have := HLN.out
              omega
            have HE := Lib.hid (ext_mid s (pcs (bsl s) k).2.1 k)
            clear h39 h59 hq
            generalize pcs (bsl s) k = st at *
            obtain ⟨q, f, L⟩ := st
            simp only at *
            subst hq'
            obtain ⟨fn, tmps, assign, body, hy, hR⟩ := HY.out L _ wr HJ.out HPL.out hpl2
            rw [← HE.out] at hy
            clear hpl2
            gi_wp2
            refine ⟨fun h => (by cases h), hR.mono ?_⟩
            rintro e W3 ⟨rfl, hJ3, hk3⟩
            have HB13 := Lib.hid (hk3 _ _ HB1''.out)
            gi_wp2
            go_roundw
            case rel => exact ⟨k + 1, by omega, by go_num, by rw [HN.out], by rw [HN.out]; go_num, by rw [HN.out]; exact hJ3, HB13.out⟩
            case measure => simp [intOf]; omega
        · have n59 : ¬ ((s[k].toNat : Nat) : Int) = 59 := fun e => h59 ((u8_is (n := 59) (by decide)).2 e)
          rw [decide_eq_false (show ¬ s[k] = UInt8.ofNat 59 from h59)] at e59
          have HN := Lib.hid (HO.out (by rw [HG.out]; exact h39) (fun e => absurd (HG.out.symm.trans e) h59))
          clear h39 h59
          generalize pcs (bsl s) k = st at *
          obtain ⟨q, f, L⟩ := st
          simp only at *
          gi_wp2
          go_roundw
          case rel => exact ⟨k + 1, by omega, by go_num, by rw [HN.out], by rw [HN.out], by rw [HN.out]; exact HJ.out, HB1''.out⟩
          case measure => simp [intOf]; omega
    · obtain rfl : k = s.size := by omega
      have hltI : ¬ (s.size : Int) < (s.size : Int) := by omega
      have hpl2 : ((bsl s).drop (pcs (bsl s) s.size).2.1).length ≤ 70000 := by
        rw [List.length_drop]
        have := HLN.out
        omega
      have HE := Lib.hid (ext_tail s (pcs (bsl s) s.size).2.1)
      have HP := Lib.hid (show pieces (bsl s) = (pcs (bsl s) s.size).2.2 ++ [(bsl s).drop (pcs (bsl s) s.size).2.1] by unfold pieces; rw [HLN.out])
      have hfkI : ((pcs (bsl s) s.size).2.1 : Int) ≤ (s.size : Int) := by omega
      clear HQ HS HO
      generalize pcs (bsl s) s.size = st at *
      obtain ⟨q, f, L⟩ := st
      simp only at *
      obtain ⟨fn, tmps, assign, body, hy, hR⟩ := HY.out L _ wr HJ.out HPL.out hpl2
      rw [← HE.out] at hy
      clear hpl2
      gi_wp2
      refine ⟨fun h => (by cases h), hR.mono ?_⟩
      rintro e W3 ⟨rfl, hJ3, hk3⟩
      gi_wp2
      go_end0
      refine ⟨⟨_, rfl⟩, ?_⟩
      rw [HP.out]
      exact hJ3
theorem pieces_any (s : ByteArray) (w : World) :
    Calls Tryz.prog 16 #[.string s] w fun e w' => e = .returned (.func (.func 25) #[] #[.pointer (some ⟨w.heap.size, 0, none⟩)]) ∧ w' = w.alloc (.cells #[.string s] 9) := by
  go_enter Tryz.func16, Tryz.ntmps16
  go_wp2_with fail
  go_ret
  exact ⟨rfl, rfl⟩
def tV (l : List UInt8) : Value := .string ⟨l.toArray⟩
def stL (pre : List BA) : List (List UInt8) := (pre.map fun x => trimB blankL (bsl x.1)).filter fun p => !p.isEmpty
theorem stL_snoc (pre : List BA) (x : BA) : stL (pre ++ [x]) = stL pre ++ if trimB blankL (bsl x.1) = [] then [] else [trimB blankL (bsl x.1)] := by
  unfold stL
  rw [List.map_append, List.filter_append]
  cases h : trimB blankL (bsl x.1) <;> simp [h]
theorem stL_len (pre : List BA) : (stL pre).length ≤ pre.length := by
  unfold stL
  refine Nat.le_trans (List.length_filter_le _ _) ?_
  rw [List.length_map]
  exact Nat.le_refl _
theorem stL_all (s : ByteArray) (hs : s.size ≤ 70000) : stL ((pieces (bsl s)).map mkB) = splitT (bsl s) := by
  unfold stL splitT
  congr 1
  rw [List.map_map]
  refine List.map_congr_left fun p hp => ?_
  have := pieces_le (bsl s) p hp
  rw [bsl_length] at this
  show trimB blankL (bsl (mkB p).1) = _
  rw [mkB_val (by omega)]
  simp [bsl]
theorem ownsRow_weak {W : World} {B B' n : Nat} {t : TypeId} {v : Value} {xs : List Value} (h : W.ownsRow B t 1 v n xs) (hB : B' ≤ B) : W.ownsRow B' t 1 v n xs := by
  obtain ⟨h1, h2⟩ := h
  refine ⟨h1, ?_⟩
  rcases h2 with h2 | ⟨g, c, cur, hv, hb, h3⟩
  · exact .inl h2
  · exact .inr ⟨g, c, cur, hv, Nat.le_trans hB hb, h3⟩
theorem keepsFrom_ext {B : Nat} {W W' : World} (h : Below W.heap.size W W') : KeepsFrom B W W' := ⟨h.size, fun i _ _ hi _ => (h.block i (Array.getElem?_eq_some_iff.1 hi).1).trans hi⟩
theorem clipT_any {w : World} {v : Value} {xs : List Value} (h : ReadsL w v xs) (W : World) : Calls Tryz.prog 18 #[v] W fun e w' => e = .returned (clip v) ∧ W = w' := by
  rcases h with ⟨rfl, rfl⟩ | ⟨g, c, rfl, hc, _⟩
  · go_enter Tryz.func18, Tryz.ntmps18
    go_wp2_with fail
    go_ret
    exact ⟨rfl, rfl⟩
  · have hcI : (xs.length : Int) ≤ (c : Int) := by omega
    go_enter Tryz.func18, Tryz.ntmps18
    go_wp2_with fail
    go_ret
    exact ⟨rfl, rfl⟩
theorem infoStrS : (Tryz.prog.info? 9).map (fun i => (i.zero, i.size, i.bytes)) = some (some (.string ⟨#[]⟩), 1, 16) := by kernel_rfl
theorem str_ne {l : List UInt8} (h : l ≠ []) : ((⟨l.toArray⟩ : ByteArray).toList == []) = false := by
  rw [ByteArray.toList_eq]
  simpa using h
def SpI (w W0 : World) (pre : List BA) (W : World) : Prop := (∃ v, Boxed W w.heap.size 37 v ∧ W.ownsRow W0.heap.size 9 1 v (stL pre).length ((stL pre).map tV) ∧ ((stL pre).length = 0 → v = .slice none 0 0)) ∧ Below w.heap.size w W ∧ W0.heap.size ≤ W.heap.size
set_option maxHeartbeats 4000000 in
theorem split_any (s : ByteArray) (w : World) (hs : s.size ≤ 70000) :
    Calls Tryz.prog 9 #[.string s] w fun e w' => ∃ v, e = .returned v ∧ ReadsL w' v ((splitT (bsl s)).map tV) ∧ Below w.heap.size w w' := by
  obtain ⟨i0, hi, hz0, hz1, hz2⟩ := info_parts infoStrS
  have HSz := Lib.hid hs
  have HAll := Lib.hid (stL_all s hs)
  clear hs
  refine (callsIn_wide (n := 6)).1 ?_
  refine callsIn_of_wp_marks Tryz.func9 rfl trivial ?_ rfl
  simp only [Tryz.ntmps9, List.size_toArray, List.length_cons, List.length_nil, Nat.reduceAdd, Nat.reduceSub, Array.replicate_succ, Array.replicate_zero, List.push_toArray, List.append_toArray, List.nil_append, List.cons_append]
  gi_wp2
  refine ⟨trivial, (callsIn_wide.2 (pieces_any s _)).mono ?_⟩
  rintro e w1 ⟨rfl, rfl⟩
  gi_wp2
  have bO : Boxed ((w.alloc (.cells #[.slice none 0 0] 37)).alloc (.cells #[.string s] 9)) w.heap.size 37 (.slice none 0 0) := ((Blk.new w #[.slice none 0 0] 37 (n := w.heap.size) rfl).alloc _)
  have bT : Blk ((w.alloc (.cells #[.slice none 0 0] 37)).alloc (.cells #[.string s] 9)) (w.heap.size + 1) #[.string s] 9 := Blk.new _ _ _ (by simp)
  have hx0 : Below w.heap.size w ((w.alloc (.cells #[.slice none 0 0] 37)).alloc (.cells #[.string s] 9)) := ((Below.refl _ w).alloc (Nat.le_refl _) _).alloc (by simp) _
  have hsz : ((w.alloc (.cells #[.slice none 0 0] 37)).alloc (.cells #[.string s] 9)).heap.size = w.heap.size + 2 := by simp
  generalize (w.alloc (.cells #[.slice none 0 0] 37)).alloc (.cells #[.string s] 9) = W0 at bO bT hx0 hsz ⊢
  have hpc : (pieces (bsl s)).length ≤ 70001 := by
    have := pieces_count (bsl s)
    rw [bsl_length] at this
    have := HSz.out
    omega
  have HPC := Lib.hid hpc
  clear hpc
  refine wpIn_range_box (F := Fence.wide) (n := 6) (xs := (pieces (bsl s)).map mkB) rfl (by decide) (gf := 25) (lb := #[.pointer (some ⟨w.heap.size + 1, 0, none⟩)]) rfl trivial (enters_of Tryz.func25 (by kernel_rfl) rfl)
    (pieces_hands _ s _ W0 bT HSz.out) keepT_t keepT_b (by rw [hsz]; omega) (fun _ => rfl)
    (SpI w W0)
    (OwnFrom.and (Own.from (holdsRow_own W0.heap.size w.heap.size 37 9 1 (fun (pre : List BA) => (stL pre).length) (fun (pre : List BA) => (stL pre).map tV) (fun (pre : List BA) v => (stL pre).length = 0 → v = .slice none 0 0)) _) (OwnFrom.and (ownFrom_below (Nat.le_refl _) (by rw [hsz]; omega)) (fun _ _ _ _ hs hg _ => Nat.le_trans hs hg.size)))
    (fun W v h => by
      obtain ⟨⟨v0, h1, h2, h3⟩, h4, h6⟩ := h
      have h5 := h3 rfl
      subst h5
      exact ⟨⟨_, h1.other (by show w.heap.size ≠ w.heap.size + 1; omega) v, World.ownsRow_nil _ _ _ _, fun _ => rfl⟩, Below.setCell h4 (by show w.heap.size ≤ w.heap.size + 1; omega) _, by simpa using h6⟩)
    ⟨⟨_, bO, World.ownsRow_nil _ _ _ _, fun _ => rfl⟩, hx0, Nat.le_refl _⟩
    (fun y => { tmps := #[.string s, undef, .slice none 0 0, .pointer (some ⟨w.heap.size, 0, none⟩), .string y.1, .string s, .func (.func 25) #[] #[.pointer (some ⟨w.heap.size + 1, 0, none⟩)], .string y.1, undef, undef, undef, undef, undef, undef, undef, undef, undef, undef], defers := [] }) ?assign ?body ?done
  case assign =>
    intro l y W K hK
    simp only [encB]
    gi_wp2
    exact hK
  case body =>
    rintro l pre ⟨y, hy⟩ W ⟨⟨v, hv, hrow, hnil⟩, hB, hW0⟩ hlt
    have HN := Lib.hid (stL_snoc pre ⟨y, hy⟩)
    have hpl : (stL pre).length ≤ 70001 := by
      have h1 := stL_len pre
      have h2 := HPC.out
      rw [List.length_map] at hlt
      omega
    have hc := hv.cell
    simp only at HN
    gi_wp2
    refine ⟨trivial, (CallsIn.inRound l (callsIn_wide.2 (trim_blank y W (by omega)))).mono ?_⟩
    rintro e w1 ⟨rfl, hb1⟩
    have hv' : Boxed w1 w.heap.size 37 v := Blk.keep hv hb1
    have hrow' : w1.ownsRow W0.heap.size 9 1 v (stL pre).length ((stL pre).map tV) := hrow.kept (row := none) ⟨hb1.os, hb1.tape, hb1.output, hb1.size, fun i hi _ => hb1.block i hi⟩ (by
      rcases hrow.2 with ⟨rfl, _⟩ | ⟨g, cap, cur, rfl, _⟩
      · exact .inl rfl
      · exact .inr (by simp [Value.ownBlock]))
    have hB' : Below w.heap.size w w1 := hB.trans (hb1.mono hB.size)
    have hkT : KeepT (w.heap.size + 1) W w1 := fun cs t hb => hb.keep hb1
    have HKF := Lib.hid (keepsFrom_ext (B := W0.heap.size) hb1)
    have hsz1 : W0.heap.size ≤ w1.heap.size := Nat.le_trans hW0 hb1.size
    clear hv hrow hB hc hb1
    have hc := hv'.cell
    have hf := hv'.frozen
    generalize trimB blankL (bsl y) = t at HN ⊢
    by_cases ht : t = []
    · subst ht
      rw [if_pos rfl, List.append_nil] at HN
      gi_wp2
      exact ⟨HKF.out, hkT, ⟨_, hv', by rw [HN.out]; exact hrow', by rw [HN.out]; exact hnil⟩, hB', hsz1⟩
    · have hse : t.isEmpty = false := by simpa using ht
      rw [if_neg ht] at HN
      have hl8 : w.heap.size + 1 < w1.heap.size := by omega
      gi_wp2_with (gi_at_builtin; refine wpListIn_append_own _ rfl _ _ 37 rfl W0.heap.size 9 i0 (.string ⟨#[]⟩) 1 16 Tryz.underlying37 hi hz0 hz1 hz2 rfl (by decide) _ _ _ rfl (hrow'.alloc _) ⟨w1.heap.size, 0, none⟩ 1 1 [.string ⟨t.toArray⟩] rfl rfl (cell_one_new _ _ _) (by simp [Value.oneCell']) (by unfold maxLen; omega) (by omega) (by simp; omega) ?_; intro v' w2 hown' hgrow _; obtain ⟨g', cap', rfl⟩ := ownsRow_succ hown'; obtain ⟨hv1, hv2, hr2, hk2, hb2⟩ := hv'.appended (by decide) (ownsRow_weak hrow' hx0.size) hB'.size (Nat.le_refl _) (ownsRow_weak hown' hx0.size) hgrow; have hc1 := hv1.cell; have hf1 := hv1.frozen)
      refine ⟨HKF.out.trans (hk2.from _), keepT_t hkT (fun cs t0 hb => ?_), ⟨_, hv2, ?_, ?_⟩, hB'.trans hb2, ?_⟩
      · refine Blk.other ((hgrow.block _ (by simp; omega) (fun e => ?_)).trans (hb.alloc _)) (by show w.heap.size + 1 ≠ w.heap.size; omega) _
        rcases hrow'.2 with ⟨rfl, _⟩ | ⟨g, cap, cur, rfl, hg, _⟩
        · cases e
        · have e2 : some (w.heap.size + 1) = some g := e
          injection e2 with e2
          omega
      · rw [HN.out, List.length_append, List.map_append]
        exact hown'.kept (grownBy_setCell' _ _ _) (.inr (hv1.not_row (by decide) hown').symm)
      · rw [HN.out, List.length_append]
        intro h
        simp at h
      · exact Nat.le_trans hsz1 (Nat.le_trans (by simp) (Nat.le_trans hgrow.size (by simp)))
  case done =>
    rintro D W hD ⟨⟨v, hv, hrow, hnil⟩, hB, hW0⟩ hK
    have hc := hv.cell
    rw [HAll.out] at hrow hnil
    have hr := ownsRow_reads hrow
    gi_wp2
    refine ⟨trivial, (callsIn_wide.2 (clipT_any hr W)).mono ?_⟩
    rintro e w1 ⟨rfl, rfl⟩
    gi_wp2
    refine ⟨by simp, .inl ⟨_, _, rfl, run_takeDeferred hK, ?_⟩⟩
    exact ⟨_, results_tmp rfl _ _ _, clip v, rfl, (ownsRow_reads (ownsRow_putObj hrow _ hK rfl)).clip, hB.trans (belowK_b (w := w) (Nat.le_refl _) W D _ _ (by omega) hK rfl rfl)⟩
end Go.Proofs.YtchpbdodlbghaaaGreatDoor
