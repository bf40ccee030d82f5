/-
  Names of collations (reg.Name): strings.Trim at a set of ASCII bytes, of a text whose bytes all lie in it.
-/
import Derived.Test.YtaoikbpolckobaaGreatDoorShelf
import Derived.Test.YtaoikbpolckobaaGreatDoorBase
namespace Go.Proofs.YtaoikbpolckobaaGreatDoor
open Go.RowKit Go.Lib
set_option maxRecDepth 100000

/-- Each byte of the text stands in the set. -/
def AllIn (l : List UInt8) (t : ByteArray) : Prop := ∀ x ∈ t.data.toList, x ∈ l
set_option maxHeartbeats 4000000 in
theorem trimRight_all (b : Nat) (l : List UInt8) (s : ByteArray) (w : World) (hS : ∀ x : UInt8, x ∈ l → w.cell? ⟨b, x.toNat, none⟩ = some (.bool true)) (ha : AllIn l s) (hs : s.size ≤ 1000000) :
    Calls Tryz.prog 130 #[.string s, .pointer (some ⟨b, 0, none⟩)] w fun e w' => e = .returned (.string ⟨#[]⟩) ∧ w' = w := by
  have HS := Lib.hid hS
  have HA := Lib.hid ha
  clear hS ha
  go_enter Tryz.func130, Tryz.ntmps130
  repeat (first | go_values | go_skip | go_guarded | go_step | go_upon)
  go_loopw [0] (fun v W => ∃ t : ByteArray, v = .string t ∧ AllIn l t ∧ t.size ≤ s.size ∧ W = w) (fun v _ => match v with | .string t => t.size | _ => 0)
  case atStart => exact ⟨s, rfl, HA.out, Nat.le_refl _, rfl⟩
  case round =>
    obtain ⟨t, rfl, ht, hts, rfl⟩ := hrel
    have HT := Lib.hid ht
    clear ht
    by_cases h0 : 0 < t.size
    · go_wp2_with fail
      have hx : t[t.size - 1]'(by omega) ∈ l := HT.out _ (by simp [ByteArray.getElem_eq_getElem_data])
      refine (Tryz.asciiSet_contains b (t[t.size - 1]'(by omega)) true _ (HS.out _ hx)).mono ?_
      rintro e w2 ⟨rfl, rfl⟩
      go_simp
      repeat (first | go_values | go_skip | go_guarded | go_step | go_upon)
      go_roundw
      case rel =>
        refine ⟨_, rfl, fun x hx => HT.out x ?_, by simp [ByteArray.size_extract]; omega, trivial⟩
        simp [ByteArray.data_extract] at hx
        exact List.dropLast_subset _ hx
      case measure => simp [ByteArray.size_extract]; omega
    · have ht0 : t = ⟨#[]⟩ := by
        have h1 : t.size = 0 := by omega
        have h2 : t.data.size = 0 := h1
        cases t with
        | mk d => exact congrArg ByteArray.mk (Array.size_eq_zero_iff.1 h2)
      subst ht0
      repeat (first | go_values | go_skip | go_guarded | go_step | go_upon)
      go_ret
      exact ⟨rfl, rfl⟩
theorem trimLeft_none (b : Nat) (w : World) : Calls Tryz.prog 129 #[.string ⟨#[]⟩, .pointer (some ⟨b, 0, none⟩)] w fun e w' => e = .returned (.string ⟨#[]⟩) ∧ w' = w := by
  go_enter Tryz.func129, Tryz.ntmps129
  repeat (first | go_values | go_skip | go_guarded | go_step | go_upon)
  go_loopw [0] (fun v W => v = .string ⟨#[]⟩ ∧ W = w) (fun _ _ => 0)
  case atStart => exact ⟨rfl, rfl⟩
  case round =>
    obtain ⟨rfl, rfl⟩ := hrel
    repeat (first | go_values | go_skip | go_guarded | go_step | go_upon)
    go_ret
    exact ⟨rfl, rfl⟩
/-- The bytes that names may have. -/
def nmL : List UInt8 := [97, 98, 99, 100, 101, 102, 103, 104, 105, 106, 107, 108, 109, 110, 111, 112, 113, 114, 115, 116, 117, 118, 119, 120, 121, 122, 48, 49, 50, 51, 52, 53, 54, 55, 56, 57, 95]
theorem zeroSet : ∀ w, (zeroValue 231).run Tryz.prog w = .ok (.agg (Array.replicate 256 (.bool false))) w := fun _ => by kernel_rfl
theorem infoSet : (Tryz.prog.info? 231).map (·.size) = some 256 := by kernel_rfl
set_option maxHeartbeats 4000000 in
theorem trim_all (s : ByteArray) (w : World) (hse : (s.toList == []) = false) (hs : s.size ≤ 1000000) (ha : AllIn nmL s) :
    Calls Tryz.prog 80 #[.string s, .string ⟨nmL.toArray⟩] w fun e w' => e = .returned (.string ⟨#[]⟩) ∧ Below w.heap.size w w' := by
  have HA := Lib.hid ha
  clear ha
  have hce : nmL.isEmpty = false := rfl
  have hcl : (nmL.length : Int) = 37 := rfl
  go_enter Tryz.func80, Tryz.ntmps80
  repeat (first | go_values | go_skip | go_guarded | go_step | go_upon)
  refine (Tryz.strings_makeASCIISet zeroSet ⟨nmL.toArray⟩ _ (by decide) ?_).mono ?_
  · intro j b hj
    have hm := List.mem_of_getElem? hj
    have hall : ∀ b ∈ nmL, b.toNat < 128 := by decide
    exact hall b hm
  rintro e w2 ⟨rfl, rfl⟩
  generalize hSC : Lib.setCells (⟨nmL.toArray⟩ : ByteArray).data.toList = sc
  have hsz : sc.size = 256 := by rw [← hSC]; exact Lib.setCells_size _
  have hall : sc.all (·.oneCell') = true := by
    rw [← hSC, Lib.setCells_eq, Array.all_eq_true]
    intro i hi
    simp [Value.oneCell']
  have hin : ∀ x : UInt8, x ∈ nmL → sc[x.toNat]? = some (.bool true) := by
    intro x hx
    rw [← hSC, Lib.setCells_at]
    simp [hx]
  have HSZ := Lib.hid hsz
  have HAL := Lib.hid hall
  have HIN := Lib.hid hin
  clear hSC hsz hall hin
  have hz := zeroSet
  go_simp
  go_wp2_with (refine wpList_store_row rfl 231 (.tmp 5) (.tmp 32) rfl (w.heap.size + 1) sc rfl rfl 231 (Array.replicate 256 (.bool false)) (Blk.new (w.alloc (.cells sc 231)) (Array.replicate 256 (.bool false)) 231 (by simp)) (by rw [HSZ.out]; exact infoSet) (by rw [HSZ.out, Array.size_replicate]) HAL.out ?_)
  rw [show ((w.alloc (.cells sc 231)).alloc (.cells (Array.replicate 256 (.bool false)) 231)).setRow (w.heap.size + 1) sc = (w.alloc (.cells sc 231)).alloc (.cells sc 231) from by
    have := World.setRow_alloc_new (w.alloc (.cells sc 231)) (Array.replicate 256 (.bool false)) sc 231
    simpa using this]
  clear hz
  have hB : Blk ((w.alloc (.cells sc 231)).alloc (.cells sc 231)) (w.heap.size + 1) sc 231 := Blk.new (w.alloc (.cells sc 231)) sc 231 (by simp)
  have hX : Below w.heap.size w ((w.alloc (.cells sc 231)).alloc (.cells sc 231)) := by go_grown
  generalize ((w.alloc (.cells sc 231)).alloc (.cells sc 231)) = W1 at hB hX ⊢
  repeat (first | go_values | go_skip | go_guarded | go_step | go_upon)
  refine (trimRight_all (w.heap.size + 1) nmL s W1 (fun x hx => (hB.cell _).trans (HIN.out x hx)) HA.out hs).mono ?_
  rintro e w3 ⟨rfl, rfl⟩
  go_simp
  repeat (first | go_values | go_skip | go_guarded | go_step | go_upon)
  refine (trimLeft_none (w.heap.size + 1) _).mono ?_
  rintro e w4 ⟨rfl, rfl⟩
  go_simp
  repeat (first | go_values | go_skip | go_guarded | go_step | go_upon)
  go_ret
  exact ⟨rfl, hX⟩
/-- Small letters. -/
def lowF (c : Int) : Int := if 65 ≤ c ∧ c ≤ 90 then c + 32 else c
theorem low_any (x : Int) (h0 : 0 ≤ x) (h1 : x ≤ 1114111) (w : World) : Calls Tryz.prog 79 #[.int .i32 x] w fun e w' => e = .returned (.int .i32 (lowF x)) ∧ w' = w := by
  have hw : IntKind.i32.wrap (x + 32) = x + 32 := by
    simp [IntKind.wrap, IntKind.signed, IntKind.bits]
    omega
  go_enter Tryz.func79, Tryz.ntmps79
  go_wp2_with fail
  all_goals
    go_ret
    refine ⟨?_, rfl⟩
    unfold lowF
    first
      | (rw [if_pos (by omega)]; simp_all; done)
      | (rw [if_neg (by omega)]; rfl)
theorem mapLow (w : World) : MapAtRunes Tryz.prog 79 #[] lowF w := by
  intro W x hx _
  refine (low_any (x : Int) (by omega) (by omega) W).mono ?_
  rintro e w' ⟨rfl, rfl⟩
  exact ⟨rfl, 0, rfl⟩
set_option maxHeartbeats 4000000 in
theorem name_any (s m : ByteArray) (w : World) (hm : (Lib.mapD lowF s.data.toList).toArray = m.data) (hse : (s.toList == []) = false) (hme : (m.toList == []) = false) (h0 : 0 < s.size) (hs : s.size ≤ 16) (hb : 57 < (s[0]'h0).toNat) (hms : m.size ≤ 1000) (hall : AllIn nmL m) (hT : Lib.Utf8Tabs 0 1 w) :
    Calls Tryz.prog 41 #[.string s] w fun e w' => e = .returned (.tuple #[.string m, .bool true]) ∧ Below w.heap.size w w' := by
  have HT := Lib.hid hT
  have HM := Lib.hid hm
  have HA := Lib.hid hall
  clear hT hm hall
  go_enter Tryz.func41, Tryz.ntmps41
  go_wp2_with fail
  refine (Tryz.strings_Map_runes 79 #[] (fun _ _ => by kernel_rfl) lowF s w (by omega) (mapLow w) (fun x hx => by unfold lowF; split <;> omega) HT.out).mono ?_
  rintro e w2 ⟨rfl, hb2⟩
  rw [HM.out]
  have HX2 := Lib.hid hb2
  clear hb2
  go_simp
  repeat (first | go_values | go_skip | go_guarded | go_step | go_upon)
  refine (trim_all m _ hme (by omega) HA.out).mono ?_
  rintro e w3 ⟨rfl, hb3⟩
  have HX3 : Hid (Below w.heap.size w w3) := Lib.hid (HX2.out.trans (hb3.mono HX2.out.size))
  clear hb3
  go_simp
  repeat (first | go_values | go_skip | go_guarded | go_step | go_upon)
  go_ret2
  exact ⟨rfl, HX3.out⟩
end Go.Proofs.YtaoikbpolckobaaGreatDoor
