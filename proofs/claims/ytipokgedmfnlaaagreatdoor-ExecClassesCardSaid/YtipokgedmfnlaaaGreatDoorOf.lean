/-
  A sign as a table's key (table.key at one sign). A sign's elements by the first table (Table.at): an entry's, or those of a sign that is no entry (Implicit). The elements of signs, of a text, by the first table (Table.Of, Table.Elements).
-/
import Derived.Test.YtipokgedmfnlaaaGreatDoorTrieG
namespace Go.Proofs.YtipokgedmfnlaaaGreatDoor
open Go.RowKit Go.Lib
set_option maxRecDepth 100000

theorem ret_seq2 {t u : Tmp} {fn : Func} (h : fn.results = #[.cell t 146, .tmp u]) (tmps : Array Value) {w : World} {g : Nat} {cs : Array Value} (hc : cs.size = 3) (hp : tmps.getD t undef = .pointer (some ⟨g, 0, none⟩)) (hg : Blk w g cs 146) :
    (results fn tmps).run Tryz.prog w = .ok (.tuple #[.agg cs, tmps.getD u undef]) w := by
  have hp' : tmps[t]?.getD undef = .pointer (some ⟨g, 0, none⟩) := by simpa using hp
  have hr := run_loadVar_row w g 146 146 cs (0, 0) _ hg Tryz.underlying146 rfl (by rw [hc]; kernel_rfl)
  simp [results, h, hp', asAddr, hr]
theorem blk3 {W : World} {g : Nat} {a b c : Value} {t : TypeId} (h : Blk W g #[a, b, c] t) (a' b' c' : Value) :
    Blk (((W.setCell ⟨g, 0, none⟩ a').setCell ⟨g, 1, none⟩ b').setCell ⟨g, 2, none⟩ c') g #[a', b', c'] t := ((h.set 0 a').set 1 b').set 2 c'
set_option maxHeartbeats 4000000 in
theorem key_one (g a cap c : Nat) (w : World) (hcell : w.cell? ⟨g, a, none⟩ = some (.int .i64 (c : Int))) (hs : isSign c = true) (hc : c ≤ 1114367) :
    Calls Tryz.prog 229 #[.slice (some ⟨g, a, none⟩) 1 cap] w fun e w' => e = .returned (.tuple #[kS c, .bool true]) ∧ Below w.heap.size w w' := by
  have KS := Lib.hid (isSign_any c hs)
  have hgl := World.block_lt_of_cell? w _ hcell
  have hI : (c : Int) ≤ 1114367 := by omega
  go_enter Tryz.func229, Tryz.ntmps229
  go_wp2_with fail
  have c0 : ((w.alloc (.cells #[.int .i64 0, .int .i64 0, .int .i64 0] 146)).alloc (.cells #[.int .i64 0, .int .i64 0, .int .i64 0] 146)).cell? ⟨g, a, none⟩ = some (.int .i64 (c : Int)) := by
    rw [(((Ext.refl w).alloc _).alloc _ : Ext w _).cell (p := ⟨g, a, none⟩) hgl]
    exact hcell
  have hA : Blk ((w.alloc (.cells #[.int .i64 0, .int .i64 0, .int .i64 0] 146)).alloc (.cells #[.int .i64 0, .int .i64 0, .int .i64 0] 146)) w.heap.size #[.int .i64 0, .int .i64 0, .int .i64 0] 146 := (Blk.new w _ _ rfl).alloc _
  have hB : Blk ((w.alloc (.cells #[.int .i64 0, .int .i64 0, .int .i64 0] 146)).alloc (.cells #[.int .i64 0, .int .i64 0, .int .i64 0] 146)) (w.heap.size + 1) #[.int .i64 0, .int .i64 0, .int .i64 0] 146 := Blk.new _ _ _ (by simp)
  have hb : Below w.heap.size w ((w.alloc (.cells #[.int .i64 0, .int .i64 0, .int .i64 0] 146)).alloc (.cells #[.int .i64 0, .int .i64 0, .int .i64 0] 146)) := ((Below.refl _ _).alloc (Nat.le_refl _) _).alloc (by simp) _
  generalize ((w.alloc (.cells #[.int .i64 0, .int .i64 0, .int .i64 0] 146)).alloc (.cells #[.int .i64 0, .int .i64 0, .int .i64 0] 146)) = W at c0 hA hB hb ⊢
  have HA := Lib.hid hA
  have HB := Lib.hid hB
  have HX := Lib.hid hb
  obtain ⟨cb, fb⟩ := hB.facts
  obtain ⟨ca, fa⟩ := hA.facts
  have hla := hA.lt
  have hlb := hB.lt
  clear hA hB hb
  refine wp_loop_rounds 2 ?_
  rw [rounds_succ]
  go_wp2_with fail
  refine (KS.out _).mono ?_
  rintro e w1 ⟨rfl, rfl⟩
  go_simp
  go_wp2_with fail
  rw [rounds_succ]
  go_wp2_with fail
  refine bodyPost_ret (ret_seq2 rfl _ rfl rfl (blk3 (HA.out.other (a := ⟨w.heap.size + 1, 0, none⟩) (by simp) _) _ _ _)) rfl ?_
  exact ⟨rfl, (((HX.out.setCell (by simp) _).setCell (by simp) _).setCell (by simp) _).setCell (by simp) _⟩
end Go.Proofs.YtipokgedmfnlaaaGreatDoor

namespace Go.Proofs.YtipokgedmfnlaaaGreatDoor
open Go.RowKit Go.Lib
set_option maxRecDepth 100000

theorem i64_bits (op : BinOp) (f : Nat → Nat → Nat) (x y : Nat) (hx : x < 4611686018427387904) (hy : y < 4611686018427387904) (hf : f x y < 4611686018427387904)
    (hop : ∀ a b : Int, bits op .i64 a b = IntKind.i64.wrap ((f (a % 2 ^ IntKind.i64.bits).toNat (b % 2 ^ IntKind.i64.bits).toNat : Nat) : Int)) : bits op .i64 (x : Int) (y : Int) = ((f x y : Nat) : Int) := by
  have e1 : ((x : Int) % 2 ^ IntKind.i64.bits).toNat = x := by
    rw [show (2 : Int) ^ IntKind.i64.bits = 18446744073709551616 from rfl]; omega
  have e2 : ((y : Int) % 2 ^ IntKind.i64.bits).toNat = y := by
    rw [show (2 : Int) ^ IntKind.i64.bits = 18446744073709551616 from rfl]; omega
  rw [hop, e1, e2]
  simp [IntKind.wrap, IntKind.signed, IntKind.bits]
  omega
theorem low15 (c : Nat) (h : c ≤ 1114367) : bits .or .i64 32768 (bits .and .i64 (c : Int) 32767) = 32768 + (c : Int) % 32768 := by
  have hm : c &&& 32767 = c % 32768 := by rw [show 32767 = 2 ^ 15 - 1 from rfl, Nat.and_two_pow_sub_one_eq_mod]
  have h1 : bits .and .i64 (c : Int) 32767 = ((c % 32768 : Nat) : Int) := by
    rw [show (32767 : Int) = ((32767 : Nat) : Int) from rfl, i64_bits .and (· &&& ·) c 32767 (by omega) (by omega) (by show c &&& 32767 < _; omega) (fun _ _ => rfl)]
    exact congrArg Nat.cast hm
  have ho := Nat.two_pow_add_eq_or_of_lt (show c % 32768 < 2 ^ 15 from Nat.mod_lt _ (by decide)) 1
  rw [show 2 ^ 15 * 1 = 32768 from rfl] at ho
  rw [h1, show (32768 : Int) = ((32768 : Nat) : Int) from rfl, i64_bits .or (· ||| ·) 32768 (c % 32768) (by omega) (by omega) (by show 32768 ||| c % 32768 < _; omega) (fun _ _ => rfl)]
  show ((32768 ||| c % 32768 : Nat) : Int) = _
  rw [← ho]
  rfl
set_option maxHeartbeats 2000000 in
theorem implicit_any (c : Nat) (hc : c ≤ 1114367) (hs : isSign c = true) (w : World) : Calls Tryz.prog 260 #[.int .i64 c] w fun e w' => (∃ v, e = .returned v ∧ ReadsL w' v (wordsV (implE c))) ∧ Below w.heap.size w w' := by
  have k1 := fun W => of_any (64256 + c / 32768) 32 2 false W (by unfold El.ok; simp only; omega)
  have k2 := fun W => of_any (32768 + c % 32768) 32 2 false W (by unfold El.ok; simp only; omega)
  have hI : (c : Int) ≤ 1114367 := by omega
  rw [show ((64256 + c / 32768 : Nat) : Int) = 64256 + (c : Int) / 32768 from rfl] at k1
  rw [show ((32768 + c % 32768 : Nat) : Int) = 32768 + (c : Int) % 32768 from rfl] at k2
  have K1 := Lib.hid k1
  have K2 := Lib.hid k2
  have KS := Lib.hid (isSign_any c hs)
  clear k1 k2
  go_enter Tryz.func260, Tryz.ntmps260
  go_wp2_with fail
  refine (KS.out _).mono ?_
  rintro e w1 ⟨rfl, rfl⟩
  go_simp
  go_wp2_with fail
  refine (K1.out _).mono ?_
  rintro e w1 ⟨rfl, rfl⟩
  have hb := low15 c hc
  go_simp
  go_wp2_with fail
  refine (K2.out _).mono ?_
  rintro e w1 ⟨rfl, rfl⟩
  go_simp
  go_wp2_with fail
  go_ret
  exact ⟨⟨_, rfl, reads_two⟩, by go_grown⟩
/-- Whether a sign has an entry, and which. -/
theorem RootTo.sign {w : World} {b : Nat} (h : RootTo w b 132) {c : Nat} (hc : c ∈ rootC) : ∃ L v, GMap Tryz.prog 146 w b L ∧ (kS c, v) ∈ L ∧ ReadsL w v (wordsV (elsC c)) := by
  obtain ⟨L, h1, h2, h3, h4⟩ := h
  obtain ⟨x, hx, rfl⟩ := List.mem_map.1 hc
  obtain ⟨i, hi, he⟩ := List.getElem_of_mem hx
  have hr : rootL[i]? = some (x.1, x.2) := by rw [List.getElem?_eq_getElem hi, he]
  have hi2 : i < 132 := by rw [← rootL_length]; exact hi
  obtain ⟨v, h5, h6⟩ := h4 i x.1 x.2 hi2 hr
  have hels : elsC x.1 = x.2 := by
    unfold elsC
    rw [rootAt_mem.2 (show (x.1, x.2) ∈ rootL from hx)]
    rfl
  exact ⟨L, v, h1, List.mem_of_getElem? h5, by rw [hels]; exact h6⟩
theorem elsC_not {c : Nat} (hc : c ∉ rootC) : elsC c = implE c := by
  unfold elsC
  cases h : rootAt c with
  | none => rfl
  | some l => exact absurd (List.mem_map.2 ⟨_, rootAt_mem.1 h, rfl⟩) hc
set_option maxHeartbeats 8000000 in
/-- A sign's elements. -/
theorem at_any (p g n cap a c : Nat) (w : World) (hp : RootAt w p) (han : a < n) (hnc : n ≤ cap) (hn : n ≤ 1000000) (hcell : w.cell? ⟨g, a, none⟩ = some (.int .i64 (c : Int))) (hs : isSign c = true) (hc : c ≤ 1114367) :
    Calls Tryz.prog 222 #[.pointer (some ⟨p, 0, none⟩), .slice (some ⟨g, 0, none⟩) n cap, .int .i64 a] w fun e w' => (∃ v, e = .returned (.tuple #[v, .int .i64 1]) ∧ ReadsL w' v (wordsV (elsC c))) ∧ Below w.heap.size w w' := by
  have HP := Lib.hid hp
  have HCell := Lib.hid hcell
  obtain ⟨b, T, f, hb, hR, hT, hf⟩ := hp
  have hgl := World.block_lt_of_cell? w _ hcell
  have hG := fun W (hW : Ext w W) => trieGet_any T f c W (hT.ext hW) hc (by rw [hf]; split <;> omega)
  have HG := Lib.hid hG
  have han' : (a : Int) < n := by omega
  have hnI : (n : Int) ≤ 1000000 := by omega
  have hwr : IntKind.i64.wrap ((n : Int) - a) = (n : Int) - a := by
    simp [IntKind.wrap, IntKind.signed, IntKind.bits]
    omega
  have hcI : (n : Int) ≤ cap := by omega
  have HF := Lib.hid (show ∀ W, Ext w W → W.cell? ⟨p, 1, none⟩ = some (.pointer (some ⟨T, 0, none⟩)) ∧ W.cell? ⟨g, a, none⟩ = some (.int .i64 (c : Int)) from
    fun W hW => ⟨(hb.keep hW).cell 1, by rw [hW.cell (p := ⟨g, a, none⟩) hgl]; exact hcell⟩)
  have hfv : (f c = 1 ∧ c ∈ rootC) ∨ (f c = 0 ∧ c ∉ rootC) := by
    rw [hf]
    by_cases h : c ∈ rootC
    · exact .inl ⟨if_pos h, h⟩
    · exact .inr ⟨if_neg h, h⟩
  have HFV := Lib.hid hfv
  have HB := Lib.hid hb
  have HR := Lib.hid hR
  obtain ⟨F, hF⟩ : ∃ F, F = f c := ⟨_, rfl⟩
  rw [← hF] at HG HFV
  clear hcell hb hR hT hf hG hfv hF
  go_enter Tryz.func222, Tryz.ntmps222
  go_wp2_with fail
  refine wp_par 15 (fun
      | 0 => fun v _ => v = .pointer (some ⟨p, 0, none⟩)
      | 1 => fun v _ => v = .pointer (some ⟨p, 0, none⟩)
      | 2 => fun v _ => v = .pointer (some ⟨p, 1, none⟩)
      | 3 => fun v _ => v = .pointer (some ⟨T, 0, none⟩)
      | 4 => fun v _ => v = .slice (some ⟨g, 0, none⟩) n cap
      | 5 => fun v _ => v = .int .i64 (a : Int)
      | 6 => fun v _ => v = .pointer (some ⟨g, a, none⟩)
      | 7 => fun v _ => v = .int .i64 (c : Int)
      | 8 => fun v _ => v = .int .i64 F
      | 9 => fun v _ => v = .slice (some ⟨g, 0, none⟩) n cap
      | 10 => fun v _ => v = .int .i64 (n : Int)
      | 11 => fun v _ => v = .int .i64 (a : Int)
      | 12 => fun v _ => v = .int .i64 ((n : Int) - a)
      | 13 => fun v _ => v = .int .i64 F
      | 14 => fun v _ => v = .int .i64 F
      | _ => fun _ _ => True) (by kernel_rfl) (by kernel_rfl) (by kernel_rfl) ?_ ?_
  · simp (maxSteps := 20000000) only [List.take_succ_cons, List.take_zero, ParAll, Act.put, List.setIfInBounds_toArray, List.set_cons_succ, List.set_cons_zero]
    refine ⟨?_, ?_, ?_, ?_, ?_, ?_, ?_, ?_, ?_, ?_, ?_, ?_, ?_, ?_, ?_, trivial⟩
    · intro vals W hx hd
      have hW := HF.out W hx
      simp [PDeps, pdeps, Region.binds] at hd
      first
        | refine ParOb.plain rfl ?_
        | refine ParOb.wanted (by simp [Region.wanted, yielded, hd]) ?_
      go_simp
      exact ParPost.same fun _ _ => rfl
    · intro vals W hx hd
      have hW := HF.out W hx
      simp [PDeps, pdeps, Region.binds] at hd
      first
        | refine ParOb.plain rfl ?_
        | refine ParOb.wanted (by simp [Region.wanted, yielded, hd]) ?_
      go_simp
      exact ParPost.same fun _ _ => rfl
    · intro vals W hx hd
      have hW := HF.out W hx
      simp [PDeps, pdeps, Region.binds] at hd
      first
        | refine ParOb.plain rfl ?_
        | refine ParOb.wanted (by simp [Region.wanted, yielded, hd]) ?_
      go_simp
      exact ParPost.same fun _ _ => rfl
    · intro vals W hx hd
      have hW := HF.out W hx
      simp [PDeps, pdeps, Region.binds] at hd
      first
        | refine ParOb.plain rfl ?_
        | refine ParOb.wanted (by simp [Region.wanted, yielded, hd]) ?_
      go_simp
      exact ParPost.same fun _ _ => rfl
    · intro vals W hx hd
      have hW := HF.out W hx
      simp [PDeps, pdeps, Region.binds] at hd
      first
        | refine ParOb.plain rfl ?_
        | refine ParOb.wanted (by simp [Region.wanted, yielded, hd]) ?_
      go_simp
      exact ParPost.same fun _ _ => rfl
    · intro vals W hx hd
      have hW := HF.out W hx
      simp [PDeps, pdeps, Region.binds] at hd
      first
        | refine ParOb.plain rfl ?_
        | refine ParOb.wanted (by simp [Region.wanted, yielded, hd]) ?_
      go_simp
      exact ParPost.same fun _ _ => rfl
    · intro vals W hx hd
      have hW := HF.out W hx
      simp [PDeps, pdeps, Region.binds] at hd
      first
        | refine ParOb.plain rfl ?_
        | refine ParOb.wanted (by simp [Region.wanted, yielded, hd]) ?_
      go_simp
      exact ParPost.same fun _ _ => rfl
    · intro vals W hx hd
      have hW := HF.out W hx
      simp [PDeps, pdeps, Region.binds] at hd
      first
        | refine ParOb.plain rfl ?_
        | refine ParOb.wanted (by simp [Region.wanted, yielded, hd]) ?_
      go_simp
      exact ParPost.same fun _ _ => rfl
    · intro vals W hx hd
      have hW := HF.out W hx
      simp [PDeps, pdeps, Region.binds] at hd
      first
        | refine ParOb.plain rfl ?_
        | refine ParOb.wanted (by simp [Region.wanted, yielded, hd]) ?_
      go_simp
      refine (HG.out W hx).mono ?_
      rintro e w9 ⟨rfl, rfl⟩
      exact ⟨_, rfl, Ext.refl _, fun _ _ => rfl⟩
    · intro vals W hx hd
      have hW := HF.out W hx
      simp [PDeps, pdeps, Region.binds] at hd
      first
        | refine ParOb.plain rfl ?_
        | refine ParOb.wanted (by simp [Region.wanted, yielded, hd]) ?_
      go_simp
      exact ParPost.same fun _ _ => rfl
    · intro vals W hx hd
      have hW := HF.out W hx
      simp [PDeps, pdeps, Region.binds] at hd
      first
        | refine ParOb.plain rfl ?_
        | refine ParOb.wanted (by simp [Region.wanted, yielded, hd]) ?_
      go_simp
      exact ParPost.same fun _ _ => rfl
    · intro vals W hx hd
      have hW := HF.out W hx
      simp [PDeps, pdeps, Region.binds] at hd
      first
        | refine ParOb.plain rfl ?_
        | refine ParOb.wanted (by simp [Region.wanted, yielded, hd]) ?_
      go_simp
      exact ParPost.same fun _ _ => rfl
    · intro vals W hx hd
      have hW := HF.out W hx
      simp [PDeps, pdeps, Region.binds] at hd
      first
        | refine ParOb.plain rfl ?_
        | refine ParOb.wanted (by simp [Region.wanted, yielded, hd]) ?_
      go_simp
      exact ParPost.same fun _ _ => rfl
    · intro vals W hx hd
      have hW := HF.out W hx
      simp [PDeps, pdeps, Region.binds] at hd
      first
        | refine ParOb.plain rfl ?_
        | refine ParOb.wanted (by simp [Region.wanted, yielded, hd]) ?_
      have hmin : min F ((n : Int) - a) = F := by rcases HFV.out with ⟨h, _⟩ | ⟨h, _⟩ <;> omega
      go_simp
      exact ParPost.same fun _ _ => rfl
    · intro vals W hx hd
      have hW := HF.out W hx
      simp [PDeps, pdeps, Region.binds] at hd
      first
        | refine ParOb.plain rfl ?_
        | refine ParOb.wanted (by simp [Region.wanted, yielded, hd]) ?_
      go_simp
      exact ParPost.same fun _ _ => rfl
  intro vals W hx hf
  simp (maxSteps := 20000000) only [ParFacts, List.take_succ_cons, List.take_zero, and_true] at hf
  simp (maxSteps := 20000000) only [List.drop_succ_cons, List.drop_zero, List.take_succ_cons, List.take_zero, ParEnd, Act.put, List.setIfInBounds_toArray, List.set_cons_succ, List.set_cons_zero, hf]
  clear hf
  rename World => W1
  have HX := Lib.hid hx
  have HW1 := Lib.hid (HF.out W1 hx)
  clear hx HF
  rcases HFV.out with ⟨hF1, hmem⟩ | ⟨hF0, hnot⟩
  · subst hF1
    obtain ⟨L, ev, hL, hin, hrd⟩ := HR.out.sign hmem
    have HL := Lib.hid hL
    have HIn := Lib.hid hin
    have HRd := Lib.hid hrd
    clear hL hin hrd HFV hmem
    go_wp2_with fail
    go_loopw [8] (fun m wr => m = .int .i64 1 ∧ wr = W1) (fun _ _ => 0)
    case atStart => exact ⟨rfl, rfl⟩
    case round =>
      obtain ⟨rfl, rfl⟩ := hrel
      go_wp2_with fail
      refine (key_one g a (cap - a) c wr HW1.out.2 hs hc).mono ?_
      rintro e w2 ⟨rfl, hb2⟩
      have HX2 := Lib.hid (Ext.trans HX.out hb2)
      clear hb2
      rw [show kS c = .agg #[.int .i64 ((c : Int) + 1), .int .i64 0, .int .i64 0] from rfl]
      go_simp
      go_wp2_with fail
      have hQ : Blk (w2.alloc (.cells #[.int .i64 ((c : Int) + 1), .int .i64 0, .int .i64 0] 146)) w2.heap.size #[.int .i64 ((c : Int) + 1), .int .i64 0, .int .i64 0] 146 := Blk.new w2 _ _ rfl
      have hx3 : Ext w (w2.alloc (.cells #[.int .i64 ((c : Int) + 1), .int .i64 0, .int .i64 0] 146)) := Ext.trans HX2.out ((Ext.refl w2).alloc _)
      generalize (w2.alloc (.cells #[.int .i64 ((c : Int) + 1), .int .i64 0, .int .i64 0] 146)) = W3 at hQ hx3 ⊢
      generalize w2.heap.size = qb at hQ ⊢
      have HX3 := Lib.hid hx3
      have HF := Lib.hid (show ∀ W, Ext W3 W → W.cell? ⟨p, 0, none⟩ = some (.map (some b)) ∧ W.cell? ⟨qb, 0, none⟩ = some (.int .i64 ((c : Int) + 1)) ∧ W.cell? ⟨qb, 1, none⟩ = some (.int .i64 0) ∧ W.cell? ⟨qb, 2, none⟩ = some (.int .i64 0) ∧
          (Instr.lookup 143 (.map (some b)) (.agg #[.int .i64 ((c : Int) + 1), .int .i64 0, .int .i64 0]) true).run Tryz.prog W = .ok (.tuple #[ev, .bool true]) W from
        fun W hW => ⟨(HB.out.keep (Ext.trans HX3.out hW)).cell 0, (hQ.keep hW).cell 0, (hQ.keep hW).cell 1, (hQ.keep hW).cell 2, (HL.out.keep (Ext.trans HX3.out hW)).run_hit keyedSeq Tryz.underlying143 HIn.out true⟩)
      clear hQ hx3
      refine wp_par 11 (fun
          | 0 => fun v _ => v = .pointer (some ⟨p, 0, none⟩)
          | 1 => fun v _ => v = .pointer (some ⟨p, 0, none⟩)
          | 2 => fun v _ => v = .pointer (some ⟨p, 0, none⟩)
          | 3 => fun v _ => v = .map (some b)
          | 4 => fun v _ => v = .agg #[.int .i64 ((c : Int) + 1), .int .i64 0, .int .i64 0]
          | 5 => fun v _ => v = .tuple #[ev, .bool true]
          | 6 => fun v _ => v = .tuple #[ev, .bool true]
          | 7 => fun v _ => v = ev
          | 8 => fun v _ => v = .bool true
          | 9 => fun v _ => v = ev
          | 10 => fun v _ => v = .bool true
          | _ => fun _ _ => True) (by kernel_rfl) (by kernel_rfl) (by kernel_rfl) ?_ ?_
      · simp (maxSteps := 20000000) only [List.take_succ_cons, List.take_zero, ParAll, Act.put, List.setIfInBounds_toArray, List.set_cons_succ, List.set_cons_zero]
        refine ⟨?_, ?_, ?_, ?_, ?_, ?_, ?_, ?_, ?_, ?_, ?_, trivial⟩
        · intro vals W hx hd
          have hW := HF.out W hx
          simp [PDeps, pdeps, Region.binds] at hd
          first
            | refine ParOb.plain rfl ?_
            | refine ParOb.wanted (by simp [Region.wanted, yielded, hd]) ?_
          go_simp
          exact ParPost.same fun _ _ => rfl
        · intro vals W hx hd
          have hW := HF.out W hx
          simp [PDeps, pdeps, Region.binds] at hd
          first
            | refine ParOb.plain rfl ?_
            | refine ParOb.wanted (by simp [Region.wanted, yielded, hd]) ?_
          go_simp
          exact ParPost.same fun _ _ => rfl
        · intro vals W hx hd
          have hW := HF.out W hx
          simp [PDeps, pdeps, Region.binds] at hd
          first
            | refine ParOb.plain rfl ?_
            | refine ParOb.wanted (by simp [Region.wanted, yielded, hd]) ?_
          go_simp
          exact ParPost.same fun _ _ => rfl
        · intro vals W hx hd
          have hW := HF.out W hx
          simp [PDeps, pdeps, Region.binds] at hd
          first
            | refine ParOb.plain rfl ?_
            | refine ParOb.wanted (by simp [Region.wanted, yielded, hd]) ?_
          go_simp
          exact ParPost.same fun _ _ => rfl
        · intro vals W hx hd
          have hW := HF.out W hx
          simp [PDeps, pdeps, Region.binds] at hd
          first
            | refine ParOb.plain rfl ?_
            | refine ParOb.wanted (by simp [Region.wanted, yielded, hd]) ?_
          go_simp
          exact ParPost.same fun _ _ => rfl
        · intro vals W hx hd
          have hW := HF.out W hx
          simp [PDeps, pdeps, Region.binds] at hd
          first
            | refine ParOb.plain rfl ?_
            | refine ParOb.wanted (by simp [Region.wanted, yielded, hd]) ?_
          go_simp
          exact ParPost.same fun _ _ => rfl
        · intro vals W hx hd
          have hW := HF.out W hx
          simp [PDeps, pdeps, Region.binds] at hd
          first
            | refine ParOb.plain rfl ?_
            | refine ParOb.wanted (by simp [Region.wanted, yielded, hd]) ?_
          go_simp
          exact ParPost.same fun _ _ => rfl
        · intro vals W hx hd
          have hW := HF.out W hx
          simp [PDeps, pdeps, Region.binds] at hd
          first
            | refine ParOb.plain rfl ?_
            | refine ParOb.wanted (by simp [Region.wanted, yielded, hd]) ?_
          go_simp
          exact ParPost.same fun _ _ => rfl
        · intro vals W hx hd
          have hW := HF.out W hx
          simp [PDeps, pdeps, Region.binds] at hd
          first
            | refine ParOb.plain rfl ?_
            | refine ParOb.wanted (by simp [Region.wanted, yielded, hd]) ?_
          go_simp
          exact ParPost.same fun _ _ => rfl
        · intro vals W hx hd
          have hW := HF.out W hx
          simp [PDeps, pdeps, Region.binds] at hd
          first
            | refine ParOb.plain rfl ?_
            | refine ParOb.wanted (by simp [Region.wanted, yielded, hd]) ?_
          go_simp
          exact ParPost.same fun _ _ => rfl
        · intro vals W hx hd
          have hW := HF.out W hx
          simp [PDeps, pdeps, Region.binds] at hd
          first
            | refine ParOb.plain rfl ?_
            | refine ParOb.wanted (by simp [Region.wanted, yielded, hd]) ?_
          go_simp
          exact ParPost.same fun _ _ => rfl
      intro vals W hx hf
      simp (maxSteps := 20000000) only [ParFacts, List.take_succ_cons, List.take_zero, and_true] at hf
      simp (maxSteps := 20000000) only [List.drop_succ_cons, List.drop_zero, List.take_succ_cons, List.take_zero, ParEnd, Act.put, List.setIfInBounds_toArray, List.set_cons_succ, List.set_cons_zero, hf]
      clear hf
      have HX4 := Lib.hid (Ext.trans HX3.out hx)
      clear hx HF
      go_wp2_with fail
      go_ret2
      exact ⟨⟨_, rfl, HRd.out.ext HX4.out⟩, HX4.out⟩
  · subst hF0
    go_wp2_with fail
    go_loopw [8] (fun m wr => m = .int .i64 0 ∧ wr = W1) (fun _ _ => 0)
    case atStart => exact ⟨rfl, rfl⟩
    case round =>
      obtain ⟨rfl, rfl⟩ := hrel
      have c1 := HW1.out.2
      go_wp2_with fail
      refine (implicit_any c hc hs _).mono ?_
      rintro e w9 ⟨⟨v, rfl, hrd⟩, hb9⟩
      have HRd := Lib.hid hrd
      have HB9 : Hid (Below w.heap.size w w9) := Lib.hid (HX.out.trans hb9)
      clear hrd hb9
      go_simp
      go_wp2_with fail
      go_ret2
      exact ⟨⟨_, rfl, by rw [elsC_not hnot]; exact HRd.out⟩, HB9.out⟩
end Go.Proofs.YtipokgedmfnlaaaGreatDoor

namespace Go.Proofs.YtipokgedmfnlaaaGreatDoor
open Go.RowKit Go.Lib
set_option maxRecDepth 100000

theorem infoEl : (Tryz.prog.info? 149).map (fun i => (i.zero, i.size, i.bytes)) = some (some (.int .u32 0), 1, 4) := by kernel_rfl
theorem wordsV_append (l m : List El) : wordsV (l ++ m) = wordsV l ++ wordsV m := by simp [wordsV]
theorem wordsV_length (l : List El) : (wordsV l).length = l.length := by simp [wordsV]
theorem wpList_els {P : Program} {w : World} {ops : Array Oper} {rest : List Oper} {o : Oper} {a : Act} {Q : Exit → Act → World → Prop} (hgd : o.guard = none) (s x : Operand) (t : TypeId)
    (ho : o.op = .call { callee := .builtin .append, args := #[s, x], argTypes := #[t, t] })
    (base : Nat) (e : TypeId) (ht : P.underlying t = some (.slice e)) (hinfo : (P.info? e).map (fun i => (i.zero, i.size, i.bytes)) = some (some (.int .u32 0), 1, 4))
    (v : Value) (l m : List El) (hs : a.eval s = v) (hown : w.ownsRow base e 1 v l.length (wordsV l))
    (b n c : Nat) (hx : a.eval x = .slice (some ⟨b, 0, none⟩) n c) (hn : m.length = n) (hb : ∀ (j : Nat) (u : Value), (wordsV m)[j]? = some u → w.cell? ⟨b, j, none⟩ = some u)
    (h63 : l.length + m.length ≤ 10000000) (hbase : base ≤ w.heap.size)
    (h : ∀ v' w', w'.ownsRow base e 1 v' (l ++ m).length (wordsV (l ++ m)) → w.grownBy w' v.ownBlock → wpList P ops Q rest (a.put o.dst v') w') :
    wpList P ops Q (o :: rest) a w := by
  obtain ⟨i, hi, hz0, hz1, hz2⟩ := info_parts hinfo
  subst hn
  refine wpList_append_own_at w hgd s x t ho base e i (.int .u32 0) 1 4 ht hi hz0 hz1 hz2 rfl (by decide) v l.length (wordsV l) hs hown ⟨b, 0, none⟩ m.length c (wordsV m) hx (by simp [wordsV]) (fun j u hj => ?_) (fun u hu => ?_) (by unfold maxLen; omega) (by omega) hbase
    (fun v' w' h2 h3 _ h5 => h v' w' (by rw [List.length_append, wordsV_append]; exact h2) h3)
  · rw [Addr.add_lit, Nat.zero_add]
    exact hb j u hj
  · obtain ⟨y, _, rfl⟩ := List.mem_map.1 hu
    rfl
theorem clipE_any (g n cap : Nat) (h : n ≤ cap) (w : World) : Calls Tryz.prog 223 #[.slice (some ⟨g, 0, none⟩) n cap] w fun e w' => e = .returned (.slice (some ⟨g, 0, none⟩) n n) ∧ w = w' := by
  go_enter Tryz.func223, Tryz.ntmps223
  go_wp2_with fail
  go_ret
  exact ⟨rfl, rfl⟩
theorem clipE_own {w : World} {B n : Nat} {v : Value} {t : TypeId} {xs : List Value} (h : w.ownsRow B t 1 v n xs) : Calls Tryz.prog 223 #[v] w fun e w' => e = .returned (clip v) ∧ w = w' := by
  rcases h.2 with ⟨rfl, rfl⟩ | ⟨g, cap, cur, rfl, hb, hh, hnc, hcm, hcs, htake⟩
  · go_enter Tryz.func223, Tryz.ntmps223
    go_wp2_with fail
    go_ret
    exact ⟨rfl, rfl⟩
  · exact clipE_any g n cap hnc w
theorem els_take (cs : List Nat) (k : Nat) (h : k < cs.length) : els (cs.take (k + 1)) = els (cs.take k) ++ elsC cs[k] := by
  rw [List.take_add_one, List.getElem?_eq_getElem h]
  exact els_snoc _ _
theorem els_take_le (cs : List Nat) (k : Nat) : (els (cs.take k)).length ≤ 2 * cs.length := by
  have h1 := els_len (cs.take k)
  have h2 : (cs.take k).length ≤ cs.length := by rw [List.length_take]; omega
  omega
def OfPost (w : World) (cs : List Nat) (e : Ending) (w' : World) : Prop := (∃ v, e = .returned v ∧ ReadsL w' v (wordsV (els cs))) ∧ Below w.heap.size w w'
set_option maxHeartbeats 8000000 in
theorem tabOf_any (p : Nat) (v : Value) (cs : List Nat) (w : World) (hp : RootAt w p) (hv : ReadsL w v (intsV cs)) (hn : cs.length ≤ 100000) (hall : ∀ c ∈ cs, isSign c = true ∧ c ≤ 1114367) :
    Calls Tryz.prog 175 #[.pointer (some ⟨p, 0, none⟩), v] w (OfPost w cs) := by
  have HP := Lib.hid hp
  have HA := Lib.hid hall
  clear hp hall
  rcases hv with ⟨rfl, h0⟩ | ⟨g, cap, rfl, hcap, hcell⟩
  · have hcs : cs = [] := by simpa [intsV] using h0
    subst hcs
    go_enter Tryz.func175, Tryz.ntmps175
    go_wp2_with fail
    go_loopw [5, 6] (fun o i wr => o = .slice none 0 0 ∧ i = .int .i64 0 ∧ wr = w) (fun _ _ _ => 0)
    case atStart => exact ⟨rfl, rfl, rfl⟩
    case round =>
      obtain ⟨rfl, rfl, rfl⟩ := hrel
      go_wp2_with fail
      refine (clipE_own (World.ownsRow_nil wr 0 149 1)).mono ?_
      rintro e w2 ⟨rfl, rfl⟩
      go_wp2_with fail
      go_ret
      exact ⟨⟨_, rfl, .inl ⟨rfl, rfl⟩⟩, Below.refl _ _⟩
  · rw [intsV_length] at hcap ⊢
    have HV := Lib.hid (show ∀ W, Ext w W → ∀ k (h : k < cs.length), W.cell? ⟨g, k, none⟩ = some (.int .i64 (cs[k] : Int)) from fun W hW k h => by
      have h1 := hcell k (.int .i64 (cs[k] : Int)) (by simp [intsV, h])
      rw [hW.cell (p := ⟨g, k, none⟩) (World.block_lt_of_cell? w _ h1)]
      exact h1)
    clear hcell
    go_enter Tryz.func175, Tryz.ntmps175
    go_wp2_with fail
    go_loopw [5, 6] (fun o i wr => ∃ k : Nat, k ≤ cs.length ∧ i = .int .i64 k ∧ wr.ownsRow w.heap.size 149 1 o (els (cs.take k)).length (wordsV (els (cs.take k))) ∧ Below w.heap.size w wr) (fun _ i _ => cs.length - (intOf i).toNat)
    case atStart => exact ⟨0, Nat.zero_le _, rfl, World.ownsRow_nil _ _ _ _, Below.refl _ _⟩
    case round =>
      obtain ⟨k, hk, rfl, hown, hb⟩ := hrel
      have HO := Lib.hid hown
      have HB := Lib.hid hb
      clear hown hb
      by_cases hlt : k < cs.length
      · have hk' : (k : Int) < cs.length := by omega
        have hnI : (cs.length : Int) ≤ 100000 := by omega
        obtain ⟨hs1, hs2⟩ := HA.out _ (List.getElem_mem hlt)
        go_wp2_with fail
        refine (at_any p g cs.length cap k cs[k] wr (HP.out.ext HB.out) hlt hcap (by omega) (HV.out wr HB.out k hlt) hs1 hs2).mono ?_
        rintro e w2 ⟨⟨lv, rfl, hrd⟩, hb2⟩
        have HO2 := Lib.hid (ownsRow_ext HO.out hb2)
        have HB2 : Hid (Below w.heap.size w w2) := Lib.hid (HB.out.trans (hb2.mono HB.out.size))
        have hle := els_take_le cs k
        have hel := elsC_len cs[k]
        clear hb2
        rcases hrd with ⟨rfl, he⟩ | ⟨g2, c2, rfl, hc2, hcell2⟩
        · have he0 : elsC cs[k] = [] := by simpa [wordsV] using he
          have HN := Lib.hid (show els (cs.take (k + 1)) = els (cs.take k) by rw [els_take cs k hlt, he0, List.append_nil])
          rcases HO2.out.2 with ⟨hu, hz⟩ | ⟨g3, cap3, cur3, hu, h3⟩
          · subst hu
            go_wp2_with fail
            go_roundw
            case rel => exact ⟨k + 1, by omega, by go_num, by rw [HN.out]; exact HO2.out, HB2.out⟩
            case measure => simp [intOf]; omega
          · have hnc := h3.2.2.1
            obtain ⟨ne, hne⟩ : ∃ ne, ne = (els (cs.take k)).length := ⟨_, rfl⟩
            rw [← hne] at hu hnc
            subst hu
            clear h3 hne
            go_wp2_with fail
            go_roundw
            case rel => exact ⟨k + 1, by omega, by go_num, by rw [HN.out]; exact HO2.out, HB2.out⟩
            case measure => simp [intOf]; omega
        · rw [wordsV_length] at hc2 ⊢
          have HC2 := Lib.hid hcell2
          clear hcell2
          go_wp2_with (at_builtin; refine wpList_els rfl _ _ _ rfl w.heap.size 149 Tryz.underlying144 infoEl u5 (els (cs.take k)) (elsC cs[k]) rfl HO2.out g2 _ c2 rfl rfl HC2.out (by omega) (by have := HB2.out.size; omega) ?_; intro v5 w5 hown hgr)
          have HZ := Lib.hid (show w5.ownsRow w.heap.size 149 1 v5 (els (cs.take (k + 1))).length (wordsV (els (cs.take (k + 1)))) ∧ Below w.heap.size w w5 from
            ⟨by rw [els_take cs k hlt]; exact hown, HB2.out.grown hgr HB2.out.size (fun k hk => by
              rcases HO2.out.2 with ⟨e, _⟩ | ⟨g', _, _, e, hB', _⟩
              · rw [e] at hk; simp [Value.ownBlock] at hk
              · rw [e] at hk; simp [Value.ownBlock] at hk; omega)⟩)
          clear hown hgr
          go_wp2_with fail
          go_roundw
          case rel => exact ⟨k + 1, by omega, by go_num, HZ.out.1, HZ.out.2⟩
          case measure => simp [intOf]; omega
      · obtain rfl : k = cs.length := by omega
        have HF := Lib.hid (show ReadsL wr (clip u5) (wordsV (els cs)) from by
          have := HO.out
          rw [List.take_length] at this
          exact (ownsRow_reads this).clip)
        go_wp2_with fail
        refine (clipE_own HO.out).mono ?_
        rintro e w2 ⟨rfl, rfl⟩
        go_wp2_with fail
        go_ret
        exact ⟨⟨_, rfl, HF.out⟩, HB.out⟩
/-- A text's elements. -/
theorem elements_any (p : Nat) (s : ByteArray) (w : World) (hp : RootAt w p) (hs : s.size ≤ 100000) (hT : ∀ W, Ext w W → Lib.Utf8Tabs 0 1 W) :
    Calls Tryz.prog 209 #[.pointer (some ⟨p, 0, none⟩), .string s] w (OfPost w (signs s.data.toList)) := by
  have HP := Lib.hid hp
  have HS := Lib.hid (signs_any s (by omega) w hT)
  have hlen : (signs s.data.toList).length ≤ 100000 := by
    have h1 := signs_length s.data.toList
    rw [Array.length_toList] at h1
    exact Nat.le_trans h1 hs
  have HA := Lib.hid (signs_all s.data.toList)
  generalize signs s.data.toList = cs at HS HA hlen ⊢
  clear hp hT
  go_enter Tryz.func209, Tryz.ntmps209
  go_wp2_with fail
  refine HS.out.mono ?_
  rintro e w2 ⟨v, rfl, hrow, hb2⟩
  have HB2 := Lib.hid hb2
  have HR := Lib.hid hrow.reads
  clear hb2 hrow
  go_wp2_with fail
  refine (tabOf_any p v cs w2 (HP.out.ext HB2.out) HR.out hlen HA.out).mono ?_
  rintro e w3 ⟨⟨v3, rfl, hrd⟩, hb3⟩
  have HB3 : Hid (Below w.heap.size w w3) := Lib.hid (HB2.out.trans (hb3.mono HB2.out.size))
  have HRd := Lib.hid hrd
  clear hb3 hrd
  go_wp2_with fail
  go_ret
  exact ⟨⟨_, rfl, HRd.out⟩, HB3.out⟩
end Go.Proofs.YtipokgedmfnlaaaGreatDoor
