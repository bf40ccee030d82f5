/-
  A text with small signs (utext.Fold, Put, FoldText). A sign's bytes are put behind others (utext.put, Put, FoldText). The bytes of signs, one behind the other (utext.Put); a text with small signs (utext.FoldText).
-/
import Derived.Test.YtipokgedmfnlaaaGreatDoorSigns
import Derived.Laws.BitsAllLaws
namespace Go.Proofs.YtipokgedmfnlaaaGreatDoor
open Go.RowKit Go.Lib
set_option maxRecDepth 100000

theorem fold32 {c : Nat} (h : 65 ≤ c ∧ c ≤ 90 ∨ 192 ≤ c ∧ c ≤ 222 ∧ c ≠ 215 ∨ 913 ≤ c ∧ c ≤ 937 ∧ c ≠ 930 ∨ 1040 ≤ c ∧ c ≤ 1071) : ((foldC c : Nat) : Int) = (c : Int) + 32 := by unfold foldC; rw [if_pos h]; rfl
theorem fold80 {c : Nat} (h : 1024 ≤ c ∧ c ≤ 1039) : ((foldC c : Nat) : Int) = (c : Int) + 80 := by unfold foldC; rw [if_neg (by omega), if_pos h]; rfl
theorem fold0 {c : Nat} (h1 : ¬ (65 ≤ c ∧ c ≤ 90 ∨ 192 ≤ c ∧ c ≤ 222 ∧ c ≠ 215 ∨ 913 ≤ c ∧ c ≤ 937 ∧ c ≠ 930 ∨ 1040 ≤ c ∧ c ≤ 1071)) (h : ¬ (1024 ≤ c ∧ c ≤ 1039)) : ((foldC c : Nat) : Int) = (c : Int) := by unfold foldC; rw [if_neg h1, if_neg h]
set_option maxHeartbeats 4000000 in
theorem fold_any (c : Nat) (h : c ≤ 1114367) (w : World) : Calls Tryz.prog 245 #[.int .i64 c] w fun e w' => e = .returned (.int .i64 ((foldC c : Nat) : Int)) ∧ w = w' := by
  have hI : (c : Int) ≤ 1114367 := by omega
  go_enter Tryz.func245, Tryz.ntmps245
  go_wp2_with fail
  all_goals
    try simp only [bne_iff_ne, ne_eq, bne_eq_false_iff_eq] at *
    go_ret
    refine ⟨?_, rfl⟩
    first
      | (rw [fold32 (by omega)]; rfl)
      | (rw [fold80 (by omega)]; rfl)
      | (rw [fold0 (by omega) (by omega)]; rfl)
/-! ### A sign's bytes -/
/-- Bytes under way: a slice of bytes that the call has made. -/
def bytesV (l : List UInt8) : List Value := l.map fun b => .int .u8 (b.toNat : Int)
theorem bytesV_length (l : List UInt8) : (bytesV l).length = l.length := by simp [bytesV]
theorem bytesV_append (l m : List UInt8) : bytesV (l ++ m) = bytesV l ++ bytesV m := by simp [bytesV]
theorem infoU8 : (Tryz.prog.info? 5).map (fun i => (i.zero, i.size, i.bytes)) = some (some (.int .u8 0), 1, 1) := by kernel_rfl
end Go.Proofs.YtipokgedmfnlaaaGreatDoor

namespace Go.Proofs.YtipokgedmfnlaaaGreatDoor
open Go.RowKit Go.Lib
set_option maxRecDepth 100000

theorem wpList_bytes {P : Program} {w : World} {ops : Array Oper} {rest : List Oper} {o : Oper} {a : Act} {Q : Exit → Act → World → Prop} (hgd : o.guard = none) (s x : Operand) (t : TypeId)
    (ho : o.op = .call { callee := .builtin .append, args := #[s, x], argTypes := #[t, t] })
    (base : Nat) (e : TypeId) (ht : P.underlying t = some (.slice e)) (hinfo : (P.info? e).map (fun i => (i.zero, i.size, i.bytes)) = some (some (.int .u8 0), 1, 1))
    (v : Value) (l m : List UInt8) (hs : a.eval s = v) (hown : w.ownsRow base e 1 v l.length (bytesV l))
    (b n : Nat) (te : TypeId) (hx : a.eval x = .slice (some ⟨b, 0, none⟩) n n) (hn : m.length = n) (hb : Blk w b (bytesV m).toArray te)
    (h63 : l.length + m.length ≤ 10000000) (hbase : base ≤ w.heap.size)
    (h : ∀ v' w', w'.ownsRow base e 1 v' (l ++ m).length (bytesV (l ++ m)) → w.grownBy w' v.ownBlock → wpList P ops Q rest (a.put o.dst v') w') :
    wpList P ops Q (o :: rest) a w := by
  obtain ⟨i, hi, hz0, hz1, hz2⟩ := info_parts hinfo
  subst hn
  refine wpList_append_own_at w hgd s x t ho base e i (.int .u8 0) 1 1 ht hi hz0 hz1 hz2 rfl (by decide) v l.length (bytesV l) hs hown ⟨b, 0, none⟩ m.length m.length (bytesV m) hx (by simp [bytesV]) (fun j u hj => ?_) (fun u hu => ?_) (by unfold maxLen; omega) (by omega) hbase
    (fun v' w' h2 h3 _ h5 => h v' w' (by rw [List.length_append, bytesV_append]; exact h2) h3)
  · rw [Addr.add_lit, Nat.zero_add, hb.cell]
    simpa using hj
  · obtain ⟨y, _, rfl⟩ := List.mem_map.1 hu
    rfl
/-- What 'put' leaves. -/
def PutB (B : Nat) (l : List UInt8) (w : World) (e : Ending) (w' : World) : Prop := ∃ v, e = .returned v ∧ w'.ownsRow B 5 1 v l.length (bytesV l) ∧ Below B w w'
theorem one_high (c : Nat) (h0 : 1114112 ≤ c) (h1 : c < 1114368) : bytesV (oneC c) = [.int .u8 ((c : Int) % 256)] := by
  unfold oneC
  rw [if_pos (by omega)]
  simp [bytesV, u8]
  omega
theorem len_high (c : Nat) (h0 : 1114112 ≤ c) (h1 : c < 1114368) : (oneC c).length = 1 := by
  have := congrArg List.length (one_high c h0 h1)
  rw [bytesV_length] at this
  exact this
set_option maxHeartbeats 4000000 in
theorem put_high (B : Nat) (v : Value) (l : List UInt8) (c : Nat) (w : World) (hv : w.ownsRow B 5 1 v l.length (bytesV l)) (hl : l.length ≤ 1000000) (hB : B ≤ w.heap.size) (h0 : 1114112 ≤ c) (h1 : c < 1114368) :
    Calls Tryz.prog 172 #[v, .int .i64 c] w (PutB B (l ++ oneC c) w) := by
  have dA : decide ((1114112 : Int) ≤ (c : Int)) = true := decide_eq_true (by omega)
  have hI : (c : Int) < 1114368 := by omega
  have hone := one_high c h0 h1
  have HLen := Lib.hid (len_high c h0 h1)
  generalize oneC c = m at hone HLen ⊢
  have HOne := Lib.hid hone
  have HV := Lib.hid hv
  clear hv hone
  go_enter Tryz.func172, Tryz.ntmps172
  go_wp2_with (at_builtin; refine wpList_bytes rfl _ _ _ rfl B 5 Tryz.underlying123 infoU8 v l m rfl (HV.out.alloc _) w.heap.size 1 5 rfl HLen.out (by rw [HOne.out]; exact Blk.new _ _ _ rfl) (by rw [HLen.out]; omega) (by simp; omega) ?_; intro v5 w5 hown hgr)
  go_ret
  exact ⟨_, rfl, hown, ((Below.refl B w).alloc hB _).grown hgr (by simp; omega) (fun k hk => by
    rcases HV.out.2 with ⟨e, _⟩ | ⟨g', _, _, e, hB', _⟩
    · rw [e] at hk; simp [Value.ownBlock] at hk
    · rw [e] at hk; simp [Value.ownBlock] at hk; omega)⟩
theorem one_one (c : Nat) (h1 : c < 128) : bytesV (oneC c) = [.int .u8 ((c : Int))] := by
  unfold oneC
  rw [if_neg (by omega), if_pos (by omega)]
  simp [bytesV, u8]
  omega
theorem len_one (c : Nat) (h1 : c < 128) : (oneC c).length = 1 := by
  have := congrArg List.length (one_one c h1)
  rw [bytesV_length] at this
  exact this
set_option maxHeartbeats 4000000 in
theorem put_one (B : Nat) (v : Value) (l : List UInt8) (c : Nat) (w : World) (hv : w.ownsRow B 5 1 v l.length (bytesV l)) (hl : l.length ≤ 1000000) (hB : B ≤ w.heap.size) (h1 : c < 128) :
    Calls Tryz.prog 172 #[v, .int .i64 c] w (PutB B (l ++ oneC c) w) := by
  have dA : decide ((1114112 : Int) ≤ (c : Int)) = false := decide_eq_false (by omega)
  have d128 : decide ((c : Int) < 128) = true := decide_eq_true (by omega)
  have hI : (c : Int) < 128 := by omega
  have hone := one_one c h1
  have HLen := Lib.hid (len_one c h1)
  generalize oneC c = m at hone HLen ⊢
  have HOne := Lib.hid hone
  have HV := Lib.hid hv
  clear hv hone
  go_enter Tryz.func172, Tryz.ntmps172
  go_wp2_with (at_builtin; refine wpList_bytes rfl _ _ _ rfl B 5 Tryz.underlying123 infoU8 v l m rfl (HV.out.alloc _) w.heap.size 1 5 rfl HLen.out (by rw [HOne.out]; exact Blk.new _ _ _ rfl) (by rw [HLen.out]; omega) (by simp; omega) ?_; intro v5 w5 hown hgr)
  go_ret
  exact ⟨_, rfl, hown, ((Below.refl B w).alloc hB _).grown hgr (by simp; omega) (fun k hk => by
    rcases HV.out.2 with ⟨e, _⟩ | ⟨g', _, _, e, hB', _⟩
    · rw [e] at hk; simp [Value.ownBlock] at hk
    · rw [e] at hk; simp [Value.ownBlock] at hk; omega)⟩
theorem one_two (c : Nat) (h0 : 128 ≤ c) (h1 : c < 2048) : bytesV (oneC c) = [.int .u8 (192 + (c : Int) / 64), .int .u8 (128 + (c : Int) % 64)] := by
  unfold oneC
  rw [if_neg (by omega), if_neg (by omega), if_pos (by omega)]
  simp [bytesV, u8]
  omega
theorem len_two (c : Nat) (h0 : 128 ≤ c) (h1 : c < 2048) : (oneC c).length = 2 := by
  have := congrArg List.length (one_two c h0 h1)
  rw [bytesV_length] at this
  exact this
set_option maxHeartbeats 4000000 in
theorem put_two (B : Nat) (v : Value) (l : List UInt8) (c : Nat) (w : World) (hv : w.ownsRow B 5 1 v l.length (bytesV l)) (hl : l.length ≤ 1000000) (hB : B ≤ w.heap.size) (h0 : 128 ≤ c) (h1 : c < 2048) :
    Calls Tryz.prog 172 #[v, .int .i64 c] w (PutB B (l ++ oneC c) w) := by
  have dA : decide ((1114112 : Int) ≤ (c : Int)) = false := decide_eq_false (by omega)
  have d128 : decide ((c : Int) < 128) = false := decide_eq_false (by omega)
  have d2048 : decide ((c : Int) < 2048) = true := decide_eq_true (by omega)
  have hI : (c : Int) < 2048 := by omega
  have hone := one_two c h0 h1
  have HLen := Lib.hid (len_two c h0 h1)
  generalize oneC c = m at hone HLen ⊢
  have HOne := Lib.hid hone
  have HV := Lib.hid hv
  clear hv hone
  go_enter Tryz.func172, Tryz.ntmps172
  go_wp2_with (at_builtin; refine wpList_bytes rfl _ _ _ rfl B 5 Tryz.underlying123 infoU8 v l m rfl (HV.out.alloc _) w.heap.size 2 5 rfl HLen.out (by rw [HOne.out]; exact Blk.new _ _ _ rfl) (by rw [HLen.out]; omega) (by simp; omega) ?_; intro v5 w5 hown hgr)
  go_ret
  exact ⟨_, rfl, hown, ((Below.refl B w).alloc hB _).grown hgr (by simp; omega) (fun k hk => by
    rcases HV.out.2 with ⟨e, _⟩ | ⟨g', _, _, e, hB', _⟩
    · rw [e] at hk; simp [Value.ownBlock] at hk
    · rw [e] at hk; simp [Value.ownBlock] at hk; omega)⟩
theorem one_three (c : Nat) (h0 : 2048 ≤ c) (h1 : c < 65536) : bytesV (oneC c) = [.int .u8 (224 + (c : Int) / 4096), .int .u8 (128 + (c : Int) / 64 % 64), .int .u8 (128 + (c : Int) % 64)] := by
  unfold oneC
  rw [if_neg (by omega), if_neg (by omega), if_neg (by omega), if_pos (by omega)]
  simp [bytesV, u8]
  omega
theorem len_three (c : Nat) (h0 : 2048 ≤ c) (h1 : c < 65536) : (oneC c).length = 3 := by
  have := congrArg List.length (one_three c h0 h1)
  rw [bytesV_length] at this
  exact this
set_option maxHeartbeats 4000000 in
theorem put_three (B : Nat) (v : Value) (l : List UInt8) (c : Nat) (w : World) (hv : w.ownsRow B 5 1 v l.length (bytesV l)) (hl : l.length ≤ 1000000) (hB : B ≤ w.heap.size) (h0 : 2048 ≤ c) (h1 : c < 65536) :
    Calls Tryz.prog 172 #[v, .int .i64 c] w (PutB B (l ++ oneC c) w) := by
  have dA : decide ((1114112 : Int) ≤ (c : Int)) = false := decide_eq_false (by omega)
  have d128 : decide ((c : Int) < 128) = false := decide_eq_false (by omega)
  have d2048 : decide ((c : Int) < 2048) = false := decide_eq_false (by omega)
  have d65536 : decide ((c : Int) < 65536) = true := decide_eq_true (by omega)
  have hI : (c : Int) < 65536 := by omega
  have hone := one_three c h0 h1
  have HLen := Lib.hid (len_three c h0 h1)
  generalize oneC c = m at hone HLen ⊢
  have HOne := Lib.hid hone
  have HV := Lib.hid hv
  clear hv hone
  go_enter Tryz.func172, Tryz.ntmps172
  go_wp2_with (at_builtin; refine wpList_bytes rfl _ _ _ rfl B 5 Tryz.underlying123 infoU8 v l m rfl (HV.out.alloc _) w.heap.size 3 5 rfl HLen.out (by rw [HOne.out]; exact Blk.new _ _ _ rfl) (by rw [HLen.out]; omega) (by simp; omega) ?_; intro v5 w5 hown hgr)
  go_ret
  exact ⟨_, rfl, hown, ((Below.refl B w).alloc hB _).grown hgr (by simp; omega) (fun k hk => by
    rcases HV.out.2 with ⟨e, _⟩ | ⟨g', _, _, e, hB', _⟩
    · rw [e] at hk; simp [Value.ownBlock] at hk
    · rw [e] at hk; simp [Value.ownBlock] at hk; omega)⟩
theorem one_four (c : Nat) (h0 : 65536 ≤ c) (h1 : c < 1114112) : bytesV (oneC c) = [.int .u8 (240 + (c : Int) / 262144), .int .u8 (128 + (c : Int) / 4096 % 64), .int .u8 (128 + (c : Int) / 64 % 64), .int .u8 (128 + (c : Int) % 64)] := by
  unfold oneC
  rw [if_neg (by omega), if_neg (by omega), if_neg (by omega), if_neg (by omega)]
  simp [bytesV, u8]
  omega
theorem len_four (c : Nat) (h0 : 65536 ≤ c) (h1 : c < 1114112) : (oneC c).length = 4 := by
  have := congrArg List.length (one_four c h0 h1)
  rw [bytesV_length] at this
  exact this
set_option maxHeartbeats 4000000 in
theorem put_four (B : Nat) (v : Value) (l : List UInt8) (c : Nat) (w : World) (hv : w.ownsRow B 5 1 v l.length (bytesV l)) (hl : l.length ≤ 1000000) (hB : B ≤ w.heap.size) (h0 : 65536 ≤ c) (h1 : c < 1114112) :
    Calls Tryz.prog 172 #[v, .int .i64 c] w (PutB B (l ++ oneC c) w) := by
  have dA : decide ((1114112 : Int) ≤ (c : Int)) = false := decide_eq_false (by omega)
  have d128 : decide ((c : Int) < 128) = false := decide_eq_false (by omega)
  have d2048 : decide ((c : Int) < 2048) = false := decide_eq_false (by omega)
  have d65536 : decide ((c : Int) < 65536) = false := decide_eq_false (by omega)
  have hI : (c : Int) < 1114112 := by omega
  have hone := one_four c h0 h1
  have HLen := Lib.hid (len_four c h0 h1)
  generalize oneC c = m at hone HLen ⊢
  have HOne := Lib.hid hone
  have HV := Lib.hid hv
  clear hv hone
  go_enter Tryz.func172, Tryz.ntmps172
  go_wp2_with (at_builtin; refine wpList_bytes rfl _ _ _ rfl B 5 Tryz.underlying123 infoU8 v l m rfl (HV.out.alloc _) w.heap.size 4 5 rfl HLen.out (by rw [HOne.out]; exact Blk.new _ _ _ rfl) (by rw [HLen.out]; omega) (by simp; omega) ?_; intro v5 w5 hown hgr)
  go_ret
  exact ⟨_, rfl, hown, ((Below.refl B w).alloc hB _).grown hgr (by simp; omega) (fun k hk => by
    rcases HV.out.2 with ⟨e, _⟩ | ⟨g', _, _, e, hB', _⟩
    · rw [e] at hk; simp [Value.ownBlock] at hk
    · rw [e] at hk; simp [Value.ownBlock] at hk; omega)⟩
/-- A sign's bytes are put behind others. -/
theorem put_sign (B : Nat) (v : Value) (l : List UInt8) (c : Nat) (w : World) (hv : w.ownsRow B 5 1 v l.length (bytesV l)) (hl : l.length ≤ 1000000) (hB : B ≤ w.heap.size) (hc : c ≤ 1114367) :
    Calls Tryz.prog 172 #[v, .int .i64 c] w (PutB B (l ++ oneC c) w) := by
  rcases Nat.lt_or_ge c 128 with h | h
  · exact put_one B v l c w hv hl hB h
  rcases Nat.lt_or_ge c 2048 with h2 | h2
  · exact put_two B v l c w hv hl hB h h2
  rcases Nat.lt_or_ge c 65536 with h3 | h3
  · exact put_three B v l c w hv hl hB h2 h3
  rcases Nat.lt_or_ge c 1114112 with h4 | h4
  · exact put_four B v l c w hv hl hB h3 h4
  · exact put_high B v l c w hv hl hB h4 (by omega)
end Go.Proofs.YtipokgedmfnlaaaGreatDoor

namespace Go.Proofs.YtipokgedmfnlaaaGreatDoor
open Go.RowKit Go.Lib
set_option maxRecDepth 100000

theorem conv_own {w : World} {B n : Nat} {v : Value} {l : List UInt8} (h : w.ownsRow B 5 1 v n (bytesV l)) :
    (convert 123 9 v).run Tryz.prog w = .ok (.string ⟨l.toArray⟩) w := by
  have hl := h.1
  rw [bytesV_length, Nat.mul_one] at hl
  rcases h.2 with ⟨rfl, rfl⟩ | ⟨g, cap, cur, rfl, hb, hh, hnc, hcm, hcs, htake⟩
  · have hl0 : l = [] := List.eq_nil_of_length_eq_zero hl
    subst hl0
    exact run_convert_bytes_nil w 123 5 Tryz.underlying123 Tryz.underlying5 0 0 9 Tryz.underlying9
  · subst hl
    exact run_convert_bytes_back (P := Tryz.prog) w 123 9 5 ⟨g, 0, none⟩ cap l Tryz.underlying123 Tryz.underlying5 Tryz.underlying9 (fun j hj => by
      rw [Addr.add_lit, Nat.zero_add, h.cellAt j (by omega)]
      simp [bytesV, hj])
theorem putL_take (cs : List Nat) (k : Nat) (h : k < cs.length) : putL (cs.take (k + 1)) = putL (cs.take k) ++ oneC cs[k] := by
  rw [List.take_add_one, List.getElem?_eq_getElem h]
  exact putL_snoc _ _
theorem putL_take_le (cs : List Nat) (k : Nat) : (putL (cs.take k)).length ≤ 4 * cs.length := by
  have h1 := putL_length (cs.take k)
  have h2 : (cs.take k).length ≤ cs.length := by rw [List.length_take]; omega
  omega
set_option maxHeartbeats 4000000 in
theorem put_all (v : Value) (cs : List Nat) (w : World) (hv : ReadsL w v (intsV cs)) (hn : cs.length ≤ 200000) (hc : ∀ c ∈ cs, c ≤ 1114367) :
    Calls Tryz.prog 117 #[v] w fun e w' => e = .returned (.string ⟨(putL cs).toArray⟩) ∧ Below w.heap.size w w' := by
  have HC := Lib.hid hc
  clear hc
  rcases hv with ⟨rfl, h0⟩ | ⟨g, cap, rfl, hcap, hcell⟩
  · have hcs : cs = [] := by simpa [intsV] using h0
    subst hcs
    go_enter Tryz.func117, Tryz.ntmps117
    go_wp2_with fail
    go_loopw [3, 8] (fun b i wr => b = .slice none 0 0 ∧ i = .int .i64 0 ∧ wr = w) (fun _ _ _ => 0)
    case atStart => exact ⟨rfl, rfl, rfl⟩
    case round =>
      obtain ⟨rfl, rfl, rfl⟩ := hrel
      have hcv := run_convert_bytes_nil (P := Tryz.prog) (w := wr) 123 5 Tryz.underlying123 Tryz.underlying5 0 0 9 Tryz.underlying9
      go_wp2_with fail
      go_ret
      exact ⟨rfl, Below.refl _ _⟩
  · rw [intsV_length] at hcap ⊢
    have HV := Lib.hid (show ∀ W, Ext w W → ∀ k (h : k < cs.length), W.cell? ⟨g, k, none⟩ = some (.int .i64 (cs[k] : Int)) from fun W hW k h => by
      have h1 := hcell k (.int .i64 (cs[k] : Int)) (by simp [intsV, h])
      rw [hW.cell (p := ⟨g, k, none⟩) (World.block_lt_of_cell? w _ h1)]
      exact h1)
    clear hcell
    go_enter Tryz.func117, Tryz.ntmps117
    go_wp2_with fail
    go_loopw [3, 8] (fun b i wr => ∃ k : Nat, k ≤ cs.length ∧ i = .int .i64 k ∧ wr.ownsRow w.heap.size 5 1 b (putL (cs.take k)).length (bytesV (putL (cs.take k))) ∧ Below w.heap.size w wr) (fun _ i _ => cs.length - (intOf i).toNat)
    case atStart => exact ⟨0, Nat.zero_le _, rfl, World.ownsRow_nil _ _ _ _, Below.refl _ _⟩
    case round =>
      obtain ⟨k, hk, rfl, hown, hb⟩ := hrel
      have HO := Lib.hid hown
      have HB := Lib.hid hb
      clear hown hb
      by_cases hlt : k < cs.length
      · have c1 := HV.out wr HB.out k hlt
        have hk' : (k : Int) < cs.length := by omega
        go_wp2_with fail
        refine (put_sign w.heap.size u3 (putL (cs.take k)) cs[k] wr HO.out (by have := putL_take_le cs k; omega) HB.out.size (HC.out _ (List.getElem_mem _))).mono ?_
        rintro e w2 ⟨v2, rfl, hown2, hb2⟩
        rw [← putL_take cs k hlt] at hown2
        have HO2 := Lib.hid hown2
        have HB2 := Lib.hid (HB.out.trans hb2)
        clear hown2 hb2
        go_wp2_with fail
        go_roundw
        case rel => exact ⟨k + 1, by omega, by go_num, HO2.out, HB2.out⟩
        case measure => simp [intOf]; omega
      · obtain rfl : k = cs.length := by omega
        have hcv := conv_own HO.out
        rw [List.take_length] at hcv
        go_wp2_with fail
        go_ret
        exact ⟨rfl, HB.out⟩
/-- A text with small signs. -/
def foldB (s : ByteArray) : ByteArray := ⟨(foldT s.data.toList).toArray⟩
/-- Under way: so many signs are small. -/
def fdL (cs : List Nat) (k : Nat) : List Nat := (cs.take k).map foldC ++ cs.drop k
theorem fdL_length (cs : List Nat) (k : Nat) : (fdL cs k).length = cs.length := by
  unfold fdL
  rw [List.length_append, List.length_map, List.length_take, List.length_drop]; omega
theorem fdL_at (cs : List Nat) (k : Nat) (h : k < cs.length) : (fdL cs k)[k]? = some cs[k] := by
  unfold fdL
  rw [List.getElem?_append_right (by simp; omega), List.length_map, List.length_take]
  simp [show k - min k cs.length = 0 by omega, h]
theorem fdL_set (cs : List Nat) (k : Nat) (h : k < cs.length) : (fdL cs k).set k (foldC cs[k]) = fdL cs (k + 1) := by
  unfold fdL
  have hl : ((cs.take k).map foldC).length = k := by simp; omega
  rw [List.set_append_right _ _ (by omega), hl, Nat.sub_self, List.take_add_one, List.getElem?_eq_getElem h, List.map_append, List.append_assoc]
  congr 1
  rw [List.drop_eq_getElem_cons h]
  rfl
theorem fdL_all (cs : List Nat) : fdL cs cs.length = cs.map foldC := by simp [fdL]
set_option maxHeartbeats 4000000 in
theorem foldText_any (s : ByteArray) (hs : s.size ≤ 100000) (w : World) (hT : ∀ W, Ext w W → Lib.Utf8Tabs 0 1 W) :
    Calls Tryz.prog 208 #[.string s] w fun e w' => e = .returned (.string (foldB s)) ∧ Below w.heap.size w w' := by
  have hS := signs_any s (by omega) w hT
  have hlen : (signs s.data.toList).length ≤ 100000 := by
    have h1 := signs_length s.data.toList
    rw [Array.length_toList] at h1
    exact Nat.le_trans h1 hs
  have hall := signs_all s.data.toList
  have hfb : foldB s = ⟨(putL ((signs s.data.toList).map foldC)).toArray⟩ := rfl
  rw [hfb]
  clear hfb hT
  generalize signs s.data.toList = cs at hS hlen hall ⊢
  have HS := Lib.hid hS
  have HA := Lib.hid hall
  clear hS hall
  go_enter Tryz.func208, Tryz.ntmps208
  go_wp2_with fail
  refine HS.out.mono ?_
  rintro e w2 ⟨v, rfl, hrow, hb2⟩
  have HB2 := Lib.hid hb2
  clear hb2
  rcases hrow with ⟨rfl, h0⟩ | ⟨g, cur, rfl, hgB, hblk, hsz, hcell⟩
  · have hcs : cs = [] := by simpa [intsV] using h0
    subst hcs
    go_simp
    go_wp2_with fail
    go_loopw [10] (fun i wr => i = .int .i64 0 ∧ wr = w2) (fun _ _ => 0)
    case atStart => exact ⟨rfl, rfl⟩
    case round =>
      obtain ⟨rfl, rfl⟩ := hrel
      go_wp2_with fail
      refine (put_all (.slice none 0 0) [] _ (.inl ⟨rfl, rfl⟩) (by simp) (by simp)).mono ?_
      rintro e w3 ⟨rfl, hb3⟩
      have HB3 : Hid (Below w.heap.size w w3) := Lib.hid (HB2.out.trans (hb3.mono HB2.out.size))
      clear hb3
      go_wp2_with fail
      go_ret
      exact ⟨rfl, HB3.out⟩
  · rw [intsV_length] at hsz ⊢
    have HBk := Lib.hid hblk
    have HCl := Lib.hid hcell
    have HSz := Lib.hid hsz
    clear hblk hcell hsz
    go_simp
    go_wp2_with fail
    go_loopw [10] (fun i wr => ∃ (k : Nat) (cur : Array Value), k ≤ cs.length ∧ i = .int .i64 k ∧ Blk wr g cur 3 ∧ cs.length ≤ cur.size ∧ (∀ (j : Nat) (u : Value), (intsV (fdL cs k))[j]? = some u → cur[j]? = some u) ∧ Below w.heap.size w wr) (fun i _ => cs.length - (intOf i).toNat)
    case atStart => exact ⟨0, cur, Nat.zero_le _, rfl, HBk.out, HSz.out, by simpa [fdL] using HCl.out, HB2.out⟩
    case round =>
      obtain ⟨k, cur, hk, rfl, hbk, hsz, hcl, hb⟩ := hrel
      have HBk := Lib.hid hbk
      have HCl := Lib.hid hcl
      have HB := Lib.hid hb
      by_cases hlt : k < cs.length
      · have hk' : (k : Int) < cs.length := by omega
        have c1 : wr.cell? ⟨g, k, none⟩ = some (.int .i64 (cs[k] : Int)) := by
          rw [hbk.cell]
          exact hcl k _ (by simp [intsV, fdL_at cs k hlt])
        have f1 := hbk.facts.2
        have hgl := hbk.lt
        clear hbk hcl hb
        go_wp2_with fail
        refine (fold_any cs[k] (HA.out _ (List.getElem_mem _)).2 wr).mono ?_
        rintro e w3 ⟨rfl, rfl⟩
        have HZ := Lib.hid (show Blk (wr.setCell ⟨g, k, none⟩ (.int .i64 ((foldC cs[k] : Nat) : Int))) g (cur.setIfInBounds k (.int .i64 ((foldC cs[k] : Nat) : Int))) 3 ∧ cs.length ≤ (cur.setIfInBounds k (.int .i64 ((foldC cs[k] : Nat) : Int))).size ∧
            (∀ (j : Nat) (u : Value), (intsV (fdL cs (k + 1)))[j]? = some u → (cur.setIfInBounds k (.int .i64 ((foldC cs[k] : Nat) : Int)))[j]? = some u) ∧ Below w.heap.size w (wr.setCell ⟨g, k, none⟩ (.int .i64 ((foldC cs[k] : Nat) : Int))) from by
          refine ⟨HBk.out.set k _, by simpa using hsz, fun j u hu => ?_, HB.out.setCell hgB _⟩
          rw [← fdL_set cs k hlt] at hu
          rw [Array.getElem?_setIfInBounds]
          by_cases hj : k = j
          · subst hj
            rw [if_pos rfl, if_pos (by omega)]
            simpa [intsV, fdL_length, hlt] using hu
          · rw [if_neg hj]
            refine HCl.out j u ?_
            simpa [intsV, List.getElem?_set_ne hj] using hu)
        go_wp2_with fail
        go_roundw
        case rel => exact ⟨k + 1, _, by omega, by go_num, HZ.out.1, HZ.out.2.1, HZ.out.2.2.1, HZ.out.2.2.2⟩
        case measure => simp [intOf]; omega
      · obtain rfl : k = cs.length := by omega
        have hR : ReadsL wr (.slice (some ⟨g, 0, none⟩) cs.length cs.length) (intsV (cs.map foldC)) := .inr ⟨g, cs.length, by rw [intsV_length, List.length_map], by rw [intsV_length, List.length_map]; exact Nat.le_refl _, fun j u hu => by
          rw [hbk.cell]
          rw [fdL_all] at hcl
          exact hcl j u hu⟩
        have HR := Lib.hid hR
        clear hbk hcl hb hR
        go_wp2_with fail
        refine (put_all _ (cs.map foldC) _ HR.out (by rw [List.length_map]; omega) (fun c hc => by
          obtain ⟨d, hd, rfl⟩ := List.mem_map.1 hc
          exact foldC_le d (HA.out d hd).2)).mono ?_
        rintro e w3 ⟨rfl, hb3⟩
        have HB3 : Hid (Below w.heap.size w w3) := Lib.hid (HB.out.trans (hb3.mono HB.out.size))
        clear hb3
        go_wp2_with fail
        go_ret
        exact ⟨rfl, HB3.out⟩
end Go.Proofs.YtipokgedmfnlaaaGreatDoor
