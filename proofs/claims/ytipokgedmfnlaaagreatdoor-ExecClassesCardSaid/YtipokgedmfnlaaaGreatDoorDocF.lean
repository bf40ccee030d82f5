/-
  The document's elements of a sign: no entry (Implicit), an entry (Find), either (At).
-/
import Derived.Test.YtipokgedmfnlaaaGreatDoorDocE
import Derived.Test.YtipokgedmfnlaaaGreatDoorRef5H
import Derived.Test.YtipokgedmfnlaaaGreatDoorRef5Q
namespace Go.Proofs.YtipokgedmfnlaaaGreatDoor
open Go.RowKit Go.Lib
set_option maxRecDepth 100000

set_option maxHeartbeats 4000000 in
theorem implicitR_any (c : Nat) (h : isSign c = true) (hc : c ≤ 1114367) (w : World) : Calls Tryz.prog 236 #[.int .i64 c] w fun e w' => (∃ v, e = .returned v ∧ ElsR w' v (implE c)) ∧ Below w.heap.size w w' := by
  have hI : (c : Int) ≤ 1114367 := by omega
  obtain ⟨q, hq⟩ : ∃ q : Nat, q = c / 32768 := ⟨_, rfl⟩
  obtain ⟨r, hr⟩ : ∃ r : Nat, r = c % 32768 := ⟨_, rfl⟩
  have h1 : Int.tdiv (c : Int) 32768 = (q : Int) := by rw [hq]; rfl
  have h2 : Int.tmod (c : Int) 32768 = (r : Int) := by rw [hr]; rfl
  have hqI : (q : Int) ≤ 35 := by omega
  have hrI : (r : Int) < 32768 := by omega
  have he : implE c = [⟨64256 + q, 32, 2, false⟩, ⟨32768 + r, 32, 2, false⟩] := by rw [hq, hr]; rfl
  rw [he]
  have KS := Lib.hid (fun W => isSignR_any c h W)
  clear h hq hr he
  go_enter Tryz.func236, Tryz.ntmps236
  go_wp2_with fail
  refine Calls.mono (KS.out w) ?_
  rintro e w2 ⟨rfl, rfl⟩
  go_wp2_with fail
  go_ret
  exact ⟨⟨_, rfl, els_newAt [⟨64256 + q, 32, 2, false⟩, ⟨32768 + r, 32, 2, false⟩] rfl⟩, (Ext.refl _).alloc _⟩
/-- One sign in memory, anywhere in a row. -/
def SeqO (w : World) (v : Value) (c : Nat) : Prop := ∃ g o k, v = .slice (some ⟨g, o, none⟩) 1 k ∧ 1 ≤ k ∧ w.cell? ⟨g, o, none⟩ = some (.int .i64 (c : Int))
set_option maxHeartbeats 4000000 in
theorem sameO_any (v u : Value) (x c : Nat) (w : World) (hv : SeqAt w v x) (hu : SeqO w u c) :
    Calls Tryz.prog 135 #[v, u] w fun e w' => e = .returned (.bool (decide (x = c))) ∧ Below w.heap.size w w' := by
  obtain ⟨g, k, rfl, hk, c1⟩ := hv
  obtain ⟨g2, o2, k2, rfl, hk2, c2⟩ := hu
  have hg := World.block_lt_of_cell? w _ c1
  have hg2 := World.block_lt_of_cell? w _ c2
  have HF := Lib.hid (show ∀ W, Ext w W → W.cell? ⟨g, 0, none⟩ = some (.int .i64 (x : Int)) ∧ W.cell? ⟨g2, o2, none⟩ = some (.int .i64 (c : Int)) from
    fun W hW => ⟨by rw [hW.cell (p := ⟨g, 0, none⟩) hg]; exact c1, by rw [hW.cell (p := ⟨g2, o2, none⟩) hg2]; exact c2⟩)
  clear c1 c2
  obtain ⟨X, hX⟩ : ∃ X : Int, X = (x : Int) := ⟨_, rfl⟩
  obtain ⟨C, hC⟩ : ∃ C : Int, C = (c : Int) := ⟨_, rfl⟩
  have hlt : decide (x = c) = !(X != C) := by
    subst hX hC
    by_cases h : x = c
    · subst h; simp
    · have h2 : ¬ (x : Int) = (c : Int) := by omega
      simp [h, h2]
  rw [hlt]
  rw [← hX, ← hC] at HF
  clear hlt hX hC
  cases he : (X != C)
  · go_enter Tryz.func135, Tryz.ntmps135
    go_wp2_with fail
    refine wp_loop_rounds 2 ?_
    rw [rounds_succ]
    go_wp2_with fail
    refine wp_par 9 (fun
        | 0 => fun v _ => v = .slice (some ⟨g, 0, none⟩) 1 k
        | 1 => fun v _ => v = .int .i64 0
        | 2 => fun v _ => v = .pointer (some ⟨g, 0, none⟩)
        | 3 => fun v _ => v = .int .i64 X
        | 4 => fun v _ => v = .slice (some ⟨g2, o2, none⟩) 1 k2
        | 5 => fun v _ => v = .int .i64 0
        | 6 => fun v _ => v = .pointer (some ⟨g2, o2, none⟩)
        | 7 => fun v _ => v = .int .i64 C
        | 8 => fun v _ => v = .bool false
        | _ => fun _ _ => True) (by kernel_rfl) (by kernel_rfl) (by kernel_rfl) ?_ ?_
    · simp (maxSteps := 20000000) only [List.take_succ_cons, List.take_zero, ParAll, Act.put, List.setIfInBounds_toArray, List.set_cons_succ, List.set_cons_zero]
      refine ⟨?_, ?_, ?_, ?_, ?_, ?_, ?_, ?_, ?_, trivial⟩
      · intro vals W hx hd
        have hW := HF.out W hx
        simp [PDeps, pdeps, Region.binds] at hd
        first
          | refine ParOb.plain rfl ?_
          | refine ParOb.wanted (by simp [Region.wanted, yielded, hd]) ?_
        go_simp
        exact ParPost.same fun _ _ => rfl
      · intro vals W hx hd
        have hW := HF.out W hx
        simp [PDeps, pdeps, Region.binds] at hd
        first
          | refine ParOb.plain rfl ?_
          | refine ParOb.wanted (by simp [Region.wanted, yielded, hd]) ?_
        go_simp
        exact ParPost.same fun _ _ => rfl
      · intro vals W hx hd
        have hW := HF.out W hx
        simp [PDeps, pdeps, Region.binds] at hd
        first
          | refine ParOb.plain rfl ?_
          | refine ParOb.wanted (by simp [Region.wanted, yielded, hd]) ?_
        go_simp
        exact ParPost.same fun _ _ => rfl
      · intro vals W hx hd
        have hW := HF.out W hx
        simp [PDeps, pdeps, Region.binds] at hd
        first
          | refine ParOb.plain rfl ?_
          | refine ParOb.wanted (by simp [Region.wanted, yielded, hd]) ?_
        go_simp
        exact ParPost.same fun _ _ => rfl
      · intro vals W hx hd
        have hW := HF.out W hx
        simp [PDeps, pdeps, Region.binds] at hd
        first
          | refine ParOb.plain rfl ?_
          | refine ParOb.wanted (by simp [Region.wanted, yielded, hd]) ?_
        go_simp
        exact ParPost.same fun _ _ => rfl
      · intro vals W hx hd
        have hW := HF.out W hx
        simp [PDeps, pdeps, Region.binds] at hd
        first
          | refine ParOb.plain rfl ?_
          | refine ParOb.wanted (by simp [Region.wanted, yielded, hd]) ?_
        go_simp
        exact ParPost.same fun _ _ => rfl
      · intro vals W hx hd
        have hW := HF.out W hx
        simp [PDeps, pdeps, Region.binds] at hd
        first
          | refine ParOb.plain rfl ?_
          | refine ParOb.wanted (by simp [Region.wanted, yielded, hd]) ?_
        go_simp
        exact ParPost.same fun _ _ => rfl
      · intro vals W hx hd
        have hW := HF.out W hx
        simp [PDeps, pdeps, Region.binds] at hd
        first
          | refine ParOb.plain rfl ?_
          | refine ParOb.wanted (by simp [Region.wanted, yielded, hd]) ?_
        go_simp
        exact ParPost.same fun _ _ => rfl
      · intro vals W hx hd
        have hW := HF.out W hx
        simp [PDeps, pdeps, Region.binds] at hd
        first
          | refine ParOb.plain rfl ?_
          | refine ParOb.wanted (by simp [Region.wanted, yielded, hd]) ?_
        go_simp
        exact ParPost.same fun _ _ => rfl
    intro vals W hx hf
    simp (maxSteps := 20000000) only [ParFacts, List.take_succ_cons, List.take_zero, and_true] at hf
    simp (maxSteps := 20000000) only [List.drop_succ_cons, List.drop_zero, List.take_succ_cons, List.take_zero, ParEnd, Act.put, List.setIfInBounds_toArray, List.set_cons_succ, List.set_cons_zero, hf]
    clear hf
    have HX := Lib.hid hx
    clear hx HF
    go_wp2_with fail
    rw [rounds_succ]
    go_wp2_with fail
    go_ret
    exact ⟨rfl, HX.out⟩
  · go_enter Tryz.func135, Tryz.ntmps135
    go_wp2_with fail
    refine wp_loop_rounds 1 ?_
    rw [rounds_succ]
    go_wp2_with fail
    refine wp_par 9 (fun
        | 0 => fun v _ => v = .slice (some ⟨g, 0, none⟩) 1 k
        | 1 => fun v _ => v = .int .i64 0
        | 2 => fun v _ => v = .pointer (some ⟨g, 0, none⟩)
        | 3 => fun v _ => v = .int .i64 X
        | 4 => fun v _ => v = .slice (some ⟨g2, o2, none⟩) 1 k2
        | 5 => fun v _ => v = .int .i64 0
        | 6 => fun v _ => v = .pointer (some ⟨g2, o2, none⟩)
        | 7 => fun v _ => v = .int .i64 C
        | 8 => fun v _ => v = .bool true
        | _ => fun _ _ => True) (by kernel_rfl) (by kernel_rfl) (by kernel_rfl) ?_ ?_
    · simp (maxSteps := 20000000) only [List.take_succ_cons, List.take_zero, ParAll, Act.put, List.setIfInBounds_toArray, List.set_cons_succ, List.set_cons_zero]
      refine ⟨?_, ?_, ?_, ?_, ?_, ?_, ?_, ?_, ?_, trivial⟩
      · intro vals W hx hd
        have hW := HF.out W hx
        simp [PDeps, pdeps, Region.binds] at hd
        first
          | refine ParOb.plain rfl ?_
          | refine ParOb.wanted (by simp [Region.wanted, yielded, hd]) ?_
        go_simp
        exact ParPost.same fun _ _ => rfl
      · intro vals W hx hd
        have hW := HF.out W hx
        simp [PDeps, pdeps, Region.binds] at hd
        first
          | refine ParOb.plain rfl ?_
          | refine ParOb.wanted (by simp [Region.wanted, yielded, hd]) ?_
        go_simp
        exact ParPost.same fun _ _ => rfl
      · intro vals W hx hd
        have hW := HF.out W hx
        simp [PDeps, pdeps, Region.binds] at hd
        first
          | refine ParOb.plain rfl ?_
          | refine ParOb.wanted (by simp [Region.wanted, yielded, hd]) ?_
        go_simp
        exact ParPost.same fun _ _ => rfl
      · intro vals W hx hd
        have hW := HF.out W hx
        simp [PDeps, pdeps, Region.binds] at hd
        first
          | refine ParOb.plain rfl ?_
          | refine ParOb.wanted (by simp [Region.wanted, yielded, hd]) ?_
        go_simp
        exact ParPost.same fun _ _ => rfl
      · intro vals W hx hd
        have hW := HF.out W hx
        simp [PDeps, pdeps, Region.binds] at hd
        first
          | refine ParOb.plain rfl ?_
          | refine ParOb.wanted (by simp [Region.wanted, yielded, hd]) ?_
        go_simp
        exact ParPost.same fun _ _ => rfl
      · intro vals W hx hd
        have hW := HF.out W hx
        simp [PDeps, pdeps, Region.binds] at hd
        first
          | refine ParOb.plain rfl ?_
          | refine ParOb.wanted (by simp [Region.wanted, yielded, hd]) ?_
        go_simp
        exact ParPost.same fun _ _ => rfl
      · intro vals W hx hd
        have hW := HF.out W hx
        simp [PDeps, pdeps, Region.binds] at hd
        first
          | refine ParOb.plain rfl ?_
          | refine ParOb.wanted (by simp [Region.wanted, yielded, hd]) ?_
        go_simp
        exact ParPost.same fun _ _ => rfl
      · intro vals W hx hd
        have hW := HF.out W hx
        simp [PDeps, pdeps, Region.binds] at hd
        first
          | refine ParOb.plain rfl ?_
          | refine ParOb.wanted (by simp [Region.wanted, yielded, hd]) ?_
        go_simp
        exact ParPost.same fun _ _ => rfl
      · intro vals W hx hd
        have hW := HF.out W hx
        simp [PDeps, pdeps, Region.binds] at hd
        first
          | refine ParOb.plain rfl ?_
          | refine ParOb.wanted (by simp [Region.wanted, yielded, hd]) ?_
        go_simp
        exact ParPost.same fun _ _ => rfl
    intro vals W hx hf
    simp (maxSteps := 20000000) only [ParFacts, List.take_succ_cons, List.take_zero, and_true] at hf
    simp (maxSteps := 20000000) only [List.drop_succ_cons, List.drop_zero, List.take_succ_cons, List.take_zero, ParEnd, Act.put, List.setIfInBounds_toArray, List.set_cons_succ, List.set_cons_zero, hf]
    clear hf
    have HX := Lib.hid hx
    clear hx HF
    go_wp2_with fail
    go_ret
    exact ⟨rfl, HX.out⟩
theorem sameN_any (g k n c2 : Nat) (u : Option Addr) (w : World) (hn : n ≠ 1) : Calls Tryz.prog 135 #[.slice (some ⟨g, 0, none⟩) 1 k, .slice u n c2] w fun e w' => e = .returned (.bool false) ∧ Below w.heap.size w w' := by
  have h1 : ((1 : Int) == (n : Int)) = false := by simp; omega
  have h2 : ¬ (1 : Int) = (n : Int) := by omega
  go_enter Tryz.func135, Tryz.ntmps135
  go_wp2_with fail
  go_ret
  exact ⟨rfl, Below.refl _ _⟩
/-- What Find answers. -/
def FindV (w : World) (v : Value) : Option (List El) → Prop
  | some es => ∃ u, v = .tuple #[u, .bool true] ∧ ElsR w u es
  | none => v = .tuple #[.slice none 0 0, .bool false]
def lookE (L : List (Nat × List El)) (c : Nat) : Option (List El) := (L.find? (fun x => x.1 == c)).map (·.2)
theorem lookE_drop (L : List (Nat × List El)) (c k : Nat) (h : k < L.length) : lookE (L.drop k) c = if L[k].1 = c then some L[k].2 else lookE (L.drop (k + 1)) c := by
  unfold lookE
  rw [List.drop_eq_getElem_cons h, List.find?_cons]
  by_cases he : L[k].1 = c
  · rw [if_pos he]
    simp [he]
  · rw [if_neg he, show (L[k].1 == c) = false by simpa using he]
def oneL (one : Bool) (L : List (Nat × List El)) (c : Nat) : Option (List El) := if one then lookE L c else none
set_option maxHeartbeats 16000000 in
/-- Find at one sign, or at more than one: then there is none. 'one': how many. -/
theorem findR_any (v sv : Value) (L : List (Nat × List El)) (c : Nat) (one : Bool) (w : World) (hL : EntsR w v L) (hn : L.length ≤ 1000)
    (hs : (one = true ∧ SeqO w sv c) ∨ (one = false ∧ ∃ u n k, sv = .slice u n k ∧ n ≠ 1)) :
    Calls Tryz.prog 191 #[.agg #[v], sv] w fun e w' => (∃ r, e = .returned r ∧ FindV w' r (oneL one L c)) ∧ Below w.heap.size w w' := by
  obtain ⟨vs, hrd, hvl, hent⟩ := hL
  have HEnt := Lib.hid hent
  have HVl := Lib.hid hvl
  have hnI : (L.length : Int) ≤ 1000 := by omega
  have HSame := Lib.hid (show ∀ (x : Nat) (p : Value) (W : World), Ext w W → SeqAt W p x → Calls Tryz.prog 135 #[p, sv] W fun e w' => e = .returned (.bool (one && decide (x = c))) ∧ Below W.heap.size W w' from fun x p W hW hp => by
    rcases hs with ⟨rfl, g, o, k, rfl, hk, hc⟩ | ⟨rfl, u, n, k, rfl, hk⟩
    · rw [Bool.true_and]
      exact sameO_any p _ x c W hp ⟨g, o, k, rfl, hk, by rw [hW.cell (p := ⟨g, o, none⟩) (World.block_lt_of_cell? w _ hc)]; exact hc⟩
    · obtain ⟨g2, k2, rfl, _, _⟩ := hp
      rw [Bool.false_and]
      exact sameN_any g2 k2 n k u W hk)
  have hsl : ∃ u n k, sv = .slice u n k := by
    rcases hs with ⟨_, g, o, k, rfl, _⟩ | ⟨_, u, n, k, rfl, _⟩
    · exact ⟨_, _, _, rfl⟩
    · exact ⟨_, _, _, rfl⟩
  obtain ⟨su, sn, sk, rfl⟩ := hsl
  clear hent hvl hs
  have HV := Lib.hid (show ∃ ao cap, v = .slice ao L.length cap ∧ ∀ W, Ext w W → ∀ j (h : j < vs.length), ∃ g, ao = some ⟨g, 0, none⟩ ∧ W.cell? ⟨g, j * 2, none⟩ = some vs[j].1 ∧ W.cell? ⟨g, j * 2 + 1, none⟩ = some vs[j].2 from by
    rcases hrd with ⟨rfl, h0, h1⟩ | ⟨g, cap, rfl, hcap, hgl, hcell⟩
    · refine ⟨none, 0, by rw [h0], fun W _ j h => ?_⟩
      have := HVl.out
      omega
    · exact ⟨_, cap, rfl, fun W hW j h => ⟨g, rfl, by rw [hW.cell (p := ⟨g, j * 2, none⟩) hgl]; exact hcell _ _ (flatE_get vs j h).1, by rw [hW.cell (p := ⟨g, j * 2 + 1, none⟩) hgl]; exact hcell _ _ (flatE_get vs j h).2⟩⟩)
  obtain ⟨ao, cap, rfl, hv⟩ := HV.out
  have HC := Lib.hid hv
  clear HV hrd hv
  go_enter Tryz.func191, Tryz.ntmps191
  go_wp2_with fail
  have hQ : Blk (w.alloc (.cells #[.slice ao L.length cap] 28)) w.heap.size #[.slice ao L.length cap] 28 := Blk.new w _ _ rfl
  have hx0 : Ext w (w.alloc (.cells #[.slice ao L.length cap] 28)) := (Ext.refl w).alloc _
  generalize (w.alloc (.cells #[.slice ao L.length cap] 28)) = W0 at hQ hx0 ⊢
  have HQ := Lib.hid hQ
  have HX0 := Lib.hid hx0
  clear hQ hx0
  generalize w.heap.size = q at HQ ⊢
  go_loopw [4, 5, 6] (fun _ _ i wr => ∃ k : Nat, k ≤ L.length ∧ i = .int .i64 k ∧ oneL one L c = oneL one (L.drop k) c ∧ Ext W0 wr) (fun _ _ i _ => L.length - (intOf i).toNat)
  case atStart => exact ⟨0, Nat.zero_le _, rfl, rfl, Ext.refl _⟩
  case round =>
    obtain ⟨k, hk, rfl, hl, hx⟩ := hrel
    have HL := Lib.hid hl
    have HXr := Lib.hid hx
    have hql := (HQ.out.keep hx).lt
    obtain ⟨cq, fq⟩ := (HQ.out.keep hx).facts
    clear hl hx
    by_cases hlt : k < L.length
    · have hk' : (k : Int) < L.length := by omega
      have hkv : k < vs.length := by have := HVl.out; omega
      obtain ⟨g, rfl, c1, c2⟩ := HC.out wr (Ext.trans HX0.out HXr.out) k hkv
      obtain ⟨hen1, hen2⟩ := HEnt.out k vs[k] L[k] (List.getElem?_eq_getElem hkv) (List.getElem?_eq_getElem hlt)
      have hxw := Ext.trans HX0.out HXr.out
      have HE1 := Lib.hid (hen1.ext hxw)
      have HE2 := Lib.hid (hen2.ext hxw)
      obtain ⟨g1, k1, hp1, _, _⟩ := hen1
      have HP1 := Lib.hid hp1
      rw [hp1] at c1
      have hdr := lookE_drop L c k hlt
      have HDr := Lib.hid hdr
      have hone : ∃ p q r, vs[k].2 = .slice p q r := by
        rcases hen2 with ⟨h, _⟩ | ⟨_, _, h, _⟩
        · exact ⟨_, _, _, h⟩
        · exact ⟨_, _, _, h⟩
      obtain ⟨p2, n2, k2, hp2⟩ := hone
      have HP2 := Lib.hid hp2
      rw [hp2] at c2
      clear hen2 hp1 hdr hxw hp2
      go_wp2_with fail
      refine Calls.mono (HSame.out L[k].1 _ wr (Ext.trans HX0.out HXr.out) (by rw [← HP1.out]; exact HE1.out)) ?_
      rintro e w2 ⟨rfl, hb2⟩
      have HX2 := Lib.hid (Ext.trans HXr.out hb2)
      obtain ⟨cq2, fq2⟩ := (HQ.out.keep HX2.out).facts
      have hql2 := (HQ.out.keep HX2.out).lt
      obtain ⟨g', hg', _, d2⟩ := HC.out w2 (Ext.trans HX0.out HX2.out) k hkv
      cases hg'
      rw [HP2.out] at d2
      have HEl := Lib.hid (HE2.out.ext hb2)
      clear hb2 c1 c2 cq fq hql HE1 HE2
      cases hd : (one && decide (L[k].1 = c))
      · have hres : oneL one L c = oneL one (L.drop (k + 1)) c := by
          rw [HL.out]
          unfold oneL
          cases one
          · rfl
          · simp only [Bool.true_and, decide_eq_false_iff_not] at hd
            simp only [if_true]
            rw [HDr.out, if_neg hd]
        have HRes := Lib.hid hres
        clear hres hd
        go_wp2_with fail
        go_roundw
        case rel => exact ⟨k + 1, by omega, by go_num, HRes.out, HX2.out⟩
        case measure => simp [intOf]; omega
      · have hres : oneL one L c = some L[k].2 := by
          rw [HL.out]
          simp only [Bool.and_eq_true, decide_eq_true_eq] at hd
          rw [hd.1]
          unfold oneL
          simp only [if_true]
          rw [HDr.out, if_pos hd.2]
        have HRes := Lib.hid hres
        clear hres hd
        go_wp2_with fail
        go_ret2
        rw [HRes.out]
        exact ⟨⟨_, rfl, _, rfl, by rw [← HP2.out]; exact HEl.out⟩, Ext.trans HX0.out HX2.out⟩
    · have hk' : ¬ (k : Int) < L.length := by omega
      have hres : oneL one L c = none := by
        rw [HL.out]
        have : L.drop k = [] := List.drop_eq_nil_of_le (by omega)
        rw [this]
        cases one <;> rfl
      have HRes := Lib.hid hres
      clear hres
      go_wp2_with fail
      go_ret2
      rw [HRes.out]
      exact ⟨⟨_, rfl, rfl⟩, Ext.trans HX0.out HXr.out⟩
end Go.Proofs.YtipokgedmfnlaaaGreatDoor
