/-
  The document's elements of letters and marks; whether an element's weights go together (Elem.Ok). The document's tables: a table of single signs and sound elements is in order (Table.Check). The document's reading of no rules (Parse of the empty text).
-/
import Derived.Test.YtipokgedmfnlaaaGreatDoorRef5E
namespace Go.Proofs.YtipokgedmfnlaaaGreatDoor
open Go.RowKit Go.Lib
set_option maxRecDepth 100000

/-- An element as a value. -/
def elV (e : El) : Value := .agg #[.int .i64 (e.p : Int), .int .i64 (e.s : Int), .int .i64 (e.t : Int), .bool e.v]
theorem ret_el {t : Tmp} {fn : Func} (h : fn.results = #[.cell t 159]) (tmps : Array Value) {w : World} {g : Nat} {cs : Array Value} (hc : cs.size = 4) (hp : tmps.getD t undef = .pointer (some ⟨g, 0, none⟩)) (hg : Blk w g cs 159) :
    (results fn tmps).run Tryz.prog w = .ok (.agg cs) w := by
  have hp' : tmps[t]?.getD undef = .pointer (some ⟨g, 0, none⟩) := by simpa using hp
  have hr := run_loadVar_row w g 159 159 cs (0, 0) _ hg Tryz.underlying159 rfl (by rw [hc]; kernel_rfl)
  simp [results, h, hp', asAddr, hr]
theorem blk4 {W : World} {g : Nat} {a b c d : Value} {t : TypeId} (h : Blk W g #[a, b, c, d] t) (a' b' c' d' : Value) :
    Blk ((((W.setCell ⟨g, 0, none⟩ a').setCell ⟨g, 1, none⟩ b').setCell ⟨g, 2, none⟩ c').setCell ⟨g, 3, none⟩ d') g #[a', b', c', d'] t := (((h.set 0 a').set 1 b').set 2 c').set 3 d'
theorem letterR_small (i : Nat) (hi : i < 26) (w : World) : Calls Tryz.prog 81 #[.int .i64 (97 + (i : Int))] w fun e w' => e = .returned (elV (low i 2)) ∧ Below w.heap.size w w' := by
  have hI : (i : Int) < 26 := by omega
  rw [show elV (low i 2) = .agg #[.int .i64 (256 + 8 * (i : Int)), .int .i64 32, .int .i64 2, .bool false] from rfl]
  have d1 : decide ((97 : Int) ≤ 97 + (i : Int)) = true := decide_eq_true (by omega)
  have d2 : decide (97 + (i : Int) ≤ 122) = true := decide_eq_true (by omega)
  go_enter Tryz.func81, Tryz.ntmps81
  go_wp2_with fail
  refine bodyPost_ret (ret_el rfl _ rfl rfl (Blk.new w _ _ rfl)) rfl ?_
  refine ⟨?_, by go_grown⟩
  rw [show (97 : Int) + i - 97 = i by omega]
theorem letterR_great (i : Nat) (hi : i < 26) (w : World) : Calls Tryz.prog 81 #[.int .i64 (65 + (i : Int))] w fun e w' => e = .returned (elV (low i 8)) ∧ Below w.heap.size w w' := by
  have hI : (i : Int) < 26 := by omega
  rw [show elV (low i 8) = .agg #[.int .i64 (256 + 8 * (i : Int)), .int .i64 32, .int .i64 8, .bool false] from rfl]
  have d1 : decide ((97 : Int) ≤ 65 + (i : Int)) = false := decide_eq_false (by omega)
  go_enter Tryz.func81, Tryz.ntmps81
  go_wp2_with fail
  refine bodyPost_ret (ret_el rfl _ rfl rfl (Blk.new w _ _ rfl)) rfl ?_
  refine ⟨?_, by go_grown⟩
  rw [show (65 : Int) + i - 65 = i by omega]
theorem markR0 (w : World) : Calls Tryz.prog 82 #[.int .i64 768] w fun e w' => e = .returned (elV (mk 37)) ∧ Below w.heap.size w w' := by
  rw [show elV (mk 37) = .agg #[.int .i64 0, .int .i64 37, .int .i64 2, .bool false] from rfl]
  go_enter Tryz.func82, Tryz.ntmps82
  go_wp2_with fail
  exact bodyPost_ret (ret_el rfl _ rfl rfl (Blk.new w _ _ rfl)) rfl ⟨rfl, by go_grown⟩
theorem markR1 (w : World) : Calls Tryz.prog 82 #[.int .i64 769] w fun e w' => e = .returned (elV (mk 36)) ∧ Below w.heap.size w w' := by
  rw [show elV (mk 36) = .agg #[.int .i64 0, .int .i64 36, .int .i64 2, .bool false] from rfl]
  go_enter Tryz.func82, Tryz.ntmps82
  go_wp2_with fail
  exact bodyPost_ret (ret_el rfl _ rfl rfl (Blk.new w _ _ rfl)) rfl ⟨rfl, by go_grown⟩
theorem markR2 (w : World) : Calls Tryz.prog 82 #[.int .i64 770] w fun e w' => e = .returned (elV (mk 39)) ∧ Below w.heap.size w w' := by
  rw [show elV (mk 39) = .agg #[.int .i64 0, .int .i64 39, .int .i64 2, .bool false] from rfl]
  go_enter Tryz.func82, Tryz.ntmps82
  go_wp2_with fail
  exact bodyPost_ret (ret_el rfl _ rfl rfl (Blk.new w _ _ rfl)) rfl ⟨rfl, by go_grown⟩
theorem markR3 (w : World) : Calls Tryz.prog 82 #[.int .i64 771] w fun e w' => e = .returned (elV (mk 45)) ∧ Below w.heap.size w w' := by
  rw [show elV (mk 45) = .agg #[.int .i64 0, .int .i64 45, .int .i64 2, .bool false] from rfl]
  go_enter Tryz.func82, Tryz.ntmps82
  go_wp2_with fail
  exact bodyPost_ret (ret_el rfl _ rfl rfl (Blk.new w _ _ rfl)) rfl ⟨rfl, by go_grown⟩
theorem markR4 (w : World) : Calls Tryz.prog 82 #[.int .i64 772] w fun e w' => e = .returned (elV (mk 47)) ∧ Below w.heap.size w w' := by
  rw [show elV (mk 47) = .agg #[.int .i64 0, .int .i64 47, .int .i64 2, .bool false] from rfl]
  go_enter Tryz.func82, Tryz.ntmps82
  go_wp2_with fail
  exact bodyPost_ret (ret_el rfl _ rfl rfl (Blk.new w _ _ rfl)) rfl ⟨rfl, by go_grown⟩
theorem markR5 (w : World) : Calls Tryz.prog 82 #[.int .i64 776] w fun e w' => e = .returned (elV (mk 43)) ∧ Below w.heap.size w w' := by
  rw [show elV (mk 43) = .agg #[.int .i64 0, .int .i64 43, .int .i64 2, .bool false] from rfl]
  go_enter Tryz.func82, Tryz.ntmps82
  go_wp2_with fail
  exact bodyPost_ret (ret_el rfl _ rfl rfl (Blk.new w _ _ rfl)) rfl ⟨rfl, by go_grown⟩
theorem markR6 (w : World) : Calls Tryz.prog 82 #[.int .i64 778] w fun e w' => e = .returned (elV (mk 41)) ∧ Below w.heap.size w w' := by
  rw [show elV (mk 41) = .agg #[.int .i64 0, .int .i64 41, .int .i64 2, .bool false] from rfl]
  go_enter Tryz.func82, Tryz.ntmps82
  go_wp2_with fail
  exact bodyPost_ret (ret_el rfl _ rfl rfl (Blk.new w _ _ rfl)) rfl ⟨rfl, by go_grown⟩
theorem markR7 (w : World) : Calls Tryz.prog 82 #[.int .i64 807] w fun e w' => e = .returned (elV (mk 48)) ∧ Below w.heap.size w w' := by
  rw [show elV (mk 48) = .agg #[.int .i64 0, .int .i64 48, .int .i64 2, .bool false] from rfl]
  go_enter Tryz.func82, Tryz.ntmps82
  go_wp2_with fail
  exact bodyPost_ret (ret_el rfl _ rfl rfl (Blk.new w _ _ rfl)) rfl ⟨rfl, by go_grown⟩
theorem markR_any (c s : Nat) (w : World) (h : (c, s) ∈ [(768, 37), (769, 36), (770, 39), (771, 45), (772, 47), (776, 43), (778, 41), (807, 48)]) :
    Calls Tryz.prog 82 #[.int .i64 c] w fun e w' => e = .returned (elV (mk s)) ∧ Below w.heap.size w w' := by
  simp only [List.mem_cons, Prod.mk.injEq, List.not_mem_nil, or_false] at h
  rcases h with ⟨rfl, rfl⟩ | ⟨rfl, rfl⟩ | ⟨rfl, rfl⟩ | ⟨rfl, rfl⟩ | ⟨rfl, rfl⟩ | ⟨rfl, rfl⟩ | ⟨rfl, rfl⟩ | ⟨rfl, rfl⟩
  · exact markR0 w
  · exact markR1 w
  · exact markR2 w
  · exact markR3 w
  · exact markR4 w
  · exact markR5 w
  · exact markR6 w
  · exact markR7 w
/-- What the document asks of an element. -/
def El.fitR (e : El) : Bool := (decide (e.p = 0) || (!decide (e.s = 0) && !decide (e.t = 0))) && (decide (e.s = 0) || !decide (e.t = 0)) && (!e.v || !decide (e.p = 0))
theorem rootL_fitR : ∀ x ∈ rootL, ∀ e ∈ x.2, e.fitR = true ∧ e.p < 64256 := by decide +kernel
set_option maxHeartbeats 4000000 in
theorem okR_any (e : El) (w : World) : Calls Tryz.prog 192 #[elV e] w fun r w' => r = .returned (.bool e.fitR) ∧ Below w.heap.size w w' := by
  obtain ⟨p, s, t, v⟩ := e
  have hf : (El.mk p s t v).fitR = ((((p : Int) == 0) || (!((s : Int) == 0) && !((t : Int) == 0))) && (((s : Int) == 0) || !((t : Int) == 0)) && (!v || !((p : Int) == 0))) := by
    have e0 : ∀ n : Nat, ((n : Int) == 0) = decide (n = 0) := fun n => by rw [Bool.eq_iff_iff]; simp
    rw [e0, e0, e0]
    rfl
  rw [show elV (El.mk p s t v) = .agg #[.int .i64 (p : Int), .int .i64 (s : Int), .int .i64 (t : Int), .bool v] from rfl]
  generalize (El.mk p s t v).fitR = r at hf ⊢
  generalize (p : Int) = P at hf ⊢
  generalize (s : Int) = S at hf ⊢
  generalize (t : Int) = T at hf ⊢
  cases hp : (P == 0) <;> cases hs : (S == 0) <;> cases ht : (T == 0) <;> cases v
  all_goals
    rw [hp, hs, ht] at hf
    subst hf
    have np : (P != 0) = !(P == 0) := rfl
    have ns : (S != 0) = !(S == 0) := rfl
    have nt : (T != 0) = !(T == 0) := rfl
    rw [hp] at np
    rw [hs] at ns
    rw [ht] at nt
    simp only [Bool.not_false, Bool.not_true] at np ns nt
    go_enter Tryz.func192, Tryz.ntmps192
    go_wp2_with fail
    go_ret
    exact ⟨rfl, by go_grown⟩
end Go.Proofs.YtipokgedmfnlaaaGreatDoor

namespace Go.Proofs.YtipokgedmfnlaaaGreatDoor
open Go.RowKit Go.Lib
set_option maxRecDepth 100000

theorem flatR_get : ∀ (es : List El) (j : Nat) (h : j < es.length), (flatR es)[j * 4]? = some (.int .i64 (es[j].p : Int)) ∧ (flatR es)[j * 4 + 1]? = some (.int .i64 (es[j].s : Int)) ∧ (flatR es)[j * 4 + 2]? = some (.int .i64 (es[j].t : Int)) ∧ (flatR es)[j * 4 + 3]? = some (.bool es[j].v)
  | [], j, h => absurd h (Nat.not_lt_zero _)
  | d :: ds, 0, _ => by simp [flatR, cellsR]
  | d :: ds, j + 1, h => by
    have := flatR_get ds j (by simpa using h)
    have e : flatR (d :: ds) = .int .i64 (d.p : Int) :: .int .i64 (d.s : Int) :: .int .i64 (d.t : Int) :: .bool d.v :: flatR ds := by simp [flatR, cellsR]
    rw [e, show (j + 1) * 4 = j * 4 + 1 + 1 + 1 + 1 by omega]
    simpa using this
/-- A list of elements in memory: its length, and each of them in any later world. -/
theorem elsAt {w : World} {v : Value} {es : List El} (h : ElsR w v es) : ∃ ao cap, v = .slice ao es.length cap ∧ es.length ≤ cap ∧ (∀ W, Ext w W → ∀ j (h : j < es.length), ∃ g, ao = some ⟨g, 0, none⟩ ∧
    W.cell? ⟨g, j * 4, none⟩ = some (.int .i64 (es[j].p : Int)) ∧ W.cell? ⟨g, j * 4 + 1, none⟩ = some (.int .i64 (es[j].s : Int)) ∧ W.cell? ⟨g, j * 4 + 2, none⟩ = some (.int .i64 (es[j].t : Int)) ∧ W.cell? ⟨g, j * 4 + 3, none⟩ = some (.bool es[j].v)) := by
  rcases h with ⟨rfl, h0, _⟩ | ⟨g, cap, rfl, hcap, hgl, hcell⟩
  · exact ⟨none, 0, by rw [h0], by omega, fun W _ j h => absurd h (by omega)⟩
  · refine ⟨_, cap, rfl, hcap, fun W hW j h => ⟨g, rfl, ?_⟩⟩
    obtain ⟨h1, h2, h3, h4⟩ := flatR_get es j h
    exact ⟨by rw [hW.cell (p := ⟨g, j * 4, none⟩) hgl]; exact hcell _ _ h1, by rw [hW.cell (p := ⟨g, j * 4 + 1, none⟩) hgl]; exact hcell _ _ h2, by rw [hW.cell (p := ⟨g, j * 4 + 2, none⟩) hgl]; exact hcell _ _ h3, by rw [hW.cell (p := ⟨g, j * 4 + 3, none⟩) hgl]; exact hcell _ _ h4⟩
set_option maxHeartbeats 16000000 in
theorem checkR_any (v : Value) (L : List (Nat × List El)) (w : World) (hL : EntsR w v L) (hne : L ≠ []) (hn : L.length ≤ 1000) (hgood : ∀ x ∈ L, x.2.length ≤ 8 ∧ ∀ e ∈ x.2, e.fitR = true ∧ e.p < 64256) :
    Calls Tryz.prog 130 #[.agg #[v]] w fun e w' => e = .returned (.int .i64 0) ∧ Below w.heap.size w w' := by
  obtain ⟨vs, hrd, hvl, hent⟩ := hL
  have HEnt := Lib.hid hent
  have HGood := Lib.hid hgood
  have HVl := Lib.hid hvl
  have hnI : (L.length : Int) ≤ 1000 := by omega
  clear hent hgood hvl
  rcases hrd with ⟨_, hn0, _⟩ | ⟨g, cap, rfl, hcap, hgl, hcell⟩
  · exact absurd (List.eq_nil_of_length_eq_zero hn0) hne
  have HV := Lib.hid (show ∀ W, Ext w W → ∀ j (h : j < vs.length), W.cell? ⟨g, j * 2, none⟩ = some vs[j].1 ∧ W.cell? ⟨g, j * 2 + 1, none⟩ = some vs[j].2 from fun W hW j h =>
      ⟨by rw [hW.cell (p := ⟨g, j * 2, none⟩) hgl]; exact hcell _ _ (flatE_get vs j h).1, by rw [hW.cell (p := ⟨g, j * 2 + 1, none⟩) hgl]; exact hcell _ _ (flatE_get vs j h).2⟩)
  clear hcell hne
  go_enter Tryz.func130, Tryz.ntmps130
  go_wp2_with fail
  have hQ : Blk (w.alloc (.cells #[.slice (some ⟨g, 0, none⟩) L.length cap] 28)) w.heap.size #[.slice (some ⟨g, 0, none⟩) L.length cap] 28 := Blk.new w _ _ rfl
  have hx0 : Ext w (w.alloc (.cells #[.slice (some ⟨g, 0, none⟩) L.length cap] 28)) := (Ext.refl w).alloc _
  generalize (w.alloc (.cells #[.slice (some ⟨g, 0, none⟩) L.length cap] 28)) = W0 at hQ hx0 ⊢
  have HQ := Lib.hid hQ
  have HX0 := Lib.hid hx0
  clear hQ hx0
  generalize w.heap.size = q at HQ ⊢
  go_loopw [2, 3] (fun _ i wr => ∃ k : Nat, k ≤ L.length ∧ i = .int .i64 k ∧ Ext W0 wr) (fun _ i _ => L.length - (intOf i).toNat)
  case atStart => exact ⟨0, Nat.zero_le _, rfl, Ext.refl _⟩
  case round =>
    obtain ⟨k, hk, rfl, hx⟩ := hrel
    have HXr := Lib.hid hx
    have hql := (HQ.out.keep hx).lt
    obtain ⟨cq, fq⟩ := (HQ.out.keep hx).facts
    clear hx
    by_cases hlt : k < L.length
    · have hk' : (k : Int) < L.length := by omega
      have hkv : k < vs.length := by have := HVl.out; omega
      have hxw : Ext w wr := Ext.trans HX0.out HXr.out
      obtain ⟨c1, c2⟩ := HV.out wr hxw k hkv
      obtain ⟨hen1, hen2⟩ := (HEnt.out k vs[k] L[k] (List.getElem?_eq_getElem hkv) (List.getElem?_eq_getElem hlt))
      obtain ⟨g1, k1, hp1, hk1, _⟩ := hen1
      obtain ⟨ao, ce, hp2, hce, hcl⟩ := elsAt hen2
      rw [hp1] at c1
      rw [hp2] at c2
      obtain ⟨hm8, hge⟩ := HGood.out L[k] (List.getElem_mem hlt)
      obtain ⟨es, hes⟩ : ∃ es, es = L[k].2 := ⟨_, rfl⟩
      rw [← hes] at c2 hce hcl hm8 hge
      have HCl := Lib.hid hcl
      have HGe := Lib.hid hge
      have HXw := Lib.hid hxw
      have hmI : (es.length : Int) ≤ 8 := by omega
      clear hcl hge hxw hen2 hp1 hp2 hes
      have HFk := Lib.hid (show ∀ W, Ext wr W → W.cell? ⟨q, 0, none⟩ = some (.slice (some ⟨g, 0, none⟩) L.length cap) ∧ W.cell? ⟨g, k * 2, none⟩ = some (.slice (some ⟨g1, 0, none⟩) 1 k1) ∧ W.cell? ⟨g, k * 2 + 1, none⟩ = some (.slice ao es.length ce) from
        fun W hW => ⟨(HQ.out.keep (Ext.trans HXr.out hW)).cell 0, by rw [hW.cell (p := ⟨g, k * 2, none⟩) (World.block_lt_of_cell? wr _ c1)]; exact c1, by rw [hW.cell (p := ⟨g, k * 2 + 1, none⟩) (World.block_lt_of_cell? wr _ c2)]; exact c2⟩)
      go_wp2_with fail
      clear cq fq hql c1 c2
      go_loopw [2, 4] (fun _ i ws => ∃ j : Nat, j ≤ es.length ∧ i = .int .i64 j ∧ Ext wr ws) (fun _ i _ => es.length - (intOf i).toNat)
      case atStart => exact ⟨0, Nat.zero_le _, rfl, Ext.refl _⟩
      case round =>
        obtain ⟨j, hj, rfl, hx⟩ := hrel
        have HXs := Lib.hid hx
        obtain ⟨f0, f1, f2⟩ := HFk.out _ hx
        clear hx
        by_cases hjl : j < es.length
        · have hj' : (j : Int) < es.length := by omega
          obtain ⟨ge, rfl, e1, e2, e3, e4⟩ := HCl.out _ (Ext.trans HXw.out HXs.out) j hjl
          obtain ⟨hf, hp⟩ := HGe.out es[j] (List.getElem_mem hjl)
          have hd : decide ((64256 : Int) ≤ (es[j].p : Int)) = false := decide_eq_false (by omega)
          have KO := Lib.hid (okR_any es[j])
          rw [hf] at KO
          have HC2 := Lib.hid (fun W (hW : Ext w W) => HCl.out W hW j hjl)
          unfold elV at KO
          generalize (es[j].p : Int) = P at e1 hd KO HC2
          generalize (es[j].s : Int) = S at e2 KO HC2
          generalize (es[j].t : Int) = T at e3 KO HC2
          generalize es[j].v = V at e4 KO HC2
          go_wp2_with fail
          refine (KO.out _).mono ?_
          rintro e w2 ⟨rfl, hb2⟩
          have HX2 := Lib.hid (Ext.trans HXs.out hb2)
          obtain ⟨k0, m1, m2⟩ := HFk.out _ HX2.out
          obtain ⟨ge2, hge2, n1, _⟩ := HC2.out _ (Ext.trans HXw.out HX2.out)
          cases hge2
          clear hb2 f0 f1 f2 e1 e2 e3 e4
          go_wp2_with fail
          go_roundw
          case rel => exact ⟨j + 1, by omega, by go_num, HX2.out⟩
          case measure => simp [intOf]; omega
        · have hj' : ¬ (j : Int) < es.length := by omega
          have HXo := Lib.hid (Ext.trans HXr.out HXs.out)
          go_wp2_with fail
          rename World => W5
          go_loopw [2, 5] (fun _ i ws => i = .int .i64 1 ∧ ws = W5) (fun _ _ _ => 0)
          case atStart => exact ⟨rfl, rfl⟩
          case round =>
            obtain ⟨rfl, rfl⟩ := hrel
            go_wp2_with fail
            go_roundw
            case rel => exact ⟨k + 1, by omega, by go_num, HXo.out⟩
            case measure => simp [intOf]; omega
    · have hk' : ¬ (k : Int) < L.length := by omega
      go_wp2_with fail
      go_ret
      exact ⟨rfl, Ext.trans HX0.out HXr.out⟩
end Go.Proofs.YtipokgedmfnlaaaGreatDoor

namespace Go.Proofs.YtipokgedmfnlaaaGreatDoor
open Go.RowKit Go.Lib
set_option maxRecDepth 100000

set_option maxHeartbeats 4000000 in
theorem blankR_none (q : Nat) (w : World) (h : Blk w q #[.string ⟨#[]⟩, .int .i64 0] 219) : Calls Tryz.prog 124 #[.pointer (some ⟨q, 0, none⟩)] w fun e w' => e = .returned (.tuple #[]) ∧ Below w.heap.size w w' := by
  have HF := Lib.hid (show ∀ W, Ext w W → W.cell? ⟨q, 0, none⟩ = some (.string ⟨#[]⟩) ∧ W.cell? ⟨q, 1, none⟩ = some (.int .i64 0) from fun W hW => ⟨(h.keep hW).cell 0, (h.keep hW).cell 1⟩)
  clear h
  go_enter Tryz.func124, Tryz.ntmps124
  go_wp2_with fail
  refine wp_loop_rounds 1 ?_
  rw [rounds_succ]
  go_wp2_with fail
  refine wp_par 34 (fun
      | 0 => fun v _ => v = .pointer (some ⟨q, 0, none⟩)
      | 1 => fun v _ => v = .pointer (some ⟨q, 0, none⟩)
      | 2 => fun v _ => v = .pointer (some ⟨q, 1, none⟩)
      | 3 => fun v _ => v = .int .i64 0
      | 4 => fun v _ => v = .pointer (some ⟨q, 0, none⟩)
      | 5 => fun v _ => v = .pointer (some ⟨q, 0, none⟩)
      | 6 => fun v _ => v = .pointer (some ⟨q, 0, none⟩)
      | 7 => fun v _ => v = .string ⟨#[]⟩
      | 8 => fun v _ => v = .int .i64 0
      | 9 => fun v _ => v = .bool false
      | 10 => fun v _ => v = .bool false
      | 11 => fun v _ => v = undef
      | 12 => fun v _ => v = undef
      | 13 => fun v _ => v = undef
      | 14 => fun v _ => v = undef
      | 15 => fun v _ => v = undef
      | 16 => fun v _ => v = undef
      | 17 => fun v _ => v = undef
      | 18 => fun v _ => v = undef
      | 19 => fun v _ => v = undef
      | 20 => fun v _ => v = undef
      | 21 => fun v _ => v = undef
      | 22 => fun v _ => v = undef
      | 23 => fun v _ => v = undef
      | 24 => fun v _ => v = undef
      | 25 => fun v _ => v = undef
      | 26 => fun v _ => v = undef
      | 27 => fun v _ => v = undef
      | 28 => fun v _ => v = undef
      | 29 => fun v _ => v = undef
      | 30 => fun v _ => v = undef
      | 31 => fun v _ => v = undef
      | 32 => fun v _ => v = undef
      | 33 => fun v _ => v = .bool false
      | _ => fun _ _ => True) (by kernel_rfl) (by kernel_rfl) (by kernel_rfl) ?_ ?_
  · simp (maxSteps := 20000000) only [List.take_succ_cons, List.take_zero, ParAll, Act.put, List.setIfInBounds_toArray, List.set_cons_succ, List.set_cons_zero]
    refine ⟨?_, ?_, ?_, ?_, ?_, ?_, ?_, ?_, ?_, ?_, ?_, ?_, ?_, ?_, ?_, ?_, ?_, ?_, ?_, ?_, ?_, ?_, ?_, ?_, ?_, ?_, ?_, ?_, ?_, ?_, ?_, ?_, ?_, ?_, trivial⟩
    · intro vals W hx hd
      have hW := HF.out W hx
      simp [PDeps, pdeps, Region.binds] at hd
      first
        | refine ParOb.plain rfl ?_
        | refine ParOb.wanted (by simp [Region.wanted, yielded, hd]) ?_
      go_simp
      exact ParPost.same fun _ _ => rfl
    · intro vals W hx hd
      have hW := HF.out W hx
      simp [PDeps, pdeps, Region.binds] at hd
      first
        | refine ParOb.plain rfl ?_
        | refine ParOb.wanted (by simp [Region.wanted, yielded, hd]) ?_
      go_simp
      exact ParPost.same fun _ _ => rfl
    · intro vals W hx hd
      have hW := HF.out W hx
      simp [PDeps, pdeps, Region.binds] at hd
      first
        | refine ParOb.plain rfl ?_
        | refine ParOb.wanted (by simp [Region.wanted, yielded, hd]) ?_
      go_simp
      exact ParPost.same fun _ _ => rfl
    · intro vals W hx hd
      have hW := HF.out W hx
      simp [PDeps, pdeps, Region.binds] at hd
      first
        | refine ParOb.plain rfl ?_
        | refine ParOb.wanted (by simp [Region.wanted, yielded, hd]) ?_
      go_simp
      exact ParPost.same fun _ _ => rfl
    · intro vals W hx hd
      have hW := HF.out W hx
      simp [PDeps, pdeps, Region.binds] at hd
      first
        | refine ParOb.plain rfl ?_
        | refine ParOb.wanted (by simp [Region.wanted, yielded, hd]) ?_
      go_simp
      exact ParPost.same fun _ _ => rfl
    · intro vals W hx hd
      have hW := HF.out W hx
      simp [PDeps, pdeps, Region.binds] at hd
      first
        | refine ParOb.plain rfl ?_
        | refine ParOb.wanted (by simp [Region.wanted, yielded, hd]) ?_
      go_simp
      exact ParPost.same fun _ _ => rfl
    · intro vals W hx hd
      have hW := HF.out W hx
      simp [PDeps, pdeps, Region.binds] at hd
      first
        | refine ParOb.plain rfl ?_
        | refine ParOb.wanted (by simp [Region.wanted, yielded, hd]) ?_
      go_simp
      exact ParPost.same fun _ _ => rfl
    · intro vals W hx hd
      have hW := HF.out W hx
      simp [PDeps, pdeps, Region.binds] at hd
      first
        | refine ParOb.plain rfl ?_
        | refine ParOb.wanted (by simp [Region.wanted, yielded, hd]) ?_
      go_simp
      exact ParPost.same fun _ _ => rfl
    · intro vals W hx hd
      have hW := HF.out W hx
      simp [PDeps, pdeps, Region.binds] at hd
      first
        | refine ParOb.plain rfl ?_
        | refine ParOb.wanted (by simp [Region.wanted, yielded, hd]) ?_
      go_simp
      exact ParPost.same fun _ _ => rfl
    · intro vals W hx hd
      have hW := HF.out W hx
      simp [PDeps, pdeps, Region.binds] at hd
      first
        | refine ParOb.plain rfl ?_
        | refine ParOb.wanted (by simp [Region.wanted, yielded, hd]) ?_
      go_simp
      exact ParPost.same fun _ _ => rfl
    · intro vals W hx hd
      have hW := HF.out W hx
      simp [PDeps, pdeps, Region.binds] at hd
      first
        | refine ParOb.plain rfl ?_
        | refine ParOb.wanted (by simp [Region.wanted, yielded, hd]) ?_
      go_simp
      exact ParPost.same fun _ _ => rfl
    · intro vals W hx hd
      have hW := HF.out W hx
      simp [PDeps, pdeps, Region.binds] at hd
      exact ParOb.passed (by simp [Region.wanted, yielded, hd] <;> decide) fun _ _ => rfl
    · intro vals W hx hd
      have hW := HF.out W hx
      simp [PDeps, pdeps, Region.binds] at hd
      exact ParOb.passed (by simp [Region.wanted, yielded, hd] <;> decide) fun _ _ => rfl
    · intro vals W hx hd
      have hW := HF.out W hx
      simp [PDeps, pdeps, Region.binds] at hd
      exact ParOb.passed (by simp [Region.wanted, yielded, hd] <;> decide) fun _ _ => rfl
    · intro vals W hx hd
      have hW := HF.out W hx
      simp [PDeps, pdeps, Region.binds] at hd
      exact ParOb.passed (by simp [Region.wanted, yielded, hd] <;> decide) fun _ _ => rfl
    · intro vals W hx hd
      have hW := HF.out W hx
      simp [PDeps, pdeps, Region.binds] at hd
      exact ParOb.passed (by simp [Region.wanted, yielded, hd] <;> decide) fun _ _ => rfl
    · intro vals W hx hd
      have hW := HF.out W hx
      simp [PDeps, pdeps, Region.binds] at hd
      exact ParOb.passed (by simp [Region.wanted, yielded, hd] <;> decide) fun _ _ => rfl
    · intro vals W hx hd
      have hW := HF.out W hx
      simp [PDeps, pdeps, Region.binds] at hd
      exact ParOb.passed (by simp [Region.wanted, yielded, hd] <;> decide) fun _ _ => rfl
    · intro vals W hx hd
      have hW := HF.out W hx
      simp [PDeps, pdeps, Region.binds] at hd
      exact ParOb.passed (by simp [Region.wanted, yielded, hd] <;> decide) fun _ _ => rfl
    · intro vals W hx hd
      have hW := HF.out W hx
      simp [PDeps, pdeps, Region.binds] at hd
      exact ParOb.passed (by simp [Region.wanted, yielded, hd] <;> decide) fun _ _ => rfl
    · intro vals W hx hd
      have hW := HF.out W hx
      simp [PDeps, pdeps, Region.binds] at hd
      exact ParOb.passed (by simp [Region.wanted, yielded, hd] <;> decide) fun _ _ => rfl
    · intro vals W hx hd
      have hW := HF.out W hx
      simp [PDeps, pdeps, Region.binds] at hd
      exact ParOb.passed (by simp [Region.wanted, yielded, hd] <;> decide) fun _ _ => rfl
    · intro vals W hx hd
      have hW := HF.out W hx
      simp [PDeps, pdeps, Region.binds] at hd
      exact ParOb.passed (by simp [Region.wanted, yielded, hd] <;> decide) fun _ _ => rfl
    · intro vals W hx hd
      have hW := HF.out W hx
      simp [PDeps, pdeps, Region.binds] at hd
      exact ParOb.passed (by simp [Region.wanted, yielded, hd] <;> decide) fun _ _ => rfl
    · intro vals W hx hd
      have hW := HF.out W hx
      simp [PDeps, pdeps, Region.binds] at hd
      exact ParOb.passed (by simp [Region.wanted, yielded, hd] <;> decide) fun _ _ => rfl
    · intro vals W hx hd
      have hW := HF.out W hx
      simp [PDeps, pdeps, Region.binds] at hd
      exact ParOb.passed (by simp [Region.wanted, yielded, hd] <;> decide) fun _ _ => rfl
    · intro vals W hx hd
      have hW := HF.out W hx
      simp [PDeps, pdeps, Region.binds] at hd
      exact ParOb.passed (by simp [Region.wanted, yielded, hd] <;> decide) fun _ _ => rfl
    · intro vals W hx hd
      have hW := HF.out W hx
      simp [PDeps, pdeps, Region.binds] at hd
      exact ParOb.passed (by simp [Region.wanted, yielded, hd] <;> decide) fun _ _ => rfl
    · intro vals W hx hd
      have hW := HF.out W hx
      simp [PDeps, pdeps, Region.binds] at hd
      exact ParOb.passed (by simp [Region.wanted, yielded, hd] <;> decide) fun _ _ => rfl
    · intro vals W hx hd
      have hW := HF.out W hx
      simp [PDeps, pdeps, Region.binds] at hd
      exact ParOb.passed (by simp [Region.wanted, yielded, hd] <;> decide) fun _ _ => rfl
    · intro vals W hx hd
      have hW := HF.out W hx
      simp [PDeps, pdeps, Region.binds] at hd
      exact ParOb.passed (by simp [Region.wanted, yielded, hd] <;> decide) fun _ _ => rfl
    · intro vals W hx hd
      have hW := HF.out W hx
      simp [PDeps, pdeps, Region.binds] at hd
      exact ParOb.passed (by simp [Region.wanted, yielded, hd] <;> decide) fun _ _ => rfl
    · intro vals W hx hd
      have hW := HF.out W hx
      simp [PDeps, pdeps, Region.binds] at hd
      exact ParOb.passed (by simp [Region.wanted, yielded, hd] <;> decide) fun _ _ => rfl
    · intro vals W hx hd
      have hW := HF.out W hx
      simp [PDeps, pdeps, Region.binds] at hd
      first
        | refine ParOb.plain rfl ?_
        | refine ParOb.wanted (by simp [Region.wanted, yielded, hd]) ?_
      go_simp
      exact ParPost.same fun _ _ => rfl
  intro vals W hx hf
  simp (maxSteps := 20000000) only [ParFacts, List.take_succ_cons, List.take_zero, and_true] at hf
  simp (maxSteps := 20000000) only [List.drop_succ_cons, List.drop_zero, List.take_succ_cons, List.take_zero, ParEnd, Act.put, List.setIfInBounds_toArray, List.set_cons_succ, List.set_cons_zero, hf]
  clear hf
  have HX := Lib.hid hx
  clear hx HF
  go_wp2_with fail
  go_end0
  exact ⟨rfl, HX.out⟩
theorem ret_parsed {t : Tmp} {fn : Func} (h : fn.results = #[.cell t 139]) (tmps : Array Value) {w : World} {g : Nat} {cs : Array Value} (hc : cs.size = 3) (hp : tmps.getD t undef = .pointer (some ⟨g, 0, none⟩)) (hg : Blk w g cs 139) :
    (results fn tmps).run Tryz.prog w = .ok (.agg cs) w := by
  have hp' : tmps[t]?.getD undef = .pointer (some ⟨g, 0, none⟩) := by simpa using hp
  have hr := run_loadVar_row w g 139 139 cs (0, 0) _ hg Tryz.underlying139 rfl (by rw [hc]; kernel_rfl)
  simp [results, h, hp', asAddr, hr]
set_option maxHeartbeats 4000000 in
theorem parseR_none (w : World) : Calls Tryz.prog 73 #[.string ⟨#[]⟩] w fun e w' => e = .returned (.agg #[.slice none 0 0, .int .i64 0, .int .i64 0]) ∧ Below w.heap.size w w' := by
  go_enter Tryz.func73, Tryz.ntmps73
  go_wp2_with fail
  have hR : Blk ((w.alloc (.cells #[.slice none 0 0, .int .i64 0, .int .i64 0] 139)).alloc (.cells #[.string ⟨#[]⟩, .int .i64 0] 219)) w.heap.size #[.slice none 0 0, .int .i64 0, .int .i64 0] 139 := (Blk.new w _ _ rfl).alloc _
  have hQ : Blk ((w.alloc (.cells #[.slice none 0 0, .int .i64 0, .int .i64 0] 139)).alloc (.cells #[.string ⟨#[]⟩, .int .i64 0] 219)) (w.heap.size + 1) #[.string ⟨#[]⟩, .int .i64 0] 219 := Blk.new _ _ _ (by simp)
  have hx0 : Ext w ((w.alloc (.cells #[.slice none 0 0, .int .i64 0, .int .i64 0] 139)).alloc (.cells #[.string ⟨#[]⟩, .int .i64 0] 219)) := ((Ext.refl w).alloc _).alloc _
  generalize ((w.alloc (.cells #[.slice none 0 0, .int .i64 0, .int .i64 0] 139)).alloc (.cells #[.string ⟨#[]⟩, .int .i64 0] 219)) = W0 at hR hQ hx0 ⊢
  have HR := Lib.hid hR
  have HQ := Lib.hid hQ
  have HX0 := Lib.hid hx0
  clear hR hQ hx0
  refine wp_loop_rounds 1 ?_
  rw [rounds_succ]
  go_wp2_with fail
  refine (blankR_none (w.heap.size + 1) W0 HQ.out).mono ?_
  rintro e w2 ⟨rfl, hb2⟩
  have HX2 := Lib.hid (Ext.trans HX0.out hb2)
  have HR2 := Lib.hid (HR.out.keep hb2)
  have HF := Lib.hid (show ∀ W, Ext w2 W → W.cell? ⟨w.heap.size + 1, 0, none⟩ = some (.string ⟨#[]⟩) ∧ W.cell? ⟨w.heap.size + 1, 1, none⟩ = some (.int .i64 0) from fun W hW => ⟨(HQ.out.keep (Ext.trans hb2 hW)).cell 0, (HQ.out.keep (Ext.trans hb2 hW)).cell 1⟩)
  clear hb2
  go_wp2_with fail
  refine wp_par 10 (fun
      | 0 => fun v _ => v = .pointer (some ⟨w.heap.size + 1, 0, none⟩)
      | 1 => fun v _ => v = .pointer (some ⟨w.heap.size + 1, 0, none⟩)
      | 2 => fun v _ => v = .pointer (some ⟨w.heap.size + 1, 1, none⟩)
      | 3 => fun v _ => v = .int .i64 0
      | 4 => fun v _ => v = .pointer (some ⟨w.heap.size + 1, 0, none⟩)
      | 5 => fun v _ => v = .pointer (some ⟨w.heap.size + 1, 0, none⟩)
      | 6 => fun v _ => v = .pointer (some ⟨w.heap.size + 1, 0, none⟩)
      | 7 => fun v _ => v = .string ⟨#[]⟩
      | 8 => fun v _ => v = .int .i64 0
      | 9 => fun v _ => v = .bool true
      | _ => fun _ _ => True) (by kernel_rfl) (by kernel_rfl) (by kernel_rfl) ?_ ?_
  · simp (maxSteps := 20000000) only [List.take_succ_cons, List.take_zero, ParAll, Act.put, List.setIfInBounds_toArray, List.set_cons_succ, List.set_cons_zero]
    refine ⟨?_, ?_, ?_, ?_, ?_, ?_, ?_, ?_, ?_, ?_, trivial⟩
    · intro vals W hx hd
      have hW := HF.out W hx
      simp [PDeps, pdeps, Region.binds] at hd
      first
        | refine ParOb.plain rfl ?_
        | refine ParOb.wanted (by simp [Region.wanted, yielded, hd]) ?_
      go_simp
      exact ParPost.same fun _ _ => rfl
    · intro vals W hx hd
      have hW := HF.out W hx
      simp [PDeps, pdeps, Region.binds] at hd
      first
        | refine ParOb.plain rfl ?_
        | refine ParOb.wanted (by simp [Region.wanted, yielded, hd]) ?_
      go_simp
      exact ParPost.same fun _ _ => rfl
    · intro vals W hx hd
      have hW := HF.out W hx
      simp [PDeps, pdeps, Region.binds] at hd
      first
        | refine ParOb.plain rfl ?_
        | refine ParOb.wanted (by simp [Region.wanted, yielded, hd]) ?_
      go_simp
      exact ParPost.same fun _ _ => rfl
    · intro vals W hx hd
      have hW := HF.out W hx
      simp [PDeps, pdeps, Region.binds] at hd
      first
        | refine ParOb.plain rfl ?_
        | refine ParOb.wanted (by simp [Region.wanted, yielded, hd]) ?_
      go_simp
      exact ParPost.same fun _ _ => rfl
    · intro vals W hx hd
      have hW := HF.out W hx
      simp [PDeps, pdeps, Region.binds] at hd
      first
        | refine ParOb.plain rfl ?_
        | refine ParOb.wanted (by simp [Region.wanted, yielded, hd]) ?_
      go_simp
      exact ParPost.same fun _ _ => rfl
    · intro vals W hx hd
      have hW := HF.out W hx
      simp [PDeps, pdeps, Region.binds] at hd
      first
        | refine ParOb.plain rfl ?_
        | refine ParOb.wanted (by simp [Region.wanted, yielded, hd]) ?_
      go_simp
      exact ParPost.same fun _ _ => rfl
    · intro vals W hx hd
      have hW := HF.out W hx
      simp [PDeps, pdeps, Region.binds] at hd
      first
        | refine ParOb.plain rfl ?_
        | refine ParOb.wanted (by simp [Region.wanted, yielded, hd]) ?_
      go_simp
      exact ParPost.same fun _ _ => rfl
    · intro vals W hx hd
      have hW := HF.out W hx
      simp [PDeps, pdeps, Region.binds] at hd
      first
        | refine ParOb.plain rfl ?_
        | refine ParOb.wanted (by simp [Region.wanted, yielded, hd]) ?_
      go_simp
      exact ParPost.same fun _ _ => rfl
    · intro vals W hx hd
      have hW := HF.out W hx
      simp [PDeps, pdeps, Region.binds] at hd
      first
        | refine ParOb.plain rfl ?_
        | refine ParOb.wanted (by simp [Region.wanted, yielded, hd]) ?_
      go_simp
      exact ParPost.same fun _ _ => rfl
    · intro vals W hx hd
      have hW := HF.out W hx
      simp [PDeps, pdeps, Region.binds] at hd
      first
        | refine ParOb.plain rfl ?_
        | refine ParOb.wanted (by simp [Region.wanted, yielded, hd]) ?_
      go_simp
      exact ParPost.same fun _ _ => rfl
  intro vals W hx hf
  simp (maxSteps := 20000000) only [ParFacts, List.take_succ_cons, List.take_zero, and_true] at hf
  simp (maxSteps := 20000000) only [List.drop_succ_cons, List.drop_zero, List.take_succ_cons, List.take_zero, ParEnd, Act.put, List.setIfInBounds_toArray, List.set_cons_succ, List.set_cons_zero, hf]
  clear hf
  have HX3 := Lib.hid (Ext.trans HX2.out hx)
  have HR3 := Lib.hid (HR2.out.keep hx)
  obtain ⟨cr, fr⟩ := HR3.out.facts
  have hrl := HR3.out.lt
  clear hx HF
  go_wp2_with fail
  refine bodyPost_ret (ret_parsed rfl _ rfl rfl (blk3 HR3.out _ _ _)) rfl ?_
  exact ⟨rfl, (((show Below w.heap.size w W from HX3.out).setCell (Nat.le_refl _) _).setCell (Nat.le_refl _) _).setCell (Nat.le_refl _) _⟩
end Go.Proofs.YtipokgedmfnlaaaGreatDoor
