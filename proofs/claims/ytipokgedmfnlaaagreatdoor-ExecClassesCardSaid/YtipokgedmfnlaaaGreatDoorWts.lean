/-
  The weights of a level (Coll.Of, no backward level); two lists of numbers held against each other (slices.Compare).
-/
import Derived.Test.YtipokgedmfnlaaaGreatDoorOf
import Derived.Test.YtipokgedmfnlaaaGreatDoorElemB
import Derived.Test.YtipokgedmfnlaaaGreatDoorVal
namespace Go.Proofs.YtipokgedmfnlaaaGreatDoor
open Go.RowKit Go.Lib
set_option maxRecDepth 100000

/-- The weights that count. -/
def wtL (level : Nat) (shift : Bool) (es : List El) : List Nat := (es.filter (cnts level shift)).map (·.wt level)
theorem wts_fwd (level : Nat) (shift : Bool) (es : List El) : wts level shift false es = wtL level shift es := by
  unfold wts wtL
  rw [if_neg (by simp)]
theorem wtL_take (level : Nat) (shift : Bool) (es : List El) (k : Nat) (h : k < es.length) : wtL level shift (es.take (k + 1)) = wtL level shift (es.take k) ++ if cnts level shift es[k] then [es[k].wt level] else [] := by
  unfold wtL
  rw [List.take_add_one, List.getElem?_eq_getElem h, List.filter_append, List.map_append]
  congr 1
  simp only [Option.toList, List.filter_cons, List.filter_nil]
  split <;> rfl
theorem wtL_len (level : Nat) (shift : Bool) (es : List El) (k : Nat) : (wtL level shift (es.take k)).length ≤ es.length := by
  unfold wtL
  rw [List.length_map]
  exact Nat.le_trans (List.length_filter_le _ _) (by rw [List.length_take]; omega)
theorem wt_lt (e : El) (h : e.ok) (level : Nat) : e.wt level < 65536 := by
  obtain ⟨h1, h2, h3⟩ := h
  unfold El.wt
  repeat' split
  all_goals omega
set_option maxHeartbeats 8000000 in
theorem collOf_any (kind lv : Int) (shift : Bool) (p : Option Addr) (v : Value) (es : List El) (level : Nat) (w : World) (hv : ReadsL w v (wordsV es)) (hn : es.length ≤ 300000) (hok : ∀ e ∈ es, e.ok) (hl : level = 1 ∨ level = 2 ∨ level = 3) :
    Calls Tryz.prog 211 #[cV kind lv shift false p, v, .int .i64 level] w fun e w' => (∃ v', e = .returned v' ∧ ReadsL w' v' (intsV (wtL level shift es))) ∧ Below w.heap.size w w' := by
  have HO := Lib.hid hok
  have HW := Lib.hid (fun (e : El) (he : e.ok) (W : World) => weight_el level e W hl he)
  have HL := Lib.hid hl
  have hl3 : (level : Int) ≤ 3 := by omega
  have hl0 : (1 : Int) ≤ level := by omega
  rw [show cV kind lv shift false p = .agg #[.int .i64 kind, .int .i64 lv, .bool shift, .bool false, .pointer p] from rfl]
  have hQ : Blk (w.alloc (.cells #[.int .i64 kind, .int .i64 lv, .bool shift, .bool false, .pointer p] 25)) w.heap.size #[.int .i64 kind, .int .i64 lv, .bool shift, .bool false, .pointer p] 25 := Blk.new w _ _ rfl
  have hx0 : Ext w (w.alloc (.cells #[.int .i64 kind, .int .i64 lv, .bool shift, .bool false, .pointer p] 25)) := (Ext.refl w).alloc _
  have HQ := Lib.hid hQ
  have HX0 := Lib.hid hx0
  clear hQ hx0
  rcases hv with ⟨rfl, h0⟩ | ⟨g, cap, rfl, hcap, hcell⟩
  · have hcs : es = [] := by simpa [wordsV] using h0
    subst hcs
    clear hok hl
    go_enter Tryz.func211, Tryz.ntmps211
    go_wp2_with fail
    generalize (w.alloc (.cells #[.int .i64 kind, .int .i64 lv, .bool shift, .bool false, .pointer p] 25)) = W0 at HQ HX0 ⊢
    go_loopw [7, 13] (fun o i wr => o = .slice none 0 0 ∧ i = .int .i64 0 ∧ wr = W0) (fun _ _ _ => 0)
    case atStart => exact ⟨rfl, rfl, rfl⟩
    case round =>
      obtain ⟨rfl, rfl, rfl⟩ := hrel
      obtain ⟨cq, fq⟩ := HQ.out.facts
      have hql := HQ.out.lt
      cases hl2 : ((level : Int) == 2)
      all_goals
        go_wp2_with fail
        refine (clip_none _).mono ?_
        rintro e w2 ⟨rfl, rfl⟩
        go_wp2_with fail
        go_ret
        exact ⟨⟨_, rfl, .inl ⟨rfl, rfl⟩⟩, HX0.out⟩
  · rw [wordsV_length] at hcap ⊢
    have HV := Lib.hid (show ∀ W, Ext w W → ∀ k (h : k < es.length), W.cell? ⟨g, k, none⟩ = some (.int .u32 (es[k].word : Int)) from fun W hW k h => by
      have h1 := hcell k (.int .u32 (es[k].word : Int)) (by simp [wordsV, h])
      rw [hW.cell (p := ⟨g, k, none⟩) (World.block_lt_of_cell? w _ h1)]
      exact h1)
    clear hcell hok hl
    go_enter Tryz.func211, Tryz.ntmps211
    go_wp2_with fail
    generalize (w.alloc (.cells #[.int .i64 kind, .int .i64 lv, .bool shift, .bool false, .pointer p] 25)) = W0 at HQ HX0 ⊢
    go_loopw [7, 13] (fun o i wr => ∃ k : Nat, k ≤ es.length ∧ i = .int .i64 k ∧ wr.ownsRow W0.heap.size 3 1 o (wtL level shift (es.take k)).length (intsV (wtL level shift (es.take k))) ∧ Ext W0 wr ∧ Below w.heap.size w wr) (fun _ i _ => es.length - (intOf i).toNat)
    case atStart => exact ⟨0, Nat.zero_le _, rfl, World.ownsRow_nil _ _ _ _, Ext.refl _, HX0.out⟩
    case round =>
      obtain ⟨k, hk, rfl, hown, hx, hb⟩ := hrel
      have HOw := Lib.hid hown
      have HB := Lib.hid hb
      have HXr := Lib.hid hx
      have hq2 := HQ.out.keep hx
      obtain ⟨cq, fq⟩ := hq2.facts
      have hql := hq2.lt
      clear hown hb hx hq2
      by_cases hlt : k < es.length
      · have hk' : (k : Int) < es.length := by omega
        have hnI : (es.length : Int) ≤ 300000 := by omega
        have hle := wtL_len level shift es k
        have ht := wtL_take level shift es k hlt
        have c1 := HV.out wr HB.out k hlt
        obtain ⟨e, he⟩ : ∃ e, e = es[k] := ⟨_, rfl⟩
        have hek := HO.out es[k] (List.getElem_mem hlt)
        have hcn : cnts level shift e = (decide (0 < ((e.wt level : Nat) : Int)) && !(shift && e.v)) := by simp [cnts]
        have hx65 := wt_lt es[k] hek level
        rw [← he] at ht c1 hek hx65
        have HWk := Lib.hid (HW.out e hek wr)
        have KV := Lib.hid (variable_any e wr hek)
        generalize e.word = x0 at c1 HWk KV
        generalize e.wt level = x at ht hcn HWk hx65
        obtain ⟨X, hX⟩ : ∃ X : Int, X = (x : Int) := ⟨_, rfl⟩
        rw [← hX] at hcn HWk
        have HXx := Lib.hid hX
        clear hX
        generalize e.v = ev at hcn KV
        generalize cnts level shift e = cn at ht hcn
        generalize wtL level shift (es.take k) = ds at HOw hle ht
        have HT := Lib.hid ht
        have HS := Lib.hid (show ∀ W v, W.ownsRow W0.heap.size 3 1 v (wtL level shift (es.take (k + 1))).length (intsV (wtL level shift (es.take (k + 1)))) → Ext W0 W → Below w.heap.size w W → ∃ j : Nat, j ≤ es.length ∧ Value.int .i64 ((k : Int) + 1) = .int .i64 j ∧ W.ownsRow W0.heap.size 3 1 v (wtL level shift (es.take j)).length (intsV (wtL level shift (es.take j))) ∧ Ext W0 W ∧ Below w.heap.size w W from
          fun W v h1 h2 h3 => ⟨k + 1, by omega, by go_num, h1, h2, h3⟩)
        clear ht hek he HV HO
        go_wp2_with fail
        refine HWk.out.mono ?_
        rintro r w2 ⟨rfl, rfl⟩
        cases hx : decide (0 < X)
        · rw [hx] at hcn
          have HN := Lib.hid (show wtL level shift (es.take (k + 1)) = ds by rw [HT.out, hcn]; simp)
          clear hcn
          go_wp2_with fail
          go_roundw
          case rel => exact HS.out _ _ (by rw [HN.out]; exact HOw.out) HXr.out HB.out
          case measure => simp [intOf]; omega
        · rw [hx] at hcn
          cases shift
          · have HN := Lib.hid (show wtL level false (es.take (k + 1)) = ds ++ [x] by rw [HT.out, hcn]; simp)
            clear hcn
            go_wp2_with (at_builtin; refine wpList_push rfl _ _ _ rfl W0.heap.size 3 (.int .i64 0) 1 8 Tryz.underlying40 infoInt1 rfl (by decide) u7 ds.length (intsV ds) rfl (HOw.out.alloc _) wr.heap.size 3 #[.int .i64 X] rfl (Blk.new _ _ _ rfl) rfl (by simp [Value.oneCell']) (by unfold maxLen; omega) (by omega) (by have := HXr.out.size; simp <;> omega) ?_; intro v5 w5 hown hgr hat)
            have HZ := Lib.hid (HS.out w5 v5 (by rw [HN.out, List.length_append, intsV_snoc, ← HXx.out]; exact hown) (show Below W0.heap.size W0 w5 from ((show Below W0.heap.size W0 wr from HXr.out).alloc HXr.out.size _).grown hgr (by have := HXr.out.size; simp <;> omega) (fun k hk => by
                rcases HOw.out.2 with ⟨e, _⟩ | ⟨g', _, _, e, hB, _⟩
                · rw [e] at hk; simp [Value.ownBlock] at hk
                · rw [e] at hk; simp [Value.ownBlock] at hk; omega)) ((HB.out.alloc HB.out.size _).grown hgr (by have := HB.out.size; simp <;> omega) (fun k hk => by
                have h0 := HX0.out.size
                rcases HOw.out.2 with ⟨e, _⟩ | ⟨g', _, _, e, hB, _⟩
                · rw [e] at hk; simp [Value.ownBlock] at hk
                · rw [e] at hk; simp [Value.ownBlock] at hk; omega)))
            clear hown hgr hat
            go_wp2_with fail
            go_roundw
            case rel => exact HZ.out
            case measure => simp [intOf]; omega
          · cases ev
            · have HN := Lib.hid (show wtL level true (es.take (k + 1)) = ds ++ [x] by rw [HT.out, hcn]; simp)
              clear hcn
              go_wp2_with fail
              refine KV.out.mono ?_
              rintro r w2 ⟨rfl, rfl⟩
              go_wp2_with (at_builtin; refine wpList_push rfl _ _ _ rfl W0.heap.size 3 (.int .i64 0) 1 8 Tryz.underlying40 infoInt1 rfl (by decide) u7 ds.length (intsV ds) rfl (HOw.out.alloc _) wr.heap.size 3 #[.int .i64 X] rfl (Blk.new _ _ _ rfl) rfl (by simp [Value.oneCell']) (by unfold maxLen; omega) (by omega) (by have := HXr.out.size; simp <;> omega) ?_; intro v5 w5 hown hgr hat)
              have HZ := Lib.hid (HS.out w5 v5 (by rw [HN.out, List.length_append, intsV_snoc, ← HXx.out]; exact hown) (show Below W0.heap.size W0 w5 from ((show Below W0.heap.size W0 wr from HXr.out).alloc HXr.out.size _).grown hgr (by have := HXr.out.size; simp <;> omega) (fun k hk => by
                  rcases HOw.out.2 with ⟨e, _⟩ | ⟨g', _, _, e, hB, _⟩
                  · rw [e] at hk; simp [Value.ownBlock] at hk
                  · rw [e] at hk; simp [Value.ownBlock] at hk; omega)) ((HB.out.alloc HB.out.size _).grown hgr (by have := HB.out.size; simp <;> omega) (fun k hk => by
                  have h0 := HX0.out.size
                  rcases HOw.out.2 with ⟨e, _⟩ | ⟨g', _, _, e, hB, _⟩
                  · rw [e] at hk; simp [Value.ownBlock] at hk
                  · rw [e] at hk; simp [Value.ownBlock] at hk; omega)))
              clear hown hgr hat
              go_wp2_with fail
              go_roundw
              case rel => exact HZ.out
              case measure => simp [intOf]; omega
            · have HN := Lib.hid (show wtL level true (es.take (k + 1)) = ds by rw [HT.out, hcn]; simp)
              clear hcn
              go_wp2_with fail
              refine KV.out.mono ?_
              rintro r w2 ⟨rfl, rfl⟩
              go_wp2_with fail
              go_roundw
              case rel => exact HS.out _ _ (by rw [HN.out]; exact HOw.out) HXr.out HB.out
              case measure => simp [intOf]; omega
      · obtain rfl : k = es.length := by omega
        have HF := Lib.hid (show ReadsL wr (clip u7) (intsV (wtL level shift es)) from by
          have := HOw.out
          rw [List.take_length] at this
          exact (ownsRow_reads this).clip)
        cases hl2 : ((level : Int) == 2)
        all_goals
          go_wp2_with fail
          refine (clip_own HOw.out).mono ?_
          rintro e w2 ⟨rfl, rfl⟩
          go_wp2_with fail
          go_ret
          exact ⟨⟨_, rfl, HF.out⟩, HB.out⟩
/-! ### Lists of numbers -/
theorem cmpL_drop (xs ys : List Nat) (k : Nat) (h1 : k < xs.length) (h2 : k < ys.length) : cmpL (xs.drop k) (ys.drop k) = if xs[k] < ys[k] then -1 else if ys[k] < xs[k] then 1 else cmpL (xs.drop (k + 1)) (ys.drop (k + 1)) := by
  rw [List.drop_eq_getElem_cons h1, List.drop_eq_getElem_cons h2, cmpL]
/-- A slice of numbers that reads so in any later world. -/
theorem intsAt {w : World} {v : Value} {xs : List Nat} (h : ReadsL w v (intsV xs)) : ∃ ao cap, v = .slice ao xs.length cap ∧ xs.length ≤ cap ∧ (∀ W, Ext w W → ∀ k (h : k < xs.length), ∃ g, ao = some ⟨g, 0, none⟩ ∧ W.cell? ⟨g, k, none⟩ = some (.int .i64 (xs[k] : Int))) := by
  rcases h with ⟨rfl, h0⟩ | ⟨g, cap, rfl, hcap, hcell⟩
  · have hx : xs = [] := by simpa [intsV] using h0
    subst hx
    exact ⟨none, 0, rfl, Nat.le_refl _, fun W _ k h => absurd h (Nat.not_lt_zero _)⟩
  · rw [intsV_length] at hcap
    refine ⟨_, cap, by rw [intsV_length], hcap, fun W hW k h => ⟨g, rfl, ?_⟩⟩
    have h1 := hcell k (.int .i64 (xs[k] : Int)) (by simp [intsV, h])
    rw [hW.cell (p := ⟨g, k, none⟩) (World.block_lt_of_cell? w _ h1)]
    exact h1
set_option maxHeartbeats 4000000 in
theorem compare_any (v u : Value) (xs ys : List Nat) (w : World) (hv : ReadsL w v (intsV xs)) (hu : ReadsL w u (intsV ys)) (hn : xs.length ≤ 300000) (hm : ys.length ≤ 300000) :
    Calls Tryz.prog 210 #[v, u] w fun e w' => e = .returned (.int .i64 (cmpL xs ys)) ∧ w = w' := by
  obtain ⟨ao, cap, rfl, hcap, h1⟩ := intsAt hv
  obtain ⟨bo, cap2, rfl, hcap2, h2⟩ := intsAt hu
  have H1 := Lib.hid h1
  have H2 := Lib.hid h2
  have hnI : (xs.length : Int) ≤ 300000 := by omega
  have hmI : (ys.length : Int) ≤ 300000 := by omega
  clear hv hu h1 h2
  go_enter Tryz.func210, Tryz.ntmps210
  go_wp2_with fail
  go_loopw [4, 11] (fun _ i wr => ∃ k : Nat, k ≤ xs.length ∧ k ≤ ys.length ∧ i = .int .i64 k ∧ cmpL xs ys = cmpL (xs.drop k) (ys.drop k) ∧ w = wr) (fun _ i _ => xs.length - (intOf i).toNat)
  case atStart => exact ⟨0, Nat.zero_le _, Nat.zero_le _, rfl, rfl, rfl⟩
  case round =>
    obtain ⟨k, hk, hk2, rfl, hc, rfl⟩ := hrel
    have HC := Lib.hid hc
    clear hc
    by_cases hlt : k < xs.length
    · have hk' : (k : Int) < xs.length := by omega
      obtain ⟨g, rfl, c1⟩ := H1.out w (Ext.refl w) k hlt
      by_cases hlt2 : k < ys.length
      · have hk2' : (k : Int) < ys.length := by omega
        obtain ⟨g2, rfl, c2⟩ := H2.out w (Ext.refl w) k hlt2
        have hd := cmpL_drop xs ys k hlt hlt2
        rw [← HC.out] at hd
        generalize xs[k] = a at c1 hd
        generalize ys[k] = b at c2 hd
        go_wp2_with fail
        refine (cmpint_any (a : Int) (b : Int) w).mono ?_
        rintro e w2 ⟨rfl, rfl⟩
        rcases Nat.lt_trichotomy a b with h | h | h
        · rw [if_pos h] at hd
          have hi : cmpI (a : Int) (b : Int) = -1 := cmpI_lt (by omega)
          rw [hi]
          have HD := Lib.hid hd
          clear hd
          go_wp2_with fail
          go_ret
          exact ⟨by rw [HD.out]; rfl, rfl⟩
        · subst h
          rw [if_neg (by omega), if_neg (by omega)] at hd
          have hi : cmpI (a : Int) (a : Int) = 0 := cmpI_eq _
          rw [hi]
          have HD := Lib.hid hd
          clear hd hi
          go_wp2_with fail
          go_roundw
          case rel => exact ⟨k + 1, by omega, by omega, by go_num, HD.out, trivial⟩
          case measure => simp [intOf]; omega
        · rw [if_neg (by omega), if_pos h] at hd
          have hi : cmpI (a : Int) (b : Int) = 1 := cmpI_gt (by omega)
          rw [hi]
          have HD := Lib.hid hd
          clear hd
          go_wp2_with fail
          go_ret
          exact ⟨by rw [HD.out]; rfl, rfl⟩
      · obtain rfl : k = ys.length := by omega
        have hr : cmpL xs ys = 1 := by
          rw [HC.out, List.drop_length, List.drop_eq_getElem_cons hlt]
          rfl
        have HR := Lib.hid hr
        clear hr
        go_wp2_with fail
        go_ret
        exact ⟨by rw [HR.out]; rfl, rfl⟩
    · obtain rfl : k = xs.length := by omega
      by_cases hlt2 : xs.length < ys.length
      · have hk2' : (xs.length : Int) < ys.length := by omega
        have hr : cmpL xs ys = -1 := by
          rw [HC.out, List.drop_length, List.drop_eq_getElem_cons hlt2]
          rfl
        have HR := Lib.hid hr
        clear hr
        go_wp2_with fail
        go_ret
        exact ⟨by rw [HR.out]; rfl, rfl⟩
      · have he : ys.length = xs.length := by omega
        have hr : cmpL xs ys = 0 := by
          rw [HC.out, List.drop_length, ← he, List.drop_length]
          rfl
        have HR := Lib.hid hr
        clear hr
        have hk2' : ¬ (xs.length : Int) < ys.length := by omega
        go_wp2_with fail
        go_ret
        exact ⟨by rw [HR.out]; rfl, rfl⟩
end Go.Proofs.YtipokgedmfnlaaaGreatDoor
