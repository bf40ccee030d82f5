import Derived.Outline
import Derived.Test.YtchpbdodlbghaaaGreatDoorParZ
import Derived.Test.YtchpbdodlbghaaaGreatDoorTrieE
namespace Go.Proofs.YtchpbdodlbghaaaGreatDoor
open Go.RowKit
set_option maxRecDepth 100000

theorem infoBlk (b : List Int) (h : b.length = 64) : (Tryz.prog.info? 233).map (·.size) = some (blkI b).size := by
  rw [blkI_size, h]
  kernel_rfl
theorem blkI_cells (b : List Int) : ∀ u ∈ (blkI b).toList, u.oneCell' = true := by
  intro u hu
  simp only [blkI, List.mem_map] at hu
  obtain ⟨x, _, rfl⟩ := hu
  rfl
theorem zero32 : in32 (List.replicate 64 0) := by
  intro x hx
  obtain ⟨_, rfl⟩ := List.mem_replicate.1 hx
  omega
set_option maxHeartbeats 4000000 in
theorem build_walk (v : Value) (ps : List (Nat × Int)) (w : World) (hp : PairsAt w v ps) (hlen : ps.length ≤ 10000) (hg : ∀ p ∈ ps, goodPair p) (hnd : (ps.map (·.1)).Nodup) :
    Calls Tryz.prog 62 #[v] w (TriePost w (fOf ps)) := by
  have hmm := @run_makeMap Tryz.prog
  have HP := Lib.hid hp
  have HG := Lib.hid hg
  have HN := Lib.hid hnd
  obtain ⟨ad, cap, hv⟩ : ∃ ad cap, v = .slice ad ps.length cap := by
    rcases hp with ⟨rfl, rfl⟩ | ⟨g, c, rfl, _⟩
    · exact ⟨none, 0, rfl⟩
    · exact ⟨_, c, rfl⟩
  clear hg hnd hp
  have HV := Lib.hid hv
  subst hv
  go_enter Tryz.func62, Tryz.ntmps62
  go_wp2_with fail
  refine (containsPair_none _ ps _ HP.out (by omega) HG.out).mono ?_
  rintro e w1 ⟨rfl, hb1⟩
  have HP1 := Lib.hid (HP.out.ext hb1)
  have HB1 := Lib.hid hb1
  clear hb1
  go_wp2_with fail
  have hS0 : TS1 w ((w1.alloc (.map #[] 0)).alloc (.map #[] 0)) w1.heap.size (w1.heap.size + 1) (.slice ad ps.length cap) ps 0 :=
    ⟨(GMap.new _ _ w1 rfl).alloc _, GMap.new _ _ _ (by simp), (HP1.out.ext ((Ext.refl _).alloc _)).ext ((Ext.refl _).alloc _), (HB1.out.alloc HB1.out.size _).alloc (Nat.le_trans HB1.out.size (by simp)) _, HB1.out.size, Nat.le_succ_of_le HB1.out.size, by omega⟩
  generalize (w1.alloc (.map #[] 0)).alloc (.map #[] 0) = W0 at hS0 ⊢
  generalize hSS : w1.heap.size + 1 = O at hS0 ⊢
  generalize hS : w1.heap.size = S at hS0 ⊢
  clear hS hSS
  have HS0 := Lib.hid hS0
  clear hS0
  go_loopw [21] (fun i wr => ∃ k : Nat, k ≤ ps.length ∧ i = .int .i64 k ∧ TS1 w wr S O (.slice ad ps.length cap) ps k) (fun i _ => ps.length - (intOf i).toNat)
  case atStart => exact ⟨0, Nat.zero_le _, rfl, HS0.out⟩
  case round =>
    obtain ⟨k, hk, rfl, hr⟩ := hrel
    have HT := Lib.hid hr
    clear hr
    by_cases hlt : k < ps.length
    · obtain ⟨g, had, hgl, hcell⟩ : ∃ g, ad = some ⟨g, 0, none⟩ ∧ g < wr.heap.size ∧ ∀ j, j < ps.length → wr.cell? ⟨g, j * 2, none⟩ = some (.int .i64 ((ps.getD j (0, 0)).1 : Int)) ∧ wr.cell? ⟨g, j * 2 + 1, none⟩ = some (.int .i64 (ps.getD j (0, 0)).2) := by
        rcases HT.out.pairs with ⟨_, h0⟩ | ⟨g, c, h1, _, h3, h4⟩
        · rw [h0] at hlt; exact absurd hlt (Nat.not_lt_zero _)
        · simp only [Value.slice.injEq] at h1
          exact ⟨g, h1.1, h3, h4⟩
      subst had
      obtain ⟨c1, c2⟩ := hcell k hlt
      have hgp : goodPair (ps.getD k (0, 0)) := HG.out _ (by rw [List.getD_eq_getElem?_getD, List.getElem?_eq_getElem hlt]; exact List.getElem_mem _)
      obtain ⟨b1, b2, b3⟩ := hgp
      have HK := Lib.hid (show ps.take (k + 1) = ps.take k ++ [ps.getD k (0, 0)] from by
        rw [List.take_succ_eq_append_getElem hlt, List.getD_eq_getElem?_getD, List.getElem?_eq_getElem hlt]; rfl)
      have HNW := Lib.hid (show ∀ p ∈ ps.take k, p.1 ≠ (ps.getD k (0, 0)).1 from by
        intro p hp e
        obtain ⟨i, hi, rfl⟩ := List.getElem_of_mem hp
        rw [List.length_take] at hi
        have h2 := HN.out
        rw [List.Nodup, List.pairwise_map] at h2
        have h3 := List.pairwise_iff_getElem.1 h2 i k (by omega) hlt (by omega)
        rw [List.getElem_take, List.getD_eq_getElem?_getD, List.getElem?_eq_getElem hlt] at e
        exact h3 e)
      generalize ps.getD k (0, 0) = p at b1 b2 b3 c1 c2 HK HNW
      obtain ⟨pc, pv⟩ := p
      simp only at b1 b2 b3 c1 c2 HNW
      clear hcell
      have HD := Lib.hid (show ((pc / 64 : Nat) : Int) = (pc : Int) / 64 from by omega)
      go_wp2_with (first
        | (at_lookup; refine wpList_look rfl _ _ _ _ rfl S (.bool false) rfl (seen_get (HT.out.seen.alloc _) pc b1 HNW.out) ?_)
        | (at_mapUpdate; refine wpList_upd rfl _ _ _ _ rfl S _ rfl (seen_put (HT.out.seen.alloc _) pc pv b1 HNW.out) ?_; intro w2 hR2
           have HR2 := Lib.hid hR2; clear hR2
           have HX2 := Lib.hid (blk_grownM (Blk.new wr #[.int .i64 (pc : Int), .int .i64 pv] 151 rfl) HR2.out.2.1 (HT.out.seen.alloc _).nocells)
           have HO2 := Lib.hid ((HT.out.own.alloc (.cells #[.int .i64 (pc : Int), .int .i64 pv] 151)).grown HR2.out.2.1 (fun e => HT.out.ne (Option.some.inj e).symm))
           obtain ⟨cx, fx⟩ := HX2.out.facts)
        | (at_lookup; refine wpList_look rfl _ _ _ _ rfl O (.agg (blkI (blk (fOf (ps.take k)) (pc / 64)))) rfl (by have h := own_get HO2.out (pc / 64) (by omega); rw [HD.out] at h; exact h) ?_)
        | (refine wpList_store_blk rfl 233 (.tmp 8) (.tmp 36) rfl w2.heap.size (blkI (blk (fOf (ps.take k)) (pc / 64))) rfl rfl 233 _ (Blk.new w2 _ _ rfl) (infoBlk _ (blk_length _ _)) (by rw [blkI_size, blk_length]; rfl) (blkI_one _) ?_; intro w3 hY hg3 hs3
           have HY := Lib.hid hY
           have HE := Lib.hid (show Ext w2 (w3.setCell ⟨w2.heap.size, pc % 64, none⟩ (.int .i32 pv)) from (Below.grown ((Ext.refl w2).alloc _) hg3 (by simp) (fun k hk => by cases hk; exact Nat.le_refl _)).setCell (p := ⟨w2.heap.size, pc % 64, none⟩) (Nat.le_refl _) _)
           have HX3 := Lib.hid (HX2.out.keep (show Ext w2 w3 from Below.grown ((Ext.refl w2).alloc _) hg3 (by simp) (fun k hk => by cases hk; exact Nat.le_refl _)))
           clear hY hg3 hs3 cx fx
           obtain ⟨cx3, fx3⟩ := HX3.out.facts
           have cy : w3.cell? ⟨w2.heap.size, pc % 64, none⟩ = some (.int .i32 ((blk (fOf (ps.take k)) (pc / 64)).getD (pc % 64) 0)) := by rw [HY.out.cell, blkI_get _ _ (by rw [blk_length]; omega)]
           have fy := HY.out.free
           have cx4 : (w3.setCell ⟨w2.heap.size, pc % 64, none⟩ (.int .i32 pv)).cell? ⟨wr.heap.size, 0, none⟩ = some (.int .i64 pc) := (HX2.out.keep HE.out).cell 0)
        | (refine wpList_load_row rfl 233 (.tmp 8) rfl w2.heap.size rfl 233 (blkI ((blk (fOf (ps.take k)) (pc / 64)).set (pc % 64) pv)) (0, 0) _ (by rw [← blkI_set]; exact HY.out.set (pc % 64) _) Tryz.underlying233 rfl (infoBlk _ (by rw [List.length_set, blk_length])) ?_)
        | (at_mapUpdate; refine wpList_upd rfl _ _ _ _ rfl O _ rfl (by have h := own_put (HO2.out.keep HE.out) pc pv b1 HNW.out; rw [HD.out] at h; exact h) ?_; intro w4 hR4
           have HR4 := Lib.hid hR4; clear hR4))
      go_roundw
      case rel =>
        exact ⟨k + 1, by omega, by go_num, ⟨by rw [HK.out]; exact (HR2.out.1.keep HE.out).grown HR4.out.2.1 (fun e => HT.out.ne (Option.some.inj e)), by rw [HK.out]; exact HR4.out.1,
          (((HT.out.pairs.ext ((Ext.refl wr).alloc (.cells #[.int .i64 (pc : Int), .int .i64 pv] 151))).grown HR2.out.2.1 (HT.out.seen.alloc _).nocells).ext HE.out).grown HR4.out.2.1 (HO2.out.keep HE.out).nocells,
          Below.grown (Below.trans (Below.grown (HT.out.below.alloc HT.out.below.size _) HR2.out.2.1 (Nat.le_trans HT.out.below.size (by simp)) (fun k hk => by cases hk; exact HT.out.hS)) (Below.mono HE.out (by have := HT.out.below.size; rw [HR2.out.2.2]; simp; omega))) HR4.out.2.1 (by have := HT.out.below.size; have := HE.out.size; have h3 := HR2.out.2.2; simp at h3; omega) (fun k hk => by cases hk; exact HT.out.hO),
          HT.out.hS, HT.out.hO, HT.out.ne⟩⟩
      case measure => simp [intOf]; omega
    · obtain rfl : k = ps.length := by omega
      have HT2 := Lib.hid (show TS1 w wr S O (.slice ad ps.length cap) ps ps.length from HT.out)
      have hil := idxs_length ps
      have hi17 : decide (((idxs ps).length : Int) < 17412) = true := by simp; omega
      have hTk : TS1 w wr S O (.slice ad ps.length cap) ps ps.length := HT.out
      have HOW := Lib.hid (show GMap Tryz.prog 3 wr O (ownL ps) by have := hTk.own; rwa [List.take_length] at this)
      clear hTk HT2
      have HBW := Lib.hid HT.out.below
      have HOB := Lib.hid HT.out.hO
      clear HT HS0 hlt hk
      go_wp2_with (first
        | (refine wpList_glen rfl _ _ rfl _ _ Tryz.underlying231 O (ownL ps) (idxs ps).length rfl (((HOW.out.alloc _).alloc _).alloc _) (by simp [ownL]) ?_)
        | (at_builtin; go_loud (refine wpList_push rfl _ _ _ rfl w.heap.size 233 (.agg (blkI (List.replicate 64 0))) 64 256 Tryz.underlying234 infoTB rfl (by decide) (.slice none 0 0) 0 [] rfl (World.ownsRow_nil _ _ _ _) (wr.heap.size + 1 + 1 + 1) 233 (blkI (List.replicate 64 0)) rfl (Blk.new _ _ _ (by simp)) rfl (blkI_cells _) (by decide) (by decide) (by have := HBW.out.size; simp <;> omega) ?_; intro bv w5 hown hgr hat; obtain ⟨gb, cb, rfl⟩ := own_form hown; have HOWN := Lib.hid hown; have HGR := Lib.hid hgr; have HT5 := Lib.hid (show Blk w5 (wr.heap.size + 1) #[.slice none 0 0, .map (some wr.heap.size)] 236 from (HGR.out.block _ (by simp <;> omega) (by simp [Value.ownBlock])).trans ((((Blk.new (wr.alloc (.map #[] 0)) #[.slice none 0 0, .map (some wr.heap.size)] 236 (n := wr.heap.size + 1) (by simp)).alloc _).alloc _))); clear hown hgr hat; obtain ⟨c5, f5⟩ := HT5.out.facts))
        | (at_mapUpdate; go_loud (refine wpList_upd rfl _ _ _ _ rfl (wr.heap.size + 1 + 1) _ rfl (fnd_put (Bs := []) (((((GMap.new _ _ ((wr.alloc (.map #[] 0)).alloc (.cells #[.slice none 0 0, .map (some wr.heap.size)] 236)) (n := wr.heap.size + 1 + 1) (by simp)).alloc _).grown HGR.out (by simp [Value.ownBlock])).setCell (a := ⟨wr.heap.size + 1, 0, none⟩) (by simp) (.slice (some ⟨gb, 0, none⟩) 1 cb))) (b := List.replicate 64 0) (by decide) zero32 (by simp)) ?_); intro w7 hR7
           have HR7 := Lib.hid hR7; clear hR7 c5 f5))
      have hE5 : Ext wr w5 := Below.grown ((((Ext.refl wr).alloc _).alloc _).alloc _ |>.alloc _) HGR.out (by simp <;> omega) (by simp [Value.ownBlock])
      have hE6 : Ext wr (w5.setCell ⟨wr.heap.size + 1, 0, none⟩ (.slice (some ⟨gb, 0, none⟩) 1 cb)) := Below.setCell hE5 (p := ⟨wr.heap.size + 1, 0, none⟩) (by simp) _
      have hE7 : Ext wr w7 := Below.grown hE6 HR7.out.2.1 hE6.size (fun k hk => by cases hk; omega)
      have hT7 : TSt w w7 O (wr.heap.size + 1 + 1) wr.heap.size (wr.heap.size + 1) (.slice (some ⟨gb, 0, none⟩) 1 cb) (ownL ps) (fndL (blks (fOf ps) [])) (atL (fOf ps) [] (blks (fOf ps) [])) (blks (fOf ps) []) := by
        have hOlt := HOW.out.lt
        have hws := HBW.out.size
        have ha : GMap Tryz.prog 3 (w5.setCell ⟨wr.heap.size + 1, 0, none⟩ (.slice (some ⟨gb, 0, none⟩) 1 cb)) wr.heap.size [] := ((((((GMap.new Tryz.prog 3 wr rfl).alloc _).alloc _).alloc _).grown HGR.out (by simp [Value.ownBlock])).setCell (a := ⟨wr.heap.size + 1, 0, none⟩) (by simp) _)
        have hc : Blk (w5.setCell ⟨wr.heap.size + 1, 0, none⟩ (.slice (some ⟨gb, 0, none⟩) 1 cb)) (wr.heap.size + 1) #[.slice (some ⟨gb, 0, none⟩) 1 cb, .map (some wr.heap.size)] 236 := HT5.out.set 0 _
        have hf : GMap Tryz.prog 233 (w5.setCell ⟨wr.heap.size + 1, 0, none⟩ (.slice (some ⟨gb, 0, none⟩) 1 cb)) (wr.heap.size + 1 + 1) [] := ((((GMap.new _ _ ((wr.alloc (.map #[] 0)).alloc (.cells #[.slice none 0 0, .map (some wr.heap.size)] 236)) (n := wr.heap.size + 1 + 1) (by simp)).alloc _).grown HGR.out (by simp [Value.ownBlock])).setCell (a := ⟨wr.heap.size + 1, 0, none⟩) (by simp) _)
        have hrow : (w5.setCell ⟨wr.heap.size + 1, 0, none⟩ (.slice (some ⟨gb, 0, none⟩) 1 cb)).ownsRow w.heap.size 233 64 (.slice (some ⟨gb, 0, none⟩) 1 cb) 1 (rowOf [List.replicate 64 0]) :=
          HOWN.out.kept (setCell_grown w5 ⟨wr.heap.size + 1, 0, none⟩ _) (.inr (fun e => blk_ne_row HT5.out HOWN.out (by decide) e.symm))
        exact ⟨HOW.out.keep hE7, HR7.out.1, ha.grown HR7.out.2.1 (by simp <;> omega), blk_grownM hc HR7.out.2.1 hf.nocells, hrow.kept HR7.out.2.1 (.inr (fun e => hf.ne_row hrow e.symm)), Below.trans HBW.out (Below.mono hE7 hws), ⟨by omega, by omega, by omega⟩, by omega, hws, by omega⟩
      have HT7 := Lib.hid hT7
      clear hE5 hE6 hE7 hT7 hi17
      generalize wr.heap.size + 1 + 1 = F at HT7 ⊢
      generalize wr.heap.size + 1 = T at HT7 ⊢
      generalize wr.heap.size = M at HT7 ⊢
      refine (keys_any (some O) w7).mono ?_
      rintro e w8 ⟨rfl, rfl⟩
      go_wp2_with fail
      refine (sorted_any O (ownL ps) ((idxs ps).map fun i : Nat => (i : Int)) w7 HT7.out.own (by simp [ownL]) (fun i hi => by
        obtain ⟨j, hj, rfl⟩ := List.mem_map.1 hi
        have := idxs_le HG.out j hj
        simp [Lit.wf, IntKind.min, IntKind.max, IntKind.bits, IntKind.signed]
        omega) (by rw [List.length_map]; omega)).mono ?_
      rintro e w9 ⟨sv, rfl, hrow, hb9⟩
      obtain ⟨is, hperm, hsort⟩ := sorted_nat (idxs ps)
      have hL : TL w w9 O F M T (.slice (some ⟨gb, 0, none⟩) 1 cb) (ownL ps) (fndL (blks (fOf ps) [])) (atL (fOf ps) [] (blks (fOf ps) [])) (blks (fOf ps) []) sv is := by
        refine ⟨(HT7.out.ext ((Ext.refl w7).alloc _)).ext hb9, ?_⟩
        rw [hsort, List.map_map, List.length_map, ← hperm.length_eq] at hrow
        exact ownsRow_low hrow (Nat.le_trans HT7.out.below.size (by simp))
      obtain ⟨ad2, cap2, rfl⟩ : ∃ ad2 cap2, sv = .slice ad2 is.length cap2 := by
        rcases hL.srow.2 with ⟨rfl, h0⟩ | ⟨g, cap, _, rfl, _⟩
        · exact ⟨none, 0, by rw [h0]⟩
        · exact ⟨_, cap, rfl⟩
      have HL := Lib.hid hL
      have HPM := Lib.hid hperm
      have hsl : is.length ≤ 10000 := by have := hperm.length_eq; omega
      clear hL hperm hsort hrow hb9
      go_wp2_with fail
      go_loopw [73] (fun i wr => ∃ (n : Nat) (bv : Value), n ≤ is.length ∧ i = .int .i64 n ∧ TL w wr O F M T bv (ownL ps) (fndL (blks (fOf ps) (is.take n))) (atL (fOf ps) (is.take n) (blks (fOf ps) (is.take n))) (blks (fOf ps) (is.take n)) (.slice ad2 is.length cap2) is) (fun i _ => is.length - (intOf i).toNat)
      case atStart => exact ⟨0, _, Nat.zero_le _, rfl, HL.out⟩
      case round =>
        obtain ⟨n, bv, hn, rfl, hr⟩ := hrel
        have HR := Lib.hid hr
        clear hr
        by_cases hlt : n < is.length
        · obtain ⟨g, had⟩ : ∃ g, ad2 = some ⟨g, 0, none⟩ := by
            rcases HR.out.srow.2 with ⟨h1, h0⟩ | ⟨g, cap, _, h1, _⟩
            · omega
            · simp only [Value.slice.injEq] at h1
              exact ⟨g, h1.1⟩
          subst had
          have hcell := HR.out.srow.cellAt n (by omega)
          rw [List.getElem?_map, List.getElem?_eq_getElem hlt, Option.map_some] at hcell
          have hmem : is[n] ∈ idxs ps := HPM.out.mem_iff.1 (List.getElem_mem hlt)
          have hle := idxs_le HG.out _ hmem
          have HNI := Lib.hid (show is[n] ∉ is.take n from by
            intro h
            obtain ⟨j, hj, he⟩ := List.getElem_of_mem h
            rw [List.length_take] at hj
            rw [List.getElem_take] at he
            have hnd := HPM.out.nodup_iff.2 (idxs_nodup ps)
            have := List.pairwise_iff_getElem.1 hnd j n (by omega) hlt (by omega)
            exact this he)
          have HK := Lib.hid (show is.take (n + 1) = is.take n ++ [is[n]] from List.take_succ_eq_append_getElem hlt)
          clear hmem
          generalize is[n] = i at hcell hle HNI HK
          by_cases hm : blk (fOf ps) i ∈ blks (fOf ps) (is.take n)
          · have HM := Lib.hid hm
            clear hm
            obtain ⟨cT, fT⟩ := HR.out.st.cell.facts
            go_wp2_with (first
              | (at_lookup; refine wpList_look rfl _ _ _ _ rfl O (.agg (blkI (blk (fOf ps) i))) rfl (own_get HR.out.st.own i (by omega)) ?_)
              | (at_lookup; refine wpList_look rfl _ _ _ _ rfl F _ rfl (fnd_hit HR.out.st.fnd HM.out) ?_)
              | (at_mapUpdate; refine wpList_upd rfl _ _ _ _ rfl M _ rfl (at_put (n := (blks (fOf ps) (is.take n)).idxOf (blk (fOf ps) i)) HR.out.st.at_ (by omega) HNI.out) ?_; intro w2 hR2
                 have HR2 := Lib.hid hR2; clear hR2))
            go_roundw
            case rel =>
              refine ⟨n + 1, bv, by omega, by go_num, ?_⟩
              have hB : blks (fOf ps) (is.take (n + 1)) = blks (fOf ps) (is.take n) := by rw [HK.out, blks_snoc, addBlk, if_pos HM.out]
              rw [hB, HK.out, atL_snoc]
              exact HR.out.putM HR2.out.1 HR2.out.2.1
            case measure => simp [intOf]; omega
          · have HM := Lib.hid hm
            clear hm
            obtain ⟨gv, cv, rfl⟩ := own_form' HR.out.st.row (blks_pos _ _)
            have hbl := blks_length (fOf ps) (is.take n)
            have hbl2 : (is.take n).length ≤ n := List.length_take_le _ _
            obtain ⟨cT, fT⟩ := HR.out.st.cell.facts
            go_wp2_with (first
              | (at_lookup; refine wpList_look rfl _ _ _ _ rfl O (.agg (blkI (blk (fOf ps) i))) rfl (own_get HR.out.st.own i (by omega)) ?_)
              | (at_lookup; refine wpList_look rfl _ _ _ _ rfl F _ rfl (fnd_miss HR.out.st.fnd (blk_length _ _) (blk_in32 HG.out i) HM.out) ?_))
            have HF := Lib.hid (show ∀ W, Ext wr W → (∀ o, W.cell? ⟨T, o, none⟩ = #[.slice (some ⟨gv, 0, none⟩) (blks (fOf ps) (is.take n)).length cv, .map (some M)][o]?) ∧ (Instr.lookup 231 (.map (some O)) (.int .i64 i) false).run Tryz.prog W = .ok (.agg (blkI (blk (fOf ps) i))) W from
              fun W hW => ⟨(HR.out.st.cell.keep hW).cell, own_get (HR.out.st.own.keep hW) i (by omega)⟩)
            clear cT fT
            refine wp_parZ [1, 2, 3, 4, 5, 6, 7, 8, 0, 9, 10, 11, 12] 8 9 (fun
                | 0 => fun v _ => v = .pointer (some ⟨T, 0, none⟩)
                | 1 => fun v _ => v = .pointer (some ⟨T, 0, none⟩)
                | 2 => fun v _ => v = .pointer (some ⟨T, 0, none⟩)
                | 3 => fun v _ => v = .slice (some ⟨gv, 0, none⟩) (blks (fOf ps) (is.take n)).length cv
                | 4 => fun v _ => v = .map (some O)
                | 5 => fun v _ => v = .int .i64 i
                | 6 => fun v _ => v = .agg (blkI (blk (fOf ps) i))
                | 7 => oneBlk (blk (fOf ps) i)
                | _ => fun _ _ => True) (fun
                | 8 => .pointer (some ⟨T, 0, none⟩)
                | _ => undef) (by kernel_rfl) (by kernel_rfl) (by kernel_rfl) ?_ ?_ ?_
            · simp (maxSteps := 20000000) only [permL, permOp, List.filterMap_cons, List.filterMap_nil, List.getElem?_cons_succ, List.getElem?_cons_zero, Option.map_some, Option.map_none, List.take_succ_cons, List.take_zero, ParAll, Act.put, List.setIfInBounds_toArray, List.set_cons_succ, List.set_cons_zero]
              refine ⟨?_, ?_, ?_, ?_, ?_, ?_, ?_, ?_, trivial⟩
              · intro vals W hx hd
                have hW := HF.out W hx
                simp [PDeps, pdeps, Region.binds, List.idxOf_cons] at hd
                first
                  | refine ParOb.plain rfl ?_
                  | refine ParOb.wanted (by simp [Region.wanted, yielded, hd]) ?_
                go_simp
                exact ParPost.same fun _ _ => rfl
              · intro vals W hx hd
                have hW := HF.out W hx
                simp [PDeps, pdeps, Region.binds, List.idxOf_cons] at hd
                first
                  | refine ParOb.plain rfl ?_
                  | refine ParOb.wanted (by simp [Region.wanted, yielded, hd]) ?_
                go_simp
                exact ParPost.same fun _ _ => rfl
              · intro vals W hx hd
                have hW := HF.out W hx
                simp [PDeps, pdeps, Region.binds, List.idxOf_cons] at hd
                first
                  | refine ParOb.plain rfl ?_
                  | refine ParOb.wanted (by simp [Region.wanted, yielded, hd]) ?_
                go_simp
                exact ParPost.same fun _ _ => rfl
              · intro vals W hx hd
                have hW := HF.out W hx
                simp [PDeps, pdeps, Region.binds, List.idxOf_cons] at hd
                first
                  | refine ParOb.plain rfl ?_
                  | refine ParOb.wanted (by simp [Region.wanted, yielded, hd]) ?_
                go_simp
                exact ParPost.same fun _ _ => rfl
              · intro vals W hx hd
                have hW := HF.out W hx
                simp [PDeps, pdeps, Region.binds, List.idxOf_cons] at hd
                first
                  | refine ParOb.plain rfl ?_
                  | refine ParOb.wanted (by simp [Region.wanted, yielded, hd]) ?_
                go_simp
                exact ParPost.same fun _ _ => rfl
              · intro vals W hx hd
                have hW := HF.out W hx
                simp [PDeps, pdeps, Region.binds, List.idxOf_cons] at hd
                first
                  | refine ParOb.plain rfl ?_
                  | refine ParOb.wanted (by simp [Region.wanted, yielded, hd]) ?_
                go_simp
                exact ParPost.same fun _ _ => rfl
              · intro vals W hx hd
                have hW := HF.out W hx
                simp [PDeps, pdeps, Region.binds, List.idxOf_cons] at hd
                first
                  | refine ParOb.plain rfl ?_
                  | refine ParOb.wanted (by simp [Region.wanted, yielded, hd]) ?_
                go_simp
                exact ParPost.same fun _ _ => rfl
              · intro vals W hx hd
                have hW := HF.out W hx
                simp [PDeps, pdeps, Region.binds, List.idxOf_cons] at hd
                first
                  | refine ParOb.plain rfl ?_
                  | refine ParOb.wanted (by simp [Region.wanted, yielded, hd]) ?_
                exact yields_oneBlk rfl (by simp [Act.eval, hd]) (blk_length _ _)
            · simp (maxSteps := 20000000) only [permL, permOp, List.filterMap_cons, List.filterMap_nil, List.getElem?_cons_succ, List.getElem?_cons_zero, Option.map_some, Option.map_none, List.drop_succ_cons, List.drop_zero, List.take_succ_cons, List.take_zero, Nat.reduceSub, ZAll, ParEnd, Act.put, List.setIfInBounds_toArray, List.set_cons_succ, List.set_cons_zero]
              refine ⟨?_, trivial⟩
              · intro vals W hd
                simp [ZDeps, pdeps, Region.binds, List.idxOf_cons] at hd
                first | (go_simp; done) | (go_simp; exact ⟨rfl, rfl⟩)
            intro vals W hx hf hz
            simp (maxSteps := 20000000) only [permL, permOp, List.filterMap_cons, List.filterMap_nil, List.getElem?_cons_succ, List.getElem?_cons_zero, Option.map_some, Option.map_none, ParFacts, List.take_succ_cons, List.take_zero, and_true, Nat.reduceAdd] at hf
            simp (maxSteps := 20000000) only [permL, permOp, List.filterMap_cons, List.filterMap_nil, List.getElem?_cons_succ, List.getElem?_cons_zero, Option.map_some, Option.map_none, ZEqs, List.drop_succ_cons, List.drop_zero, List.take_succ_cons, List.take_zero, Nat.reduceSub, and_true] at hz
            obtain ⟨f0, f1, f2, f3, f4, f5, f6, f7⟩ := hf
            have z8 := hz
            simp (maxSteps := 20000000) only [permL, permOp, List.filterMap_cons, List.filterMap_nil, List.getElem?_cons_succ, List.getElem?_cons_zero, Option.map_some, Option.map_none, List.drop_succ_cons, List.drop_zero, List.take_succ_cons, List.take_zero, Nat.reduceSub, ParEnd, ZTail, Act.put, List.setIfInBounds_toArray, List.set_cons_succ, List.set_cons_zero, Nat.reduceAdd, f0, f1, f2, f3, f4, f5, f6, z8]
            clear f0 f1 f2 f3 f4 f5 f6 z8
            generalize vals 7 = y7 at f7 ⊢
            obtain ⟨gn, rfl, hbn⟩ := f7
            have HX := Lib.hid (HR.out.ext hx)
            have HBN := Lib.hid hbn
            clear hx hbn
            refine yields_push (.tmp 96) (.tmp 100) _ rfl w.heap.size 233 (.agg (blkI (List.replicate 64 0))) 64 256 Tryz.underlying234 infoTB rfl (by decide) _ (blks (fOf ps) (is.take n)).length (rowOf (blks (fOf ps) (is.take n))) rfl HX.out.st.row gn 233 (blkI (blk (fOf ps) i)) rfl HBN.out (by rw [blkI_size, blk_length]) (blkI_cells _) (by unfold maxLen; omega) (by omega) HX.out.st.below.size ?_
            intro bv2 w2 hown hgr hat
            obtain ⟨g2, c2, rfl⟩ := own_form hown
            have HC2 := Lib.hid (HX.out.st.cellOf hgr)
            have HL3 := Lib.hid (HX.out.push hgr hown)
            clear hown hgr hat
            obtain ⟨cT, fT⟩ := HC2.out.facts
            go_simp
            clear cT fT
            obtain ⟨cT3, fT3⟩ := HL3.out.st.cell.facts
            go_wp2_with (first
              | (at_lookup; refine wpList_look rfl _ _ _ _ rfl O (.agg (blkI (blk (fOf ps) i))) rfl (own_get HL3.out.st.own i (by omega)) ?_)
              | (at_mapUpdate; refine wpList_upd rfl _ _ _ _ rfl F _ rfl (fnd_put HL3.out.st.fnd (blk_length _ _) (blk_in32 HG.out i) HM.out) ?_; intro w4 hR4
                 have HR4 := Lib.hid hR4
                 have HL4 := Lib.hid (HL3.out.putF HR4.out.1 HR4.out.2.1)
                 clear hR4 cT3 fT3
                 obtain ⟨cT4, fT4⟩ := HL4.out.st.cell.facts)
              | (at_mapUpdate; refine wpList_upd rfl _ _ _ _ rfl M _ rfl (at_put (n := (blks (fOf ps) (is.take n)).length) HL4.out.st.at_ (by omega) HNI.out) ?_; intro w6 hR6
                 have HR6 := Lib.hid hR6
                 clear hR6))
            go_roundw
            case rel =>
              refine ⟨n + 1, .slice (some ⟨g2, 0, none⟩) ((blks (fOf ps) (is.take n)).length + 1) c2, by omega, by go_num, ?_⟩
              have hB : blks (fOf ps) (is.take (n + 1)) = blks (fOf ps) (is.take n) ++ [blk (fOf ps) i] := by rw [HK.out, blks_snoc, addBlk, if_neg HM.out]
              have hA : atL (fOf ps) (is.take n) (blks (fOf ps) (is.take n) ++ [blk (fOf ps) i]) = atL (fOf ps) (is.take n) (blks (fOf ps) (is.take n)) := by
                have := atL_grow (fOf ps) (is.take n) (blks (fOf ps) (is.take n)) (blk (fOf ps) i) (fun j hj => blks_mem _ _ j hj)
                rw [addBlk, if_neg HM.out] at this
                exact this
              rw [hB, HK.out, atL_snoc, hA, idx_new HM.out]
              exact HL4.out.putM HR6.out.1 HR6.out.2.1
            case measure => simp [intOf]; omega
        · obtain rfl : n = is.length := by omega
          have HZ := Lib.hid (show TrieAt wr T (fOf ps) ∧ Below w.heap.size w wr ∧ w.heap.size ≤ T from by
            have := HR.out.st
            rw [List.take_length] at this
            exact ⟨this.trie HPM.out hsl HG.out, this.below, this.hT⟩)
          clear HR
          go_wp2_with fail
          go_ret2
          exact ⟨T, rfl, HZ.out.2.2, HZ.out.1, HZ.out.2.1⟩
end Go.Proofs.YtchpbdodlbghaaaGreatDoor
