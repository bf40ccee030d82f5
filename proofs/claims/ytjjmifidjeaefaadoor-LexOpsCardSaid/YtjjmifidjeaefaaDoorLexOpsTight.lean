/-
  The law of ops where they stand tight; both together.
-/
import Derived.Test.YtjjmifidjeaefaaDoorLexOpsLaw
namespace Go.Proofs.YtjjmifidjeaefaaDoor
open Go.RowKit Go.Shelf
set_option maxRecDepth 100000
theorem size_mk (l : List UInt8) : (ByteArray.mk l.toArray).size = l.length := by
  rw [← bsl_length, bsl_mk]
theorem opL_at18 (Q : Nat) (h : Q < 18) : opL.getD Q [] ∈ opL.take 18 := by
  have : ∀ k : Fin 18, opL.getD k.val [] ∈ opL.take 18 := by decide
  exact this ⟨Q, h⟩
set_option maxHeartbeats 16000000 in
theorem law_opsT (ao : Option Addr) (len cap : Nat) (zs : List Int) (w : World) (hG : Glob w)
    (hcell : ∀ i, i < len → ∃ a, ao = some a ∧ w.cell? (a.add i) = some (.int .i64 (zs.getD i 0)) ∧ (a.add i).block < w.heap.size) :
    Calls Tryd.prog 5 #[.slice ao len cap, .bool true] w fun e w' => e = .returned (.bool true) ∧ Below w.heap.size w w' := by
  have HC := Lib.hid hcell
  clear hcell
  go_enter Tryd.func5, Tryd.ntmps5
  go_wp2_with fail
  go_loopw [6, 7, 8] (fun s v i W => ∃ (x : ByteArray) (L : List (List UInt8)), s = .string x ∧ i = .int .i64 L.length ∧ L.length ≤ len ∧ L.length ≤ 20 ∧ bsl x = L.flatten ∧ (∀ y ∈ L, y ∈ opL.take 18) ∧ x.size ≤ 2 * L.length ∧
      W.ownsRow (w.heap.size + 1) 9 1 v L.length (L.map strV) ∧ Below (w.heap.size + 1) (w.alloc (.cells opArr 9)) W)
    (fun _ _ i _ => 20 - (intOf i).toNat)
  case atStart => exact ⟨⟨#[]⟩, [], rfl, rfl, Nat.zero_le _, Nat.zero_le _, rfl, by simp, Nat.le_refl _, World.ownsRow_nil _ _ _ _, Below.refl _ _⟩
  case round =>
    obtain ⟨x, L, rfl, rfl, hL1, hL2, hx, hmem, hsz, hown, hbel⟩ := hrel
    have HM := Lib.hid hmem
    have HX := Lib.hid hx
    have HO := Lib.hid hown
    have HB := Lib.hid hbel
    have hblk : Blk wr w.heap.size opArr 9 := (Blk.new w opArr 9 rfl).below hbel (Nat.lt_succ_self _)
    have hbw : Below w.heap.size w wr := ((Below.refl _ w).alloc (Nat.le_refl _) _).trans (hbel.mono (Nat.le_succ _))
    have HBW := Lib.hid hbw
    have HBK := Lib.hid hblk
    clear hmem hx hown hbel hbw hblk
    by_cases hgo : L.length < len ∧ L.length < 20
    · obtain ⟨hg1, hg2⟩ := hgo
      obtain ⟨a, rfl, hz, hab⟩ := HC.out L.length hg1
      generalize hzz : zs.getD L.length 0 = z at hz
      clear hzz
      have hz2 : wr.cell? (a.add L.length) = some (.int .i64 z) := by
        rw [HBW.out.cell (p := a.add L.length) hab]
        exact hz
      clear hz
      obtain ⟨Q, hQ, hQ22⟩ : ∃ Q : Nat, (bits BinOp.and IntKind.i64 z 65535).tmod 22 = (Q : Int) ∧ Q < 22 := by
        rw [and_mask16b, Int.tmod_eq_emod_of_nonneg (by omega)]
        exact ⟨(z % 65536 % 22).toNat, by omega, by omega⟩
      have hops : ∀ R : Nat, R < 22 → wr.cell? ⟨w.heap.size, R, none⟩ = some (strV (opL.getD R [])) := fun R hR => by rw [HBK.out.cell, opArr_at R hR]
      have hop0 : wr.cell? ⟨w.heap.size, 0, none⟩ = some (.string ⟨#[40]⟩) := hops 0 (by decide)
      have hop1 : wr.cell? ⟨w.heap.size, 1, none⟩ = some (.string ⟨#[41]⟩) := hops 1 (by decide)
      have hopQ := hops Q hQ22
      simp only [strV] at hopQ
      clear hops
      by_cases hL0 : 0 < L.length
      · obtain ⟨ao3, cap3, rfl, hc3, hS⟩ := rowS_slice HO.out
        obtain ⟨g, rfl, hg, hy⟩ := hS (L.length - 1) _ (List.getElem?_eq_getElem (by omega))
        generalize L[L.length - 1]'(by omega) = yl at hy
        simp only [strV] at hy
        clear hS
        have hs1 : w.heap.size + 1 ≤ wr.heap.size := by
          have := HB.out.size
          simpa using this
        by_cases h18 : Q < 18
        · have HIN := Lib.hid (opL_at18 Q h18)
          have HLN := opL_len Q hQ22
          generalize opL.getD Q [] = y at hopQ HIN HLN
          by_cases h6 : Q < 6
          · skip
            go_wp2_with (at_builtin; go_must (refine wpList_push rfl _ _ 34 rfl (w.heap.size + 1) 9 (.string ⟨#[]⟩) 1 16 Tryd.underlying34 infoStr rfl (by decide) _ _ _ rfl (HO.out.alloc _) _ 9 #[.string ⟨(y).toArray⟩] rfl (Blk.new _ _ _ rfl) rfl ?_ ?_ ?_ ?_ ?_))
            all_goals first
              | (simp [Value.oneCell']; done)
              | (unfold maxLen; omega)
              | omega
              | (have := HB.out.size; simp at this ⊢; omega)
              | skip
            all_goals
              intro v' w3 hown3 hgr _
              have hb3 : Below (w.heap.size + 1) (w.alloc (.cells opArr 9)) w3 := (HB.out.alloc hs1 _).grown hgr (Nat.le_trans hs1 (by simp)) (fun g hg => (HO.out.lt g hg).1)
              have HO3 := Lib.hid hown3
              have HB3 := Lib.hid hb3
              clear hown3 hb3 hgr
              go_wp2_with fail
              go_roundw
              case rel =>
                refine ⟨_, L ++ [y], rfl, by simp, by simp; omega, by simp; omega, ?_, ?_, ?_, ?_, HB3.out⟩
                · rw [bsl_append, HX.out, bsl_mk]; simp
                · intro u hu
                  rcases List.mem_append.1 hu with hu | hu
                  · exact HM.out u hu
                  · simp only [List.mem_singleton] at hu; subst hu; exact HIN.out
                · rw [ByteArray.size_append, List.length_append, size_mk y]
                  have := HLN
                  simp at this ⊢; omega
                · have := HO3.out
                  simpa [strV] using this
              case measure => simp [intOf]; omega
          · by_cases hbad : yl = [60, 62] ∨ yl = [60, 60] ∨ yl = [60, 61] ∨ yl = [124, 124]
            · rcases hbad with rfl | rfl | rfl | rfl
              · skip
                go_wp2_with (at_builtin; go_must (refine wpList_push rfl _ _ 34 rfl (w.heap.size + 1) 9 (.string ⟨#[]⟩) 1 16 Tryd.underlying34 infoStr rfl (by decide) _ _ _ rfl (HO.out.alloc _) _ 9 #[.string ⟨([41]).toArray⟩] rfl (Blk.new _ _ _ rfl) rfl ?_ ?_ ?_ ?_ ?_))
                all_goals first
                  | (simp [Value.oneCell']; done)
                  | (unfold maxLen; omega)
                  | omega
                  | (have := HB.out.size; simp at this ⊢; omega)
                  | skip
                all_goals
                  intro v' w3 hown3 hgr _
                  have hb3 : Below (w.heap.size + 1) (w.alloc (.cells opArr 9)) w3 := (HB.out.alloc hs1 _).grown hgr (Nat.le_trans hs1 (by simp)) (fun g hg => (HO.out.lt g hg).1)
                  have HO3 := Lib.hid hown3
                  have HB3 := Lib.hid hb3
                  clear hown3 hb3 hgr
                  go_wp2_with fail
                  go_roundw
                  case rel =>
                    refine ⟨_, L ++ [[41]], rfl, by simp, by simp; omega, by simp; omega, ?_, ?_, ?_, ?_, HB3.out⟩
                    · rw [bsl_append, HX.out, bsl_mk]; simp
                    · intro u hu
                      rcases List.mem_append.1 hu with hu | hu
                      · exact HM.out u hu
                      · simp only [List.mem_singleton] at hu; subst hu; exact (by decide)
                    · rw [ByteArray.size_append, List.length_append, size_mk [41]]
                      have := (show ([41] : List UInt8).length ≤ 2 by decide)
                      simp at this ⊢; omega
                    · have := HO3.out
                      simpa [strV] using this
                  case measure => simp [intOf]; omega
              · skip
                go_wp2_with (at_builtin; go_must (refine wpList_push rfl _ _ 34 rfl (w.heap.size + 1) 9 (.string ⟨#[]⟩) 1 16 Tryd.underlying34 infoStr rfl (by decide) _ _ _ rfl (HO.out.alloc _) _ 9 #[.string ⟨([41]).toArray⟩] rfl (Blk.new _ _ _ rfl) rfl ?_ ?_ ?_ ?_ ?_))
                all_goals first
                  | (simp [Value.oneCell']; done)
                  | (unfold maxLen; omega)
                  | omega
                  | (have := HB.out.size; simp at this ⊢; omega)
                  | skip
                all_goals
                  intro v' w3 hown3 hgr _
                  have hb3 : Below (w.heap.size + 1) (w.alloc (.cells opArr 9)) w3 := (HB.out.alloc hs1 _).grown hgr (Nat.le_trans hs1 (by simp)) (fun g hg => (HO.out.lt g hg).1)
                  have HO3 := Lib.hid hown3
                  have HB3 := Lib.hid hb3
                  clear hown3 hb3 hgr
                  go_wp2_with fail
                  go_roundw
                  case rel =>
                    refine ⟨_, L ++ [[41]], rfl, by simp, by simp; omega, by simp; omega, ?_, ?_, ?_, ?_, HB3.out⟩
                    · rw [bsl_append, HX.out, bsl_mk]; simp
                    · intro u hu
                      rcases List.mem_append.1 hu with hu | hu
                      · exact HM.out u hu
                      · simp only [List.mem_singleton] at hu; subst hu; exact (by decide)
                    · rw [ByteArray.size_append, List.length_append, size_mk [41]]
                      have := (show ([41] : List UInt8).length ≤ 2 by decide)
                      simp at this ⊢; omega
                    · have := HO3.out
                      simpa [strV] using this
                  case measure => simp [intOf]; omega
              · skip
                go_wp2_with (at_builtin; go_must (refine wpList_push rfl _ _ 34 rfl (w.heap.size + 1) 9 (.string ⟨#[]⟩) 1 16 Tryd.underlying34 infoStr rfl (by decide) _ _ _ rfl (HO.out.alloc _) _ 9 #[.string ⟨([41]).toArray⟩] rfl (Blk.new _ _ _ rfl) rfl ?_ ?_ ?_ ?_ ?_))
                all_goals first
                  | (simp [Value.oneCell']; done)
                  | (unfold maxLen; omega)
                  | omega
                  | (have := HB.out.size; simp at this ⊢; omega)
                  | skip
                all_goals
                  intro v' w3 hown3 hgr _
                  have hb3 : Below (w.heap.size + 1) (w.alloc (.cells opArr 9)) w3 := (HB.out.alloc hs1 _).grown hgr (Nat.le_trans hs1 (by simp)) (fun g hg => (HO.out.lt g hg).1)
                  have HO3 := Lib.hid hown3
                  have HB3 := Lib.hid hb3
                  clear hown3 hb3 hgr
                  go_wp2_with fail
                  go_roundw
                  case rel =>
                    refine ⟨_, L ++ [[41]], rfl, by simp, by simp; omega, by simp; omega, ?_, ?_, ?_, ?_, HB3.out⟩
                    · rw [bsl_append, HX.out, bsl_mk]; simp
                    · intro u hu
                      rcases List.mem_append.1 hu with hu | hu
                      · exact HM.out u hu
                      · simp only [List.mem_singleton] at hu; subst hu; exact (by decide)
                    · rw [ByteArray.size_append, List.length_append, size_mk [41]]
                      have := (show ([41] : List UInt8).length ≤ 2 by decide)
                      simp at this ⊢; omega
                    · have := HO3.out
                      simpa [strV] using this
                  case measure => simp [intOf]; omega
              · skip
                go_wp2_with (at_builtin; go_must (refine wpList_push rfl _ _ 34 rfl (w.heap.size + 1) 9 (.string ⟨#[]⟩) 1 16 Tryd.underlying34 infoStr rfl (by decide) _ _ _ rfl (HO.out.alloc _) _ 9 #[.string ⟨([41]).toArray⟩] rfl (Blk.new _ _ _ rfl) rfl ?_ ?_ ?_ ?_ ?_))
                all_goals first
                  | (simp [Value.oneCell']; done)
                  | (unfold maxLen; omega)
                  | omega
                  | (have := HB.out.size; simp at this ⊢; omega)
                  | skip
                all_goals
                  intro v' w3 hown3 hgr _
                  have hb3 : Below (w.heap.size + 1) (w.alloc (.cells opArr 9)) w3 := (HB.out.alloc hs1 _).grown hgr (Nat.le_trans hs1 (by simp)) (fun g hg => (HO.out.lt g hg).1)
                  have HO3 := Lib.hid hown3
                  have HB3 := Lib.hid hb3
                  clear hown3 hb3 hgr
                  go_wp2_with fail
                  go_roundw
                  case rel =>
                    refine ⟨_, L ++ [[41]], rfl, by simp, by simp; omega, by simp; omega, ?_, ?_, ?_, ?_, HB3.out⟩
                    · rw [bsl_append, HX.out, bsl_mk]; simp
                    · intro u hu
                      rcases List.mem_append.1 hu with hu | hu
                      · exact HM.out u hu
                      · simp only [List.mem_singleton] at hu; subst hu; exact (by decide)
                    · rw [ByteArray.size_append, List.length_append, size_mk [41]]
                      have := (show ([41] : List UInt8).length ≤ 2 by decide)
                      simp at this ⊢; omega
                    · have := HO3.out
                      simpa [strV] using this
                  case measure => simp [intOf]; omega
            · have n1 : ¬ yl = [60, 62] := fun h => hbad (Or.inl h)
              have n2 : ¬ yl = [60, 60] := fun h => hbad (Or.inr (Or.inl h))
              have n3 : ¬ yl = [60, 61] := fun h => hbad (Or.inr (Or.inr (Or.inl h)))
              have n4 : ¬ yl = [124, 124] := fun h => hbad (Or.inr (Or.inr (Or.inr h)))
              clear hbad
              go_wp2_with (at_builtin; go_must (refine wpList_push rfl _ _ 34 rfl (w.heap.size + 1) 9 (.string ⟨#[]⟩) 1 16 Tryd.underlying34 infoStr rfl (by decide) _ _ _ rfl (HO.out.alloc _) _ 9 #[.string ⟨(y).toArray⟩] rfl (Blk.new _ _ _ rfl) rfl ?_ ?_ ?_ ?_ ?_))
              all_goals first
                | (simp [Value.oneCell']; done)
                | (unfold maxLen; omega)
                | omega
                | (have := HB.out.size; simp at this ⊢; omega)
                | skip
              all_goals
                intro v' w3 hown3 hgr _
                have hb3 : Below (w.heap.size + 1) (w.alloc (.cells opArr 9)) w3 := (HB.out.alloc hs1 _).grown hgr (Nat.le_trans hs1 (by simp)) (fun g hg => (HO.out.lt g hg).1)
                have HO3 := Lib.hid hown3
                have HB3 := Lib.hid hb3
                clear hown3 hb3 hgr
                go_wp2_with fail
                go_roundw
                case rel =>
                  refine ⟨_, L ++ [y], rfl, by simp, by simp; omega, by simp; omega, ?_, ?_, ?_, ?_, HB3.out⟩
                  · rw [bsl_append, HX.out, bsl_mk]; simp
                  · intro u hu
                    rcases List.mem_append.1 hu with hu | hu
                    · exact HM.out u hu
                    · simp only [List.mem_singleton] at hu; subst hu; exact HIN.out
                  · rw [ByteArray.size_append, List.length_append, size_mk y]
                    have := HLN
                    simp at this ⊢; omega
                  · have := HO3.out
                    simpa [strV] using this
                case measure => simp [intOf]; omega
        · skip
          go_wp2_with (at_builtin; go_must (refine wpList_push rfl _ _ 34 rfl (w.heap.size + 1) 9 (.string ⟨#[]⟩) 1 16 Tryd.underlying34 infoStr rfl (by decide) _ _ _ rfl (HO.out.alloc _) _ 9 #[.string ⟨([40]).toArray⟩] rfl (Blk.new _ _ _ rfl) rfl ?_ ?_ ?_ ?_ ?_))
          all_goals first
            | (simp [Value.oneCell']; done)
            | (unfold maxLen; omega)
            | omega
            | (have := HB.out.size; simp at this ⊢; omega)
            | skip
          all_goals
            intro v' w3 hown3 hgr _
            have hb3 : Below (w.heap.size + 1) (w.alloc (.cells opArr 9)) w3 := (HB.out.alloc hs1 _).grown hgr (Nat.le_trans hs1 (by simp)) (fun g hg => (HO.out.lt g hg).1)
            have HO3 := Lib.hid hown3
            have HB3 := Lib.hid hb3
            clear hown3 hb3 hgr
            go_wp2_with fail
            go_roundw
            case rel =>
              refine ⟨_, L ++ [[40]], rfl, by simp, by simp; omega, by simp; omega, ?_, ?_, ?_, ?_, HB3.out⟩
              · rw [bsl_append, HX.out, bsl_mk]; simp
              · intro u hu
                rcases List.mem_append.1 hu with hu | hu
                · exact HM.out u hu
                · simp only [List.mem_singleton] at hu; subst hu; exact (by decide)
              · rw [ByteArray.size_append, List.length_append, size_mk [40]]
                have := (show ([40] : List UInt8).length ≤ 2 by decide)
                simp at this ⊢; omega
              · have := HO3.out
                simpa [strV] using this
            case measure => simp [intOf]; omega
      · obtain ⟨ao3, cap3, rfl, hc3, _⟩ := rowS_slice HO.out
        have hs1 : w.heap.size + 1 ≤ wr.heap.size := by
          have := HB.out.size
          simpa using this
        by_cases h18 : Q < 18
        · have HIN := Lib.hid (opL_at18 Q h18)
          have HLN := opL_len Q hQ22
          generalize opL.getD Q [] = y at hopQ HIN HLN
          go_wp2_with (at_builtin; go_must (refine wpList_push rfl _ _ 34 rfl (w.heap.size + 1) 9 (.string ⟨#[]⟩) 1 16 Tryd.underlying34 infoStr rfl (by decide) _ _ _ rfl (HO.out.alloc _) _ 9 #[.string ⟨(y).toArray⟩] rfl (Blk.new _ _ _ rfl) rfl ?_ ?_ ?_ ?_ ?_))
          all_goals first
            | (simp [Value.oneCell']; done)
            | (unfold maxLen; omega)
            | omega
            | (have := HB.out.size; simp at this ⊢; omega)
            | skip
          all_goals
            intro v' w3 hown3 hgr _
            have hb3 : Below (w.heap.size + 1) (w.alloc (.cells opArr 9)) w3 := (HB.out.alloc hs1 _).grown hgr (Nat.le_trans hs1 (by simp)) (fun g hg => (HO.out.lt g hg).1)
            have HO3 := Lib.hid hown3
            have HB3 := Lib.hid hb3
            clear hown3 hb3 hgr
            go_wp2_with fail
            go_roundw
            case rel =>
              refine ⟨_, L ++ [y], rfl, by simp, by simp; omega, by simp; omega, ?_, ?_, ?_, ?_, HB3.out⟩
              · rw [bsl_append, HX.out, bsl_mk]; simp
              · intro u hu
                rcases List.mem_append.1 hu with hu | hu
                · exact HM.out u hu
                · simp only [List.mem_singleton] at hu; subst hu; exact HIN.out
              · rw [ByteArray.size_append, List.length_append, size_mk y]
                have := HLN
                simp at this ⊢; omega
              · have := HO3.out
                simpa [strV] using this
            case measure => simp [intOf]; omega
        · skip
          go_wp2_with (at_builtin; go_must (refine wpList_push rfl _ _ 34 rfl (w.heap.size + 1) 9 (.string ⟨#[]⟩) 1 16 Tryd.underlying34 infoStr rfl (by decide) _ _ _ rfl (HO.out.alloc _) _ 9 #[.string ⟨([40]).toArray⟩] rfl (Blk.new _ _ _ rfl) rfl ?_ ?_ ?_ ?_ ?_))
          all_goals first
            | (simp [Value.oneCell']; done)
            | (unfold maxLen; omega)
            | omega
            | (have := HB.out.size; simp at this ⊢; omega)
            | skip
          all_goals
            intro v' w3 hown3 hgr _
            have hb3 : Below (w.heap.size + 1) (w.alloc (.cells opArr 9)) w3 := (HB.out.alloc hs1 _).grown hgr (Nat.le_trans hs1 (by simp)) (fun g hg => (HO.out.lt g hg).1)
            have HO3 := Lib.hid hown3
            have HB3 := Lib.hid hb3
            clear hown3 hb3 hgr
            go_wp2_with fail
            go_roundw
            case rel =>
              refine ⟨_, L ++ [[40]], rfl, by simp, by simp; omega, by simp; omega, ?_, ?_, ?_, ?_, HB3.out⟩
              · rw [bsl_append, HX.out, bsl_mk]; simp
              · intro u hu
                rcases List.mem_append.1 hu with hu | hu
                · exact HM.out u hu
                · simp only [List.mem_singleton] at hu; subst hu; exact (by decide)
              · rw [ByteArray.size_append, List.length_append, size_mk [40]]
                have := (show ([40] : List UInt8).length ≤ 2 by decide)
                simp at this ⊢; omega
              · have := HO3.out
                simpa [strV] using this
            case measure => simp [intOf]; omega
    · have hlx : Lx.lex (bsl x) = .ok (opToks 0 0 L) := by
        rw [HX.out, Lx.lex_eq, lex_tight L [] 0 HM.out]; rfl
      have HLX := Lib.hid hlx
      clear hlx
      by_cases hg1 : L.length < len
      · have hg2 : L.length = 20 := by omega
        go_wp2_with fail
        refine (tokens_any x wr (hG.keep HBW.out) (by omega)).mono ?_
        rintro e w3 ⟨hE, hb3⟩
        rw [HLX.out] at hE
        obtain ⟨v, rfl, ho⟩ := hE
        obtain ⟨ao2, cap2, rfl, hc2, hm2, hT⟩ := (Toks.of ho).slice
        obtain ⟨ao3, cap3, rfl, hc3, hS⟩ := rowS_slice HO.out
        rw [opToks_length] at hc2 ho ⊢
        have HT := Lib.hid hT
        have HS := Lib.hid hS
        have HB3 := Lib.hid (HBW.out.trans (hb3.mono HBW.out.size))
        have HBB := Lib.hid hb3
        clear hT hS hb3 ho
        go_wp2_with fail
        go_loopw [13] (fun i W => ∃ m : Nat, i = .int .i64 m ∧ m ≤ L.length ∧ Ext w3 W) (fun i _ => L.length - (intOf i).toNat)
        case atStart => exact ⟨0, rfl, Nat.zero_le _, Ext.refl _⟩
        case round =>
          obtain ⟨m, rfl, hm, hX⟩ := hrel
          have HX3 := Lib.hid hX
          clear hX
          by_cases hmL : m < L.length
          · obtain ⟨p, hp⟩ := opToks_at 0 L 0 m (L[m]'hmL) (List.getElem?_eq_getElem hmL)
            obtain ⟨g, rfl, hg, hgc⟩ := HT.out m _ hp
            obtain ⟨g2, rfl, hg2, hgc2⟩ := HS.out m _ (List.getElem?_eq_getElem hmL)
            generalize L[m]'hmL = y at hgc hgc2
            have k0 : w3.cell? ⟨g, m * 4, none⟩ = some (.int .i64 5) := hgc 0 (by decide)
            have k1 : w3.cell? ⟨g, m * 4 + 1, none⟩ = some (.string ⟨y.toArray⟩) := hgc 1 (by decide)
            have k2 : w3.cell? ⟨g2, m, none⟩ = some (.string ⟨y.toArray⟩) := by rw [HBB.out.cell (p := ⟨g2, m, none⟩) hg2]; exact hgc2
            have HF := Lib.hid (show ∀ W, Ext wr W → W.cell? ⟨g, m * 4, none⟩ = some (.int .i64 5) ∧ W.cell? ⟨g, m * 4 + 1, none⟩ = some (.string ⟨y.toArray⟩) ∧ W.cell? ⟨g2, m, none⟩ = some (.string ⟨y.toArray⟩) from
              fun W hW0 => by
                have hW := HX3.out.trans hW0
                exact ⟨by rw [hW.cell (p := ⟨g, m * 4, none⟩) hg]; exact k0, by rw [hW.cell (p := ⟨g, m * 4 + 1, none⟩) hg]; exact k1, by rw [hW.cell (p := ⟨g2, m, none⟩) (Nat.lt_of_lt_of_le hg2 HBB.out.size)]; exact k2⟩)
            clear k0 k1 k2 hgc hgc2
            go_wp2_with fail
            refine wp_par 18 (fun
                | 0 => fun v _ => v = .slice (some ⟨g, 0, none⟩) L.length cap2
                | 1 => fun v _ => v = .int .i64 m
                | 2 => fun v _ => v = .pointer (some ⟨g, m * 4, none⟩)
                | 3 => fun v _ => v = .pointer (some ⟨g, m * 4, none⟩)
                | 4 => fun v _ => v = .int .i64 5
                | 5 => fun v _ => v = .bool false
                | 6 => fun v _ => v = .bool false
                | 7 => fun v _ => v = .slice (some ⟨g, 0, none⟩) L.length cap2
                | 8 => fun v _ => v = .int .i64 m
                | 9 => fun v _ => v = .pointer (some ⟨g, m * 4, none⟩)
                | 10 => fun v _ => v = .pointer (some ⟨g, m * 4 + 1, none⟩)
                | 11 => fun v _ => v = .string ⟨y.toArray⟩
                | 12 => fun v _ => v = .slice (some ⟨g2, 0, none⟩) L.length cap3
                | 13 => fun v _ => v = .int .i64 m
                | 14 => fun v _ => v = .pointer (some ⟨g2, m, none⟩)
                | 15 => fun v _ => v = .string ⟨y.toArray⟩
                | 16 => fun v _ => v = .bool false
                | 17 => fun v _ => v = .bool false
                | _ => fun _ _ => True) (by kernel_rfl) (by kernel_rfl) (by kernel_rfl) ?_ ?_
            · simp only [List.take_succ_cons, List.take_zero, ParAll, Act.put, List.setIfInBounds_toArray, List.set_cons_succ, List.set_cons_zero]
              refine ⟨?_, ?_, ?_, ?_, ?_, ?_, ?_, ?_, ?_, ?_, ?_, ?_, ?_, ?_, ?_, ?_, ?_, ?_, trivial⟩
              · intro vals W hx hd
                have hW := HF.out W hx
                simp [PDeps, pdeps, Region.binds] at hd
                first
                  | refine ParOb.plain rfl ?_
                  | refine ParOb.wanted (by simp [Region.wanted, yielded, hd]) ?_
                go_simp
                exact ParPost.same fun _ _ => rfl
              · intro vals W hx hd
                have hW := HF.out W hx
                simp [PDeps, pdeps, Region.binds] at hd
                first
                  | refine ParOb.plain rfl ?_
                  | refine ParOb.wanted (by simp [Region.wanted, yielded, hd]) ?_
                go_simp
                exact ParPost.same fun _ _ => rfl
              · intro vals W hx hd
                have hW := HF.out W hx
                simp [PDeps, pdeps, Region.binds] at hd
                first
                  | refine ParOb.plain rfl ?_
                  | refine ParOb.wanted (by simp [Region.wanted, yielded, hd]) ?_
                go_simp
                exact ParPost.same fun _ _ => rfl
              · intro vals W hx hd
                have hW := HF.out W hx
                simp [PDeps, pdeps, Region.binds] at hd
                first
                  | refine ParOb.plain rfl ?_
                  | refine ParOb.wanted (by simp [Region.wanted, yielded, hd]) ?_
                go_simp
                exact ParPost.same fun _ _ => rfl
              · intro vals W hx hd
                have hW := HF.out W hx
                simp [PDeps, pdeps, Region.binds] at hd
                first
                  | refine ParOb.plain rfl ?_
                  | refine ParOb.wanted (by simp [Region.wanted, yielded, hd]) ?_
                go_simp
                exact ParPost.same fun _ _ => rfl
              · intro vals W hx hd
                have hW := HF.out W hx
                simp [PDeps, pdeps, Region.binds] at hd
                first
                  | refine ParOb.plain rfl ?_
                  | refine ParOb.wanted (by simp [Region.wanted, yielded, hd]) ?_
                go_simp
                exact ParPost.same fun _ _ => rfl
              · intro vals W hx hd
                have hW := HF.out W hx
                simp [PDeps, pdeps, Region.binds] at hd
                first
                  | refine ParOb.plain rfl ?_
                  | refine ParOb.wanted (by simp [Region.wanted, yielded, hd]) ?_
                go_simp
                exact ParPost.same fun _ _ => rfl
              · intro vals W hx hd
                have hW := HF.out W hx
                simp [PDeps, pdeps, Region.binds] at hd
                first
                  | refine ParOb.plain rfl ?_
                  | refine ParOb.wanted (by simp [Region.wanted, yielded, hd]) ?_
                go_simp
                exact ParPost.same fun _ _ => rfl
              · intro vals W hx hd
                have hW := HF.out W hx
                simp [PDeps, pdeps, Region.binds] at hd
                first
                  | refine ParOb.plain rfl ?_
                  | refine ParOb.wanted (by simp [Region.wanted, yielded, hd]) ?_
                go_simp
                exact ParPost.same fun _ _ => rfl
              · intro vals W hx hd
                have hW := HF.out W hx
                simp [PDeps, pdeps, Region.binds] at hd
                first
                  | refine ParOb.plain rfl ?_
                  | refine ParOb.wanted (by simp [Region.wanted, yielded, hd]) ?_
                go_simp
                exact ParPost.same fun _ _ => rfl
              · intro vals W hx hd
                have hW := HF.out W hx
                simp [PDeps, pdeps, Region.binds] at hd
                first
                  | refine ParOb.plain rfl ?_
                  | refine ParOb.wanted (by simp [Region.wanted, yielded, hd]) ?_
                go_simp
                exact ParPost.same fun _ _ => rfl
              · intro vals W hx hd
                have hW := HF.out W hx
                simp [PDeps, pdeps, Region.binds] at hd
                first
                  | refine ParOb.plain rfl ?_
                  | refine ParOb.wanted (by simp [Region.wanted, yielded, hd]) ?_
                go_simp
                exact ParPost.same fun _ _ => rfl
              · intro vals W hx hd
                have hW := HF.out W hx
                simp [PDeps, pdeps, Region.binds] at hd
                first
                  | refine ParOb.plain rfl ?_
                  | refine ParOb.wanted (by simp [Region.wanted, yielded, hd]) ?_
                go_simp
                exact ParPost.same fun _ _ => rfl
              · intro vals W hx hd
                have hW := HF.out W hx
                simp [PDeps, pdeps, Region.binds] at hd
                first
                  | refine ParOb.plain rfl ?_
                  | refine ParOb.wanted (by simp [Region.wanted, yielded, hd]) ?_
                go_simp
                exact ParPost.same fun _ _ => rfl
              · intro vals W hx hd
                have hW := HF.out W hx
                simp [PDeps, pdeps, Region.binds] at hd
                first
                  | refine ParOb.plain rfl ?_
                  | refine ParOb.wanted (by simp [Region.wanted, yielded, hd]) ?_
                go_simp
                exact ParPost.same fun _ _ => rfl
              · intro vals W hx hd
                have hW := HF.out W hx
                simp [PDeps, pdeps, Region.binds] at hd
                first
                  | refine ParOb.plain rfl ?_
                  | refine ParOb.wanted (by simp [Region.wanted, yielded, hd]) ?_
                go_simp
                exact ParPost.same fun _ _ => rfl
              · intro vals W hx hd
                have hW := HF.out W hx
                simp [PDeps, pdeps, Region.binds] at hd
                first
                  | refine ParOb.plain rfl ?_
                  | refine ParOb.wanted (by simp [Region.wanted, yielded, hd]) ?_
                go_simp
                exact ParPost.same fun _ _ => rfl
              · intro vals W hx hd
                have hW := HF.out W hx
                simp [PDeps, pdeps, Region.binds] at hd
                first
                  | refine ParOb.plain rfl ?_
                  | refine ParOb.wanted (by simp [Region.wanted, yielded, hd]) ?_
                go_simp
                exact ParPost.same fun _ _ => rfl
            intro vals W hx hf
            simp only [ParFacts, List.take_succ_cons, List.take_zero, and_true] at hf
            simp only [List.drop_succ_cons, List.drop_zero, List.take_succ_cons, List.take_zero, ParEnd, Act.put, List.setIfInBounds_toArray, List.set_cons_succ, List.set_cons_zero, hf]
            clear hf
            go_wp2_with fail
            go_roundw
            case rel => exact ⟨m + 1, by go_num, hmL, HX3.out.trans hx⟩
            case measure => simp [intOf]; omega
          · have HB3' := Lib.hid (HB3.out.trans (Below.mono HX3.out HB3.out.size))
            go_wp2_with fail
            refine (awake_any wr (hG.keep HB3'.out)).mono ?_
            rintro e w4 ⟨rfl, hb4⟩
            have HB4 := Lib.hid (HB3'.out.trans (hb4.mono HB3'.out.size))
            clear hb4
            go_wp2
            go_ret
            exact ⟨rfl, HB4.out⟩
      · skip
        go_wp2_with fail
        refine (tokens_any x wr (hG.keep HBW.out) (by omega)).mono ?_
        rintro e w3 ⟨hE, hb3⟩
        rw [HLX.out] at hE
        obtain ⟨v, rfl, ho⟩ := hE
        obtain ⟨ao2, cap2, rfl, hc2, hm2, hT⟩ := (Toks.of ho).slice
        obtain ⟨ao3, cap3, rfl, hc3, hS⟩ := rowS_slice HO.out
        rw [opToks_length] at hc2 ho ⊢
        have HT := Lib.hid hT
        have HS := Lib.hid hS
        have HB3 := Lib.hid (HBW.out.trans (hb3.mono HBW.out.size))
        have HBB := Lib.hid hb3
        clear hT hS hb3 ho
        go_wp2_with fail
        go_loopw [13] (fun i W => ∃ m : Nat, i = .int .i64 m ∧ m ≤ L.length ∧ Ext w3 W) (fun i _ => L.length - (intOf i).toNat)
        case atStart => exact ⟨0, rfl, Nat.zero_le _, Ext.refl _⟩
        case round =>
          obtain ⟨m, rfl, hm, hX⟩ := hrel
          have HX3 := Lib.hid hX
          clear hX
          by_cases hmL : m < L.length
          · obtain ⟨p, hp⟩ := opToks_at 0 L 0 m (L[m]'hmL) (List.getElem?_eq_getElem hmL)
            obtain ⟨g, rfl, hg, hgc⟩ := HT.out m _ hp
            obtain ⟨g2, rfl, hg2, hgc2⟩ := HS.out m _ (List.getElem?_eq_getElem hmL)
            generalize L[m]'hmL = y at hgc hgc2
            have k0 : w3.cell? ⟨g, m * 4, none⟩ = some (.int .i64 5) := hgc 0 (by decide)
            have k1 : w3.cell? ⟨g, m * 4 + 1, none⟩ = some (.string ⟨y.toArray⟩) := hgc 1 (by decide)
            have k2 : w3.cell? ⟨g2, m, none⟩ = some (.string ⟨y.toArray⟩) := by rw [HBB.out.cell (p := ⟨g2, m, none⟩) hg2]; exact hgc2
            have HF := Lib.hid (show ∀ W, Ext wr W → W.cell? ⟨g, m * 4, none⟩ = some (.int .i64 5) ∧ W.cell? ⟨g, m * 4 + 1, none⟩ = some (.string ⟨y.toArray⟩) ∧ W.cell? ⟨g2, m, none⟩ = some (.string ⟨y.toArray⟩) from
              fun W hW0 => by
                have hW := HX3.out.trans hW0
                exact ⟨by rw [hW.cell (p := ⟨g, m * 4, none⟩) hg]; exact k0, by rw [hW.cell (p := ⟨g, m * 4 + 1, none⟩) hg]; exact k1, by rw [hW.cell (p := ⟨g2, m, none⟩) (Nat.lt_of_lt_of_le hg2 HBB.out.size)]; exact k2⟩)
            clear k0 k1 k2 hgc hgc2
            go_wp2_with fail
            refine wp_par 18 (fun
                | 0 => fun v _ => v = .slice (some ⟨g, 0, none⟩) L.length cap2
                | 1 => fun v _ => v = .int .i64 m
                | 2 => fun v _ => v = .pointer (some ⟨g, m * 4, none⟩)
                | 3 => fun v _ => v = .pointer (some ⟨g, m * 4, none⟩)
                | 4 => fun v _ => v = .int .i64 5
                | 5 => fun v _ => v = .bool false
                | 6 => fun v _ => v = .bool false
                | 7 => fun v _ => v = .slice (some ⟨g, 0, none⟩) L.length cap2
                | 8 => fun v _ => v = .int .i64 m
                | 9 => fun v _ => v = .pointer (some ⟨g, m * 4, none⟩)
                | 10 => fun v _ => v = .pointer (some ⟨g, m * 4 + 1, none⟩)
                | 11 => fun v _ => v = .string ⟨y.toArray⟩
                | 12 => fun v _ => v = .slice (some ⟨g2, 0, none⟩) L.length cap3
                | 13 => fun v _ => v = .int .i64 m
                | 14 => fun v _ => v = .pointer (some ⟨g2, m, none⟩)
                | 15 => fun v _ => v = .string ⟨y.toArray⟩
                | 16 => fun v _ => v = .bool false
                | 17 => fun v _ => v = .bool false
                | _ => fun _ _ => True) (by kernel_rfl) (by kernel_rfl) (by kernel_rfl) ?_ ?_
            · simp only [List.take_succ_cons, List.take_zero, ParAll, Act.put, List.setIfInBounds_toArray, List.set_cons_succ, List.set_cons_zero]
              refine ⟨?_, ?_, ?_, ?_, ?_, ?_, ?_, ?_, ?_, ?_, ?_, ?_, ?_, ?_, ?_, ?_, ?_, ?_, trivial⟩
              · intro vals W hx hd
                have hW := HF.out W hx
                simp [PDeps, pdeps, Region.binds] at hd
                first
                  | refine ParOb.plain rfl ?_
                  | refine ParOb.wanted (by simp [Region.wanted, yielded, hd]) ?_
                go_simp
                exact ParPost.same fun _ _ => rfl
              · intro vals W hx hd
                have hW := HF.out W hx
                simp [PDeps, pdeps, Region.binds] at hd
                first
                  | refine ParOb.plain rfl ?_
                  | refine ParOb.wanted (by simp [Region.wanted, yielded, hd]) ?_
                go_simp
                exact ParPost.same fun _ _ => rfl
              · intro vals W hx hd
                have hW := HF.out W hx
                simp [PDeps, pdeps, Region.binds] at hd
                first
                  | refine ParOb.plain rfl ?_
                  | refine ParOb.wanted (by simp [Region.wanted, yielded, hd]) ?_
                go_simp
                exact ParPost.same fun _ _ => rfl
              · intro vals W hx hd
                have hW := HF.out W hx
                simp [PDeps, pdeps, Region.binds] at hd
                first
                  | refine ParOb.plain rfl ?_
                  | refine ParOb.wanted (by simp [Region.wanted, yielded, hd]) ?_
                go_simp
                exact ParPost.same fun _ _ => rfl
              · intro vals W hx hd
                have hW := HF.out W hx
                simp [PDeps, pdeps, Region.binds] at hd
                first
                  | refine ParOb.plain rfl ?_
                  | refine ParOb.wanted (by simp [Region.wanted, yielded, hd]) ?_
                go_simp
                exact ParPost.same fun _ _ => rfl
              · intro vals W hx hd
                have hW := HF.out W hx
                simp [PDeps, pdeps, Region.binds] at hd
                first
                  | refine ParOb.plain rfl ?_
                  | refine ParOb.wanted (by simp [Region.wanted, yielded, hd]) ?_
                go_simp
                exact ParPost.same fun _ _ => rfl
              · intro vals W hx hd
                have hW := HF.out W hx
                simp [PDeps, pdeps, Region.binds] at hd
                first
                  | refine ParOb.plain rfl ?_
                  | refine ParOb.wanted (by simp [Region.wanted, yielded, hd]) ?_
                go_simp
                exact ParPost.same fun _ _ => rfl
              · intro vals W hx hd
                have hW := HF.out W hx
                simp [PDeps, pdeps, Region.binds] at hd
                first
                  | refine ParOb.plain rfl ?_
                  | refine ParOb.wanted (by simp [Region.wanted, yielded, hd]) ?_
                go_simp
                exact ParPost.same fun _ _ => rfl
              · intro vals W hx hd
                have hW := HF.out W hx
                simp [PDeps, pdeps, Region.binds] at hd
                first
                  | refine ParOb.plain rfl ?_
                  | refine ParOb.wanted (by simp [Region.wanted, yielded, hd]) ?_
                go_simp
                exact ParPost.same fun _ _ => rfl
              · intro vals W hx hd
                have hW := HF.out W hx
                simp [PDeps, pdeps, Region.binds] at hd
                first
                  | refine ParOb.plain rfl ?_
                  | refine ParOb.wanted (by simp [Region.wanted, yielded, hd]) ?_
                go_simp
                exact ParPost.same fun _ _ => rfl
              · intro vals W hx hd
                have hW := HF.out W hx
                simp [PDeps, pdeps, Region.binds] at hd
                first
                  | refine ParOb.plain rfl ?_
                  | refine ParOb.wanted (by simp [Region.wanted, yielded, hd]) ?_
                go_simp
                exact ParPost.same fun _ _ => rfl
              · intro vals W hx hd
                have hW := HF.out W hx
                simp [PDeps, pdeps, Region.binds] at hd
                first
                  | refine ParOb.plain rfl ?_
                  | refine ParOb.wanted (by simp [Region.wanted, yielded, hd]) ?_
                go_simp
                exact ParPost.same fun _ _ => rfl
              · intro vals W hx hd
                have hW := HF.out W hx
                simp [PDeps, pdeps, Region.binds] at hd
                first
                  | refine ParOb.plain rfl ?_
                  | refine ParOb.wanted (by simp [Region.wanted, yielded, hd]) ?_
                go_simp
                exact ParPost.same fun _ _ => rfl
              · intro vals W hx hd
                have hW := HF.out W hx
                simp [PDeps, pdeps, Region.binds] at hd
                first
                  | refine ParOb.plain rfl ?_
                  | refine ParOb.wanted (by simp [Region.wanted, yielded, hd]) ?_
                go_simp
                exact ParPost.same fun _ _ => rfl
              · intro vals W hx hd
                have hW := HF.out W hx
                simp [PDeps, pdeps, Region.binds] at hd
                first
                  | refine ParOb.plain rfl ?_
                  | refine ParOb.wanted (by simp [Region.wanted, yielded, hd]) ?_
                go_simp
                exact ParPost.same fun _ _ => rfl
              · intro vals W hx hd
                have hW := HF.out W hx
                simp [PDeps, pdeps, Region.binds] at hd
                first
                  | refine ParOb.plain rfl ?_
                  | refine ParOb.wanted (by simp [Region.wanted, yielded, hd]) ?_
                go_simp
                exact ParPost.same fun _ _ => rfl
              · intro vals W hx hd
                have hW := HF.out W hx
                simp [PDeps, pdeps, Region.binds] at hd
                first
                  | refine ParOb.plain rfl ?_
                  | refine ParOb.wanted (by simp [Region.wanted, yielded, hd]) ?_
                go_simp
                exact ParPost.same fun _ _ => rfl
              · intro vals W hx hd
                have hW := HF.out W hx
                simp [PDeps, pdeps, Region.binds] at hd
                first
                  | refine ParOb.plain rfl ?_
                  | refine ParOb.wanted (by simp [Region.wanted, yielded, hd]) ?_
                go_simp
                exact ParPost.same fun _ _ => rfl
            intro vals W hx hf
            simp only [ParFacts, List.take_succ_cons, List.take_zero, and_true] at hf
            simp only [List.drop_succ_cons, List.drop_zero, List.take_succ_cons, List.take_zero, ParEnd, Act.put, List.setIfInBounds_toArray, List.set_cons_succ, List.set_cons_zero, hf]
            clear hf
            go_wp2_with fail
            go_roundw
            case rel => exact ⟨m + 1, by go_num, hmL, HX3.out.trans hx⟩
            case measure => simp [intOf]; omega
          · have HB3' := Lib.hid (HB3.out.trans (Below.mono HX3.out HB3.out.size))
            go_wp2_with fail
            refine (awake_any wr (hG.keep HB3'.out)).mono ?_
            rintro e w4 ⟨rfl, hb4⟩
            have HB4 := Lib.hid (HB3'.out.trans (hb4.mono HB3'.out.size))
            clear hb4
            go_wp2
            go_ret
            exact ⟨rfl, HB4.out⟩
theorem law_ops (tight : Bool) (ao : Option Addr) (len cap : Nat) (zs : List Int) (w : World) (hG : Glob w)
    (hcell : ∀ i, i < len → ∃ a, ao = some a ∧ w.cell? (a.add i) = some (.int .i64 (zs.getD i 0)) ∧ (a.add i).block < w.heap.size) :
    Calls Tryd.prog 5 #[.slice ao len cap, .bool tight] w fun e w' => e = .returned (.bool true) ∧ Below w.heap.size w w' := by
  cases tight
  · exact law_opsF ao len cap zs w hG hcell
  · exact law_opsT ao len cap zs w hG hcell
end Go.Proofs.YtjjmifidjeaefaaDoor
