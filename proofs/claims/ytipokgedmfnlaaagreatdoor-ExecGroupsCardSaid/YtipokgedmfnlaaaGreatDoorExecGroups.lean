/-
 The law of rows in groups. The law of rows in groups holds: for any rows, any collations, the call returns true, and the arguments read as they did. No condition; the listed variables of Go's library read as its text lays them (the card ties them).
-/
import Derived.Test.YtipokgedmfnlaaaGreatDoorKey2
import Derived.Test.YtipokgedmfnlaaaGreatDoorDocRows
import Derived.Test.YtipokgedmfnlaaaGreatDoorBindFrame
namespace Go.Proofs.YtipokgedmfnlaaaGreatDoor
open Go.RowKit Go.Lib
set_option maxRecDepth 100000

/-- The firsts. -/
def firsts (G : List (List Nat)) : List Nat := G.map fun l => l.getD 0 0
theorem firsts_snoc (G : List (List Nat)) (k f : Nat) (t : List Nat) (h : G[k]? = some (f :: t)) : (firsts G).take (k + 1) = (firsts G).take k ++ [f] := by
 have hk : k < (firsts G).length := by rw [firsts, List.length_map]; exact (List.getElem?_eq_some_iff.1 h).1
 rw [List.take_succ_eq_append_getElem hk]
 congr 2
 have h2 := List.getElem?_eq_getElem hk
 unfold firsts at h2 ⊢
 rw [List.getElem?_map, h] at h2
 simpa using h2.symm
theorem readsLL_at {w : World} {v : Value} {G : List (List Nat)} (h : ReadsLL w v (gcells G)) : ∃ ao cap, v = .slice ao G.length cap ∧ G.length ≤ cap ∧
  ∀ (k : Nat) (l : List Nat), G[k]? = some l → ∃ g u, ao = some ⟨g, 0, none⟩ ∧ g < w.heap.size ∧ w.cell? ⟨g, k, none⟩ = some u ∧ ReadsL w u (intsV l) := by
 obtain ⟨vs, h1, h2, h3⟩ := h
 rw [gcells_length] at h2
 rcases h1 with ⟨rfl, h0⟩ | ⟨g, c, rfl, hc, hcell⟩
 ·subst h0
  simp at h2
  have : G = [] := List.eq_nil_of_length_eq_zero h2.symm
  subst this
  exact ⟨none, 0, rfl, Nat.le_refl _, fun k l h => by simp at h⟩
 ·refine ⟨some ⟨g, 0, none⟩, c, by rw [h2], by omega, fun k l hl => ?_⟩
  have hk : k < vs.length := by have := (List.getElem?_eq_some_iff.1 hl).1; omega
  have hv := List.getElem?_eq_getElem hk
  have hcl := hcell k _ hv
  exact ⟨g, vs[k], rfl, World.block_lt_of_cell? w _ hcl, hcl, h3 k _ (intsV l) hv (by simp [gcells, hl, intsV])⟩
set_option maxHeartbeats 4000000 in
theorem distinct_any (v cv : Value) (R : List (List V3)) (L : List C5) (w : World) (hR : RowsAt w v R) (hF : FewR R) (hC : CollsW w cv L) (hG : ∀ W, Ext w W → Glob W) :
  Calls Tryz.prog 19 #[v, cv] w fun e w' => ∃ u, e = .returned u ∧ ReadsL w' u (intsV (firsts (gst (keyN L R) R.length).2)) ∧ Below w.heap.size w w' := by
 have KG := Lib.hid (groups5_any v cv R L w hR hF hC hG)
 have HFst := Lib.hid (gst_first (keyN L R) R.length)
 have hlen := (gst_ok (keyN L R) R.length).2.2.1
 rw [(gst_ok (keyN L R) R.length).2.1] at hlen
 have h30 := hF.1
 generalize (gst (keyN L R) R.length).2 = G at KG HFst hlen ⊢
 generalize (gst (keyN L R) R.length).1 = T at HFst
 obtain ⟨a1, k1, rfl, _⟩ := hR
 obtain ⟨⟨a2, k2, rfl, _⟩, _⟩ := hC
 clear hF hG
 go_enter Tryz.func19, Tryz.ntmps19
 go_wp2_with fail
 refine Calls.mono KG.out ?_
 rintro e w1 ⟨u, rfl, hr, hb1⟩
 obtain ⟨ag, cg, rfl, hcg, hall⟩ := readsLL_at hr
 have HAll := Lib.hid hall
 have HX1 := Lib.hid (show Ext w w1 from hb1)
 clear hr hb1 hall
 go_wp2_with fail
 go_loopw [5, 12] (fun o i wr => ∃ k : Nat, k ≤ G.length ∧ i = .int .i64 k ∧ wr.ownsRow w1.heap.size 3 1 o k (intsV ((firsts G).take k)) ∧ Ext w1 wr) (fun _ i _ => G.length - (intOf i).toNat)
 case atStart => exact ⟨0, Nat.zero_le _, rfl, World.ownsRow_nil _ _ _ _, Ext.refl _⟩
 case round =>
  obtain ⟨k, hk, rfl, hown, hx⟩ := hrel
  have HOw := Lib.hid hown
  have HX := Lib.hid hx
  clear hown hx
  by_cases hlt : k < G.length
  ·have hltI : (k : Int) < (G.length : Int) := by omega
   have hgk := List.getElem?_eq_getElem hlt
   obtain ⟨f, t, hft, hf, _⟩ := HFst.out k _ hgk
   rw [hft] at hgk
   obtain ⟨g, u, rfl, hg, hcu, hru⟩ := HAll.out k _ hgk
   have HSn := Lib.hid (firsts_snoc G k f t hgk)
   rcases hru with ⟨_, h0⟩ | ⟨g2, cc2, rfl, hc2, hcell2⟩
   ·simp [intsV] at h0
   have hc0 := hcell2 0 _ rfl
   rw [intsV_length, List.length_cons] at hc2
   rw [intsV_length, List.length_cons] at hcu
   have d1 := (HX.out.cell (p := ⟨g, k, none⟩) hg).trans hcu
   have d2 := (HX.out.cell (p := ⟨g2, 0, none⟩) (World.block_lt_of_cell? w1 _ hc0)).trans hc0
   have hposI : (0 : Int) < (t.length : Int) + 1 := by omega
   clear hcell2 hcu hc0 hgk hft
   obtain ⟨ao, cap0, ho, hcap0⟩ := ownsRow_slice HOw.out
   subst ho
   go_wp2_with (at_builtin; refine wpList_push rfl _ _ _ rfl w1.heap.size 3 (.int .i64 0) 1 8 Tryz.underlying40 infoInt1 rfl (by decide) (.slice ao k cap0) k (intsV ((firsts G).take k)) rfl (HOw.out.alloc _) wr.heap.size 3 #[.int .i64 f] rfl (Blk.new _ _ _ rfl) rfl (by simp [Value.oneCell']) (by unfold maxLen; omega) (by omega) (by have := HX.out.size; have := HX1.out.size; simp <;> omega) ?_; intro v5 w5 hown hgr5 hat; have HX5 := Lib.hid (ext_own HX.out HOw.out hgr5); obtain ⟨g, cap, rfl⟩ := own_form hown; have HO5 := Lib.hid hown; clear hown hgr5 hat)
   refine ⟨⟨k + 1, by omega, by go_num, ?_, HX5.out⟩, by simp [intOf]; omega⟩
   rw [HSn.out, intsV_snoc]
   simpa using HO5.out
  ·obtain rfl : k = G.length := by omega
   have hltI : ¬ (G.length : Int) < (G.length : Int) := by omega
   go_wp2_with fail
   refine Calls.mono (clip_own HOw.out) ?_
   rintro e w' ⟨rfl, rfl⟩
   go_wp2_with fail
   go_ret
   have ht : (firsts G).take G.length = firsts G := List.take_of_length_le (by rw [firsts, List.length_map]; exact Nat.le_refl _)
   have hown := HOw.out
   rw [ht] at hown
   exact ⟨_, rfl, (ownsRow_reads hown).clip, Ext.trans HX1.out HX.out⟩
end Go.Proofs.YtipokgedmfnlaaaGreatDoor

namespace Go.Proofs.YtipokgedmfnlaaaGreatDoor
open Go.RowKit Go.Lib
set_option maxRecDepth 100000

theorem idx_nodup : ∀ (T : List K5) (p : Nat) (x : K5), T.Nodup → T[p]? = some x → T.idxOf x = p
 | [], p, x, _, h => by simp at h
 | y :: T, 0, x, _, h => by
  obtain rfl : y = x := by simpa using h
  rw [List.idxOf_cons, beq_self_eq_true y, cond_true]
 | y :: T, p + 1, x, hn, h => by
  have hn2 := List.nodup_cons.1 hn
  have hx : T[p]? = some x := by simpa using h
  have hne : y ≠ x := fun e => hn2.1 (e ▸ List.mem_of_getElem? hx)
  rw [List.idxOf_cons, idx_nodup T p x hn2.2 hx, beq_eq_false_iff_ne.2 hne, cond_false]
/-- A fresh row is put behind a slice of slices. -/
theorem ownsLL_pushRow {w w' : World} {B : Nat} {eo ei : TypeId} {v v' u0 : Value} {l0 : List Value} {L : List (List Value)} {vs : List Value} (hne : eo ≠ ei) (h1 : w.ownsRow B eo 1 v L.length vs) (h2 : vs.length = L.length) (h3 : ∀ (j : Nat) (u : Value) (l : List Value), vs[j]? = some u → L[j]? = some l → w.ownsRow B ei 1 u l.length l)
  (h4 : ∀ (i j : Nat) (u u' : Value) (g : Nat), i ≠ j → vs[i]? = some u → vs[j]? = some u' → u.ownBlock = some g → u'.ownBlock ≠ some g)
  (h5 : w.ownsRow B ei 1 u0 l0.length l0) (h6 : ∀ (j : Nat) (u : Value) (g : Nat), vs[j]? = some u → u.ownBlock = some g → u0.ownBlock ≠ some g)
  (hown : w'.ownsRow B eo 1 v' (L.length + 1) (vs ++ [u0])) (hg : w.grownBy w' v.ownBlock) : OwnsLL w' B eo ei v' (L ++ [l0]) := by
 refine ⟨vs ++ [u0], by simpa using hown, by simp [h2], fun j u l hu hl => ?_, fun i j u u' g hij hu hu' hgu => ?_⟩
 ·have apart : ∀ {u : Value} {l : List Value}, w.ownsRow B ei 1 u l.length l → w'.ownsRow B ei 1 u l.length l := fun {u l} hr => by
   refine hr.kept hg ?_
   cases huo : u.ownBlock with
   | none => exact .inl rfl
   | some g => exact .inr (fun e => ownsRow_apart h1 hr hne e.symm huo)
  rcases Nat.lt_trichotomy j vs.length with hlt | heq | hgt
  ·rw [List.getElem?_append_left hlt] at hu
   rw [List.getElem?_append_left (by omega)] at hl
   exact apart (h3 j u l hu hl)
  ·subst heq
   rw [List.getElem?_append_right (by omega)] at hu
   rw [List.getElem?_append_right (by omega), h2] at hl
   simp at hu hl
   subst hu hl
   exact apart h5
  ·rw [List.getElem?_eq_none (by simp; omega)] at hu; cases hu
 ·have one : ∀ (k : Nat) (x : Value), (vs ++ [u0])[k]? = some x → (k < vs.length ∧ vs[k]? = some x) ∨ (k = vs.length ∧ x = u0) := by
   intro k x hk
   rcases Nat.lt_or_ge k vs.length with hlt | hge
   ·rw [List.getElem?_append_left hlt] at hk
    exact .inl ⟨hlt, hk⟩
   ·rw [List.getElem?_append_right hge] at hk
    rcases Nat.eq_zero_or_pos (k - vs.length) with h0 | hp
    ·rw [h0] at hk; simp at hk; exact .inr ⟨by omega, hk.symm⟩
    ·rw [List.getElem?_eq_none (by simp; omega)] at hk; cases hk
  intro hg'
  rcases one i u hu with ⟨_, a1⟩ | ⟨a0, rfl⟩ <;> rcases one j u' hu' with ⟨_, b1⟩ | ⟨b0, rfl⟩
  ·exact h4 i j u u' g hij a1 b1 hgu hg'
  ·exact h6 i u g a1 hgu hg'
  ·exact h6 j u' g b1 hg' hgu
  ·omega
theorem ownsLL_reads {w : World} {B : Nat} {eo ei : TypeId} {v : Value} {L : List (List Value)} (h : OwnsLL w B eo ei v L) : ReadsLL w v L := by
 obtain ⟨vs, h1, h2, h3, _⟩ := h
 exact ⟨vs, ownsRow_reads h1, h2, fun j u l hu hl => ownsRow_reads (h3 j u l hu hl)⟩
set_option maxHeartbeats 16000000 in
theorem refgroups_any (v cv : Value) (R : List (List V3)) (n m : Nat) (fs : Nat → List UInt8 → List UInt8 → Int) (K : Nat → K5) (w : World)
  (hR : RowsAt w v R) (hF : FewR R) (hC : CollsRAt w cv n fs) (hch : ∀ i, Chain (fs i)) (hm : ∀ r ∈ R, r.length = m)
  (hK : ∀ a b, a < R.length → b < R.length → (K a = K b ↔ ordL fs (fun _ => false) 0 (R.getD a []) (R.getD b []) = 0)) :
  Calls Tryz.prog 17 #[v, cv] w fun e w' => ∃ u, e = .returned u ∧ ReadsLL w' u (gcells (gst K R.length).2) ∧ Below w.heap.size w w' := by
 have HF := Lib.hid hF
 have HC := Lib.hid hC
 have HCH := Lib.hid hch
 have HM := Lib.hid hm
 have HK := Lib.hid hK
 obtain ⟨a1, k1, rfl, hk1, _, hcell⟩ := hR
 obtain ⟨a2, k2, rfl, _⟩ := id hC
 have h30 := hF.1
 have HCell := Lib.hid hcell
 clear hF hC hch hm hK hcell
 go_enter Tryz.func17, Tryz.ntmps17
 go_wp2_with fail
 go_loopw [5, 6] (fun o i wr => ∃ k : Nat, k ≤ R.length ∧ i = .int .i64 k ∧ OwnsLL wr w.heap.size 40 3 o (gcells (gst K k).2) ∧ Ext w wr) (fun _ i _ => R.length - (intOf i).toNat)
 case atStart => exact ⟨0, Nat.zero_le _, rfl, OwnsLL.nil _ _ _ _, Ext.refl _⟩
 case round =>
  obtain ⟨k, hk, rfl, hown, hx⟩ := hrel
  have HOw := Lib.hid hown
  have HX := Lib.hid hx
  clear hown hx
  by_cases hlt : k < R.length
  ·have hltI : (k : Int) < (R.length : Int) := by omega
   have hG := gst_ok K k
   have HFst := Lib.hid (gst_first K k)
   have HG := Lib.hid hG
   have hTl := hG.2.1
   have hGk := hG.2.2.1
   obtain ⟨T, hT⟩ : ∃ T, T = (gst K k).1 := ⟨_, rfl⟩
   obtain ⟨G, hGe⟩ : ∃ G, G = (gst K k).2 := ⟨_, rfl⟩
   rw [← hT, ← hGe] at HFst HG hTl
   rw [← hT] at hGk
   rw [← hGe] at HOw
   have HT := Lib.hid (And.intro hT hGe)
   clear hT hGe hG
   obtain ⟨ao, cap, ho, hcap, hcap2⟩ : ∃ ao cap, u5 = .slice ao G.length cap ∧ G.length ≤ cap ∧ cap ≤ 9223372036854775807 := by
    rcases HOw.out.shape with ⟨h1, h2⟩ | ⟨g, cap, h1, h2, _, _, h3⟩
    ·have h0 : G.length = 0 := by rw [← gcells_length, h2]; rfl
     exact ⟨none, 0, by rw [h1, h0], by omega, by omega⟩
    ·exact ⟨_, cap, by rw [h1, gcells_length], by rw [← gcells_length]; exact h2, by unfold maxLen at h3; omega⟩
   subst ho
   go_wp2_with fail
   go_loopw [7, 8] (fun a q wr2 => ∃ j : Nat, j ≤ G.length ∧ q = .int .i64 j ∧ ((a = .int .i64 (-1) ∧ ∀ p, p < j → T[p]? ≠ some (K k)) ∨ ∃ p : Nat, p < G.length ∧ a = .int .i64 p ∧ T[p]? = some (K k) ∧ j = p + 1) ∧ OwnsLL wr2 w.heap.size 40 3 (.slice ao G.length cap) (gcells G) ∧ Ext w wr2) (fun _ q _ => G.length - (intOf q).toNat)
   case atStart => exact ⟨0, Nat.zero_le _, rfl, .inl ⟨rfl, fun p hp => by omega⟩, HOw.out, HX.out⟩
   case round =>
    obtain ⟨j, hj, rfl, hor, hown2, hx2⟩ := hrel
    clear HOw HX
    have HX2 := Lib.hid hx2
    have HOw2 := Lib.hid hown2
    clear hx2 hown2
    rcases hor with ⟨rfl, hno⟩ | ⟨p, hp, rfl, hyes, rfl⟩
    ·have HNo := Lib.hid hno
     clear hno
     by_cases hjl : j < G.length
     ·have hjI : (j : Int) < (G.length : Int) := by omega
      have hgj := List.getElem?_eq_getElem hjl
      obtain ⟨f, t, hft, hf, hTj⟩ := HFst.out j _ hgj
      rw [hft] at hgj
      obtain ⟨g, cap', vs, u, hv, o1, o2, o3, o4, o5, o6, o7, o8, o9, o10, o11⟩ := HOw2.out.at (n := j) (l := intsV (f :: t)) (by simp [gcells, hgj, intsV])
      rw [gcells_length] at hv
      simp only [Value.slice.injEq] at hv
      obtain ⟨rfl, -, rfl⟩ := hv
      rcases ownsRow_reads o6 with ⟨_, h0⟩ | ⟨g2, cc2, rfl, hc2, hcell2⟩
      ·simp [intsV] at h0
      have hc0 := hcell2 0 _ rfl
      rw [intsV_length, List.length_cons] at hc2 o7
      have hposI : (0 : Int) < (t.length : Int) + 1 := by omega
      have hfR : f < R.length := by omega
      have hfI : (f : Int) < (R.length : Int) := by omega
      obtain ⟨gr, orr, rfl, hgr, hrows⟩ := HCell.out (by omega)
      obtain ⟨uf, huf, hrf⟩ := hrows f R[f] (List.getElem?_eq_getElem hfR)
      obtain ⟨uk, huk, hrk⟩ := hrows k R[k] (List.getElem?_eq_getElem hlt)
      have q1 := (HX2.out.cell (p := ⟨gr, orr + f, none⟩) hgr).trans huf
      have q2 := (HX2.out.cell (p := ⟨gr, orr + k, none⟩) hgr).trans huk
      obtain ⟨f1, f2⟩ := HF.out.2 _ (List.getElem_mem hfR)
      obtain ⟨f3, f4⟩ := HF.out.2 _ (List.getElem_mem hlt)
      have hml := HM.out _ (List.getElem_mem hfR)
      have hmk := HM.out _ (List.getElem_mem hlt)
      have KR := Lib.hid (refrows_any uf uk (.slice a2 n k2) (.slice none 0 0) R[f] R[k] n 0 fs (fun _ => false) wr (hrf.ext HX2.out) (hrk.ext HX2.out) (HC.out.ext HX2.out) ⟨none, 0, rfl, Nat.le_refl _, fun h => absurd h (Nat.lt_irrefl _), fun _ _ => rfl⟩ HCH.out (by omega) (by omega) f2 f4)
      have hKf := HK.out f k hfR hlt
      have e1 : R.getD f [] = R[f] := by simp [List.getD_eq_getElem?_getD, hfR]
      have e2 : R.getD k [] = R[k] := by simp [List.getD_eq_getElem?_getD, hlt]
      rw [e1, e2] at hKf
      obtain ⟨a3, c3, rfl, hc3, -⟩ := hrf
      obtain ⟨a4, c4, rfl, hc4, -⟩ := hrk
      rw [hml] at KR q1
      rw [hmk] at KR q2
      generalize ordL fs (fun _ => false) 0 R[f] R[k] = Z at KR hKf
      have HKf := Lib.hid hKf
      have HTj := Lib.hid hTj
      clear hKf hTj hrows huf huk f1 f2 f3 f4 hml hmk e1 e2 hc3 hc4 o1 o2 o3 o4 o5 o6 hcell2 hgj hft
      go_wp2_with fail
      refine Calls.mono KR.out ?_
      rintro e w9 ⟨rfl, hb9⟩
      have HX9 := Lib.hid (Ext.trans HX2.out hb9)
      have HO9 := Lib.hid (HOw2.out.ext hb9)
      clear hb9 q1 q2 o7 hc0 KR
      cases hz : (Z == 0)
      ·have hz2 : Z ≠ 0 := by simpa using hz
       go_wp2_with fail
       go_roundw
       case rel =>
        refine ⟨j + 1, by omega, by go_num, .inl ⟨rfl, fun p hp hTp => ?_⟩, HO9.out, HX9.out⟩
        by_cases hpj : p = j
        ·subst hpj
         rw [HTj.out] at hTp
         exact hz2 (HKf.out.1 (Option.some.inj hTp))
        ·exact HNo.out p (by omega) hTp
       case measure => simp [intOf]; omega
      ·have hz2 : Z = 0 := by simpa using hz
       go_wp2_with fail
       go_roundw
       case rel => exact ⟨j + 1, by omega, by go_num, .inr ⟨j, hjl, rfl, by rw [HTj.out, HKf.out.2 hz2], rfl⟩, HO9.out, HX9.out⟩
       case measure => simp [intOf]; omega
     ·have hjI : ¬ (j : Int) < (G.length : Int) := by omega
      have hmem : K k ∉ T := fun h => by
       obtain ⟨p, hp⟩ := List.mem_iff_getElem?.1 h
       have hpl : p < T.length := (List.getElem?_eq_some_iff.1 hp).1
       exact HNo.out p (by omega) hp
      have HMem := Lib.hid hmem
      obtain ⟨vs, o1, o2, o3, o4⟩ := HOw2.out
      rw [gcells_length] at o1
      have HO1 := Lib.hid o1
      have HOr := Lib.hid (And.intro o2 (And.intro o3 o4))
      have hGl : G.length ≤ 30 := by omega
      clear o1 o2 o3 o4 hmem HNo
      go_wp2_with (at_builtin; go_must (refine wpList_push rfl _ _ 41 rfl w.heap.size 40 (.slice none 0 0) 1 24 Tryz.underlying41 info40 rfl (by decide) (.slice ao G.length cap) G.length vs rfl ((HO1.out.alloc _).alloc _) (wr.heap.size + 1) 40 #[.slice (some ⟨wr.heap.size, 0, none⟩) 1 1] rfl (Blk.new _ _ _ (by simp)) rfl ?_ ?_ ?_ ?_ ?_))
      ·rfl
      ·unfold maxLen; omega
      ·omega
      ·have := HX2.out.size; simp; omega
      ·intro v4 w4 hown4 hgrow4 hat4
       obtain ⟨o2, o3, o4⟩ := HOr.out
       have hLL : OwnsLL w4 w.heap.size 40 3 v4 (gcells G ++ [intsV [k]]) := by
        refine ownsLL_pushRow (u0 := .slice (some ⟨wr.heap.size, 0, none⟩) 1 1) (by decide) (by rw [gcells_length]; exact (HO1.out.alloc (.cells #[.int .i64 (k : Int)] 3)).alloc (.cells #[.slice (some ⟨wr.heap.size, 0, none⟩) 1 1] 40)) o2 (fun j u l hu hl => ((o3 j u l hu hl).alloc _).alloc _) o4 ?_ ?_ (by rw [gcells_length]; simpa using hown4) hgrow4
        ·refine ⟨rfl, .inr ⟨wr.heap.size, 1, #[.int .i64 (k : Int)], rfl, HX2.out.size, (Blk.new wr #[.int .i64 (k : Int)] 3 rfl).alloc _, by simp [intsV], by unfold maxLen; omega, rfl, rfl⟩⟩
        ·intro j u g hu hg hne
         have hjl2 : j < (gcells G).length := by have := (List.getElem?_eq_some_iff.1 hu).1; omega
         have := ((o3 j u _ hu (List.getElem?_eq_getElem hjl2)).lt g hg).2
         simp [Value.ownBlock] at hne
         omega
       have HLL := Lib.hid hLL
       have HX4 := Lib.hid (show Ext w w4 from (((show Below w.heap.size w wr from HX2.out).alloc HX2.out.size _).alloc (by have := HX2.out.size; simp; omega) _).grown hgrow4 (by have := HX2.out.size; simp; omega) (fun g hg => (HO1.out.lt g hg).1))
       clear hLL hgrow4 hown4 hat4 o2 o3 o4
       go_wp2_with fail
       go_roundw
       case rel =>
        refine ⟨k + 1, by omega, by go_num, ?_, HX4.out⟩
        have e : (gst K (k + 1)).2 = G ++ [[k]] := by
         simp only [gst, gstep]
         rw [← HT.out.1, ← HT.out.2, if_neg HMem.out]
        rw [e]
        simpa [gcells, intsV] using HLL.out
       case measure => simp [intOf]; omega
    ·have HYes := Lib.hid hyes
     clear hyes
     obtain ⟨l, hl⟩ : ∃ l, G[p]? = some l := ⟨_, List.getElem?_eq_getElem hp⟩
     have hll : l.length ≤ k := HG.out.2.2.2.1 l (List.mem_of_getElem? hl)
     obtain ⟨g, cap', vs, u, hv, o1, o2, o3, o4, o5, o6, o7, o8, o9, o10, o11⟩ := HOw2.out.at (n := p) (l := intsV l) (by simp [gcells, hl, intsV])
     rw [gcells_length] at hv o1
     simp only [Value.slice.injEq] at hv
     obtain ⟨rfl, -, rfl⟩ := hv
     have HL := Lib.hid hl
     have HO := Lib.hid (And.intro o1 (And.intro o2 (And.intro o3 (And.intro o4 o5))))
     have HO6 := Lib.hid o6
     have hpI : (p : Int) < (G.length : Int) := by omega
     have hpI0 : ¬ (p : Int) < 0 := by omega
     clear o1 o2 o3 o4 o5 o6 hl
     have hpp : (p : Int) + 1 < (G.length : Int) ∨ ¬ (p : Int) + 1 < (G.length : Int) := by omega
     rcases hpp with hpp | hpp
     all_goals
      go_wp2_with (at_builtin; go_must (refine wpList_push rfl _ _ 40 rfl w.heap.size 3 (.int .i64 0) 1 8 Tryz.underlying40 info3 rfl (by decide) u l.length (intsV l) rfl (by have h := HO6.out; rw [intsV_length] at h; exact h.alloc _) wr.heap.size 3 #[.int .i64 k] rfl (Blk.new _ _ _ (by simp)) rfl ?_ ?_ ?_ ?_ ?_))
      ·rfl
      ·unfold maxLen; omega
      ·omega
      ·have := HX2.out.size; simp; omega
      ·intro v' w5 hown' hgrow hat
       obtain ⟨o1, o2, o3, o4, o5⟩ := HO.out
       have hgr := OwnsLL.grow (eo := 40) (ei := 3) (L := gcells G) (cap := cap) (n := p) (g := g) (x := .int .i64 k) (l := intsV l) (by decide) (by rw [gcells_length]; exact o1.alloc (.cells #[.int .i64 (k : Int)] 3)) o2 (fun j u l hu hl => (o3 j u l hu hl).alloc _) o4 o5 (by simp [gcells, HL.out, intsV]) (by rw [intsV_length]; simpa using hown') hgrow (by simpa using hat)
       obtain ⟨ao, cc, rfl, hcc⟩ := ownsRow_slice hown'
       obtain ⟨hll2, c5, f5⟩ := hgr
       have HLL := Lib.hid hll2
       have HXn := Lib.hid (show Ext w (w5.setCell ⟨g, p, none⟩ (.slice ao (l.length + 1) cc)) from Below.setCell ((((show Below w.heap.size w wr from HX2.out).alloc HX2.out.size _).grown hgrow (by have := HX2.out.size; simp; omega) (fun g hg => (HO6.out.lt g hg).1))) o9 _)
       clear hll2 hgrow hown' o1 o2 o3 o4 o5 hat
       go_wp2_with fail
       go_roundw
       case rel =>
        refine ⟨k + 1, by omega, by go_num, ?_, HXn.out⟩
        have e : (gst K (k + 1)).2 = G.set p (l ++ [k]) := by
         have hmem : K k ∈ T := List.mem_of_getElem? HYes.out
         simp only [gst, gstep]
         rw [← HT.out.1, ← HT.out.2, if_pos hmem, idx_nodup _ _ _ HG.out.1 HYes.out]
         simp [List.getD_eq_getElem?_getD, HL.out]
        have e2 : gcells (G.set p (l ++ [k])) = (gcells G).set p (intsV l ++ [.int .i64 (k : Int)]) := by simp [gcells, List.map_set, intsV]
        rw [e, e2]
        simpa [gcells_length] using HLL.out
       case measure => simp [intOf]; omega
  ·obtain rfl : k = R.length := by omega
   have hltI : ¬ (R.length : Int) < (R.length : Int) := by omega
   go_wp2_with fail
   go_ret
   exact ⟨_, rfl, ownsLL_reads HOw.out, HX.out⟩
end Go.Proofs.YtipokgedmfnlaaaGreatDoor

namespace Go.Proofs.YtipokgedmfnlaaaGreatDoor
open Go.RowKit Go.Lib
set_option maxRecDepth 100000

set_option maxHeartbeats 16000000 in
theorem law_groups (v cv : Value) (R : List (List V3)) (n : Nat) (xs : Nat → Int) (w : World) (hR : RowsAt w v R) (hV : ∀ r ∈ R, ∀ y ∈ r, InV y) (hI : IntsAt w cv n xs) (hG : Glob w) :
  Calls Tryz.prog 4 #[v, cv] w fun e w' => e = .returned (.bool true) ∧ Below w.heap.size w w' := by
 have mixed : Tryz.prog.follows .mixedOrders = true := by kernel_rfl
 have HR := Lib.hid hR
 have HG := Lib.hid hG
 have HV := Lib.hid hV
 have HI := Lib.hid hI
 obtain ⟨ar, cr, hv, hcr, _, hcell⟩ := id hR
 obtain ⟨ac, cc, hcv, hcc, _⟩ := id hI
 have HCell := Lib.hid hcell
 clear hR hG hV hI hcell
 subst hv hcv
 go_enter Tryz.func4, Tryz.ntmps4
 go_wp2_with fail
 refine Calls.mono (colls_any _ n xs w HI.out) ?_
 rintro e w1 ⟨⟨va, vb, L, rfl, ho, hp, hat, hlen⟩, hb1⟩
 obtain ⟨aa, ca, rfl, hca⟩ := ownsRow_slice ho
 obtain ⟨ab, cb, rfl, hcb⟩ := ownsRow_slice hp
 have HX1 := Lib.hid (show Ext w w1 from hb1)
 have HA := Lib.hid (collsW_own ho hat)
 have HB := Lib.hid (collsRAt_own hp hat)
 have HCh := Lib.hid (fsL_chain hat)
 clear ho hp hat hb1 hca hcb hlen
 go_simp
 repeat (first | go_values | go_skip | go_guarded | go_step | go_upon)
 refine Calls.mono (few_any _ R w1 (HR.out.ext HX1.out)) ?_
 rintro e w3 ⟨⟨b, rfl, hfew⟩, rfl⟩
 cases b
 ·clear hfew
  go_wp2_with fail
  refine Calls.mono (awake23 _) ?_
  rintro e w3 ⟨rfl, hb3⟩
  have HX3 := Lib.hid (Ext.trans HX1.out hb3)
  clear hb3
  go_wp2_with fail
  go_ret
  exact ⟨rfl, HX3.out⟩
 have HFew := Lib.hid (hfew rfl)
 clear hfew
 have h30 : R.length ≤ 30 := HFew.out.1
 go_wp2_with fail
 go_loopw [8] (fun i wr => ∃ k : Nat, 1 ≤ k ∧ (k ≤ R.length ∨ R.length = 0) ∧ i = .int .i64 k ∧ (∀ r ∈ R.take k, r.length = (R.getD 0 []).length) ∧ Ext w1 wr) (fun i _ => R.length + 1 - (intOf i).toNat)
 case atStart => exact ⟨1, Nat.le_refl _, by omega, rfl, fun r hr => by
  cases R with
  | nil => simp at hr
  | cons a R => simp at hr; subst hr; rfl, Ext.refl _⟩
 case round =>
  obtain ⟨k, hk1, hk, rfl, hall, hx⟩ := hrel
  have HAll := Lib.hid hall
  have HX := Lib.hid hx
  clear hall hx
  by_cases hlt : k < R.length
  ·have hltI : (k : Int) < (R.length : Int) := by omega
   have h0I : (0 : Int) < (R.length : Int) := by omega
   obtain ⟨g, o, rfl, hg, hcl⟩ := HCell.out (by omega)
   obtain ⟨u, hu, a2, c2, rfl, hc2, _⟩ := hcl k R[k] (List.getElem?_eq_getElem hlt)
   obtain ⟨u0, hu0, a3, c3, rfl, hc3, _⟩ := hcl 0 R[0] (List.getElem?_eq_getElem (by omega))
   have HTk := Lib.hid (show R.take (k + 1) = R.take k ++ [R[k]] by rw [List.take_succ_eq_append_getElem hlt])
   have h00 : R.getD 0 [] = R[0] := by simp [List.getD_eq_getElem?_getD, show 0 < R.length by omega]
   rw [h00] at HAll
   have cu := ((Ext.trans HX1.out HX.out).cell (p := ⟨g, o + k, none⟩) hg).trans hu
   have cu0 := ((Ext.trans HX1.out HX.out).cell (p := ⟨g, o + 0, none⟩) hg).trans hu0
   rw [Nat.add_zero] at cu0
   generalize R[k] = r at cu hc2 HTk
   generalize hr0 : R[0] = r0 at cu0 hc3 HAll h00
   clear hcl hu hu0 hr0
   by_cases h1 : r.length = r0.length
   ·have h1b : ((r.length : Int) != (r0.length : Int)) = false := by rw [bne_eq_false_iff_eq]; omega
    go_wp2_with fail
    go_big_region_o
    go_wp2_with fail
    go_roundw
    case rel => exact ⟨k + 1, by omega, by omega, by go_num, fun y hy => by
     rw [h00]
     rw [HTk.out, List.mem_append, List.mem_singleton] at hy
     rcases hy with hy | rfl
     ·exact HAll.out y hy
     ·exact h1, ⟨HX.out.os, HX.out.tape, HX.out.output, HX.out.size, HX.out.block⟩⟩
    case measure => simp [intOf]; omega
   ·have h1b : ((r.length : Int) != (r0.length : Int)) = true := by rw [bne_iff_ne]; omega
    go_wp2_with fail
    go_big_region_o
    go_wp2_with fail
    refine Calls.mono (awake23 _) ?_
    rintro e w3 ⟨rfl, hb3⟩
    have HX3 := Lib.hid (Ext.trans HX1.out (Ext.trans (show Ext w1 wr.drew from ⟨HX.out.os, HX.out.tape, HX.out.output, HX.out.size, HX.out.block⟩) hb3))
    clear hb3
    go_wp2_with fail
    go_ret
    exact ⟨rfl, HX3.out⟩
  ·have hltI : ¬ (k : Int) < (R.length : Int) := by omega
   have HOne := Lib.hid (show ∀ r ∈ R, r.length = (R.getD 0 []).length from fun r hr => HAll.out r (by rw [List.take_of_length_le (by omega)]; exact hr))
   clear HAll
   have e1 := Ext.trans HX1.out HX.out
   have hKey : ∀ a b, a < R.length → b < R.length → (keyN L R a = keyN L R b ↔ ordL (fsL L) (fun _ => false) 0 (R.getD a []) (R.getD b []) = 0) := fun a b ha hb => by
    have i1 : R.getD a [] ∈ R := by simp [List.getD_eq_getElem?_getD, ha]
    have i2 : R.getD b [] ∈ R := by simp [List.getD_eq_getElem?_getD, hb]
    exact keyK_iff HA.out ((HOne.out _ i1).trans (HOne.out _ i2).symm) (HFew.out.2 _ i1).1 (HV.out _ i1) (HV.out _ i2)
   have HKey := Lib.hid hKey
   have KG := Lib.hid (groups5_any _ _ R L wr (HR.out.ext e1) HFew.out (HA.out.ext HX.out) fun W hW => HG.out.keep (Ext.trans e1 hW))
   clear e1 hKey
   go_wp2_with fail
   refine Calls.mono KG.out ?_
   rintro e w7 ⟨vg, rfl, hrg, hb7⟩
   have HX7 := Lib.hid (Ext.trans HX.out hb7)
   have HRg := Lib.hid hrg
   obtain ⟨ag, cg, rfl, hcg, hallg⟩ := readsLL_at hrg
   have HAg := Lib.hid hallg
   clear hrg hb7 KG hallg
   go_wp2_with fail
   refine Calls.mono (refgroups_any _ _ R L.length (R.getD 0 []).length (fsL L) (keyN L R) w7 (HR.out.ext (Ext.trans HX1.out HX7.out)) HFew.out (HB.out.ext HX7.out) HCh.out HOne.out HKey.out) ?_
   rintro e w8 ⟨vw, rfl, hrw, hb8⟩
   obtain ⟨aw, cw, rfl, hcw, hallw⟩ := readsLL_at hrw
   have HAw := Lib.hid hallw
   have HX78 := Lib.hid (show Ext w7 w8 from hb8)
   have HX8 := Lib.hid (Ext.trans HX1.out (Ext.trans HX7.out hb8))
   have HX18 := Lib.hid (Ext.trans HX7.out hb8)
   clear hrw hb8 hallw HRg
   have HFst := Lib.hid (gst_first (keyN L R) R.length)
   have hGl := (gst_ok (keyN L R) R.length).2.2.1
   rw [(gst_ok (keyN L R) R.length).2.1] at hGl
   have hGm := (gst_ok (keyN L R) R.length).2.2.2.1
   have KD := Lib.hid (fun W (hW : Ext w8 W) => distinct_any (.slice ar R.length cr) (.slice aa L.length ca) R L W (HR.out.ext (Ext.trans HX8.out hW)) HFew.out (HA.out.ext (Ext.trans HX18.out hW)) fun W2 h2 => HG.out.keep (Ext.trans HX8.out (Ext.trans hW h2)))
   generalize (gst (keyN L R) R.length).2 = G at HAg HAw HFst hGl hGm KD hcg hcw
   generalize (gst (keyN L R) R.length).1 = T at HFst
   have hlenb : ((G.length : Int) != (G.length : Int)) = false := by simp
   go_wp2_with fail
   go_loopw [11, 12] (fun o i wx => ∃ k : Nat, k ≤ G.length ∧ i = .int .i64 k ∧ wx.ownsRow w8.heap.size 3 1 o k (intsV ((firsts G).take k)) ∧ Ext w8 wx) (fun _ i _ => G.length - (intOf i).toNat)
   case atStart => exact ⟨0, Nat.zero_le _, rfl, World.ownsRow_nil _ _ _ _, Ext.refl _⟩
   case round =>
    obtain ⟨k, hk, rfl, hown, hx⟩ := hrel
    have HOw := Lib.hid hown
    have HXx := Lib.hid hx
    clear hown hx
    by_cases hlt : k < G.length
    ·have hltI : (k : Int) < (G.length : Int) := by omega
     have hgk := List.getElem?_eq_getElem hlt
     have hgm := hGm _ (List.getElem_mem hlt)
     obtain ⟨f, t, hft, hf, _⟩ := HFst.out k _ hgk
     rw [hft] at hgk hgm
     obtain ⟨g, u, rfl, hg, hcu, hru⟩ := HAg.out k _ hgk
     obtain ⟨g2, u2, rfl, hg2, hcu2, hru2⟩ := HAw.out k _ hgk
     have HSn := Lib.hid (firsts_snoc G k f t hgk)
     have KS := Lib.hid (fun W (hW : Ext wr W) => sameints_any u u2 (f :: t) W (hru.ext (Ext.trans HX78.out (Ext.trans HXx.out hW))) (hru2.ext (Ext.trans HXx.out hW)) (by omega))
     rcases hru with ⟨_, h0⟩ | ⟨g3, cc3, rfl, hc3, hcell3⟩
     ·simp [intsV] at h0
     rcases hru2 with ⟨_, h0⟩ | ⟨g4, cc4, rfl, hc4, hcell4⟩
     ·simp [intsV] at h0
     have hc0 := hcell4 0 _ rfl
     have hg4 := World.block_lt_of_cell? w8 _ hc0
     rw [intsV_length, List.length_cons] at hc3 hc4 hcu hcu2 KS
     have HF := Lib.hid (show ∀ W, Ext wr W → W.cell? ⟨g, k, none⟩ = some (.slice (some ⟨g3, 0, none⟩) (t.length + 1) cc3) ∧ W.cell? ⟨g2, k, none⟩ = some (.slice (some ⟨g4, 0, none⟩) (t.length + 1) cc4) from fun W hW =>
      ⟨((Ext.trans HX78.out (Ext.trans HXx.out hW)).cell (p := ⟨g, k, none⟩) hg).trans hcu, ((Ext.trans HXx.out hW).cell (p := ⟨g2, k, none⟩) hg2).trans hcu2⟩)
     have HC0 := Lib.hid (show ∀ W, Ext wr W → W.cell? ⟨g4, 0, none⟩ = some (.int .i64 (f : Int)) from fun W hW => ((Ext.trans HXx.out hW).cell (p := ⟨g4, 0, none⟩) hg4).trans hc0)
     have hposI : (0 : Int) < (t.length : Int) + 1 := by omega
     clear hcell3 hcell4 hcu hcu2 hc0 hgk hft hgm
     obtain ⟨ao, cap0, ho, hcap0⟩ := ownsRow_slice HOw.out
     subst ho
     go_wp2_with fail
     refine wp_par 10 (fun
       | 0 => fun v _ => v = .slice (some ⟨g, 0, none⟩) G.length cg
       | 1 => fun v _ => v = .int .i64 (k : Int)
       | 2 => fun v _ => v = .pointer (some ⟨g, k, none⟩)
       | 3 => fun v _ => v = .slice (some ⟨g3, 0, none⟩) (t.length + 1) cc3
       | 4 => fun v _ => v = .slice (some ⟨g2, 0, none⟩) G.length cw
       | 5 => fun v _ => v = .int .i64 (k : Int)
       | 6 => fun v _ => v = .pointer (some ⟨g2, k, none⟩)
       | 7 => fun v _ => v = .slice (some ⟨g4, 0, none⟩) (t.length + 1) cc4
       | 8 => fun v _ => v = .bool true
       | 9 => fun v _ => v = .bool false
       | _ => fun _ _ => True) (by kernel_rfl) (by kernel_rfl) (by kernel_rfl) ?_ ?_
     ·simp (maxSteps := 20000000) only [List.take_succ_cons, List.take_zero, ParAll, Act.put, List.setIfInBounds_toArray, List.set_cons_succ, List.set_cons_zero]
      refine ⟨?_, ?_, ?_, ?_, ?_, ?_, ?_, ?_, ?_, ?_, trivial⟩
      iterate 8
       next =>
        intro vals W hx hd
        have hW := HF.out W hx
        simp [PDeps, pdeps, Region.binds] at hd
        first
         | refine ParOb.plain rfl ?_
         | refine ParOb.wanted (by simp [Region.wanted, yielded, hd]) ?_
        go_simp
        exact ParPost.same fun _ _ => rfl
      ·intro vals W hx hd
       have hW := HF.out W hx
       simp [PDeps, pdeps, Region.binds] at hd
       first
        | refine ParOb.plain rfl ?_
        | refine ParOb.wanted (by simp [Region.wanted, yielded, hd]) ?_
       go_simp
       refine Calls.mono (KS.out W hx) ?_
       rintro e w9 ⟨rfl, hb9⟩
       exact ⟨_, rfl, hb9, fun _ _ => rfl⟩
      ·intro vals W hx hd
       have hW := HF.out W hx
       simp [PDeps, pdeps, Region.binds] at hd
       first
        | refine ParOb.plain rfl ?_
        | refine ParOb.wanted (by simp [Region.wanted, yielded, hd]) ?_
       go_simp
       exact ParPost.same fun _ _ => rfl
     intro vals W hx hf
     simp (maxSteps := 20000000) only [ParFacts, List.take_succ_cons, List.take_zero, and_true] at hf
     simp (maxSteps := 20000000) only [List.drop_succ_cons, List.drop_zero, List.take_succ_cons, List.take_zero, ParEnd, Act.put, List.setIfInBounds_toArray, List.set_cons_succ, List.set_cons_zero, hf]
     clear hf
     have d1 := (HF.out W hx).2
     have d2 := HC0.out W hx
     have HOx := Lib.hid (ownsRow_ext HOw.out hx)
     have HXy := Lib.hid (Ext.trans HXx.out hx)
     clear hx HF HC0 KS
     go_wp2_with (at_builtin; refine wpList_push rfl _ _ _ rfl w8.heap.size 3 (.int .i64 0) 1 8 Tryz.underlying40 infoInt1 rfl (by decide) (.slice ao k cap0) k (intsV ((firsts G).take k)) rfl (HOx.out.alloc _) W.heap.size 3 #[.int .i64 f] rfl (Blk.new _ _ _ rfl) rfl (by simp [Value.oneCell']) (by unfold maxLen; omega) (by omega) (by have := HXy.out.size; simp <;> omega) ?_; intro v5 w5 hown hgr5 hat; have HX5 := Lib.hid (ext_own HXy.out HOx.out hgr5); obtain ⟨g, cap, rfl⟩ := own_form hown; have HO5 := Lib.hid hown; clear hown hgr5 hat)
     refine ⟨⟨k + 1, by omega, by go_num, ?_, HX5.out⟩, by simp [intOf]; omega⟩
     rw [HSn.out, intsV_snoc]
     simpa using HO5.out
    ·obtain rfl : k = G.length := by omega
     have hltI : ¬ (G.length : Int) < (G.length : Int) := by omega
     have KD2 := Lib.hid (KD.out wr HXx.out)
     go_wp2_with fail
     refine Calls.mono KD2.out ?_
     rintro e w9 ⟨vd, rfl, hrd, hb9⟩
     have ht : (firsts G).take G.length = firsts G := List.take_of_length_le (by rw [firsts, List.length_map]; exact Nat.le_refl _)
     have hown := HOw.out
     rw [ht] at hown
     have KS := Lib.hid (sameints_any _ _ (firsts G) w9 hrd ((ownsRow_reads hown).ext hb9) (by rw [firsts, List.length_map]; omega))
     obtain ⟨ad, cd, rfl, -⟩ := intsAt hrd
     obtain ⟨ao, cap0, ho, hcap0⟩ := ownsRow_slice HOw.out
     subst ho
     have HX9 := Lib.hid (Ext.trans HX8.out (Ext.trans HXx.out hb9))
     clear hrd hb9 hown
     go_wp2_with fail
     refine Calls.mono KS.out ?_
     rintro e w10 ⟨rfl, hb10⟩
     have HX10 := Lib.hid (Ext.trans HX9.out hb10)
     clear hb10
     go_wp2_with fail
     refine Calls.mono (awake23 _) ?_
     rintro e w11 ⟨rfl, hb11⟩
     have HX11 := Lib.hid (Ext.trans HX10.out hb11)
     clear hb11
     go_wp2_with fail
     go_ret
     exact ⟨rfl, HX11.out⟩
end Go.Proofs.YtipokgedmfnlaaaGreatDoor

namespace Go.Proofs.YtipokgedmfnlaaaGreatDoor.execGroups
open Go.ChangeShapes Go.WideShapes Go.ChangeAt Go.RowKit Go.ChangeMaps bindFrame
set_option maxRecDepth 100000

theorem contract (H : Type) (enc : TypeId × Value → H) (W : World) (base : Nat) (args : Array Value) (ds gs : List (DataW H)) (before : List MemPlace)
  (hval : ∀ (j : Nat) t v, Tryz.f4.params[j]? = some t → args[j]? = some v → Value.okWide Tryz.prog W .any base t v)
  (hW : DataW.Whole enc Tryz.prog Tryz.f4.params.toList Rows.execGroupsSpec.vars false W args.toList ds gs before) (hG : Glob W) :
  Calls Tryz.prog 4 args W fun e W' => ∃ v, e = .returned v ∧ Rows.execGroupsSpec.post enc Tryz.prog Tryz.f4 false true false false W args v W' := by
 have hW' := hW
 obtain ⟨p, q, hA0, hV, rfl, hfz, hnd⟩ := hW
 have hA : DataW.TrodAll enc Tryz.prog W 0 (fun _ => true) true Tryz.f4.params.toList args.toList ds p := hA0
 rw [Tryz.params4] at hA hval
 obtain ⟨rfl, rfl⟩ := trodVars_none hV
 simp only [List.append_nil] at hW'
 have hlt : ∀ x ∈ p, x.block < W.heap.size := fun x hx => by simpa using hW'.lt x hx

 obtain ⟨v0, v1, d0, d1, p0, p1, rfl, rfl, hp, h0, h1⟩ := args2 hA
 have hlaw : Calls Tryz.prog 4 #[v0, v1] W fun e w' => e = .returned (.bool true) ∧ Below W.heap.size W w' := by
  clear hW' hlt hA0 hA hp hfz hnd
  obtain ⟨R0, rr0, ri0⟩ := open_rows (hval 0 22 v0 rfl rfl) h0
  obtain ⟨n1, xs1, ii1⟩ := open_intsAt (hval 1 40 v1 rfl rfl) h1
  exact law_groups v0 v1 R0 n1 xs1 W rr0 ri0 ii1 hG
 refine hlaw.mono fun e W' ⟨he, hb⟩ => ?_
 subst he
 exact ⟨_, rfl, _, [], _, [], p, [], hW', trodAll_mk1 (shut_bool Tryz.underlying4 _), trodAll_keep laidOut (by kernel_rfl) hA0 hb hlt, rfl, hb.frame _, fun h => by cases h⟩

theorem kIn : (Rows.execGroupsRow.inPlace == Tryz.pinned.checked.prog.inPlace 4) = true := by kernel_rfl
theorem kUn : (Rows.execGroupsRow.unfollowed == Tryz.pinned.checked.prog.unfollowed 4) = true := by kernel_rfl
theorem kRe : (Rows.execGroupsRow.recurses == Tryz.pinned.checked.prog.recurses 4) = true := by kernel_rfl
theorem kNa : (Rows.execGroupsRow.named == Tryz.pinned.checked.prog.varsNamed 4) = true := by kernel_rfl
theorem kGo : false = Rows.execGroupsRow.goesBy Tryz.pinned.checked.prog := by kernel_rfl
theorem joined : joinedFacts Tryz.pinned.checked.prog 4 Tryz.f4 (OpenSpec.ofChange Rows.execGroupsSpec).bare Rows.execGroupsRow = true := by
 unfold joinedFacts
 simp only [Bool.and_eq_true]
 exact ⟨⟨⟨⟨⟨⟨⟨⟨⟨⟨⟨⟨⟨⟨⟨⟨⟨⟨⟨⟨⟨⟨⟨⟨⟨⟨⟨⟨⟨⟨⟨by kernel_rfl, by kernel_rfl⟩, by kernel_rfl⟩, by kernel_rfl⟩, by kernel_rfl⟩, by kernel_rfl⟩, by kernel_rfl⟩, by kernel_rfl⟩, by kernel_rfl⟩, kIn⟩, kUn⟩, kRe⟩, kNa⟩, by kernel_rfl⟩, by kernel_rfl⟩, by kernel_rfl⟩, by kernel_rfl⟩, by kernel_rfl⟩, by kernel_rfl⟩, by kernel_rfl⟩, by kernel_rfl⟩, by kernel_rfl⟩, by kernel_rfl⟩, by kernel_rfl⟩, by kernel_rfl⟩, by kernel_rfl⟩, by kernel_rfl⟩, by kernel_rfl⟩, by kernel_rfl⟩, by kernel_rfl⟩, by kernel_rfl⟩, by kernel_rfl⟩

theorem reads (os : Os) {H : Type} (enc : TypeId × Value → H) : ∃ places, DataW.whole enc Tryz.prog ((World.laidAll Tryz.prog os Rows.execGroupsRow.laid).forCall (fun _ _ => 0) ⟨#[], #[.slice none 0 0, .slice none 0 0], []⟩).memory Tryz.f4.params.toList Rows.execGroupsSpec.vars false (#[.slice none 0 0, .slice none 0 0] : Array Value).toList 8 = some ([.nil, .nil], [], places) :=
 ⟨[], by kernel_rfl⟩

theorem lifted (os : Os) (started : os.Started) (H : Type) (enc : TypeId × Value → H) (F : Stop.Interp) :
  ReturnsInHanded {} Tryz.checked os 4 .any ((OpenSpec.ofChange Rows.execGroupsSpec).preRow enc Tryz.prog Tryz.f4 Rows.execGroupsRow.domain false Rows.execGroupsRow.laid) (((OpenSpec.ofChange Rows.execGroupsSpec).at F).post enc Tryz.prog Tryz.f4 false true false false) := by
 obtain ⟨places, hx⟩ := reads os enc
 refine returnsInHanded_of_row (C := Tryz.checked) (s := OpenSpec.ofChange Rows.execGroupsSpec) own started (by kernel_rfl) Tryz.func4
  (witness os #[.slice none 0 0, .slice none 0 0] (by kernel_rfl) (OpenSpec.preRow_of_cond 8 hx (by kernel_rfl) (fun k hk => by cases hk) (by kernel_rfl) (laid_met os _))) ?_
 intro W base args ds gs before hval hW _ _ _ hL hsh _
 exact contract H enc W base args ds gs before hval hW (glob_of hL hsh)

theorem said : Rows.ExecGroupsSaid :=
 OpenClaim.holds_of_cond 4 Tryz.f4 rfl rfl rfl rfl rfl rfl rfl ⟨rfl, rfl, rfl, rfl, rfl⟩ rfl rfl rfl rfl rfl (by kernel_rfl) Tryz.func4 joined
  (of_decide_eq_true (by kernel_rfl)) (by unfold Func.isWrapper; first | (rw [if_pos (by decide +kernel)]; kernel_rfl) | (rw [if_neg (by decide +kernel)]; exact ⟨rfl, rfl⟩))
  (fun os started H enc _ F => by rw [OpenClaim.pre_eq_preRow]; exact lifted os started H enc F)

theorem plain (f : FuncId) (fn : Func) (hf : Tryz.pinned.checked.prog.funcNamed Rows.execGroupsRow.func = some f) (hfn : Tryz.pinned.checked.prog.funcs[f]? = some fn) :
  true = Tryz.pinned.checked.prog.looks [] ∧ ∀ (j : Nat) t, fn.params[j]? = some t → Tryz.pinned.checked.prog.wantsStandIn t = false := by
 obtain rfl : f = 4 := Option.some.inj ((show Tryz.prog.funcNamed Rows.execGroupsRow.func = some 4 by kernel_rfl).symm.trans hf) |>.symm
 obtain rfl : fn = Tryz.f4 := (Option.some.inj (Tryz.func4.symm.trans hfn)).symm
 refine ⟨by kernel_rfl, fun j t ht => ?_⟩
 rw [Tryz.params4] at ht
 exact all_of (show #[22, 40].all (fun t => !Tryz.prog.wantsStandIn t) = true by kernel_rfl) (Array.mem_of_getElem? ht)

/-- THE CARD. -/
theorem card : Rows.ExecGroupsCardSaid :=
 Claim7.holds_tied_plain_at .later [] _ _ _ _ said (fun _ h => by cases h) (by kernel_rfl) (fun _ h => by cases h) execGroups_row_tie rfl ⟨rfl, rfl⟩ (by kernel_rfl) rfl plain kGo
end Go.Proofs.YtipokgedmfnlaaaGreatDoor.execGroups
