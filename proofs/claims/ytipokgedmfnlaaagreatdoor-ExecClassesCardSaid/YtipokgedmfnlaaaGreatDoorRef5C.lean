/-
  The document's tables: an entry is put (Table.put).
-/
import Derived.Test.YtipokgedmfnlaaaGreatDoorRef5E
import Derived.Outline
namespace Go.Proofs.YtipokgedmfnlaaaGreatDoor
open Go.RowKit Go.Lib
set_option maxRecDepth 100000

theorem own_cap {w : World} {B size n m g c : Nat} {e : TypeId} {xs : List Value} (h : w.ownsRow B e size (.slice (some ⟨g, 0, none⟩) m c) n xs) : n ≤ c := by
  obtain ⟨ao, cap, e1, hc⟩ := ownsRow_slice h
  simp only [Value.slice.injEq] at e1
  omega
def PutR (w : World) (L : List (Nat × List El)) (e : Ending) (w' : World) : Prop := (∃ v, e = .returned (.agg #[v]) ∧ EntsR w' v L) ∧ Below w.heap.size w w'
/-- Under way: the first k entries are taken over. -/
structure PtSt (W0 w : World) (L : List (Nat × List El)) (vs : List (Value × Value)) (c k : Nat) (o : Value) : Prop where
  le : k ≤ L.length
  row : w.ownsRow W0.heap.size 241 2 o k (flatE (vs.take k))
  low : ∀ j (h : j < L.length), j < k → L[j].1 < c
  ext : Ext W0 w
set_option maxHeartbeats 16000000 in
theorem putR_any (v sv ev : Value) (L : List (Nat × List El)) (c : Nat) (es : List El) (w : World) (hL : EntsR w v L) (hs : SeqAt w sv c) (he : ElsR w ev es) (hn : L.length ≤ 1000) (hes : es.length ≤ 8) :
    Calls Tryz.prog 80 #[.agg #[v], sv, ev] w (PutR w (insE c es L)) := by
  obtain ⟨vs, hrd, hvl, hent⟩ := hL
  have HEnt := Lib.hid hent
  have HS := Lib.hid hs
  obtain ⟨gs, ks, rfl, hks, hcs⟩ := hs
  have hgs := World.block_lt_of_cell? w _ hcs
  have HCs := Lib.hid (show ∀ W, Ext w W → W.cell? ⟨gs, 0, none⟩ = some (.int .i64 (c : Int)) from fun W hW => by rw [hW.cell (p := ⟨gs, 0, none⟩) hgs]; exact hcs)
  have HEv := Lib.hid he
  have hnI : (L.length : Int) ≤ 1000 := by omega
  clear hent hcs he
  go_enter Tryz.func80, Tryz.ntmps80
  go_wp2_with fail
  have hQ : Blk ((w.alloc (.cells #[v] 28)).alloc (.cells #[.slice none 0 0] 28)) w.heap.size #[v] 28 := (Blk.new w _ _ rfl).alloc _
  have hR : Blk ((w.alloc (.cells #[v] 28)).alloc (.cells #[.slice none 0 0] 28)) (w.heap.size + 1) #[.slice none 0 0] 28 := Blk.new _ _ _ (by simp)
  have hx0 : Ext w ((w.alloc (.cells #[v] 28)).alloc (.cells #[.slice none 0 0] 28)) := ((Ext.refl w).alloc _).alloc _
  generalize ((w.alloc (.cells #[v] 28)).alloc (.cells #[.slice none 0 0] 28)) = W0 at hQ hR hx0 ⊢
  have HQ := Lib.hid hQ
  have HR := Lib.hid hR
  have HX0 := Lib.hid hx0
  clear hQ hR hx0
  rcases hrd with ⟨rfl, hn0, hv0⟩ | ⟨g, cap, rfl, hcap, hgl, hcell⟩
  · have hL0 : L = [] := List.eq_nil_of_length_eq_zero hn0
    subst hL0
    have hvs : vs = [] := List.eq_nil_of_length_eq_zero (by simpa using hvl)
    subst hvs
    have HRow := Lib.hid (World.ownsRow_nil W0 W0.heap.size 241 2)
    have HX2 := Lib.hid (Ext.refl W0)
    clear hv0 hn0 hvl
    go_loopw [7, 8] (fun o i wr => o = .slice none 0 0 ∧ i = .int .i64 0 ∧ W0 = wr) (fun _ _ _ => 0)
    case atStart => exact ⟨rfl, rfl, rfl⟩
    case round =>
      obtain ⟨rfl, rfl, hw0⟩ := hrel
      subst hw0
      have hql := HQ.out.lt
      obtain ⟨cq, fq⟩ := HQ.out.facts
      go_wp2_with (at_builtin; first
        | (refine wpList_appR rfl _ _ 40 rfl W0.heap.size 3 (.int .i64 0) 1 8 Tryz.underlying40 infoInt1 rfl (by decide) W0.heap.size 0 0 [] rfl (ownsRow_empty (Blk.new W0 #[] _ rfl) (Nat.le_refl _)) _ 1 [.int .i64 (c : Int)] rfl (.inr ⟨gs, ks, rfl, hks, by have := HX0.out.size; simp <;> omega, fun j u hu => by
              match j, hu with
              | 0, hu => rw [← Option.some.inj hu]; exact HCs.out _ (Ext.trans HX0.out ((Ext.refl _).alloc _))
              | j + 1, hu => simp at hu⟩) rfl (by simp [Value.oneCell']) (by decide) (by decide) (by simp) ?_; intro ga ka wa hva hga; have HVa := Lib.hid hva; have HXa := Lib.hid (ext_fresh hga); clear hva hga)
        | (refine wpList_appR rfl _ _ 160 rfl wa.heap.size 159 (.agg #[.int .i64 0, .int .i64 0, .int .i64 0, .bool false]) 4 32 Tryz.underlying160 infoElR rfl (by decide) wa.heap.size 0 0 [] rfl (ownsRow_empty (Blk.new wa #[] _ rfl) (Nat.le_refl _)) _ es.length (flatR es) rfl (HEv.out.ext (Ext.trans (Ext.trans HX0.out HXa.out) ((Ext.refl _).alloc _))) (flatR_length es) (flatR_one es) (by unfold maxLen; omega) (by omega) (by simp) ?_; intro gb kb wb hvb hgb; have HVb := Lib.hid hvb; have HXb := Lib.hid (ext_fresh hgb); clear hvb hgb)
        | (refine wpList_push rfl _ _ _ rfl W0.heap.size 241 (.agg #[.slice none 0 0, .slice none 0 0]) 2 48 Tryz.underlying26 infoEntry rfl (by decide) (.slice none 0 0) 0 (flatE (([] : List (Value × Value)).take 0)) rfl ((ownsRow_ext HRow.out (Ext.trans HXa.out HXb.out)).alloc _) wb.heap.size 241 _ rfl (Blk.new _ _ _ rfl) rfl (by simp [Value.oneCell']) (by unfold maxLen; omega) (by omega) (by have := HX2.out.size; have := HXa.out.size; have := HXb.out.size; simp <;> omega) ?_; intro v7 w7 hown hgr hat; obtain ⟨gv, cv, rfl⟩ := own_form hown; have HV7 := Lib.hid hown; have HX7 := Lib.hid (ext_own (Ext.trans HX2.out (Ext.trans HXa.out HXb.out)) HRow.out hgr); have HVa7 := Lib.hid (kept_other ((ownsRow_ext HVa.out HXb.out).alloc _) ((ownsRow_ext HRow.out (Ext.trans HXa.out HXb.out)).alloc _) (by decide) hgr); have HVb7 := Lib.hid (kept_other (HVb.out.alloc _) ((ownsRow_ext HRow.out (Ext.trans HXa.out HXb.out)).alloc _) (by decide) hgr); clear hown hgr hat; obtain ⟨cq7, fq7⟩ := (HQ.out.keep HX7.out).facts; have hql7 := (HQ.out.keep HX7.out).lt; obtain ⟨cr7, fr7⟩ := (HR.out.keep HX7.out).facts; have hrl7 := (HR.out.keep HX7.out).lt; have hcv : 1 ≤ cv := own_cap HV7.out)
        | (refine wpList_app_nil rfl _ _ 26 rfl 241 (.agg #[.slice none 0 0, .slice none 0 0]) 2 48 Tryz.underlying26 infoEntry gv 1 cv rfl rfl hcv ?_))
      refine bodyPost_ret (ret_tab rfl _ rfl rfl ((HR.out.keep HX7.out).set 0 _)) rfl ?_
      exact ⟨⟨_, rfl, ents_fin (L := []) (vs := []) (k := 0) (R := 0) (N := 0 + 1) HEnt.out rfl HR.out.lt (by omega) HVa7.out (Nat.le_refl _) HVb7.out HXa.out.size (Ext.trans HX0.out HX7.out) (by simpa [flatE] using HV7.out) (Nat.le_refl _) (Nat.le_refl _) rfl rfl⟩, (show Below w.heap.size w _ from Ext.trans HX0.out HX7.out).setCell (by simp) _⟩
  · have hcI : (L.length : Int) ≤ cap := by omega
    have HV := Lib.hid (show ∀ W, Ext w W → ∀ j (h : j < vs.length), W.cell? ⟨g, j * 2, none⟩ = some vs[j].1 ∧ W.cell? ⟨g, j * 2 + 1, none⟩ = some vs[j].2 from fun W hW j h =>
      ⟨by rw [hW.cell (p := ⟨g, j * 2, none⟩) hgl]; exact hcell _ _ (flatE_get vs j h).1, by rw [hW.cell (p := ⟨g, j * 2 + 1, none⟩) hgl]; exact hcell _ _ (flatE_get vs j h).2⟩)
    have HDr := Lib.hid (show ∀ R, R ≤ vs.length → ∀ W, Ext w W → ∀ (j : Nat) (u : Value), (flatE (vs.drop R))[j]? = some u → W.cell? ⟨g, R * 2 + j, none⟩ = some u from fun R hR W hW j u hu => by
      rw [flatE_drop vs R hR, List.getElem?_drop] at hu
      rw [hW.cell (p := ⟨g, R * 2 + j, none⟩) hgl]
      exact hcell _ u hu)
    have HVl := Lib.hid hvl
    clear hcell
    go_loopw [7, 8] (fun o i wr => ∃ k : Nat, i = .int .i64 k ∧ PtSt W0 wr L vs c k o) (fun _ i _ => L.length - (intOf i).toNat)
    case atStart => exact ⟨0, rfl, Nat.zero_le _, World.ownsRow_nil _ _ _ _, fun j h hj => absurd hj (Nat.not_lt_zero _), Ext.refl _⟩
    case round =>
      obtain ⟨k, rfl, hr⟩ := hrel
      have HSt := Lib.hid hr
      have hkle := hr.le
      have hq2 := HQ.out.keep hr.ext
      have hql := hq2.lt
      obtain ⟨cq, fq⟩ := hq2.facts
      clear hq2 hr
      by_cases hlt : k < L.length
      · have hk' : (k : Int) < L.length := by omega
        have hkv : k < vs.length := by omega
        have hxw : Ext w wr := Ext.trans HX0.out HSt.out.ext
        obtain ⟨c1, c2⟩ := HV.out wr hxw k hkv
        have hen := (HEnt.out k vs[k] L[k] (List.getElem?_eq_getElem hkv) (List.getElem?_eq_getElem hlt)).ext hxw
        obtain ⟨p1, hp1⟩ : ∃ p1, p1 = vs[k].1 := ⟨_, rfl⟩
        obtain ⟨p2, hp2⟩ : ∃ p2, p2 = vs[k].2 := ⟨_, rfl⟩
        unfold EntR at hen
        rw [← hp1] at c1 hen
        rw [← hp2] at c2 hen
        have HEn := Lib.hid hen
        have HEn0 := Lib.hid (show SeqAt w p1 L[k].1 from by rw [hp1]; exact (HEnt.out k vs[k] L[k] (List.getElem?_eq_getElem hkv) (List.getElem?_eq_getElem hlt)).1)
        have HXw := Lib.hid hxw
        have HP := Lib.hid (And.intro hp1 hp2)
        clear hen hxw hp1 hp2
        go_wp2_with fail
        refine (before_any p1 _ L[k].1 c _ HEn.out.1 (HS.out.ext HXw.out)).mono ?_
        rintro e w2 ⟨rfl, hb2⟩
        have hx2 : Ext W0 w2 := Ext.trans HSt.out.ext hb2
        have hql2 := (HQ.out.keep hx2).lt
        obtain ⟨cq2, fq2⟩ := (HQ.out.keep hx2).facts
        obtain ⟨d1, d2⟩ := HV.out w2 (Ext.trans HX0.out hx2) k hkv
        rw [← HP.out.1] at d1
        rw [← HP.out.2] at d2
        have HRow := Lib.hid (ownsRow_ext HSt.out.row hb2)
        have HX2 := Lib.hid hx2
        have hgl2 : g < w2.heap.size := Nat.lt_of_lt_of_le hgl (Ext.trans HX0.out hx2).size
        have HKv := Lib.hid hkv
        clear cq fq c1 c2 hql hb2 hx2
        generalize hd : decide (L[k].1 < c) = bl
        have HD := Lib.hid hd
        clear hd
        cases bl
        · have HX6 := Lib.hid (Ext.trans HX0.out HX2.out)
          obtain ⟨W6, hW6⟩ : ∃ W6, W6 = w2 := ⟨_, rfl⟩
          subst hW6
          go_wp2_with (at_builtin; first
            | (refine wpList_appR rfl _ _ 40 rfl W6.heap.size 3 (.int .i64 0) 1 8 Tryz.underlying40 infoInt1 rfl (by decide) W6.heap.size 0 0 [] rfl (ownsRow_empty (Blk.new W6 #[] _ rfl) (Nat.le_refl _)) _ 1 [.int .i64 (c : Int)] rfl (.inr ⟨gs, ks, rfl, hks, by have := HX6.out.size; simp <;> omega, fun j u hu => by
                  match j, hu with
                  | 0, hu => rw [← Option.some.inj hu]; exact HCs.out _ (Ext.trans HX6.out ((Ext.refl _).alloc _))
                  | j + 1, hu => simp at hu⟩) rfl (by simp [Value.oneCell']) (by decide) (by decide) (by simp) ?_; intro ga ka wa hva hga; have HVa := Lib.hid hva; have HXa := Lib.hid (ext_fresh hga); clear hva hga)
            | (refine wpList_appR rfl _ _ 160 rfl wa.heap.size 159 (.agg #[.int .i64 0, .int .i64 0, .int .i64 0, .bool false]) 4 32 Tryz.underlying160 infoElR rfl (by decide) wa.heap.size 0 0 [] rfl (ownsRow_empty (Blk.new wa #[] _ rfl) (Nat.le_refl _)) _ es.length (flatR es) rfl (HEv.out.ext (Ext.trans (Ext.trans HX6.out HXa.out) ((Ext.refl _).alloc _))) (flatR_length es) (flatR_one es) (by unfold maxLen; omega) (by omega) (by simp) ?_; intro gb kb wb hvb hgb; have HVb := Lib.hid hvb; have HXb := Lib.hid (ext_fresh hgb); clear hvb hgb)
            | (refine wpList_push rfl _ _ _ rfl W0.heap.size 241 (.agg #[.slice none 0 0, .slice none 0 0]) 2 48 Tryz.underlying26 infoEntry rfl (by decide) u7 k (flatE (vs.take k)) rfl ((ownsRow_ext HRow.out (Ext.trans HXa.out HXb.out)).alloc _) wb.heap.size 241 _ rfl (Blk.new _ _ _ rfl) rfl (by simp [Value.oneCell']) (by unfold maxLen; omega) (by omega) (by have := HX2.out.size; have := HXa.out.size; have := HXb.out.size; simp <;> omega) ?_; intro v7 w7 hown hgr hat; obtain ⟨gv, cv, rfl⟩ := own_form hown; have HV7 := Lib.hid hown; have HX7 := Lib.hid (ext_own (Ext.trans HX2.out (Ext.trans HXa.out HXb.out)) HRow.out hgr); have HVa7 := Lib.hid (kept_other ((ownsRow_ext HVa.out HXb.out).alloc _) ((ownsRow_ext HRow.out (Ext.trans HXa.out HXb.out)).alloc _) (by decide) hgr); have HVb7 := Lib.hid (kept_other (HVb.out.alloc _) ((ownsRow_ext HRow.out (Ext.trans HXa.out HXb.out)).alloc _) (by decide) hgr); clear hown hgr hat; obtain ⟨cq7, fq7⟩ := (HQ.out.keep HX7.out).facts; have hql7 := (HQ.out.keep HX7.out).lt; obtain ⟨f1, f2⟩ := HV.out w7 (Ext.trans HX0.out HX7.out) k hkv; rw [← HP.out.1] at f1; rw [← HP.out.2] at f2))
          refine (same_any p1 _ L[k].1 c w7 (HEn0.out.ext (Ext.trans HX0.out HX7.out)) (HS.out.ext (Ext.trans HX0.out HX7.out))).mono ?_
          rintro e w8 ⟨rfl, hb8⟩
          have HX8 := Lib.hid (Ext.trans HX7.out hb8)
          have HV8 := Lib.hid (ownsRow_ext HV7.out hb8)
          have HVa8 := Lib.hid (ownsRow_ext HVa7.out hb8)
          have HVb8 := Lib.hid (ownsRow_ext HVb7.out hb8)
          obtain ⟨cq8, fq8⟩ := (HQ.out.keep HX8.out).facts
          have hql8 := (HQ.out.keep HX8.out).lt
          have hnlt : ¬ L[k].1 < c := by simpa using HD.out
          have hins := insE_at c es L k hkle HSt.out.low (fun _ => hnlt)
          rw [dif_pos hlt] at hins
          generalize hs1 : decide (L[k].1 = c) = bl
          clear hb8 cq7 fq7 hql7 f1 f2
          cases bl
          · have hne : ¬ L[k].1 = c := by simpa using hs1
            rw [if_neg hne] at hins
            have HIns := Lib.hid hins
            clear hins hne hs1 hnlt
            go_wp2_with (at_builtin; refine wpList_appN rfl _ _ 26 rfl W0.heap.size 241 (.agg #[.slice none 0 0, .slice none 0 0]) 2 48 Tryz.underlying26 infoEntry rfl (by decide) (.slice (some ⟨gv, 0, none⟩) (k + 1) cv) (k + 1) _ rfl HV8.out g _ (L.length - (k)) _ (flatE (vs.drop (k))) rfl (by rw [flatE_length, List.length_drop, HVl.out]) (fun j u hj => by first | exact HDr.out (k) (by omega) w8 (Ext.trans HX0.out HX8.out) j u hj | (exfalso; rw [List.drop_eq_nil_of_le (by have := HVl.out; omega)] at hj; simp [flatE] at hj)) (flatE_one HEnt.out HVl.out (k)) (by unfold maxLen; omega) (by omega) HX8.out.size (by simp) ?_; intro g9 c9 w9 hown hgr; have HV9 := Lib.hid hown; have HX9 := Lib.hid (ext_own0 HX8.out HV8.out hgr); have HVa9 := Lib.hid (kept_other HVa8.out HV8.out (by decide) hgr); have HVb9 := Lib.hid (kept_other HVb8.out HV8.out (by decide) hgr); clear hown hgr; obtain ⟨cr9, fr9⟩ := (HR.out.keep HX9.out).facts; have hrl9 := (HR.out.keep HX9.out).lt)
            refine bodyPost_ret (ret_tab rfl _ rfl rfl ((HR.out.keep HX9.out).set 0 _)) rfl ?_
            exact ⟨⟨_, rfl, ents_fin (R := k) (N := k + 1 + (L.length - (k))) HEnt.out HVl.out HR.out.lt (by omega) HVa9.out HX2.out.size HVb9.out (Nat.le_trans HX2.out.size HXa.out.size) (Ext.trans HX0.out HX9.out) HV9.out hkle (by omega) rfl HIns.out⟩, (show Below w.heap.size w _ from Ext.trans HX0.out HX9.out).setCell (by simp) _⟩
          · have heq : L[k].1 = c := by simpa using hs1
            rw [if_pos heq] at hins
            have HIns := Lib.hid hins
            clear hins heq hs1 hnlt
            by_cases hce : cap = k + 1
            · skip
              go_wp2_with (at_builtin; refine wpList_appN rfl _ _ 26 rfl W0.heap.size 241 (.agg #[.slice none 0 0, .slice none 0 0]) 2 48 Tryz.underlying26 infoEntry rfl (by decide) (.slice (some ⟨gv, 0, none⟩) (k + 1) cv) (k + 1) _ rfl HV8.out g _ (L.length - (k + 1)) _ (flatE (vs.drop (k + 1))) rfl (by rw [flatE_length, List.length_drop, HVl.out]) (fun j u hj => by first | exact HDr.out (k + 1) (by omega) w8 (Ext.trans HX0.out HX8.out) j u hj | (exfalso; rw [List.drop_eq_nil_of_le (by have := HVl.out; omega)] at hj; simp [flatE] at hj)) (flatE_one HEnt.out HVl.out (k + 1)) (by unfold maxLen; omega) (by omega) HX8.out.size (by simp) ?_; intro g9 c9 w9 hown hgr; have HV9 := Lib.hid hown; have HX9 := Lib.hid (ext_own0 HX8.out HV8.out hgr); have HVa9 := Lib.hid (kept_other HVa8.out HV8.out (by decide) hgr); have HVb9 := Lib.hid (kept_other HVb8.out HV8.out (by decide) hgr); clear hown hgr; obtain ⟨cr9, fr9⟩ := (HR.out.keep HX9.out).facts; have hrl9 := (HR.out.keep HX9.out).lt)
              refine bodyPost_ret (ret_tab rfl _ rfl rfl ((HR.out.keep HX9.out).set 0 _)) rfl ?_
              exact ⟨⟨_, rfl, ents_fin (R := k + 1) (N := k + 1 + (L.length - (k + 1))) HEnt.out HVl.out HR.out.lt (by omega) HVa9.out HX2.out.size HVb9.out (Nat.le_trans HX2.out.size HXa.out.size) (Ext.trans HX0.out HX9.out) HV9.out hkle (by omega) rfl HIns.out⟩, (show Below w.heap.size w _ from Ext.trans HX0.out HX9.out).setCell (by simp) _⟩
            · skip
              go_wp2_with (at_builtin; refine wpList_appN rfl _ _ 26 rfl W0.heap.size 241 (.agg #[.slice none 0 0, .slice none 0 0]) 2 48 Tryz.underlying26 infoEntry rfl (by decide) (.slice (some ⟨gv, 0, none⟩) (k + 1) cv) (k + 1) _ rfl HV8.out g _ (L.length - (k + 1)) _ (flatE (vs.drop (k + 1))) rfl (by rw [flatE_length, List.length_drop, HVl.out]) (fun j u hj => by first | exact HDr.out (k + 1) (by omega) w8 (Ext.trans HX0.out HX8.out) j u hj | (exfalso; rw [List.drop_eq_nil_of_le (by have := HVl.out; omega)] at hj; simp [flatE] at hj)) (flatE_one HEnt.out HVl.out (k + 1)) (by unfold maxLen; omega) (by omega) HX8.out.size (by simp) ?_; intro g9 c9 w9 hown hgr; have HV9 := Lib.hid hown; have HX9 := Lib.hid (ext_own0 HX8.out HV8.out hgr); have HVa9 := Lib.hid (kept_other HVa8.out HV8.out (by decide) hgr); have HVb9 := Lib.hid (kept_other HVb8.out HV8.out (by decide) hgr); clear hown hgr; obtain ⟨cr9, fr9⟩ := (HR.out.keep HX9.out).facts; have hrl9 := (HR.out.keep HX9.out).lt)
              refine bodyPost_ret (ret_tab rfl _ rfl rfl ((HR.out.keep HX9.out).set 0 _)) rfl ?_
              exact ⟨⟨_, rfl, ents_fin (R := k + 1) (N := k + 1 + (L.length - (k + 1))) HEnt.out HVl.out HR.out.lt (by omega) HVa9.out HX2.out.size HVb9.out (Nat.le_trans HX2.out.size HXa.out.size) (Ext.trans HX0.out HX9.out) HV9.out hkle (by omega) rfl HIns.out⟩, (show Below w.heap.size w _ from Ext.trans HX0.out HX9.out).setCell (by simp) _⟩
        · have hlow : L[k].1 < c := by simpa using HD.out
          have htk : flatE (vs.take (k + 1)) = flatE (vs.take k) ++ [p1, p2] := by
            rw [List.take_add_one, List.getElem?_eq_getElem hkv, flatE_append, HP.out.1, HP.out.2]
            rfl
          have HTk := Lib.hid htk
          have HLow := Lib.hid hlow
          clear htk hlow hvl
          go_wp2_with (at_builtin; refine wpList_push rfl _ _ _ rfl W0.heap.size 241 (.agg #[.slice none 0 0, .slice none 0 0]) 2 48 Tryz.underlying26 infoEntry rfl (by decide) u7 k (flatE (vs.take k)) rfl (HRow.out.alloc _) w2.heap.size 241 #[p1, p2] rfl (Blk.new _ _ _ rfl) rfl (by simp; exact ⟨HEn.out.1.one, ReadsN.one HEn.out.2⟩) (by unfold maxLen; omega) (by omega) (by have := HX2.out.size; simp <;> omega) ?_; intro v5 w5 hown hgr hat)
          have HZ := Lib.hid (show PtSt W0 w5 L vs c (k + 1) v5 from ⟨by omega, by rw [HTk.out]; exact hown, fun j h hj => by
            rcases Nat.lt_or_ge j k with h2 | h2
            · exact HSt.out.low j h h2
            · have : j = k := by omega
              subst this
              exact HLow.out, show Below W0.heap.size W0 w5 from ((show Below W0.heap.size W0 w2 from HX2.out).alloc HX2.out.size _).grown hgr (by have := HX2.out.size; simp <;> omega) (fun k hk => by
            rcases HRow.out.2 with ⟨e, _⟩ | ⟨g', _, _, e, hB, _⟩
            · rw [e] at hk; simp [Value.ownBlock] at hk
            · rw [e] at hk; simp [Value.ownBlock] at hk; omega)⟩)
          clear hown hgr hat
          go_wp2_with fail
          go_roundw
          case rel => exact ⟨k + 1, by go_num, HZ.out⟩
          case measure => simp [intOf]; omega
      · have hkn : k = L.length := by omega
        have hkI : ¬ (k : Int) < L.length := by omega
        have hkI2 : (k : Int) ≤ L.length := by omega
        have HRow := Lib.hid HSt.out.row
        have HX2 := Lib.hid HSt.out.ext
        have HX6 := Lib.hid (Ext.trans HX0.out HX2.out)
        have hins := insE_at c es L k hkle HSt.out.low (fun h => absurd h hlt)
        rw [dif_neg hlt] at hins
        have HIns := Lib.hid (show insE c es L = L.take k ++ (c, es) :: L.drop k from by rw [hins, List.drop_eq_nil_of_le (by omega)])
        have HKn := Lib.hid hkn
        obtain ⟨W6, hW6⟩ : ∃ W6, W6 = wr := ⟨_, rfl⟩
        subst hW6
        clear hins hkn
        by_cases hce : cap = k
        · skip
          go_wp2_with (at_builtin; first
            | (refine wpList_appR rfl _ _ 40 rfl W6.heap.size 3 (.int .i64 0) 1 8 Tryz.underlying40 infoInt1 rfl (by decide) W6.heap.size 0 0 [] rfl (ownsRow_empty (Blk.new W6 #[] _ rfl) (Nat.le_refl _)) _ 1 [.int .i64 (c : Int)] rfl (.inr ⟨gs, ks, rfl, hks, by have := HX6.out.size; simp <;> omega, fun j u hu => by
                  match j, hu with
                  | 0, hu => rw [← Option.some.inj hu]; exact HCs.out _ (Ext.trans HX6.out ((Ext.refl _).alloc _))
                  | j + 1, hu => simp at hu⟩) rfl (by simp [Value.oneCell']) (by decide) (by decide) (by simp) ?_; intro ga ka wa hva hga; have HVa := Lib.hid hva; have HXa := Lib.hid (ext_fresh hga); clear hva hga)
            | (refine wpList_appR rfl _ _ 160 rfl wa.heap.size 159 (.agg #[.int .i64 0, .int .i64 0, .int .i64 0, .bool false]) 4 32 Tryz.underlying160 infoElR rfl (by decide) wa.heap.size 0 0 [] rfl (ownsRow_empty (Blk.new wa #[] _ rfl) (Nat.le_refl _)) _ es.length (flatR es) rfl (HEv.out.ext (Ext.trans (Ext.trans HX6.out HXa.out) ((Ext.refl _).alloc _))) (flatR_length es) (flatR_one es) (by unfold maxLen; omega) (by omega) (by simp) ?_; intro gb kb wb hvb hgb; have HVb := Lib.hid hvb; have HXb := Lib.hid (ext_fresh hgb); clear hvb hgb)
            | (refine wpList_push rfl _ _ _ rfl W0.heap.size 241 (.agg #[.slice none 0 0, .slice none 0 0]) 2 48 Tryz.underlying26 infoEntry rfl (by decide) u7 k (flatE (vs.take k)) rfl ((ownsRow_ext HRow.out (Ext.trans HXa.out HXb.out)).alloc _) wb.heap.size 241 _ rfl (Blk.new _ _ _ rfl) rfl (by simp [Value.oneCell']) (by unfold maxLen; omega) (by omega) (by have := HX2.out.size; have := HXa.out.size; have := HXb.out.size; simp <;> omega) ?_; intro v7 w7 hown hgr hat; obtain ⟨gv, cv, rfl⟩ := own_form hown; have HV7 := Lib.hid hown; have HX7 := Lib.hid (ext_own (Ext.trans HX2.out (Ext.trans HXa.out HXb.out)) HRow.out hgr); have HVa7 := Lib.hid (kept_other ((ownsRow_ext HVa.out HXb.out).alloc _) ((ownsRow_ext HRow.out (Ext.trans HXa.out HXb.out)).alloc _) (by decide) hgr); have HVb7 := Lib.hid (kept_other (HVb.out.alloc _) ((ownsRow_ext HRow.out (Ext.trans HXa.out HXb.out)).alloc _) (by decide) hgr); clear hown hgr hat; obtain ⟨cq7, fq7⟩ := (HQ.out.keep HX7.out).facts; have hql7 := (HQ.out.keep HX7.out).lt)
            | (refine wpList_appN rfl _ _ 26 rfl W0.heap.size 241 (.agg #[.slice none 0 0, .slice none 0 0]) 2 48 Tryz.underlying26 infoEntry rfl (by decide) (.slice (some ⟨gv, 0, none⟩) (k + 1) cv) (k + 1) _ rfl HV7.out g _ (L.length - (k)) _ (flatE (vs.drop (k))) rfl (by rw [flatE_length, List.length_drop, HVl.out]) (fun j u hj => by first | exact HDr.out (k) (by omega) w7 (Ext.trans HX0.out HX7.out) j u hj | (exfalso; rw [List.drop_eq_nil_of_le (by have := HVl.out; omega)] at hj; simp [flatE] at hj)) (flatE_one HEnt.out HVl.out (k)) (by unfold maxLen; omega) (by omega) HX7.out.size (by simp) ?_; intro g9 c9 w9 hown hgr; have HV9 := Lib.hid hown; have HX9 := Lib.hid (ext_own0 HX7.out HV7.out hgr); have HVa9 := Lib.hid (kept_other HVa7.out HV7.out (by decide) hgr); have HVb9 := Lib.hid (kept_other HVb7.out HV7.out (by decide) hgr); clear hown hgr; obtain ⟨cr9, fr9⟩ := (HR.out.keep HX9.out).facts; have hrl9 := (HR.out.keep HX9.out).lt))
          refine bodyPost_ret (ret_tab rfl _ rfl rfl ((HR.out.keep HX9.out).set 0 _)) rfl ?_
          exact ⟨⟨_, rfl, ents_fin (R := k) (N := k + 1 + (L.length - (k))) HEnt.out HVl.out HR.out.lt (by omega) HVa9.out HX2.out.size HVb9.out (Nat.le_trans HX2.out.size HXa.out.size) (Ext.trans HX0.out HX9.out) HV9.out hkle (by omega) rfl HIns.out⟩, (show Below w.heap.size w _ from Ext.trans HX0.out HX9.out).setCell (by simp) _⟩
        · skip
          go_wp2_with (at_builtin; first
            | (refine wpList_appR rfl _ _ 40 rfl W6.heap.size 3 (.int .i64 0) 1 8 Tryz.underlying40 infoInt1 rfl (by decide) W6.heap.size 0 0 [] rfl (ownsRow_empty (Blk.new W6 #[] _ rfl) (Nat.le_refl _)) _ 1 [.int .i64 (c : Int)] rfl (.inr ⟨gs, ks, rfl, hks, by have := HX6.out.size; simp <;> omega, fun j u hu => by
                  match j, hu with
                  | 0, hu => rw [← Option.some.inj hu]; exact HCs.out _ (Ext.trans HX6.out ((Ext.refl _).alloc _))
                  | j + 1, hu => simp at hu⟩) rfl (by simp [Value.oneCell']) (by decide) (by decide) (by simp) ?_; intro ga ka wa hva hga; have HVa := Lib.hid hva; have HXa := Lib.hid (ext_fresh hga); clear hva hga)
            | (refine wpList_appR rfl _ _ 160 rfl wa.heap.size 159 (.agg #[.int .i64 0, .int .i64 0, .int .i64 0, .bool false]) 4 32 Tryz.underlying160 infoElR rfl (by decide) wa.heap.size 0 0 [] rfl (ownsRow_empty (Blk.new wa #[] _ rfl) (Nat.le_refl _)) _ es.length (flatR es) rfl (HEv.out.ext (Ext.trans (Ext.trans HX6.out HXa.out) ((Ext.refl _).alloc _))) (flatR_length es) (flatR_one es) (by unfold maxLen; omega) (by omega) (by simp) ?_; intro gb kb wb hvb hgb; have HVb := Lib.hid hvb; have HXb := Lib.hid (ext_fresh hgb); clear hvb hgb)
            | (refine wpList_push rfl _ _ _ rfl W0.heap.size 241 (.agg #[.slice none 0 0, .slice none 0 0]) 2 48 Tryz.underlying26 infoEntry rfl (by decide) u7 k (flatE (vs.take k)) rfl ((ownsRow_ext HRow.out (Ext.trans HXa.out HXb.out)).alloc _) wb.heap.size 241 _ rfl (Blk.new _ _ _ rfl) rfl (by simp [Value.oneCell']) (by unfold maxLen; omega) (by omega) (by have := HX2.out.size; have := HXa.out.size; have := HXb.out.size; simp <;> omega) ?_; intro v7 w7 hown hgr hat; obtain ⟨gv, cv, rfl⟩ := own_form hown; have HV7 := Lib.hid hown; have HX7 := Lib.hid (ext_own (Ext.trans HX2.out (Ext.trans HXa.out HXb.out)) HRow.out hgr); have HVa7 := Lib.hid (kept_other ((ownsRow_ext HVa.out HXb.out).alloc _) ((ownsRow_ext HRow.out (Ext.trans HXa.out HXb.out)).alloc _) (by decide) hgr); have HVb7 := Lib.hid (kept_other (HVb.out.alloc _) ((ownsRow_ext HRow.out (Ext.trans HXa.out HXb.out)).alloc _) (by decide) hgr); clear hown hgr hat; obtain ⟨cq7, fq7⟩ := (HQ.out.keep HX7.out).facts; have hql7 := (HQ.out.keep HX7.out).lt)
            | (refine wpList_appN rfl _ _ 26 rfl W0.heap.size 241 (.agg #[.slice none 0 0, .slice none 0 0]) 2 48 Tryz.underlying26 infoEntry rfl (by decide) (.slice (some ⟨gv, 0, none⟩) (k + 1) cv) (k + 1) _ rfl HV7.out g _ (L.length - (k)) _ (flatE (vs.drop (k))) rfl (by rw [flatE_length, List.length_drop, HVl.out]) (fun j u hj => by first | exact HDr.out (k) (by omega) w7 (Ext.trans HX0.out HX7.out) j u hj | (exfalso; rw [List.drop_eq_nil_of_le (by have := HVl.out; omega)] at hj; simp [flatE] at hj)) (flatE_one HEnt.out HVl.out (k)) (by unfold maxLen; omega) (by omega) HX7.out.size (by simp) ?_; intro g9 c9 w9 hown hgr; have HV9 := Lib.hid hown; have HX9 := Lib.hid (ext_own0 HX7.out HV7.out hgr); have HVa9 := Lib.hid (kept_other HVa7.out HV7.out (by decide) hgr); have HVb9 := Lib.hid (kept_other HVb7.out HV7.out (by decide) hgr); clear hown hgr; obtain ⟨cr9, fr9⟩ := (HR.out.keep HX9.out).facts; have hrl9 := (HR.out.keep HX9.out).lt))
          refine bodyPost_ret (ret_tab rfl _ rfl rfl ((HR.out.keep HX9.out).set 0 _)) rfl ?_
          exact ⟨⟨_, rfl, ents_fin (R := k) (N := k + 1 + (L.length - (k))) HEnt.out HVl.out HR.out.lt (by omega) HVa9.out HX2.out.size HVb9.out (Nat.le_trans HX2.out.size HXa.out.size) (Ext.trans HX0.out HX9.out) HV9.out hkle (by omega) rfl HIns.out⟩, (show Below w.heap.size w _ from Ext.trans HX0.out HX9.out).setCell (by simp) _⟩
end Go.Proofs.YtipokgedmfnlaaaGreatDoor
