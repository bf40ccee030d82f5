/-
  The document's elements of a text (Table.OfSigns, Elements).
-/
import Derived.Test.YtipokgedmfnlaaaGreatDoorDocB
import Derived.Test.YtipokgedmfnlaaaGreatDoorDocG
namespace Go.Proofs.YtipokgedmfnlaaaGreatDoor
open Go.RowKit Go.Lib
set_option maxRecDepth 100000

/-- append to a row of the call's own, nil or not, of a slice that may be nil. -/
theorem wpList_appA {P : Program} {w : World} {ops : Array Oper} {rest : List Oper} {o : Oper} {a : Act} {Q : Exit → Act → World → Prop} (hgd : o.guard = none) (s x : Operand) (t : TypeId)
    (ho : o.op = .call { callee := .builtin .append, args := #[s, x], argTypes := #[t, t] })
    (base : Nat) (e : TypeId) (z : Value) (size bytes : Nat) (ht : P.underlying t = some (.slice e)) (hinfo : (P.info? e).map (fun i => (i.zero, i.size, i.bytes)) = some (some z, size, bytes))
    (hzs : z.cells.size = size) (hsz : 0 < size)
    (v : Value) (n : Nat) (xs : List Value) (hs : a.eval s = v) (hown : w.ownsRow base e size v n xs)
    (y : Value) (m : Nat) (news : List Value) (hx : a.eval x = y) (hy : ReadsN w y m news) (hl : news.length = m * size) (h1 : ∀ u ∈ news, u.oneCell' = true)
    (h63 : n + m ≤ maxLen) (hbytes : (n + m) * bytes ≤ 140737488355328) (hbase : base ≤ w.heap.size)
    (h : ∀ v' w', w'.ownsRow base e size v' (n + m) (xs ++ news) → w.grownBy w' v.ownBlock → wpList P ops Q rest (a.put o.dst v') w') :
    wpList P ops Q (o :: rest) a w := by
  rcases hy with ⟨rfl, rfl, rfl⟩ | ⟨g, cy, rfl, _, _, hcell⟩
  · have hg0 : w.grownBy w v.ownBlock := ⟨rfl, rfl, rfl, Nat.le_refl _, fun _ _ _ => rfl⟩
    rcases hown.2 with ⟨rfl, h0⟩ | ⟨b, cap, cur, rfl, hb, hh, hnc, _⟩
    · obtain ⟨i, hi, hz0, hz1, hz2⟩ := info_parts hinfo
      refine wpList_plain hgd fun K hK => ?_
      have hr : (Builtin.append_ #[t, t] o.type #[.slice none 0 0, .slice none 0 0]).run P w = .ok (.slice none 0 0) w := by
        simp [Builtin.append_, run_underlying ht, sizeOf, typeInfo, hi, Builtin.lenOf, Builtin.firstCells]
      unfold Oper.wp execOp
      simp only [ho, resolve, invoke, builtin, Sem.run_bind, Sem.run_pure, Result.andThen_ok, List.map_toArray, List.map_cons, List.map_nil, hs, hx, hr]
      exact hK _ _ (h (.slice none 0 0) w (by simpa using hown) hg0)
    · exact wpList_app_nil hgd s x t ho e z size bytes ht hinfo b n cap hs hx hnc (h (.slice (some ⟨b, 0, none⟩) n cap) w (by simpa using hown) hg0)
  · obtain ⟨i, hi, hz0, hz1, hz2⟩ := info_parts hinfo
    exact wpList_append_own_at w hgd s x t ho base e i z size bytes ht hi hz0 hz1 hz2 hzs hsz v n xs hs hown ⟨g, 0, none⟩ m cy news hx hl (fun j u hj => by rw [Addr.add_lit, Nat.zero_add]; exact hcell j u hj) h1 h63 hbytes hbase
      (fun v' w' h2 h3 _ _ => h v' w' h2 h3)
def elsL (L : List (Nat × List El)) (cs : List Nat) : List El := cs.flatMap fun c => (lookE L c).getD (implE c)
theorem elsL_take (L : List (Nat × List El)) (cs : List Nat) (k : Nat) (h : k < cs.length) : elsL L (cs.take (k + 1)) = elsL L (cs.take k) ++ (lookE L cs[k]).getD (implE cs[k]) := by
  unfold elsL
  rw [List.take_add_one, List.getElem?_eq_getElem h, List.flatMap_append]
  simp only [Option.toList_some, List.flatMap_cons, List.flatMap_nil, List.append_nil]
theorem look_len (L : List (Nat × List El)) (hL : ∀ y ∈ L, y.2.length ≤ 8) (c : Nat) : ((lookE L c).getD (implE c)).length ≤ 8 := by
  unfold lookE
  cases h : L.find? (fun x => x.1 == c) with
  | none => simp [implE]
  | some y => exact hL y (List.mem_of_find?_eq_some h)
theorem elsL_len (L : List (Nat × List El)) (hL : ∀ y ∈ L, y.2.length ≤ 8) : ∀ cs, (elsL L cs).length ≤ 8 * cs.length
  | [] => by simp [elsL]
  | c :: cs => by
    have h1 := elsL_len L hL cs
    have h2 := look_len L hL c
    simp only [elsL, List.flatMap_cons, List.length_append, List.length_cons] at *
    omega
theorem flatR_append (a b : List El) : flatR (a ++ b) = flatR a ++ flatR b := by simp [flatR]
set_option maxHeartbeats 16000000 in
theorem ofSignsR_any (tv sv : Value) (L : List (Nat × List El)) (cs : List Nat) (w : World) (hL : EntsR w tv L) (hn : L.length ≤ 1000) (h8 : ∀ y ∈ L, y.2.length ≤ 8) (hv : ReadsL w sv (intsV cs)) (hm : cs.length ≤ 100000)
    (hs : ∀ c ∈ cs, isSign c = true ∧ c ≤ 1114367) :
    Calls Tryz.prog 127 #[.agg #[tv], sv] w fun e w' => (∃ u, e = .returned u ∧ ElsR w' u (elsL L cs)) ∧ Below w.heap.size w w' := by
  obtain ⟨tp, tn, tk, rfl⟩ := hL.slice
  have HL := Lib.hid hL
  have HV := Lib.hid hv
  have HS := Lib.hid hs
  have H8 := Lib.hid h8
  have hsl : ∃ ao cap, sv = .slice ao cs.length cap := by
    obtain ⟨ao, cap, h, _⟩ := intsAt hv
    exact ⟨ao, cap, h⟩
  obtain ⟨ao, cap, rfl⟩ := hsl
  have hmI : (cs.length : Int) ≤ 100000 := by omega
  clear hL hv hs h8
  go_enter Tryz.func127, Tryz.ntmps127
  go_wp2_with fail
  have hQ : Blk (w.alloc (.cells #[.slice tp tn tk] 28)) w.heap.size #[.slice tp tn tk] 28 := Blk.new w _ _ rfl
  have hx0 : Ext w (w.alloc (.cells #[.slice tp tn tk] 28)) := (Ext.refl w).alloc _
  generalize (w.alloc (.cells #[.slice tp tn tk] 28)) = W0 at hQ hx0 ⊢
  have HQ := Lib.hid hQ
  have HX0 := Lib.hid hx0
  clear hQ hx0
  generalize w.heap.size = q at HQ ⊢
  go_loopw [5, 6] (fun o i wr => ∃ k : Nat, k ≤ cs.length ∧ i = .int .i64 k ∧ wr.ownsRow W0.heap.size 159 4 o (elsL L (cs.take k)).length (flatR (elsL L (cs.take k))) ∧ Ext W0 wr) (fun _ i _ => cs.length - (intOf i).toNat)
  case atStart => exact ⟨0, Nat.zero_le _, rfl, World.ownsRow_nil _ _ _ _, Ext.refl _⟩
  case round =>
    obtain ⟨k, hk, rfl, ho, hx⟩ := hrel
    have HO := Lib.hid ho
    have HXr := Lib.hid hx
    have hql := (HQ.out.keep hx).lt
    obtain ⟨cq, fq⟩ := (HQ.out.keep hx).facts
    clear ho hx
    by_cases hlt : k < cs.length
    · have hlt' : (k : Int) < cs.length := by omega
      obtain ⟨hs1, hs2⟩ := HS.out cs[k] (List.getElem_mem hlt)
      have KA := Lib.hid (atR_any (.slice tp tn tk) (.slice ao cs.length cap) L cs k hlt wr (HL.out.ext (Ext.trans HX0.out HXr.out)) hn (ReadsL.ext HV.out (Ext.trans HX0.out HXr.out)) (by omega) hs1 hs2)
      have HT := Lib.hid (elsL_take L cs k hlt)
      have hl8 := look_len L H8.out cs[k]
      generalize (lookE L cs[k]).getD (implE cs[k]) = es at KA HT hl8
      have hlt2 := elsL_len L H8.out (cs.take k)
      have hlt3 : (cs.take k).length ≤ 100000 := by rw [List.length_take]; omega
      clear hs1 hs2
      go_wp2_with fail
      refine Calls.mono KA.out ?_
      rintro e w2 ⟨⟨u, rfl, hu⟩, hb2⟩
      have HU := Lib.hid hu
      have HO2 := Lib.hid (ownsRow_ext HO.out hb2)
      have HX2 := Lib.hid (Ext.trans HXr.out hb2)
      clear hu hb2 KA cq fq hql
      go_simp
      go_wp2_with (at_builtin; refine wpList_appA rfl _ _ 160 rfl W0.heap.size 159 (.agg #[.int .i64 0, .int .i64 0, .int .i64 0, .bool false]) 4 32 Tryz.underlying160 infoElR rfl (by decide) u5 (elsL L (cs.take k)).length (flatR (elsL L (cs.take k))) rfl HO2.out u es.length (flatR es) rfl HU.out (flatR_length es) (flatR_one es) (by unfold maxLen; omega) (by omega) HX2.out.size ?_; intro v5 w5 hown hgr)
      have HX5 := Lib.hid (ext_own0 HX2.out HO2.out hgr)
      have HO5 := Lib.hid (show w5.ownsRow W0.heap.size 159 4 v5 (elsL L (cs.take (k + 1))).length (flatR (elsL L (cs.take (k + 1)))) from by rw [HT.out, List.length_append, flatR_append]; exact hown)
      clear hown hgr
      go_wp2_with fail
      go_roundw
      case rel => exact ⟨k + 1, by omega, by go_num, HO5.out, HX5.out⟩
      case measure => simp [intOf]; omega
    · obtain rfl : k = cs.length := by omega
      have HE := Lib.hid (show ElsR wr u5 (elsL L cs) from by have := own_readsN HO.out; rw [List.take_length] at this; exact this)
      go_wp2_with fail
      go_ret
      exact ⟨⟨_, rfl, HE.out⟩, Ext.trans HX0.out HXr.out⟩
def sgnsV (s : ByteArray) (v : Value) (w : World) : Prop := ReadsL w v (intsV (signs s.data.toList))
def elsRV (es : List El) (v : Value) (w : World) : Prop := ElsR w v es
set_option maxHeartbeats 8000000 in
theorem elementsR_any (tv : Value) (s : ByteArray) (L : List (Nat × List El)) (w : World) (hL : EntsR w tv L) (hn : L.length ≤ 1000) (h8 : ∀ y ∈ L, y.2.length ≤ 8) (hz : s.size ≤ 100000) :
    Calls Tryz.prog 144 #[.agg #[tv], .string s] w fun e w' => (∃ u, e = .returned u ∧ ElsR w' u (elsL L (signs s.data.toList))) ∧ Below w.heap.size w w' := by
  obtain ⟨tp, tn, tk, rfl⟩ := hL.slice
  have HL := Lib.hid hL
  have H8 := Lib.hid h8
  have hsl : (signs s.data.toList).length ≤ 100000 := by
    have h1 := signs_length s.data.toList
    rw [Array.length_toList] at h1
    exact Nat.le_trans h1 hz
  clear hL h8
  go_enter Tryz.func144, Tryz.ntmps144
  go_wp2_with fail
  have hQ : Blk (w.alloc (.cells #[.slice tp tn tk] 28)) w.heap.size #[.slice tp tn tk] 28 := Blk.new w _ _ rfl
  have hx0 : Ext w (w.alloc (.cells #[.slice tp tn tk] 28)) := (Ext.refl w).alloc _
  generalize (w.alloc (.cells #[.slice tp tn tk] 28)) = W0 at hQ hx0 ⊢
  have HQ := Lib.hid hQ
  have HX0 := Lib.hid hx0
  clear hQ hx0
  generalize w.heap.size = q at HQ ⊢
  have HF := Lib.hid (show ∀ W, Ext W0 W → W.cell? ⟨q, 0, none⟩ = some (.slice tp tn tk) ∧ W.cell? ⟨q, 1, none⟩ = none from fun W hW => ⟨(HQ.out.keep hW).cell 0, (HQ.out.keep hW).cell 1⟩)
  refine wp_par 5 (fun
      | 0 => fun v _ => v = .agg #[.slice tp tn tk]
      | 1 => fun v _ => v = .string s
      | 2 => sgnsV s
      | 3 => elsRV (elsL L (signs s.data.toList))
      | 4 => elsRV (elsL L (signs s.data.toList))
      | _ => fun _ _ => True) (by kernel_rfl) (by kernel_rfl) (by kernel_rfl) ?_ ?_
  · simp (maxSteps := 20000000) only [List.take_succ_cons, List.take_zero, ParAll, Act.put, List.setIfInBounds_toArray, List.set_cons_succ, List.set_cons_zero]
    refine ⟨?_, ?_, ?_, ?_, ?_, trivial⟩
    · intro vals W hx hd
      have hW := HF.out W hx
      simp [PDeps, pdeps, Region.binds] at hd
      first
        | refine ParOb.plain rfl ?_
        | refine ParOb.wanted (by simp [Region.wanted, yielded, hd]) ?_
      go_simp
      exact ParPost.same fun _ _ => rfl
    · intro vals W hx hd
      have hW := HF.out W hx
      simp [PDeps, pdeps, Region.binds] at hd
      first
        | refine ParOb.plain rfl ?_
        | refine ParOb.wanted (by simp [Region.wanted, yielded, hd]) ?_
      go_simp
      exact ParPost.same fun _ _ => rfl
    · intro vals W hx hd
      have hW := HF.out W hx
      simp [PDeps, pdeps, Region.binds] at hd
      first
        | refine ParOb.plain rfl ?_
        | refine ParOb.wanted (by simp [Region.wanted, yielded, hd]) ?_
      go_simp
      refine Calls.mono (signsR_of (fun s h w => signR_any s h w) s (by omega) W) ?_
      rintro e w9 ⟨v9, rfl, hr, hb9⟩
      exact ⟨v9, rfl, hb9, fun w10 h10 => ReadsL.ext hr h10⟩
    · intro vals W hx hd
      have hW := HF.out W hx
      simp [PDeps, pdeps, Region.binds] at hd
      first
        | refine ParOb.plain rfl ?_
        | refine ParOb.wanted (by simp [Region.wanted, yielded, hd]) ?_
      go_simp
      refine Calls.mono (ofSignsR_any (.slice tp tn tk) _ L (signs s.data.toList) W (HL.out.ext (Ext.trans HX0.out hx)) hn H8.out hd.2 hsl (signs_all _)) ?_
      rintro e w9 ⟨⟨u, rfl, hu⟩, hb9⟩
      exact ⟨u, rfl, hb9, fun w10 h10 => ReadsN.ext hu h10⟩
    · intro vals W hx hd
      have hW := HF.out W hx
      simp [PDeps, pdeps, Region.binds] at hd
      first
        | refine ParOb.plain rfl ?_
        | refine ParOb.wanted (by simp [Region.wanted, yielded, hd]) ?_
      go_simp
      exact ParPost.same fun w10 h10 => ReadsN.ext hd.1 h10
  intro vals W hx hf
  simp (maxSteps := 20000000) only [ParFacts, List.take_succ_cons, List.take_zero, and_true, Nat.reduceAdd] at hf
  obtain ⟨f0, f1, f2, f3, f4⟩ := hf
  simp (maxSteps := 20000000) only [List.drop_succ_cons, List.drop_zero, List.take_succ_cons, List.take_zero, ParEnd, Act.put, List.setIfInBounds_toArray, List.set_cons_succ, List.set_cons_zero, Nat.reduceAdd, f0, f1]
  clear f0 f1
  generalize vals 2 = y2 at f2 ⊢
  generalize vals 3 = y3 at f3 ⊢
  generalize vals 4 = y4 at f4 ⊢
  have HE := Lib.hid (show ElsR W y4 _ from f4)
  have HX2 := Lib.hid (Ext.trans HX0.out hx)
  clear hx HF f2 f3 f4
  go_wp2_with fail
  go_ret
  exact ⟨⟨y4, rfl, HE.out⟩, HX2.out⟩
end Go.Proofs.YtipokgedmfnlaaaGreatDoor
