/-
  Trees that are shown: one tree is the same (parse.Same); words put together (printer.put).
-/
import Derived.Test.YtlhkmdchjklaeaaGreatDoorShowB
import Derived.Test.YtlhkmdchjklaeaaGreatDoorOwn
namespace Go.Proofs.YtlhkmdchjklaeaaGreatDoor
open Go.RowKit Go.Lib
set_option maxRecDepth 100000

set_option maxHeartbeats 4000000 in
theorem equalNd_true (A B : Nat → Prop) (la lb : Option Addr) (ln lc ln2 lc2 : Nat) (l : List Tr) (w : World) (hk : KidsAt A w la ln lc l) (hk2 : KidsAt B w lb ln2 lc2 l) (hlen : l.length ≤ 1000000)
    (hcall : ∀ (y y2 : PN) (z : Tr) W, z ∈ l → TrAt A W y z → TrAt B W y2 z → Ext w W → Calls Tryz.prog 23 #[y.v, y2.v] W fun e w' => e = .returned (.bool true) ∧ Ext W w') :
    Calls Tryz.prog 44 #[.slice la ln lc, .slice lb ln2 lc2, .func (.func 23) #[] #[]] w fun e w' => e = .returned (.bool true) ∧ Ext w w' := by
  rcases hk with ⟨rfl, rfl, rfl, rfl⟩ | ⟨g, L, rfl, rfl, hlc, hL, _, hN, hch, h0⟩
  · rcases hk2 with ⟨rfl, rfl, rfl, _⟩ | ⟨_, _, _, _, _, _, _, _, _, h0⟩
    · clear hcall
      go_enter Tryz.func44, Tryz.ntmps44
      go_wp2_with fail
      refine wp_loop_rounds 1 ?_
      rw [rounds_succ]
      go_simp
      repeat (first | go_values | go_skip | go_guarded | go_step | go_upon)
      go_returns
      exact ⟨rfl, Ext.refl w⟩
    · simp at h0
  · rcases hk2 with ⟨_, _, _, rfl⟩ | ⟨g2, L2, rfl, rfl, hlc2, hL2, _, hN2, hch2, _⟩
    · simp at h0
    · have HN := Lib.hid hN
      have HCh := Lib.hid hch
      have HN2 := Lib.hid hN2
      have HCh2 := Lib.hid hch2
      have KC := Lib.hid hcall
      have hgl := hN.1
      have hgl2 := hN2.1
      have hcf : ∀ args W, (callFunc 23 args).run Tryz.prog W = .ok (.enter 23 args) W := fun _ _ => by kernel_rfl
      clear hN hch hN2 hch2 hcall
      go_enter Tryz.func44, Tryz.ntmps44
      go_simp
      repeat (first | go_values | go_skip | go_guarded | go_step | go_upon)
      go_loopg [7, 8, 9, 17] l.length (fun jj _ _ _ ix wr => ∃ k : Nat, ix = .int .i64 k ∧ k + jj = l.length ∧ Ext w wr)
      case atStart => exact ⟨0, rfl, by omega, Ext.refl w⟩
      case round =>
        obtain ⟨k, rfl, hkj, hx⟩ := hrel
        have HX := Lib.hid hx
        by_cases hlt : k < l.length
        · obtain ⟨jj, rfl⟩ : ∃ jj, gk = jj + 1 := ⟨gk - 1, by omega⟩
          have hltI : (k : Int) < (l.length : Int) := by omega
          obtain ⟨y, hy⟩ : ∃ y, L[k]? = some y := ⟨_, List.getElem?_eq_getElem (by omega)⟩
          obtain ⟨y2, hy2⟩ : ∃ y, L2[k]? = some y := ⟨_, List.getElem?_eq_getElem (by omega)⟩
          obtain ⟨z, hz⟩ : ∃ z, l[k]? = some z := ⟨_, List.getElem?_eq_getElem hlt⟩
          have hT := (HCh.out k y z hy hz).ext hx
          have hT2 := (HCh2.out k y2 z hy2 hz).ext hx
          obtain ⟨c0, c1, c2, c3, c4, c5⟩ := (HN.out.same (hx.block g hgl) hx.size).at6 hy
          obtain ⟨d0, d1, d2, d3, d4, d5⟩ := (HN2.out.same (hx.block g2 hgl2) hx.size).at6 hy2
          have hgw : g < wr.heap.size := Nat.lt_of_lt_of_le hgl hx.size
          have hgw2 : g2 < wr.heap.size := Nat.lt_of_lt_of_le hgl2 hx.size
          have KK := Lib.hid (fun W (hW : Ext wr W) => KC.out y y2 z W (List.mem_of_getElem? hz) (hT.ext hW) (hT2.ext hW) (Ext.trans hx hW))
          obtain ⟨yk, yo, ys, yt, yn, yla, yln, ylc⟩ := y
          obtain ⟨uk, uo, us, ut, un, ula, uln, ulc⟩ := y2
          simp only [PN.v] at KK
          simp only at c0 c1 c2 c3 c4 c5 d0 d1 d2 d3 d4 d5
          clear hx hT hT2 hy hy2 hz
          go_simp
          repeat (first | go_values | go_skip | go_guarded | go_step | go_upon)
          refine Calls.mono (KK.out _ (((Ext.refl wr).alloc _).alloc _)) ?_
          rintro e w2 ⟨rfl, hb⟩
          have HB := Lib.hid (Ext.trans HX.out (Ext.trans (((Ext.refl wr).alloc _).alloc _) hb))
          clear hb c0 c1 c2 c3 c4 c5 d0 d1 d2 d3 d4 d5 KK hgw hgw2
          go_simp
          repeat (first | go_values | go_skip | go_guarded | go_step | go_upon)
          go_roundg jj
          case measure => omega
          case rel => exact ⟨k + 1, by simp, by omega, HB.out⟩
        · obtain rfl : k = l.length := by omega
          have hltI : ¬ (l.length : Int) < (l.length : Int) := by omega
          clear hx
          go_simp
          repeat (first | go_values | go_skip | go_guarded | go_step | go_upon)
          go_returns
          exact ⟨rfl, HX.out⟩
set_option maxHeartbeats 4000000 in
theorem same_true : ∀ (d : Nat) (t : Tr) (x y : PN) (A B : Nat → Prop) (w : World), trD d t = true → trW d t = true → TrAt A w x t → TrAt B w y t → Calls Tryz.prog 23 #[x.v, y.v] w fun e w' => e = .returned (.bool true) ∧ Ext w w'
  | 0, t, x, y, A, B, w, h, _, _, _ => by simp [trD] at h
  | d + 1, .mk k o s t n l, x, y, A, B, w, h, hW, hx, hy => by
    have ih := same_true d
    obtain ⟨h1, h2, h3, h4, h5, hK⟩ := hx.parts
    obtain ⟨k1, k2, k3, k4, k5, hK2⟩ := hy.parts
    simp only [trD, List.all_eq_true] at h
    simp only [trW, Bool.and_eq_true, decide_eq_true_eq, List.all_eq_true] at hW
    obtain ⟨xk, xo, xs, xt, xn, xla, xln, xlc⟩ := x
    obtain ⟨yk, yo, ys, yt, yn, yla, yln, ylc⟩ := y
    simp only at h1 h2 h3 h4 h5 k1 k2 k3 k4 k5 hK hK2
    subst h1 h2 h3 h4 h5 k1 k2 k3 k4 k5
    simp only [PN.v]
    have hx0 : Ext w ((w.alloc (.cells #[.int .i64 yk, .int .i64 yo, .string ⟨s.toArray⟩, .string ⟨t.toArray⟩, .int .i64 yn, .slice xla xln xlc] 25)).alloc (.cells #[.int .i64 yk, .int .i64 yo, .string ⟨s.toArray⟩, .string ⟨t.toArray⟩, .int .i64 yn, .slice yla yln ylc] 25)) := ((Ext.refl w).alloc _).alloc _
    have KE := Lib.hid (equalNd_true A B xla yla xln xlc yln ylc l _ (hK.ext hx0) (hK2.ext hx0) (by omega) fun y1 y2 z W hz a b _ => ih z y1 y2 A B W (h z hz) (hW.2 z hz) a b)
    have HX0 := Lib.hid hx0
    clear h hW hx hy hK hK2 hx0 ih
    go_enter Tryz.func23, Tryz.ntmps23
    go_simp
    repeat (first | go_values | go_skip | go_guarded | go_step | go_upon)
    refine Calls.mono KE.out ?_
    rintro e w2 ⟨rfl, hb⟩
    have HB := Lib.hid (Ext.trans HX0.out hb)
    clear hb KE HX0
    go_simp
    repeat (first | go_values | go_skip | go_guarded | go_step | go_upon)
    go_returns
    exact ⟨rfl, HB.out⟩
/-- A printer that has put these words. -/
def strV (x : List UInt8) : Value := .string ⟨x.toArray⟩
structure PrAt (w : World) (B q : Nat) (ws : List (List UInt8)) : Prop where
  ge : B ≤ q
  ex : ∃ v, Blk w q #[v] 47 ∧ w.ownsRow B 9 1 v ws.length (ws.map strV)
theorem infoStr : (Tryz.prog.info? 9).map (fun i => (i.zero, i.size, i.bytes)) = some (some (.string ⟨#[]⟩), 1, 16) := by kernel_rfl
theorem own_setCell {w : World} {B size n : Nat} {e : TypeId} {v : Value} {xs : List Value} (h : w.ownsRow B e size v n xs) (q : Nat) (u : Value) (hq : v.ownBlock ≠ some q) : (w.setCell ⟨q, 0, none⟩ u).ownsRow B e size v n xs := by
  obtain ⟨h0, h1⟩ := h
  refine ⟨h0, ?_⟩
  rcases h1 with h1 | ⟨g, cap, cur, rfl, h2, h3, h4⟩
  · exact .inl h1
  · refine .inr ⟨g, cap, cur, rfl, h2, ?_, h4⟩
    rw [heap_setCell_other w ⟨q, 0, none⟩ g u (by show g ≠ q; intro e; subst e; simp [Value.ownBlock] at hq)]
    exact h3
theorem own_not {w : World} {B n q : Nat} {v u : Value} {xs : List Value} (h : w.ownsRow B 9 1 v n xs) (hq : Blk w q #[u] 47) : v.ownBlock ≠ some q := by
  intro e
  obtain ⟨cur, hc, _⟩ := ownsRow_heap h e
  have := hc.symm.trans hq
  simp at this
theorem PrAt.ext {w w' : World} {B q : Nat} {ws : List (List UInt8)} (h : PrAt w B q ws) (hx : Ext w w') : PrAt w' B q ws := by
  obtain ⟨v, h1, h2⟩ := h.ex
  exact ⟨h.ge, v, h1.keep hx, ownsRow_ext h2 hx⟩
theorem below_grown {w0 w w' : World} {B n : Nat} {e : TypeId} {v : Value} {xs : List Value} (h : Below B w0 w) (hB : B ≤ w.heap.size) (ho : w.ownsRow B e 1 v n xs) (hg : w.grownBy w' v.ownBlock) : Below B w0 w' :=
  ⟨hg.os.trans h.os, hg.tape.trans h.tape, hg.output.trans h.output, Nat.le_trans h.size hg.size, fun i hi => (hg.block i (by omega) (by
    intro e1
    rcases ho.2 with ⟨rfl, _⟩ | ⟨g, cap, cur, rfl, h2, _⟩
    · simp [Value.ownBlock] at e1
    · simp [Value.ownBlock] at e1; omega)).trans (h.block i hi)⟩
theorem wpList_strs {w : World} {ops : Array Oper} {rest : List Oper} {o : Oper} {a : Act} {Q : Exit → Act → World → Prop} (hgd : o.guard = none) (s x : Operand)
    (ho : o.op = .call { callee := .builtin .append, args := #[s, x], argTypes := #[22, 22] }) (B : Nat) (v : Value) (ws xs : List (List UInt8)) (hs : a.eval s = v) (hown : w.ownsRow B 9 1 v ws.length (ws.map strV))
    (b m : Nat) (hx : a.eval x = .slice (some ⟨b, 0, none⟩) m m) (hb : Blk w b (xs.map strV).toArray 9) (hm : xs.length = m) (h63 : ws.length + m ≤ 1000000) (hBw : B ≤ w.heap.size)
    (h : ∀ ao cap w', w'.ownsRow B 9 1 (.slice ao (ws ++ xs).length cap) (ws ++ xs).length ((ws ++ xs).map strV) → w.grownBy w' v.ownBlock → ((Value.slice ao (ws ++ xs).length cap).ownBlock = v.ownBlock ∨ (Value.slice ao (ws ++ xs).length cap).ownBlock = some w.heap.size) → wpList Tryz.prog ops Q rest (a.put o.dst (.slice ao (ws ++ xs).length cap)) w') :
    wpList Tryz.prog ops Q (o :: rest) a w := by
  obtain ⟨i, hi, hz0, hz1, hz2⟩ := info_parts infoStr
  refine wpList_append_own_at w hgd s x 22 ho B 9 i (.string ⟨#[]⟩) 1 16 Tryz.underlying22 hi hz0 hz1 hz2 rfl (by decide) v ws.length (ws.map strV) hs hown ⟨b, 0, none⟩ m m (xs.map strV) hx (by simp [hm]) (fun j u hj => ?_) (fun u hu => ?_) (by unfold maxLen; omega) (by omega) hBw
    (fun v' w' h2 h3 _ h5 => ?_)
  · rw [Addr.add_lit, Nat.zero_add, hb.cell]
    simpa using hj
  · obtain ⟨y, _, rfl⟩ := List.mem_map.1 hu
    rfl
  · rw [← hm, ← List.length_append, ← List.map_append] at h2
    obtain ⟨ao, cap, rfl, hc⟩ := ownsRow_slice h2
    exact h ao cap w' h2 h3 h5
/-- Later: all but the printer and its words is as it was. -/
structure LeR (q : Nat) (w w' : World) : Prop where
  os : w'.os = w.os
  tape : w'.tape = w.tape
  out : w'.output = w.output
  size : w.heap.size ≤ w'.heap.size
  old : ∀ i, i < w.heap.size → i ≠ q → (∀ v, Blk w q #[v] 47 → v.ownBlock ≠ some i) → w'.heap[i]? = w.heap[i]?
  own : ∀ v, Blk w q #[v] 47 → ∃ v', Blk w' q #[v'] 47 ∧ (v'.ownBlock = v.ownBlock ∨ ∀ g, v'.ownBlock = some g → w.heap.size ≤ g)
theorem LeR.refl (q : Nat) (w : World) : LeR q w w := ⟨rfl, rfl, rfl, Nat.le_refl _, fun _ _ _ _ => rfl, fun v h => ⟨v, h, .inl rfl⟩⟩
theorem blk_one {w : World} {q : Nat} {v u : Value} {t t2 : TypeId} (h : Blk w q #[v] t) (k : Blk w q #[u] t2) : v = u := by
  have := h.symm.trans k
  simp at this
  exact this.1
theorem LeR.ofExt {q : Nat} {w w' : World} (h : Ext w w') : LeR q w w' := ⟨h.os, h.tape, h.output, h.size, fun i hi _ _ => h.block i hi, fun v hv => ⟨v, hv.keep h, .inl rfl⟩⟩
theorem LeR.trans {q : Nat} {a b c : World} (hq : ∃ v, Blk a q #[v] 47) (h : LeR q a b) (k : LeR q b c) : LeR q a c := by
  obtain ⟨v, hv⟩ := hq
  obtain ⟨v2, hv2, ho2⟩ := h.own v hv
  obtain ⟨v3, hv3, ho3⟩ := k.own v2 hv2
  refine ⟨k.os.trans h.os, k.tape.trans h.tape, k.out.trans h.out, Nat.le_trans h.size k.size, fun i h1 h2 h3 => ?_, fun u hu => ?_⟩
  · refine (k.old i (Nat.lt_of_lt_of_le h1 h.size) h2 fun u hu => ?_).trans (h.old i h1 h2 h3)
    obtain rfl := blk_one hv2 hu
    rcases ho2 with ho2 | ho2
    · rw [ho2]; exact h3 v hv
    · intro e
      have := ho2 i e
      omega
  · obtain rfl := blk_one hv hu
    refine ⟨v3, hv3, ?_⟩
    rcases ho3 with ho3 | ho3
    · rw [ho3]
      exact ho2
    · exact .inr fun g hg => Nat.le_trans h.size (ho3 g hg)
/-- A block beside the printer's. -/
structure BoxAt (w : World) (q i : Nat) (cs : Array Value) (t : TypeId) : Prop where
  blk : Blk w i cs t
  ne : i ≠ q
  own : ∀ v, Blk w q #[v] 47 → v.ownBlock ≠ some i
theorem BoxAt.later {w w' : World} {q i : Nat} {cs : Array Value} {t : TypeId} (h : BoxAt w q i cs t) (hq : ∃ v, Blk w q #[v] 47) (hl : LeR q w w') : BoxAt w' q i cs t := by
  obtain ⟨v, hv⟩ := hq
  obtain ⟨v2, hv2, ho2⟩ := hl.own v hv
  refine ⟨(hl.old i h.blk.lt h.ne h.own).trans h.blk, h.ne, fun u hu => ?_⟩
  obtain rfl := blk_one hv2 hu
  rcases ho2 with ho2 | ho2
  · rw [ho2]; exact h.own v hv
  · intro e
    have := ho2 i e
    have := h.blk.lt
    omega
theorem PrAt.is {w : World} {B q : Nat} {ws : List (List UInt8)} (h : PrAt w B q ws) : ∃ v, Blk w q #[v] 47 := ⟨_, h.ex.choose_spec.1⟩
theorem BoxAt.new {w : World} {B q : Nat} {ws : List (List UInt8)} (h : PrAt w B q ws) (cs : Array Value) (t : TypeId) : BoxAt (w.alloc (.cells cs t)) q w.heap.size cs t := by
  obtain ⟨v, h1, h2⟩ := h.ex
  refine ⟨Blk.new w cs t rfl, by have := h1.lt; omega, fun u hu => ?_⟩
  obtain rfl := blk_one (h1.keep ((Ext.refl w).alloc _)) hu
  intro e
  obtain ⟨_, _, hlt⟩ := ownsRow_heap h2 e
  omega
theorem PrAt.tree {A : Nat → Prop} {w w' : World} {B q : Nat} {ws : List (List UInt8)} {x : PN} {t : Tr} (h : PrAt w B q ws) (hT : TrAt A w x t) (hA : ∀ g, A g → g < B) (hl : LeR q w w') : TrAt A w' x t := by
  obtain ⟨v, h1, h2⟩ := h.ex
  refine hT.same (fun g hg hlt => hl.old g hlt (by have := hA g hg; have := h.ge; omega) fun u hu => ?_) hl.size
  obtain rfl := blk_one h1 hu
  intro e
  rcases h2.2 with ⟨rfl, _⟩ | ⟨g2, cap, cur, rfl, hB, _⟩
  · simp [Value.ownBlock] at e
  · simp [Value.ownBlock] at e
    have := hA g hg
    omega
theorem LeR.below {q B : Nat} {w0 w w' : World} {ws : List (List UInt8)} (h0 : Below B w0 w) (hB : B ≤ w.heap.size) (hP : PrAt w B q ws) (h : LeR q w w') : Below B w0 w' :=
  ⟨h.os.trans h0.os, h.tape.trans h0.tape, h.out.trans h0.output, Nat.le_trans h0.size h.size, fun i hi => (h.old i (by omega) (by have := hP.ge; omega) (by
    obtain ⟨v, h1, h2⟩ := hP.ex
    intro u hu
    obtain rfl := blk_one h1 hu
    intro e
    rcases h2.2 with ⟨rfl, _⟩ | ⟨g2, cap, cur, rfl, hB2, _⟩
    · simp [Value.ownBlock] at e
    · simp [Value.ownBlock] at e
      omega)).trans (h0.block i hi)⟩
set_option maxHeartbeats 4000000 in
theorem put_nd (B q b m : Nat) (ws xs : List (List UInt8)) (w : World) (h : PrAt w B q ws) (hb : Blk w b (xs.map strV).toArray 9) (hm : xs.length = m) (h63 : ws.length + m ≤ 1000000) (hBw : B ≤ w.heap.size) :
    Calls Tryz.prog 39 #[.pointer (some ⟨q, 0, none⟩), .slice (some ⟨b, 0, none⟩) m m] w fun e w' => e = .returned (.tuple #[]) ∧ PrAt w' B q (ws ++ xs) ∧ LeR q w w' := by
  obtain ⟨v, hq, ho⟩ := h.ex
  have hnot := own_not ho hq
  obtain ⟨ao, cap, rfl, hcap⟩ := ownsRow_slice ho
  have HG := Lib.hid h.ge
  have HO := Lib.hid ho
  have HQ := Lib.hid hq
  have HB := Lib.hid hb
  have HNo := Lib.hid hnot
  obtain ⟨cq, fq⟩ := hq.facts
  have hql := hq.lt
  clear h hq ho hb hnot
  go_enter Tryz.func39, Tryz.ntmps39
  go_simp
  have hmI := hm
  go_wp2_with (at_builtin; go_must (refine wpList_strs rfl _ _ rfl B _ ws xs rfl HO.out b m rfl HB.out hm h63 hBw ?_))
  intro ao2 cap2 w2 ho2 hg2 hb2
  have HO2 := Lib.hid ho2
  have HG2 := Lib.hid (And.intro hg2 hb2)
  have HQ2 := Lib.hid (show Blk w2 q _ 47 from (hg2.block q hql (Ne.symm HNo.out)).trans HQ.out)
  clear ho2 hg2 hb2 cq fq hql
  obtain ⟨cq, fq⟩ := HQ2.out.facts
  have hql := HQ2.out.lt
  go_simp
  repeat (first | go_values | go_skip | go_guarded | go_step | go_upon)
  go_returns
  have hno2 := own_not HO2.out HQ2.out
  refine ⟨rfl, ⟨HG.out, _, HQ2.out.set 0 _, by rw [List.map_append, List.length_append, hm]; exact own_setCell HO2.out q _ hno2⟩, ?_⟩
  obtain ⟨hg2, hb2⟩ := HG2.out
  refine ⟨hg2.os, hg2.tape, hg2.output, by simpa using hg2.size, fun i h1 h2 h3 => ?_, fun u hu => ?_⟩
  · rw [heap_setCell_other _ ⟨q, 0, none⟩ i _ h2]
    exact hg2.block i h1 (Ne.symm (h3 _ HQ.out))
  · obtain rfl := blk_one HQ.out hu
    refine ⟨_, HQ2.out.set 0 _, ?_⟩
    rcases hb2 with hb2 | hb2
    · exact .inl (by simpa [List.length_append, hm] using hb2)
    · exact .inr fun g hg => by
        rw [hb2] at hg
        simp at hg
        omega
end Go.Proofs.YtlhkmdchjklaeaaGreatDoor
