/-
  Trees that are shown: how deep they are, how many nodes they have (parse.deep, parse.great).
-/
import Derived.Test.YtlhkmdchjklaeaaGreatDoorPsrP
namespace Go.Proofs.YtlhkmdchjklaeaaGreatDoor
open Go.RowKit Go.Lib
set_option maxRecDepth 100000

/-- A tree of so many levels at most. -/
def trD : Nat → Tr → Bool
  | 0, _ => false
  | d + 1, .mk _ _ _ _ _ l => l.all (trD d)
/-- A node's operands. -/
def KidsAt (A : Nat → Prop) (w : World) (la : Option Addr) (ln lc : Nat) (l : List Tr) : Prop :=
  (la = none ∧ ln = 0 ∧ lc = 0 ∧ l = []) ∨ ∃ (g : Nat) (L : List PN), la = some ⟨g, 0, none⟩ ∧ ln = l.length ∧ l.length ≤ lc ∧ L.length = l.length ∧ A g ∧ PnAt w g L ∧ (∀ (i : Nat) (x : PN) (y : Tr), L[i]? = some x → l[i]? = some y → TrAt A w x y) ∧ 0 < l.length
theorem TrAt.parts {A : Nat → Prop} {w : World} {x : PN} {k o n : Int} {s t : List UInt8} {l : List Tr} (h : TrAt A w x (.mk k o s t n l)) : x.k = k ∧ x.o = o ∧ x.s = ⟨s.toArray⟩ ∧ x.t = ⟨t.toArray⟩ ∧ x.n = n ∧ KidsAt A w x.la x.ln x.lc l := by
  cases h with
  | leaf => exact ⟨rfl, rfl, rfl, rfl, rfl, .inl ⟨rfl, rfl, rfl, rfl⟩⟩
  | node _ _ _ _ _ g lc L _ hl h0 hc hg hN h => exact ⟨rfl, rfl, rfl, rfl, rfl, .inr ⟨g, L, rfl, rfl, hc, hl, hg, hN, h, h0⟩⟩
theorem TrAt.ext {A : Nat → Prop} {w w' : World} {x : PN} {t : Tr} (h : TrAt A w x t) (hx : Ext w w') : TrAt A w' x t := h.same (fun g _ hl => hx.block g hl) hx.size
theorem KidsAt.ext {A : Nat → Prop} {w w' : World} {la : Option Addr} {ln lc : Nat} {l : List Tr} (h : KidsAt A w la ln lc l) (hx : Ext w w') : KidsAt A w' la ln lc l := by
  rcases h with h | ⟨g, L, h1, h2, h3, h4, h5, h6, h7, h8⟩
  · exact .inl h
  · exact .inr ⟨g, L, h1, h2, h3, h4, h5, h6.same (hx.block g h6.1) hx.size, fun i x y hx1 hy => (h7 i x y hx1 hy).ext hx, h8⟩
theorem KidsAt.later {A : Nat → Prop} {p : Nat} {w w' : World} {la : Option Addr} {ln lc : Nat} {l : List Tr} (h : KidsAt A w la ln lc l) (hA : ∀ g, A g → g ≠ p) (hx : LeP p w w') : KidsAt A w' la ln lc l := by
  rcases h with h | ⟨g, L, h1, h2, h3, h4, h5, h6, h7, h8⟩
  · exact .inl h
  · exact .inr ⟨g, L, h1, h2, h3, h4, h5, h6.same (hx.old g h6.1 (hA g h5)) hx.size, fun i x y hx1 hy => (h7 i x y hx1 hy).later hA hx, h8⟩
theorem PnAt.at6 {w : World} {g i : Nat} {L : List PN} {y : PN} (h : PnAt w g L) (hy : L[i]? = some y) :
    w.cell? ⟨g, i * 6, none⟩ = some (.int .i64 y.k) ∧ w.cell? ⟨g, i * 6 + 1, none⟩ = some (.int .i64 y.o) ∧ w.cell? ⟨g, i * 6 + 2, none⟩ = some (.string y.s) ∧ w.cell? ⟨g, i * 6 + 3, none⟩ = some (.string y.t) ∧ w.cell? ⟨g, i * 6 + 4, none⟩ = some (.int .i64 y.n) ∧ w.cell? ⟨g, i * 6 + 5, none⟩ = some (.slice y.la y.ln y.lc) :=
  ⟨h.2 i y hy 0 (by omega), h.2 i y hy 1 (by omega), h.2 i y hy 2 (by omega), h.2 i y hy 3 (by omega), h.2 i y hy 4 (by omega), h.2 i y hy 5 (by omega)⟩
set_option maxHeartbeats 2000000 in
theorem indexNd_none (F : FuncId) (c : Value) (heg : ∀ args W, (callFunc F args).run Tryz.prog W = .ok (.enter F args) W) (A : Nat → Prop) (la : Option Addr) (ln lc : Nat) (l : List Tr) (w : World) (hk : KidsAt A w la ln lc l) (hlen : l.length ≤ 1000000)
    (hcall : ∀ (y : PN) (z : Tr) W, z ∈ l → TrAt A W y z → Ext w W → Calls Tryz.prog F #[y.v, c] W fun e w' => e = .returned (.bool false) ∧ Ext W w') :
    Calls Tryz.prog 71 #[.slice la ln lc, .func (.func F) #[] #[c]] w fun e w' => e = .returned (.int .i64 (-1)) ∧ Ext w w' := by
  rcases hk with ⟨rfl, rfl, rfl, rfl⟩ | ⟨g, L, rfl, rfl, hlc, hL, _, hN, hch, _⟩
  · clear hcall
    go_enter Tryz.func71, Tryz.ntmps71
    go_wp2_with fail
    go_loopw [8] (fun i wr => i = .int .i64 0 ∧ Ext w wr) (fun _ _ => 0)
    case atStart => exact ⟨rfl, Ext.refl w⟩
    case round =>
      obtain ⟨rfl, hx⟩ := hrel
      have HX := Lib.hid hx
      clear hx
      go_wp2_with fail
      go_ret
      exact ⟨rfl, HX.out⟩
  · have HN := Lib.hid hN
    have HCh := Lib.hid hch
    have KC := Lib.hid hcall
    have HEg := Lib.hid heg
    have hgl := hN.1
    clear hN hch hcall heg
    go_enter Tryz.func71, Tryz.ntmps71
    go_wp2_with fail
    go_loopw [8] (fun i wr => ∃ k : Nat, k ≤ l.length ∧ i = .int .i64 k ∧ Ext w wr) (fun i _ => l.length - (intOf i).toNat)
    case atStart => exact ⟨0, Nat.zero_le _, rfl, Ext.refl w⟩
    case round =>
      obtain ⟨k, hk, rfl, hx⟩ := hrel
      have HX := Lib.hid hx
      by_cases hlt : k < l.length
      · have hltI : (k : Int) < (l.length : Int) := by omega
        obtain ⟨y, hy⟩ : ∃ y, L[k]? = some y := ⟨_, List.getElem?_eq_getElem (by omega)⟩
        obtain ⟨z, hz⟩ : ∃ z, l[k]? = some z := ⟨_, List.getElem?_eq_getElem hlt⟩
        have hT := (HCh.out k y z hy hz).ext hx
        have KK := Lib.hid (KC.out y z wr (List.mem_of_getElem? hz) hT hx)
        obtain ⟨c0, c1, c2, c3, c4, c5⟩ := (HN.out.same (hx.block g hgl) hx.size).at6 hy
        have hgw : g < wr.heap.size := Nat.lt_of_lt_of_le hgl hx.size
        obtain ⟨yk, yo, ys, yt, yn, yla, yln, ylc⟩ := y
        simp only [PN.v] at KK
        simp only at c0 c1 c2 c3 c4 c5
        have hcf := HEg.out
        clear hx hT hy hz
        go_simp
        repeat (first | go_values | go_skip | go_guarded | go_step | go_upon)
        refine Calls.mono KK.out ?_
        rintro e w2 ⟨rfl, hb⟩
        have HB := Lib.hid (Ext.trans HX.out hb)
        clear hb c0 c1 c2 c3 c4 c5 hcf KK hgw
        go_simp
        repeat (first | go_values | go_skip | go_guarded | go_step | go_upon)
        go_roundw
        case rel =>
          refine ⟨u4, .int .i64 k, .int .i64 ((k + 1 : Nat) : Int), ⟨k + 1, by omega, rfl, HB.out⟩, ?_⟩
          simp
        case measure => simp [intOf]; omega
      · obtain rfl : k = l.length := by omega
        have hltI : ¬ (l.length : Int) < (l.length : Int) := by omega
        clear hx
        go_wp2_with fail
        go_ret
        exact ⟨rfl, HX.out⟩
theorem containsNd_none (F : FuncId) (c : Value) (heg : ∀ args W, (callFunc F args).run Tryz.prog W = .ok (.enter F args) W) (A : Nat → Prop) (la : Option Addr) (ln lc : Nat) (l : List Tr) (w : World) (hk : KidsAt A w la ln lc l) (hlen : l.length ≤ 1000000)
    (hcall : ∀ (y : PN) (z : Tr) W, z ∈ l → TrAt A W y z → Ext w W → Calls Tryz.prog F #[y.v, c] W fun e w' => e = .returned (.bool false) ∧ Ext W w') :
    Calls Tryz.prog 36 #[.slice la ln lc, .func (.func F) #[] #[c]] w fun e w' => e = .returned (.bool false) ∧ Ext w w' := by
  have HC := Lib.hid (indexNd_none F c heg A la ln lc l w hk hlen hcall)
  clear hk hcall heg
  go_enter Tryz.func36, Tryz.ntmps36
  go_simp
  repeat (first | go_values | go_skip | go_guarded | go_step | go_upon)
  refine HC.out.mono ?_
  rintro e w2 ⟨rfl, hb⟩
  go_simp
  repeat (first | go_values | go_skip | go_guarded | go_step | go_upon)
  go_returns
  exact ⟨rfl, hb⟩
set_option maxHeartbeats 2000000 in
theorem deepclo_any (x : PN) (b : Nat) (most : Int) (w : World) (hb : Blk w b #[.int .i64 most] 3) (hm : 1 ≤ most ∧ most ≤ 1000000)
    (hcall : ∀ W, Ext w W → Calls Tryz.prog 19 #[x.v, .int .i64 (most - 1)] W fun e w' => e = .returned (.bool false) ∧ Ext W w') :
    Calls Tryz.prog 37 #[x.v, .pointer (some ⟨b, 0, none⟩)] w fun e w' => e = .returned (.bool false) ∧ Ext w w' := by
  obtain ⟨cb, fb⟩ := hb.facts
  have hbl := hb.lt
  have hsub := IntWalk.i64_in (most - 1) (by omega)
  have HC := Lib.hid hcall
  obtain ⟨yk, yo, ys, yt, yn, yla, yln, ylc⟩ := x
  simp only [PN.v] at HC ⊢
  clear hb hcall
  go_enter Tryz.func37, Tryz.ntmps37
  go_simp
  repeat (first | go_values | go_skip | go_guarded | go_step | go_upon)
  refine Calls.mono (HC.out _ ((Ext.refl _).alloc _)) ?_
  rintro e w2 ⟨rfl, hb⟩
  have HB := Lib.hid (Ext.trans ((Ext.refl w).alloc _) hb)
  clear hb
  go_simp
  repeat (first | go_values | go_skip | go_guarded | go_step | go_upon)
  go_returns
  exact ⟨rfl, HB.out⟩
/-- No node has more operands than may be. -/
def trW : Nat → Tr → Bool
  | 0, _ => true
  | d + 1, .mk _ _ _ _ _ l => decide (l.length ≤ 100000) && l.all (trW d)
set_option maxHeartbeats 2000000 in
theorem deep_any : ∀ (d : Nat) (t : Tr) (x : PN) (A : Nat → Prop) (w : World) (most : Int), trD d t = true → trW d t = true → TrAt A w x t → (d : Int) ≤ most → most ≤ 1000000 → Calls Tryz.prog 19 #[x.v, .int .i64 most] w fun e w' => e = .returned (.bool false) ∧ Ext w w'
  | 0, t, x, A, w, most, h, _, _, _, _ => by simp [trD] at h
  | d + 1, .mk k o s t n l, x, A, w, most, h, hW, hT, hm, hm2 => by
    have ih := deep_any d
    obtain ⟨_, _, _, _, _, hK⟩ := hT.parts
    simp only [trD, List.all_eq_true] at h
    simp only [trW, Bool.and_eq_true, decide_eq_true_eq, List.all_eq_true] at hW
    obtain ⟨xk, xo, xs, xt, xn, xla, xln, xlc⟩ := x
    simp only at hK
    simp only [PN.v]
    have hx0 : Ext w ((w.alloc (.cells #[.int .i64 xk, .int .i64 xo, .string xs, .string xt, .int .i64 xn, .slice xla xln xlc] 25)).alloc (.cells #[.int .i64 most] 3)) := ((Ext.refl w).alloc _).alloc _
    have HB := Lib.hid (show Blk ((w.alloc (.cells #[.int .i64 xk, .int .i64 xo, .string xs, .string xt, .int .i64 xn, .slice xla xln xlc] 25)).alloc (.cells #[.int .i64 most] 3)) (w.heap.size + 1) #[.int .i64 most] 3 from Blk.new (w.alloc (.cells #[.int .i64 xk, .int .i64 xo, .string xs, .string xt, .int .i64 xn, .slice xla xln xlc] 25)) _ _ (by simp))
    have hne : (most == 0) = false := by rw [beq_eq_false_iff_ne]; omega
    have KC := Lib.hid (containsNd_none 37 (.pointer (some ⟨w.heap.size + 1, 0, none⟩)) (fun _ _ => by kernel_rfl) A xla xln xlc l _ (hK.ext hx0) (by omega) fun y z W hz hTy hx =>
      deepclo_any y (w.heap.size + 1) most W (HB.out.keep hx) (by omega) fun W2 hx2 => ih z y A W2 (most - 1) (h z hz) (hW.2 z hz) (hTy.ext hx2) (by omega) (by omega))
    have HX0 := Lib.hid hx0
    clear h hW hT hK hx0 ih
    go_enter Tryz.func19, Tryz.ntmps19
    go_simp
    repeat (first | go_values | go_skip | go_guarded | go_step | go_upon)
    refine Calls.mono KC.out ?_
    rintro e w2 ⟨rfl, hb⟩
    have HB2 := Lib.hid (Ext.trans HX0.out hb)
    clear hb KC HB HX0
    go_simp
    repeat (first | go_values | go_skip | go_guarded | go_step | go_upon)
    go_returns
    exact ⟨rfl, HB2.out⟩
/-- How many nodes there are. -/
def cntL : Nat → List Tr → Nat
  | 0, _ => 0
  | d + 1, l => (l.map fun | .mk _ _ _ _ _ m => 1 + cntL d m).sum
def kidsT : Tr → List Tr
  | .mk _ _ _ _ _ l => l
theorem cntL_succ (d : Nat) (l : List Tr) : cntL (d + 1) l = (l.map fun z => 1 + cntL d (kidsT z)).sum := by
  rw [cntL]
  congr 1
  exact List.map_congr_left fun z _ => by cases z; rfl
theorem cntL_drop (d : Nat) (l : List Tr) (j : Nat) (z : Tr) (h : l[j]? = some z) : cntL (d + 1) (l.drop j) = 1 + cntL d (kidsT z) + cntL (d + 1) (l.drop (j + 1)) := by
  obtain ⟨hlt, rfl⟩ := List.getElem?_eq_some_iff.1 h
  rw [cntL_succ, cntL_succ, List.drop_eq_getElem_cons hlt, List.map_cons, List.sum_cons]
theorem cntL_drop_le (d : Nat) : ∀ (l : List Tr) (k : Nat), cntL (d + 1) (l.drop k) ≤ cntL (d + 1) l
  | [], k => by simp
  | z :: l, 0 => by simp
  | z :: l, k + 1 => by
    have := cntL_drop_le d l k
    have h := cntL_drop d (z :: l) 0 z rfl
    simp only [List.drop_zero, List.drop_succ_cons, Nat.zero_add] at h
    rw [List.drop_succ_cons]
    omega
set_option maxHeartbeats 4000000 in
theorem great_any : ∀ (d : Nat) (l : List Tr) (la : Option Addr) (ln lc : Nat) (A : Nat → Prop) (q : Nat) (v : Int) (w : World), l.all (trD d) = true → (l.length ≤ 100000 ∧ l.all (trW d) = true) → KidsAt A w la ln lc l → Blk w q #[.int .i64 v] 3 → (cntL (d + 1) l : Int) ≤ v → v ≤ 1000000 → (∀ g, A g → g ≠ q) →
    Calls Tryz.prog 20 #[.slice la ln lc, .pointer (some ⟨q, 0, none⟩)] w fun e w' => e = .returned (.bool false) ∧ Blk w' q #[.int .i64 (v - cntL (d + 1) l)] 3 ∧ LeP q w w'
  | d, l, la, ln, lc, A, q, v, w, hD, hW, hK, hq, hv, hv2, hA => by
    rcases hK with ⟨rfl, rfl, rfl, rfl⟩ | ⟨g, L, rfl, rfl, hlc, hL, hAg, hN, hch, h0⟩
    · have e0 : v - (cntL (d + 1) [] : Int) = v := by simp [cntL]
      rw [e0]
      have HQ := Lib.hid hq
      clear hD hW hq hv hA e0
      go_enter Tryz.func20, Tryz.ntmps20
      go_wp2_with fail
      refine wp_loop_rounds 1 ?_
      rw [rounds_succ]
      go_simp
      repeat (first | go_values | go_skip | go_guarded | go_step | go_upon)
      go_returns
      exact ⟨rfl, HQ.out, LeP.refl _ _⟩
    · match d with
      | 0 =>
        exfalso
        cases l with
        | nil => simp at h0
        | cons z l => simp [trD] at hD
      | d + 1 =>
        have HGr := Lib.hid (great_any d)
        simp only [List.all_eq_true] at hD hW
        have HN := Lib.hid hN
        have HCh := Lib.hid hch
        have HD := Lib.hid hD
        have HWd := Lib.hid hW
        have HA := Lib.hid hA
        have HQ := Lib.hid hq
        have HV := Lib.hid hv
        have hgl := hN.1
        have hgq := hA g hAg
        have hlen := hW.1
        clear hD hW hq hv hA hN hch
        obtain ⟨C, hC⟩ : ∃ C : Int, C = (cntL (d + 1 + 1) l : Int) := ⟨_, rfl⟩
        rw [← hC] at HV ⊢
        have HC := Lib.hid hC
        clear hC
        go_enter Tryz.func20, Tryz.ntmps20
        go_simp
        repeat (first | go_values | go_skip | go_guarded | go_step | go_upon)
        go_loopw [6, 9] (fun _ i wr => ∃ (k : Nat) (vv : Int), k ≤ l.length ∧ i = .int .i64 k ∧ vv = v - C + (cntL (d + 1 + 1) (l.drop k) : Int) ∧ Blk wr q #[.int .i64 vv] 3 ∧ LeP q w wr) (fun _ i _ => l.length - (intOf i).toNat)
        case atStart => exact ⟨0, v, Nat.zero_le _, rfl, by rw [List.drop_zero, HC.out]; omega, HQ.out, LeP.refl _ _⟩
        case round =>
          obtain ⟨k, vv, hk, rfl, hvv, hb, hl⟩ := hrel
          have HB := Lib.hid hb
          have HL := Lib.hid hl
          have HVV := Lib.hid hvv
          clear hb hl hvv
          by_cases hlt : k < l.length
          · have hltI : (k : Int) < (l.length : Int) := by omega
            obtain ⟨y, hy⟩ : ∃ y, L[k]? = some y := ⟨_, List.getElem?_eq_getElem (by omega)⟩
            obtain ⟨z, hz⟩ : ∃ z, l[k]? = some z := ⟨_, List.getElem?_eq_getElem hlt⟩
            have hdrop := cntL_drop (d + 1) l k z hz
            obtain ⟨zk, zo, zs, zt, zn, zl⟩ := z
            simp only [kidsT] at hdrop
            have hvv := HVV.out
            have hvC := HV.out
            rw [hdrop] at hvv
            have HVD := Lib.hid hvv
            have hc1 : (cntL (d + 1) zl : Int) ≤ vv - 1 := by omega
            have hc2 : vv ≤ 1000000 := by
              have : C ≤ v := hvC
              have h3 := HC.out
              have : (cntL (d + 1 + 1) (l.drop k) : Int) ≤ C := by
                rw [h3]
                exact Int.ofNat_le.2 (cntL_drop_le (d + 1) l k)
              omega
            have hsub := IntWalk.i64_in (vv - 1) (by omega)
            have hnn : ¬ (vv - 1 < 0) := by omega
            have hTk := (HCh.out k y _ hy hz).later HA.out HL.out
            obtain ⟨_, _, _, _, _, hKz⟩ := hTk.parts
            obtain ⟨c0, c1, c2, c3, c4, c5⟩ := (HN.out.same (HL.out.old g hgl hgq) HL.out.size).at6 hy
            have hgw : g < wr.heap.size := Nat.lt_of_lt_of_le hgl HL.out.size
            obtain ⟨cq, fq⟩ := HB.out.facts
            have hql := HB.out.lt
            have hzm := List.mem_of_getElem? hz
            have hDz := HD.out _ hzm
            have hWz := HWd.out.2 _ hzm
            simp only [trD, List.all_eq_true] at hDz
            simp only [trW, Bool.and_eq_true, decide_eq_true_eq, List.all_eq_true] at hWz
            have KG := Lib.hid (fun W (hx : LeP q wr W) (hB : Blk W q #[.int .i64 (vv - 1)] 3) => HGr.out zl y.la y.ln y.lc A q (vv - 1) W (by simpa [List.all_eq_true] using hDz) ⟨hWz.1, by simpa [List.all_eq_true] using hWz.2⟩ (hKz.later HA.out hx) hB hc1 (by omega) HA.out)
            obtain ⟨yk, yo, ys, yt, yn, yla, yln, ylc⟩ := y
            simp only at c0 c1 c2 c3 c4 c5 KG
            clear hTk hKz hy hz hDz hWz hzm hdrop hvv hvC
            go_simp
            repeat (first | go_values | go_skip | go_guarded | go_step | go_upon)
            refine Calls.mono (KG.out _ ((LeP.set 0 (.int .i64 (vv - 1))).trans (LeP.ofExt ((Ext.refl _).alloc _))) ((HB.out.set 0 _).keep ((Ext.refl _).alloc _))) ?_
            rintro e w2 ⟨rfl, hb2, hl2⟩
            have HB2 := Lib.hid hb2
            have HL2 := Lib.hid ((HL.out.trans ((LeP.set 0 (.int .i64 (vv - 1))).trans (LeP.ofExt ((Ext.refl _).alloc _)))).trans hl2)
            clear hb2 hl2 c0 c1 c2 c3 c4 c5 cq fq hql HB HL KG
            go_simp
            repeat (first | go_values | go_skip | go_guarded | go_step | go_upon)
            go_roundw
            case rel =>
              refine ⟨u4, .pointer (some ⟨wr.heap.size, 0, none⟩), .int .i64 ((k + 1 : Nat) : Int), ⟨k + 1, by omega, rfl, ?_, HL2.out⟩, by simp⟩
              have := HVD.out
              rw [show v - C + (cntL (d + 1 + 1) (l.drop (k + 1)) : Int) = vv - 1 - (cntL (d + 1) zl : Int) by omega]
              exact HB2.out
            case measure => simp [intOf]; omega
          · obtain rfl : k = l.length := by omega
            have hltI : ¬ (l.length : Int) < (l.length : Int) := by omega
            have e1 : vv = v - C := by
              have := HVV.out
              rw [List.drop_length] at this
              simpa [cntL] using this
            go_simp
            repeat (first | go_values | go_skip | go_guarded | go_step | go_upon)
            go_returns
            rw [← e1]
            exact ⟨rfl, HB.out, HL.out⟩
end Go.Proofs.YtlhkmdchjklaeaaGreatDoor
