/-
  Nodes (binder.node): names of columns; texts; comparisons.
-/
import Derived.Test.YtaoikbpolckobaaGreatDoorBindF
namespace Go.Proofs.YtaoikbpolckobaaGreatDoor
open Go.RowKit
set_option maxRecDepth 100000

theorem colV_form (k o : Int) (s t : ByteArray) (lp : Option Addr) (ll lc : Nat) (fs : List FdR) : colV k o s t lp ll lc fs = .tuple #[.agg #[.int .i64 0, .int .i64 0, .string ⟨#[]⟩, .string ⟨#[]⟩, .int .i64 0, .slice none 0 0, .int .i64 0, .int .i64 0, .string ⟨#[]⟩], .int .i64 11] ∨
    ∃ (i : Nat) (ty r : Int) (cl : ByteArray), colV k o s t lp ll lc fs = .tuple #[.agg #[.int .i64 k, .int .i64 o, .string s, .string t, .int .i64 (i : Int), .slice lp ll lc, .int .i64 ty, .int .i64 r, .string cl], .int .i64 0] := by
  unfold colV
  split
  · exact .inl rfl
  · split
    · exact .inl rfl
    · exact .inr ⟨_, _, _, _, rfl⟩
set_option maxHeartbeats 8000000 in
theorem nodecol_any (b g c q : Nat) (o : Int) (s t : ByteArray) (n : Int) (lp : Option Addr) (ll lc : Nat) (fs : List FdR) (w : World) (hlen : fs.length ≤ 1000000)
    (hB : Blk w b #[.slice (some ⟨g, 0, none⟩) fs.length c, .pointer (some ⟨q, 0, none⟩), .nilFunc] 136) (hF : FldsAt w g fs) :
    Calls Tryz.prog 61 #[.pointer (some ⟨b, 0, none⟩), ndV 4 o s t n (.slice lp ll lc)] w fun e w' => e = .returned (colV 4 o s t lp ll lc fs) ∧ Below w.heap.size w w' := by
  have HF := Lib.hid hF
  have HBd := Lib.hid hB
  clear hF hB
  rw [show ndV 4 o s t n (.slice lp ll lc) = .agg #[.int .i64 4, .int .i64 o, .string s, .string t, .int .i64 n, .slice lp ll lc] from rfl]
  go_enter Tryz.func61, Tryz.ntmps61
  repeat (first | go_values | go_skip | go_guarded | go_step | go_upon)
  have hR0 : Blk ((w.alloc (.cells #[.int .i64 4, .int .i64 o, .string s, .string t, .int .i64 n, .slice lp ll lc] 31)).alloc (.cells #[.int .i64 0, .int .i64 0, .string ⟨#[]⟩, .string ⟨#[]⟩, .int .i64 0, .slice none 0 0, .int .i64 0, .int .i64 0, .string ⟨#[]⟩] 36)) (w.heap.size + 1) #[.int .i64 0, .int .i64 0, .string ⟨#[]⟩, .string ⟨#[]⟩, .int .i64 0, .slice none 0 0, .int .i64 0, .int .i64 0, .string ⟨#[]⟩] 36 := Blk.new (w.alloc (.cells #[.int .i64 4, .int .i64 o, .string s, .string t, .int .i64 n, .slice lp ll lc] 31)) #[.int .i64 0, .int .i64 0, .string ⟨#[]⟩, .string ⟨#[]⟩, .int .i64 0, .slice none 0 0, .int .i64 0, .int .i64 0, .string ⟨#[]⟩] 36 (by simp)
  have hb0 : Below w.heap.size w ((w.alloc (.cells #[.int .i64 4, .int .i64 o, .string s, .string t, .int .i64 n, .slice lp ll lc] 31)).alloc (.cells #[.int .i64 0, .int .i64 0, .string ⟨#[]⟩, .string ⟨#[]⟩, .int .i64 0, .slice none 0 0, .int .i64 0, .int .i64 0, .string ⟨#[]⟩] 36)) := by go_grown
  generalize ((w.alloc (.cells #[.int .i64 4, .int .i64 o, .string s, .string t, .int .i64 n, .slice lp ll lc] 31)).alloc (.cells #[.int .i64 0, .int .i64 0, .string ⟨#[]⟩, .string ⟨#[]⟩, .int .i64 0, .slice none 0 0, .int .i64 0, .int .i64 0, .string ⟨#[]⟩] 36)) = W0 at hR0 hb0 ⊢
  refine (column_any b g c q 4 o s t n lp ll lc fs W0 hlen (HBd.out.keep hb0) (HF.out.ext hb0)).mono ?_
  rintro e w2 ⟨rfl, hb2⟩
  have hR2 := hR0.keep hb2
  have HR := Lib.hid hR2
  have HX : Hid (Below w.heap.size w w2) := Lib.hid (hb0.trans (hb2.mono hb0.size))
  obtain ⟨cr, fr⟩ := hR2.facts
  clear hR0 hb0 hb2 hR2
  have hcv := colV_form 4 o s t lp ll lc fs
  rcases hcv with h | ⟨i, ty, r, cl, h⟩
  · rw [h]
    go_simp
    repeat (first | go_values | go_skip | go_guarded | go_step | go_upon)
    have hb := HX.out
    refine bodyPost_ret (ret_typed2 rfl _ rfl rfl (blk9 HR.out _ _ _ _ _ _ _ _ _)) rfl ?_
    exact ⟨by rw [h]; rfl, by go_grown⟩
  · rw [h]
    go_simp
    repeat (first | go_values | go_skip | go_guarded | go_step | go_upon)
    have hb := HX.out
    refine bodyPost_ret (ret_typed2 rfl _ rfl rfl (blk9 HR.out _ _ _ _ _ _ _ _ _)) rfl ?_
    exact ⟨by rw [h]; rfl, by go_grown⟩
/-- The numbers of a slice of nodes. -/
def NsAt (w : World) (lp : Option Addr) (ll : Nat) (ns : List Int) : Prop :=
  ll = ns.length ∧ (ns = [] ∨ ∃ g cur, lp = some ⟨g, 0, none⟩ ∧ Blk w g cur 31 ∧ ∀ (j : Nat) (x : Int), ns[j]? = some x → cur[j * 6 + 4]? = some (.int .i64 x))
theorem NsAt.ext {w w' : World} {lp : Option Addr} {ll : Nat} {ns : List Int} (h : NsAt w lp ll ns) (hx : Ext w w') : NsAt w' lp ll ns := by
  obtain ⟨h1, h | ⟨g, cur, h2, h3, h4⟩⟩ := h
  · exact ⟨h1, .inl h⟩
  · exact ⟨h1, .inr ⟨g, cur, h2, h3.keep hx, h4⟩⟩
theorem NsAt.set {w : World} {lp : Option Addr} {ll : Nat} {ns : List Int} (h : NsAt w lp ll ns) {r : Nat} {cr : Array Value} (hr : Blk w r cr 36) (i : Nat) (v : Value) : NsAt (w.setCell ⟨r, i, none⟩ v) lp ll ns := by
  obtain ⟨h1, h | ⟨g, cur, h2, h3, h4⟩⟩ := h
  · exact ⟨h1, .inl h⟩
  · refine ⟨h1, .inr ⟨g, cur, h2, h3.other (a := ⟨r, i, none⟩) (fun e => ?_) v, h4⟩⟩
    simp only at e
    subst e
    unfold Blk at h3 hr
    rw [h3] at hr
    simp at hr
theorem NsAt.set9 {W : World} {lp : Option Addr} {ll : Nat} {ns : List Int} (h : NsAt W lp ll ns) {g : Nat} {cr : Array Value} (hr : Blk W g cr 36) (a' b' c' d' e' f' x' y' z' : Value) :
    NsAt (((((((((W.setCell ⟨g, 0, none⟩ a').setCell ⟨g, 1, none⟩ b').setCell ⟨g, 2, none⟩ c').setCell ⟨g, 3, none⟩ d').setCell ⟨g, 4, none⟩ e').setCell ⟨g, 5, none⟩ f').setCell ⟨g, 6, none⟩ x').setCell ⟨g, 7, none⟩ y').setCell ⟨g, 8, none⟩ z') lp ll ns :=
  ((((((((h.set hr 0 a').set (hr.set 0 a') 1 b').set ((hr.set 0 a').set 1 b') 2 c').set (((hr.set 0 a').set 1 b').set 2 c') 3 d').set ((((hr.set 0 a').set 1 b').set 2 c').set 3 d') 4 e').set (((((hr.set 0 a').set 1 b').set 2 c').set 3 d').set 4 e') 5 f').set ((((((hr.set 0 a').set 1 b').set 2 c').set 3 d').set 4 e').set 5 f') 6 x').set (((((((hr.set 0 a').set 1 b').set 2 c').set 3 d').set 4 e').set 5 f').set 6 x') 7 y').set ((((((((hr.set 0 a').set 1 b').set 2 c').set 3 d').set 4 e').set 5 f').set 6 x').set 7 y') 8 z'
def ndcs (ys : List TyR) : List Value := ys.flatMap fun y => [.int .i64 y.k, .int .i64 y.o, .string y.s, .string y.t, .int .i64 y.n, .slice y.lp y.ll y.lc]
theorem NsAt.own {w : World} {B : Nat} {lp : Option Addr} {ll lc : Nat} {ys : List TyR} (h : w.ownsRow B 31 6 (.slice lp ll lc) ys.length (ndcs ys)) : NsAt w lp ll (ys.map (·.n)) := by
  rcases h.2 with ⟨h1, hn⟩ | ⟨g, cap, cur, h1, _, hh, hn, _, hc, ht⟩
  · injection h1 with h1 h2 h3
    exact ⟨by simp [h2, hn], .inl (by rw [List.eq_nil_of_length_eq_zero hn]; rfl)⟩
  · injection h1 with h1 h2 h3
    refine ⟨by simp [h2], .inr ⟨g, cur, h1, hh, fun j x hj => ?_⟩⟩
    rw [List.getElem?_map, Option.map_eq_some_iff] at hj
    obtain ⟨y, hy, rfl⟩ := hj
    have hl : j < ys.length := (List.getElem?_eq_some_iff.1 hy).1
    have := flat_get (fun y : TyR => [Value.int .i64 y.k, .int .i64 y.o, .string y.s, .string y.t, .int .i64 y.n, .slice y.lp y.ll y.lc]) 6 (fun _ => rfl) ys j y hy 4 (by omega)
    rw [show ys.flatMap (fun y : TyR => [Value.int .i64 y.k, .int .i64 y.o, .string y.s, .string y.t, .int .i64 y.n, .slice y.lp y.ll y.lc]) = ndcs ys from rfl, ← ht, List.getElem?_take_of_lt (by omega), Array.getElem?_toList] at this
    exact this
theorem grown_set (w : World) (a : Addr) (v : Value) : w.grownBy (w.setCell a v) (some a.block) :=
  ⟨rfl, rfl, rfl, by simp, fun i _ hne => heap_setCell_other w a i v (fun e => hne (by rw [e]))⟩
theorem grown_alloc (w : World) (o : Obj) (row : Option Nat) : w.grownBy (w.alloc o) row :=
  ⟨rfl, rfl, rfl, by simp, fun i hi _ => Below.heap_alloc w o i hi⟩
theorem TypsAt.grown {w w' : World} {v : Value} {ts : List TyR} {r : Nat} (h : TypsAt w v ts) (hg : w.grownBy w' (some r)) (hv : ∀ g, v.ownBlock = some g → r < g) : TypsAt w' v ts := by
  rcases h with h | ⟨g, c, h1, h2, h3, h4⟩
  · exact .inl h
  · refine .inr ⟨g, c, h1, h2, Nat.lt_of_lt_of_le h3 hg.size, fun j x hj i hi => ?_⟩
    have hne := hv g (by rw [h1]; rfl)
    have hc := h4 j x hj i hi
    rw [Array.getElem?_eq_getElem (show i < x.cells.size from hi)] at hc ⊢
    exact hg.cell hc (fun e => by have := Option.some.inj e; simp only at this; omega)
theorem infoNd : (Tryz.prog.info? 31).map (fun i => (i.zero, i.size, i.bytes)) = some (some (.agg #[.int .i64 0, .int .i64 0, .string ⟨#[]⟩, .string ⟨#[]⟩, .int .i64 0, .slice none 0 0]), 6, 80) := by kernel_rfl
theorem testV_form (k o : Int) (t : ByteArray) (n : Int) (lp : Option Addr) (ll lc : Nat) (ts : List TyR) : (∃ e, testV k o t n lp ll lc ts = .tuple #[.agg #[.int .i64 0, .int .i64 0, .string ⟨#[]⟩, .string ⟨#[]⟩, .int .i64 0, .slice none 0 0, .int .i64 0, .int .i64 0, .string ⟨#[]⟩], .int .i64 e]) ∨
    ∃ cl, testV k o t n lp ll lc ts = .tuple #[.agg #[.int .i64 k, .int .i64 o, .string cl, .string t, .int .i64 n, .slice lp ll lc, .int .i64 1, .int .i64 0, .string ⟨#[]⟩], .int .i64 0] := by
  unfold testV
  split
  · exact .inl ⟨_, rfl⟩
  · split
    · exact .inl ⟨_, rfl⟩
    · split
      · exact .inl ⟨_, rfl⟩
      · exact .inr ⟨_, rfl⟩
def nodeV (k o : Int) (s t : ByteArray) (n : Int) (lp : Option Addr) (ll lc : Nat) (xs : List TyR) (sm : ByteArray) (cty : Int) : Value :=
  if k = 3 then .tuple #[tyV k o s t n (.slice lp ll lc) 3 0 binS, .int .i64 0] else if k = 6 then testV k o t n lp ll lc xs else .tuple #[tyV k o sm t n (.slice lp ll lc) cty 3 sm, .int .i64 0]
set_option maxHeartbeats 16000000 in
theorem node_any (b : Nat) (k o : Int) (s t : ByteArray) (n : Int) (lp0 : Option Addr) (ll0 lc0 : Nat) (ds : List NdR) (xs : List TyR) (sm : ByteArray) (cty : Int) (w : World) (hk : k = 3 ∨ k = 6 ∨ k = 11) (hop : k = 6 → 1 ≤ o ∧ o ≤ 6) (hne : k = 6 → xs ≠ [])
    (hv : NodesAt w (.slice lp0 ll0 lc0) ds) (hlen : ds.length ≤ 1000) (hx : xs.length = ds.length) (hB : ∀ (j : Nat) (d : NdR) (x : TyR), ds[j]? = some d → xs[j]? = some x → Bnds w b d.v x)
    (hcol : k = 11 → ∀ W v ys lp ll lc, Ext w W → TypsAt W v ys → ys.map TyR.core = xs.map TyR.core → Calls Tryz.prog 96 #[.pointer (some ⟨b, 0, none⟩), ndV 11 o s t n (.slice lp ll lc), v] W fun e W' => e = .returned (.tuple #[tyV 11 o sm t n (.slice lp ll lc) cty 3 sm, .int .i64 0]) ∧ Below W.heap.size W W') :
    Calls Tryz.prog 61 #[.pointer (some ⟨b, 0, none⟩), ndV k o s t n (.slice lp0 ll0 lc0)] w fun e w' => (∃ lp ll lc, e = .returned (nodeV k o s t n lp ll lc xs sm cty) ∧ NsAt w' lp ll (xs.map (·.n))) ∧ Below w.heap.size w w' := by
  have HV := Lib.hid hv
  have HBn := Lib.hid hB
  have HCl := Lib.hid hcol
  have HNe := Lib.hid hne
  have HOp := Lib.hid hop
  have HK := Lib.hid hk
  have k4 : (k == 4) = false := by rcases hk with rfl | rfl | rfl <;> rfl
  have k14 : (k == 14) = false := by rcases hk with rfl | rfl | rfl <;> rfl
  clear hv hB hcol hne hk hop
  rw [show ndV k o s t n (.slice lp0 ll0 lc0) = .agg #[.int .i64 k, .int .i64 o, .string s, .string t, .int .i64 n, .slice lp0 ll0 lc0] from rfl]
  go_enter Tryz.func61, Tryz.ntmps61
  repeat (first | go_values | go_skip | go_guarded | go_step | go_upon)
  have hA : Blk ((w.alloc (.cells #[.int .i64 k, .int .i64 o, .string s, .string t, .int .i64 n, .slice lp0 ll0 lc0] 31)).alloc (.cells #[.int .i64 0, .int .i64 0, .string ⟨#[]⟩, .string ⟨#[]⟩, .int .i64 0, .slice none 0 0, .int .i64 0, .int .i64 0, .string ⟨#[]⟩] 36)) w.heap.size #[.int .i64 k, .int .i64 o, .string s, .string t, .int .i64 n, .slice lp0 ll0 lc0] 31 := (Blk.new w #[.int .i64 k, .int .i64 o, .string s, .string t, .int .i64 n, .slice lp0 ll0 lc0] 31 rfl).alloc _
  have hR0 : Blk ((w.alloc (.cells #[.int .i64 k, .int .i64 o, .string s, .string t, .int .i64 n, .slice lp0 ll0 lc0] 31)).alloc (.cells #[.int .i64 0, .int .i64 0, .string ⟨#[]⟩, .string ⟨#[]⟩, .int .i64 0, .slice none 0 0, .int .i64 0, .int .i64 0, .string ⟨#[]⟩] 36)) (w.heap.size + 1) #[.int .i64 0, .int .i64 0, .string ⟨#[]⟩, .string ⟨#[]⟩, .int .i64 0, .slice none 0 0, .int .i64 0, .int .i64 0, .string ⟨#[]⟩] 36 := Blk.new (w.alloc (.cells #[.int .i64 k, .int .i64 o, .string s, .string t, .int .i64 n, .slice lp0 ll0 lc0] 31)) #[.int .i64 0, .int .i64 0, .string ⟨#[]⟩, .string ⟨#[]⟩, .int .i64 0, .slice none 0 0, .int .i64 0, .int .i64 0, .string ⟨#[]⟩] 36 (by simp)
  have hb0 : Below w.heap.size w ((w.alloc (.cells #[.int .i64 k, .int .i64 o, .string s, .string t, .int .i64 n, .slice lp0 ll0 lc0] 31)).alloc (.cells #[.int .i64 0, .int .i64 0, .string ⟨#[]⟩, .string ⟨#[]⟩, .int .i64 0, .slice none 0 0, .int .i64 0, .int .i64 0, .string ⟨#[]⟩] 36)) := by go_grown
  have hs0 : ((w.alloc (.cells #[.int .i64 k, .int .i64 o, .string s, .string t, .int .i64 n, .slice lp0 ll0 lc0] 31)).alloc (.cells #[.int .i64 0, .int .i64 0, .string ⟨#[]⟩, .string ⟨#[]⟩, .int .i64 0, .slice none 0 0, .int .i64 0, .int .i64 0, .string ⟨#[]⟩] 36)).heap.size = w.heap.size + 2 := by simp
  generalize ((w.alloc (.cells #[.int .i64 k, .int .i64 o, .string s, .string t, .int .i64 n, .slice lp0 ll0 lc0] 31)).alloc (.cells #[.int .i64 0, .int .i64 0, .string ⟨#[]⟩, .string ⟨#[]⟩, .int .i64 0, .slice none 0 0, .int .i64 0, .int .i64 0, .string ⟨#[]⟩] 36)) = W0 at hA hR0 hb0 hs0 ⊢
  refine (all_any b _ ds xs W0 (HV.out.ext hb0) hlen hx (fun j d x h1 h2 => (HBn.out j d x h1 h2).ext hb0)).mono ?_
  rintro e W1 ⟨⟨ov, ys, rfl, hys, hTy, hov⟩, hb1⟩
  have hyl : ys.length = xs.length := by have := congrArg List.length hys; simpa using this
  have hA1 := hA.keep hb1
  have hR1 := hR0.keep hb1
  have HR1 := Lib.hid hR1
  have HX1 : Hid (Below w.heap.size w W1) := Lib.hid (hb0.trans (hb1.mono hb0.size))
  have hs1 : w.heap.size + 2 ≤ W1.heap.size := by have := hb1.size; omega
  have HYs := Lib.hid hys
  have HTy := Lib.hid hTy
  have HOv : Hid (∀ g, ov.ownBlock = some g → w.heap.size + 2 ≤ g) := Lib.hid (fun g hg => by have := hov g hg; omega)
  obtain ⟨op, oc, rfl⟩ : ∃ op oc, ov = .slice op ys.length oc := by
    rcases hTy with ⟨rfl, rfl⟩ | ⟨g, c, rfl, _⟩
    · exact ⟨_, _, rfl⟩
    · exact ⟨_, _, rfl⟩
  have HA1 := Lib.hid (hA1.set 5 (.slice none 0 0))
  obtain ⟨ca, fa⟩ := hA1.facts
  clear hA hR0 hb0 hb1 hA1 hR1 hTy hov hys
  go_simp
  repeat (first | go_values | go_skip | go_guarded | go_step | go_upon)
  have hg0 : W1.grownBy (W1.setCell ⟨w.heap.size, 5, none⟩ (.slice none 0 0)) (some w.heap.size) := grown_set W1 ⟨w.heap.size, 5, none⟩ (.slice none 0 0)
  have hsz : (W1.setCell ⟨w.heap.size, 5, none⟩ (.slice none 0 0)).heap.size = W1.heap.size := by simp
  have HG0 := Lib.hid hg0
  have HA5 : Hid (Blk (W1.setCell ⟨w.heap.size, 5, none⟩ (.slice none 0 0)) w.heap.size #[.int .i64 k, .int .i64 o, .string s, .string t, .int .i64 n, .slice none 0 0] 31) := HA1
  have hown0 := World.ownsRow_nil (W1.setCell ⟨w.heap.size, 5, none⟩ (.slice none 0 0)) W1.heap.size 31 6
  have HO0 := Lib.hid hown0
  clear hg0 ca fa HA1 hown0
  generalize (W1.setCell ⟨w.heap.size, 5, none⟩ (.slice none 0 0)) = W5 at HG0 HA5 HO0 hsz ⊢
  go_loopw [49] (fun i W => ∃ (j : Nat) (lp : Option Addr) (ll lc : Nat), j ≤ ys.length ∧ i = .int .i64 j ∧ Blk W w.heap.size #[.int .i64 k, .int .i64 o, .string s, .string t, .int .i64 n, .slice lp ll lc] 31 ∧ W.ownsRow W1.heap.size 31 6 (.slice lp ll lc) j (ndcs (ys.take j)) ∧ W1.grownBy W (some w.heap.size)) (fun i _ => ys.length - (intOf i).toNat)
  case atStart => exact ⟨0, none, 0, 0, Nat.zero_le _, rfl, HA5.out, HO0.out, HG0.out⟩
  case round =>
    obtain ⟨j, lp, ll, lc, hj, rfl, hN, hown, hgr⟩ := hrel
    have HN := Lib.hid hN
    have HO := Lib.hid hown
    have HG := Lib.hid hgr
    obtain ⟨cn, fn⟩ := hN.facts
    have hsw := hgr.size
    have hTyW : TypsAt wr (.slice op ys.length oc) ys := HTy.out.grown hgr (fun g hg => by have := HOv.out g hg; omega)
    by_cases hlt : j < ys.length
    · rcases hTyW with ⟨_, rfl⟩ | ⟨g, c, hv1, hc, hgl, hcell⟩
      · simp at hlt
      · injection hv1 with hv1 hv2 hv3
        subst hv1 hv3
        have hx0 : ys[j]? = some ys[j] := List.getElem?_eq_getElem hlt
        have hcs : ∀ i, i < 9 → wr.cell? ⟨g, j * 9 + i, none⟩ = (ys[j]).cells[i]? := fun i hi => hcell j _ hx0 i hi
        have hdr := List.take_succ_eq_append_getElem (l := ys) (i := j) (by omega)
        have HDr := Lib.hid hdr
        have c0 := hcs 0 (by decide)
        have c1 := hcs 1 (by decide)
        have c2 := hcs 2 (by decide)
        have c3 := hcs 3 (by decide)
        have c4 := hcs 4 (by decide)
        have c5 := hcs 5 (by decide)
        have c6 := hcs 6 (by decide)
        have c7 := hcs 7 (by decide)
        have c8 := hcs 8 (by decide)
        clear hcs hx0 hN hown hgr hcell hdr hv2
        generalize ys[j] = y at c0 c1 c2 c3 c4 c5 c6 c7 c8 HDr
        obtain ⟨xk, xo, xs', xt, xn, xlp, xll, xlc, xty, xr, xc⟩ := y
        simp [TyR.cells] at c0 c1 c2 c3 c4 c5 c6 c7 c8
        have hyl2 : ys.length ≤ 1000 := by omega
        have hs1' : w.heap.size < wr.heap.size := by omega
        go_wp2_with (at_builtin; go_must (refine wpList_push rfl _ _ 29 rfl W1.heap.size 31 (.agg #[.int .i64 0, .int .i64 0, .string ⟨#[]⟩, .string ⟨#[]⟩, .int .i64 0, .slice none 0 0]) 6 80 Tryz.underlying29 infoNd rfl (by decide) _ _ _ rfl ((HO.out.alloc _).alloc _) _ 31 #[.int .i64 xk, .int .i64 xo, .string xs', .string xt, .int .i64 xn, .slice xlp xll xlc] rfl (Blk.new _ _ _ (by simp)) rfl ?_ ?_ ?_ ?_ ?_))
        case refine_1 => simp [Value.oneCell']
        case refine_2 => unfold maxLen; omega
        case refine_3 => omega
        case refine_4 => simp; omega
        case refine_5 =>
          intro v' w3 hown3 hgr3 _
          obtain ⟨ao, cap, rfl, hcc⟩ := ownsRow_slice hown3
          have hne3 : ∀ g, (Value.slice lp ll lc).ownBlock = some g → W1.heap.size ≤ g := fun g hg => (HO.out.lt g hg).1
          have hN3 : Blk w3 w.heap.size #[.int .i64 k, .int .i64 o, .string s, .string t, .int .i64 n, .slice lp ll lc] 31 := (hgr3.block _ (by simp; omega) (fun e => by have := hne3 _ e.symm; omega)).trans ((HN.out.alloc _).alloc _)
          have hG3 : W1.grownBy w3 (some w.heap.size) := ((HG.out.andThen (grown_alloc wr _ none) (fun _ h => by cases h)).andThen (grown_alloc _ _ none) (fun _ h => by cases h)).andThen hgr3 (fun g hg => .inl (hne3 g hg))
          have hG4 : W1.grownBy (w3.setCell ⟨w.heap.size, 5, none⟩ (.slice ao (j + 1) cap)) (some w.heap.size) := hG3.andThen (grown_set w3 ⟨w.heap.size, 5, none⟩ (.slice ao (j + 1) cap)) (fun g hg => .inr hg)
          have hO4 := hown3.kept (grown_set w3 ⟨w.heap.size, 5, none⟩ (.slice ao (j + 1) cap)) (.inr (fun e => by have := (hown3.lt _ e).1; simp only at this; omega))
          have HN3 := Lib.hid hN3
          have HG4 := Lib.hid hG4
          have HO4 := Lib.hid hO4
          obtain ⟨cn3, fn3⟩ := hN3.facts
          clear hN3 hG3 hG4 hO4 hown3 hgr3 hne3 cn fn c0 c1 c2 c3 c4 c5 c6 c7 c8
          repeat (first | go_values | go_skip | go_guarded | go_step | go_upon)
          go_roundw
          case rel =>
            refine ⟨j + 1, ao, j + 1, cap, by omega, by go_num, HN3.out.set 5 _, ?_, HG4.out⟩
            have := HO4.out
            rw [HDr.out]
            simpa [ndcs] using this
          case measure => simp [intOf]; omega
    · obtain rfl : j = ys.length := by omega
      have hRw : Blk wr (w.heap.size + 1) #[.int .i64 0, .int .i64 0, .string ⟨#[]⟩, .string ⟨#[]⟩, .int .i64 0, .slice none 0 0, .int .i64 0, .int .i64 0, .string ⟨#[]⟩] 36 := (hgr.block _ (by omega) (fun e => by injection e with e; omega)).trans HR1.out
      have HRw := Lib.hid hRw
      have HX : Hid (Below w.heap.size w wr) := Lib.hid (HX1.out.grown hgr (by omega) (fun g hg => by cases hg; omega))
      have hys := HYs.out
      have hns := NsAt.own (ys := ys) (by simpa using hown)
      rw [show ys.map (·.n) = xs.map (·.n) from by have := congrArg (List.map (·.n)) hys; simpa [TyR.core, Function.comp_def] using this] at hns
      have HNs := Lib.hid hns
      have hs1' : w.heap.size < wr.heap.size := by omega
      have HYL := Lib.hid (hyl.trans hx)
      rw [hyl.trans hx] at hTyW
      have HTw := Lib.hid hTyW
      have HYX := Lib.hid hyl
      clear hN hown hgr hRw hns hTyW hys HA5 HO0 HG0
      rcases HK.out with rfl | rfl | rfl
      · repeat (first | go_values | go_skip | go_guarded | go_step | go_upon)
        refine (typed_any 3 o s t n lp ll lc 3 _).mono ?_
        rintro e w2 ⟨rfl, hb2⟩
        have hs2 := hb2.size
        have hR2 := HRw.out.keep hb2
        have HR2 := Lib.hid hR2
        have HX2 : Hid (Below w.heap.size w w2) := Lib.hid (HX.out.trans (hb2.mono (by omega)))
        have HNs2 := Lib.hid (HNs.out.ext hb2)
        obtain ⟨cr, fr⟩ := hR2.facts
        clear hR2 hb2 cn fn hs2
        rw [show tyV 3 o s t n (.slice lp ll lc) 3 0 (if isText 3 = true then binS else ⟨#[]⟩) = .agg #[.int .i64 3, .int .i64 o, .string s, .string t, .int .i64 n, .slice lp ll lc, .int .i64 3, .int .i64 0, .string binS] from rfl]
        go_simp
        repeat (first | go_values | go_skip | go_guarded | go_step | go_upon)
        have hb := HX2.out
        refine bodyPost_ret (ret_typed2 rfl _ rfl rfl (blk9 HR2.out _ _ _ _ _ _ _ _ _)) rfl ?_
        exact ⟨⟨lp, ll, lc, rfl, HNs2.out.set9 HR2.out _ _ _ _ _ _ _ _ _⟩, by go_grown⟩
      · have hyn : ys ≠ [] := by
          intro h
          have := HNe.out rfl
          have h2 := HYX.out
          rw [h] at h2
          exact this (List.eq_nil_of_length_eq_zero h2.symm)
        obtain ⟨ho1, ho2⟩ := HOp.out rfl
        have ho1' : ¬ o < 1 := by omega
        have ho2' : ¬ 6 < o := by omega
        repeat (first | go_values | go_skip | go_guarded | go_step | go_upon)
        refine (test_any 6 o s t n lp ll lc (.slice op ds.length oc) ys wr (by decide) hyn HTw.out (by have := HYL.out; omega)).mono ?_
        rintro e w2 ⟨rfl, hb2⟩
        have hs2 := hb2.size
        have hR2 := HRw.out.keep hb2
        have HR2 := Lib.hid hR2
        have HX2 : Hid (Below w.heap.size w w2) := Lib.hid (HX.out.trans (hb2.mono (by omega)))
        have HNs2 := Lib.hid (HNs.out.ext hb2)
        obtain ⟨cr, fr⟩ := hR2.facts
        clear hR2 hb2 cn fn hs2
        rw [testV_core HYs.out]
        rcases testV_form 6 o t n lp ll lc xs with ⟨e, h⟩ | ⟨cl, h⟩
        all_goals
          rw [h]
          go_simp
          repeat (first | go_values | go_skip | go_guarded | go_step | go_upon)
          have hb := HX2.out
          refine bodyPost_ret (ret_typed2 rfl _ rfl rfl (blk9 HR2.out _ _ _ _ _ _ _ _ _)) rfl ?_
          exact ⟨⟨lp, ll, lc, by rw [nodeV, if_neg (by decide), if_pos rfl, h]; rfl, HNs2.out.set9 HR2.out _ _ _ _ _ _ _ _ _⟩, by go_grown⟩
      · repeat (first | go_values | go_skip | go_guarded | go_step | go_upon)
        refine (HCl.out rfl wr (.slice op ds.length oc) ys lp ll lc HX.out HTw.out HYs.out).mono ?_
        rintro e w2 ⟨rfl, hb2⟩
        have hs2 := hb2.size
        have hR2 := HRw.out.keep hb2
        have HR2 := Lib.hid hR2
        have HX2 : Hid (Below w.heap.size w w2) := Lib.hid (HX.out.trans (hb2.mono (by omega)))
        have HNs2 := Lib.hid (HNs.out.ext hb2)
        obtain ⟨cr, fr⟩ := hR2.facts
        clear hR2 hb2 cn fn hs2
        rw [show tyV 11 o sm t n (.slice lp ll lc) cty 3 sm = .agg #[.int .i64 11, .int .i64 o, .string sm, .string t, .int .i64 n, .slice lp ll lc, .int .i64 cty, .int .i64 3, .string sm] from rfl]
        go_simp
        repeat (first | go_values | go_skip | go_guarded | go_step | go_upon)
        have hb := HX2.out
        refine bodyPost_ret (ret_typed2 rfl _ rfl rfl (blk9 HR2.out _ _ _ _ _ _ _ _ _)) rfl ?_
        exact ⟨⟨lp, ll, lc, rfl, HNs2.out.set9 HR2.out _ _ _ _ _ _ _ _ _⟩, by go_grown⟩
end Go.Proofs.YtaoikbpolckobaaGreatDoor
