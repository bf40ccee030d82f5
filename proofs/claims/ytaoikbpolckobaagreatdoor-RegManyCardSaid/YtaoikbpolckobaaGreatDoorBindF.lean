/-
  Operands (binder.all): each is bound, from the left.
-/
import Derived.Test.YtaoikbpolckobaaGreatDoorBindE
namespace Go.Proofs.YtaoikbpolckobaaGreatDoor
open Go.RowKit
set_option maxRecDepth 100000

structure NdR where
  k : Int
  o : Int
  s : ByteArray
  t : ByteArray
  n : Int
  lp : Option Addr
  ll : Nat
  lc : Nat
def NdR.cells (x : NdR) : Array Value := #[.int .i64 x.k, .int .i64 x.o, .string x.s, .string x.t, .int .i64 x.n, .slice x.lp x.ll x.lc]
def NdR.v (x : NdR) : Value := ndV x.k x.o x.s x.t x.n (.slice x.lp x.ll x.lc)
/-- A slice of nodes. -/
def NodesAt (w : World) (v : Value) (ds : List NdR) : Prop :=
  (v = .slice none 0 0 ∧ ds = []) ∨ ∃ g c, v = .slice (some ⟨g, 0, none⟩) ds.length c ∧ ds.length ≤ c ∧ g < w.heap.size ∧
    ∀ (j : Nat) (x : NdR), ds[j]? = some x → ∀ i, i < 6 → w.cell? ⟨g, j * 6 + i, none⟩ = x.cells[i]?
theorem NodesAt.ext {w w' : World} {v : Value} {ds : List NdR} (h : NodesAt w v ds) (hx : Ext w w') : NodesAt w' v ds := by
  rcases h with h | ⟨g, c, h1, h2, h3, h4⟩
  · exact .inl h
  · exact .inr ⟨g, c, h1, h2, Nat.lt_of_lt_of_le h3 hx.size, fun j x hj i hi => by rw [hx.cell (p := ⟨g, j * 6 + i, none⟩) h3]; exact h4 j x hj i hi⟩
/-- What a bound node is, but for where its operands lie. -/
def TyR.core (x : TyR) : TyR := { x with lp := none, ll := 0, lc := 0 }
/-- A node is bound, and is x then, but for where its operands lie. -/
def Bnds (w : World) (b : Nat) (v : Value) (x : TyR) : Prop :=
  ∀ W, Ext w W → Calls Tryz.prog 61 #[.pointer (some ⟨b, 0, none⟩), v] W fun e W' => (∃ lp ll lc, e = .returned (.tuple #[tyV x.k x.o x.s x.t x.n (.slice lp ll lc) x.ty x.r x.c, .int .i64 0])) ∧ Below W.heap.size W W'
theorem Bnds.ext {w w' : World} {b : Nat} {v : Value} {x : TyR} (h : Bnds w b v x) (hx : Ext w w') : Bnds w' b v x := fun W hW => h W (Below.trans hx (show Below w.heap.size w' W from Below.mono hW hx.size))
theorem kindL_core : ∀ (l : List TyR) (m : Int), kindL (l.map TyR.core) m = kindL l m
  | [], m => rfl
  | x :: l, m => by
    simp only [List.map_cons, kindL, kindL_core l, show x.core.ty = x.ty from rfl]
theorem combL_core : ∀ (l : List TyR) (d : Int × ByteArray) (b : Bool), combL (l.map TyR.core) d b = combL l d b
  | [], d, b => rfl
  | x :: l, d, b => by
    simp only [List.map_cons, combL, combL_core l, show x.core.ty = x.ty from rfl, show x.core.r = x.r from rfl, show x.core.c = x.c from rfl]
theorem testV_core {ys xs : List TyR} (h : ys.map TyR.core = xs.map TyR.core) (k o : Int) (t : ByteArray) (n : Int) (lp : Option Addr) (ll lc : Nat) : testV k o t n lp ll lc ys = testV k o t n lp ll lc xs := by
  unfold testV
  rw [← kindL_core ys, ← combL_core ys, h, kindL_core, combL_core]
theorem flat_get {α : Type} (f : α → List Value) (m : Nat) (hf : ∀ x, (f x).length = m) : ∀ (l : List α) (j : Nat) (x : α), l[j]? = some x → ∀ i, i < m → (l.flatMap f)[j * m + i]? = (f x)[i]?
  | [], j, x, h, i, hi => by simp at h
  | y :: l, 0, x, h, i, hi => by
    simp at h
    subst h
    rw [List.flatMap_cons, Nat.zero_mul, Nat.zero_add, List.getElem?_append_left (by rw [hf]; exact hi)]
  | y :: l, j + 1, x, h, i, hi => by
    have h' : l[j]? = some x := by simpa using h
    rw [List.flatMap_cons, List.getElem?_append_right (by rw [hf, Nat.succ_mul]; omega), hf, show (j + 1) * m + i - m = j * m + i by rw [Nat.succ_mul]; omega]
    exact flat_get f m hf l j x h' i hi
def tycs (ys : List TyR) : List Value := ys.flatMap fun y => y.cells.toList
theorem TypsAt.own {w : World} {B : Nat} {v : Value} {ys : List TyR} (h : w.ownsRow B 36 9 v ys.length (tycs ys)) : TypsAt w v ys := by
  have h0 := h
  rcases h.2 with ⟨rfl, hn⟩ | ⟨g, cap, cur, rfl, _, hh, hn, _⟩
  · exact .inl ⟨rfl, List.eq_nil_of_length_eq_zero hn⟩
  · refine .inr ⟨g, cap, rfl, hn, (Array.getElem?_eq_some_iff.1 hh).1, fun j x hj i hi => ?_⟩
    have hl : j < ys.length := (List.getElem?_eq_some_iff.1 hj).1
    rw [h0.cellAt (j * 9 + i) (by omega), tycs, flat_get (fun y => y.cells.toList) 9 (fun _ => rfl) ys j x hj i hi]
    simp
theorem infoTy : (Tryz.prog.info? 36).map (fun i => (i.zero, i.size, i.bytes)) = some (some (.agg #[.int .i64 0, .int .i64 0, .string ⟨#[]⟩, .string ⟨#[]⟩, .int .i64 0, .slice none 0 0, .int .i64 0, .int .i64 0, .string ⟨#[]⟩]), 9, 112) := by kernel_rfl
set_option maxHeartbeats 8000000 in
theorem all_any (b : Nat) (v : Value) (ds : List NdR) (xs : List TyR) (w : World) (hv : NodesAt w v ds) (hlen : ds.length ≤ 1000) (hx : xs.length = ds.length)
    (hB : ∀ (j : Nat) (d : NdR) (x : TyR), ds[j]? = some d → xs[j]? = some x → Bnds w b d.v x) :
    Calls Tryz.prog 94 #[.pointer (some ⟨b, 0, none⟩), v] w fun e w' => (∃ ov ys, e = .returned (.tuple #[ov, .int .i64 0]) ∧ ys.map TyR.core = xs.map TyR.core ∧ TypsAt w' ov ys ∧ ∀ g, ov.ownBlock = some g → w.heap.size ≤ g) ∧ Below w.heap.size w w' := by
  rcases hv with ⟨rfl, rfl⟩ | ⟨g, c, rfl, hc, hgl, hcell⟩
  · clear hB
    go_enter Tryz.func94, Tryz.ntmps94
    go_wp2_with fail
    go_loopw [6, 13] (fun v i W => v = .slice none 0 0 ∧ i = .int .i64 0 ∧ Below w.heap.size w W) (fun _ _ _ => 0)
    case atStart => exact ⟨rfl, rfl, Below.refl _ _⟩
    case round =>
      obtain ⟨rfl, rfl, hX⟩ := hrel
      have HX := Lib.hid hX
      clear hX
      repeat (first | go_values | go_skip | go_guarded | go_step | go_upon)
      go_ret2
      exact ⟨⟨_, [], rfl, by rw [List.eq_nil_of_length_eq_zero hx], .inl ⟨rfl, rfl⟩, fun g hg => by simp [Value.ownBlock] at hg⟩, HX.out⟩
  · have HC := Lib.hid hcell
    have HBn := Lib.hid hB
    clear hcell hB
    go_enter Tryz.func94, Tryz.ntmps94
    go_wp2_with fail
    go_loopw [6, 13] (fun v i W => ∃ ys : List TyR, ys.length ≤ ds.length ∧ i = .int .i64 ys.length ∧ W.ownsRow w.heap.size 36 9 v ys.length (tycs ys) ∧ Below w.heap.size w W ∧ ys.map TyR.core = (xs.take ys.length).map TyR.core) (fun _ i _ => ds.length - (intOf i).toNat)
    case atStart => exact ⟨[], Nat.zero_le _, rfl, World.ownsRow_nil _ _ _ _, Below.refl _ _, by simp⟩
    case round =>
      obtain ⟨ys, hle, rfl, hown, hX, hys⟩ := hrel
      have HO := Lib.hid hown
      have HX := Lib.hid hX
      have HY := Lib.hid hys
      generalize hj : ys.length = j at hle hown ⊢
      by_cases hlt : j < ds.length
      · have hx0 : ds[j]? = some ds[j] := List.getElem?_eq_getElem hlt
        have hcs : ∀ i, i < 6 → wr.cell? ⟨g, j * 6 + i, none⟩ = (ds[j]).cells[i]? := fun i hi => by rw [hX.cell (p := ⟨g, j * 6 + i, none⟩) hgl]; exact HC.out j _ hx0 i hi
        have hxj : xs[j]? = some xs[j] := List.getElem?_eq_getElem (by omega)
        have hbn := (HBn.out j _ _ hx0 hxj).ext hX
        have c0 := hcs 0 (by decide)
        have c1 := hcs 1 (by decide)
        have c2 := hcs 2 (by decide)
        have c3 := hcs 3 (by decide)
        have c4 := hcs 4 (by decide)
        have c5 := hcs 5 (by decide)
        have HXJ := Lib.hid hxj
        clear hcs hx0 hX hown hys hxj
        generalize ds[j] = d at c0 c1 c2 c3 c4 c5 hbn
        generalize xs[j] = x at hbn HXJ
        obtain ⟨dk, d_o, dss, dt, dn, dlp, dll, dlc⟩ := d
        have HBN := Lib.hid hbn
        clear hbn
        simp [NdR.cells] at c0 c1 c2 c3 c4 c5
        repeat (first | go_values | go_skip | go_guarded | go_step | go_upon)
        refine (HBN.out _ ((Ext.refl _).alloc _)).mono ?_
        rintro e w2 ⟨⟨lp, ll, lc, rfl⟩, hb2⟩
        obtain ⟨xk, xo, xs', xt, xn, xlp, xll, xlc, xty, xr, xc⟩ := x
        have HO2 := Lib.hid (ownsRow_ext (HO.out.alloc _) hb2)
        have HB2 : Hid (Below w.heap.size w w2) := Lib.hid (Below.trans (HX.out.alloc HX.out.size _) (hb2.mono (by have := HX.out.size; simp; omega)))
        clear hb2
        rw [show tyV xk xo xs' xt xn (.slice lp ll lc) xty xr xc = .agg #[.int .i64 xk, .int .i64 xo, .string xs', .string xt, .int .i64 xn, .slice lp ll lc, .int .i64 xty, .int .i64 xr, .string xc] from rfl]
        have hle' : j ≤ 1000 := by omega
        go_simp
        go_wp2_with (at_builtin; go_must (refine wpList_push rfl _ _ 180 rfl w.heap.size 36 (.agg #[.int .i64 0, .int .i64 0, .string ⟨#[]⟩, .string ⟨#[]⟩, .int .i64 0, .slice none 0 0, .int .i64 0, .int .i64 0, .string ⟨#[]⟩]) 9 112 Tryz.underlying180 infoTy rfl (by decide) _ _ _ rfl ((HO2.out.alloc _).alloc _) _ 36 #[.int .i64 xk, .int .i64 xo, .string xs', .string xt, .int .i64 xn, .slice lp ll lc, .int .i64 xty, .int .i64 xr, .string xc] rfl (Blk.new _ _ _ (by simp)) rfl ?_ ?_ ?_ ?_ ?_))
        case refine_1 => simp [Value.oneCell']
        case refine_2 => rw [hj]; unfold maxLen; omega
        case refine_3 => rw [hj]; omega
        case refine_4 => have := HB2.out.size; simp; omega
        case refine_5 =>
          intro v' w3 hown3 hgr _
          have hb3 : Below w.heap.size w w3 := ((HB2.out.alloc HB2.out.size _).alloc (Nat.le_trans HB2.out.size (by simp)) _).grown hgr (Nat.le_trans HB2.out.size (by simp; omega)) (fun g hg => (HO2.out.lt g hg).1)
          have HO3 := Lib.hid hown3
          have HB3 := Lib.hid hb3
          clear hown3 hb3 hgr
          repeat (first | go_values | go_skip | go_guarded | go_step | go_upon)
          go_roundw
          case rel =>
            refine ⟨ys ++ [⟨xk, xo, xs', xt, xn, lp, ll, lc, xty, xr, xc⟩], by simp; omega, by simp [hj], ?_, HB3.out, ?_⟩
            · have := HO3.out
              simpa [tycs, TyR.cells, hj] using this
            · have hxs := List.take_succ_eq_append_getElem (l := xs) (i := j) (by omega)
              have hxe : xs[j] = ⟨xk, xo, xs', xt, xn, xlp, xll, xlc, xty, xr, xc⟩ := by
                have := HXJ.out
                rw [List.getElem?_eq_getElem (by omega)] at this
                exact Option.some.inj this
              rw [List.length_append, List.length_singleton, hj, hxs, List.map_append, List.map_append, HY.out, hj, hxe]
              rfl
          case measure => simp [intOf]; omega
      · obtain rfl : j = ds.length := by omega
        repeat (first | go_values | go_skip | go_guarded | go_step | go_upon)
        go_ret2
        exact ⟨⟨_, ys, rfl, by rw [HY.out, hj, ← hx, List.take_length], TypsAt.own HO.out, fun g hg => (HO.out.lt g hg).1⟩, HX.out⟩
end Go.Proofs.YtaoikbpolckobaaGreatDoor
