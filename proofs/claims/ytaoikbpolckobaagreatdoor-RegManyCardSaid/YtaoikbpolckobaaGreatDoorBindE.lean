/-
  Names of columns (binder.column).
-/
import Derived.Test.YtaoikbpolckobaaGreatDoorBindD
namespace Go.Proofs.YtaoikbpolckobaaGreatDoor
open Go.RowKit
set_option maxRecDepth 100000

structure FdR where
  tb : ByteArray
  nm : ByteArray
  cl : ByteArray
  ty : Int
def FdR.cells (x : FdR) : Array Value := #[.string x.tb, .string x.nm, .string x.cl, .int .i64 x.ty]
/-- Columns that may be named. -/
def FldsAt (w : World) (g : Nat) (fs : List FdR) : Prop :=
  g < w.heap.size ∧ ∀ (j : Nat) (x : FdR), fs[j]? = some x → ∀ i, i < 4 → w.cell? ⟨g, j * 4 + i, none⟩ = x.cells[i]?
theorem FldsAt.ext {w w' : World} {g : Nat} {fs : List FdR} (h : FldsAt w g fs) (hx : Ext w w') : FldsAt w' g fs :=
  ⟨Nat.lt_of_lt_of_le h.1 hx.size, fun j x hj i hi => by rw [hx.cell (p := ⟨g, j * 4 + i, none⟩) h.1]; exact h.2 j x hj i hi⟩
def hitF (x : FdR) (s t : ByteArray) : Bool := ((x.tb.toList == t.toList) && (x.nm.toList == s.toList)) || ((t.toList == []) && (x.nm.toList == s.toList))
def findF (s t : ByteArray) : List FdR → Nat → Option Nat → Option Nat
  | [], _, fd => fd
  | x :: xs, i, fd => if hitF x s t = true then (match fd with | some _ => none | none => findF s t xs (i + 1) (some i)) else findF s t xs (i + 1) fd
def encF : Option Nat → Int
  | none => -1
  | some i => (i : Int)
def colV (k o : Int) (s t : ByteArray) (lp : Option Addr) (ll lc : Nat) (fs : List FdR) : Value :=
  match findF s t fs 0 none with
  | none => tyErr 11
  | some i => match fs[i]? with
    | none => tyErr 11
    | some x => .tuple #[tyV k o s t (i : Int) (.slice lp ll lc) x.ty (if x.ty = 3 then 1 else 0) (if x.ty = 3 then x.cl else ⟨#[]⟩), .int .i64 0]
set_option maxHeartbeats 8000000 in
theorem column_any (b g c q : Nat) (k o : Int) (s t : ByteArray) (n : Int) (lp : Option Addr) (ll lc : Nat) (fs : List FdR) (w : World) (hlen : fs.length ≤ 1000000)
    (hB : Blk w b #[.slice (some ⟨g, 0, none⟩) fs.length c, .pointer (some ⟨q, 0, none⟩), .nilFunc] 136) (hF : FldsAt w g fs) :
    Calls Tryz.prog 93 #[.pointer (some ⟨b, 0, none⟩), ndV k o s t n (.slice lp ll lc)] w fun e w' => e = .returned (colV k o s t lp ll lc fs) ∧ Below w.heap.size w w' := by
  obtain ⟨hgl, hcell⟩ := hF
  have HC := Lib.hid hcell
  have HBd := Lib.hid hB
  obtain ⟨cb, fb⟩ := hB.facts
  have hbl := hB.lt
  clear hcell hB
  rw [show ndV k o s t n (.slice lp ll lc) = .agg #[.int .i64 k, .int .i64 o, .string s, .string t, .int .i64 n, .slice lp ll lc] from rfl]
  go_enter Tryz.func93, Tryz.ntmps93
  go_wp2_with fail
  have hA : Blk ((w.alloc (.cells #[.int .i64 k, .int .i64 o, .string s, .string t, .int .i64 n, .slice lp ll lc] 31)).alloc (.cells #[.int .i64 0, .int .i64 0, .string ⟨#[]⟩, .string ⟨#[]⟩, .int .i64 0, .slice none 0 0, .int .i64 0, .int .i64 0, .string ⟨#[]⟩] 36)) w.heap.size #[.int .i64 k, .int .i64 o, .string s, .string t, .int .i64 n, .slice lp ll lc] 31 := (Blk.new w #[.int .i64 k, .int .i64 o, .string s, .string t, .int .i64 n, .slice lp ll lc] 31 rfl).alloc _
  have hR0 : Blk ((w.alloc (.cells #[.int .i64 k, .int .i64 o, .string s, .string t, .int .i64 n, .slice lp ll lc] 31)).alloc (.cells #[.int .i64 0, .int .i64 0, .string ⟨#[]⟩, .string ⟨#[]⟩, .int .i64 0, .slice none 0 0, .int .i64 0, .int .i64 0, .string ⟨#[]⟩] 36)) (w.heap.size + 1) #[.int .i64 0, .int .i64 0, .string ⟨#[]⟩, .string ⟨#[]⟩, .int .i64 0, .slice none 0 0, .int .i64 0, .int .i64 0, .string ⟨#[]⟩] 36 := Blk.new (w.alloc (.cells #[.int .i64 k, .int .i64 o, .string s, .string t, .int .i64 n, .slice lp ll lc] 31)) #[.int .i64 0, .int .i64 0, .string ⟨#[]⟩, .string ⟨#[]⟩, .int .i64 0, .slice none 0 0, .int .i64 0, .int .i64 0, .string ⟨#[]⟩] 36 (by simp)
  have hb0 : Below w.heap.size w ((w.alloc (.cells #[.int .i64 k, .int .i64 o, .string s, .string t, .int .i64 n, .slice lp ll lc] 31)).alloc (.cells #[.int .i64 0, .int .i64 0, .string ⟨#[]⟩, .string ⟨#[]⟩, .int .i64 0, .slice none 0 0, .int .i64 0, .int .i64 0, .string ⟨#[]⟩] 36)) := by go_grown
  generalize ((w.alloc (.cells #[.int .i64 k, .int .i64 o, .string s, .string t, .int .i64 n, .slice lp ll lc] 31)).alloc (.cells #[.int .i64 0, .int .i64 0, .string ⟨#[]⟩, .string ⟨#[]⟩, .int .i64 0, .slice none 0 0, .int .i64 0, .int .i64 0, .string ⟨#[]⟩] 36)) = W0 at hA hR0 hb0 ⊢
  go_loopw [6, 17] (fun fv i W => ∃ (j : Nat) (fd : Option Nat), j ≤ fs.length ∧ fv = .int .i64 (encF fd) ∧ i = .int .i64 j ∧ (∀ x, fd = some x → x < j) ∧ findF s t fs 0 none = findF s t (fs.drop j) j fd ∧ Blk W w.heap.size #[.int .i64 k, .int .i64 o, .string s, .string t, .int .i64 n, .slice lp ll lc] 31 ∧ Blk W (w.heap.size + 1) #[.int .i64 0, .int .i64 0, .string ⟨#[]⟩, .string ⟨#[]⟩, .int .i64 0, .slice none 0 0, .int .i64 0, .int .i64 0, .string ⟨#[]⟩] 36 ∧ Below w.heap.size w W) (fun _ i _ => fs.length - (intOf i).toNat)
  case atStart => exact ⟨0, none, Nat.zero_le _, rfl, rfl, fun x h => (by cases h), rfl, hA, hR0, hb0⟩
  case round =>
    obtain ⟨j, fd, hj, rfl, rfl, hfd, hfl, hN, hR, hX⟩ := hrel
    have HN := Lib.hid hN
    have HR := Lib.hid hR
    have HX := Lib.hid hX
    have HK := Lib.hid hfl
    have HFd := Lib.hid hfd
    obtain ⟨cn, fn⟩ := hN.facts
    obtain ⟨cr, fr⟩ := hR.facts
    have hs := hR.lt
    by_cases hlt : j < fs.length
    · have hx : fs[j]? = some fs[j] := List.getElem?_eq_getElem hlt
      have hcs : ∀ i, i < 4 → wr.cell? ⟨g, j * 4 + i, none⟩ = (fs[j]).cells[i]? := fun i hi => by rw [hX.cell (p := ⟨g, j * 4 + i, none⟩) hgl]; exact HC.out j _ hx i hi
      have HDr := Lib.hid (List.drop_eq_getElem_cons hlt)
      have c0 := hcs 0 (by decide)
      have c1 := hcs 1 (by decide)
      have c2 := hcs 2 (by decide)
      have c3 := hcs 3 (by decide)
      clear hcs hx hN hR hX hfl hA hR0 hb0 hfd
      generalize fs[j] = x at c0 c1 c2 c3 HDr
      obtain ⟨xt, xn, xc, xty⟩ := x
      simp [FdR.cells] at c0 c1 c2 c3
      have hs1 : w.heap.size < wr.heap.size := by omega
      cases h1 : (xt.toList == t.toList) <;> cases h2 : (xn.toList == s.toList) <;> cases h3 : (t.toList == []) <;> rcases fd with _ | fi
      all_goals
        have hh : hitF ⟨xt, xn, xc, xty⟩ s t = ((xt.toList == t.toList) && (xn.toList == s.toList) || (t.toList == []) && (xn.toList == s.toList)) := rfl
        rw [h1, h2, h3] at hh
        simp only [encF]
        repeat (first | go_values | go_skip | go_guarded | go_step | go_upon)
      all_goals first
        | (go_roundw
           case rel => first
             | exact ⟨j + 1, none, by omega, rfl, by go_num, fun x h => (by first | (cases h; done) | (have := HFd.out x h; omega) | (cases h; omega)), by rw [HK.out, HDr.out, findF]; simp [hh], HN.out.alloc _, HR.out.alloc _, by have := HX.out; go_grown⟩
             | exact ⟨j + 1, some fi, by omega, rfl, by go_num, fun x h => (by first | (cases h; done) | (have := HFd.out x h; omega) | (cases h; omega)), by rw [HK.out, HDr.out, findF]; simp [hh], HN.out.alloc _, HR.out.alloc _, by have := HX.out; go_grown⟩
             | exact ⟨j + 1, some j, by omega, rfl, by go_num, fun x h => (by first | (cases h; done) | (have := HFd.out x h; omega) | (cases h; omega)), by rw [HK.out, HDr.out, findF]; simp [hh], HN.out.alloc _, HR.out.alloc _, by have := HX.out; go_grown⟩
           case measure => simp [intOf]; omega)
        | (have hb := HX.out
           have hd : findF s t fs 0 none = none := by rw [HK.out, HDr.out, findF]; simp [hh]
           refine bodyPost_ret (ret_typed2 rfl _ rfl rfl ((blk9 HR.out _ _ _ _ _ _ _ _ _).alloc _)) rfl ?_
           exact ⟨by rw [colV, hd]; rfl, by go_grown⟩)
    · obtain rfl : j = fs.length := by omega
      have hfe : findF s t fs 0 none = fd := by rw [hfl, List.drop_length]; rfl
      have HFe := Lib.hid hfe
      have hs1 : w.heap.size < wr.heap.size := by omega
      rcases fd with _ | i
      · clear hX hN hR hfl hA hR0 hb0 hfd hfe
        simp only [encF]
        repeat (first | go_values | go_skip | go_guarded | go_step | go_upon)
        have hb := HX.out
        refine bodyPost_ret (ret_typed2 rfl _ rfl rfl (blk9 HR.out _ _ _ _ _ _ _ _ _)) rfl ?_
        exact ⟨by rw [colV, HFe.out]; rfl, by go_grown⟩
      · have hi := hfd i rfl
        have hx : fs[i]? = some fs[i] := List.getElem?_eq_getElem hi
        have HI := Lib.hid hx
        have hcs : ∀ j, j < 4 → wr.cell? ⟨g, i * 4 + j, none⟩ = (fs[i]).cells[j]? := fun j hj => by rw [hX.cell (p := ⟨g, i * 4 + j, none⟩) hgl]; exact HC.out i _ hx j hj
        have c0 := hcs 0 (by decide)
        have c1 := hcs 1 (by decide)
        have c2 := hcs 2 (by decide)
        have c3 := hcs 3 (by decide)
        have hcbw : ∀ o, wr.cell? ⟨b, o, none⟩ = w.cell? ⟨b, o, none⟩ := fun o => hX.cell (p := ⟨b, o, none⟩) hbl
        clear hcs hx hX hN hR hfl hA hR0 hb0 hfd hfe hj hlt
        generalize fs[i] = x at c0 c1 c2 c3 HI
        obtain ⟨xt, xn, xc, xty⟩ := x
        simp [FdR.cells] at c0 c1 c2 c3
        have hcb : ∀ o, wr.cell? ⟨b, o, none⟩ = #[.slice (some ⟨g, 0, none⟩) fs.length c, .pointer (some ⟨q, 0, none⟩), .nilFunc][o]? := fun o => by rw [hcbw, cb]
        clear hcbw
        simp only [encF]
        cases hT : (xty == 3)
        all_goals
          repeat (first | go_values | go_skip | go_guarded | go_step | go_upon)
        all_goals
          have hb := HX.out
          refine bodyPost_ret (ret_typed2 rfl _ rfl rfl (((blk9 (HR.out.other (a := ⟨w.heap.size, 4, none⟩) (by simp) (.int .i64 (i : Int))) _ _ _ _ _ _ _ _ _).alloc _).alloc _)) rfl ?_
          refine ⟨?_, by go_grown⟩
          rw [colV, HFe.out]
          simp only [HI.out]
          have h3 : xty = 3 ↔ (xty == 3) = true := by simp
          simp [hT, h3]
          rfl
end Go.Proofs.YtaoikbpolckobaaGreatDoor
