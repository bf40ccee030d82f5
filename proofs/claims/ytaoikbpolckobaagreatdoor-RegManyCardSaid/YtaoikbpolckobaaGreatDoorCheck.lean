/-
  The first table is in order (Table.Check): its elements' weights go together, none is as high as those of no entry.
-/
import Derived.Test.YtaoikbpolckobaaGreatDoorReg
import Derived.Test.YtaoikbpolckobaaGreatDoorElemB
namespace Go.Proofs.YtaoikbpolckobaaGreatDoor
open Go.RowKit Go.Lib
set_option maxRecDepth 100000

/-- Under way: these entries are to come, all of the first table. -/
structure CkSt (w0 w : World) (b r : Nat) (L left : List (Value × Value)) : Prop where
  it : GIter Tryz.prog 169 w b r L left
  sub : ∀ x ∈ left, x ∈ L
  below : Below w0.heap.size w0 w
  hr : w0.heap.size ≤ r
/-- An entry of the first table: its key, and its elements in any later world. -/
theorem RootTo.entry {w : World} {b : Nat} (h : RootTo w b 132) {L : List (Value × Value)} (hL : GMap Tryz.prog 169 w b L) {x v : Value} (hm : (x, v) ∈ L) :
    ∃ c es, x = kS c ∧ c ≤ 1000 ∧ (∀ e ∈ es, El.good e) ∧ es.length ≤ 2 ∧ ReadsL w v (wordsE es) := by
  obtain ⟨L', h1, h2, h3, h4⟩ := h
  obtain rfl := hL.uniq h1
  obtain ⟨i, hi, he⟩ := List.getElem_of_mem hm
  have hr : rootL[i]? = some rootL[i] := List.getElem?_eq_getElem (by rw [rootL_length]; omega)
  obtain ⟨v', h5, h6⟩ := h4 i _ _ (by omega) hr
  rw [List.getElem?_eq_getElem hi, he] at h5
  obtain ⟨rfl, rfl⟩ := Prod.mk.inj (Option.some.inj h5)
  have hmem : rootL[i] ∈ rootL := List.getElem_mem _
  exact ⟨rootL[i].1, rootL[i].2, rfl, (rootL_ok _ hmem).1, fun e he => rootL_fit _ hmem e he, (rootL_ok _ hmem).2.1, h6⟩
set_option maxHeartbeats 4000000 in
theorem check_any (p : Nat) (w : World) (h : RootAt w p) : Calls Tryz.prog 155 #[.pointer (some ⟨p, 0, none⟩)] w fun e w' => e = .returned (.int .i64 0) ∧ Below w.heap.size w w' := by
  obtain ⟨b, T, f, hp, hR, _, _⟩ := h
  obtain ⟨L, hL, hk⟩ := hR.list
  have HL := Lib.hid hL
  have HR := Lib.hid hR
  have HE := Lib.hid (fun (x v : Value) (hm : (x, v) ∈ L) => hR.entry hL hm)
  have hbl := hL.lt
  obtain ⟨cp, fp⟩ := hp.facts
  have hpl := hp.lt
  clear hL hk hR hp
  go_enter Tryz.func155, Tryz.ntmps155
  go_wp2_with (refine wpList_grange rfl _ _ rfl _ _ Tryz.underlying166 b L rfl HL.out ?_; intro w1 hit hb1 hs1)
  go_frame
  have hS0 : CkSt w w1 b w.heap.size L L := ⟨hit, fun _ h => h, hb1, Nat.le_refl _⟩
  generalize w.heap.size = r at hS0 ⊢
  clear hit hb1 hs1
  have HS0 := Lib.hid hS0
  clear hS0
  go_loopw [14] (fun _ wr => ∃ left, CkSt w wr b r L left) (fun _ wr => gleft wr b r)
  case atStart => exact ⟨L, HS0.out⟩
  case round =>
    obtain ⟨left, hr⟩ := hrel
    have HR1 := Lib.hid hr
    clear hr
    go_wp2_with (refine wpList_gnext rfl _ rfl 169 b r L left rfl HR1.out.it ?_ ?_)
    · intro h0
      subst h0
      go_wp2_with fail
      go_ret
      exact ⟨rfl, HR1.out.below⟩
    · intro x v l1 l2 w2 hl hit2 hg2 hs2 hen
      subst hl
      have hm : (x, v) ∈ L := HR1.out.sub _ (by simp)
      obtain ⟨c, es, rfl, hc, hgood, hlen, hreads⟩ := HE.out x v hm
      have hb2 : Below w.heap.size w w2 := Below.grown HR1.out.below hg2 HR1.out.below.size (fun k hk => by cases hk; exact HR1.out.hr)
      have HI2 := Lib.hid hit2
      have HB2 := Lib.hid hb2
      have HV := Lib.hid hreads
      have HG := Lib.hid hgood
      clear hit2 hg2 hs2 hreads hgood hb2 hm
      rw [show kS c = .agg #[.int .i64 ((c : Int) + 1), .int .i64 0, .int .i64 0] from rfl] at hen
      go_wp2_with fail
      rw [show Value.agg #[.int .i64 ((c : Int) + 1), .int .i64 0, .int .i64 0] = kS c from rfl]
      refine (signs_one c (by omega) _).mono ?_
      rintro e w3 ⟨g, cap, rfl, hcell, hb3⟩
      have hE : Ext w2 w3 := Below.trans ((Ext.refl w2).alloc _) (Below.mono hb3 (by simp))
      have HE2 := Lib.hid hE
      clear hcell hb3 hE hen
      go_simp
      repeat (first | go_values | go_skip | go_guarded | go_step | go_upon)
      go_loopw [6] (fun v wq => v = .int .i64 1 ∧ wq = w3) (fun _ _ => 0)
      case atStart => exact ⟨rfl, rfl⟩
      case round =>
        obtain ⟨rfl, rfl⟩ := hrel
        go_simp
        repeat (first | go_values | go_skip | go_guarded | go_step | go_upon)
        refine (containsEl_none v es _ ((HV.out.ext HB2.out).ext HE2.out) (by omega) HG.out).mono ?_
        rintro e w4 ⟨rfl, rfl⟩
        have hit4 := HI2.out.keep HE2.out
        have hb4 : Below w.heap.size w _ := Below.trans HB2.out (Below.mono HE2.out HB2.out.size)
        go_simp
        repeat (first | go_values | go_skip | go_guarded | go_step | go_upon)
        go_roundw
        case rel => exact ⟨_, hit4, fun x hx => HR1.out.sub x (by simp at hx ⊢; rcases hx with h | h <;> simp [h]), hb4, HR1.out.hr⟩
        case measure => rw [hit4.count, HR1.out.it.count]; simp
end Go.Proofs.YtaoikbpolckobaaGreatDoor
