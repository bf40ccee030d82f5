/-
  One side of a comparison in the law of ranks: a column's name, with COLLATE or without.
-/
import Derived.Test.YtaoikbpolckobaaGreatDoorColl
import Derived.Test.YtaoikbpolckobaaGreatDoorBindJ
namespace Go.Proofs.YtaoikbpolckobaaGreatDoor
open Go.RowKit Go.Lib
set_option maxRecDepth 100000

/-- The node of one side. -/
def SideAt (w : World) (v : Value) (c p : ByteArray) : Prop :=
  (p = ⟨#[]⟩ ∧ v = (ndCol c ⟨#[]⟩).v) ∨ (Known p ∧ ∃ g, v = ndV 11 0 p ⟨#[]⟩ 0 (.slice (some ⟨g, 0, none⟩) 1 1) ∧ NodesAt w (.slice (some ⟨g, 0, none⟩) 1 1) [ndCol c ⟨#[]⟩])
theorem SideAt.ext {w w' : World} {v : Value} {c p : ByteArray} (h : SideAt w v c p) (hx : Ext w w') : SideAt w' v c p := by
  rcases h with h | ⟨h1, g, h2, h3⟩
  · exact .inl h
  · exact .inr ⟨h1, g, h2, h3.ext hx⟩
theorem Known.ne {s : ByteArray} (h : Known s) : (s.toList == []) = false := by
  rcases h with rfl | rfl | rfl <;> decide +kernel
set_option maxHeartbeats 4000000 in
theorem side_any (c p : ByteArray) (w : World) (hp : p = ⟨#[]⟩ ∨ Known p) : Calls Tryz.prog 17 #[.string c, .string p] w fun e w' => (∃ v, e = .returned v ∧ SideAt w' v c p) ∧ Below w.heap.size w w' := by
  rcases hp with rfl | hk
  · go_enter Tryz.func17, Tryz.ntmps17
    go_wp2_with fail
    go_returns
    exact ⟨⟨_, rfl, .inl ⟨rfl, rfl⟩⟩, by go_grown⟩
  · have hne := hk.ne
    have HK := Lib.hid hk
    clear hk
    go_enter Tryz.func17, Tryz.ntmps17
    go_wp2_with fail
    go_returns
    exact ⟨⟨_, rfl, .inr ⟨HK.out, _, rfl, NodesAt.ofBlk (Blk.new _ _ 31 (by simp)) [ndCol c ⟨#[]⟩] rfl⟩⟩, by go_grown⟩
/-- What one side is bound as. -/
def sideT (x : TyR) (p : ByteArray) : TyR := if p = ⟨#[]⟩ then x else ⟨11, 0, p, ⟨#[]⟩, 0, none, 0, 0, 3, 3, p⟩
theorem bnds_side {w : World} {b g c q : Nat} {v : Value} {s p : ByteArray} {x : TyR} (hv : SideAt w v s p) (hB : Blk w b #[.slice (some ⟨g, 0, none⟩) 7 c, .pointer (some ⟨q, 0, none⟩), .nilFunc] 136) (hF : FldsAt w g fds) (hR : RegAt w q) (hG : Glob w)
    (hx : colV 4 0 s ⟨#[]⟩ none 0 0 fds = .tuple #[tyV x.k x.o x.s x.t x.n (.slice none 0 0) x.ty x.r x.c, .int .i64 0]) (hty : x.ty = 3) : Bnds w b v (sideT x p) := by
  rcases hv with ⟨rfl, rfl⟩ | ⟨hk, gl, rfl, hN⟩
  · exact bnds_col hB hF s ⟨#[]⟩ x hx
  · have hpn : p ≠ ⟨#[]⟩ := by
      intro h
      have := hk.ne
      rw [h] at this
      exact absurd this (by decide +kernel)
    intro W hW
    refine (node_any b 11 0 p ⟨#[]⟩ 0 (some ⟨gl, 0, none⟩) 1 1 [ndCol s ⟨#[]⟩] [x] p 3 W (.inr (.inr rfl)) (fun h => by cases h) (fun h => by cases h) (hN.ext hW) (by simp) rfl (fun j d y hd hy => ?_) (fun _ W' v' ys lp ll lc hW' hT hys => ?_)).mono ?_
    · match j with
      | 0 =>
        simp at hd hy
        subst hd hy
        exact bnds_col (hB.keep hW) (hF.ext hW) s ⟨#[]⟩ _ hx
      | j + 1 => simp at hd
    · have hl : ys.length = 1 := by simpa using congrArg List.length hys
      obtain ⟨y, rfl⟩ := List.length_eq_one_iff.1 hl
      have hyc : y.core = x.core := by simpa using hys
      have hyt : y.ty = 3 := by have := congrArg TyR.ty hyc; simpa [TyR.core, hty] using this
      have h2 := hB.keep (Below.trans hW (show Below w.heap.size W W' from hW'.mono hW.size))
      have hE : Ext w W' := Below.trans hW (show Below w.heap.size W W' from hW'.mono hW.size)
      refine (collate_any b g c 7 q 11 0 p ⟨#[]⟩ 0 lp ll lc v' y W' hk h2 (hR.ext hE) (hG.keep hE) hT (by rw [hyt]; rfl)).mono ?_
      rintro e w' ⟨rfl, hb⟩
      exact ⟨by rw [hyt], hb⟩
    · rintro e w' ⟨⟨lp, ll, lc, rfl, _⟩, hb⟩
      refine ⟨⟨lp, ll, lc, ?_⟩, hb⟩
      rw [sideT, if_neg hpn]
      rfl
end Go.Proofs.YtaoikbpolckobaaGreatDoor
