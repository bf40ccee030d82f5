/-
  A collation by its name (reg.Get), for the first three.
-/
import Derived.Test.YtaoikbpolckobaaGreatDoorName
import Derived.Test.YtaoikbpolckobaaGreatDoorReg
import Derived.Test.YtaoikbpolckobaaGreatDoorBindG
import Derived.Test.YtaoikbpolckobaaGreatDoorValB
namespace Go.Proofs.YtaoikbpolckobaaGreatDoor
open Go.RowKit Go.Lib
set_option maxRecDepth 100000

/-- The names of the first three. -/
def Known (s : ByteArray) : Prop := s = ⟨#[98, 105, 110, 97, 114, 121]⟩ ∨ s = ⟨#[110, 111, 99, 97, 115, 101]⟩ ∨ s = ⟨#[114, 111, 111, 116]⟩
theorem known_name {s : ByteArray} (hk : Known s) (w : World) (hG : Glob w) : Calls Tryz.prog 41 #[.string s] w fun e w' => e = .returned (.tuple #[.string s, .bool true]) ∧ Below w.heap.size w w' := by
  rcases hk with rfl | rfl | rfl
  · exact name_any _ _ w (by decide +kernel) (by decide +kernel) (by decide +kernel) (by decide) (by decide) (by decide) (by decide) (by unfold AllIn; decide) hG.tabs
  · exact name_any _ _ w (by decide +kernel) (by decide +kernel) (by decide +kernel) (by decide) (by decide) (by decide) (by decide) (by unfold AllIn; decide) hG.tabs
  · exact name_any _ _ w (by decide +kernel) (by decide +kernel) (by decide +kernel) (by decide) (by decide) (by decide) (by decide) (by unfold AllIn; decide) hG.tabs
theorem blk5 {W : World} {g : Nat} {a b c d e : Value} {t : TypeId} (h : Blk W g #[a, b, c, d, e] t) (a' b' c' d' e' : Value) :
    Blk (((((W.setCell ⟨g, 0, none⟩ a').setCell ⟨g, 1, none⟩ b').setCell ⟨g, 2, none⟩ c').setCell ⟨g, 3, none⟩ d').setCell ⟨g, 4, none⟩ e') g #[a', b', c', d', e'] t :=
  ((((h.set 0 a').set 1 b').set 2 c').set 3 d').set 4 e'
theorem ret_coll2 {t u : Tmp} {fn : Func} (h : fn.results = #[.cell t 56, .tmp u]) (tmps : Array Value) {w : World} {g : Nat} {cs : Array Value} (hc : cs.size = 5) (hp : tmps.getD t undef = .pointer (some ⟨g, 0, none⟩)) (hg : Blk w g cs 56) :
    (results fn tmps).run Tryz.prog w = .ok (.tuple #[.agg cs, tmps.getD u undef]) w := by
  have hp' : tmps[t]?.getD undef = .pointer (some ⟨g, 0, none⟩) := by simpa using hp
  have hr := run_loadVar_row w g 56 56 cs (0, 0) _ hg Tryz.underlying56 rfl (by rw [hc]; kernel_rfl)
  simp [results, h, hp', asAddr, hr]
/-- Some collation. -/
def IsColl (v : Value) : Prop := ∃ (k l : Int) (a b : Bool) (p : Option Addr), v = .agg #[.int .i64 k, .int .i64 l, .bool a, .bool b, .pointer p]
theorem reg_has {w : World} {q : Nat} (h : RegAt w q) {s : ByteArray} (hk : Known s) : ∃ M l v, Blk w q #[.map (some M)] 132 ∧ GMap Tryz.prog 128 w M l ∧ (Value.agg #[.string s], v) ∈ l ∧ IsColl v := by
  obtain ⟨M, l, h1, h2, h3, h4, ⟨p, h5, h6⟩, h7⟩ := h
  rcases hk with rfl | rfl | rfl
  · exact ⟨M, l, _, h1, h2, h3, _, _, _, _, _, rfl⟩
  · exact ⟨M, l, _, h1, h2, h4, _, _, _, _, _, rfl⟩
  · exact ⟨M, l, _, h1, h2, h5, _, _, _, _, _, rfl⟩
set_option maxHeartbeats 4000000 in
theorem get_any (q : Nat) (s : ByteArray) (w : World) (hR : RegAt w q) (hk : Known s) (hG : Glob w) :
    Calls Tryz.prog 33 #[.pointer (some ⟨q, 0, none⟩), .string s] w fun e w' => (∃ v, IsColl v ∧ e = .returned (.tuple #[v, .bool true])) ∧ Below w.heap.size w w' := by
  have HR := Lib.hid hR
  have HG := Lib.hid hG
  have HK := Lib.hid hk
  clear hR hG hk
  go_enter Tryz.func33, Tryz.ntmps33
  repeat (first | go_values | go_skip | go_guarded | go_step | go_upon)
  have hT0 : Blk (w.alloc (.cells #[.int .i64 0, .int .i64 0, .bool false, .bool false, .pointer none] 56)) w.heap.size #[.int .i64 0, .int .i64 0, .bool false, .bool false, .pointer none] 56 := Blk.new w _ _ rfl
  have hx0 : Ext w (w.alloc (.cells #[.int .i64 0, .int .i64 0, .bool false, .bool false, .pointer none] 56)) := (Ext.refl _).alloc _
  generalize (w.alloc (.cells #[.int .i64 0, .int .i64 0, .bool false, .bool false, .pointer none] 56)) = W0 at hT0 hx0 ⊢
  refine (known_name HK.out W0 (HG.out.keep hx0)).mono ?_
  rintro e w2 ⟨rfl, hb2⟩
  have hT2 := hT0.keep hb2
  have HT2 := Lib.hid hT2
  obtain ⟨M, l, v, hq, hl, hm, hv⟩ := reg_has (HR.out.ext (Below.trans hx0 (hb2.mono hx0.size))) HK.out
  have HX2 : Hid (Below w.heap.size w w2) := Lib.hid (Below.trans hx0 (hb2.mono hx0.size))
  have HL := Lib.hid hl
  have HMm := Lib.hid hm
  obtain ⟨k1, l1, a1, b1, p1, rfl⟩ := hv
  obtain ⟨cq, fq⟩ := hq.facts
  obtain ⟨ct, ft⟩ := hT2.facts
  have hs2 := hT2.lt
  clear hT0 hx0 hb2 hT2 hl hm hq
  go_simp
  go_wp2_with (at_lookup; refine wpList_look rfl _ _ _ _ rfl M (.tuple #[.agg #[.int .i64 k1, .int .i64 l1, .bool a1, .bool b1, .pointer p1], .bool true]) rfl (HL.out.run_hit keyedName Tryz.underlying130 HMm.out true) ?_)
  have hb := HX2.out
  refine bodyPost_ret (ret_coll2 rfl _ rfl rfl ((blk5 HT2.out _ _ _ _ _).alloc _)) rfl ?_
  exact ⟨⟨_, ⟨k1, l1, a1, b1, p1, rfl⟩, rfl⟩, by go_grown⟩
end Go.Proofs.YtaoikbpolckobaaGreatDoor
