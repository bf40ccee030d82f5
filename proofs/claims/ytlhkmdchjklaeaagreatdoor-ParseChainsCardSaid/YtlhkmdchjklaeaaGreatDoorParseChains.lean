/-
  Ops of one level go on from left to right, stronger ones first: for every row of names with any two ops between by turns (umlautlaw18.ParseChains).
-/
import Derived.Test.YtlhkmdchjklaeaaGreatDoorAwake18
import Derived.Test.YtlhkmdchjklaeaaGreatDoorChainsQ
namespace Go.Proofs.YtlhkmdchjklaeaaGreatDoor
open Go.RowKit Go.Lib
set_option maxRecDepth 100000

theorem and_mask16c (n : Int) : bits BinOp.and IntKind.i64 n 65535 = n % 65536 := by
  have e : (BitVec.ofInt 64 n &&& BitVec.ofInt 64 65535).toNat = (n % 65536).toNat := by
    rw [BitVec.toNat_and]
    have h : (BitVec.ofInt 64 65535).toNat = 2 ^ 16 - 1 := by decide
    rw [h, Nat.and_two_pow_sub_one_eq_mod, BitVec.toNat_ofInt]
    omega
  show IntKind.i64.wrap ((BitVec.ofInt 64 n &&& BitVec.ofInt 64 65535).toNat : Int) = _
  rw [e, IntWalk.i64_in _ (by omega)]
  omega
theorem and_mask7c (n : Int) : bits BinOp.and IntKind.i64 n 7 = n % 8 := by
  have e : (BitVec.ofInt 64 n &&& BitVec.ofInt 64 7).toNat = (n % 8).toNat := by
    rw [BitVec.toNat_and]
    have h : (BitVec.ofInt 64 7).toNat = 2 ^ 3 - 1 := by decide
    rw [h, Nat.and_two_pow_sub_one_eq_mod, BitVec.toNat_ofInt]
    omega
  show IntKind.i64.wrap ((BitVec.ofInt 64 n &&& BitVec.ofInt 64 7).toNat : Int) = _
  rw [e, IntWalk.i64_in _ (by omega)]
  omega
theorem ba_app (a b : List UInt8) : (⟨a.toArray⟩ : ByteArray) ++ ⟨b.toArray⟩ = ⟨(a ++ b).toArray⟩ := by
  apply ByteArray.ext
  simp
theorem pick7 (a : Int) : ∃ x : Nat, x < 7 ∧ (bits BinOp.and IntKind.i64 a 65535).tmod 7 = (x : Int) := by
  rw [and_mask16c, Int.tmod_eq_emod_of_nonneg (by omega)]
  exact ⟨(a % 65536 % 7).toNat, by omega, by omega⟩
theorem ops_at (k : Nat) (h : k < 7) : (#[.string ⟨#[79, 82]⟩, .string ⟨#[65, 78, 68]⟩, .string ⟨#[124]⟩, .string ⟨#[38]⟩, .string ⟨#[60, 60]⟩, .string ⟨#[43]⟩, .string ⟨#[42]⟩] : Array Value)[k]? = some (.string ⟨((opsC[k]?).getD []).toArray⟩) := by
  rcases (by omega : k = 0 ∨ k = 1 ∨ k = 2 ∨ k = 3 ∨ k = 4 ∨ k = 5 ∨ k = 6) with rfl | rfl | rfl | rfl | rfl | rfl | rfl <;> rfl
theorem opsC_few (k : Nat) : ((opsC[k]?).getD []).length ≤ 3 := by
  by_cases h : k < 7
  · rcases (by omega : k = 0 ∨ k = 1 ∨ k = 2 ∨ k = 3 ∨ k = 4 ∨ k = 5 ∨ k = 6) with rfl | rfl | rfl | rfl | rfl | rfl | rfl <;> decide
  · rw [List.getElem?_eq_none (by simp [opsC]; omega)]; simp
theorem chS_len (x y : Nat) : ∀ i, (chS x y i).length ≤ 1 + 6 * i
  | 0 => by simp [chS]
  | i + 1 => by
    have h := chS_len x y i
    have h2 := opsC_few (chOp x y i)
    rw [chS]
    simp only [List.length_append, List.length_cons, List.length_nil]
    omega
theorem LeP.sets6 {p : Nat} {w : World} (a b c d e f : Value) : LeP p w ((((((w.setCell ⟨p, 0, none⟩ a).setCell ⟨p, 1, none⟩ b).setCell ⟨p, 2, none⟩ c).setCell ⟨p, 3, none⟩ d).setCell ⟨p, 4, none⟩ e).setCell ⟨p, 5, none⟩ f) :=
  (((((LeP.set 0 a).trans (LeP.set 1 b)).trans (LeP.set 2 c)).trans (LeP.set 3 d)).trans (LeP.set 4 e)).trans (LeP.set 5 f)
set_option maxHeartbeats 16000000 in
theorem law_chains (a b n : Int) (w : World) (hG : GlobL w) : Calls Tryz.prog 3 #[.int .i64 a, .int .i64 b, .int .i64 n] w fun e w' => e = .returned (.bool true) ∧ Below w.heap.size w w' := by
  obtain ⟨x, hx7, hx⟩ := pick7 a
  obtain ⟨y, hy7, hy⟩ := pick7 b
  obtain ⟨m, hm8, hm⟩ : ∃ m : Nat, m < 8 ∧ bits BinOp.and IntKind.i64 n 7 = (m : Int) := ⟨(n % 8).toNat, by omega, by rw [and_mask7c]; omega⟩
  obtain ⟨N, hNN⟩ : ∃ N : Nat, N = m + 2 := ⟨_, rfl⟩
  have hN := (IntWalk.i64_in ((m : Int) + 2) (by omega)).trans (show (m : Int) + 2 = (N : Int) by omega)
  have hN2 := (IntWalk.wrap64_in ((m : Int) + 2) (by omega)).trans (show (m : Int) + 2 = (N : Int) by omega)
  obtain ⟨T, t, out, hE, hp⟩ := chkG_facts (chk_all x y m hx7 hy7 hm8)
  rw [← hNN] at hE hp
  have hN9 : N ≤ 9 := by omega
  clear hNN
  simp only [Bool.and_eq_true, beq_iff_eq, decide_eq_true_eq] at hp
  obtain ⟨⟨hp1, hp2⟩, hp3⟩ := hp
  have KE := Lib.hid (fun W hG => hE.exprC W hG)
  have KS := Lib.hid (fun x A W a b c => hE.showC x A W a b c)
  have KA := Lib.hid (fun W hG => awake18_any W hG)
  have HG := Lib.hid hG
  have HP := Lib.hid (And.intro hp1 (And.intro hp2 hp3))
  clear hE hG hp1 hp2 hp3
  go_enter Tryz.func3, Tryz.ntmps3
  go_simp
  repeat (first | go_values | go_skip | go_guarded | go_step | go_upon)
  have HO := Lib.hid (Blk.new w #[.string ⟨#[79, 82]⟩, .string ⟨#[65, 78, 68]⟩, .string ⟨#[124]⟩, .string ⟨#[38]⟩, .string ⟨#[60, 60]⟩, .string ⟨#[43]⟩, .string ⟨#[42]⟩] 9 rfl)
  have HXo := Lib.hid (show Ext w (w.alloc (.cells #[.string ⟨#[79, 82]⟩, .string ⟨#[65, 78, 68]⟩, .string ⟨#[124]⟩, .string ⟨#[38]⟩, .string ⟨#[60, 60]⟩, .string ⟨#[43]⟩, .string ⟨#[42]⟩] 9)) from (Ext.refl w).alloc _)
  generalize w.alloc (.cells #[.string ⟨#[79, 82]⟩, .string ⟨#[65, 78, 68]⟩, .string ⟨#[124]⟩, .string ⟨#[38]⟩, .string ⟨#[60, 60]⟩, .string ⟨#[43]⟩, .string ⟨#[42]⟩] 9) = Wo at HO HXo ⊢
  generalize w.heap.size = b0 at HO ⊢
  clear hx hy hm hN hN2
  obtain ⟨ox, hox⟩ : ∃ ox, ox = (opsC[x]?).getD [] := ⟨_, rfl⟩
  obtain ⟨oy, hoy⟩ : ∃ oy, oy = (opsC[y]?).getD [] := ⟨_, rfl⟩
  have HOx := Lib.hid hox
  have HOy := Lib.hid hoy
  clear hox hoy
  have hxI : (x : Int) < 7 := by omega
  have hyI : (y : Int) < 7 := by omega
  go_loopg [10, 12, 13] N (fun mm sv iv _ wr => ∃ i : Nat, i + mm = N ∧ iv = .int .i64 i ∧ sv = .string ⟨(chS x y i).toArray⟩ ∧ Ext Wo wr)
  case atStart => exact ⟨0, by omega, rfl, rfl, Ext.refl _⟩
  case round =>
    obtain ⟨i, him, rfl, rfl, hxr⟩ := hrel
    have HXr := Lib.hid (Ext.trans HXo.out hxr)
    by_cases hlt : i < N
    · obtain ⟨mm, rfl⟩ : ∃ mm, gk = mm + 1 := ⟨gk - 1, by omega⟩
      have hltI : (i : Int) < (N : Int) := by omega
      have hs1 := IntWalk.i64_in ((i : Int) + 1) (by omega)
      have hs2 := IntWalk.wrap64_in ((i : Int) + 1) (by omega)
      have HB := Lib.hid (HO.out.keep hxr)
      have HXs := Lib.hid hxr
      obtain ⟨S, hS⟩ : ∃ S, S = chS x y i := ⟨_, rfl⟩
      rw [← hS]
      have hSl : S.length ≤ 100 := by rw [hS]; have := chS_len x y i; omega
      have HS := Lib.hid hS
      have hA1 : ¬ 9223372036854775807 < S.length + 1 := by omega
      clear hxr hS
      rcases Nat.mod_two_eq_zero_or_one i with hpar | hpar
      · have hq : ((i : Int) % 2 == 1) = false := by rw [beq_eq_false_iff_ne]; omega
        have hol : ox.length ≤ 3 := by rw [HOx.out]; exact opsC_few x
        have hA2 : ¬ 9223372036854775807 < S.length + 1 + ox.length := by omega
        have hA3 : ¬ 9223372036854775807 < S.length + 1 + ox.length + 2 := by omega
        have e1 : i + 1 + mm = N := by omega
        have e2 : mm < mm + 1 := by omega
        have e3 : chOp x y i = x := by unfold chOp; rw [if_neg (by omega)]
        have cx : wr.cell? ⟨b0, x, none⟩ = some (.string ⟨ox.toArray⟩) := by rw [HB.out.cell, ops_at x hx7, HOx.out]
        have hbl := HB.out.lt
        go_simp
        repeat (first | go_values | go_skip | go_guarded | go_step | go_upon)
        clear cx hbl hq hs1 hs2
        go_roundg mm
        case measure => exact e2
        case rel =>
          refine ⟨i + 1, e1, rfl, ?_, HXs.out⟩
          rw [chS, e3, ← HS.out, ← HOx.out, show (⟨#[32]⟩ : ByteArray) = ⟨([32] : List UInt8).toArray⟩ from rfl, show (⟨#[32, 97]⟩ : ByteArray) = ⟨([32, 97] : List UInt8).toArray⟩ from rfl, ba_app, ba_app, ba_app]
      · have hq : ((i : Int) % 2 == 1) = true := by rw [beq_iff_eq]; omega
        have hol : oy.length ≤ 3 := by rw [HOy.out]; exact opsC_few y
        have hA2 : ¬ 9223372036854775807 < S.length + 1 + oy.length := by omega
        have hA3 : ¬ 9223372036854775807 < S.length + 1 + oy.length + 2 := by omega
        have e1 : i + 1 + mm = N := by omega
        have e2 : mm < mm + 1 := by omega
        have e3 : chOp x y i = y := by unfold chOp; rw [if_pos hpar]
        have cy : wr.cell? ⟨b0, y, none⟩ = some (.string ⟨oy.toArray⟩) := by rw [HB.out.cell, ops_at y hy7, HOy.out]
        have hbl := HB.out.lt
        go_simp
        repeat (first | go_values | go_skip | go_guarded | go_step | go_upon)
        clear cy hbl hq hs1 hs2
        go_roundg mm
        case measure => exact e2
        case rel =>
          refine ⟨i + 1, e1, rfl, ?_, HXs.out⟩
          rw [chS, e3, ← HS.out, ← HOy.out, show (⟨#[32]⟩ : ByteArray) = ⟨([32] : List UInt8).toArray⟩ from rfl, show (⟨#[32, 97]⟩ : ByteArray) = ⟨([32, 97] : List UInt8).toArray⟩ from rfl, ba_app, ba_app, ba_app]
    · obtain rfl : i = N := by omega
      have hltI : ¬ (i : Int) < (i : Int) := by omega
      clear hxr
      go_simp
      repeat (first | go_values | go_skip | go_guarded | go_step | go_upon)
      refine Calls.mono (KE.out wr (HG.out.keep HXr.out)) ?_
      rintro e W2 ⟨v, rfl, hvt, hb2⟩
      have HX2 := Lib.hid (Ext.trans HXr.out hb2)
      have HT2 := Lib.hid (hvt.mono (B := fun g => g < W2.heap.size) fun g _ h2 => h2)
      clear hb2 hvt HXr HXo HO KE
      obtain ⟨vk, vo, vs, vt, vn, vla, vln, vlc⟩ := v
      simp only [PN.v]
      have hx3 : Ext W2 (W2.alloc (.cells #[.int .i64 vk, .int .i64 vo, .string vs, .string vt, .int .i64 vn, .slice vla vln vlc] 25)) := (Ext.refl W2).alloc _
      go_simp
      repeat (first | go_values | go_skip | go_guarded | go_step | go_upon)
      refine Calls.mono (KS.out ⟨vk, vo, vs, vt, vn, vla, vln, vlc⟩ _ _ (HT2.out.ext hx3) (fun g h => by simp; omega) (HG.out.keep (Ext.trans HX2.out hx3))) ?_
      rintro e W4 ⟨rfl, hb4⟩
      have HB4 := Lib.hid ((Blk.new W2 #[.int .i64 vk, .int .i64 vo, .string vs, .string vt, .int .i64 vn, .slice vla vln vlc] 25 rfl).keep hb4)
      have HX4 := Lib.hid (Ext.trans (Ext.trans HX2.out hx3) hb4)
      have HT4 := Lib.hid ((HT2.out.ext hx3).ext hb4)
      have hs4 : W2.heap.size < W4.heap.size := HB4.out.lt
      clear hx3 hb4 HX2 HT2 KS
      obtain ⟨cb, fb⟩ := HB4.out.facts
      have hbl := HB4.out.lt
      go_simp
      repeat (first | go_values | go_skip | go_guarded | go_step | go_upon)
      have hx5 : Ext W4 (W4.alloc (.cells #[.int .i64 vk, .int .i64 vo, .string vs, .string vt, .int .i64 vn, .slice vla vln vlc] 25)) := (Ext.refl W4).alloc _
      have HB5 := Lib.hid (show Blk (W4.alloc (.cells #[.int .i64 vk, .int .i64 vo, .string vs, .string vt, .int .i64 vn, .slice vla vln vlc] 25)) W4.heap.size (PN.cells ⟨vk, vo, vs, vt, vn, vla, vln, vlc⟩) 25 from Blk.new W4 _ _ rfl)
      have HX5 := Lib.hid (Ext.trans HX4.out hx5)
      have HT5 := Lib.hid (HT4.out.ext hx5)
      have hbw : w.heap.size ≤ W4.heap.size := HX4.out.size
      obtain ⟨J, hJ⟩ : ∃ J, J = (leftC 30 t).1 := ⟨_, rfl⟩
      obtain ⟨Tf, hTf⟩ : ∃ Tf, Tf = (leftC 30 t).2 := ⟨_, rfl⟩
      rw [← hJ, ← hTf] at HP
      have HJ := Lib.hid (And.intro hJ hTf)
      clear hx5 cb fb hbl HX4 HB4 HT4 hJ hTf
      generalize W4.alloc (.cells #[.int .i64 vk, .int .i64 vo, .string vs, .string vt, .int .i64 vn, .slice vla vln vlc] 25) = W5 at HB5 HX5 HT5 ⊢
      generalize W4.heap.size = bp at HB5 hs4 hbw ⊢
      go_loopg [11] 30 (fun mm wv wr => ∃ (tc : Tr) (xc : PN) (j : Nat), wv = .int .i64 j ∧ Blk wr bp xc.cells 25 ∧ TrAt (fun g => g < W2.heap.size) wr xc tc ∧ LeP bp W5 wr ∧ (leftC mm tc).1 + j = J ∧ (leftC mm tc).2 = Tf)
      case atStart => exact ⟨t, _, 0, rfl, HB5.out, HT5.out, LeP.refl _ _, by rw [HJ.out.1]; rfl, HJ.out.2.symm⟩
      case round =>
        obtain ⟨tc, xc, j, rfl, hb, ht, hl, hj, htf⟩ := hrel
        have HB := Lib.hid hb
        have HL := Lib.hid hl
        obtain ⟨k, o, s, t', n', l⟩ := tc
        obtain ⟨e1, _, _, _, _, hK⟩ := ht.parts
        have HTc := Lib.hid ht
        have hJ20 := HP.out.2.2
        have hTf4 := HP.out.2.1
        by_cases hk : k = 6 ∧ l.length = 2
        · cases gk with
          | zero =>
            exfalso
            rw [← htf] at hTf4
            simp only [leftC, kindT] at hTf4
            omega
          | succ mm =>
            rw [leftC, if_pos hk] at hj htf
            obtain ⟨rfl, hl2⟩ := hk
            rcases hK with ⟨_, _, _, h⟩ | ⟨g, L, hla, hln, hlc, hL, hg, hN, hch, _⟩
            · rw [h] at hl2; cases hl2
            · obtain ⟨y, hy⟩ : ∃ y, L[0]? = some y := ⟨_, List.getElem?_eq_getElem (by omega)⟩
              obtain ⟨z, hz⟩ : ∃ z, l[0]? = some z := ⟨_, List.getElem?_eq_getElem (by omega)⟩
              rw [hz, Option.getD_some] at hj htf
              have HTy := Lib.hid (hch 0 y z hy hz)
              obtain ⟨c0, c1, c2, c3, c4, c5⟩ := hN.at6 hy
              simp only [Nat.zero_mul, Nat.zero_add] at c0 c1 c2 c3 c4 c5
              have hgl := hN.1
              have hgb : g ≠ bp := by omega
              have hs1 := IntWalk.i64_in ((j : Int) + 1) (by omega)
              have HJJ := Lib.hid (And.intro hj htf)
              obtain ⟨yk, yo, ys, yt, yn, yla, yln, ylc⟩ := y
              obtain ⟨uk, uo, us, ut, un, ula, uln, ulc⟩ := xc
              simp only at e1 hla hln c0 c1 c2 c3 c4 c5
              subst e1 hla hln
              have hl2I : (l.length : Int) = 2 := by omega
              rw [hl2] at HB
              simp only [PN.cells] at HB
              obtain ⟨cb, fb⟩ := HB.out.facts
              have hbl := HB.out.lt
              clear hb ht hl hj htf hN hch hy hz hl2I hL hlc hTf4 HTc
              go_simp
              repeat (first | go_values | go_skip | go_guarded | go_step | go_upon)
              go_roundg mm
              case measure => exact Nat.lt_succ_self mm
              case rel =>
                refine ⟨z, ⟨yk, yo, ys, yt, yn, yla, yln, ylc⟩, j + 1, by simp, blk6P HB.out _ _ _ _ _ _, HTy.out.set6 (b := bp) (fun g h => by omega) _ _ _ _ _ _, HL.out.trans (LeP.sets6 _ _ _ _ _ _), ?_, HJJ.out.2⟩
                have := HJJ.out.1
                omega
        · have hlf : leftC gk (.mk k o s t' n' l) = (0, .mk k o s t' n' l) := by
            cases gk with
            | zero => rfl
            | succ mm => rw [leftC, if_neg hk]
          rw [hlf] at hj htf
          simp only [Nat.zero_add] at hj htf
          rw [← htf] at hTf4
          simp only [kindT] at hTf4
          subst hTf4
          obtain ⟨uk, uo, us, ut, un, ula, uln, ulc⟩ := xc
          simp only at e1
          subst e1
          simp only [PN.cells] at HB
          have HXw := Lib.hid (LeP.below HX5.out HL.out hbw)
          have KAw := Lib.hid (KA.out wr (HG.out.keep HXw.out))
          obtain ⟨cb, fb⟩ := HB.out.facts
          have hbl := HB.out.lt
          have hpx := HP.out.1
          clear hb ht hl htf hK HTc hk hlf
          by_cases hxy : x = y
          · subst hxy
            have hjN : j = i := by
              simp at hpx
              omega
            subst hjN
            clear hpx hj
            go_simp
            repeat (first | go_values | go_skip | go_guarded | go_step | go_upon)
            refine Calls.mono KAw.out ?_
            rintro e W9 ⟨rfl, hb9⟩
            have HX9 := Lib.hid (Ext.trans HXw.out hb9)
            clear hb9 cb fb hbl
            go_simp
            repeat (first | go_values | go_skip | go_guarded | go_step | go_upon)
            go_returns
            exact ⟨rfl, HX9.out⟩
          · have hne : ((x : Int) != (y : Int)) = true := by simp only [bne_iff_ne, ne_eq]; omega
            clear hpx hj
            go_simp
            repeat (first | go_values | go_skip | go_guarded | go_step | go_upon)
            refine Calls.mono KAw.out ?_
            rintro e W9 ⟨rfl, hb9⟩
            have HX9 := Lib.hid (Ext.trans HXw.out hb9)
            clear hb9 cb fb hbl
            go_simp
            repeat (first | go_values | go_skip | go_guarded | go_step | go_upon)
            go_returns
            exact ⟨rfl, HX9.out⟩
end Go.Proofs.YtlhkmdchjklaeaaGreatDoor
