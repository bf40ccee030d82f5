import Derived.WideKeyPair
import Derived.Test.YtchpbdodlbghaaaGreatDoorElemB
import Derived.Test.YtchpbdodlbghaaaGreatDoorGMap
import Derived.Test.YtchpbdodlbghaaaGreatDoorOwn
namespace Go.Proofs.YtchpbdodlbghaaaGreatDoor
open Go.RowKit
set_option maxRecDepth 100000

theorem mapM_some' {α β : Type} {f : α → Option β} {g : α → β} : ∀ {l : List α}, (∀ i ∈ l, f i = some (g i)) → l.mapM f = some (l.map g)
  | [], _ => rfl
  | a :: l, h => by
    rw [List.mapM_cons, h a (List.mem_cons_self ..), mapM_some' (fun i hi => h i (List.mem_cons_of_mem _ hi))]
    rfl
theorem keyOk_ints {P : Program} {k e : TypeId} {q : IntKind} {n : Nat} (A : WideMaps.ArrKey P k e n) (he : P.underlying e = some (.int q)) (hsz : ∃ m, P.types.size = m + 1) (xs : List Int) (hn : xs.length = n) (hw : ∀ x ∈ xs, (Lit.int q x).wf = true) :
    KeyOk P k (.agg (xs.map (Value.int q)).toArray) := by
  have hkt := A.keyType hsz
  obtain ⟨m, hm⟩ := hsz
  unfold KeyOk keyOf
  simp only [A.hu]
  rw [if_pos (by simp [hkt, Value.formed, A.hu, A.size, hn]), hm]
  unfold Program.keyLits
  simp only [A.hu, Value.cells]
  rw [if_pos (by simp [A.size, hn])]
  rw [mapM_some' (g := fun i => [Lit.int q (xs.getD i 0)]) (fun i hi => by
    have hi : i < n := List.mem_range.1 hi
    rw [A.one, Nat.mul_one]
    have h1 : ((xs.map (Value.int q)).toArray.toList.drop i).take 1 = [.int q (xs.getD i 0)] := by
      apply List.ext_getElem?
      intro j
      rw [List.getElem?_take, List.getElem?_drop]
      cases j with
      | zero => simp [List.getD_eq_getElem?_getD, List.getElem?_eq_getElem (show i < xs.length by omega)]
      | succ j => simp
    rw [h1]
    unfold Program.keyLits
    rw [he]
    have h2 : (Lit.int q (xs.getD i 0)).wf = true := hw _ (by
      rw [List.getD_eq_getElem?_getD, List.getElem?_eq_getElem (show i < xs.length by omega)]
      exact List.getElem_mem _)
    simp only [and_self, h2, if_true])]
  exact ⟨_, rfl⟩
theorem arrSeq : WideMaps.ArrKey Tryz.prog 122 3 3 := ⟨Tryz.underlying122, by kernel_rfl, by kernel_rfl, by kernel_rfl⟩
theorem typesSize : ∃ m, Tryz.prog.types.size = m + 1 := ⟨Tryz.prog.types.size - 1, by kernel_rfl⟩
theorem keyedSeq : Maps.Keyed Tryz.prog 122 := Maps.Keyed.of_law arrSeq.law
def kS (c : Nat) : Value := .agg #[.int .i64 ((c : Int) + 1), .int .i64 0, .int .i64 0]
theorem kS_inj {c d : Nat} (h : kS c = kS d) : c = d := by
  simp only [kS, Value.agg.injEq, Array.mk.injEq, List.cons.injEq, Value.int.injEq, and_true, true_and] at h
  omega
theorem keySeq (c : Nat) (h : c ≤ 1114367) : KeyOk Tryz.prog 122 (kS c) :=
  keyOk_ints arrSeq Tryz.underlying3 typesSize [(c : Int) + 1, 0, 0] rfl (fun x hx => by
    have : x = (c : Int) + 1 ∨ x = 0 := by simpa using hx
    simp [Lit.wf, IntKind.min, IntKind.max, IntKind.bits, IntKind.signed]
    omega)
def wordsV (l : List El) : List Value := l.map fun e => .int .u32 (e.word : Int)
def RootTo (w : World) (b n : Nat) : Prop :=
  ∃ L : List (Value × Value), GMap Tryz.prog 122 w b L ∧ L.length = n ∧ n ≤ rootL.length ∧
    ∀ i c es, i < n → rootL[i]? = some (c, es) → ∃ v, L[i]? = some (kS c, v) ∧ ReadsL w v (wordsV es)
theorem RootTo.ext {w w' : World} {b n : Nat} (h : RootTo w b n) (hx : Ext w w') : RootTo w' b n := by
  obtain ⟨L, h1, h2, h3, h4⟩ := h
  refine ⟨L, h1.keep hx, h2, h3, fun i c es hi hr => ?_⟩
  obtain ⟨v, h5, h6⟩ := h4 i c es hi hr
  exact ⟨v, h5, h6.ext hx⟩
theorem RootTo.lt {w : World} {b n : Nat} (h : RootTo w b n) : b < w.heap.size := by
  obtain ⟨L, h1, _⟩ := h
  exact h1.lt
theorem ReadsL.grown {w w' : World} {v : Value} {xs : List Value} {b : Nat} (h : ReadsL w v xs) (hg : w.grownBy w' (some b)) (hm : ∀ c t f, w.heap[b]? ≠ some (.cells c t f)) : ReadsL w' v xs := by
  rcases h with h | ⟨g, c, rfl, h1, h2⟩
  · exact .inl h
  · refine .inr ⟨g, c, rfl, h1, fun j u hu => hg.cell (h2 j u hu) ?_⟩
    intro e
    have e : g = b := Option.some.inj e
    subst e
    have hc := h2 j u hu
    unfold World.cell? at hc
    cases hh : w.heap[g]? with
    | none => simp [hh] at hc
    | some o => cases o <;> first | exact hm _ _ _ hh | simp [hh] at hc
theorem GMap.nocells {P : Program} {k : TypeId} {w : World} {b : Nat} {l : List (Value × Value)} (h : GMap P k w b l) : ∀ c t f, w.heap[b]? ≠ some (.cells c t f) := by
  obtain ⟨es, c, h1, _⟩ := h.ex
  intro c t f
  rw [h1]
  simp
theorem of_any (p s t : Nat) (v : Bool) (w : World) (he : (El.mk p s t v).ok) : Calls Tryz.prog 38 #[.int .i64 p, .int .i64 s, .int .i64 t, .bool v] w fun r w' => r = .returned (.int .u32 ((El.mk p s t v).word : Int)) ∧ w = w' := by
  go_enter Tryz.func38, Tryz.ntmps38
  go_wp2_with (refine (make_any ⟨p, s, t, v⟩ _ he).mono ?_; rintro e w' ⟨rfl, rfl⟩)
  go_ret
  exact ⟨rfl, rfl⟩
theorem letter_any (c t : Nat) (w : World) (hc : c < 26) (ht : t < 128) : Calls Tryz.prog 39 #[.int .i32 (97 + (c : Int)), .int .i64 t] w fun r w' => r = .returned (.int .u32 ((low c t).word : Int)) ∧ w = w' := by
  have hok : (El.mk (256 + 8 * c) 32 t false).ok := by
    refine ⟨?_, ?_, ht⟩
    · show 256 + 8 * c < 65536
      omega
    · exact (by decide : 32 < 256)
  have hk := of_any (256 + 8 * c) 32 t false w hok
  simp only [Int.natCast_add, Int.natCast_mul, Int.cast_ofNat_Int] at hk
  have HK := Lib.hid hk
  clear hk
  go_enter Tryz.func39, Tryz.ntmps39
  go_wp2_with fail
  rw [show (256 : Int) + 8 * (97 + (c : Int) - 97) = 256 + 8 * (c : Int) by omega]
  refine HK.out.mono ?_
  rintro e w' ⟨rfl, rfl⟩
  go_wp2_with fail
  go_ret
  exact ⟨rfl, rfl⟩
theorem mark0 (w : World) : Calls Tryz.prog 40 #[.int .i64 768] w fun r w' => r = .returned (.int .u32 ((mk 37).word : Int)) ∧ w = w' := by
  have i0 : ∀ W, (Instr.index 146 (.agg #[.int .i64 37, .int .i64 36, .int .i64 39, .int .i64 45, .int .i64 47]) (.int .i64 0)).run Tryz.prog W = .ok (.int .i64 37) W := fun _ => by kernel_rfl
  go_enter Tryz.func40, Tryz.ntmps40
  go_wp2_with fail
  refine (of_any 0 37 2 false _ (by decide)).mono ?_
  rintro e w' ⟨rfl, rfl⟩
  go_wp2_with fail
  go_ret
  exact ⟨rfl, rfl⟩
theorem mark1 (w : World) : Calls Tryz.prog 40 #[.int .i64 769] w fun r w' => r = .returned (.int .u32 ((mk 36).word : Int)) ∧ w = w' := by
  have i0 : ∀ W, (Instr.index 146 (.agg #[.int .i64 37, .int .i64 36, .int .i64 39, .int .i64 45, .int .i64 47]) (.int .i64 1)).run Tryz.prog W = .ok (.int .i64 36) W := fun _ => by kernel_rfl
  go_enter Tryz.func40, Tryz.ntmps40
  go_wp2_with fail
  refine (of_any 0 36 2 false _ (by decide)).mono ?_
  rintro e w' ⟨rfl, rfl⟩
  go_wp2_with fail
  go_ret
  exact ⟨rfl, rfl⟩
theorem mark2 (w : World) : Calls Tryz.prog 40 #[.int .i64 770] w fun r w' => r = .returned (.int .u32 ((mk 39).word : Int)) ∧ w = w' := by
  have i0 : ∀ W, (Instr.index 146 (.agg #[.int .i64 37, .int .i64 36, .int .i64 39, .int .i64 45, .int .i64 47]) (.int .i64 2)).run Tryz.prog W = .ok (.int .i64 39) W := fun _ => by kernel_rfl
  go_enter Tryz.func40, Tryz.ntmps40
  go_wp2_with fail
  refine (of_any 0 39 2 false _ (by decide)).mono ?_
  rintro e w' ⟨rfl, rfl⟩
  go_wp2_with fail
  go_ret
  exact ⟨rfl, rfl⟩
theorem mark3 (w : World) : Calls Tryz.prog 40 #[.int .i64 771] w fun r w' => r = .returned (.int .u32 ((mk 45).word : Int)) ∧ w = w' := by
  have i0 : ∀ W, (Instr.index 146 (.agg #[.int .i64 37, .int .i64 36, .int .i64 39, .int .i64 45, .int .i64 47]) (.int .i64 3)).run Tryz.prog W = .ok (.int .i64 45) W := fun _ => by kernel_rfl
  go_enter Tryz.func40, Tryz.ntmps40
  go_wp2_with fail
  refine (of_any 0 45 2 false _ (by decide)).mono ?_
  rintro e w' ⟨rfl, rfl⟩
  go_wp2_with fail
  go_ret
  exact ⟨rfl, rfl⟩
theorem mark4 (w : World) : Calls Tryz.prog 40 #[.int .i64 772] w fun r w' => r = .returned (.int .u32 ((mk 47).word : Int)) ∧ w = w' := by
  have i0 : ∀ W, (Instr.index 146 (.agg #[.int .i64 37, .int .i64 36, .int .i64 39, .int .i64 45, .int .i64 47]) (.int .i64 4)).run Tryz.prog W = .ok (.int .i64 47) W := fun _ => by kernel_rfl
  go_enter Tryz.func40, Tryz.ntmps40
  go_wp2_with fail
  refine (of_any 0 47 2 false _ (by decide)).mono ?_
  rintro e w' ⟨rfl, rfl⟩
  go_wp2_with fail
  go_ret
  exact ⟨rfl, rfl⟩
theorem mark5 (w : World) : Calls Tryz.prog 40 #[.int .i64 776] w fun r w' => r = .returned (.int .u32 ((mk 43).word : Int)) ∧ w = w' := by
  go_enter Tryz.func40, Tryz.ntmps40
  go_wp2_with fail
  refine (of_any 0 43 2 false _ (by decide)).mono ?_
  rintro e w' ⟨rfl, rfl⟩
  go_wp2_with fail
  go_ret
  exact ⟨rfl, rfl⟩
theorem mark6 (w : World) : Calls Tryz.prog 40 #[.int .i64 778] w fun r w' => r = .returned (.int .u32 ((mk 41).word : Int)) ∧ w = w' := by
  go_enter Tryz.func40, Tryz.ntmps40
  go_wp2_with fail
  refine (of_any 0 41 2 false _ (by decide)).mono ?_
  rintro e w' ⟨rfl, rfl⟩
  go_wp2_with fail
  go_ret
  exact ⟨rfl, rfl⟩
theorem mark7 (w : World) : Calls Tryz.prog 40 #[.int .i64 807] w fun r w' => r = .returned (.int .u32 ((mk 48).word : Int)) ∧ w = w' := by
  go_enter Tryz.func40, Tryz.ntmps40
  go_wp2_with fail
  refine (of_any 0 48 2 false _ (by decide)).mono ?_
  rintro e w' ⟨rfl, rfl⟩
  go_wp2_with fail
  go_ret
  exact ⟨rfl, rfl⟩
theorem mark_any (c s : Nat) (w : World) (h : (c, s) ∈ [(768, 37), (769, 36), (770, 39), (771, 45), (772, 47), (776, 43), (778, 41), (807, 48)]) :
    Calls Tryz.prog 40 #[.int .i64 c] w fun r w' => r = .returned (.int .u32 ((mk s).word : Int)) ∧ w = w' := by
  simp only [List.mem_cons, Prod.mk.injEq, List.not_mem_nil, or_false] at h
  rcases h with ⟨rfl, rfl⟩ | ⟨rfl, rfl⟩ | ⟨rfl, rfl⟩ | ⟨rfl, rfl⟩ | ⟨rfl, rfl⟩ | ⟨rfl, rfl⟩ | ⟨rfl, rfl⟩ | ⟨rfl, rfl⟩
  · exact mark0 w
  · exact mark1 w
  · exact mark2 w
  · exact mark3 w
  · exact mark4 w
  · exact mark5 w
  · exact mark6 w
  · exact mark7 w
set_option maxHeartbeats 1000000 in
theorem put_any (b q n c : Nat) (es : List El) (v : Value) (w : World) (hq : w.cell? ⟨q, 0, none⟩ = some (.map (some b))) (h : RootTo w b n) (hn : rootL[n]? = some (c, es)) (hv : ReadsL w v (wordsV es)) :
    Calls Tryz.prog 37 #[.int .i64 c, v, .pointer (some ⟨q, 0, none⟩)] w fun e w' => e = .returned (.tuple #[]) ∧ RootTo w' b (n + 1) ∧ w.grownBy w' (some b) ∧ w'.heap.size = w.heap.size := by
  obtain ⟨L, h1, h2, h3, h4⟩ := h
  have hc : c ≤ 1000 := (rootL_ok (c, es) (List.mem_of_getElem? hn)).1
  have HH := Lib.hid (show ∀ w', GMap Tryz.prog 122 w' b (L ++ [(kS c, v)]) → w.grownBy w' (some b) → RootTo w' b (n + 1) from fun w' g1 g2 => by
    refine ⟨_, g1, by simp [h2], (List.getElem?_eq_some_iff.1 hn).1, fun i d ds hi hr => ?_⟩
    rcases Nat.lt_or_ge i n with hlt | hge
    · obtain ⟨u, h5, h6⟩ := h4 i d ds hlt hr
      exact ⟨u, by rw [List.getElem?_append_left (by omega)]; exact h5, h6.grown g2 h1.nocells⟩
    · obtain rfl : i = n := by omega
      rw [hn] at hr
      obtain ⟨rfl, rfl⟩ := Prod.mk.inj (Option.some.inj hr)
      exact ⟨v, by rw [List.getElem?_append_right (by omega)]; simp [h2], hv.grown g2 h1.nocells⟩)
  have HN := Lib.hid (show ∀ p ∈ L, p.1 ≠ kS c from by
    intro p hp he
    obtain ⟨i, hi, rfl⟩ := List.getElem_of_mem hp
    have hr : rootL[i]? = some rootL[i] := List.getElem?_eq_getElem (by omega)
    obtain ⟨u, h5, _⟩ := h4 i _ _ (by omega) hr
    rw [List.getElem?_eq_getElem hi] at h5
    have h6 := Option.some.inj h5
    rw [h6] at he
    have h7 : rootL[i].1 = c := kS_inj he
    have hp := rootL_nodup
    rw [List.Nodup, List.pairwise_map] at hp
    have h8 := List.pairwise_iff_getElem.1 hp i n (by omega) (List.getElem?_eq_some_iff.1 hn).1 (by omega)
    rw [(List.getElem?_eq_some_iff.1 hn).2] at h8
    exact h8 h7)
  have H1 := Lib.hid h1
  have HQ := Lib.hid (keySeq c (by omega))
  clear h1 h2 h3 h4 hv hn
  go_enter Tryz.func37, Tryz.ntmps37
  go_wp2_with (at_mapUpdate; refine wpList_gput rfl _ _ _ _ rfl _ _ keyedSeq Tryz.underlying119 b L rfl H1.out HQ.out HN.out ?_; intro w1 g1 g2 g3)
  go_end0
  exact ⟨rfl, HH.out _ g1 g2, g2, g3⟩
end Go.Proofs.YtchpbdodlbghaaaGreatDoor
