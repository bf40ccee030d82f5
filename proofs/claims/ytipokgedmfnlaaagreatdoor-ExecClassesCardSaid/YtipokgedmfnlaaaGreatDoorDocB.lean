/-
  The document's signs of a text (umlautref1.Sign): four bytes; all classes.
-/
import Derived.Test.YtipokgedmfnlaaaGreatDoorDocA
namespace Go.Proofs.YtipokgedmfnlaaaGreatDoor
open Go.RowKit Go.Lib
set_option maxRecDepth 100000

set_option maxHeartbeats 16000000 in
theorem signR_4 (s : ByteArray) (h : 0 < s.size) (hb : 240 ≤ (s[0]'h).toNat ∧ (s[0]'h).toNat ≤ 244) (w : World) : Calls Tryz.prog 184 #[.string s] w (SgR s w) := by
  have hb1 : ¬ ((s[0]'h).toNat : Int) < 128 := by omega
  have hb2 : (240 : Int) ≤ (s[0]'h).toNat := by omega
  have hb3 : ((s[0]'h).toNat : Int) ≤ 244 := by omega
  have hb4 : ¬ ((s[0]'h).toNat : Int) ≤ 223 := by omega
  have hb5 : ¬ ((s[0]'h).toNat : Int) ≤ 239 := by omega
  by_cases h3 : 3 < s.size
  · have h1 : 1 < s.size := by omega
    have h2 : 2 < s.size := by omega
    have c1 := (s[1]'h1).toNat_lt
    have c2 := (s[2]'h2).toNat_lt
    have c3 := (s[3]'h3).toNat_lt
    have hs : sgn s.data.toList = if 3 < s.size ∧ tl (s[1]'h1).toNat = true ∧ tl (s[2]'h2).toNat = true ∧ tl (s[3]'h3).toNat = true ∧ 65536 ≤ v4 (s[0]'h).toNat (s[1]'h1).toNat (s[2]'h2).toNat (s[3]'h3).toNat ∧ v4 (s[0]'h).toNat (s[1]'h1).toNat (s[2]'h2).toNat (s[3]'h3).toNat ≤ 1114111 then (v4 (s[0]'h).toNat (s[1]'h1).toNat (s[2]'h2).toNat (s[3]'h3).toNat, 4) else (1114112 + (s[0]'h).toNat, 1) := by
      rw [sgn_at, nb_at s 0 h, nb_at s 1 h1, nb_at s 2 h2, nb_at s 3 h3, sgN_4 _ _ _ _ _ hb c1 c2 c3]
    have h3I : (3 : Int) < s.size := by omega
    have h2I : (2 : Int) < s.size := by omega
    have h1I : (1 : Int) < s.size := by omega
    have KT := Lib.hid (tailR_any (s[1]'h1))
    have KU := Lib.hid (tailR_any (s[2]'h2))
    have KW := Lib.hid (tailR_any (s[3]'h3))
    cases ht : tl (s[1]'h1).toNat
    · rw [if_neg (by rw [ht]; simp)] at hs
      have HS := Lib.hid hs
      rw [ht] at KT
      clear hs c1 c2 c3
      go_enter Tryz.func184, Tryz.ntmps184
      go_wp2_with (first | (refine (KT.out _).mono ?_; rintro e w2 ⟨rfl, rfl⟩) | (refine (KU.out _).mono ?_; rintro e w2 ⟨rfl, rfl⟩) | (refine (KW.out _).mono ?_; rintro e w2 ⟨rfl, rfl⟩))
      go_ret2
      exact sg_leaf HS.out (by omega) rfl (Below.refl _ _)
    · cases hu : tl (s[2]'h2).toNat
      · rw [if_neg (by rw [hu]; simp)] at hs
        have HS := Lib.hid hs
        rw [ht] at KT
        rw [hu] at KU
        clear hs c1 c2 c3
        go_enter Tryz.func184, Tryz.ntmps184
        go_wp2_with (first | (refine (KT.out _).mono ?_; rintro e w2 ⟨rfl, rfl⟩) | (refine (KU.out _).mono ?_; rintro e w2 ⟨rfl, rfl⟩) | (refine (KW.out _).mono ?_; rintro e w2 ⟨rfl, rfl⟩))
        go_ret2
        exact sg_leaf HS.out (by omega) rfl (Below.refl _ _)
      · cases hv3 : tl (s[3]'h3).toNat
        · rw [if_neg (by rw [hv3]; simp)] at hs
          have HS := Lib.hid hs
          rw [ht] at KT
          rw [hu] at KU
          rw [hv3] at KW
          clear hs c1 c2 c3
          go_enter Tryz.func184, Tryz.ntmps184
          go_wp2_with (first | (refine (KT.out _).mono ?_; rintro e w2 ⟨rfl, rfl⟩) | (refine (KU.out _).mono ?_; rintro e w2 ⟨rfl, rfl⟩) | (refine (KW.out _).mono ?_; rintro e w2 ⟨rfl, rfl⟩))
          go_ret2
          exact sg_leaf HS.out (by omega) rfl (Below.refl _ _)
        · simp only [ht, hu, hv3, true_and, h3] at hs
          have HS := Lib.hid hs
          rw [ht] at KT
          rw [hu] at KU
          rw [hv3] at KW
          have d1 : (128 : Int) ≤ (s[1]'h1).toNat := by unfold tl at ht; simp at ht; omega
          have d2 : (128 : Int) ≤ (s[2]'h2).toNat := by unfold tl at hu; simp at hu; omega
          have d3 : (128 : Int) ≤ (s[3]'h3).toNat := by unfold tl at hv3; simp at hv3; omega
          have e1 : ((s[1]'h1).toNat : Int) < 256 := by omega
          have e2 : ((s[2]'h2).toNat : Int) < 256 := by omega
          have e3 : ((s[3]'h3).toNat : Int) < 256 := by omega
          obtain ⟨V, hV⟩ : ∃ V : Int, V = (((s[0]'h).toNat : Int) - (240 : Int)) * (262144 : Int) + (((s[1]'h1).toNat : Int) - (128 : Int)) * (4096 : Int) + (((s[2]'h2).toNat : Int) - (128 : Int)) * (64 : Int) + ((s[3]'h3).toNat : Int) - (128 : Int) := ⟨_, rfl⟩
          have hVN : V = (v4 (s[0]'h).toNat (s[1]'h1).toNat (s[2]'h2).toNat (s[3]'h3).toNat : Nat) := by rw [hV]; unfold v4; omega
          generalize v4 (s[0]'h).toNat (s[1]'h1).toNat (s[2]'h2).toNat (s[3]'h3).toNat = N at hs HS hVN
          have HV := Lib.hid hV
          have HVN := Lib.hid hVN
          clear hs c1 c2 c3 ht hu hv3 hV hVN
          go_enter Tryz.func184, Tryz.ntmps184
          go_wp2_with (first | (refine (KT.out _).mono ?_; rintro e w2 ⟨rfl, rfl⟩) | (refine (KU.out _).mono ?_; rintro e w2 ⟨rfl, rfl⟩) | (refine (KW.out _).mono ?_; rintro e w2 ⟨rfl, rfl⟩))
          rename World => W0
          refine wp_par 21 (fun
              | 0 => fun v _ => v = .int .i64 (((s[0]'h).toNat : Int))
              | 1 => fun v _ => v = .int .i64 (((s[0]'h).toNat : Int) - (240 : Int))
              | 2 => fun v _ => v = .int .i64 ((((s[0]'h).toNat : Int) - (240 : Int)) * (262144 : Int))
              | 3 => fun v _ => v = .string s
              | 4 => fun v _ => v = .int .u8 (((s[1]'h1).toNat : Int))
              | 5 => fun v _ => v = .int .i64 (((s[1]'h1).toNat : Int))
              | 6 => fun v _ => v = .int .i64 (((s[1]'h1).toNat : Int) - (128 : Int))
              | 7 => fun v _ => v = .int .i64 ((((s[1]'h1).toNat : Int) - (128 : Int)) * (4096 : Int))
              | 8 => fun v _ => v = .int .i64 ((((s[0]'h).toNat : Int) - (240 : Int)) * (262144 : Int) + (((s[1]'h1).toNat : Int) - (128 : Int)) * (4096 : Int))
              | 9 => fun v _ => v = .string s
              | 10 => fun v _ => v = .int .u8 (((s[2]'h2).toNat : Int))
              | 11 => fun v _ => v = .int .i64 (((s[2]'h2).toNat : Int))
              | 12 => fun v _ => v = .int .i64 (((s[2]'h2).toNat : Int) - (128 : Int))
              | 13 => fun v _ => v = .int .i64 ((((s[2]'h2).toNat : Int) - (128 : Int)) * (64 : Int))
              | 14 => fun v _ => v = .int .i64 ((((s[0]'h).toNat : Int) - (240 : Int)) * (262144 : Int) + (((s[1]'h1).toNat : Int) - (128 : Int)) * (4096 : Int) + (((s[2]'h2).toNat : Int) - (128 : Int)) * (64 : Int))
              | 15 => fun v _ => v = .string s
              | 16 => fun v _ => v = .int .u8 (((s[3]'h3).toNat : Int))
              | 17 => fun v _ => v = .int .i64 (((s[3]'h3).toNat : Int))
              | 18 => fun v _ => v = .int .i64 ((((s[0]'h).toNat : Int) - (240 : Int)) * (262144 : Int) + (((s[1]'h1).toNat : Int) - (128 : Int)) * (4096 : Int) + (((s[2]'h2).toNat : Int) - (128 : Int)) * (64 : Int) + ((s[3]'h3).toNat : Int))
              | 19 => fun v _ => v = .int .i64 V
              | 20 => fun v _ => v = .int .i64 V
              | _ => fun _ _ => True) (by kernel_rfl) (by kernel_rfl) (by kernel_rfl) ?_ ?_
          · simp (maxSteps := 20000000) only [List.take_succ_cons, List.take_zero, ParAll, Act.put, List.setIfInBounds_toArray, List.set_cons_succ, List.set_cons_zero]
            refine ⟨?_, ?_, ?_, ?_, ?_, ?_, ?_, ?_, ?_, ?_, ?_, ?_, ?_, ?_, ?_, ?_, ?_, ?_, ?_, ?_, ?_, trivial⟩
            · intro vals W hx hd
              simp [PDeps, pdeps, Region.binds] at hd
              first
                | refine ParOb.plain rfl ?_
                | refine ParOb.wanted (by simp [Region.wanted, yielded, hd]) ?_
              go_simp
              exact ParPost.same fun _ _ => rfl
            · intro vals W hx hd
              simp [PDeps, pdeps, Region.binds] at hd
              first
                | refine ParOb.plain rfl ?_
                | refine ParOb.wanted (by simp [Region.wanted, yielded, hd]) ?_
              have hsum := IntWalk.i64_in (((s[0]'h).toNat : Int) - (240 : Int)) (by omega)
              go_simp
              exact ParPost.same fun _ _ => rfl
            · intro vals W hx hd
              simp [PDeps, pdeps, Region.binds] at hd
              first
                | refine ParOb.plain rfl ?_
                | refine ParOb.wanted (by simp [Region.wanted, yielded, hd]) ?_
              have hsum := IntWalk.i64_in ((((s[0]'h).toNat : Int) - (240 : Int)) * (262144 : Int)) (by omega)
              go_simp
              exact ParPost.same fun _ _ => rfl
            · intro vals W hx hd
              simp [PDeps, pdeps, Region.binds] at hd
              first
                | refine ParOb.plain rfl ?_
                | refine ParOb.wanted (by simp [Region.wanted, yielded, hd]) ?_
              go_simp
              exact ParPost.same fun _ _ => rfl
            · intro vals W hx hd
              simp [PDeps, pdeps, Region.binds] at hd
              first
                | refine ParOb.plain rfl ?_
                | refine ParOb.wanted (by simp [Region.wanted, yielded, hd]) ?_
              go_simp
              exact ParPost.same fun _ _ => rfl
            · intro vals W hx hd
              simp [PDeps, pdeps, Region.binds] at hd
              first
                | refine ParOb.plain rfl ?_
                | refine ParOb.wanted (by simp [Region.wanted, yielded, hd]) ?_
              have hsum := IntWalk.i64_in (((s[1]'h1).toNat : Int)) (by omega)
              go_simp
              exact ParPost.same fun _ _ => rfl
            · intro vals W hx hd
              simp [PDeps, pdeps, Region.binds] at hd
              first
                | refine ParOb.plain rfl ?_
                | refine ParOb.wanted (by simp [Region.wanted, yielded, hd]) ?_
              have hsum := IntWalk.i64_in (((s[1]'h1).toNat : Int) - (128 : Int)) (by omega)
              go_simp
              exact ParPost.same fun _ _ => rfl
            · intro vals W hx hd
              simp [PDeps, pdeps, Region.binds] at hd
              first
                | refine ParOb.plain rfl ?_
                | refine ParOb.wanted (by simp [Region.wanted, yielded, hd]) ?_
              have hsum := IntWalk.i64_in ((((s[1]'h1).toNat : Int) - (128 : Int)) * (4096 : Int)) (by omega)
              go_simp
              exact ParPost.same fun _ _ => rfl
            · intro vals W hx hd
              simp [PDeps, pdeps, Region.binds] at hd
              first
                | refine ParOb.plain rfl ?_
                | refine ParOb.wanted (by simp [Region.wanted, yielded, hd]) ?_
              have hsum := IntWalk.i64_in ((((s[0]'h).toNat : Int) - (240 : Int)) * (262144 : Int) + (((s[1]'h1).toNat : Int) - (128 : Int)) * (4096 : Int)) (by omega)
              go_simp
              exact ParPost.same fun _ _ => rfl
            · intro vals W hx hd
              simp [PDeps, pdeps, Region.binds] at hd
              first
                | refine ParOb.plain rfl ?_
                | refine ParOb.wanted (by simp [Region.wanted, yielded, hd]) ?_
              go_simp
              exact ParPost.same fun _ _ => rfl
            · intro vals W hx hd
              simp [PDeps, pdeps, Region.binds] at hd
              first
                | refine ParOb.plain rfl ?_
                | refine ParOb.wanted (by simp [Region.wanted, yielded, hd]) ?_
              go_simp
              exact ParPost.same fun _ _ => rfl
            · intro vals W hx hd
              simp [PDeps, pdeps, Region.binds] at hd
              first
                | refine ParOb.plain rfl ?_
                | refine ParOb.wanted (by simp [Region.wanted, yielded, hd]) ?_
              have hsum := IntWalk.i64_in (((s[2]'h2).toNat : Int)) (by omega)
              go_simp
              exact ParPost.same fun _ _ => rfl
            · intro vals W hx hd
              simp [PDeps, pdeps, Region.binds] at hd
              first
                | refine ParOb.plain rfl ?_
                | refine ParOb.wanted (by simp [Region.wanted, yielded, hd]) ?_
              have hsum := IntWalk.i64_in (((s[2]'h2).toNat : Int) - (128 : Int)) (by omega)
              go_simp
              exact ParPost.same fun _ _ => rfl
            · intro vals W hx hd
              simp [PDeps, pdeps, Region.binds] at hd
              first
                | refine ParOb.plain rfl ?_
                | refine ParOb.wanted (by simp [Region.wanted, yielded, hd]) ?_
              have hsum := IntWalk.i64_in ((((s[2]'h2).toNat : Int) - (128 : Int)) * (64 : Int)) (by omega)
              go_simp
              exact ParPost.same fun _ _ => rfl
            · intro vals W hx hd
              simp [PDeps, pdeps, Region.binds] at hd
              first
                | refine ParOb.plain rfl ?_
                | refine ParOb.wanted (by simp [Region.wanted, yielded, hd]) ?_
              have hsum := IntWalk.i64_in ((((s[0]'h).toNat : Int) - (240 : Int)) * (262144 : Int) + (((s[1]'h1).toNat : Int) - (128 : Int)) * (4096 : Int) + (((s[2]'h2).toNat : Int) - (128 : Int)) * (64 : Int)) (by omega)
              go_simp
              exact ParPost.same fun _ _ => rfl
            · intro vals W hx hd
              simp [PDeps, pdeps, Region.binds] at hd
              first
                | refine ParOb.plain rfl ?_
                | refine ParOb.wanted (by simp [Region.wanted, yielded, hd]) ?_
              go_simp
              exact ParPost.same fun _ _ => rfl
            · intro vals W hx hd
              simp [PDeps, pdeps, Region.binds] at hd
              first
                | refine ParOb.plain rfl ?_
                | refine ParOb.wanted (by simp [Region.wanted, yielded, hd]) ?_
              go_simp
              exact ParPost.same fun _ _ => rfl
            · intro vals W hx hd
              simp [PDeps, pdeps, Region.binds] at hd
              first
                | refine ParOb.plain rfl ?_
                | refine ParOb.wanted (by simp [Region.wanted, yielded, hd]) ?_
              have hsum := IntWalk.i64_in (((s[3]'h3).toNat : Int)) (by omega)
              go_simp
              exact ParPost.same fun _ _ => rfl
            · intro vals W hx hd
              simp [PDeps, pdeps, Region.binds] at hd
              first
                | refine ParOb.plain rfl ?_
                | refine ParOb.wanted (by simp [Region.wanted, yielded, hd]) ?_
              have hsum := IntWalk.i64_in ((((s[0]'h).toNat : Int) - (240 : Int)) * (262144 : Int) + (((s[1]'h1).toNat : Int) - (128 : Int)) * (4096 : Int) + (((s[2]'h2).toNat : Int) - (128 : Int)) * (64 : Int) + ((s[3]'h3).toNat : Int)) (by omega)
              go_simp
              exact ParPost.same fun _ _ => rfl
            · intro vals W hx hd
              simp [PDeps, pdeps, Region.binds] at hd
              first
                | refine ParOb.plain rfl ?_
                | refine ParOb.wanted (by simp [Region.wanted, yielded, hd]) ?_
              have hsum := IntWalk.i64_in ((((s[0]'h).toNat : Int) - (240 : Int)) * (262144 : Int) + (((s[1]'h1).toNat : Int) - (128 : Int)) * (4096 : Int) + (((s[2]'h2).toNat : Int) - (128 : Int)) * (64 : Int) + ((s[3]'h3).toNat : Int) - (128 : Int)) (by omega)
              go_simp
              exact ParPost.same fun _ _ => by rw [HV.out]
            · intro vals W hx hd
              simp [PDeps, pdeps, Region.binds] at hd
              first
                | refine ParOb.plain rfl ?_
                | refine ParOb.wanted (by simp [Region.wanted, yielded, hd]) ?_
              go_simp
              exact ParPost.same fun _ _ => rfl
          intro vals W hx hf
          simp (maxSteps := 20000000) only [ParFacts, List.take_succ_cons, List.take_zero, and_true] at hf
          simp (maxSteps := 20000000) only [List.drop_succ_cons, List.drop_zero, List.take_succ_cons, List.take_zero, ParEnd, Act.put, List.setIfInBounds_toArray, List.set_cons_succ, List.set_cons_zero, hf]
          clear hf
          have HX := Lib.hid hx
          clear hx
          by_cases hv : 65536 ≤ N ∧ N ≤ 1114111
          · have hsg := HS.out
            rw [if_pos hv] at hsg
            have hvn := HVN.out
            have HS2 := Lib.hid hsg
            have k1 : decide ((65536 : Int) ≤ V) = true := decide_eq_true (by omega)
            have k2 : decide (V ≤ (1114111 : Int)) = true := decide_eq_true (by omega)
            clear hsg HS HV hvn hv
            go_wp2_with fail
            go_ret2
            exact sg_leaf HS2.out HVN.out rfl HX.out
          · have hsg := HS.out
            rw [if_neg hv] at hsg
            have hvn := HVN.out
            have HS2 := Lib.hid hsg
            clear hsg HS HV
            by_cases hv1 : 65536 ≤ N
            · have k1 : decide ((65536 : Int) ≤ V) = true := decide_eq_true (by omega)
              have k2 : decide (V ≤ (1114111 : Int)) = false := decide_eq_false (by omega)
              clear hvn hv hv1
              go_wp2_with fail
              go_ret2
              exact sg_leaf HS2.out (by omega) rfl HX.out
            · have k1 : decide ((65536 : Int) ≤ V) = false := decide_eq_false (by omega)
              clear hvn hv hv1
              go_wp2_with fail
              go_ret2
              exact sg_leaf HS2.out (by omega) rfl HX.out
  · have h3I : ¬ (3 : Int) < s.size := by omega
    have hs : sgn s.data.toList = (1114112 + (s[0]'h).toNat, 1) := by
      rw [sgn_at, nb_at s 0 h, sgN_4 _ _ _ _ _ hb (nb_lt _ _) (nb_lt _ _) (nb_lt _ _), if_neg (by omega)]
    have HS := Lib.hid hs
    clear hs
    go_enter Tryz.func184, Tryz.ntmps184
    go_wp2_with fail
    go_ret2
    exact sg_leaf HS.out (by omega) rfl (Below.refl _ _)
theorem signR_any (s : ByteArray) (h : 0 < s.size) (w : World) : Calls Tryz.prog 184 #[.string s] w (SgR s w) := by
  have hb := (s[0]'h).toNat_lt
  by_cases h1 : (s[0]'h).toNat < 128
  · exact signR_1 s h h1 w
  · by_cases h2 : 194 ≤ (s[0]'h).toNat ∧ (s[0]'h).toNat ≤ 223
    · exact signR_2 s h h2 w
    · by_cases h3 : 224 ≤ (s[0]'h).toNat ∧ (s[0]'h).toNat ≤ 239
      · exact signR_3 s h h3 w
      · by_cases h4 : 240 ≤ (s[0]'h).toNat ∧ (s[0]'h).toNat ≤ 244
        · exact signR_4 s h h4 w
        · exact signR_x s h (by omega) w
end Go.Proofs.YtipokgedmfnlaaaGreatDoor
