/-
  The parser's leaves: a word that must be there (parser.want); a kind; whether a name is an aggregate's.
-/
import Derived.Test.YtlhkmdchjklaeaaGreatDoorPsrL
namespace Go.Proofs.YtlhkmdchjklaeaaGreatDoor
open Go.RowKit Go.Lib
set_option maxRecDepth 100000

/-- A word that must be there. -/
def wantW (T : List Lx.Tok) (long : Nat) (s : PSt) (x : List UInt8) : PSt := if isB T s 2 x then { s with i := s.i + 1 } else wrongP T long 10 s
set_option maxHeartbeats 4000000 in
theorem want_any (p g cap long : Nat) (T : List Lx.Tok) (s : PSt) (x : ByteArray) (b : Nat) (w : World) (h : PsAt w p g cap long T s) (hb : Blk w b #[.string x] 9) :
    Calls Tryz.prog 86 #[.pointer (some ⟨p, 0, none⟩), .slice (some ⟨b, 0, none⟩) 1 1] w fun e w' => e = .returned (.tuple #[]) ∧ PsAt w' p g cap long T (wantW T long s (bsl x)) ∧ LeP p w w' := by
  have KO := Lib.hid (pword_any p g cap long T s x w h)
  obtain ⟨c2, f2⟩ := hb.facts
  have h2l := hb.lt
  unfold wantW
  cases hq : isB T s 2 (bsl x)
  · rw [hq] at KO
    have KW := Lib.hid (fun W (hW : PsAt W p g cap long T s) => wrong_any p g cap long T s 10 W hW)
    rw [if_neg (by decide)]
    clear h hq hb
    go_enter Tryz.func86, Tryz.ntmps86
    go_simp
    repeat (first | go_values | go_skip | go_guarded | go_step | go_upon)
    refine wp_loop_rounds 2 ?_
    rw [rounds_succ]
    go_simp
    repeat (first | go_values | go_skip | go_guarded | go_step | go_upon)
    refine Calls.mono KO.out ?_
    rintro e W1 ⟨rfl, hp, hl⟩
    have HP1 := Lib.hid (show PsAt W1 p g cap long T s from hp)
    have HL1 := Lib.hid hl
    clear hp hl KO c2 f2 h2l
    go_simp
    repeat (first | go_values | go_skip | go_guarded | go_step | go_upon)
    refine Calls.mono (KW.out W1 HP1.out) ?_
    rintro e W2 ⟨rfl, hp, hl⟩
    have HP2 := Lib.hid hp
    have HL2 := Lib.hid (HL1.out.trans hl)
    clear hp hl KW HP1 HL1
    go_simp
    repeat (first | go_values | go_skip | go_guarded | go_step | go_upon)
    rw [rounds_succ]
    go_simp
    repeat (first | go_values | go_skip | go_guarded | go_step | go_upon)
    go_returns
    exact ⟨rfl, HP2.out, HL2.out⟩
  · rw [hq] at KO
    rw [if_pos rfl]
    clear h hq hb
    go_enter Tryz.func86, Tryz.ntmps86
    go_simp
    repeat (first | go_values | go_skip | go_guarded | go_step | go_upon)
    refine wp_loop_rounds 2 ?_
    rw [rounds_succ]
    go_simp
    repeat (first | go_values | go_skip | go_guarded | go_step | go_upon)
    refine Calls.mono KO.out ?_
    rintro e W1 ⟨rfl, hp, hl⟩
    have HP1 := Lib.hid (show PsAt W1 p g cap long T { s with i := s.i + 1 } from hp)
    have HL1 := Lib.hid hl
    clear hp hl KO c2 f2 h2l
    go_simp
    repeat (first | go_values | go_skip | go_guarded | go_step | go_upon)
    rw [rounds_succ]
    go_simp
    repeat (first | go_values | go_skip | go_guarded | go_step | go_upon)
    go_returns
    exact ⟨rfl, HP1.out, HL1.out⟩
/-- A kind's word. -/
def kindF (T : List Lx.Tok) (long : Nat) (s : PSt) : Int × PSt :=
  if isB T s 2 [66, 79, 79, 76] then (1, { s with i := s.i + 1 }) else if isB T s 2 [73, 78, 84] then (2, { s with i := s.i + 1 }) else if isB T s 2 [84, 69, 88, 84] then (3, { s with i := s.i + 1 }) else (0, wrongP T long 10 s)
set_option maxHeartbeats 4000000 in
theorem kind_any (p g cap long : Nat) (T : List Lx.Tok) (s : PSt) (w : World) (h : PsAt w p g cap long T s) :
    Calls Tryz.prog 202 #[.pointer (some ⟨p, 0, none⟩)] w fun e w' => e = .returned (.int .i64 (kindF T long s).1) ∧ PsAt w' p g cap long T (kindF T long s).2 ∧ LeP p w w' := by
  have KO := Lib.hid (fun (x : ByteArray) W (hW : PsAt W p g cap long T s) => pword_any p g cap long T s x W hW)
  have HP := Lib.hid h
  unfold kindF
  clear h
  cases h1 : isB T s 2 [66, 79, 79, 76]
  · cases h2 : isB T s 2 [73, 78, 84]
    · cases h3 : isB T s 2 [84, 69, 88, 84]
      · have KW := Lib.hid (fun W (hW : PsAt W p g cap long T s) => wrong_any p g cap long T s 10 W hW)
        simp only [if_neg (show ¬ (false = true) by decide)]
        go_enter Tryz.func202, Tryz.ntmps202
        go_simp
        repeat (first | go_values | go_skip | go_guarded | go_step | go_upon)
        refine Calls.mono (KO.out ⟨#[66, 79, 79, 76]⟩ _ HP.out) ?_
        rw [show bsl ⟨#[66, 79, 79, 76]⟩ = [66, 79, 79, 76] from rfl, h1]
        rintro e W1 ⟨rfl, hp, hl⟩
        have HP1 := Lib.hid (show PsAt W1 p g cap long T s from hp)
        have HL1 := Lib.hid hl
        clear hp hl
        go_simp
        repeat (first | go_values | go_skip | go_guarded | go_step | go_upon)
        refine Calls.mono (KO.out ⟨#[73, 78, 84]⟩ _ HP1.out) ?_
        rw [show bsl ⟨#[73, 78, 84]⟩ = [73, 78, 84] from rfl, h2]
        rintro e W2 ⟨rfl, hp, hl⟩
        have HP2 := Lib.hid (show PsAt W2 p g cap long T s from hp)
        have HL2 := Lib.hid (HL1.out.trans hl)
        clear hp hl
        go_simp
        repeat (first | go_values | go_skip | go_guarded | go_step | go_upon)
        refine Calls.mono (KO.out ⟨#[84, 69, 88, 84]⟩ _ HP2.out) ?_
        rw [show bsl ⟨#[84, 69, 88, 84]⟩ = [84, 69, 88, 84] from rfl, h3]
        rintro e W3 ⟨rfl, hp, hl⟩
        have HP3 := Lib.hid (show PsAt W3 p g cap long T s from hp)
        have HL3 := Lib.hid (HL2.out.trans hl)
        clear hp hl
        go_simp
        repeat (first | go_values | go_skip | go_guarded | go_step | go_upon)
        refine Calls.mono (KW.out W3 HP3.out) ?_
        rintro e W4 ⟨rfl, hp, hl⟩
        have HP4 := Lib.hid hp
        have HL4 := Lib.hid (HL3.out.trans hl)
        clear hp hl KW HP3 HL3 HP2 HL2 HP1 HL1 HP
        go_simp
        repeat (first | go_values | go_skip | go_guarded | go_step | go_upon)
        go_returns
        exact ⟨rfl, HP4.out, HL4.out⟩
      · simp only [if_neg (show ¬ (false = true) by decide), if_true]
        go_enter Tryz.func202, Tryz.ntmps202
        go_simp
        repeat (first | go_values | go_skip | go_guarded | go_step | go_upon)
        refine Calls.mono (KO.out ⟨#[66, 79, 79, 76]⟩ _ HP.out) ?_
        rw [show bsl ⟨#[66, 79, 79, 76]⟩ = [66, 79, 79, 76] from rfl, h1]
        rintro e W1 ⟨rfl, hp, hl⟩
        have HP1 := Lib.hid (show PsAt W1 p g cap long T s from hp)
        have HL1 := Lib.hid hl
        clear hp hl
        go_simp
        repeat (first | go_values | go_skip | go_guarded | go_step | go_upon)
        refine Calls.mono (KO.out ⟨#[73, 78, 84]⟩ _ HP1.out) ?_
        rw [show bsl ⟨#[73, 78, 84]⟩ = [73, 78, 84] from rfl, h2]
        rintro e W2 ⟨rfl, hp, hl⟩
        have HP2 := Lib.hid (show PsAt W2 p g cap long T s from hp)
        have HL2 := Lib.hid (HL1.out.trans hl)
        clear hp hl
        go_simp
        repeat (first | go_values | go_skip | go_guarded | go_step | go_upon)
        refine Calls.mono (KO.out ⟨#[84, 69, 88, 84]⟩ _ HP2.out) ?_
        rw [show bsl ⟨#[84, 69, 88, 84]⟩ = [84, 69, 88, 84] from rfl, h3]
        rintro e W3 ⟨rfl, hp, hl⟩
        have HP3 := Lib.hid (show PsAt W3 p g cap long T { s with i := s.i + 1 } from hp)
        have HL3 := Lib.hid (HL2.out.trans hl)
        clear hp hl HP2 HL2 HP1 HL1 HP KO
        go_simp
        repeat (first | go_values | go_skip | go_guarded | go_step | go_upon)
        go_returns
        exact ⟨rfl, HP3.out, HL3.out⟩
    · simp only [if_neg (show ¬ (false = true) by decide), if_true]
      go_enter Tryz.func202, Tryz.ntmps202
      go_simp
      repeat (first | go_values | go_skip | go_guarded | go_step | go_upon)
      refine Calls.mono (KO.out ⟨#[66, 79, 79, 76]⟩ _ HP.out) ?_
      rw [show bsl ⟨#[66, 79, 79, 76]⟩ = [66, 79, 79, 76] from rfl, h1]
      rintro e W1 ⟨rfl, hp, hl⟩
      have HP1 := Lib.hid (show PsAt W1 p g cap long T s from hp)
      have HL1 := Lib.hid hl
      clear hp hl
      go_simp
      repeat (first | go_values | go_skip | go_guarded | go_step | go_upon)
      refine Calls.mono (KO.out ⟨#[73, 78, 84]⟩ _ HP1.out) ?_
      rw [show bsl ⟨#[73, 78, 84]⟩ = [73, 78, 84] from rfl, h2]
      rintro e W2 ⟨rfl, hp, hl⟩
      have HP2 := Lib.hid (show PsAt W2 p g cap long T { s with i := s.i + 1 } from hp)
      have HL2 := Lib.hid (HL1.out.trans hl)
      clear hp hl HP1 HL1 HP KO
      go_simp
      repeat (first | go_values | go_skip | go_guarded | go_step | go_upon)
      go_returns
      exact ⟨rfl, HP2.out, HL2.out⟩
  · simp only [if_true]
    go_enter Tryz.func202, Tryz.ntmps202
    go_simp
    repeat (first | go_values | go_skip | go_guarded | go_step | go_upon)
    refine Calls.mono (KO.out ⟨#[66, 79, 79, 76]⟩ _ HP.out) ?_
    rw [show bsl ⟨#[66, 79, 79, 76]⟩ = [66, 79, 79, 76] from rfl, h1]
    rintro e W1 ⟨rfl, hp, hl⟩
    have HP1 := Lib.hid (show PsAt W1 p g cap long T { s with i := s.i + 1 } from hp)
    have HL1 := Lib.hid hl
    clear hp hl HP KO
    go_simp
    repeat (first | go_values | go_skip | go_guarded | go_step | go_upon)
    go_returns
    exact ⟨rfl, HP1.out, HL1.out⟩
/-- Whether a name is an aggregate's. -/
def aggB (x : List UInt8) : Bool := x == [99, 111, 117, 110, 116] || x == [115, 117, 109] || x == [109, 105, 110] || x == [109, 97, 120]
set_option maxHeartbeats 4000000 in
theorem aggr_any (x : List UInt8) (w : World) : Calls Tryz.prog 203 #[.string ⟨x.toArray⟩] w fun e w' => e = .returned (.bool (aggB x)) ∧ w' = w := by
  unfold aggB
  cases h1 : x == [99, 111, 117, 110, 116] <;> cases h2 : x == [115, 117, 109] <;> cases h3 : x == [109, 105, 110] <;> cases h4 : x == [109, 97, 120]
  all_goals
    go_enter Tryz.func203, Tryz.ntmps203
    go_wp2
    go_returns
    exact ⟨rfl, rfl⟩
end Go.Proofs.YtlhkmdchjklaeaaGreatDoor
