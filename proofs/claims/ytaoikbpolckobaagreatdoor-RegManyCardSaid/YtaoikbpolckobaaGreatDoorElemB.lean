/-
  Elements: their weights read, whether these go together; a list of good ones holds none that is not.
-/
import Derived.Test.YtaoikbpolckobaaGreatDoorElem
import Derived.Test.YtaoikbpolckobaaGreatDoorOwn
import Derived.Outline
namespace Go.Proofs.YtaoikbpolckobaaGreatDoor
open Go.RowKit Go.Lib
set_option maxRecDepth 100000

/-- An element's weights go together. -/
def El.fit (e : El) : Bool := (!decide (0 < e.p) || decide (0 < e.s)) && (!decide (0 < e.s) || decide (0 < e.t)) && (!e.v || decide (0 < e.p))
theorem rootL_fit : ∀ x ∈ rootL, ∀ e ∈ x.2, e.ok ∧ e.fit = true ∧ e.p < 64256 := by decide +kernel
theorem wtN_word (e : El) (h : e.ok) : wtN 1 e.word = e.p ∧ wtN 2 e.word = e.s ∧ wtN 3 e.word = e.t ∧ e.word % 2 = if e.v then 1 else 0 := by
  obtain ⟨p, s, t, v⟩ := e
  obtain ⟨h1, h2, h3⟩ := h
  simp only at h1 h2 h3
  unfold El.word
  cases v <;> simp [wtN] <;> omega
theorem and1 (x : Nat) (h : x < 4294967296) : bits .and .u32 (x : Int) 1 = ((x % 2 : Nat) : Int) := by
  rw [show (1 : Int) = ((1 : Nat) : Int) from rfl, u32_and_nat _ _ (by omega) (by omega)]
  congr 1
  exact Nat.and_one_is_mod x
theorem weight_el (level : Nat) (e : El) (w : World) (hl : level = 1 ∨ level = 2 ∨ level = 3) (h : e.ok) :
    Calls Tryz.prog 221 #[.int .u32 e.word, .int .i64 level] w fun r w' => r = .returned (.int .i64 ((e.wt level : Nat) : Int)) ∧ w = w' := by
  refine (weight_any level e.word w hl (e.word_lt h)).mono ?_
  rintro r w' ⟨rfl, rfl⟩
  obtain ⟨h1, h2, h3, _⟩ := wtN_word e h
  refine ⟨?_, rfl⟩
  rcases hl with rfl | rfl | rfl
  · rw [h1]; rfl
  · rw [h2]; rfl
  · rw [h3]; rfl
theorem variable_any (e : El) (w : World) (h : e.ok) : Calls Tryz.prog 271 #[.int .u32 e.word] w fun r w' => r = .returned (.bool e.v) ∧ w = w' := by
  have hw := e.word_lt h
  have hb := and1 e.word hw
  rw [(wtN_word e h).2.2.2] at hb
  generalize e.word = x at hb hw ⊢
  generalize e.v = v at hb ⊢
  cases v
  · rw [show (((if false = true then 1 else 0 : Nat) : Nat) : Int) = 0 from rfl] at hb
    go_enter Tryz.func271, Tryz.ntmps271
    go_wp2_with fail
    go_ret
    exact ⟨rfl, rfl⟩
  · rw [show (((if true = true then 1 else 0 : Nat) : Nat) : Int) = 1 from rfl] at hb
    go_enter Tryz.func271, Tryz.ntmps271
    go_wp2_with fail
    go_ret
    exact ⟨rfl, rfl⟩
set_option maxHeartbeats 4000000 in
theorem ok_any (e : El) (w : World) (h : e.ok) : Calls Tryz.prog 220 #[.int .u32 e.word] w fun r w' => r = .returned (.bool e.fit) ∧ w = w' := by
  have K1 : Hid (Calls Tryz.prog 221 #[.int .u32 e.word, .int .i64 1] w fun r w' => r = .returned (.int .i64 ((e.wt 1 : Nat) : Int)) ∧ w = w') := Lib.hid (weight_el 1 e w (.inl rfl) h)
  have K2 : Hid (Calls Tryz.prog 221 #[.int .u32 e.word, .int .i64 2] w fun r w' => r = .returned (.int .i64 ((e.wt 2 : Nat) : Int)) ∧ w = w') := Lib.hid (weight_el 2 e w (.inr (.inl rfl)) h)
  have K3 : Hid (Calls Tryz.prog 221 #[.int .u32 e.word, .int .i64 3] w fun r w' => r = .returned (.int .i64 ((e.wt 3 : Nat) : Int)) ∧ w = w') := Lib.hid (weight_el 3 e w (.inr (.inr rfl)) h)
  have KV := Lib.hid (variable_any e w h)
  have hf : e.fit = ((!decide (0 < ((e.wt 1 : Nat) : Int)) || decide (0 < ((e.wt 2 : Nat) : Int))) && (!decide (0 < ((e.wt 2 : Nat) : Int)) || decide (0 < ((e.wt 3 : Nat) : Int))) && (!e.v || decide (0 < ((e.wt 1 : Nat) : Int)))) := by
    simp [El.fit, El.wt]
  rw [hf]
  clear hf
  generalize ((e.wt 1 : Nat) : Int) = p at K1 ⊢
  generalize ((e.wt 2 : Nat) : Int) = s at K2 ⊢
  generalize ((e.wt 3 : Nat) : Int) = t at K3 ⊢
  generalize e.v = v at KV ⊢
  generalize ((e.word : Nat) : Int) = x at K1 K2 K3 KV ⊢
  cases hp : decide (0 < p) <;> cases hs : decide (0 < s) <;> cases ht : decide (0 < t) <;> cases v
  all_goals
    go_enter Tryz.func220, Tryz.ntmps220
    repeat (first | go_values | go_skip | go_guarded | go_step | go_upon)
    refine K1.out.mono ?_
    rintro r w1 ⟨rfl, rfl⟩
    go_simp
    repeat (first | go_values | go_skip | go_guarded | go_step | go_upon)
    refine K2.out.mono ?_
    rintro r w1 ⟨rfl, rfl⟩
    go_simp
    repeat (first | go_values | go_skip | go_guarded | go_step | go_upon)
    refine K3.out.mono ?_
    rintro r w1 ⟨rfl, rfl⟩
    go_simp
    repeat (first | go_values | go_skip | go_guarded | go_step | go_upon)
    try
      refine KV.out.mono ?_
      rintro r w1 ⟨rfl, rfl⟩
      go_simp
      repeat (first | go_values | go_skip | go_guarded | go_step | go_upon)
    go_ret
    exact ⟨rfl, rfl⟩
/-- An element that may stand in a table. -/
def El.good (e : El) : Prop := e.ok ∧ e.fit = true ∧ e.p < 64256
theorem notgood_any (e : El) (w : World) (h : e.good) : Calls Tryz.prog 219 #[.int .u32 e.word] w fun r w' => r = .returned (.bool false) ∧ w = w' := by
  obtain ⟨h1, h2, h3⟩ := h
  have K1 : Hid (Calls Tryz.prog 221 #[.int .u32 e.word, .int .i64 1] w fun r w' => r = .returned (.int .i64 ((e.wt 1 : Nat) : Int)) ∧ w = w') := Lib.hid (weight_el 1 e w (.inl rfl) h1)
  have KO := Lib.hid (ok_any e w h1)
  rw [h2] at KO
  have hd : decide (64256 ≤ ((e.wt 1 : Nat) : Int)) = false := by simp [El.wt]; omega
  generalize ((e.wt 1 : Nat) : Int) = p at K1 hd
  go_enter Tryz.func219, Tryz.ntmps219
  go_wp2_with (first | (refine K1.out.mono ?_; rintro e w' ⟨rfl, rfl⟩) | (refine KO.out.mono ?_; rintro e w' ⟨rfl, rfl⟩))
  go_ret
  exact ⟨rfl, rfl⟩
/-- Words of elements, as a slice holds them. -/
def wordsE (l : List El) : List Value := l.map fun e => .int .u32 (e.word : Int)
set_option maxHeartbeats 1000000 in
theorem indexEl_none (v : Value) (es : List El) (w : World) (hp : ReadsL w v (wordsE es)) (hlen : es.length ≤ 1000000) (hg : ∀ e ∈ es, e.good) :
    Calls Tryz.prog 270 #[v, .func (.func 219) #[] #[]] w fun e w' => e = .returned (.int .i64 (-1)) ∧ w = w' := by
  rcases hp with ⟨rfl, h0⟩ | ⟨g, c, rfl, hc, hcell⟩
  · have hes : es = [] := by simpa [wordsE] using h0
    subst hes
    go_enter Tryz.func270, Tryz.ntmps270
    go_wp2_with fail
    go_loopw [8] (fun i wr => i = .int .i64 0 ∧ w = wr) (fun _ _ => 0)
    case atStart => exact ⟨rfl, rfl⟩
    case round =>
      obtain ⟨rfl, rfl⟩ := hrel
      go_wp2_with fail
      go_ret
      exact ⟨rfl, rfl⟩
  · have hwl : (wordsE es).length = es.length := by simp [wordsE]
    rw [hwl] at hc ⊢
    have HC := Lib.hid (show ∀ k e, es[k]? = some e → w.cell? ⟨g, k, none⟩ = some (.int .u32 (e.word : Int)) from fun k e he => hcell k _ (by simp [wordsE, he]))
    have HG := Lib.hid hg
    clear hcell hg hwl
    go_enter Tryz.func270, Tryz.ntmps270
    go_wp2_with fail
    go_loopw [8] (fun i wr => ∃ k : Nat, k ≤ es.length ∧ i = .int .i64 k ∧ w = wr) (fun i _ => es.length - (intOf i).toNat)
    case atStart => exact ⟨0, Nat.zero_le _, rfl, rfl⟩
    case round =>
      obtain ⟨k, hk, rfl, rfl⟩ := hrel
      by_cases hlt : k < es.length
      · obtain ⟨e, he⟩ : ∃ e, es[k]? = some e := ⟨_, List.getElem?_eq_getElem hlt⟩
        have c1 := HC.out k e he
        have hge := HG.out e (List.mem_of_getElem? he)
        clear he
        go_wp2_with fail
        refine (notgood_any e _ hge).mono ?_
        rintro r w2 ⟨rfl, rfl⟩
        go_wp2_with fail
        go_roundw
        case rel => exact ⟨k + 1, by omega, by go_num, trivial⟩
        case measure => simp [intOf]; omega
      · obtain rfl : k = es.length := by omega
        go_wp2_with fail
        go_ret
        exact ⟨rfl, rfl⟩
theorem containsEl_none (v : Value) (es : List El) (w : World) (hp : ReadsL w v (wordsE es)) (hlen : es.length ≤ 1000000) (hg : ∀ e ∈ es, e.good) :
    Calls Tryz.prog 218 #[v, .func (.func 219) #[] #[]] w fun e w' => e = .returned (.bool false) ∧ w = w' := by
  have HC := Lib.hid (indexEl_none v es w hp hlen hg)
  clear hp hg
  go_enter Tryz.func218, Tryz.ntmps218
  go_wp2_with fail
  refine HC.out.mono ?_
  rintro e w2 ⟨rfl, rfl⟩
  go_wp2_with fail
  go_ret
  exact ⟨rfl, rfl⟩
end Go.Proofs.YtaoikbpolckobaaGreatDoor
