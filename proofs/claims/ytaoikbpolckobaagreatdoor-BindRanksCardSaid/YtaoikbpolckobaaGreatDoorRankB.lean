/-
  The law of ranks in plain Lean: what the columns and the names are, what two sides bring together (256 cases), what a side and a literal do.
-/
import Derived.Test.YtaoikbpolckobaaGreatDoorRankA
namespace Go.Proofs.YtaoikbpolckobaaGreatDoor
open Go.RowKit Go.Lib
set_option maxRecDepth 100000

theorem wrapS (x : Nat) (h : x < 4) : IntKind.i64.wrap (x : Int) = (x : Int) := by
  simp [IntKind.wrap, IntKind.signed, IntKind.bits]
  omega
/-- 'a & 3'. -/
theorem and3 (a : Int) : ∃ x : Nat, x < 4 ∧ bits BinOp.and IntKind.i64 a 3 = (x : Int) := by
  refine ⟨(a % 2 ^ IntKind.i64.bits).toNat &&& 3, ?_, ?_⟩
  · rw [show (3 : Nat) = 2 ^ 2 - 1 from rfl, Nat.and_two_pow_sub_one_eq_mod]
    exact Nat.mod_lt _ (by decide)
  · have h : ((a % 2 ^ IntKind.i64.bits).toNat &&& 3) < 4 := by
      rw [show (3 : Nat) = 2 ^ 2 - 1 from rfl, Nat.and_two_pow_sub_one_eq_mod]
      exact Nat.mod_lt _ (by decide)
    exact wrapS _ h
def colsA : Array Value := #[.string ⟨#[98]⟩, .string ⟨#[99]⟩, .string ⟨#[100]⟩, .string ⟨#[102]⟩]
def ownA : Array Value := #[.string ⟨#[98, 105, 110, 97, 114, 121]⟩, .string ⟨#[110, 111, 99, 97, 115, 101]⟩, .string ⟨#[114, 111, 111, 116]⟩, .string ⟨#[110, 111, 99, 97, 115, 101]⟩]
def nmsA : Array Value := #[.string ⟨#[]⟩, .string ⟨#[98, 105, 110, 97, 114, 121]⟩, .string ⟨#[110, 111, 99, 97, 115, 101]⟩, .string ⟨#[114, 111, 111, 116]⟩]
def colOf : Nat → ByteArray
  | 0 => ⟨#[98]⟩
  | 1 => ⟨#[99]⟩
  | 2 => ⟨#[100]⟩
  | _ => ⟨#[102]⟩
def ownOf : Nat → ByteArray
  | 0 => ⟨#[98, 105, 110, 97, 114, 121]⟩
  | 1 => ⟨#[110, 111, 99, 97, 115, 101]⟩
  | 2 => ⟨#[114, 111, 111, 116]⟩
  | _ => ⟨#[110, 111, 99, 97, 115, 101]⟩
def nmOf : Nat → ByteArray
  | 0 => ⟨#[]⟩
  | 1 => ⟨#[98, 105, 110, 97, 114, 121]⟩
  | 2 => ⟨#[110, 111, 99, 97, 115, 101]⟩
  | _ => ⟨#[114, 111, 111, 116]⟩
theorem cols_at {x : Nat} (h : x < 4) : colsA[x]? = some (.string (colOf x)) := by
  match x, h with
  | 0, _ => rfl
  | 1, _ => rfl
  | 2, _ => rfl
  | 3, _ => rfl
theorem own_at {x : Nat} (h : x < 4) : ownA[x]? = some (.string (ownOf x)) := by
  match x, h with
  | 0, _ => rfl
  | 1, _ => rfl
  | 2, _ => rfl
  | 3, _ => rfl
theorem nms_at {x : Nat} (h : x < 4) : nmsA[x]? = some (.string (nmOf x)) := by
  match x, h with
  | 0, _ => rfl
  | 1, _ => rfl
  | 2, _ => rfl
  | 3, _ => rfl
theorem nm_known (x : Nat) : nmOf x = ⟨#[]⟩ ∨ Known (nmOf x) := by
  match x with
  | 0 => exact .inl rfl
  | 1 => exact .inr (.inl rfl)
  | 2 => exact .inr (.inr (.inl rfl))
  | _ + 3 => exact .inr (.inr (.inr rfl))
/-- What a column is bound as. -/
def colT (x : Nat) : TyR := ⟨4, 0, colOf x, ⟨#[]⟩, (match x with | 0 => 1 | 1 => 2 | 2 => 3 | _ => 6), none, 0, 0, 3, 1, ownOf x⟩
theorem colT_ok (x : Nat) : colV 4 0 (colOf x) ⟨#[]⟩ none 0 0 fds = .tuple #[tyV (colT x).k (colT x).o (colT x).s (colT x).t (colT x).n (.slice none 0 0) (colT x).ty (colT x).r (colT x).c, .int .i64 0] := by
  match x with
  | 0 => show _ = _; kernel_rfl
  | 1 => show _ = _; kernel_rfl
  | 2 => show _ = _; kernel_rfl
  | _ + 3 => show _ = _; kernel_rfl
/-- The comparison's collation; none: they cannot be compared. -/
def wantOf (x y p q : Nat) : Option ByteArray :=
  if nmOf p ≠ ⟨#[]⟩ ∧ nmOf q ≠ ⟨#[]⟩ ∧ nmOf p ≠ nmOf q then none else if nmOf p ≠ ⟨#[]⟩ then some (nmOf p) else if nmOf q ≠ ⟨#[]⟩ then some (nmOf q) else if ownOf x = ownOf y then some (ownOf x) else none
/-- THE PLAIN LAW: what the binder makes of the two sides is that. -/
def rkOk (x y p q : Nat) : Bool :=
  match kindL [sideT (colT x) (nmOf p), sideT (colT y) (nmOf q)] 0 with
  | none => false
  | some _ => match combL [sideT (colT x) (nmOf p), sideT (colT y) (nmOf q)] (0, binS) false with
    | none => (wantOf x y p q).isNone
    | some (d, b) => if (b && d.1 == 2) = true then (wantOf x y p q).isNone else b && decide (wantOf x y p q = some d.2)
theorem rk_all : ∀ x ∈ [0, 1, 2, 3], ∀ y ∈ [0, 1, 2, 3], ∀ p ∈ [0, 1, 2, 3], ∀ q ∈ [0, 1, 2, 3], rkOk x y p q = true := by decide +kernel
theorem mem4 {x : Nat} (h : x < 4) : x ∈ [0, 1, 2, 3] := by
  match x, h with
  | 0, _ => simp
  | 1, _ => simp
  | 2, _ => simp
  | 3, _ => simp
theorem rank_res {x y p q : Nat} (hx : x < 4) (hy : y < 4) (hp : p < 4) (hq : q < 4) : ∃ (e : Int) (Fx : Array Value → Prop),
    (∀ (lp : Option Addr) (ll lc : Nat), ∃ V : Array Value, nodeV 6 3 ⟨#[]⟩ ⟨#[]⟩ 0 lp ll lc [sideT (colT x) (nmOf p), sideT (colT y) (nmOf q)] ⟨#[]⟩ 0 = .tuple #[.agg V, .int .i64 e] ∧ V.size = 9 ∧ V.all (·.oneCell') = true ∧ Fx V) ∧
    ((wantOf x y p q = none ∧ e = 13 ∧ ∀ cs, Fx cs → cs[6]? = some (.int .i64 0)) ∨ ∃ c, wantOf x y p q = some c ∧ e = 0 ∧ ∀ cs, Fx cs → cs[2]? = some (.string c) ∧ cs[6]? = some (.int .i64 1)) := by
  have h := rk_all x (mem4 hx) y (mem4 hy) p (mem4 hp) q (mem4 hq)
  unfold rkOk at h
  have hn : ∀ (lp : Option Addr) (ll lc : Nat), nodeV 6 3 ⟨#[]⟩ ⟨#[]⟩ 0 lp ll lc [sideT (colT x) (nmOf p), sideT (colT y) (nmOf q)] ⟨#[]⟩ 0 = testV 6 3 ⟨#[]⟩ 0 lp ll lc [sideT (colT x) (nmOf p), sideT (colT y) (nmOf q)] := fun _ _ _ => by
    unfold nodeV
    rw [if_neg (by decide), if_pos rfl]
  simp only [hn]
  unfold testV
  cases hk : kindL [sideT (colT x) (nmOf p), sideT (colT y) (nmOf q)] 0 with
  | none => rw [hk] at h; cases h
  | some m =>
    rw [hk] at h
    simp only at h ⊢
    cases hc : combL [sideT (colT x) (nmOf p), sideT (colT y) (nmOf q)] (0, binS) false with
    | none =>
      rw [hc] at h
      simp only at h ⊢
      exact ⟨13, fun cs => cs[6]? = some (.int .i64 0), fun _ _ _ => ⟨#[.int .i64 0, .int .i64 0, .string ⟨#[]⟩, .string ⟨#[]⟩, .int .i64 0, .slice none 0 0, .int .i64 0, .int .i64 0, .string ⟨#[]⟩], rfl, rfl, by simp [Value.oneCell'], rfl⟩, .inl ⟨by simpa using h, rfl, fun _ h => h⟩⟩
    | some db =>
      obtain ⟨d, b⟩ := db
      rw [hc] at h
      simp only at h ⊢
      by_cases hbd : (b && d.1 == 2) = true
      · rw [if_pos hbd] at h
        simp only [if_pos hbd]
        exact ⟨13, fun cs => cs[6]? = some (.int .i64 0), fun _ _ _ => ⟨#[.int .i64 0, .int .i64 0, .string ⟨#[]⟩, .string ⟨#[]⟩, .int .i64 0, .slice none 0 0, .int .i64 0, .int .i64 0, .string ⟨#[]⟩], rfl, rfl, by simp [Value.oneCell'], rfl⟩, .inl ⟨by simpa using h, rfl, fun _ h => h⟩⟩
      · rw [if_neg hbd] at h
        simp only [if_neg hbd]
        simp only [Bool.and_eq_true, decide_eq_true_eq] at h
        obtain ⟨rfl, hw⟩ := h
        exact ⟨0, fun cs => cs[2]? = some (.string d.2) ∧ cs[6]? = some (.int .i64 1), fun lp ll lc => ⟨#[.int .i64 6, .int .i64 3, .string d.2, .string ⟨#[]⟩, .int .i64 0, .slice lp ll lc, .int .i64 1, .int .i64 0, .string ⟨#[]⟩], rfl, rfl, by simp [Value.oneCell'], rfl, rfl⟩, .inr ⟨d.2, hw, rfl, fun _ h => h⟩⟩
theorem nm_emp : ∀ p ∈ [0, 1, 2, 3], ((nmOf p).toList == []) = decide (nmOf p = ⟨#[]⟩) := by decide +kernel
theorem nm_beq : ∀ p ∈ [0, 1, 2, 3], ∀ q ∈ [0, 1, 2, 3], ((nmOf p).toList == (nmOf q).toList) = decide (nmOf p = nmOf q) := by decide +kernel
theorem own_beq : ∀ p ∈ [0, 1, 2, 3], ∀ q ∈ [0, 1, 2, 3], ((ownOf p).toList == (ownOf q).toList) = decide (ownOf p = ownOf q) := by decide +kernel
theorem own_ne : ∀ p ∈ [0, 1, 2, 3], ((ownOf p).toList == []) = false := by decide +kernel
/-- The comparison with a literal: what it brings together. -/
def litOf (x p : Nat) : ByteArray := if nmOf p = ⟨#[]⟩ then ownOf x else nmOf p
theorem lit_res (x p : Nat) (lp : Option Addr) (ll lc : Nat) : nodeV 6 3 ⟨#[]⟩ ⟨#[]⟩ 0 lp ll lc [sideT (colT x) (nmOf p), tyTxt ⟨#[120]⟩] ⟨#[]⟩ 0 = .tuple #[.agg #[.int .i64 6, .int .i64 3, .string (litOf x p), .string ⟨#[]⟩, .int .i64 0, .slice lp ll lc, .int .i64 1, .int .i64 0, .string ⟨#[]⟩], .int .i64 0] := by
  match x, p with
  | 0, 0 => show _ = _; kernel_rfl
  | 0, 1 => show _ = _; kernel_rfl
  | 0, 2 => show _ = _; kernel_rfl
  | 0, _ + 3 => show _ = _; kernel_rfl
  | 1, 0 => show _ = _; kernel_rfl
  | 1, 1 => show _ = _; kernel_rfl
  | 1, 2 => show _ = _; kernel_rfl
  | 1, _ + 3 => show _ = _; kernel_rfl
  | 2, 0 => show _ = _; kernel_rfl
  | 2, 1 => show _ = _; kernel_rfl
  | 2, 2 => show _ = _; kernel_rfl
  | 2, _ + 3 => show _ = _; kernel_rfl
  | _ + 3, 0 => show _ = _; kernel_rfl
  | _ + 3, 1 => show _ = _; kernel_rfl
  | _ + 3, 2 => show _ = _; kernel_rfl
  | _ + 3, _ + 3 => show _ = _; kernel_rfl
theorem colT_ty (x : Nat) : (colT x).ty = 3 := rfl
/-- A comparison of a side with a literal is bound. -/
theorem exprlit_any (g c q gl : Nat) (d : NdR) (x p : Nat) (w : World) (hF : FldsAt w g fds) (hR : RegAt w q) (hG : Glob w) (hl : Blk w gl (d.cells ++ (ndTxt ⟨#[120]⟩).cells) 31) (hd : SideN w d (colOf x) (nmOf p)) :
    Calls Tryz.prog 18 #[.agg #[.slice (some ⟨g, 0, none⟩) 7 c], .pointer (some ⟨q, 0, none⟩), ndV 6 3 ⟨#[]⟩ ⟨#[]⟩ 0 (.slice (some ⟨gl, 0, none⟩) 2 2)] w fun e w' => (∃ lp ll lc, e = .returned (.tuple #[.agg #[.int .i64 6, .int .i64 3, .string (litOf x p), .string ⟨#[]⟩, .int .i64 0, .slice lp ll lc, .int .i64 1, .int .i64 0, .string ⟨#[]⟩], .int .i64 0])) ∧ Below w.heap.size w w' := by
  have hN : NodesAt w (.slice (some ⟨gl, 0, none⟩) 2 2) [d, ndTxt ⟨#[120]⟩] := NodesAt.ofBlk hl [d, ndTxt ⟨#[120]⟩] (by simp)
  refine (exprtest_any g c q 3 (some ⟨gl, 0, none⟩) 2 2 [d, ndTxt ⟨#[120]⟩] [sideT (colT x) (nmOf p), tyTxt ⟨#[120]⟩] w (by decide) (by simp) (by simp) rfl hN (fun W b hW hb j e y he hy => ?_)).mono ?_
  · match j with
    | 0 =>
      simp at he hy
      subst he hy
      exact bnds_side (hd.at.ext hW) hb (hF.ext hW) (hR.ext hW) (hG.keep hW) (colT_ok x) (colT_ty x)
    | 1 =>
      simp at he hy
      subst he hy
      exact bnds_txt W b ⟨#[120]⟩
    | j + 2 => simp at he
  · rintro e w' ⟨⟨lp, ll, lc, rfl, _⟩, hb⟩
    exact ⟨⟨lp, ll, lc, lit_res x p lp ll lc ▸ rfl⟩, hb⟩
end Go.Proofs.YtaoikbpolckobaaGreatDoor
