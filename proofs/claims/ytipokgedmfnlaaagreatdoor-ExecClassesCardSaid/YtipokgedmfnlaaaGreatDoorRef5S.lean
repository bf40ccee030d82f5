/-
  The document's first table in plain Lean: its puts in their order; what they come to. The document's first table in rounds, in plain Lean: what each loop of its making leaves.
-/
import Derived.Test.YtipokgedmfnlaaaGreatDoorRef5H
namespace Go.Proofs.YtipokgedmfnlaaaGreatDoor
set_option maxRecDepth 100000

/-- The marks' second weights: of six, of four. -/
def sixM : List Nat := [0x25, 0x24, 0x27, 0x2d, 0x2b, 0x29]
def fourM : List Nat := [0x25, 0x24, 0x27, 0x2b]
/-- A great letter with a mark, and the small one. -/
def markedP (c b s : Nat) : List (Nat × List El) := [(c, [low b 8, mk s]), (c + 32, [low b 2, mk s])]
/-- All puts, in the order in which the document makes them: signs, digits, letters, marks, letters with marks, the rest. -/
def putsA : List (Nat × List El) := [32, 95, 45, 44, 46, 39].zipIdx.map fun (c, i) => (c, [⟨16 + 4 * i, 32, 2, true⟩])
def putsB : List (Nat × List El) := (List.range 10).map fun i => (48 + i, [⟨128 + 4 * i, 32, 2, false⟩])
def putsC : List (Nat × List El) := (List.range 26).flatMap fun i => [(97 + i, [low i 2]), (65 + i, [low i 8])]
def putsD : List (Nat × List El) := [(0x300, 0x25), (0x301, 0x24), (0x302, 0x27), (0x303, 0x2d), (0x304, 0x2f), (0x308, 0x2b), (0x30a, 0x29), (0x327, 0x30)].map fun x => (x.1, [mk x.2])
def putsE : List (Nat × List El) := sixM.zipIdx.flatMap fun (s, i) => markedP (0xc0 + i) 0 s
def putsF : List (Nat × List El) := markedP 0xc7 2 0x30
def putsG : List (Nat × List El) := fourM.zipIdx.flatMap fun (s, i) => markedP (0xc8 + i) 4 s ++ markedP (0xcc + i) 8 s ++ markedP (0xd9 + i) 20 s
def putsH : List (Nat × List El) := markedP 0xd1 13 0x2d
def putsI : List (Nat × List El) := (sixM.take 5).zipIdx.flatMap fun (s, i) => markedP (0xd2 + i) 14 s
def putsJ : List (Nat × List El) := markedP 0xdd 24 0x24
def putsK : List (Nat × List El) := [(0xdf, [low 18 4, low 18 4]), (0xe6, [low 0 4, low 4 4]), (0xc6, [low 0 10, low 4 10]), (0xad, [])]
def putsAll : List (Nat × List El) := putsA ++ putsB ++ putsC ++ putsD ++ putsE ++ putsF ++ putsG ++ putsH ++ putsI ++ putsJ ++ putsK
/-- One put after the other. -/
def insAll (L : List (Nat × List El)) (ps : List (Nat × List El)) : List (Nat × List El) := ps.foldl (fun L x => insE x.1 x.2 L) L
theorem insAll_append (L ps qs : List (Nat × List El)) : insAll L (ps ++ qs) = insAll (insAll L ps) qs := by simp [insAll]
theorem insAll_length (L ps : List (Nat × List El)) : (insAll L ps).length ≤ L.length + ps.length := by
  induction ps generalizing L with
  | nil => simp [insAll]
  | cons x ps ih =>
    have h1 := ih (insE x.1 x.2 L)
    have h2 := insE_length x.1 x.2 L
    show (insAll (insE x.1 x.2 L) ps).length ≤ _
    simp only [List.length_cons]
    omega
/-- The document's first table. -/
def rootS : List (Nat × List El) := insAll [] putsAll
theorem rootS_length : rootS.length = 132 := by decide +kernel
theorem rootS_mem : (∀ x ∈ rootS, x ∈ rootL) ∧ ∀ x ∈ rootL, x ∈ rootS := by decide +kernel
theorem rootS_sorted : (rootS.map (·.1)).Pairwise (· < ·) := by decide +kernel
theorem rootS_good : ∀ x ∈ rootS, x.2.length ≤ 8 ∧ ∀ e ∈ x.2, e.fitR = true ∧ e.p < 64256 := fun x hx => by
  have h := rootS_mem.1 x hx
  exact ⟨Nat.le_trans (rootL_ok x h).2.1 (by decide), rootL_fitR x h⟩
end Go.Proofs.YtipokgedmfnlaaaGreatDoor

namespace Go.Proofs.YtipokgedmfnlaaaGreatDoor
set_option maxRecDepth 100000

/-- Rounds of a loop. -/
def rnds (f : Nat → List (Nat × List El) → List (Nat × List El)) : Nat → List (Nat × List El) → List (Nat × List El)
  | 0, L => L
  | n + 1, L => f n (rnds f n L)
def sgA (k : Nat) : Nat := [32, 95, 45, 44, 46, 39].getD k 0
def rndA (k : Nat) (L : List (Nat × List El)) : List (Nat × List El) := insE (sgA k) [⟨16 + 4 * k, 32, 2, true⟩] L
def rndB (k : Nat) (L : List (Nat × List El)) : List (Nat × List El) := insE (48 + k) [⟨128 + 4 * k, 32, 2, false⟩] L
def rndC (k : Nat) (L : List (Nat × List El)) : List (Nat × List El) := insE (65 + k) [low k 8] (insE (97 + k) [low k 2] L)
def mkD (k : Nat) : Nat × Nat := [(0x300, 0x25), (0x301, 0x24), (0x302, 0x27), (0x303, 0x2d), (0x304, 0x2f), (0x308, 0x2b), (0x30a, 0x29), (0x327, 0x30)].getD k (0, 0)
def rndD (k : Nat) (L : List (Nat × List El)) : List (Nat × List El) := insE (mkD k).1 [mk (mkD k).2] L
/-- A great letter with a mark, and the small one, are put. -/
def putM (c b s : Nat) (L : List (Nat × List El)) : List (Nat × List El) := insE (c + 32) [low b 2, mk s] (insE c [low b 8, mk s] L)
def mkE6 (k : Nat) : Nat × Nat := [(0x300, 0x25), (0x301, 0x24), (0x302, 0x27), (0x303, 0x2d), (0x308, 0x2b), (0x30a, 0x29)].getD k (0, 0)
def mkG4 (k : Nat) : Nat × Nat := [(0x300, 0x25), (0x301, 0x24), (0x302, 0x27), (0x308, 0x2b)].getD k (0, 0)
def rndE (k : Nat) (L : List (Nat × List El)) : List (Nat × List El) := putM (192 + k) 0 (mkE6 k).2 L
def rndG (k : Nat) (L : List (Nat × List El)) : List (Nat × List El) := putM (217 + k) 20 (mkG4 k).2 (putM (204 + k) 8 (mkG4 k).2 (putM (200 + k) 4 (mkG4 k).2 L))
def rndI (k : Nat) (L : List (Nat × List El)) : List (Nat × List El) := putM (210 + k) 14 (mkE6 k).2 L
def tabA : List (Nat × List El) := rnds rndA 6 []
def tabB : List (Nat × List El) := rnds rndB 10 tabA
def tabC : List (Nat × List El) := rnds rndC 26 tabB
def tabD : List (Nat × List El) := rnds rndD 8 tabC
def tabE : List (Nat × List El) := rnds rndE 6 tabD
def tabF : List (Nat × List El) := putM 199 2 48 tabE
def tabG : List (Nat × List El) := rnds rndG 4 tabF
def tabH : List (Nat × List El) := putM 209 13 45 tabG
def tabI : List (Nat × List El) := rnds rndI 5 tabH
def tabJ : List (Nat × List El) := putM 221 24 36 tabI
def tabK1 : List (Nat × List El) := insE 223 [low 18 4, low 18 4] tabJ
def tabK2 : List (Nat × List El) := insE 230 [low 0 4, low 4 4] tabK1
def tabK3 : List (Nat × List El) := insE 198 [low 0 10, low 4 10] tabK2
theorem sgA_lt (k : Nat) : sgA k < 128 := by
  unfold sgA
  rcases (show k = 0 ∨ k = 1 ∨ k = 2 ∨ k = 3 ∨ k = 4 ∨ k = 5 ∨ 6 ≤ k by omega) with rfl | rfl | rfl | rfl | rfl | rfl | h
  all_goals first | decide | (rw [List.getD_eq_getElem?_getD, List.getElem?_eq_none (by simpa using h)]; decide)
theorem putM_length (c b s : Nat) (L : List (Nat × List El)) : (putM c b s L).length ≤ L.length + 2 := by
  have h1 := insE_length c [low b 8, mk s] L
  have h2 := insE_length (c + 32) [low b 2, mk s] (insE c [low b 8, mk s] L)
  unfold putM
  omega
theorem tabK : insE 173 [] tabK3 = rootS := by decide +kernel
theorem lenA : ∀ k < 7, (rnds rndA k []).length ≤ 140 := by decide +kernel
theorem lenB : ∀ k < 11, (rnds rndB k tabA).length ≤ 140 := by decide +kernel
theorem lenC : ∀ k < 27, (rnds rndC k tabB).length ≤ 140 := by decide +kernel
theorem lenD : ∀ k < 9, (rnds rndD k tabC).length ≤ 140 := by decide +kernel
theorem lenE : ∀ k < 7, (rnds rndE k tabD).length ≤ 140 := by decide +kernel
theorem lenF : tabE.length ≤ 140 ∧ tabF.length ≤ 140 := by decide +kernel
theorem lenG : ∀ k < 5, (rnds rndG k tabF).length ≤ 140 := by decide +kernel
theorem lenH : tabG.length ≤ 140 ∧ tabH.length ≤ 140 := by decide +kernel
theorem lenI : ∀ k < 6, (rnds rndI k tabH).length ≤ 140 := by decide +kernel
theorem lenK : tabI.length ≤ 140 ∧ tabJ.length ≤ 140 ∧ tabK1.length ≤ 140 ∧ tabK2.length ≤ 140 ∧ tabK3.length ≤ 140 := by decide +kernel
theorem mkD_mem : ∀ k < 8, mkD k ∈ [(768, 37), (769, 36), (770, 39), (771, 45), (772, 47), (776, 43), (778, 41), (807, 48)] := by decide
theorem mkE6_mem : ∀ k < 6, mkE6 k ∈ [(768, 37), (769, 36), (770, 39), (771, 45), (772, 47), (776, 43), (778, 41), (807, 48)] := by decide
theorem mkG4_mem : ∀ k < 4, mkG4 k ∈ [(768, 37), (769, 36), (770, 39), (771, 45), (772, 47), (776, 43), (778, 41), (807, 48)] := by decide
end Go.Proofs.YtipokgedmfnlaaaGreatDoor
