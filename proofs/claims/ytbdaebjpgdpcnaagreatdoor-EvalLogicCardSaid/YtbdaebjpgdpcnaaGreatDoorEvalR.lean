/-
  What a node is, by its form (from eval.Node over the own ways).
-/
import Derived.Test.YtbdaebjpgdpcnaaGreatDoorEvalI
import Derived.Test.YtbdaebjpgdpcnaaGreatDoorEvalJ
import Derived.Test.YtbdaebjpgdpcnaaGreatDoorEvalO
import Derived.Test.YtbdaebjpgdpcnaaGreatDoorEvalQ
namespace Go.Proofs.YtbdaebjpgdpcnaaGreatDoor
open Go.RowKit Go.Lib
set_option maxRecDepth 100000

section
variable {ra : Option Addr} {rn rc : Nat} {aa : Option Addr} {an ac : Nat} {q : Option Addr} {by_ : Int} {w : World}
/-- A number or NULL, as a node. -/
def numN (X : Option Int) : N6 := ⟨oK X, 0, ⟨#[]⟩, ⟨#[]⟩, oN X, none, 0, 0⟩
/-- An op of two, as a node. -/
def opN (o : Int) (g : Nat) : N6 := ⟨6, o, ⟨#[]⟩, ⟨#[]⟩, 0, some ⟨g, 0, none⟩, 2, 2⟩
theorem ev_num (X : Option Int) : Ev w (evV ra rn rc aa an ac q by_) (numN X) (o3 X) 0 := fun W _ => by
  cases X with
  | none => exact node_any 0 (by decide) 72 (fun _ => by kernel_rfl) (fun _ _ => by kernel_rfl) _ _ _ _ _ _ _ _ _ _ _ _ _ _ _ _ _ _ _ W fun W2 _ => lit_null _ _ _ _ _ _ _ _ _ _ _ _ _ _ _ W2
  | some n => exact node_any 2 (by decide) 72 (fun _ => by kernel_rfl) (fun _ _ => by kernel_rfl) _ _ _ _ _ _ _ _ _ _ _ _ _ _ _ _ _ _ _ W fun W2 _ => lit_int _ _ _ _ _ _ _ _ _ _ _ _ _ _ _ W2
theorem ev_false : Ev w (evV ra rn rc aa an ac q by_) ⟨1, 0, ⟨#[]⟩, ⟨#[]⟩, 0, none, 0, 0⟩ (tr3 0) 0 := fun W _ =>
  node_any 1 (by decide) 72 (fun _ => by kernel_rfl) (fun _ _ => by kernel_rfl) _ _ _ _ _ _ _ _ _ _ _ _ _ _ _ _ _ _ _ W fun W2 _ => lit_false _ _ _ _ _ _ _ _ _ _ _ _ _ _ W2
theorem ev_binary {o : Int} {g : Nat} {v : Int × Int × ByteArray} {er : Int} (h : ∀ W, Ext w W → Calls Tryz.prog 75 #[evV ra rn rc aa an ac q by_, (opN o g).v] W fun e w' => e = .returned (.tuple #[vV v.1 v.2.1 v.2.2, .int .i64 er]) ∧ Below W.heap.size W w') :
    Ev w (evV ra rn rc aa an ac q by_) (opN o g) v er := fun W hW =>
  node_any 6 (by decide) 75 (fun _ => by kernel_rfl) (fun _ _ => by kernel_rfl) _ _ _ _ _ _ _ _ _ _ _ _ _ _ _ _ _ _ _ W fun W2 h2 => h W2 (Ext.trans hW h2)
theorem ev_test (op : Nat) (h1 : 1 ≤ op) (h6 : op ≤ 6) {g : Nat} {x y : N6} {X Y : Option Int} (hN : NdAt w g [x, y]) (hX : Ev w (evV ra rn rc aa an ac q by_) x (o3 X) 0) (hY : Ev w (evV ra rn rc aa an ac q by_) y (o3 Y) 0) : Ev w (evV ra rn rc aa an ac q by_) (opN op g) (tr3 (tst op X Y)) 0 :=
  ev_binary fun W hW => by
    have h := binary_test op ⟨#[]⟩ 0 g 2 x y X Y h1 h6 ra rn rc aa an ac q by_ W (hN.ext hW) (hX.ext hW) (hY.ext hW)
    rw [trV_eq _ (tst_lt op X Y)] at h
    exact h
theorem ev_short (oo : Int) (hop : oo = 18 ∨ oo = 19) {g : Nat} {x y : N6} {a b : Nat} (ha : a < 3) (hb : b < 3) (hN : NdAt w g [x, y]) (hX : Ev w (evV ra rn rc aa an ac q by_) x (tr3 a) 0) (hY : ¬ ((oo = 18 ∧ a = 0) ∨ (oo = 19 ∧ a = 1)) → Ev w (evV ra rn rc aa an ac q by_) y (tr3 b) 0) : Ev w (evV ra rn rc aa an ac q by_) (opN oo g) (tr3 (shT oo a b)) 0 :=
  ev_binary fun W hW => by
    have h := binary_short oo hop ⟨#[]⟩ ⟨#[]⟩ 0 g 2 x y a b ha hb ra rn rc aa an ac q by_ W (hN.ext hW) (hX.ext hW) (fun k => (hY k).ext hW)
    rw [trV_eq _ (shT_lt oo a b)] at h
    exact h
theorem ev_between {g : Nat} {x y z : N6} {X Y Z : Option Int} (hN : NdAt w g [x, y, z]) (hX : Ev w (evV ra rn rc aa an ac q by_) x (o3 X) 0) (hY : Ev w (evV ra rn rc aa an ac q by_) y (o3 Y) 0) (hZ : Ev w (evV ra rn rc aa an ac q by_) z (o3 Z) 0) :
    Ev w (evV ra rn rc aa an ac q by_) ⟨10, 0, ⟨#[]⟩, ⟨#[]⟩, 0, some ⟨g, 0, none⟩, 3, 3⟩ (tr3 (btw 0 X Y Z)) 0 := fun W hW =>
  node_any 10 (by decide) 79 (fun _ => by kernel_rfl) (fun _ _ => by kernel_rfl) _ _ _ _ _ _ _ _ _ _ _ _ _ _ _ _ _ _ _ W fun W2 h2 => by
    have h := between_any 0 ⟨#[]⟩ 0 (.inl rfl) g 3 x y z X Y Z ra rn rc aa an ac q by_ W2 (hN.ext (Ext.trans hW h2)) (hX.ext (Ext.trans hW h2)) (hY.ext (Ext.trans hW h2)) (hZ.ext (Ext.trans hW h2))
    rw [trV_eq _ (btw_lt 0 X Y Z)] at h
    exact h
theorem ev_in (n : Int) (hn : n = 0 ∨ n = 1) {g : Nat} {x y z : N6} {X Y Z : Option Int} (hN : NdAt w g [x, y, z]) (hX : Ev w (evV ra rn rc aa an ac q by_) x (o3 X) 0) (hY : Ev w (evV ra rn rc aa an ac q by_) y (o3 Y) 0) (hZ : Ev w (evV ra rn rc aa an ac q by_) z (o3 Z) 0) :
    Ev w (evV ra rn rc aa an ac q by_) ⟨9, 0, ⟨#[]⟩, ⟨#[]⟩, n, some ⟨g, 0, none⟩, 3, 3⟩ (tr3 (inT n X Y Z)) 0 := fun W hW =>
  node_any 9 (by decide) 78 (fun _ => by kernel_rfl) (fun _ _ => by kernel_rfl) _ _ _ _ _ _ _ _ _ _ _ _ _ _ _ _ _ _ _ W fun W2 h2 => by
    have h := in_any 0 ⟨#[]⟩ n hn g 3 (by decide) x y z X Y Z ra rn rc aa an ac q by_ W2 (hN.ext (Ext.trans hW h2)) (hX.ext (Ext.trans hW h2)) (hY.ext (Ext.trans hW h2)) (hZ.ext (Ext.trans hW h2))
    rw [trV_eq _ (inT_lt n X Y Z)] at h
    exact h
theorem ev_not {g : Nat} {x : N6} {t : Nat} (ht : t < 3) (hN : NdAt w g [x]) (hX : Ev w (evV ra rn rc aa an ac q by_) x (tr3 t) 0) :
    Ev w (evV ra rn rc aa an ac q by_) ⟨5, 21, ⟨#[]⟩, ⟨#[]⟩, 0, some ⟨g, 0, none⟩, 1, 1⟩ (tr3 (notT t)) 0 := fun W hW =>
  node_any 5 (by decide) 74 (fun _ => by kernel_rfl) (fun _ _ => by kernel_rfl) _ _ _ _ _ _ _ _ _ _ _ _ _ _ _ _ _ _ _ W fun W2 h2 => by
    have h := unary_any ⟨#[]⟩ ⟨#[]⟩ 0 g 1 x t ht ra rn rc aa an ac q by_ W2 (hN.ext (Ext.trans hW h2)) (hX.ext (Ext.trans hW h2))
    rw [trV_eq _ (notT_lt t)] at h
    exact h
/-- Nought cannot divide. -/
theorem ev_div {g : Nat} {x y : N6} (hN : NdAt w g [x, y]) (hX : Ev w (evV ra rn rc aa an ac q by_) x (2, 1, emp) 0) (hY : Ev w (evV ra rn rc aa an ac q by_) y (2, 0, emp) 0) : Ev w (evV ra rn rc aa an ac q by_) (opN 10 g) (0, 0, emp) 18 :=
  ev_binary fun W hW => binary_div ⟨#[]⟩ 0 g 2 x y ra rn rc aa an ac q by_ W (hN.ext hW) (hX.ext hW) (hY.ext hW)
theorem ev_err {g : Nat} {x y : N6} (hN : NdAt w g [x, y]) (hX : Ev w (evV ra rn rc aa an ac q by_) x (0, 0, emp) 18) : Ev w (evV ra rn rc aa an ac q by_) (opN 1 g) (0, 0, emp) 18 :=
  ev_binary fun W hW => binary_err 1 (by decide) (by decide) ⟨#[]⟩ ⟨#[]⟩ 0 g 2 x y ra rn rc aa an ac q by_ W (hN.ext hW) (hX.ext hW)
theorem ev_sherr {g : Nat} {x y : N6} (hN : NdAt w g [x, y]) (hX : Ev w (evV ra rn rc aa an ac q by_) x (0, 0, emp) 18) : Ev w (evV ra rn rc aa an ac q by_) (opN 18 g) (0, 0, emp) 18 :=
  ev_binary fun W hW => binary_sherr 18 (.inl rfl) ⟨#[]⟩ ⟨#[]⟩ 0 g 2 x y ra rn rc aa an ac q by_ W (hN.ext hW) (hX.ext hW)
end
end Go.Proofs.YtbdaebjpgdpcnaaGreatDoor
