import Derived.Maps.AppendAt
import Derived.Test.YtchpbdodlbghaaaGreatDoorBase
namespace Go.Proofs.YtchpbdodlbghaaaGreatDoor
open Go.RowKit

theorem wpList_push {P : Program} {w : World} {ops : Array Oper} {rest : List Oper} {o : Oper} {a : Act} {Q : Exit → Act → World → Prop} (hgd : o.guard = none) (s x : Operand) (t : TypeId)
    (ho : o.op = .call { callee := .builtin .append, args := #[s, x], argTypes := #[t, t] })
    (base : Nat) (e : TypeId) (z : Value) (size bytes : Nat) (ht : P.underlying t = some (.slice e)) (hinfo : (P.info? e).map (fun i => (i.zero, i.size, i.bytes)) = some (some z, size, bytes))
    (hzs : z.cells.size = size) (hsz : 0 < size)
    (v : Value) (n : Nat) (xs : List Value) (hs : a.eval s = v) (hown : w.ownsRow base e size v n xs)
    (b : Nat) (te : TypeId) (news : Array Value) (hx : a.eval x = .slice (some ⟨b, 0, none⟩) 1 1) (hb : Blk w b news te) (hl : news.size = size) (h1 : ∀ u ∈ news.toList, u.oneCell' = true)
    (h63 : n + 1 ≤ maxLen) (hbytes : (n + 1) * bytes ≤ 140737488355328) (hbase : base ≤ w.heap.size)
    (h : ∀ v' w', w'.ownsRow base e size v' (n + 1) (xs ++ news.toList) → w.grownBy w' v.ownBlock → (v'.ownBlock = v.ownBlock ∨ v'.ownBlock = some w.heap.size) → wpList P ops Q rest (a.put o.dst v') w') :
    wpList P ops Q (o :: rest) a w := by
  obtain ⟨i, hi, hz0, hz1, hz2⟩ := info_parts hinfo
  refine wpList_append_own_at w hgd s x t ho base e i z size bytes ht hi hz0 hz1 hz2 hzs hsz v n xs hs hown ⟨b, 0, none⟩ 1 1 news.toList hx (by simpa using hl) (fun j u hj => ?_) h1 h63 hbytes hbase
    (fun v' w' h2 h3 _ h5 => h v' w' h2 h3 h5)
  rw [Addr.add_lit, Nat.zero_add, hb.cell]
  simpa using hj

section
variable {w w' : World} {B : Nat} {e eo ei : TypeId} {v : Value}

theorem ownsRow_heap {n size : Nat} {xs : List Value} (h : w.ownsRow B e size v n xs) {g : Nat} (hg : v.ownBlock = some g) : ∃ cur, w.heap[g]? = some (.cells cur e (0, 0)) ∧ g < w.heap.size := by
  rcases h.2 with ⟨rfl, _⟩ | ⟨g', cap, cur, rfl, _, hh, _⟩
  · simp [Value.ownBlock] at hg
  · simp [Value.ownBlock] at hg
    subst hg
    exact ⟨cur, hh, (Array.getElem?_eq_some_iff.1 hh).1⟩
theorem ownsRow_apart {e1 e2 : TypeId} {v1 v2 : Value} {n1 n2 s1 s2 : Nat} {x1 x2 : List Value} (h1 : w.ownsRow B e1 s1 v1 n1 x1) (h2 : w.ownsRow B e2 s2 v2 n2 x2) (hne : e1 ≠ e2) {g : Nat} (hg : v1.ownBlock = some g) : v2.ownBlock ≠ some g := by
  intro hg2
  obtain ⟨c1, e1, _⟩ := ownsRow_heap h1 hg
  obtain ⟨c2, e2, _⟩ := ownsRow_heap h2 hg2
  rw [e1] at e2
  injection e2 with e2
  injection e2 with _ e2
  exact hne e2
theorem ownsRow_slice {n size : Nat} {xs : List Value} (h : w.ownsRow B e size v n xs) : ∃ ao cap, v = .slice ao n cap ∧ n ≤ cap := by
  rcases h.2 with ⟨rfl, rfl⟩ | ⟨g', cap, cur, rfl, _, _, hn, _⟩
  · exact ⟨none, 0, rfl, Nat.le_refl _⟩
  · exact ⟨_, cap, rfl, hn⟩
theorem ownsRow_ext {n size : Nat} {xs : List Value} (h : w.ownsRow B e size v n xs) (hb : Below w.heap.size w w') : w'.ownsRow B e size v n xs :=
  h.kept (row := none) ⟨hb.os, hb.tape, hb.output, hb.size, fun k hk _ => hb.block k hk⟩ (by cases hv : v.ownBlock <;> simp)

def OwnsLL (w : World) (B : Nat) (eo ei : TypeId) (v : Value) (L : List (List Value)) : Prop :=
  ∃ vs : List Value, w.ownsRow B eo 1 v L.length vs ∧ vs.length = L.length ∧ (∀ (j : Nat) (u : Value) (l : List Value), vs[j]? = some u → L[j]? = some l → w.ownsRow B ei 1 u l.length l) ∧
    (∀ (i j : Nat) (u u' : Value) (g : Nat), i ≠ j → vs[i]? = some u → vs[j]? = some u' → u.ownBlock = some g → u'.ownBlock ≠ some g)

theorem OwnsLL.nil (w : World) (B : Nat) (eo ei : TypeId) : OwnsLL w B eo ei (.slice none 0 0) [] :=
  ⟨[], World.ownsRow_nil _ _ _ _, rfl, fun j u l h => by simp at h, fun i j u u' g _ h => by simp at h⟩

theorem OwnsLL.ext {L : List (List Value)} (h : OwnsLL w B eo ei v L) (hb : Below w.heap.size w w') : OwnsLL w' B eo ei v L := by
  obtain ⟨vs, h1, h2, h3, h4⟩ := h
  exact ⟨vs, ownsRow_ext h1 hb, h2, fun j u l hu hl => ownsRow_ext (h3 j u l hu hl) hb, h4⟩

theorem OwnsLL.grown {L : List (List Value)} (h : OwnsLL w B eo ei v L) {g : Nat} (hg : w.grownBy w' (some g)) (hm : ∀ c e, w.heap[g]? ≠ some (.cells c e (0, 0))) : OwnsLL w' B eo ei v L := by
  obtain ⟨vs, h1, h2, h3, h4⟩ := h
  have apart : ∀ {e n size} {u : Value} {xs : List Value}, w.ownsRow B e size u n xs → u.ownBlock = none ∨ u.ownBlock ≠ some g := by
    intro e n size u xs hr
    right
    intro hgu
    obtain ⟨c, hc, _⟩ := ownsRow_heap hr hgu
    exact hm _ _ hc
  exact ⟨vs, h1.kept hg (apart h1), h2, fun j u l hu hl => (h3 j u l hu hl).kept hg (apart (h3 j u l hu hl)), h4⟩

theorem OwnsLL.push {L : List (List Value)} {vs : List Value} {v' : Value} (hne : eo ≠ ei) (h1 : w.ownsRow B eo 1 v L.length vs) (h2 : vs.length = L.length) (h3 : ∀ (j : Nat) (u : Value) (l : List Value), vs[j]? = some u → L[j]? = some l → w.ownsRow B ei 1 u l.length l)
    (h4 : ∀ (i j : Nat) (u u' : Value) (g : Nat), i ≠ j → vs[i]? = some u → vs[j]? = some u' → u.ownBlock = some g → u'.ownBlock ≠ some g)
    (hown : w'.ownsRow B eo 1 v' (L.length + 1) (vs ++ [.slice none 0 0])) (hg : w.grownBy w' v.ownBlock) : OwnsLL w' B eo ei v' (L ++ [[]]) := by
  refine ⟨vs ++ [.slice none 0 0], by simpa using hown, by simp [h2], fun j u l hu hl => ?_, fun i j u u' g hij hu hu' hgu => ?_⟩
  · rcases Nat.lt_trichotomy j vs.length with hlt | heq | hgt
    · rw [List.getElem?_append_left hlt] at hu
      rw [List.getElem?_append_left (by omega)] at hl
      have hr := h3 j u l hu hl
      refine hr.kept hg ?_
      cases huo : u.ownBlock with
      | none => exact .inl rfl
      | some g => exact .inr (fun e => ownsRow_apart h1 hr hne e.symm huo)
    · subst heq
      rw [List.getElem?_append_right (by omega)] at hu
      rw [List.getElem?_append_right (by omega), h2] at hl
      simp at hu hl
      subst hu hl
      exact World.ownsRow_nil _ _ _ _
    · rw [List.getElem?_eq_none (by simp; omega)] at hu; cases hu
  · have one : ∀ (k : Nat) (x : Value), (vs ++ [.slice none 0 0])[k]? = some x → x.ownBlock ≠ none → vs[k]? = some x := by
      intro k x hk hx
      rcases Nat.lt_or_ge k vs.length with hlt | hge
      · rwa [List.getElem?_append_left hlt] at hk
      · rw [List.getElem?_append_right hge] at hk
        rcases Nat.eq_zero_or_pos (k - vs.length) with h0 | hp
        · rw [h0] at hk; simp at hk; subst hk; exact absurd rfl hx
        · rw [List.getElem?_eq_none (by simp; omega)] at hk; cases hk
    intro hg'
    exact h4 i j u u' g hij (one i u hu (by rw [hgu]; simp)) (one j u' hu' (by rw [hg']; simp)) hgu hg'

theorem OwnsLL.grow {L : List (List Value)} {vs : List Value} {n g cap : Nat} {u u' x : Value} {l : List Value} (hne : eo ≠ ei) (h1 : w.ownsRow B eo 1 (.slice (some ⟨g, 0, none⟩) L.length cap) L.length vs) (h2 : vs.length = L.length)
    (h3 : ∀ (j : Nat) (u : Value) (l : List Value), vs[j]? = some u → L[j]? = some l → w.ownsRow B ei 1 u l.length l)
    (h4 : ∀ (i j : Nat) (u u' : Value) (g : Nat), i ≠ j → vs[i]? = some u → vs[j]? = some u' → u.ownBlock = some g → u'.ownBlock ≠ some g) (hu : vs[n]? = some u) (hl : L[n]? = some l)
    (hown : w'.ownsRow B ei 1 u' (l.length + 1) (l ++ [x])) (hg : w.grownBy w' u.ownBlock) (hat : u'.ownBlock = u.ownBlock ∨ u'.ownBlock = some w.heap.size) :
    OwnsLL (w'.setCell ⟨g, n, none⟩ u') B eo ei (.slice (some ⟨g, 0, none⟩) L.length cap) (L.set n (l ++ [x])) ∧ w'.cell? ⟨g, n, none⟩ = some u ∧ w'.frozen? ⟨g, n, none⟩ = false := by
  have hnl : n < L.length := (List.getElem?_eq_some_iff.1 hl).1
  have hub : u.ownBlock = none ∨ u.ownBlock ≠ some g := by
    cases huo : u.ownBlock with
    | none => exact .inl rfl
    | some k => exact .inr (fun e => ownsRow_apart h1 (h3 n u l hu hl) hne (g := g) rfl (by rw [huo, e]))
  have hout : w'.ownsRow B eo 1 (.slice (some ⟨g, 0, none⟩) L.length cap) L.length vs := h1.kept hg (by
    right
    rcases hub with h | h
    · rw [h]; simp [Value.ownBlock]
    · exact fun e => h e.symm)
  obtain ⟨hst, hgs⟩ := hout.stored n u'
  have hug : u'.ownBlock ≠ some g := fun e => ownsRow_apart hout hown hne (g := g) rfl e
  refine ⟨⟨vs.set n u', by simpa using hst, by simp [h2], fun j y m hy hm => ?_, fun i j y y' k hij hy hy' hk => ?_⟩, by rw [hout.cellAt n (by omega), hu], hout.frozenAt n⟩
  · by_cases hj : j = n
    · subst hj
      rw [List.getElem?_set_self (by omega)] at hy hm
      obtain rfl := Option.some.inj hy
      obtain rfl := Option.some.inj hm
      simpa using hown.kept hgs (.inr hug)
    · rw [List.getElem?_set_ne (by omega)] at hy hm
      have hr := h3 j y m hy hm
      have hr2 : w'.ownsRow B ei 1 y m.length m := hr.kept hg (by
        cases hyo : y.ownBlock with
        | none => exact .inl rfl
        | some k => exact .inr (fun e => h4 n j u y k (fun e => hj e.symm) hu hy e.symm hyo))
      exact hr2.kept hgs (.inr (fun e => ownsRow_apart hout hr2 hne (g := g) rfl e))
  · have fresh : ∀ (j : Nat) (y : Value), j ≠ n → vs[j]? = some y → ∀ k, u'.ownBlock = some k → y.ownBlock ≠ some k := by
      intro j y hj hy k hk hyk
      obtain ⟨m, hm⟩ : ∃ m, L[j]? = some m := ⟨_, List.getElem?_eq_getElem (by have := (List.getElem?_eq_some_iff.1 hy).1; omega)⟩
      rcases hat with h | h
      · exact h4 n j u y k (fun e => hj e.symm) hu hy (by rw [← h]; exact hk) hyk
      · rw [h] at hk
        obtain ⟨_, _, hlt⟩ := ownsRow_heap (h3 j y m hy hm) hyk
        simp at hk; omega
    by_cases hi : i = n
    · subst hi
      rw [List.getElem?_set_self (by omega)] at hy
      rw [List.getElem?_set_ne (by omega)] at hy'
      obtain rfl := Option.some.inj hy
      exact fresh j y' (fun e => hij e.symm) hy' k hk
    · rw [List.getElem?_set_ne (by omega)] at hy
      by_cases hj : j = n
      · subst hj
        rw [List.getElem?_set_self (by omega)] at hy'
        obtain rfl := Option.some.inj hy'
        intro e
        exact fresh i y hi hy k e hk
      · rw [List.getElem?_set_ne (by omega)] at hy'
        exact h4 i j y y' k hij hy hy' hk
theorem OwnsLL.at {L : List (List Value)} (h : OwnsLL w B eo ei v L) {n : Nat} {l : List Value} (hl : L[n]? = some l) :
    ∃ g cap vs u, v = .slice (some ⟨g, 0, none⟩) L.length cap ∧ w.ownsRow B eo 1 (.slice (some ⟨g, 0, none⟩) L.length cap) L.length vs ∧ vs.length = L.length ∧
      (∀ (j : Nat) (u : Value) (l : List Value), vs[j]? = some u → L[j]? = some l → w.ownsRow B ei 1 u l.length l) ∧
      (∀ (i j : Nat) (u u' : Value) (g : Nat), i ≠ j → vs[i]? = some u → vs[j]? = some u' → u.ownBlock = some g → u'.ownBlock ≠ some g) ∧
      vs[n]? = some u ∧ w.ownsRow B ei 1 u l.length l ∧ w.cell? ⟨g, n, none⟩ = some u ∧ w.frozen? ⟨g, n, none⟩ = false ∧ B ≤ g ∧ g < w.heap.size ∧ L.length ≤ cap := by
  obtain ⟨vs, h1, h2, h3, h4⟩ := h
  have hn : n < L.length := (List.getElem?_eq_some_iff.1 hl).1
  rcases h1.2 with ⟨_, h0⟩ | ⟨g, cap, cur, rfl, hb, hh, hnc, hcm, hcs, htake⟩
  · omega
  · have hu : vs[n]? = some vs[n] := List.getElem?_eq_getElem (by omega)
    refine ⟨g, cap, vs, vs[n], rfl, h1, h2, h3, h4, hu, h3 n _ l hu hl, ?_, h1.frozenAt n, hb, (Array.getElem?_eq_some_iff.1 hh).1, hnc⟩
    rw [h1.cellAt n (by omega), hu]
theorem OwnsLL.shape {L : List (List Value)} (h : OwnsLL w B eo ei v L) : (v = .slice none 0 0 ∧ L = []) ∨ ∃ g cap, v = .slice (some ⟨g, 0, none⟩) L.length cap ∧ L.length ≤ cap ∧ B ≤ g ∧ g < w.heap.size ∧ cap ≤ maxLen := by
  obtain ⟨vs, h1, h2, h3, h4⟩ := h
  rcases h1.2 with ⟨h, h0⟩ | ⟨g, cap, cur, rfl, hb, hh, hnc, hcm, hcs, htake⟩
  · exact .inl ⟨h, List.eq_nil_of_length_eq_zero h0⟩
  · exact .inr ⟨g, cap, rfl, hnc, hb, (Array.getElem?_eq_some_iff.1 hh).1, hcm⟩
def ReadsL (w : World) (v : Value) (l : List Value) : Prop :=
  (v = .slice none 0 0 ∧ l = []) ∨ ∃ g c, v = .slice (some ⟨g, 0, none⟩) l.length c ∧ l.length ≤ c ∧ ∀ (j : Nat) (u : Value), l[j]? = some u → w.cell? ⟨g, j, none⟩ = some u
def ReadsLL (w : World) (v : Value) (L : List (List Value)) : Prop :=
  ∃ vs : List Value, ReadsL w v vs ∧ vs.length = L.length ∧ ∀ (j : Nat) (u : Value) (l : List Value), vs[j]? = some u → L[j]? = some l → ReadsL w u l
theorem ownsRow_reads {n : Nat} {xs : List Value} (h : w.ownsRow B e 1 v n xs) : ReadsL w v xs := by
  have hl := h.1
  rcases h.2 with ⟨rfl, rfl⟩ | ⟨g, cap, cur, rfl, hb, hh, hnc, hcm, hcs, htake⟩
  · exact .inl ⟨rfl, List.eq_nil_of_length_eq_zero (by simpa using hl)⟩
  · obtain rfl : n = xs.length := by omega
    refine .inr ⟨g, cap, rfl, hnc, fun j u hu => ?_⟩
    have hj : j < xs.length := (List.getElem?_eq_some_iff.1 hu).1
    rw [h.cellAt j (by omega)]; exact hu
def clip : Value → Value
  | .slice a n _ => .slice a n n
  | v => v
theorem ReadsL.clip {xs : List Value} (h : ReadsL w v xs) : ReadsL w (clip v) xs := by
  rcases h with ⟨rfl, rfl⟩ | ⟨g, c, rfl, h1, h2⟩
  · exact .inl ⟨rfl, rfl⟩
  · exact .inr ⟨g, _, rfl, Nat.le_refl _, h2⟩
theorem OwnsLL.reads {L : List (List Value)} (h : OwnsLL w B eo ei v L) : ReadsLL w (clip v) L := by
  obtain ⟨vs, h1, h2, h3, _⟩ := h
  exact ⟨vs, (ownsRow_reads h1).clip, h2, fun j u l hu hl => ownsRow_reads (h3 j u l hu hl)⟩
theorem ReadsL.ext {xs : List Value} (h : ReadsL w v xs) (hb : Below w.heap.size w w') : ReadsL w' v xs := by
  rcases h with h | ⟨g, c, rfl, h1, h2⟩
  · exact .inl h
  · exact .inr ⟨g, c, rfl, h1, fun j u hu => by
      have := h2 j u hu
      rw [hb.cell (World.block_lt_of_cell? w _ this)]; exact this⟩
theorem ReadsLL.ext {L : List (List Value)} (h : ReadsLL w v L) (hb : Below w.heap.size w w') : ReadsLL w' v L := by
  obtain ⟨vs, h1, h2, h3⟩ := h
  exact ⟨vs, h1.ext hb, h2, fun j u l hu hl => (h3 j u l hu hl).ext hb⟩
end
end Go.Proofs.YtchpbdodlbghaaaGreatDoor
