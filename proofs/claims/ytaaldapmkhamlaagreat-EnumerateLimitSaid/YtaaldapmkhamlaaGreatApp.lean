/-
  Slices of the call's own that are appended to, and the law of append in the words of Base.
-/
import Derived.Test.YtaaldapmkhamlaaGreatBase
import Derived.Maps.AppendAt
namespace Go.Proofs.YtaaldapmkhamlaaGreat
open Go.RowKit

/-- A slice of the call's own: its row lies from block base on. -/
def Own (w : World) (base : Nat) (e : TypeId) (size : Nat) (A : Option Addr) (n c : Nat) (xs : List Value) : Prop := w.ownsRow base e size (.slice A n c) n xs
/-- Only rows with element type e, from block base on, may have changed; new blocks. -/
structure Grow (base : Nat) (e : TypeId) (w w' : World) : Prop where
  below : Below base w w'
  typed : ∀ k : Nat, k < w.heap.size → (∀ (cs : Array Value) (fr : Nat × Nat), w.heap[k]? ≠ some (Obj.cells cs e fr)) → w'.heap[k]? = w.heap[k]?

section
variable {w w' w0 : World} {base : Nat} {e e' : TypeId} {size : Nat} {A : Option Addr} {n c : Nat} {xs vs : List Value}
theorem Own.nil (w : World) (base : Nat) (e : TypeId) (size : Nat) : Own w base e size none 0 0 [] := World.ownsRow_nil w base e size
theorem Own.len (h : Own w base e size A n c xs) : xs.length = n * size := h.1
theorem Own.cap (h : Own w base e size A n c xs) : n ≤ c ∧ c ≤ 9223372036854775807 := by
  rcases h.2 with ⟨hv, hn⟩ | ⟨g, cap, cur, hv, _, _, h1, h2, _⟩
  · injection hv with _ _ hc; subst hc; subst hn; omega
  · injection hv with _ _ hc; subst hc; simp only [maxLen] at h2; omega
theorem Own.ext (h : Own w base e size A n c xs) (hx : Ext w w') : Own w' base e size A n c xs := by
  refine ⟨h.1, ?_⟩
  rcases h.2 with hv | ⟨g, cap, cur, hv, h1, h2, h3⟩
  · exact .inl hv
  · exact .inr ⟨g, cap, cur, hv, h1, heap_of_ext hx h2, h3⟩
theorem Own.arr (h : Own w base e size A n c xs) : Arr w A e xs := fun h0 => by
  rcases h.2 with ⟨hv, hn⟩ | ⟨g, cap, cur, hv, h1, h2, _, _, _, h4⟩
  · have := h.1; rw [hn] at this; omega
  · injection hv with hA
    refine ⟨g, 0, cur, (0, 0), hA, h2, fun j u hu => ?_⟩
    rw [Nat.zero_add, ← Array.getElem?_toList]
    rw [← h4, List.getElem?_take] at hu
    split at hu
    · exact hu
    · simp at hu
theorem Own.lower (h : Own w base e size A n c xs) {base' : Nat} (hb : base' ≤ base) : Own w base' e size A n c xs := by
  refine ⟨h.1, ?_⟩
  rcases h.2 with hv | ⟨g, cap, cur, hv, h1, h2, h3⟩
  · exact .inl hv
  · exact .inr ⟨g, cap, cur, hv, by omega, h2, h3⟩
theorem Grow.refl (base : Nat) (e : TypeId) (w : World) : Grow base e w w := ⟨Below.refl _ _, fun _ _ _ => rfl⟩
theorem Grow.ext (h : Grow base e w w') (hx : Ext w0 w) (hb : w0.heap.size ≤ base) : Ext w0 w' := ⟨hx.below.trans (h.below.mono hb)⟩
theorem Arr.grow (h : Arr w A e' vs) (hg : Grow base e w w') (hne : e' ≠ e) : Arr w' A e' vs :=
  h.keep fun b cs fr hb => hg.typed b (lt_of_heap hb) fun cs' fr' hh => by rw [hb] at hh; injection hh with hh; injection hh with _ he; exact hne he
theorem Ints.grow {k : IntKind} {l : List Int} (h : Ints w A e' k l) (hg : Grow base e w w') (hne : e' ≠ e) : Ints w' A e' k l := Arr.grow h hg hne
theorem IntV.grow {neg : Bool} {z : Int} (h : IntV w neg A n c z) (hg : Grow base e w w') (hne : 237 ≠ e) : IntV w' neg A n c z := by
  obtain ⟨l, h1, h2, h3, h4, h5, h6, h7⟩ := h
  exact ⟨l, h1, h2, h3, h4, h5, h6.grow hg hne, h7⟩
end

section
variable {P : Program} (w : World)
theorem run_app_nil (base : Nat) (t ty e : TypeId) (i : TypeInfo) (size : Nat) (ht : P.underlying t = some (.slice e)) (hi : P.info? e = some i)
    (v : Value) (n : Nat) (xs : List Value) (hown : w.ownsRow base e size v n xs) (c : Nat) : (Builtin.append_ #[t, t] ty #[v, .slice none 0 c]).run P w = .ok v w := by
  rcases hown.2 with ⟨rfl, rfl⟩ | ⟨g, cap, cur, rfl, _, _, hnc, _⟩
  · simp [Builtin.append_, run_underlying ht, sizeOf, typeInfo, hi, Builtin.lenOf, Builtin.firstCells]
  · simp [Builtin.append_, run_underlying ht, sizeOf, typeInfo, hi, Builtin.lenOf, Builtin.firstCells, hnc, storeCells]

theorem grow_of_grownBy {w w' : World} {base : Nat} {e : TypeId} {size : Nat} {v : Value} {n : Nat} {xs : List Value} (hown : w.ownsRow base e size v n xs) (hg : w.grownBy w' v.ownBlock) (hbase : base ≤ w.heap.size) : Grow base e w w' := by
  have hrow : ∀ k, v.ownBlock = some k → base ≤ k := fun k hk => (hown.lt k hk).1
  refine ⟨(Below.refl base w).grown hg hbase hrow, fun k hk hne => hg.block k hk fun hh => ?_⟩
  rcases hown.2 with ⟨rfl, _⟩ | ⟨g, cap, cur, rfl, _, h2, _⟩
  · simp [Value.ownBlock] at hh
  · have : k = g := by simpa [Value.ownBlock] using hh
    subst this
    exact hne _ _ h2

theorem run_app (base : Nat) (t ty e : TypeId) (z : Value) (size bytes : Nat) (ht : P.underlying t = some (.slice e)) (hi : (P.info? e).map (fun i => (i.zero, i.size, i.bytes)) = some (some z, size, bytes))
    (hzs : z.cells.size = size) (hsz : 0 < size) (hb : bytes ≤ 128)
    (A : Option Addr) (n c : Nat) (xs : List Value) (hown : Own w base e size A n c xs)
    (A' : Option Addr) (m c' : Nat) (news : List Value) (hsrc : Arr w A' e news) (hl : news.length = m * size) (h1 : ∀ u ∈ news, u.oneCell' = true)
    (h63 : n + m ≤ 1099511627776) (hbase : base ≤ w.heap.size) :
    ∃ A1 c1 w', (Builtin.append_ #[t, t] ty #[.slice A n c, .slice A' m c']).run P w = .ok (.slice A1 (n + m) c1) w' ∧ Own w' base e size A1 (n + m) c1 (xs ++ news) ∧ Grow base e w w' := by
  obtain ⟨i, hi1, hz, hs, hby⟩ := info_parts hi
  have hbytes : (n + m) * bytes ≤ 140737488355328 := by
    have : (n + m) * bytes ≤ (n + m) * 128 := Nat.mul_le_mul_left _ hb
    omega
  have key : ∀ (v' : Value) (w' : World), w'.ownsRow base e size v' (n + m) (xs ++ news) → ∃ A1 c1, v' = .slice A1 (n + m) c1 := by
    intro v' w' h
    rcases h.2 with ⟨rfl, hn⟩ | ⟨g, cap, cur, rfl, _⟩
    · exact ⟨none, 0, by rw [hn]⟩
    · exact ⟨_, cap, rfl⟩
  rcases A' with _ | ad
  · have hm : m = 0 := by
      rcases Nat.eq_zero_or_pos m with h0 | h0
      · exact h0
      · have : 0 < news.length := by rw [hl]; exact Nat.mul_pos h0 hsz
        obtain ⟨b, o, _, _, h, _⟩ := hsrc this
        cases h
    subst hm
    have hn : news = [] := List.eq_nil_of_length_eq_zero (by simpa using hl)
    subst hn
    exact ⟨A, c, w, run_app_nil w base t ty e i size ht hi1 _ n xs hown c', by simpa [Own] using hown, Grow.refl _ _ _⟩
  · have hcells : ∀ j u, news[j]? = some u → w.cell? (ad.add j) = some u := by
      intro j u hu
      obtain ⟨b, o, h, hc, _⟩ := hsrc.at_ hu
      injection h with h
      subst h
      have : (⟨b, o, none⟩ : Addr).add j = ⟨b, o + j, none⟩ := by
        unfold Addr.add
        split
        · simp_all
        · rfl
      rw [this]; exact hc
    obtain ⟨v', w', hrun, h2, h3, _, _⟩ := run_append_own_at (P := P) w base t ty e i z size bytes ht hi1 hz hs hby hzs hsz _ n xs hown ad m c' news hl hcells h1 (by simp only [maxLen]; omega) hbytes hbase
    obtain ⟨A1, c1, rfl⟩ := key _ _ h2
    exact ⟨A1, c1, w', hrun, h2, grow_of_grownBy hown h3 hbase⟩

theorem wp_app {o : Oper} {a : Act} {K : Act → World → Prop} {Q : Exit → Act → World → Prop} (s x : Operand) (t : TypeId)
    (ho : o.op = .call { callee := .builtin .append, args := #[s, x], argTypes := #[t, t] })
    (base : Nat) (e : TypeId) (z : Value) (size bytes : Nat) (ht : P.underlying t = some (.slice e)) (hi : (P.info? e).map (fun i => (i.zero, i.size, i.bytes)) = some (some z, size, bytes))
    (hzs : z.cells.size = size) (hsz : 0 < size) (hb : bytes ≤ 128)
    (A : Option Addr) (n c : Nat) (xs : List Value) (hs : a.eval s = .slice A n c) (hown : Own w base e size A n c xs)
    (A' : Option Addr) (m c' : Nat) (news : List Value) (hx : a.eval x = .slice A' m c') (hsrc : Arr w A' e news) (hl : news.length = m * size) (h1 : ∀ u ∈ news, u.oneCell' = true)
    (h63 : n + m ≤ 1099511627776) (hbase : base ≤ w.heap.size)
    (h : ∀ A1 c1 w', Own w' base e size A1 (n + m) c1 (xs ++ news) → Grow base e w w' → K (a.put o.dst (.slice A1 (n + m) c1)) w') : o.wp P a w K Q := by
  obtain ⟨A1, c1, w', hrun, h2, h3⟩ := run_app (P := P) w base t o.type e z size bytes ht hi hzs hsz hb A n c xs hown A' m c' news hsrc hl h1 h63 hbase
  unfold Oper.wp execOp
  simp only [ho, resolve, invoke, builtin, Sem.run_bind, Sem.run_pure, Result.andThen_ok, List.map_toArray, List.map_cons, List.map_nil, hs, hx, hrun]
  exact h A1 c1 w' h2 h3

theorem wpList_app {ops : Array Oper} {rest : List Oper} {o : Oper} {a : Act} {Q : Exit → Act → World → Prop} (hgd : o.guard = none) (s x : Operand) (t : TypeId)
    (ho : o.op = .call { callee := .builtin .append, args := #[s, x], argTypes := #[t, t] })
    (base : Nat) (e : TypeId) (z : Value) (size bytes : Nat) (ht : P.underlying t = some (.slice e)) (hi : (P.info? e).map (fun i => (i.zero, i.size, i.bytes)) = some (some z, size, bytes))
    (hzs : z.cells.size = size) (hsz : 0 < size) (hb : bytes ≤ 128)
    (A : Option Addr) (n c : Nat) (xs : List Value) (hs : a.eval s = .slice A n c) (hown : Own w base e size A n c xs)
    (A' : Option Addr) (m c' : Nat) (news : List Value) (hx : a.eval x = .slice A' m c') (hsrc : Arr w A' e news) (hl : news.length = m * size) (h1 : ∀ u ∈ news, u.oneCell' = true)
    (h63 : n + m ≤ 1099511627776) (hbase : base ≤ w.heap.size)
    (h : ∀ A1 c1 w', Own w' base e size A1 (n + m) c1 (xs ++ news) → Grow base e w w' → wpList P ops Q rest (a.put o.dst (.slice A1 (n + m) c1)) w') : wpList P ops Q (o :: rest) a w :=
  wpList_plain hgd fun _ hK => wp_app w s x t ho base e z size bytes ht hi hzs hsz hb A n c xs hs hown A' m c' news hx hsrc hl h1 h63 hbase fun A1 c1 w' h2 h3 => hK _ _ (h A1 c1 w' h2 h3)

theorem step_app {ops : Array Oper} {o : Oper} {a : Act} {K : Act → World → Prop} {Q : Exit → Act → World → Prop} {E : Prop} (hgd : o.guard = none) (s x : Operand) (t : TypeId)
    (ho : o.op = .call { callee := .builtin .append, args := #[s, x], argTypes := #[t, t] })
    (base : Nat) (e : TypeId) (z : Value) (size bytes : Nat) (ht : P.underlying t = some (.slice e)) (hi : (P.info? e).map (fun i => (i.zero, i.size, i.bytes)) = some (some z, size, bytes))
    (hzs : z.cells.size = size) (hsz : 0 < size) (hb : bytes ≤ 128)
    (A : Option Addr) (n c : Nat) (xs : List Value) (hs : a.eval s = .slice A n c) (hown : Own w base e size A n c xs)
    (A' : Option Addr) (m c' : Nat) (news : List Value) (hx : a.eval x = .slice A' m c') (hsrc : Arr w A' e news) (hl : news.length = m * size) (h1 : ∀ u ∈ news, u.oneCell' = true)
    (h63 : n + m ≤ 1099511627776) (hbase : base ≤ w.heap.size)
    (h : ∀ A1 c1 w', Own w' base e size A1 (n + m) c1 (xs ++ news) → Grow base e w w' → K (a.put o.dst (.slice A1 (n + m) c1)) w') :
    if Region.wanted o (yielded ops a.tmps) = true then Oper.wp P o a w K Q else E := by
  have hw : Region.wanted o (yielded ops a.tmps) = true := by simp [Region.wanted, hgd]
  rw [if_pos hw]
  exact wp_app w s x t ho base e z size bytes ht hi hzs hsz hb A n c xs hs hown A' m c' news hx hsrc hl h1 h63 hbase h
end
end Go.Proofs.YtaaldapmkhamlaaGreat
