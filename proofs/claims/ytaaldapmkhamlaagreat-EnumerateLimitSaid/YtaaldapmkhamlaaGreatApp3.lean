/-
  The law of append that tells which block has changed.
-/
import Derived.Test.YtaaldapmkhamlaaGreatToX
namespace Go.Proofs.YtaaldapmkhamlaaGreat
open Go.RowKit
/-- The slice at A was appended to and lies at A' now: no other block has changed, and the slice lies where it lay or in a new block. -/
structure Grew (A A' : Option Addr) (w w' : World) : Prop where
  block : ∀ k, k < w.heap.size → (∀ a, A = some a → a.block ≠ k) → w'.heap[k]? = w.heap[k]?
  own : ∀ a', A' = some a' → (∃ a, A = some a ∧ a.block = a'.block) ∨ w.heap.size ≤ a'.block
  size : w.heap.size ≤ w'.heap.size
theorem Grew.refl (A : Option Addr) (w : World) : Grew A A w w := ⟨fun _ _ _ => rfl, fun a h => .inl ⟨a, h, rfl⟩, Nat.le_refl _⟩
/-- A slice that does not lie in the block of X. -/
def ArrN (X : Option Addr) (w : World) (A : Option Addr) (e : TypeId) (vs : List Value) : Prop :=
  0 < vs.length → ∃ (b o : Nat) (cs : Array Value) (fr : Nat × Nat), A = some ⟨b, o, none⟩ ∧ (∀ a, X = some a → a.block ≠ b) ∧ w.heap[b]? = some (.cells cs e fr) ∧ ∀ (j : Nat) (u : Value), vs[j]? = some u → cs[o + j]? = some u
section
variable {X X' A : Option Addr} {w w' : World} {e T : TypeId} {vs : List Value}
theorem ArrN.arr (h : ArrN X w A e vs) : Arr w A e vs := fun h0 => by
  obtain ⟨b, o, cs, fr, rfl, _, hb, hc⟩ := h h0
  exact ⟨b, o, cs, fr, rfl, hb, hc⟩
theorem ArrN.ext (h : ArrN X w A e vs) (hx : Ext w w') : ArrN X w' A e vs := fun h0 => by
  obtain ⟨b, o, cs, fr, rfl, h1, hb, hc⟩ := h h0
  exact ⟨b, o, cs, fr, rfl, h1, heap_of_ext hx hb, hc⟩
theorem ArrN.oth (h : ArrN X w A e vs) (ho : Oth T w w') (hn : e ≠ T) : ArrN X w' A e vs := fun h0 => by
  obtain ⟨b, o, cs, fr, rfl, h1, hb, hc⟩ := h h0
  exact ⟨b, o, cs, fr, rfl, h1, ho _ _ _ _ hn hb, hc⟩
theorem ArrN.grew (h : ArrN X w A e vs) (hg : Grew X X' w w') : ArrN X' w' A e vs := fun h0 => by
  obtain ⟨b, o, cs, fr, rfl, h1, hb, hc⟩ := h h0
  refine ⟨b, o, cs, fr, rfl, fun a' ha' => ?_, (hg.block b (lt_of_heap hb) h1).trans hb, hc⟩
  rcases hg.own a' ha' with ⟨a, ha, hab⟩ | hle
  · rw [← hab]; exact h1 a ha
  · have := lt_of_heap hb; omega
theorem ArrX.arrN {lo : Nat} (h : ArrX lo w A e vs) (hX : ∀ a, X = some a → a.block < lo) : ArrN X w A e vs := fun h0 => by
  obtain ⟨b, o, cs, fr, rfl, h1, hb, hc⟩ := h h0
  exact ⟨b, o, cs, fr, rfl, fun a ha => by have := hX a ha; omega, hb, hc⟩
theorem Own.blockLt {base size n c : Nat} {xs : List Value} (h : Own w base e size A n c xs) : ∀ a, A = some a → a.block < w.heap.size := fun a ha => by
  rcases h.2 with ⟨hv, _⟩ | ⟨g, cap, cur, hv, _, h2, _⟩
  · injection hv with hA; rw [hA] at ha; cases ha
  · injection hv with hA; rw [hA] at ha; injection ha with ha; subst ha; exact lt_of_heap h2
end
section
variable {P : Program} (w : World)
theorem run_appx (base : Nat) (t ty e : TypeId) (z : Value) (size bytes : Nat) (ht : P.underlying t = some (.slice e)) (hi : (P.info? e).map (fun i => (i.zero, i.size, i.bytes)) = some (some z, size, bytes))
    (hzs : z.cells.size = size) (hsz : 0 < size) (hb : bytes ≤ 128)
    (A : Option Addr) (n c : Nat) (xs : List Value) (hown : Own w base e size A n c xs)
    (ad : Addr) (m c' : Nat) (news : List Value) (hsrc : Arr w (some ad) e news) (hl : news.length = m * size) (h1 : ∀ u ∈ news, u.oneCell' = true)
    (h63 : n + m ≤ 1099511627776) (hbase : base ≤ w.heap.size) :
    ∃ A1 c1 w', (Builtin.append_ #[t, t] ty #[.slice A n c, .slice (some ad) m c']).run P w = .ok (.slice A1 (n + m) c1) w' ∧ Own w' base e size A1 (n + m) c1 (xs ++ news) ∧ Grow base e w w' ∧ Grew A A1 w w' := by
  obtain ⟨i, hi1, hz, hs, hby⟩ := info_parts hi
  have hbytes : (n + m) * bytes ≤ 140737488355328 := by
    have : (n + m) * bytes ≤ (n + m) * 128 := Nat.mul_le_mul_left _ hb
    omega
  have key : ∀ (v' : Value) (w' : World), w'.ownsRow base e size v' (n + m) (xs ++ news) → ∃ A1 c1, v' = .slice A1 (n + m) c1 := by
    intro v' w' h
    rcases h.2 with ⟨rfl, hn⟩ | ⟨g, cap, cur, rfl, _⟩
    · exact ⟨none, 0, by rw [hn]⟩
    · exact ⟨_, cap, rfl⟩
  have hcells : ∀ j u, news[j]? = some u → w.cell? (ad.add j) = some u := by
    intro j u hu
    obtain ⟨b, o, h, hc, _⟩ := hsrc.at_ hu
    injection h with h
    subst h
    have : (⟨b, o, none⟩ : Addr).add j = ⟨b, o + j, none⟩ := by
      unfold Addr.add
      split
      · simp_all
      · rfl
    rw [this]; exact hc
  obtain ⟨v', w', hrun, h2, h3, _, h5⟩ := run_append_own_at (P := P) w base t ty e i z size bytes ht hi1 hz hs hby hzs hsz _ n xs hown ad m c' news hl hcells h1 (by simp only [maxLen]; omega) hbytes hbase
  obtain ⟨A1, c1, rfl⟩ := key _ _ h2
  refine ⟨A1, c1, w', hrun, h2, grow_of_grownBy hown h3 hbase, fun k hk hne => h3.block k hk (fun hh => ?_), fun a' ha' => ?_, h3.size⟩
  · cases A with
    | none => simp [Value.ownBlock] at hh
    | some a => simp [Value.ownBlock] at hh; exact hne a rfl hh.symm
  · subst ha'
    rcases h5 with h5 | h5
    · cases A with
      | none => simp [Value.ownBlock] at h5
      | some a => simp [Value.ownBlock] at h5; exact .inl ⟨a, rfl, h5.symm⟩
    · simp [Value.ownBlock] at h5; exact .inr (by omega)
theorem step_appx {ops : Array Oper} {o : Oper} {a : Act} {K : Act → World → Prop} {Q : Exit → Act → World → Prop} {E : Prop} (hgd : o.guard = none) (s x : Operand) (t : TypeId)
    (ho : o.op = .call { callee := .builtin .append, args := #[s, x], argTypes := #[t, t] })
    (base : Nat) (e : TypeId) (z : Value) (size bytes : Nat) (ht : P.underlying t = some (.slice e)) (hi : (P.info? e).map (fun i => (i.zero, i.size, i.bytes)) = some (some z, size, bytes))
    (hzs : z.cells.size = size) (hsz : 0 < size) (hb : bytes ≤ 128)
    (A : Option Addr) (n c : Nat) (xs : List Value) (hs : a.eval s = .slice A n c) (hown : Own w base e size A n c xs)
    (ad : Addr) (m c' : Nat) (news : List Value) (hx : a.eval x = .slice (some ad) m c') (hsrc : Arr w (some ad) e news) (hl : news.length = m * size) (h1 : ∀ u ∈ news, u.oneCell' = true)
    (h63 : n + m ≤ 1099511627776) (hbase : base ≤ w.heap.size)
    (h : ∀ A1 c1 w', Own w' base e size A1 (n + m) c1 (xs ++ news) → Grow base e w w' → Grew A A1 w w' → K (a.put o.dst (.slice A1 (n + m) c1)) w') :
    if Region.wanted o (yielded ops a.tmps) = true then Oper.wp P o a w K Q else E := by
  have hw : Region.wanted o (yielded ops a.tmps) = true := by simp [Region.wanted, hgd]
  rw [if_pos hw]
  obtain ⟨A1, c1, w', hrun, h2, h3, h4⟩ := run_appx (P := P) w base t o.type e z size bytes ht hi hzs hsz hb A n c xs hown ad m c' news hsrc hl h1 h63 hbase
  unfold Oper.wp execOp
  simp only [ho, resolve, invoke, builtin, Sem.run_bind, Sem.run_pure, Result.andThen_ok, List.map_toArray, List.map_cons, List.map_nil, hs, hx, hrun]
  exact h A1 c1 w' h2 h3 h4
end
end Go.Proofs.YtaaldapmkhamlaaGreat
