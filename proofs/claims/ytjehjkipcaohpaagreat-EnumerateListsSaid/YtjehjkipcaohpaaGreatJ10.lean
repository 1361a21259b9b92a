/-
  Contracts of functions of the program, joined: App3, Form, Srch1, Srch2a, Srch2, R9. No statement of the seat is proved here.
-/
import Derived.Test.YtjehjkipcaohpaaGreatJ09
import Derived.Laws.EntriesVeiled
set_option linter.unusedVariables false
set_option linter.unusedSimpArgs false
set_option linter.constructorNameAsVariable false
namespace Go.Proofs.YtjehjkipcaohpaaGreat
open Go.RowKit
/-- The slice at A was appended to and lies at A' now: no other block has changed, and the slice lies where it lay or in a new block. -/
structure Grew (A A' : Option Addr) (w w' : World) : Prop where
  block : ∀ k, k < w.heap.size → (∀ a, A = some a → a.block ≠ k) → w'.heap[k]? = w.heap[k]?
  own : ∀ a', A' = some a' → (∃ a, A = some a ∧ a.block = a'.block) ∨ w.heap.size ≤ a'.block
  size : w.heap.size ≤ w'.heap.size
theorem Grew.refl (A : Option Addr) (w : World) : Grew A A w w := ⟨fun _ _ _ => rfl, fun a h => .inl ⟨a, h, rfl⟩, Nat.le_refl _⟩
/-- A slice that does not lie in the block of X. -/
def ArrN (X : Option Addr) (w : World) (A : Option Addr) (e : TypeId) (vs : List Value) : Prop :=
  0 < vs.length → ∃ (b o : Nat) (cs : Array Value) (fr : Nat × Nat), A = some ⟨b, o, none⟩ ∧ (∀ a, X = some a → a.block ≠ b) ∧ w.heap[b]? = some (.cells cs e fr) ∧ ∀ (j : Nat) (u : Value), vs[j]? = some u → cs[o + j]? = some u
section
variable {X X' A : Option Addr} {w w' : World} {e T : TypeId} {vs : List Value}
theorem ArrN.arr (h : ArrN X w A e vs) : Arr w A e vs := fun h0 => by
  obtain ⟨b, o, cs, fr, rfl, _, hb, hc⟩ := h h0
  exact ⟨b, o, cs, fr, rfl, hb, hc⟩
theorem ArrN.ext (h : ArrN X w A e vs) (hx : Ext w w') : ArrN X w' A e vs := fun h0 => by
  obtain ⟨b, o, cs, fr, rfl, h1, hb, hc⟩ := h h0
  exact ⟨b, o, cs, fr, rfl, h1, heap_of_ext hx hb, hc⟩
theorem ArrN.oth (h : ArrN X w A e vs) (ho : Oth T w w') (hn : e ≠ T) : ArrN X w' A e vs := fun h0 => by
  obtain ⟨b, o, cs, fr, rfl, h1, hb, hc⟩ := h h0
  exact ⟨b, o, cs, fr, rfl, h1, ho _ _ _ _ hn hb, hc⟩
theorem ArrN.grew (h : ArrN X w A e vs) (hg : Grew X X' w w') : ArrN X' w' A e vs := fun h0 => by
  obtain ⟨b, o, cs, fr, rfl, h1, hb, hc⟩ := h h0
  refine ⟨b, o, cs, fr, rfl, fun a' ha' => ?_, (hg.block b (lt_of_heap hb) h1).trans hb, hc⟩
  rcases hg.own a' ha' with ⟨a, ha, hab⟩ | hle
  · rw [← hab]; exact h1 a ha
  · have := lt_of_heap hb; omega
theorem ArrX.arrN {lo : Nat} (h : ArrX lo w A e vs) (hX : ∀ a, X = some a → a.block < lo) : ArrN X w A e vs := fun h0 => by
  obtain ⟨b, o, cs, fr, rfl, h1, hb, hc⟩ := h h0
  exact ⟨b, o, cs, fr, rfl, fun a ha => by have := hX a ha; omega, hb, hc⟩
theorem Own.blockLt {base size n c : Nat} {xs : List Value} (h : Own w base e size A n c xs) : ∀ a, A = some a → a.block < w.heap.size := fun a ha => by
  rcases h.2 with ⟨hv, _⟩ | ⟨g, cap, cur, hv, _, h2, _⟩
  · injection hv with hA; rw [hA] at ha; cases ha
  · injection hv with hA; rw [hA] at ha; injection ha with ha; subst ha; exact lt_of_heap h2
end
section
variable {P : Program} (w : World)
theorem run_appx (base : Nat) (t ty e : TypeId) (z : Value) (size bytes : Nat) (ht : P.underlying t = some (.slice e)) (hi : (P.info? e).map (fun i => (i.zero, i.size, i.bytes)) = some (some z, size, bytes))
    (hzs : z.cells.size = size) (hsz : 0 < size) (hb : bytes ≤ 128)
    (A : Option Addr) (n c : Nat) (xs : List Value) (hown : Own w base e size A n c xs)
    (ad : Addr) (m c' : Nat) (news : List Value) (hsrc : Arr w (some ad) e news) (hl : news.length = m * size) (h1 : ∀ u ∈ news, u.oneCell' = true)
    (h63 : n + m ≤ 1099511627776) (hbase : base ≤ w.heap.size) :
    ∃ A1 c1 w', (Builtin.append_ #[t, t] ty #[.slice A n c, .slice (some ad) m c']).run P w = .ok (.slice A1 (n + m) c1) w' ∧ Own w' base e size A1 (n + m) c1 (xs ++ news) ∧ Grow base e w w' ∧ Grew A A1 w w' := by
  obtain ⟨i, hi1, hz, hs, hby⟩ := info_parts hi
  have hbytes : (n + m) * bytes ≤ 140737488355328 := by
    have : (n + m) * bytes ≤ (n + m) * 128 := Nat.mul_le_mul_left _ hb
    omega
  have key : ∀ (v' : Value) (w' : World), w'.ownsRow base e size v' (n + m) (xs ++ news) → ∃ A1 c1, v' = .slice A1 (n + m) c1 := by
    intro v' w' h
    rcases h.2 with ⟨rfl, hn⟩ | ⟨g, cap, cur, rfl, _⟩
    · exact ⟨none, 0, by rw [hn]⟩
    · exact ⟨_, cap, rfl⟩
  have hcells : ∀ j u, news[j]? = some u → w.cell? (ad.add j) = some u := by
    intro j u hu
    obtain ⟨b, o, h, hc, _⟩ := hsrc.at_ hu
    injection h with h
    subst h
    have : (⟨b, o, none⟩ : Addr).add j = ⟨b, o + j, none⟩ := by
      unfold Addr.add
      split
      · simp_all
      · rfl
    rw [this]; exact hc
  obtain ⟨v', w', hrun, h2, h3, _, h5⟩ := run_append_own_at (P := P) w base t ty e i z size bytes ht hi1 hz hs hby hzs hsz _ n xs hown ad m c' news hl hcells h1 (by simp only [maxLen]; omega) hbytes hbase
  obtain ⟨A1, c1, rfl⟩ := key _ _ h2
  refine ⟨A1, c1, w', hrun, h2, grow_of_grownBy hown h3 hbase, fun k hk hne => h3.block k hk (fun hh => ?_), fun a' ha' => ?_, h3.size⟩
  · cases A with
    | none => simp [Value.ownBlock] at hh
    | some a => simp [Value.ownBlock] at hh; exact hne a rfl hh.symm
  · subst ha'
    rcases h5 with h5 | h5
    · cases A with
      | none => simp [Value.ownBlock] at h5
      | some a => simp [Value.ownBlock] at h5; exact .inl ⟨a, rfl, h5.symm⟩
    · simp [Value.ownBlock] at h5; exact .inr (by omega)
theorem step_appx {ops : Array Oper} {o : Oper} {a : Act} {K : Act → World → Prop} {Q : Exit → Act → World → Prop} {E : Prop} (hgd : o.guard = none) (s x : Operand) (t : TypeId)
    (ho : o.op = .call { callee := .builtin .append, args := #[s, x], argTypes := #[t, t] })
    (base : Nat) (e : TypeId) (z : Value) (size bytes : Nat) (ht : P.underlying t = some (.slice e)) (hi : (P.info? e).map (fun i => (i.zero, i.size, i.bytes)) = some (some z, size, bytes))
    (hzs : z.cells.size = size) (hsz : 0 < size) (hb : bytes ≤ 128)
    (A : Option Addr) (n c : Nat) (xs : List Value) (hs : a.eval s = .slice A n c) (hown : Own w base e size A n c xs)
    (ad : Addr) (m c' : Nat) (news : List Value) (hx : a.eval x = .slice (some ad) m c') (hsrc : Arr w (some ad) e news) (hl : news.length = m * size) (h1 : ∀ u ∈ news, u.oneCell' = true)
    (h63 : n + m ≤ 1099511627776) (hbase : base ≤ w.heap.size)
    (h : ∀ A1 c1 w', Own w' base e size A1 (n + m) c1 (xs ++ news) → Grow base e w w' → Grew A A1 w w' → K (a.put o.dst (.slice A1 (n + m) c1)) w') :
    if Region.wanted o (yielded ops a.tmps) = true then Oper.wp P o a w K Q else E := by
  have hw : Region.wanted o (yielded ops a.tmps) = true := by simp [Region.wanted, hgd]
  rw [if_pos hw]
  obtain ⟨A1, c1, w', hrun, h2, h3, h4⟩ := run_appx (P := P) w base t o.type e z size bytes ht hi hzs hsz hb A n c xs hown ad m c' news hsrc hl h1 h63 hbase
  unfold Oper.wp execOp
  simp only [ho, resolve, invoke, builtin, Sem.run_bind, Sem.run_pure, Result.andThen_ok, List.map_toArray, List.map_cons, List.map_nil, hs, hx, hrun]
  exact h A1 c1 w' h2 h3 h4
end
end Go.Proofs.YtjehjkipcaohpaaGreat
namespace Go.Proofs.YtjehjkipcaohpaaGreat
open Go.RowKit
/-- All entries of all stages fit in 64 bits. -/
def St64 (m : List (List Int)) : Prop := ∀ k, k < m.length → Fits64 (stAt m k).2
def RetForm (w : World) (D : List Int) (L : List (List Int)) (e : Ending) (w' : World) : Prop := ∃ mA mc lA lc, e = .returned (.agg #[.slice mA D.length mc, .slice lA L.length lc]) ∧ Ints w' mA 2 .i64 D ∧ Mat64 w' lA L ∧ D.length ≤ mc ∧ mc ≤ 9223372036854775807 ∧ L.length ≤ lc ∧ lc ≤ 9223372036854775807 ∧ Step w w'
/-- The state of the loop of newForm. -/
structure FormI (m : List (List Int)) (wr : World) (base : Nat) (mB lB : Option Addr) (k mc lc : Nat) (vs : List Value) : Prop where
  mi : Own wr base 2 1 mB (k + 1) mc ((minorsTo m k).map (Value.int .i64))
  la : Own wr base 37 1 lB k lc vs
  row : ∀ i, i < k → ∃ B c, vs[i]? = some (.slice B (lamRow m i).length c) ∧ ArrN mB wr B 2 ((lamRow m i).map (Value.int .i64)) ∧ (lamRow m i).length ≤ c ∧ c ≤ 9223372036854775807
theorem FormI.ext {m : List (List Int)} {w w' : World} {base : Nat} {mB lB : Option Addr} {k mc lc : Nat} {vs : List Value} (h : FormI m w base mB lB k mc lc vs) (hx : Ext w w') : FormI m w' base mB lB k mc lc vs :=
  ⟨h.mi.ext hx, h.la.ext hx, fun i hi => by obtain ⟨B, c, a, b, e⟩ := h.row i hi; exact ⟨B, c, a, b.ext hx, e⟩⟩
theorem stRow0 {m : List (List Int)} (hn : AllLen m m.length) {k : Nat} (hk : k < m.length) : (stAt m k).2[0]? = some (ent (stAt m k).2 0 0 :: lamRow m k) := by
  have hl := stAt_length m k
  have ha := stAt_allLen m hn k
  have h0 : (stAt m k).2[0]? = some ((stAt m k).2[0]'(by omega)) := by simp
  have hrl : ((stAt m k).2[0]'(by omega)).length = m.length - k := ha _ (List.getElem_mem _)
  rw [h0]
  congr 1
  apply List.ext_getElem?
  intro i
  cases i with
  | zero => rw [List.getElem?_cons_zero, List.getElem?_eq_getElem (by omega), ent_of h0 (List.getElem?_eq_getElem (by omega))]
  | succ i =>
    rw [List.getElem?_cons_succ, lamRow, List.getElem?_map]
    rcases Nat.lt_or_ge i (m.length - k - 1) with hi | hi
    · rw [List.getElem?_range hi, List.getElem?_eq_getElem (by omega)]
      simp only [Option.map_some]
      rw [ent_of h0 (List.getElem?_eq_getElem (by omega))]
    · rw [List.getElem?_eq_none (by omega), List.getElem?_eq_none (by simpa using hi)]; rfl
/-- Behind the first append. -/
structure FormJ (m : List (List Int)) (w2 w5 : World) (mB lB : Option Addr) (k mc lc : Nat) (vs : List Value) (bx ox by_ oy r cy : Nat) (e0 : Int) : Prop where
  st : w5.heap[w2.heap.size + 1]? = some (.cells #[.slice mB (k + 1 + 1) mc, .slice lB k lc] 121 (0, 0))
  mi : Own w5 w2.heap.size 2 1 mB (k + 1 + 1) mc ((minorsTo m (k + 1)).map (Value.int .i64))
  la : Own w5 w2.heap.size 37 1 lB k lc vs
  row : ∀ i, i < k → ∃ B c, vs[i]? = some (.slice B (lamRow m i).length c) ∧ ArrN mB w5 B 2 ((lamRow m i).map (Value.int .i64)) ∧ (lamRow m i).length ≤ c ∧ c ≤ 9223372036854775807
  hd : w5.cell? ⟨bx, ox, none⟩ = some (.slice (some ⟨by_, oy, none⟩) (r + 1) cy)
  bxl : bx < w5.heap.size
  new : ArrN mB w5 (some ⟨by_, oy, none⟩) 2 ((e0 :: lamRow m k).map (Value.int .i64))
  ex : Ext w2 w5
theorem FormI.step1 {m : List (List Int)} {w2 wr W w4 : World} {mB lB A4 : Option Addr} {k mc lc d4 : Nat} {vs : List Value} {bx ox by_ oy r cy : Nat} {e0 : Int} {x1 : Value}
    (hI : FormI m wr w2.heap.size mB lB k mc lc vs) (hxw : Ext wr W) (hx2 : Ext w2 W) (hown4 : Own w4 w2.heap.size 2 1 A4 (k + 1 + 1) d4 ((minorsTo m k).map (Value.int .i64) ++ [.int .i64 e0])) (hg4 : Grow w2.heap.size 2 W w4) (hgr4 : Grew mB A4 W w4) (he0 : e0 = ent (stAt m k).2 0 0)
    (hB4 : w4.heap[w2.heap.size + 1]? = some (.cells #[x1, .slice lB k lc] 121 (0, 0))) (hX : ∃ cs fr, W.heap[bx]? = some (.cells cs 37 fr) ∧ cs[ox]? = some (.slice (some ⟨by_, oy, none⟩) (r + 1) cy)) (hY : ArrX wr.heap.size W (some ⟨by_, oy, none⟩) 2 ((e0 :: lamRow m k).map (Value.int .i64))) :
    FormJ m w2 (w4.setCell ⟨w2.heap.size + 1, 0, none⟩ (.slice A4 (k + 1 + 1) d4)) A4 lB k d4 lc vs bx ox by_ oy r cy e0 := by
  have hoS := Oth.set (p := ⟨w2.heap.size + 1, 0, none⟩) hB4 (.slice A4 (k + 1 + 1) d4)
  obtain ⟨cs, fr, hh, hc⟩ := hX
  have hh5 := hoS _ _ _ _ (by decide) (hg4.heap hh (by decide))
  refine ⟨box_set2_0 hB4, ?_, ((hI.la.ext hxw).grow hg4 (by decide)).oth hoS (by decide), fun i hi => ?_, by simp [World.cell?, hh5]; exact hc, lt_of_heap hh5, ?_, ?_⟩
  · rw [minorsTo_succ, List.map_append, ← he0]
    exact hown4.oth hoS (by decide)
  · obtain ⟨B, c, a, b, e⟩ := hI.row i hi
    exact ⟨B, c, a, ((b.ext hxw).grew hgr4).oth hoS (by decide), e⟩
  · exact ((hY.arrN hI.mi.blockLt).grew hgr4).oth hoS (by decide)
  · exact (hg4.ext hx2 (Nat.le_refl _)).setCell (p := ⟨w2.heap.size + 1, 0, none⟩) (Nat.le_succ _) _
/-- Behind the second append. -/
theorem FormJ.step2 {m : List (List Int)} {w2 w5 W w6 : World} {mB lB A6 Z : Option Addr} {k mc lc d6 dz : Nat} {vs : List Value} {bx ox by_ oy r cy : Nat} {e0 : Int}
    (hJ : FormJ m w2 w5 mB lB k mc lc vs bx ox by_ oy r cy e0) (hxw : Ext w5 W) (hown6 : Own w6 w2.heap.size 37 1 A6 (k + 1) d6 (vs ++ [.slice Z r dz])) (hg6 : Grow w2.heap.size 37 W w6)
    (hr : (lamRow m k).length = r) (hZ : 0 < r → Z = some ⟨by_, oy + 1, none⟩) (hd1 : r ≤ dz) (hd2 : dz ≤ 9223372036854775807) (hB6 : w6.heap[w2.heap.size + 1]? = some (.cells #[.slice mB (k + 1 + 1) mc, .slice lB k lc] 121 (0, 0))) :
    (w6.setCell ⟨w2.heap.size + 1, 1, none⟩ (.slice A6 (k + 1) d6)).heap[w2.heap.size + 1]? = some (.cells #[.slice mB (k + 1 + 1) mc, .slice A6 (k + 1) d6] 121 (0, 0)) ∧ FormI m (w6.setCell ⟨w2.heap.size + 1, 1, none⟩ (.slice A6 (k + 1) d6)) w2.heap.size mB A6 (k + 1) mc d6 (vs ++ [.slice Z r dz]) ∧ Ext w2 (w6.setCell ⟨w2.heap.size + 1, 1, none⟩ (.slice A6 (k + 1) d6)) := by
  have hoS := Oth.set (p := ⟨w2.heap.size + 1, 1, none⟩) hB6 (.slice A6 (k + 1) d6)
  have hvl : vs.length = k := by have := hJ.la.len; omega
  refine ⟨box_set2_1 hB6, ⟨((hJ.mi.ext hxw).grow hg6 (by decide)).oth hoS (by decide), hown6.oth hoS (by decide), fun i hi => ?_⟩, ?_⟩
  · rcases Nat.lt_or_ge i k with h | h
    · obtain ⟨B, c, a, b, e⟩ := hJ.row i h
      exact ⟨B, c, by rw [List.getElem?_append_left (by omega)]; exact a, ((b.ext hxw).oth (Oth.of_grow hg6) (by decide)).oth hoS (by decide), e⟩
    · obtain rfl : i = k := by omega
      refine ⟨Z, dz, by rw [List.getElem?_append_right (by omega), hvl, hr]; simp, fun h0 => ?_, by rw [hr]; exact hd1, hd2⟩
      have h0' : 0 < r := by simp at h0; omega
      obtain ⟨b, o, cs, fr, hA, h1, hb, hc⟩ := ((hJ.new.ext hxw).oth (Oth.of_grow hg6) (by decide)).oth hoS (by decide) (by simp)
      injection hA with hA
      injection hA with x1 x2
      subst x1 x2
      refine ⟨by_, oy + 1, cs, fr, hZ h0', h1, hb, fun j u hu => ?_⟩
      have := hc (j + 1) u (by rw [List.map_cons, List.getElem?_cons_succ]; exact hu)
      rw [show oy + 1 + j = oy + (j + 1) by omega]; exact this
  · exact (hg6.ext (hJ.ex.trans hxw) (Nat.le_refl _)).setCell (p := ⟨w2.heap.size + 1, 1, none⟩) (Nat.le_succ _) _
set_option maxRecDepth 10000 in
set_option maxHeartbeats 4000000 in
theorem newForm_any {w0 w : World} {A : Option Addr} {c : Nat} {m : List (List Int)} (h : Mat64 w0 A m) (h1 : 1 ≤ m.length) (h8 : m.length ≤ 8) (hn : AllLen m m.length) (hF : Fits64 m) (hok : ElimOK m) (h64 : St64 m) [hx : Ext w0 w] :
    Calls Tryz.prog 80 #[.slice A m.length c] w (RetForm w (minorsTo m m.length) (lamTo m m.length)) := by
  have HN := Lib.hid hn
  have HOK := Lib.hid hok
  have HFI := Lib.hid hF
  have H64 := Lib.hid h64
  clear hn hok hF h64
  go_enter Tryz.func80, Tryz.ntmps80
  go_wp2_with (first | (go_at_call 136; refine (FromInts_ok h m.length h1 (by omega) h1 (by omega) HN.out HFI.out).mono ?_; rintro e w1 ⟨A1, c1, rfl, hM, k1, k2, hs1⟩) | (go_at_call 137; refine (Stages_ok hM h1 (by omega) HN.out HOK.out).mono ?_; rintro e w2 ⟨A2, c2, rfl, hS, k3, k4, hs2⟩))
  have hsl : (stagesOf m).length = m.length := by simp [stagesOf]
  rw [hsl]
  have HSL := Lib.hid hsl
  clear hsl
  obtain ⟨b, o, -, -, -, -, -, -, rfl, -⟩ := StV.rowAt hS HN.out (k := 0) (by omega)
  have hst0 : ((w2.alloc (.cells #[.int .i64 1] 2)).alloc (.cells #[.slice (some ⟨w2.heap.size, 0, none⟩) 1 1, .slice none 0 0] 121)).heap[w2.heap.size + 1]? = some (.cells #[.slice (some ⟨w2.heap.size, 0, none⟩) 1 1, .slice none 0 0] 121 (0, 0)) := by
    have := heap_alloc_new (w2.alloc (.cells #[.int .i64 1] 2)) (.cells #[.slice (some ⟨w2.heap.size, 0, none⟩) 1 1, .slice none 0 0] 121)
    rwa [World.size_alloc] at this
  go_loopw [9, 10, 11, 26] (fun _ _ _ i wr => ∃ (k : Nat) (mB lB : Option Addr) (mc lc : Nat) (vs : List Value), k ≤ m.length ∧ i = .int .i64 k ∧ wr.heap[w2.heap.size + 1]? = some (.cells #[.slice mB (k + 1) mc, .slice lB k lc] 121 (0, 0)) ∧ FormI m wr w2.heap.size mB lB k mc lc vs ∧ Ext w2 wr) (fun _ _ _ i _ => m.length - (intOf i).toNat)
  case atStart =>
    exact ⟨0, _, none, _, 0, [], by omega, rfl, hst0, ⟨(Own.new w2 2 1 1 #[.int .i64 1] rfl (by omega)).ext inferInstance, Own.nil _ _ _ _, fun i hi => absurd hi (by omega)⟩, inferInstance⟩
  case round =>
    clear hst0
    obtain ⟨k, mB, lB, mc, lc, vs, hk, rfl, hst, hI, hxr⟩ := hrel
    by_cases hlt : k < m.length
    · have hsk : (stagesOf m)[k]? = some (stAt m k).2 := by simp [stagesOf, hlt]
      obtain ⟨b', o', B1, c1', hA, e1, hMk, l1, l2, hb⟩ := (hS.ext hxr).at_ hsk
      injection hA with hA
      injection hA with x1 x2
      subst x1 x2
      have hstl := stAt_length m k
      have hto := fun W (hh : Ext wr W) => ToIntsX_ok (w := W) (c := c1') hMk (m.length - k) (by omega) (by omega) (by omega) (by omega) (stAt_allLen m HN.out k) (H64.out k hlt)
      rw [hstl] at e1 l1
      obtain ⟨r, hr⟩ : ∃ r, m.length - k = r + 1 := ⟨m.length - k - 1, by omega⟩
      rw [hr] at e1 l1
      have hto2 : ∀ W, Ext wr W → Calls Tryz.prog 138 #[.slice B1 (r + 1) c1'] W fun e w' => ∃ X cX, e = .returned (.tuple #[.slice X (r + 1) cX, .bool true]) ∧ Mat64X W.heap.size w' X (stAt m k).2 ∧ r + 1 ≤ cX ∧ cX ≤ 9223372036854775807 ∧ Step W w' := fun W hh => by
        have := hto W hh
        unfold RetMat64BX at this
        rw [hstl, hr] at this
        exact this
      have HTO := Lib.hid hto2
      have HR := Lib.hid hr
      have HSTL := Lib.hid hstl
      obtain ⟨s1, s2, s3, s4, s5⟩ := box_cells2 hst
      have HST := Lib.hid hst
      have oS : Old (w2.heap.size + 1) wr := ⟨s5⟩
      clear hto hto2 hr hstl hsk hst
      go_wp2_with (go_at_call 138; refine (HTO.out _ inferInstance).mono ?_; rintro e w3 ⟨X, cX, rfl, hX, x1, x2, hs3⟩)
      obtain ⟨vx, v1, v2, v3⟩ := hX
      obtain ⟨By, cy, y1, y2, y3, y4⟩ := v3 0 _ (stRow0 HN.out hlt)
      obtain ⟨bx, ox, rfl, y5, y6, y7⟩ := v2.at_ y1
      have hlrl : (lamRow m k).length = r := by have := HR.out; simp [lamRow]; omega
      obtain ⟨e0, he0⟩ : ∃ e0, e0 = ent (stAt m k).2 0 0 := ⟨_, rfl⟩
      rw [← he0] at y1 y2 y3 y5
      have HE0 := Lib.hid he0
      obtain ⟨by_, oy, rfl, y8, y9, y10⟩ := y2.at_ (i := 0) (u := .int .i64 e0) (by simp)
      simp only [List.length_cons, hlrl, Nat.add_zero] at y1 y3 y5 y8
      have HY2 := Lib.hid y2
      have HLR := Lib.hid hlrl
      have hmBl := hI.mi.blockLt
      have HX : Hid (∃ cs fr, w3.heap[bx]? = some (.cells cs 37 fr) ∧ cs[ox]? = some (.slice (some ⟨by_, oy, none⟩) (r + 1) cy)) := Lib.hid (by
        obtain ⟨bq, oq, cs, fr, hA, _, hh, hc⟩ := v2 (by rw [v1]; have := HSTL.out; have := HR.out; omega)
        injection hA with hA
        injection hA with z1 z2
        subst z1 z2
        exact ⟨cs, fr, hh, by simpa using hc 0 _ y1⟩)
      have oX : Old bx w3 := ⟨y7⟩
      have oY : Old by_ w3 := ⟨y10⟩
      clear v1 v2 v3 he0 hlrl y1 y2
      go_region_law ((refine step_appx _ rfl (.tmp 36) (.tmp 42) 37 rfl w2.heap.size 2 (.int .i64 0) 1 8 Tryz.underlying37 infoI64 rfl (by decide) (by decide) mB (k + 1) mc _ (by simp [Act.eval]) (hI.mi.ext inferInstance) ⟨w3.heap.size, 0, none⟩ 1 1 [.int .i64 e0] (by simp [Act.eval]) ((Arr.new w3 2 #[.int .i64 e0]).ext inferInstance) rfl (by simp [Value.oneCell']) (by omega) (by have := hxr.size; have := hs3.size; simp <;> omega) ?_); intro A4 d4 w4 hown4 hg4 hgr4; have hb4 := hg4.heap (heap_of_ext (inferInstance : Ext wr ((w3.alloc (Obj.cells #[Value.int .i64 e0] 2)).drew)) HST.out) (by decide); obtain ⟨q1, q2, q3, q4, q5⟩ := box_cells2 hb4; have HB4 := Lib.hid hb4; clear hb4)
      all_goals
        have hJ := hI.step1 (W := (w3.alloc (Obj.cells #[Value.int .i64 e0] 2)).drew) (bx := bx) (ox := ox) (by_ := by_) (oy := oy) (r := r) (cy := cy) inferInstance inferInstance hown4 hg4 hgr4 HE0.out HB4.out (by obtain ⟨cs, fr, z1, z2⟩ := HX.out; exact ⟨cs, fr, heap_of_ext (inferInstance : Ext w3 ((w3.alloc (Obj.cells #[Value.int .i64 e0] 2)).drew)) z1, z2⟩) (HY2.out.ext inferInstance)
        generalize w4.setCell ⟨w2.heap.size + 1, 0, none⟩ (.slice A4 (k + 1 + 1) d4) = w5 at hJ ⊢
        clear hown4 hg4 hgr4 HB4 q1 q2 q3 q4 q5
        obtain ⟨t1, t2, t3, t4, t5⟩ := box_cells2 hJ.st
        have t6 := hJ.hd
        have t7 := hJ.bxl
        have HJ := Lib.hid hJ
        have oS5 : Old (w2.heap.size + 1) w5 := ⟨t5⟩
        have oX5 : Old bx w5 := ⟨t7⟩
        have hx25 : Ext w2 w5 := hJ.ex
        clear hJ
        by_cases hcy : cy = 1
        · obtain rfl : r = 0 := by omega
          subst hcy
          go_wp2_with fail
          go_region_law ((refine step_app _ rfl (.tmp 46) (.tmp 51) 26 rfl w2.heap.size 37 (.slice none 0 0) 1 24 Tryz.underlying26 infoSlI64 rfl (by decide) (by decide) lB k lc vs (by simp [Act.eval]) (HJ.out.la.ext inferInstance) (some ⟨w5.heap.size, 0, none⟩) 1 1 [.slice (some ⟨by_, oy, none⟩) 0 0] (by simp [Act.eval]) ((Arr.new w5 37 #[.slice (some ⟨by_, oy, none⟩) 0 0]).ext inferInstance) rfl (by simp [Value.oneCell']) (by omega) (by have := hx25.size; simp <;> omega) ?_); intro A6 d6 w6 hown6 hg6; have hb6 := hg6.heap (heap_of_ext (inferInstance : Ext w5 ((w5.alloc (Obj.cells #[Value.slice (some ⟨by_, oy, none⟩) 0 0] 37)).drew)) HJ.out.st) (by decide); obtain ⟨q1, q2, q3, q4, q5⟩ := box_cells2 hb6; have HB6 := Lib.hid hb6; clear hb6)
          all_goals
            have hfin := HJ.out.step2 (W := (w5.alloc (Obj.cells #[Value.slice (some ⟨by_, oy, none⟩) 0 0] 37)).drew) inferInstance hown6 hg6 HLR.out (fun h0 => absurd h0 (by omega)) (by omega) (by omega) HB6.out
            have HFN := Lib.hid hfin
            clear hfin
            go_wp2
            refine ⟨⟨k + 1, A4, A6, d4, d6, _, by omega, by go_num, HFN.out.1, HFN.out.2.1, HFN.out.2.2⟩, by simp [intOf] <;> omega⟩
        · have hr11 : (1 : Int) ≤ (r : Int) + 1 := by omega
          go_wp2_with fail
          go_region_law ((refine step_app _ rfl (.tmp 46) (.tmp 51) 26 rfl w2.heap.size 37 (.slice none 0 0) 1 24 Tryz.underlying26 infoSlI64 rfl (by decide) (by decide) lB k lc vs (by simp [Act.eval]) (HJ.out.la.ext inferInstance) (some ⟨w5.heap.size, 0, none⟩) 1 1 [.slice (some ⟨by_, oy + 1, none⟩) r (cy - 1)] (by simp [Act.eval]) ((Arr.new w5 37 #[.slice (some ⟨by_, oy + 1, none⟩) r (cy - 1)]).ext inferInstance) rfl (by simp [Value.oneCell']) (by omega) (by have := hx25.size; simp <;> omega) ?_); intro A6 d6 w6 hown6 hg6; have hb6 := hg6.heap (heap_of_ext (inferInstance : Ext w5 ((w5.alloc (Obj.cells #[Value.slice (some ⟨by_, oy + 1, none⟩) r (cy - 1)] 37)).drew)) HJ.out.st) (by decide); obtain ⟨q1, q2, q3, q4, q5⟩ := box_cells2 hb6; have HB6 := Lib.hid hb6; clear hb6)
          all_goals
            have hfin := HJ.out.step2 (W := (w5.alloc (Obj.cells #[Value.slice (some ⟨by_, oy + 1, none⟩) r (cy - 1)] 37)).drew) inferInstance hown6 hg6 HLR.out (fun _ => rfl) (by omega) (by omega) HB6.out
            have HFN := Lib.hid hfin
            clear hfin
            go_wp2
            refine ⟨⟨k + 1, A4, A6, d4, d6, _, by omega, by go_num, HFN.out.1, HFN.out.2.1, HFN.out.2.2⟩, by simp [intOf] <;> omega⟩
    · obtain rfl : k = m.length := by omega
      clear hlt
      obtain ⟨s1, s2, s3, s4, s5⟩ := box_cells2 hst
      have hr1 : wr.heap[w.heap.size]? = some (.cells #[.slice none 0 0, .slice none 0 0] 121 (0, 0)) := heap_of_ext (Ext.trans (Ext.trans (hs1.ext) (hs2.ext)) hxr) (heap_alloc_new w _)
      obtain ⟨r1, r2, r3, r4, r5⟩ := box_cells2 hr1
      have HR := Lib.hid hr1
      clear hr1 hst
      go_wp2
      have hDl : (minorsTo m m.length).length = m.length + 1 := minorsTo_length _ _
      have hLl : (lamTo m m.length).length = m.length := by simp [lamTo]
      have hcap := hI.mi.cap
      have hcapL := hI.la.cap
      have hoR := Oth.set2 HR.out 0 1 (.slice mB (m.length + 1) mc) (.slice lB m.length lc)
      have hxw : Ext w wr := Ext.trans (Ext.trans (Ext.trans (inferInstance : Ext w (w.alloc (.cells #[.slice none 0 0, .slice none 0 0] 121))) hs1.ext) hs2.ext) hxr
      refine bodyPost_ret (v := .agg #[.slice mB (m.length + 1) mc, .slice lB m.length lc]) (by simp [results, Tryz.results80, go_sem, r1, r2]) rfl ⟨mB, mc, lB, lc, by rw [hDl, hLl], ?_, ?_, by rw [hDl]; exact hcap.1, hcap.2, by rw [hLl]; exact hcapL.1, hcapL.2, ?_⟩
      · exact Ints.oth hI.mi.arr hoR (by decide)
      · refine ⟨vs, by rw [hLl]; have := hI.la.len; omega, hI.la.arr.oth hoR (by decide), fun i r hr => ?_⟩
        have hi : i < m.length := by
          have := (List.getElem?_eq_some_iff.1 hr).1
          omega
        have hr' : r = lamRow m i := by
          rw [lamTo, List.getElem?_map, List.getElem?_range hi] at hr
          simpa using hr.symm
        subst hr'
        obtain ⟨B5, c5, y1, y2, y3, y4⟩ := hI.row i hi
        exact ⟨B5, c5, y1, y2.arr.oth hoR (by decide), y3, y4⟩
      · exact ((hxw.setCell (p := ⟨w.heap.size, 0, none⟩) (Nat.le_refl _) _).setCell (p := ⟨w.heap.size, 1, none⟩) (Nat.le_refl _) _).toStep
end Go.Proofs.YtjehjkipcaohpaaGreat
namespace Go.Proofs.YtjehjkipcaohpaaGreat
open Go.RowKit
/-! ## What the search of collect finds -/
/-- The first coordinate of the interval that is tried. -/
def sLo (D : List Int) (L : List (List Int)) (k : Nat) (rest : Int) (zero : Bool) (tail : List Int) : Int := if zero then 0 else vLo D L k rest tail
def sCnt (D : List Int) (L : List (List Int)) (k : Nat) (rest : Int) (zero : Bool) (tail : List Int) : Nat := (vHi D L k rest tail - sLo D L k rest zero tail + 1).toNat
/-- Whether a vector is taken: it is not 0, and of the very norm if that is asked. -/
def takes (zero exact : Bool) (c left : Int) : Bool := !(zero && decide (c = 0)) && !(exact && !decide (left = 0))
def searchL (D : List Int) (L : List (List Int)) (exact : Bool) : Nat → Int → Bool → List Int → List (List Int)
  | 0, rest, zero, tail => (List.range (sCnt D L 0 rest zero tail)).flatMap fun (j : Nat) =>
      if takes zero exact (sLo D L 0 rest zero tail + j) (vRest D L 0 rest tail (sLo D L 0 rest zero tail + j)) then [(sLo D L 0 rest zero tail + (j : Int)) :: tail] else []
  | k + 1, rest, zero, tail => (List.range (sCnt D L (k + 1) rest zero tail)).flatMap fun (j : Nat) =>
      searchL D L exact k (vRest D L (k + 1) rest tail (sLo D L (k + 1) rest zero tail + j)) (zero && decide (sLo D L (k + 1) rest zero tail + j = 0)) ((sLo D L (k + 1) rest zero tail + (j : Int)) :: tail)
/-- What one coordinate gives. -/
def searchC (D : List Int) (L : List (List Int)) (exact : Bool) (k : Nat) (rest : Int) (zero : Bool) (tail : List Int) (c : Int) : List (List Int) :=
  if k = 0 then (if takes zero exact c (vRest D L k rest tail c) then [c :: tail] else []) else searchL D L exact (k - 1) (vRest D L k rest tail c) (zero && decide (c = 0)) (c :: tail)
def searchTo (D : List Int) (L : List (List Int)) (exact : Bool) (k : Nat) (rest : Int) (zero : Bool) (tail : List Int) (j : Nat) : List (List Int) :=
  (List.range j).flatMap fun (i : Nat) => searchC D L exact k rest zero tail (sLo D L k rest zero tail + (i : Int))
theorem searchTo_succ (D : List Int) (L : List (List Int)) (exact : Bool) (k : Nat) (rest : Int) (zero : Bool) (tail : List Int) (j : Nat) :
    searchTo D L exact k rest zero tail (j + 1) = searchTo D L exact k rest zero tail j ++ searchC D L exact k rest zero tail (sLo D L k rest zero tail + (j : Int)) := by
  simp [searchTo, List.range_succ]
theorem searchL_eq (D : List Int) (L : List (List Int)) (exact : Bool) (k : Nat) (rest : Int) (zero : Bool) (tail : List Int) :
    searchL D L exact k rest zero tail = searchTo D L exact k rest zero tail (sCnt D L k rest zero tail) := by
  cases k with
  | zero => simp [searchL, searchTo, searchC]
  | succ k => simp [searchL, searchTo, searchC]
theorem searchTo_prefix (D : List Int) (L : List (List Int)) (exact : Bool) (k : Nat) (rest : Int) (zero : Bool) (tail : List Int) {i j : Nat} (h : i ≤ j) : searchTo D L exact k rest zero tail i <+: searchTo D L exact k rest zero tail j := by
  obtain ⟨m, rfl⟩ : ∃ m, j = i + m := ⟨j - i, by omega⟩
  induction m with
  | zero => exact List.prefix_rfl
  | succ m ih => rw [← Nat.add_assoc, searchTo_succ]; exact (ih (by omega)).trans (List.prefix_append _ _)
theorem vLo_zero {D : List Int} {L : List (List Int)} {n : Nat} {bound : Int} {k : Nat} {rest : Int} {tail : List Int} (hN : NumOK D L n bound) (h : LevOK D n bound k rest tail) (h0 : absSum tail = 0) : vLo D L k rest tail ≤ 0 := by
  have := (vEnds hN h).2.1
  omega
theorem sLo_le {D : List Int} {L : List (List Int)} {n : Nat} {bound : Int} {k : Nat} {rest : Int} {zero : Bool} {tail : List Int} (hN : NumOK D L n bound) (h : LevOK D n bound k rest tail) (hz : zero = true → absSum tail = 0) : vLo D L k rest tail ≤ sLo D L k rest zero tail := by
  unfold sLo; split
  · rename_i hh; exact vLo_zero hN h (hz hh)
  · exact Int.le_refl _
/-! ## The list in memory -/
/-- The list so far: headers and rows in blocks at base or beyond. -/
structure LOwn (w : World) (base : Nat) (A : Option Addr) (c : Nat) (l : List (List Int)) (vs : List Value) : Prop where
  own : Own w base 37 1 A l.length c vs
  row : ∀ (i : Nat) (r : List Int), l[i]? = some r → ∃ B d, vs[i]? = some (.slice B r.length d) ∧ ArrX base w B 2 (r.map (Value.int .i64)) ∧ r.length ≤ d ∧ d ≤ 9223372036854775807
theorem LOwn.nil (w : World) (base : Nat) : LOwn w base none 0 [] [] := ⟨Own.nil _ _ _ _, fun i r hr => by simp at hr⟩
theorem LOwn.ext {w w' : World} {base : Nat} {A : Option Addr} {c : Nat} {l : List (List Int)} {vs : List Value} (h : LOwn w base A c l vs) (hx : Ext w w') : LOwn w' base A c l vs :=
  ⟨h.own.ext hx, fun i r hr => by obtain ⟨B, d, a, b, e⟩ := h.row i r hr; exact ⟨B, d, a, b.ext hx, e⟩⟩
/-- A store into a block ahead of base. -/
theorem LOwn.set {w : World} {base : Nat} {A : Option Addr} {c : Nat} {l : List (List Int)} {vs : List Value} (h : LOwn w base A c l vs) {p : Addr} (hp : p.block < base) (u : Value) : LOwn (w.setCell p u) base A c l vs := by
  have hk : ∀ b, base ≤ b → (w.setCell p u).heap[b]? = w.heap[b]? := fun b hb => Below.heap_setCell w p u b (by omega)
  refine ⟨⟨h.own.1, ?_⟩, fun i r hr => ?_⟩
  · rcases h.own.2 with hv | ⟨g, cap, cur, hv, h1, h2, h3⟩
    · exact .inl hv
    · exact .inr ⟨g, cap, cur, hv, h1, (hk g h1).trans h2, h3⟩
  · obtain ⟨B, d, a, b, e⟩ := h.row i r hr
    exact ⟨B, d, a, b.keep (fun b' _ _ hb' _ => hk b' hb'), e⟩
theorem LOwn.mat {w : World} {base : Nat} {A : Option Addr} {c : Nat} {l : List (List Int)} {vs : List Value} (h : LOwn w base A c l vs) : Mat64 w A l :=
  ⟨vs, by have := h.own.len; omega, h.own.arr, fun i r hr => by obtain ⟨B, d, a, b, e⟩ := h.row i r hr; exact ⟨B, d, a, b.arr, e⟩⟩
theorem LOwn.snoc {w W w' : World} {base : Nat} {A A' B : Option Addr} {c c' d : Nat} {l : List (List Int)} {r : List Int} {vs : List Value} (h : LOwn w base A c l vs) (hx : Ext w W) (hg : Grow base 37 W w') (ho : Own w' base 37 1 A' (l.length + 1) c' (vs ++ [.slice B r.length d])) (hr : ArrX base W B 2 (r.map (Value.int .i64))) (h1 : r.length ≤ d) (h2 : d ≤ 9223372036854775807) : LOwn w' base A' c' (l ++ [r]) (vs ++ [.slice B r.length d]) := by
  have hvl : vs.length = l.length := by have := h.own.len; omega
  refine ⟨by rw [List.length_append]; exact ho, fun i x hx' => ?_⟩
  rcases Nat.lt_or_ge i l.length with hi | hi
  · rw [List.getElem?_append_left hi] at hx'
    obtain ⟨B1, d1, a, b, e⟩ := h.row i x hx'
    exact ⟨B1, d1, by rw [List.getElem?_append_left (by omega)]; exact a, (b.ext hx).oth (Oth.of_grow hg) (by decide), e⟩
  · have hi' : i = l.length := by
      have := (List.getElem?_eq_some_iff.1 hx').1
      simp at this; omega
    subst hi'
    have : x = r := by simpa using hx'.symm
    subst this
    exact ⟨B, d, by rw [List.getElem?_append_right (by omega), hvl]; simp, hr.oth (Oth.of_grow hg) (by decide), h1, h2⟩
end Go.Proofs.YtjehjkipcaohpaaGreat
namespace Go.Proofs.YtjehjkipcaohpaaGreat
open Go.RowKit
/-- What the search has captured. -/
def sCaps (s eb : Nat) : Array Value := #[.pointer (some ⟨s, 0, none⟩), .pointer (some ⟨s + 2, 0, none⟩), .pointer (some ⟨s + 4, 0, none⟩), .pointer (some ⟨eb, 0, none⟩), .pointer (some ⟨s + 3, 0, none⟩)]
/-- The memory of the search: s is the first of its blocks. -/
structure SMem (w1 W : World) (n : Nat) (mA lA : Option Addr) (mc lc eb : Nat) (exact : Bool) (lB : Option Addr) (c : Nat) (l : List (List Int)) (vs : List Value) : Prop where
  ext : Ext w1 W
  fb : W.heap[w1.heap.size]? = some (.cells #[.slice mA (n + 1) mc, .slice lA n lc] 121 (0, 0))
  xb : W.heap[w1.heap.size + 2]? = some (.cells #[.slice (some ⟨w1.heap.size + 1, 0, none⟩) n n] 37 (0, 0))
  lb : W.heap[w1.heap.size + 3]? = some (.cells #[.slice lB l.length c] 26 (0, 0))
  sb : W.heap[w1.heap.size + 4]? = some (.cells #[.func (.func 81) #[] (sCaps w1.heap.size eb)] 123 (0, 0))
  ebl : eb < w1.heap.size
  ec : w1.cell? ⟨eb, 0, none⟩ = some (.bool exact)
  ls : LOwn W (w1.heap.size + 5) lB c l vs
  sz : w1.heap.size + 5 ≤ W.heap.size
theorem SMem.setX {w1 W : World} {n : Nat} {mA lA : Option Addr} {mc lc eb : Nat} {exact : Bool} {lB : Option Addr} {c : Nat} {l : List (List Int)} {vs : List Value} (h : SMem w1 W n mA lA mc lc eb exact lB c l vs) (i : Nat) (u : Value) : SMem w1 (W.setCell ⟨w1.heap.size + 1, i, none⟩ u) n mA lA mc lc eb exact lB c l vs where
  ext := h.ext.setCell (p := ⟨w1.heap.size + 1, i, none⟩) (Nat.le_succ _) u
  fb := heap_setCell_far h.fb (show w1.heap.size ≠ w1.heap.size + 1 by omega) u
  xb := heap_setCell_far h.xb (show w1.heap.size + 2 ≠ w1.heap.size + 1 by omega) u
  lb := heap_setCell_far h.lb (show w1.heap.size + 3 ≠ w1.heap.size + 1 by omega) u
  sb := heap_setCell_far h.sb (show w1.heap.size + 4 ≠ w1.heap.size + 1 by omega) u
  ebl := h.ebl
  ec := h.ec
  ls := h.ls.set (p := ⟨w1.heap.size + 1, i, none⟩) (show w1.heap.size + 1 < w1.heap.size + 5 by omega) u
  sz := by rw [size_setCell]; exact h.sz
theorem XRow.put0 {w : World} {sz n k : Nat} {tail : List Int} (h : XRow w sz n k tail) (x : Int) : XRow (w.setCell ⟨sz, k, none⟩ (.int .i64 x)) sz n k tail := by
  obtain ⟨xs, h1, h2, h3⟩ := h
  exact ⟨_, h1.set k x, by simp [h2], by rw [List.drop_set_of_lt (by omega), h3]⟩
theorem XRow.full {w : World} {sz n k : Nat} {tail : List Int} (h : XRow w sz n k tail) (hk : k = 0) (hn : k < n) (x : Int) : Row (w.setCell ⟨sz, k, none⟩ (.int .i64 x)) sz 2 .i64 (x :: tail) ∧ (x :: tail).length = n := by
  subst hk
  obtain ⟨xs, h1, h2, h3⟩ := h
  cases xs with
  | nil => simp at h2; omega
  | cons y ys =>
    simp at h3
    subst h3
    exact ⟨h1.set 0 x, by simpa using h2⟩
theorem box_set1 {w : World} {b : Nat} {x u : Value} {T : TypeId} (h : w.heap[b]? = some (.cells #[x] T (0, 0))) : (w.setCell ⟨b, 0, none⟩ u).heap[b]? = some (.cells #[u] T (0, 0)) := by
  rw [heap_setCell_self h]; rfl
theorem SMem.snoc {w1 W W3 w4 : World} {n : Nat} {mA lA : Option Addr} {mc lc eb : Nat} {exact : Bool} {lB : Option Addr} {c : Nat} {l : List (List Int)} {vs : List Value} (h : SMem w1 W n mA lA mc lc eb exact lB c l vs) (hx : Ext W W3) {A4 B : Option Addr} {d4 d : Nat} {r : List Int} (hg : Grow (w1.heap.size + 5) 37 W3 w4) (ho : Own w4 (w1.heap.size + 5) 37 1 A4 (l.length + 1) d4 (vs ++ [.slice B r.length d])) (hr : ArrX (w1.heap.size + 5) W3 B 2 (r.map (Value.int .i64))) (h1 : r.length ≤ d) (h2 : d ≤ 9223372036854775807) :
    SMem w1 (w4.setCell ⟨w1.heap.size + 3, 0, none⟩ (.slice A4 (l.length + 1) d4)) n mA lA mc lc eb exact A4 d4 (l ++ [r]) (vs ++ [.slice B r.length d]) := by
  have hk : ∀ b, b < w1.heap.size + 5 → ∀ o, W.heap[b]? = some o → w4.heap[b]? = some o := fun b hb o ho => (hg.below.block b hb).trans (heap_of_ext hx ho)
  refine ⟨?_, ?_, ?_, ?_, ?_, h.ebl, h.ec, ?_, ?_⟩
  · exact (hg.ext (h.ext.trans hx) (by omega)).setCell (p := ⟨w1.heap.size + 3, 0, none⟩) (by simp) _
  · exact heap_setCell_far (hk _ (by omega) _ h.fb) (show w1.heap.size ≠ w1.heap.size + 3 by omega) _
  · exact heap_setCell_far (hk _ (by omega) _ h.xb) (show w1.heap.size + 2 ≠ w1.heap.size + 3 by omega) _
  · rw [List.length_append]; exact box_set1 (hk _ (by omega) _ h.lb)
  · exact heap_setCell_far (hk _ (by omega) _ h.sb) (show w1.heap.size + 4 ≠ w1.heap.size + 3 by omega) _
  · exact (h.ls.snoc hx hg ho hr h1 h2).set (p := ⟨w1.heap.size + 3, 0, none⟩) (show w1.heap.size + 3 < w1.heap.size + 5 by omega) _
  · rw [size_setCell]
    have := h.sz; have := hx.size; have := hg.below.size
    omega
def SearchPost (w1 : World) (n : Nat) (mA lA : Option Addr) (mc lc eb : Nat) (exact : Bool) (l : List (List Int)) (k : Nat) (tail : List Int) (e : Ending) (W' : World) : Prop :=
  e = .returned (.tuple #[]) ∧ XRow W' (w1.heap.size + 1) n k tail ∧ ∃ lB c vs, SMem w1 W' n mA lA mc lc eb exact lB c l vs
theorem isFn_search : IsFn 81 := isFn_of Tryz.func81 (by kernel_rfl) (by kernel_rfl)
/-- Behind the append of a vector to the list. -/
theorem SMem.took {w1 wS W5 w6 : World} {n k ln s5 : Nat} {mA lA : Option Addr} {mc lc eb : Nat} {exact : Bool} {lB : Option Addr} {c : Nat} {l t t' : List (List Int)} {tail : List Int} {x : Int} {vs : List Value} {A6 B5 : Option Addr} {d5 d6 : Nat}
    (hM : SMem w1 wS n mA lA mc lc eb exact lB c (l ++ t) vs) (hX : XRow wS (w1.heap.size + 1) n k tail) (hs : Ext wS W5) (hO : Own W5 s5 2 1 B5 (x :: tail).length d5 ((x :: tail).map (Value.int .i64))) (hs5 : w1.heap.size + 5 ≤ s5) (hn : (x :: tail).length = n) (hl : (l ++ t).length = ln)
    (ho : Own w6 (w1.heap.size + 5) 37 1 A6 (ln + 1) d6 (vs ++ [.slice B5 n d5])) (hg : Grow (w1.heap.size + 5) 37 (W5.alloc (.cells #[.slice B5 n d5] 37)) w6) (ht : t' = t ++ [x :: tail]) :
    XRow (w6.setCell ⟨w1.heap.size + 3, 0, none⟩ (.slice A6 (ln + 1) d6)) (w1.heap.size + 1) n k tail ∧ SMem w1 (w6.setCell ⟨w1.heap.size + 3, 0, none⟩ (.slice A6 (ln + 1) d6)) n mA lA mc lc eb exact A6 d6 (l ++ t') (vs ++ [.slice B5 n d5]) := by
  subst hl ht
  have hx : Ext wS (W5.alloc (.cells #[.slice B5 n d5] 37)) := Ext.alloc _ _ _
  have hc := hO.cap
  constructor
  · refine hX.keep ?_
    rw [Below.heap_setCell _ _ _ _ (show w1.heap.size + 1 ≠ w1.heap.size + 3 by omega), hg.below.block _ (by omega)]
    exact hx.below.block _ (by have := hM.sz; omega)
  · have := hM.snoc hx (r := x :: tail) (B := B5) (d := d5) hg (by rw [hn]; exact ho) ((hO.arrX.lower hs5).ext (Ext.alloc _ _ _)) hc.1 hc.2
    rw [← List.append_assoc]
    rw [hn] at this
    exact this
end Go.Proofs.YtjehjkipcaohpaaGreat
namespace Go.Proofs.YtjehjkipcaohpaaGreat
open Go.RowKit
set_option maxRecDepth 100000 in
set_option maxHeartbeats 8000000 in
theorem search_any {w1 : World} {bound : Int} {D : List Int} {L : List (List Int)} {n : Nat} {mA lA : Option Addr} {mc lc eb : Nat} {exact : Bool} (hD : Ints w1 mA 2 .i64 D) (hL : Mat64 w1 lA L) (hmc : n + 1 ≤ mc) (hmc2 : mc ≤ 9223372036854775807) (hlc : n ≤ lc) (hlc2 : lc ≤ 9223372036854775807) (hN : NumOK D L n bound) (k : Nat) :
    ∀ (rest : Int) (zero : Bool) (tail : List Int) (W : World) (lB : Option Addr) (c : Nat) (l : List (List Int)) (vs : List Value), LevOK D n bound k rest tail → (zero = true → absSum tail = 0) → XRow W (w1.heap.size + 1) n k tail → SMem w1 W n mA lA mc lc eb exact lB c l vs → (l ++ searchL D L exact k rest zero tail).length ≤ 1073741824 →
      Calls Tryz.prog 81 (#[.int .i64 k, .int .i64 rest, .bool zero] ++ sCaps w1.heap.size eb) W (SearchPost w1 n mA lA mc lc eb exact (l ++ searchL D L exact k rest zero tail) k tail) := by
  induction k using Nat.strongRecOn with
  | ind k ih =>
    intro rest zero tail W lB c l vs hLv hz hX hM hlen
    have hkn := hLv.kn
    have hn8 := hN.n8
    obtain ⟨f1, f2, -, -, f5⟩ := box_cells2 hM.fb
    have xb1 : W.cell? ⟨w1.heap.size + 2, 0, none⟩ = some (.slice (some ⟨w1.heap.size + 1, 0, none⟩) n n) := by simp [World.cell?, hM.xb]
    have sb1 : W.cell? ⟨w1.heap.size + 4, 0, none⟩ = some (.func (.func 81) #[] (sCaps w1.heap.size eb)) := by simp [World.cell?, hM.sb]
    obtain ⟨xs, hrow, hxl, hxd⟩ := id hX
    have hdl := hN.dl
    have hll := hN.ll
    have hd0 : D[k]? = some (vD D k) := by unfold vD; simp [show k < D.length by omega]
    have hd1' : D[k + 1]? = some (vD D (k + 1)) := by unfold vD; simp [show k + 1 < D.length by omega]
    obtain ⟨bm, om, -, rfl, -⟩ := hD.at_ (i := k) (by omega)
    obtain ⟨m3, m4⟩ := ints_cell (hD.ext hM.ext) hd0
    obtain ⟨m1, -⟩ := ints_cell (hD.ext hM.ext) hd1'
    obtain ⟨bl, ol, B, cl, rfl, l3, l5, l1, l2, l4⟩ := (hL.ext hM.ext).at_ (i := k) (r := L.getD k []) (by simp [show k < L.length by omega])
    have hrl := hN.row k hkn
    obtain ⟨lam, hlam⟩ : ∃ lam, lam = L.getD k [] := ⟨_, rfl⟩
    rw [hrl] at l1 l3
    rw [← hlam] at hrl l5
    have HL5 := Lib.hid l5
    have HLAM := Lib.hid hlam
    have HRL := Lib.hid hrl
    have hsq := vSq_bounds hN hLv
    have hR := vR_bounds hN hLv
    have hd1 := hN.d1 (k + 1) (by omega)
    have hd2 := hN.d2 (k + 1) (by omega)
    obtain ⟨sqn, hsqn⟩ : ∃ sqn, sqn = (vSq D k rest).toNat := ⟨_, rfl⟩
    have hsqe : vD D k * rest = (sqn : Int) := by have := hsq.1; rw [hsqn]; unfold vSq at this ⊢; omega
    have hsq1 : sqn < 4611686018427387904 := by have := hsq.2; omega
    have HSQ : Hid (vSq D k rest = (sqn : Int)) := Lib.hid hsqe
    have HRT : Hid (vR D k rest = (isq sqn : Nat)) := Lib.hid (by rw [hsqn]; rfl)
    have hisq : isq sqn < 2147483648 := by have := hR.2.1; rw [HRT.out] at this; omega
    obtain ⟨r, hr⟩ : ∃ r, r = n - 1 - k := ⟨_, rfl⟩
    rw [← hr] at l1 l3 HRL
    have HRR := Lib.hid hr
    have hr1 : r + k + 1 ≤ n := by omega
    have hr2 : n ≤ r + k + 1 := by omega
    obtain ⟨d, hd⟩ : ∃ d, d = vD D (k + 1) := ⟨_, rfl⟩
    rw [← hd] at m1 hd1 hd2
    have HD := Lib.hid hd
    obtain ⟨dk, hdk⟩ : ∃ dk, dk = vD D k := ⟨_, rfl⟩
    rw [← hdk] at m3 hsqe
    have HXD := Lib.hid hxd
    have HROW := Lib.hid hrow
    have HM := Lib.hid hM
    have HX := Lib.hid hX
    have HZ := Lib.hid hz
    have HLV := Lib.hid hLv
    have HLEN := Lib.hid hlen
    have bw : w1.heap.size + 1 < W.heap.size := by have := hM.sz; omega
    clear hr hd hdk hsqn hsq hR hxd hdl hll hd0 hd1' hlam hrl hX hM hz hlen l5
    unfold sCaps at sb1 ⊢
    go_enter Tryz.func81, Tryz.ntmps81
    go_wp2_with fail
    go_loop [12, 13, 14, 34] (fun s _ _ i => ∃ q : Nat, q ≤ r ∧ i = .int .i64 q ∧ s = .int .i64 (dotL (lam.take q) (tail.take q))) (fun _ _ _ i => r - (intOf i).toNat)
    case atStart => exact ⟨0, by omega, rfl, by simp [dotL]⟩
    case round =>
      obtain ⟨q, hq, rfl, rfl⟩ := hrel
      by_cases hlt : q < r
      · obtain ⟨a, ha⟩ : ∃ a, lam[q]? = some a := ⟨_, List.getElem?_eq_getElem (by have := HRL.out; omega)⟩
        obtain ⟨y, hy⟩ : ∃ y, tail[q]? = some y := ⟨_, List.getElem?_eq_getElem (by have := hLv.tl; have := HRR.out; omega)⟩
        obtain ⟨b1, o1, -, rfl, -⟩ := HL5.out.at_ (i := q) (by have := HRL.out; omega)
        obtain ⟨g1, g2⟩ := ints_cell HL5.out ha
        have hxy : xs[k + 1 + q]? = some y := by rw [← hy, ← HXD.out, List.getElem?_drop]
        obtain ⟨y', hy1, hy2⟩ := hrow.cell (i := k + 1 + q) (by rw [hxl]; omega)
        rw [hxy] at hy1
        injection hy1 with hy1
        subst hy1
        have hdv := hN.d2 (k + 1) (by omega)
        have ba := hN.lam k hkn a (by rw [← HLAM.out]; exact List.mem_of_getElem? ha)
        have bb := le_absSum tail q y hy
        have bS := absSum_bound hN hLv
        have bs := dotL_bound (A := 32768) (B := 549755813888) (by omega) (by omega) (lam.take q) (tail.take q) (fun z hz => by have := hN.lam k hkn z (by rw [← HLAM.out]; exact List.mem_of_mem_take hz); omega) (fun z hz => by
          obtain ⟨j, hj, e⟩ := List.getElem_of_mem (List.mem_of_mem_take hz)
          have := le_absSum tail j z (by simp [hj, e])
          omega)
        have bm := mul_abs_le (a := a) (b := y) (A := 32768) (B := 549755813888) (by omega) (by omega) (by omega) (by omega)
        have hstep := Lib.hid (dotL_take_succ lam tail q a y ha hy)
        have htl : (lam.take q).length ≤ 8 := by rw [List.length_take]; omega
        obtain ⟨s, hs⟩ : ∃ s, s = dotL (lam.take q) (tail.take q) := ⟨_, rfl⟩
        rw [← hs] at bs hstep ⊢
        have bs1 : -144115188075855872 ≤ s := by omega
        have bs2 : s ≤ 144115188075855872 := by omega
        obtain ⟨bm1, bm2⟩ := bm
        have bm3 : -18014398509481984 ≤ a * y := by omega
        have bm4 : a * y ≤ 18014398509481984 := by omega
        clear hdv ba bb bS bs bm1 bm2 hs ha hy hxy htl
        go_wp2_with fail
        refine ⟨⟨q + 1, by omega, by go_num, by rw [hstep.out]⟩, by simp [intOf] <;> omega⟩
      · obtain rfl : q = r := by omega
        clear hlt
        have e1 : lam.take q = lam := List.take_of_length_le (by have := HRL.out; omega)
        have e2 : tail.take q = tail := List.take_of_length_le (by have := hLv.tl; have := HRR.out; omega)
        rw [e1, e2]
        clear e1 e2
        have hshe : Hid (dotL lam tail = vSh L k tail) := Lib.hid (by rw [HLAM.out]; rfl)
        rw [hshe.out]
        obtain ⟨sh, hsh⟩ : ∃ sh, sh = vSh L k tail := ⟨_, rfl⟩
        have bsh := vSh_bounds hN hLv
        have bmS := mulS_bound hN hLv
        rw [← hsh] at bsh ⊢
        have bsh1 : -36028247263150080 ≤ sh := by omega
        have bsh2 : sh ≤ 36028247263150080 := by omega
        have HSH := Lib.hid hsh
        obtain ⟨p, hp⟩ : ∃ p, p = ((isq sqn : Int) + sh) / d := ⟨_, rfl⟩
        obtain ⟨hi, hhi⟩ : ∃ hi, hi = ((isq sqn : Int) - sh) / d := ⟨_, rfl⟩
        have HLO : Hid (vLo D L k rest tail = -p) := Lib.hid (by rw [hp, hsh, HD.out, vLo, HRT.out])
        have HHI : Hid (vHi D L k rest tail = hi) := Lib.hid (by rw [hhi, hsh, HD.out, vHi, HRT.out])
        have hends := vEnds hN hLv
        have hcnt := vCnt_bounds hN hLv
        have hSb := absSum_bound hN hLv
        have HCNT : Hid (vCnt D L k rest tail = hi + p + 1) := Lib.hid (by rw [vCnt, HLO.out, HHI.out]; omega)
        rw [HLO.out, HHI.out, HRT.out] at hends
        rw [HCNT.out] at hcnt
        have hp1 : -1099511627776 ≤ p := by omega
        have hp2 : p ≤ 1099511627776 := by omega
        have hi1 : -1099511627776 ≤ hi := by omega
        have hi2 : hi ≤ 1099511627776 := by omega
        have hq1 := hp.symm
        have hq2 := hhi.symm
        obtain ⟨hcnt0, hcnt1⟩ := hcnt
        have hlop : zero = true → 0 ≤ p := fun h => by have := vLo_zero hN hLv (HZ.out h); rw [HLO.out] at this; omega
        obtain ⟨lo, HLOV, hlo1⟩ : ∃ lo, Hid (sLo D L k rest zero tail = lo) ∧ lo = if zero then 0 else -p := ⟨_, Lib.hid rfl, by unfold sLo; rw [HLO.out]⟩
        clear bsh bmS hends hSb hp hhi hsh
        obtain ⟨z, HZV⟩ : ∃ z, Hid (z = zero) := ⟨_, Lib.hid rfl⟩
        obtain ⟨T, HT⟩ : ∃ T : Nat → List (List Int), Hid (∀ j, T j = searchTo D L exact k rest z tail j) := ⟨_, Lib.hid fun _ => rfl⟩
        have HT1 : Hid (∀ j, T (j + 1) = T j ++ searchC D L exact k rest z tail (lo + (j : Int))) := Lib.hid fun j => by rw [HT.out, HT.out, searchTo_succ, HZV.out, HLOV.out]
        have HTN : Hid (searchL D L exact k rest zero tail = T (hi - lo + 1).toNat) := Lib.hid (by rw [searchL_eq, HT.out, HZV.out, sCnt, HHI.out, HLOV.out])
        have HTL : Hid (∀ (x : Int) (j : Nat), x = lo + j → x ≤ hi → (l ++ T (j + 1)).length ≤ 1073741824) := Lib.hid fun x j h1 h2 => by
          have hh := HLEN.out
          rw [HTN.out, HT.out] at hh
          have := (searchTo_prefix D L exact k rest z tail (i := j + 1) (j := (hi - lo + 1).toNat) (by omega)).length_le
          rw [HT.out]
          simp only [List.length_append] at hh ⊢
          omega
        have hZ2 : Hid (z = true → absSum tail = 0) := Lib.hid (by rw [HZV.out]; exact HZ.out)
        rw [HTN.out]
        clear HZ HLOV HLEN
        cases zero
        all_goals (try simp only [if_true, if_false, Bool.false_eq_true, forall_const] at hlo1 hlop)
        all_goals (
          go_wp2_with (first
            | (go_at_call 82; refine (enumerate_root_any (a := sqn) (by omega)).mono ?_; rintro e w' ⟨rfl, rfl⟩)
            | (go_at_call 83; refine (enumerate_floor_any (by omega) (by omega) (by omega) (by omega)).mono ?_; rintro e w' ⟨rfl, rfl⟩)))
        all_goals (
          go_loopw [19, 20, 21, 99, 112] (fun sx _ _ _ _ wr => ∃ (x : Int) (j : Nat), sx = .int .i64 x ∧ Hid (x = lo + j) ∧ lo ≤ x ∧ -p ≤ x ∧ (x ≤ hi + 1 ∨ j = 0) ∧ XRow wr (w1.heap.size + 1) n k tail ∧ ∃ lB c vs, SMem w1 wr n (some ⟨bm, om, none⟩) (some ⟨bl, ol, none⟩) mc lc eb exact lB c (l ++ T j) vs) (fun sx _ _ _ _ _ => (hi + 1 - intOf sx).toNat)
          case atStart =>
            refine ⟨_, 0, rfl, Lib.hid (by omega), by omega, by omega, .inr rfl, HX.out, lB, c, vs, ?_⟩
            rw [HT.out]
            simpa [searchTo] using HM.out
          case round =>
            obtain ⟨x, j, rfl, HXJ, hx1, hx2, hx3, hX2, lB2, c2, vs2, hM2⟩ := hrel
            clear xb1 sb1 f1 f2 f5 m1 m3 m4 l2 l3 l4 hrow HROW hxl HXD HM HX bw HL5
            by_cases hlt : x ≤ hi
            · have hin1 : vLo D L k rest tail ≤ x := by rw [HLO.out]; exact hx2
              have hin2 : x ≤ vHi D L k rest tail := by rw [HHI.out]; exact hlt
              have hub := vU_bounds hN hLv hin1 hin2
              obtain ⟨hr1', hr2', -, -⟩ := vRest_bounds hN hLv hin1 hin2
              obtain ⟨u, hu⟩ : ∃ u, u = d * x + sh := ⟨_, rfl⟩
              have HU : Hid (vU D L k tail x = u) := Lib.hid (by rw [hu, HSH.out, HD.out]; rfl)
              have HRS : Hid (vRest D L k rest tail x = ((sqn : Int) - u * u) / d) := Lib.hid (by rw [vRest, HU.out, HSQ.out, ← HD.out])
              rw [HU.out] at hub hr1' hr2'
              rw [HSQ.out] at hr1'
              rw [HRT.out] at hub
              have hln := HTL.out x j HXJ.out hlt
              have xb2 : wr.cell? ⟨w1.heap.size + 2, 0, none⟩ = some (.slice (some ⟨w1.heap.size + 1, 0, none⟩) n n) := by simp [World.cell?, hM2.xb]
              have sb2 : wr.cell? ⟨w1.heap.size + 4, 0, none⟩ = some (.func (.func 81) #[] (sCaps w1.heap.size eb)) := by simp [World.cell?, hM2.sb]
              have lb2 : wr.cell? ⟨w1.heap.size + 3, 0, none⟩ = some (.slice lB2 (l ++ T j).length c2) := by simp [World.cell?, hM2.lb]
              have ec2 : wr.cell? ⟨eb, 0, none⟩ = some (.bool exact) := (World.cell?_of_block (hM2.ext.below.block eb hM2.ebl)).trans hM2.ec
              have bw2 : w1.heap.size + 5 ≤ wr.heap.size := hM2.sz
              have hebl := hM2.ebl
              obtain ⟨xs2, hrow2, hxl2, -⟩ := id hX2
              obtain ⟨y0, -, hc0⟩ := hrow2.cell (i := k) (by omega)
              have hf0 := hrow2.frozen k
              have hu' := hu.symm
              have hub1 : -2147483648 ≤ u := by omega
              have hub2 : u ≤ 2147483648 := by omega
              have hus : u * u ≤ 4611686018427387904 := by omega
              have hdx := mul_abs_le (a := d) (b := x) (A := 65536) (B := 2199023255552) (by omega) (by omega) (by omega) (by omega)
              have hdx1 : -144115188075855872 ≤ d * x := by omega
              have hdx2 : d * x ≤ 144115188075855872 := by omega
              by_cases hk0 : k = 0
              · have hkb : ¬ ((0 : Int) < k) := by omega
                have hk00 : k < 1 := by omega
                have hX3 := hX2.put0 x
                obtain ⟨hR3, hRl⟩ := hX2.full hk0 hkn x
                have hM3 := hM2.setX k (.int .i64 x)
                obtain ⟨lf, hlf⟩ : ∃ lf, lf = ((sqn : Int) - u * u) / d := ⟨_, rfl⟩
                have HLF := Lib.hid hlf
                have HNX : Hid (T (j + 1) = T j ++ if takes z exact x lf then [x :: tail] else []) := Lib.hid (by
                  rw [HT1.out, ← HXJ.out, searchC, if_pos hk0, HRS.out, hlf])
                have hlf' := hlf.symm
                clear hub hu hin1 hin2 hdx hxl2 hrow2 hlf
                have HX3 := Lib.hid hX3
                have HR3 := Lib.hid hR3
                have HM3 := Lib.hid hM3
                have HLN := Lib.hid hln
                have HRL3 := Lib.hid hRl
                have HK0 := Lib.hid hk0
                clear hM2 hX2 hX3 hR3 hM3 hln hRl hk0
                by_cases htk : takes z exact x lf = true
                · have hT2 : Hid (T (j + 1) = T j ++ [x :: tail]) := Lib.hid (by rw [HNX.out]; simp [htk])
                  have htk' : ¬ (z = true ∧ x = 0) ∧ (exact = false ∨ (exact = true ∧ lf = 0)) := by
                    cases z <;> cases exact <;> by_cases hx0 : x = 0 <;> by_cases hl0 : lf = 0 <;> simp_all [takes]
                  have htk2 : (z = false ∨ (z = true ∧ (x == 0) = false)) ∧ (exact = false ∨ (exact = true ∧ (lf == 0) = true)) := by
                    cases z <;> cases exact <;> by_cases hx0 : x = 0 <;> by_cases hl0 : lf = 0 <;> simp_all [takes]
                  rw [HZV.out] at htk2
                  simp only [Bool.false_eq_true, Bool.true_eq_false, false_and, true_and, false_or, or_false, true_or] at htk2
                  clear htk HNX htk'
                  first
                    | (obtain ⟨hx0b, he1⟩ := htk2
                       rcases he1 with rfl | ⟨rfl, hl0⟩
                       · go_wp2_with fail
                         generalize wr.setCell ⟨w1.heap.size + 1, k, none⟩ (.int .i64 x) = wS at HX3 HR3 HM3 ⊢
                         obtain ⟨ln, hln1⟩ : ∃ ln, (l ++ T j).length = ln := ⟨_, rfl⟩
                         have HLN1 := Lib.hid hln1
                         have hlb3 := HM3.out.lb
                         rw [hln1] at hlb3
                         have lb3 : wS.cell? ⟨w1.heap.size + 3, 0, none⟩ = some (.slice lB2 ln c2) := by simp [World.cell?, hlb3]
                         have lf3 : wS.frozen? ⟨w1.heap.size + 3, 0, none⟩ = false := by simp [World.frozen?, hlb3]
                         have hown3 := HM3.out.ls.own
                         rw [hln1] at hown3
                         have HO3 := Lib.hid hown3
                         have HLB := Lib.hid hlb3
                         have hle : ln + 1 ≤ 1073741824 := by
                           have := HLN.out
                           rw [hT2.out, ← List.append_assoc, List.length_append, hln1] at this
                           simpa using this
                         have xb3 : wS.cell? ⟨w1.heap.size + 2, 0, none⟩ = some (.slice (some ⟨w1.heap.size + 1, 0, none⟩) n n) := by simp [World.cell?, HM3.out.xb]
                         have bw3 := HM3.out.sz
                         have oS3 : Old (w1.heap.size + 3) wS := ⟨by omega⟩
                         have hcl := fun W (hxx : Ext wS W) => CloneI_any (w := W) (c := n) HR3.out.ints (by rw [HRL3.out]; omega)
                         rw [HRL3.out] at hcl
                         have HCL := Lib.hid hcl
                         clear hcl hln1 lb2 hlb3 hown3
                         go_region_law (first
                           | ((refine step_app _ rfl (.tmp 94) (.tmp 97) 26 rfl (w1.heap.size + 5) 37 (.slice none 0 0) 1 24 Tryz.underlying26 infoSlI64 rfl (by decide) (by decide) lB2 ln c2 vs2 (by simp [Act.eval]) (HO3.out.ext inferInstance) (some ⟨W5.heap.size, 0, none⟩) 1 1 [.slice B5 n d5] (by simp [Act.eval]) ((Arr.new W5 37 #[.slice B5 n d5]).ext inferInstance) rfl (by simp [Value.oneCell']) (by omega) (by have := hs5.size; simp at this ⊢; omega) ?_); intro A6 d6 w6 hown6 hg6; have hb6 := (hg6.below.block (w1.heap.size + 3) (by omega)).trans (heap_of_ext (inferInstance : Ext wS ((W5.alloc (Obj.cells #[Value.slice B5 n d5] 37)))) HLB.out); have q1 : w6.cell? ⟨w1.heap.size + 3, 0, none⟩ = some (.slice lB2 ln c2) := (by simp [World.cell?, hb6]); have q2 : w6.frozen? ⟨w1.heap.size + 3, 0, none⟩ = false := (by simp [World.frozen?, hb6]); have q3 : w1.heap.size + 3 < w6.heap.size := lt_of_heap hb6; clear hb6)
                           | (go_simp; go_at_call 84; refine (HCL.out _ inferInstance).mono ?_; rintro e W5 ⟨B5, d5, rfl, hO5, hs5⟩; rw [HRL3.out]))
                         all_goals (
                           obtain ⟨hX6, hM6⟩ := SMem.took HM3.out HX3.out (inferInstance : Ext wS W5) hO5 HM3.out.sz HRL3.out HLN1.out hown6 hg6 hT2.out
                           clear q1 q2 q3 hown6 hg6 hO5 hs5 HCL HO3 HLB lb3 lf3 xb3
                           generalize w6.setCell ⟨w1.heap.size + 3, 0, none⟩ (.slice A6 (ln + 1) d6) = w7 at hX6 hM6 ⊢
                           have HX6 := Lib.hid hX6
                           have HM6 := Lib.hid hM6
                           clear hX6 hM6
                           go_wp2_with fail
                           exact ⟨⟨x + 1, j + 1, rfl, Lib.hid (by have := HXJ.out; omega), by omega, by omega, .inl (by omega), HX6.out, A6, d6, _, HM6.out⟩, by simp [intOf] <;> omega⟩)
                       · go_wp2_with fail
                         generalize wr.setCell ⟨w1.heap.size + 1, k, none⟩ (.int .i64 x) = wS at HX3 HR3 HM3 ⊢
                         obtain ⟨ln, hln1⟩ : ∃ ln, (l ++ T j).length = ln := ⟨_, rfl⟩
                         have HLN1 := Lib.hid hln1
                         have hlb3 := HM3.out.lb
                         rw [hln1] at hlb3
                         have lb3 : wS.cell? ⟨w1.heap.size + 3, 0, none⟩ = some (.slice lB2 ln c2) := by simp [World.cell?, hlb3]
                         have lf3 : wS.frozen? ⟨w1.heap.size + 3, 0, none⟩ = false := by simp [World.frozen?, hlb3]
                         have hown3 := HM3.out.ls.own
                         rw [hln1] at hown3
                         have HO3 := Lib.hid hown3
                         have HLB := Lib.hid hlb3
                         have hle : ln + 1 ≤ 1073741824 := by
                           have := HLN.out
                           rw [hT2.out, ← List.append_assoc, List.length_append, hln1] at this
                           simpa using this
                         have xb3 : wS.cell? ⟨w1.heap.size + 2, 0, none⟩ = some (.slice (some ⟨w1.heap.size + 1, 0, none⟩) n n) := by simp [World.cell?, HM3.out.xb]
                         have bw3 := HM3.out.sz
                         have oS3 : Old (w1.heap.size + 3) wS := ⟨by omega⟩
                         have hcl := fun W (hxx : Ext wS W) => CloneI_any (w := W) (c := n) HR3.out.ints (by rw [HRL3.out]; omega)
                         rw [HRL3.out] at hcl
                         have HCL := Lib.hid hcl
                         clear hcl hln1 lb2 hlb3 hown3
                         go_region_law (first
                           | ((refine step_app _ rfl (.tmp 94) (.tmp 97) 26 rfl (w1.heap.size + 5) 37 (.slice none 0 0) 1 24 Tryz.underlying26 infoSlI64 rfl (by decide) (by decide) lB2 ln c2 vs2 (by simp [Act.eval]) (HO3.out.ext inferInstance) (some ⟨W5.heap.size, 0, none⟩) 1 1 [.slice B5 n d5] (by simp [Act.eval]) ((Arr.new W5 37 #[.slice B5 n d5]).ext inferInstance) rfl (by simp [Value.oneCell']) (by omega) (by have := hs5.size; simp at this ⊢; omega) ?_); intro A6 d6 w6 hown6 hg6; have hb6 := (hg6.below.block (w1.heap.size + 3) (by omega)).trans (heap_of_ext (inferInstance : Ext wS ((W5.alloc (Obj.cells #[Value.slice B5 n d5] 37)))) HLB.out); have q1 : w6.cell? ⟨w1.heap.size + 3, 0, none⟩ = some (.slice lB2 ln c2) := (by simp [World.cell?, hb6]); have q2 : w6.frozen? ⟨w1.heap.size + 3, 0, none⟩ = false := (by simp [World.frozen?, hb6]); have q3 : w1.heap.size + 3 < w6.heap.size := lt_of_heap hb6; clear hb6)
                           | (go_simp; go_at_call 84; refine (HCL.out _ inferInstance).mono ?_; rintro e W5 ⟨B5, d5, rfl, hO5, hs5⟩; rw [HRL3.out]))
                         all_goals (
                           obtain ⟨hX6, hM6⟩ := SMem.took HM3.out HX3.out (inferInstance : Ext wS W5) hO5 HM3.out.sz HRL3.out HLN1.out hown6 hg6 hT2.out
                           clear q1 q2 q3 hown6 hg6 hO5 hs5 HCL HO3 HLB lb3 lf3 xb3
                           generalize w6.setCell ⟨w1.heap.size + 3, 0, none⟩ (.slice A6 (ln + 1) d6) = w7 at hX6 hM6 ⊢
                           have HX6 := Lib.hid hX6
                           have HM6 := Lib.hid hM6
                           clear hX6 hM6
                           go_wp2_with fail
                           exact ⟨⟨x + 1, j + 1, rfl, Lib.hid (by have := HXJ.out; omega), by omega, by omega, .inl (by omega), HX6.out, A6, d6, _, HM6.out⟩, by simp [intOf] <;> omega⟩))
                    | (rcases htk2 with rfl | ⟨rfl, hl0⟩
                       · go_wp2_with fail
                         generalize wr.setCell ⟨w1.heap.size + 1, k, none⟩ (.int .i64 x) = wS at HX3 HR3 HM3 ⊢
                         obtain ⟨ln, hln1⟩ : ∃ ln, (l ++ T j).length = ln := ⟨_, rfl⟩
                         have HLN1 := Lib.hid hln1
                         have hlb3 := HM3.out.lb
                         rw [hln1] at hlb3
                         have lb3 : wS.cell? ⟨w1.heap.size + 3, 0, none⟩ = some (.slice lB2 ln c2) := by simp [World.cell?, hlb3]
                         have lf3 : wS.frozen? ⟨w1.heap.size + 3, 0, none⟩ = false := by simp [World.frozen?, hlb3]
                         have hown3 := HM3.out.ls.own
                         rw [hln1] at hown3
                         have HO3 := Lib.hid hown3
                         have HLB := Lib.hid hlb3
                         have hle : ln + 1 ≤ 1073741824 := by
                           have := HLN.out
                           rw [hT2.out, ← List.append_assoc, List.length_append, hln1] at this
                           simpa using this
                         have xb3 : wS.cell? ⟨w1.heap.size + 2, 0, none⟩ = some (.slice (some ⟨w1.heap.size + 1, 0, none⟩) n n) := by simp [World.cell?, HM3.out.xb]
                         have bw3 := HM3.out.sz
                         have oS3 : Old (w1.heap.size + 3) wS := ⟨by omega⟩
                         have hcl := fun W (hxx : Ext wS W) => CloneI_any (w := W) (c := n) HR3.out.ints (by rw [HRL3.out]; omega)
                         rw [HRL3.out] at hcl
                         have HCL := Lib.hid hcl
                         clear hcl hln1 lb2 hlb3 hown3
                         go_region_law (first
                           | ((refine step_app _ rfl (.tmp 94) (.tmp 97) 26 rfl (w1.heap.size + 5) 37 (.slice none 0 0) 1 24 Tryz.underlying26 infoSlI64 rfl (by decide) (by decide) lB2 ln c2 vs2 (by simp [Act.eval]) (HO3.out.ext inferInstance) (some ⟨W5.heap.size, 0, none⟩) 1 1 [.slice B5 n d5] (by simp [Act.eval]) ((Arr.new W5 37 #[.slice B5 n d5]).ext inferInstance) rfl (by simp [Value.oneCell']) (by omega) (by have := hs5.size; simp at this ⊢; omega) ?_); intro A6 d6 w6 hown6 hg6; have hb6 := (hg6.below.block (w1.heap.size + 3) (by omega)).trans (heap_of_ext (inferInstance : Ext wS ((W5.alloc (Obj.cells #[Value.slice B5 n d5] 37)))) HLB.out); have q1 : w6.cell? ⟨w1.heap.size + 3, 0, none⟩ = some (.slice lB2 ln c2) := (by simp [World.cell?, hb6]); have q2 : w6.frozen? ⟨w1.heap.size + 3, 0, none⟩ = false := (by simp [World.frozen?, hb6]); have q3 : w1.heap.size + 3 < w6.heap.size := lt_of_heap hb6; clear hb6)
                           | (go_simp; go_at_call 84; refine (HCL.out _ inferInstance).mono ?_; rintro e W5 ⟨B5, d5, rfl, hO5, hs5⟩; rw [HRL3.out]))
                         all_goals (
                           obtain ⟨hX6, hM6⟩ := SMem.took HM3.out HX3.out (inferInstance : Ext wS W5) hO5 HM3.out.sz HRL3.out HLN1.out hown6 hg6 hT2.out
                           clear q1 q2 q3 hown6 hg6 hO5 hs5 HCL HO3 HLB lb3 lf3 xb3
                           generalize w6.setCell ⟨w1.heap.size + 3, 0, none⟩ (.slice A6 (ln + 1) d6) = w7 at hX6 hM6 ⊢
                           have HX6 := Lib.hid hX6
                           have HM6 := Lib.hid hM6
                           clear hX6 hM6
                           go_wp2_with fail
                           exact ⟨⟨x + 1, j + 1, rfl, Lib.hid (by have := HXJ.out; omega), by omega, by omega, .inl (by omega), HX6.out, A6, d6, _, HM6.out⟩, by simp [intOf] <;> omega⟩)
                       · go_wp2_with fail
                         generalize wr.setCell ⟨w1.heap.size + 1, k, none⟩ (.int .i64 x) = wS at HX3 HR3 HM3 ⊢
                         obtain ⟨ln, hln1⟩ : ∃ ln, (l ++ T j).length = ln := ⟨_, rfl⟩
                         have HLN1 := Lib.hid hln1
                         have hlb3 := HM3.out.lb
                         rw [hln1] at hlb3
                         have lb3 : wS.cell? ⟨w1.heap.size + 3, 0, none⟩ = some (.slice lB2 ln c2) := by simp [World.cell?, hlb3]
                         have lf3 : wS.frozen? ⟨w1.heap.size + 3, 0, none⟩ = false := by simp [World.frozen?, hlb3]
                         have hown3 := HM3.out.ls.own
                         rw [hln1] at hown3
                         have HO3 := Lib.hid hown3
                         have HLB := Lib.hid hlb3
                         have hle : ln + 1 ≤ 1073741824 := by
                           have := HLN.out
                           rw [hT2.out, ← List.append_assoc, List.length_append, hln1] at this
                           simpa using this
                         have xb3 : wS.cell? ⟨w1.heap.size + 2, 0, none⟩ = some (.slice (some ⟨w1.heap.size + 1, 0, none⟩) n n) := by simp [World.cell?, HM3.out.xb]
                         have bw3 := HM3.out.sz
                         have oS3 : Old (w1.heap.size + 3) wS := ⟨by omega⟩
                         have hcl := fun W (hxx : Ext wS W) => CloneI_any (w := W) (c := n) HR3.out.ints (by rw [HRL3.out]; omega)
                         rw [HRL3.out] at hcl
                         have HCL := Lib.hid hcl
                         clear hcl hln1 lb2 hlb3 hown3
                         go_region_law (first
                           | ((refine step_app _ rfl (.tmp 94) (.tmp 97) 26 rfl (w1.heap.size + 5) 37 (.slice none 0 0) 1 24 Tryz.underlying26 infoSlI64 rfl (by decide) (by decide) lB2 ln c2 vs2 (by simp [Act.eval]) (HO3.out.ext inferInstance) (some ⟨W5.heap.size, 0, none⟩) 1 1 [.slice B5 n d5] (by simp [Act.eval]) ((Arr.new W5 37 #[.slice B5 n d5]).ext inferInstance) rfl (by simp [Value.oneCell']) (by omega) (by have := hs5.size; simp at this ⊢; omega) ?_); intro A6 d6 w6 hown6 hg6; have hb6 := (hg6.below.block (w1.heap.size + 3) (by omega)).trans (heap_of_ext (inferInstance : Ext wS ((W5.alloc (Obj.cells #[Value.slice B5 n d5] 37)))) HLB.out); have q1 : w6.cell? ⟨w1.heap.size + 3, 0, none⟩ = some (.slice lB2 ln c2) := (by simp [World.cell?, hb6]); have q2 : w6.frozen? ⟨w1.heap.size + 3, 0, none⟩ = false := (by simp [World.frozen?, hb6]); have q3 : w1.heap.size + 3 < w6.heap.size := lt_of_heap hb6; clear hb6)
                           | (go_simp; go_at_call 84; refine (HCL.out _ inferInstance).mono ?_; rintro e W5 ⟨B5, d5, rfl, hO5, hs5⟩; rw [HRL3.out]))
                         all_goals (
                           obtain ⟨hX6, hM6⟩ := SMem.took HM3.out HX3.out (inferInstance : Ext wS W5) hO5 HM3.out.sz HRL3.out HLN1.out hown6 hg6 hT2.out
                           clear q1 q2 q3 hown6 hg6 hO5 hs5 HCL HO3 HLB lb3 lf3 xb3
                           generalize w6.setCell ⟨w1.heap.size + 3, 0, none⟩ (.slice A6 (ln + 1) d6) = w7 at hX6 hM6 ⊢
                           have HX6 := Lib.hid hX6
                           have HM6 := Lib.hid hM6
                           clear hX6 hM6
                           go_wp2_with fail
                           exact ⟨⟨x + 1, j + 1, rfl, Lib.hid (by have := HXJ.out; omega), by omega, by omega, .inl (by omega), HX6.out, A6, d6, _, HM6.out⟩, by simp [intOf] <;> omega⟩))
                · have hT2 : Hid (T (j + 1) = T j) := Lib.hid (by rw [HNX.out]; simp [htk])
                  have htk' : (z = true ∧ (x == 0) = true) ∨ (z = true ∧ (x == 0) = false ∧ exact = true ∧ (lf == 0) = false) ∨ (z = false ∧ exact = true ∧ (lf == 0) = false) := by
                    cases z <;> cases exact <;> by_cases hx0 : x = 0 <;> by_cases hl0 : lf = 0 <;> simp_all [takes]
                  rw [HZV.out] at htk'
                  simp only [Bool.false_eq_true, Bool.true_eq_false, false_and, true_and, false_or, or_false] at htk'
                  clear htk HNX
                  have hfin : ∀ v : Value, v = .int .i64 (x + 1) → (∃ (x' : Int) (j : Nat), v = .int .i64 x' ∧ Hid (x' = lo + j) ∧ lo ≤ x' ∧ -p ≤ x' ∧ (x' ≤ hi + 1 ∨ j = 0) ∧ XRow (wr.setCell ⟨w1.heap.size + 1, k, none⟩ (.int .i64 x)) (w1.heap.size + 1) n k tail ∧ ∃ lB c vs, SMem w1 (wr.setCell ⟨w1.heap.size + 1, k, none⟩ (.int .i64 x)) n (some ⟨bm, om, none⟩) (some ⟨bl, ol, none⟩) mc lc eb exact lB c (l ++ T j) vs) := fun v hv => ⟨x + 1, j + 1, hv, Lib.hid (by have := HXJ.out; omega), by omega, by omega, .inl (by omega), HX3.out, lB2, c2, vs2, by rw [hT2.out]; exact HM3.out⟩
                  have HFIN := Lib.hid hfin
                  clear hfin
                  first
                    | (obtain ⟨rfl, hl0⟩ := htk'
                       go_wp2_with fail
                       exact ⟨HFIN.out _ rfl, by simp [intOf] <;> omega⟩)
                    | (rcases htk' with hx0b | ⟨hx0b, rfl, hl0⟩
                       · go_wp2_with fail
                         exact ⟨HFIN.out _ rfl, by simp [intOf] <;> omega⟩
                       · go_wp2_with fail
                         exact ⟨HFIN.out _ rfl, by simp [intOf] <;> omega⟩)
              · obtain ⟨k', HK1⟩ : ∃ k', Hid (k = k' + 1) := ⟨k - 1, Lib.hid (by omega)⟩
                have hk1' : 1 ≤ k := by omega
                have hkb : decide ((0 : Int) < k) = true := by simp; omega
                have hLn : LevOK D n bound (k' + 1) rest tail := by rw [← HK1.out]; exact hLv
                have hL' : LevOK D n bound k' (((sqn : Int) - u * u) / d) (x :: tail) := by
                  have := LevOK.next hN hLn (x := x) (by rw [← HK1.out]; exact hin1) (by rw [← HK1.out]; exact hin2)
                  rw [← HK1.out, HRS.out] at this
                  exact this
                have hX3 : XRow (wr.setCell ⟨w1.heap.size + 1, k, none⟩ (.int .i64 x)) (w1.heap.size + 1) n k' (x :: tail) := by
                  have h1 : XRow wr (w1.heap.size + 1) n (k' + 1) tail := by rw [← HK1.out]; exact hX2
                  have := h1.put (by have := HK1.out; omega) x
                  rw [← HK1.out] at this; exact this
                obtain ⟨zb, HZB⟩ : ∃ zb, Hid (zb = (z && decide (x = 0))) := ⟨_, Lib.hid rfl⟩
                have hz3 : zb = true → absSum (x :: tail) = 0 := fun h => by
                  rw [HZB.out] at h
                  simp at h
                  have := hZ2.out h.1
                  simp [absSum, h.2] at this ⊢
                  exact this
                have HNX : Hid (T (j + 1) = T j ++ searchL D L exact k' (((sqn : Int) - u * u) / d) zb (x :: tail)) := Lib.hid (by
                  rw [HT1.out, ← HXJ.out, searchC, if_neg hk0, HRS.out, HZB.out, show k - 1 = k' by have := HK1.out; omega])
                have hcall := ih k' (by have := HK1.out; omega) _ zb _ _ _ _ (l ++ T j) _ hL' hz3 hX3 (hM2.setX k (.int .i64 x)) (by rw [List.append_assoc, ← HNX.out]; exact hln)
                rw [List.append_assoc, ← HNX.out, show ((k' : Nat) : Int) = (k : Int) - 1 by have := HK1.out; omega] at hcall
                unfold sCaps at sb2 hcall
                simp only [List.append_toArray, List.cons_append, List.nil_append] at hcall
                have HC := Lib.hid hcall
                have hfn := isFn_search
                unfold IsFn at hfn
                clear hub hu hin1 hin2 hX3 hL' hLn hcall hdx hxl2 hrow2 hz3 hln hk0
                have HM2 := Lib.hid hM2
                have HX2 := Lib.hid hX2
                clear hM2 hX2
                by_cases hx0 : x = 0
                all_goals (
                  have hzb := HZB.out
                  rw [HZV.out] at hzb
                  simp [hx0] at hzb
                  subst hzb)
                · have hx0b : (x == 0) = true := by simp [hx0]
                  clear hx0
                  go_wp2_with (refine HC.out.mono ?_; rintro e W3 ⟨rfl, hX4, lB4, c4, vs4, hM4⟩)
                  refine ⟨⟨x + 1, j + 1, rfl, Lib.hid (by have := HXJ.out; omega), by omega, by omega, .inl (by omega), ?_, lB4, c4, vs4, hM4⟩, by simp [intOf] <;> omega⟩
                  have := hX4.up
                  rw [← HK1.out] at this; exact this
                · have hx0b : (x == 0) = false := by simp [hx0]
                  clear hx0
                  go_wp2_with (refine HC.out.mono ?_; rintro e W3 ⟨rfl, hX4, lB4, c4, vs4, hM4⟩)
                  refine ⟨⟨x + 1, j + 1, rfl, Lib.hid (by have := HXJ.out; omega), by omega, by omega, .inl (by omega), ?_, lB4, c4, vs4, hM4⟩, by simp [intOf] <;> omega⟩
                  have := hX4.up
                  rw [← HK1.out] at this; exact this
            · have hj : j = (hi - lo + 1).toNat := by have := HXJ.out; omega
              have HJJ := Lib.hid hj
              clear hj
              go_wp2_with fail
              go_end0
              refine ⟨rfl, hX2, lB2, c2, vs2, ?_⟩
              rw [HTN.out, ← HJJ.out]
              exact hM2)
end Go.Proofs.YtjehjkipcaohpaaGreat
namespace Go.Proofs.YtjehjkipcaohpaaGreat
open Go.RowKit
/-- A value is returned; the world has drawn orders. -/
def RetQ (w : World) (v : Value) (e : Ending) (w' : World) : Prop := e = .returned v ∧ ∃ n, w' = w.drewN n
set_option maxHeartbeats 1000000 in
theorem ref09_Compare_any {w0 w : World} {X Y : Option Addr} {c d : Nat} {x y : List Int} (hX : Ints w0 X 2 .i64 x) (hY : Ints w0 Y 2 .i64 y) (hx1 : x.length ≤ 1099511627776) (hy1 : y.length ≤ 1099511627776) [hx : Ext w0 w] :
    Calls Tryz.prog 31 #[.slice X x.length c, .slice Y y.length d] w (RetQ w (.int .i64 (lexI x y))) := by
  go_enter Tryz.func31, Tryz.ntmps31
  go_wp2
  go_loopw [5] (fun i wr => ∃ k : Nat, k ≤ x.length ∧ k ≤ y.length ∧ i = .int .i64 k ∧ Hid (lexI x y = lexI (x.drop k) (y.drop k)) ∧ Hid (∃ n, wr = w.drewN n)) (fun i _ => x.length - (intOf i).toNat)
  case atStart => exact ⟨0, by omega, by omega, rfl, Lib.hid rfl, Lib.hid ⟨0, rfl⟩⟩
  case round =>
    obtain ⟨k, hk1, hk2, rfl, HE, HN⟩ := hrel
    have hxn : Ext w0 wr := by obtain ⟨n, hn⟩ := HN.out; rw [hn]; infer_instance
    by_cases hlt : k < x.length
    · obtain ⟨b1, o1, a, rfl, ha, g1, g2⟩ := (hX.ext hxn).at_ hlt
      by_cases hlt2 : k < y.length
      · obtain ⟨b2, o2, b, rfl, hb, g3, g4⟩ := (hY.ext hxn).at_ hlt2
        have ea : x.drop k = a :: x.drop (k + 1) := by rw [List.drop_eq_getElem_cons hlt, (List.getElem?_eq_some_iff.1 ha).2]
        have eb : y.drop k = b :: y.drop (k + 1) := by rw [List.drop_eq_getElem_cons hlt2, (List.getElem?_eq_some_iff.1 hb).2]
        have HE2 : Hid (lexI x y = if cmpI a b = 0 then lexI (x.drop (k + 1)) (y.drop (k + 1)) else cmpI a b) := Lib.hid (by rw [HE.out, ea, eb, lexI])
        clear ha hb ea eb
        by_cases hab : a < b
        · have h1 : (a != b) = true := by simp; omega
          have h2 : decide (a < b) = true := by simpa using hab
          have HV : Hid (lexI x y = -1) := Lib.hid (by rw [HE2.out, cmpI_lt hab]; rfl)
          clear hab
          go_wp2
          go_quiet (fail)
          go_wp2
          go_quiet (fail)
          go_wp2
          go_ret
          exact ⟨by rw [HV.out]; rfl, by obtain ⟨n, hn⟩ := HN.out; exact ⟨_, by rw [hn, World.drewN_drewN, World.drewN_drewN]⟩⟩
        · by_cases hba : b < a
          · have h1 : (a != b) = true := by simp; omega
            have h2 : decide (a < b) = false := by simpa using hab
            have HV : Hid (lexI x y = 1) := Lib.hid (by rw [HE2.out, cmpI_gt hba]; rfl)
            clear hab hba
            go_wp2
            go_quiet (fail)
            go_wp2
            go_quiet (fail)
            go_wp2
            go_ret
            exact ⟨by rw [HV.out]; rfl, by obtain ⟨n, hn⟩ := HN.out; exact ⟨_, by rw [hn, World.drewN_drewN, World.drewN_drewN]⟩⟩
          · have hab2 : a = b := by omega
            have h1 : (a != b) = false := by simp [hab2]
            have HV : Hid (lexI x y = lexI (x.drop (k + 1)) (y.drop (k + 1))) := Lib.hid (by rw [HE2.out, cmpI_eq hab2]; rfl)
            clear hab hba hab2
            go_wp2
            go_quiet (fail)
            go_wp2
            exact ⟨⟨k + 1, by omega, by omega, by go_num, HV, Lib.hid (by obtain ⟨n, hn⟩ := HN.out; exact ⟨_, by rw [hn, World.drewN_drewN]⟩)⟩, by simp [intOf]; omega⟩
      · have HV : Hid (lexI x y = 1) := Lib.hid (by
          rw [HE.out, List.drop_eq_getElem_cons hlt, show y.drop k = [] from List.drop_eq_nil_iff.2 (by omega)]; rfl)
        clear ha
        go_wp2
        go_ret
        exact ⟨by rw [HV.out]; rfl, HN.out⟩
    · by_cases hlt2 : k < y.length
      · have HV : Hid (lexI x y = -1) := Lib.hid (by
          rw [HE.out, show x.drop k = [] from List.drop_eq_nil_iff.2 (by omega), List.drop_eq_getElem_cons hlt2]; rfl)
        go_wp2
        go_ret
        exact ⟨by rw [HV.out]; rfl, HN.out⟩
      · have HV : Hid (lexI x y = 0) := Lib.hid (by
          rw [HE.out, show x.drop k = [] from List.drop_eq_nil_iff.2 (by omega), show y.drop k = [] from List.drop_eq_nil_iff.2 (by omega)]; rfl)
        go_wp2
        go_ret
        exact ⟨by rw [HV.out]; rfl, HN.out⟩

set_option maxHeartbeats 1000000 in
theorem ref09_Same_any {w0 w : World} {A B : Option Addr} {c d : Nat} {a b : List (List Int)} (hA : Mat64 w0 A a) (hB : Mat64 w0 B b) (ha1 : a.length ≤ 1099511627776) (hb1 : b.length ≤ 1099511627776) (ha2 : ∀ r ∈ a, r.length ≤ 1099511627776) (hb2 : ∀ r ∈ b, r.length ≤ 1099511627776) [hx : Ext w0 w] :
    Calls Tryz.prog 25 #[.slice A a.length c, .slice B b.length d] w (RetQ w (.bool (decide (a = b)))) := by
  by_cases hl : a.length = b.length
  · rw [← hl]
    have hlb : ((a.length : Int) != (a.length : Int)) = false := by simp
    have HL := Lib.hid hl
    have HA2 := Lib.hid ha2
    have HB2 := Lib.hid hb2
    clear hl ha2 hb2 hb1
    obtain ⟨q, hq⟩ : ∃ q, q = a.length := ⟨_, rfl⟩
    rw [← hq] at hlb ha1 ⊢
    have HQ := Lib.hid hq
    clear hq
    go_enter Tryz.func25, Tryz.ntmps25
    go_wp2
    go_loopw [5, 13] (fun _ i wr => ∃ k : Nat, k ≤ q ∧ i = .int .i64 k ∧ Hid (a.take k = b.take k) ∧ Hid (∃ n, wr = w.drewN n)) (fun _ i _ => q - (intOf i).toNat)
    case atStart => exact ⟨0, by omega, rfl, Lib.hid rfl, Lib.hid ⟨0, rfl⟩⟩
    case round =>
      obtain ⟨k, hk, rfl, HE, HN⟩ := hrel
      have hxn : Ext w0 wr := by obtain ⟨n, hn⟩ := HN.out; rw [hn]; infer_instance
      by_cases hlt : k < q
      · have hka : k < a.length := by have := HQ.out; omega
        have hkb : k < b.length := by have := HQ.out; have := HL.out; omega
        obtain ⟨b1, o1, X, c1, rfl, e1, f1, f2, f3, f4⟩ := (hA.ext hxn).at_ (i := k) (r := a[k]) (by simp [hka])
        obtain ⟨b2, o2, Y, c2, rfl, e2, g1, g2, g3, g4⟩ := (hB.ext hxn).at_ (i := k) (r := b[k]) (by simp [hkb])
        obtain ⟨x, hxx⟩ : ∃ x, x = a[k] := ⟨_, rfl⟩
        obtain ⟨y, hyy⟩ : ∃ y, y = b[k] := ⟨_, rfl⟩
        have hxl := HA2.out a[k] (List.getElem_mem hka)
        have hyl := HB2.out b[k] (List.getElem_mem hkb)
        rw [← hxx] at e1 f1 f2 hxl
        rw [← hyy] at e2 g1 g2 hyl
        have HX : Hid (a[k]? = some x) := Lib.hid (by rw [hxx]; simp [hka])
        have HY : Hid (b[k]? = some y) := Lib.hid (by rw [hyy]; simp [hkb])
        have hc := fun n => ref09_Compare_any (w0 := wr) (w := wr.drewN n) (c := c1) (d := c2) f1 g1 hxl hyl
        have HC := Lib.hid hc
        clear hxx hyy hc f1 g1
        by_cases hxy : x = y
        · subst hxy
          have HT : Hid (a.take (k + 1) = b.take (k + 1)) := Lib.hid (by rw [List.take_add_one, List.take_add_one, HE.out, HX.out, HY.out])
          rw [lexI_self] at HC
          go_wp2
          go_quiet ((go_at_call 31; exact Calls.quiet_of (HC.out _)))
          go_wp2
          exact ⟨⟨k + 1, by omega, by go_num, HT, Lib.hid (by obtain ⟨n, hn⟩ := HN.out; exact ⟨_, by rw [hn, World.drewN_drewN]⟩)⟩, by simp [intOf]; omega⟩
        · obtain ⟨v, hv⟩ : ∃ v, v = lexI x y := ⟨_, rfl⟩
          rw [← hv] at HC
          have hv0 : (v != 0) = true := by simp; intro h; exact hxy (lexI_eq _ _ (hv ▸ h))
          have HV : Hid (decide (a = b) = false) := Lib.hid (by simp; intro h; apply hxy; have h1 := HX.out; rw [h, HY.out] at h1; injection h1 with h1; exact h1.symm)
          clear hv hxy
          go_wp2
          go_quiet ((go_at_call 31; exact Calls.quiet_of (HC.out _)))
          go_wp2
          go_ret
          exact ⟨by rw [HV.out]; rfl, by obtain ⟨n, hn⟩ := HN.out; exact ⟨_, by rw [hn, World.drewN_drewN]⟩⟩
      · have HV : Hid (decide (a = b) = true) := Lib.hid (by
          have h1 : a.take k = a := List.take_of_length_le (by have := HQ.out; omega)
          have h2 : b.take k = b := List.take_of_length_le (by have := HQ.out; have := HL.out; omega)
          have := HE.out
          rw [h1, h2] at this
          simp [this])
        go_wp2
        go_ret
        exact ⟨by rw [HV.out]; rfl, HN.out⟩
  · have hlb : ((a.length : Int) != (b.length : Int)) = true := by simp; omega
    have HV : Hid (decide (a = b) = false) := Lib.hid (by simp; intro h; exact hl (by rw [h]))
    clear hl
    go_enter Tryz.func25, Tryz.ntmps25
    go_wp2
    go_ret
    exact ⟨by rw [HV.out]; rfl, 0, rfl⟩
end Go.Proofs.YtjehjkipcaohpaaGreat
