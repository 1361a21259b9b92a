/-
  The lexicographic order; slices.SortFunc at keyed vectors.
-/
import Derived.Test.YtaaldapmkhamlaaGreatVec6
namespace Go.Proofs.YtaaldapmkhamlaaGreat
open Go.RowKit
/-! ## The lexicographic order -/
theorem cmpI_cases (a b : Int) : (a < b ∧ cmpI a b = -1) ∨ (a = b ∧ cmpI a b = 0) ∨ (b < a ∧ cmpI a b = 1) := by
  rcases Int.lt_trichotomy a b with h | h | h
  · exact .inl ⟨h, cmpI_lt h⟩
  · exact .inr (.inl ⟨h, cmpI_eq h⟩)
  · exact .inr (.inr ⟨h, cmpI_gt h⟩)
theorem lexI_self : ∀ x, lexI x x = 0
  | [] => rfl
  | a :: l => by simp [lexI, cmpI_eq, lexI_self l]
theorem lexI_eq : ∀ x y, lexI x y = 0 → x = y
  | [], [], _ => rfl
  | [], _ :: _, h => by simp [lexI] at h
  | _ :: _, [], h => by simp [lexI] at h
  | a :: l, b :: m, h => by
    rcases cmpI_cases a b with ⟨h1, h2⟩ | ⟨h1, h2⟩ | ⟨h1, h2⟩ <;> simp [lexI, h2] at h
    rw [h1, lexI_eq l m h]
theorem lexI_anti : ∀ x y, lexI y x = -lexI x y
  | [], [] => rfl
  | [], _ :: _ => rfl
  | _ :: _, [] => rfl
  | a :: l, b :: m => by
    rcases cmpI_cases a b with ⟨h1, h2⟩ | ⟨h1, h2⟩ | ⟨h1, h2⟩
    · have := cmpI_gt h1; simp [lexI, h2, this]
    · have := cmpI_eq h1.symm; simp [lexI, h2, this, lexI_anti l m]
    · have := cmpI_lt h1; simp [lexI, h2, this]
theorem lexI_trans : ∀ x y z, lexI x y < 0 → lexI y z < 0 → lexI x z < 0
  | [], [], _, h, _ => by simp [lexI] at h
  | [], _ :: _, [], _, h => by simp [lexI] at h
  | [], _ :: _, _ :: _, _, _ => by simp [lexI]
  | _ :: _, [], _, h, _ => by simp [lexI] at h
  | _ :: _, _ :: _, [], _, h => by simp [lexI] at h
  | a :: l, b :: m, c :: n, h, h' => by
    rcases cmpI_cases a b with ⟨h1, h2⟩ | ⟨h1, h2⟩ | ⟨h1, h2⟩ <;> rcases cmpI_cases b c with ⟨k1, k2⟩ | ⟨k1, k2⟩ | ⟨k1, k2⟩ <;> simp [lexI, h2] at h <;> simp [lexI, k2] at h'
    · have := cmpI_lt (show a < c by omega); simp [lexI, this]
    · have := cmpI_lt (show a < c by omega); simp [lexI, this]
    · have := cmpI_lt (show a < c by omega); simp [lexI, this]
    · have := cmpI_eq (show a = c by omega); simp [lexI, this]; exact lexI_trans l m n h h'
theorem cmpK_lex (a b : Int) (x y : List Int) : cmpK a b x y = lexI (a :: x) (b :: y) := rfl
theorem lexI_range : ∀ x y, lexI x y = -1 ∨ lexI x y = 0 ∨ lexI x y = 1
  | [], [] => .inr (.inl rfl)
  | [], _ :: _ => .inl rfl
  | _ :: _, [] => .inr (.inr rfl)
  | a :: l, b :: m => by
    rcases cmpI_cases a b with ⟨h1, h2⟩ | ⟨h1, h2⟩ | ⟨h1, h2⟩
    · exact .inl (by simp [lexI, h2])
    · have := lexI_range l m; simpa [lexI, h2] using this
    · exact .inr (.inr (by simp [lexI, h2]))
/-! ## Keyed vectors in memory -/
structure KE where
  key : Int
  A : Option Addr
  c : Nat
  l : List Int
def KE.cmp (x y : KE) : Int := cmpK x.key y.key x.l y.l
def KE.enc (x : KE) : List Value := [.int .i64 x.key, .slice x.A x.l.length x.c]
/-- Its vector is there. -/
def KE.ok (w : World) (x : KE) : Prop := Ints w x.A 2 .i64 x.l ∧ x.l.length ≤ 1099511627776
/-- The row of keyed vectors in block g. -/
def KRow (w : World) (g : Nat) (els : List KE) : Prop := ∃ cur, w.heap[g]? = some (.cells cur 110 (0, 0)) ∧ ∀ (i : Nat) (x : KE), els[i]? = some x → cur[2 * i]? = some (.int .i64 x.key) ∧ cur[2 * i + 1]? = some (.slice x.A x.l.length x.c)
structure KEw (w : World) where
  val : KE
  ok : val.ok w
instance (w : World) : Inhabited (KEw w) := ⟨⟨⟨0, none, 0, []⟩, Ints.nil, by simp⟩⟩
def encW (w : World) (x : KEw w) : List Value := x.val.enc
def cfW (w : World) (x y : KEw w) : Int := x.val.cmp y.val
theorem swoW (w : World) : Sort.SWO (ltOf (cfW w)) where
  irrefl x := by simp [ltOf, cfW, KE.cmp, cmpK_lex, lexI_self]
  trans x y z h1 h2 := by
    have h1 : lexI (x.1.key :: x.1.l) (y.1.key :: y.1.l) < 0 := of_decide_eq_true h1
    have h2 : lexI (y.1.key :: y.1.l) (z.1.key :: z.1.l) < 0 := of_decide_eq_true h2
    exact decide_eq_true (lexI_trans _ _ _ h1 h2)
  ntrans x y z h1 h2 := by
    have h1 : ¬ lexI (x.1.key :: x.1.l) (y.1.key :: y.1.l) < 0 := of_decide_eq_false h1
    have h2 : ¬ lexI (y.1.key :: y.1.l) (z.1.key :: z.1.l) < 0 := of_decide_eq_false h2
    refine decide_eq_false (fun (h3 : lexI (x.1.key :: x.1.l) (z.1.key :: z.1.l) < 0) => ?_)
    have e1 := lexI_anti (x.1.key :: x.1.l) (z.1.key :: z.1.l)
    have e2 := lexI_anti (x.1.key :: x.1.l) (y.1.key :: y.1.l)
    have e3 := lexI_anti (y.1.key :: y.1.l) (z.1.key :: z.1.l)
    -- y ≤ x, z ≤ y, x < z
    rcases lexI_range (x.1.key :: x.1.l) (y.1.key :: y.1.l) with h | h | h
    · omega
    · have := lexI_eq _ _ h
      rw [this] at h3; omega
    · rcases lexI_range (y.1.key :: y.1.l) (z.1.key :: z.1.l) with k | k | k
      · omega
      · have := lexI_eq _ _ k
        rw [← this] at h3; omega
      · have := lexI_trans _ _ _ (show lexI (z.1.key :: z.1.l) (y.1.key :: y.1.l) < 0 by omega) (show lexI (y.1.key :: y.1.l) (x.1.key :: x.1.l) < 0 by omega)
        omega
/-- What lies outside of block g lies in the sort's worlds as it lay. -/
theorem sortWorld_heap {α : Type} [Inhabited α] (enc : α → List Value) (k : Nat) (w : World) (g m : Nat) (d : Array α) (os : Array Obj) {b : Nat} (hb : b < w.heap.size) (hne : b ≠ g) : (sortWorldK enc k w g 0 m d os).heap[b]? = w.heap[b]? := by
  have h1 : (sortWorldK enc k w g 0 m d os).heap[b]? = (w.heap.modify g (Sort.onCells (Sort.putCells id 0 (Sort.flatK enc k d))))[b]? := by
    show ((w.heap.modify g _) ++ os)[b]? = _
    rw [Array.getElem?_append_left (by simpa using hb)]
  rw [h1, Array.getElem?_modify, if_neg (fun h => hne h.symm)]
theorem sortWorld_row {α : Type} [Inhabited α] (enc : α → List Value) (k : Nat) (w : World) (g m : Nat) (d : Array α) (os : Array Obj) {cur : Array Value} {T : TypeId} (hg : w.heap[g]? = some (.cells cur T (0, 0))) : (sortWorldK enc k w g 0 m d os).heap[g]? = some (.cells (Sort.putCells id 0 (Sort.flatK enc k d) cur) T (0, 0)) := by
  have h1 : (sortWorldK enc k w g 0 m d os).heap[g]? = (w.heap.modify g (Sort.onCells (Sort.putCells id 0 (Sort.flatK enc k d))))[g]? := by
    show ((w.heap.modify g _) ++ os)[g]? = _
    rw [Array.getElem?_append_left (by simpa using lt_of_heap hg)]
  rw [h1, Array.getElem?_modify, if_pos rfl, hg]; rfl
theorem sortWorld_below {α : Type} [Inhabited α] (enc : α → List Value) (k : Nat) (w : World) (g m : Nat) (d : Array α) (os : Array Obj) {B : Nat} (hB : B ≤ g) (hg : g < w.heap.size) : Below B w (sortWorldK enc k w g 0 m d os) :=
  ⟨rfl, rfl, rfl, by show w.heap.size ≤ ((w.heap.modify g _) ++ os).size; simp, fun b hb => sortWorld_heap enc k w g m d os (by omega) (by omega)⟩
theorem KE.ok_sort {α : Type} [Inhabited α] (enc : α → List Value) (k : Nat) {w : World} {g m : Nat} {d : Array α} {os : Array Obj} {cur : Array Value} (hg : w.heap[g]? = some (.cells cur 110 (0, 0))) {x : KE} (h : x.ok w) : x.ok (sortWorldK enc k w g 0 m d os) := by
  refine ⟨h.1.keep fun b cs fr hb => sortWorld_heap enc k w g m d os (lt_of_heap hb) (fun hh => ?_), h.2⟩
  subst hh
  rw [hg] at hb
  injection hb with hb
  injection hb with _ he
  exact absurd he (by decide)
def Same (g : Nat) (w w' : World) : Prop := (∀ b, b < w.heap.size → b ≠ g → w'.heap[b]? = w.heap[b]?) ∧ (∀ B, B ≤ g → Below B w w')
set_option maxHeartbeats 1000000 in
/-- slices.SortFunc at keyed vectors. -/
theorem SortK_any {w : World} {g cap : Nat} {els : List KE} (hrow : KRow w g els) (hok : ∀ x ∈ els, x.ok w) (hn : els.length < 4611686018427387904) :
    Calls Tryz.prog 95 #[.slice (some ⟨g, 0, none⟩) els.length cap, .func (.func 48) #[] #[]] w fun e w' => e = .returned (.tuple #[]) ∧ ∃ els' : List KE, els'.Perm els ∧ els'.Pairwise (fun x y => ¬ y.cmp x < 0) ∧ KRow w' g els' ∧ (∀ x ∈ els', x.ok w') ∧ Same g w w' := by
  obtain ⟨cur, hg, hcur⟩ := hrow
  obtain ⟨D, hD⟩ : ∃ D : List (KEw w), D.map KEw.val = els := ⟨els.pmap KEw.mk hok, by rw [List.map_pmap]; simp⟩
  have hDl : D.length = els.length := by rw [← hD]; simp
  have hcmp : CmpLays Tryz.prog 48 #[] (encW w) 2 (cfW w) g 0 D.toArray.size w := fun m os dk _ x y => by
    have hx := KE.ok_sort (encW w) 2 (m := m) (d := dk) (os := os) hg x.ok
    have hy := KE.ok_sort (encW w) 2 (m := m) (d := dk) (os := os) hg y.ok
    exact compareByNorm_any hx.1 hy.1 hx.2 hy.2
  have hH : Sort.HoldsK (encW w) 2 w g 0 D.toArray := fun j hj => by
    rw [Sort.size_flatK] at hj
    have hj2 : j / 2 < D.length := by simp at hj; omega
    obtain ⟨x, hx⟩ : ∃ x, D[j / 2]? = some x := ⟨_, List.getElem?_eq_getElem hj2⟩
    have hel : els[j / 2]? = some x.val := by rw [← hD, List.getElem?_map, hx]; rfl
    have hc := hcur (j / 2) _ hel
    have e1 : (Sort.flatK (encW w) 2 D.toArray)[j]! = (x.val.enc)[j % 2]! := by
      rw [Sort.get_flatK _ _ _ _ (by simpa using hj)]
      have : D.toArray[j / 2]! = x := by simp [hx]
      rw [this]; rfl
    refine ⟨?_, by simp [World.frozen?, hg]⟩
    rw [id, e1, Nat.zero_add, cell_of_row w g j _ _ _ hg]
    rcases Nat.mod_two_eq_zero_or_one j with h0 | h0
    · rw [h0]
      have := hc.1
      rw [show 2 * (j / 2) = j by omega] at this
      exact this
    · rw [h0]
      have := hc.2
      rw [show 2 * (j / 2) + 1 = j by omega] at this
      exact this
  have h := AnyQ.slices_SortFunc (P := Tryz.prog) Tryz.laysSort 2 Tryz.isAgg110 Tryz.sizeOf110 (encW w) (fun x => rfl) (fun x v hv => by
      simp only [encW, KE.enc, List.mem_cons, List.not_mem_nil, or_false] at hv
      rcases hv with rfl | rfl <;> rfl) (cfW w) (swoW w) 48 #[] g 0 cap D.toArray w (enters_of Tryz.func48 (by kernel_rfl) rfl) hcmp hH (lt_of_heap hg) (by simpa [hDl] using hn)
  have e0 : D.toArray.size = els.length := by simpa using hDl
  rw [e0] at h
  refine h.mono ?_
  rintro e w' ⟨he, d', n, os, ⟨hp1, -, hp2⟩, hs, hw⟩
  refine ⟨he, d'.toList.map KEw.val, ?_, ?_, ?_, ?_, ?_⟩
  · have e1 : d'.extract 0 els.length = d' := by apply Array.ext'; simp; rw [List.take_of_length_le (by simp; omega)]
    have e2 : (D.toArray).extract 0 els.length = D.toArray := by rw [← e0]; exact Array.extract_size
    rw [e1, e2] at hp2
    rw [← hD]
    exact hp2.map _
  · rw [List.pairwise_map, List.pairwise_iff_getElem]
    intro i j hi hj hij
    have := hs i j (Nat.zero_le _) hij (by simp at hj; omega)
    have e3 : d'[j]! = d'.toList[j] := by simp at hj; simp [hj]
    have e4 : d'[i]! = d'.toList[i] := by simp at hi; simp [hi]
    rw [e3, e4] at this
    exact of_decide_eq_false this
  · refine ⟨_, by rw [hw]; exact sortWorld_row (encW w) 2 w g n d' os hg, fun i x hx => ?_⟩
    rw [List.getElem?_map] at hx
    obtain ⟨y, hy, rfl⟩ : ∃ y, d'.toList[i]? = some y ∧ y.val = x := by
      cases hh : d'.toList[i]? with
      | none => rw [hh] at hx; cases hx
      | some y => rw [hh] at hx; exact ⟨y, rfl, by simpa using hx⟩
    have hi : i < d'.size := by simpa using (List.getElem?_eq_some_iff.1 hy).1
    have hdi : d'[i]! = y := by
      have := (List.getElem?_eq_some_iff.1 hy).2
      simp [hi]; simpa using this
    have hcs : 2 * i + 1 < cur.size := by
      have hlen : i < els.length := by omega
      have := (hcur i els[i] (by simp [hlen])).2
      exact (Array.getElem?_eq_some_iff.1 this).1
    have key : ∀ t, t < 2 → (Sort.putCells id 0 (Sort.flatK (encW w) 2 d') cur)[2 * i + t]? = some ((y.val.enc)[t]!) := fun t ht => by
      unfold Sort.putCells
      rw [Array.getElem?_mapIdx, Array.getElem?_eq_getElem (by omega)]
      simp only [Option.map_some]
      rw [if_pos (by rw [Sort.size_flatK]; omega), Nat.sub_zero, id, Sort.get_flatK _ _ _ _ (by omega), show (2 * i + t) / 2 = i by omega, show (2 * i + t) % 2 = t by omega, hdi]
      rfl
    exact ⟨key 0 (by omega), key 1 (by omega)⟩
  · intro x hx
    obtain ⟨y, -, rfl⟩ := List.mem_map.1 hx
    rw [hw]
    exact KE.ok_sort (encW w) 2 hg y.ok
  · rw [hw]
    exact ⟨fun b hb hne => sortWorld_heap _ _ w g n d' os hb hne, fun B hB => sortWorld_below _ _ w g n d' os hB (lt_of_heap hg)⟩
end Go.Proofs.YtaaldapmkhamlaaGreat
