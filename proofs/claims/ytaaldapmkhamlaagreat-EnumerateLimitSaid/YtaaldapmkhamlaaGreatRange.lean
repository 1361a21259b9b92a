/-
  The law of a loop that ranges over the tails.
-/
import Derived.Test.YtaaldapmkhamlaaGreatTails
namespace Go.Proofs.YtaaldapmkhamlaaGreat
open Go.RowKit Go.Shelf
attribute [local go_sem] Oper.semAt_some
/-- Below base all blocks but sz are as they were. -/
structure OnlyB (base sz : Nat) (A B : World) : Prop where
  block : ∀ b, b < base → b ≠ sz → B.heap[b]? = A.heap[b]?
  size : A.heap.size ≤ B.heap.size
  os : B.os = A.os
  tape : B.tape = A.tape
  output : B.output = A.output
theorem OnlyB.putObj {base sz : Nat} {A : World} {r : Nat} (h : base ≤ r) (o : Obj) : OnlyB base sz A (A.putObj r o) :=
  ⟨fun b hb _ => World.putObj_heap_other (by omega), by simp [World.putObj], rfl, rfl, rfl⟩
theorem OnlyB.alloc {base sz : Nat} {A : World} (h : base ≤ A.heap.size) (o : Obj) : OnlyB base sz A (A.alloc o) :=
  ⟨fun b hb _ => Below.heap_alloc A o b (by omega), by simp, rfl, rfl, rfl⟩
/-- From sz on all blocks are as they were. -/
structure AboveK (sz : Nat) (A B : World) : Prop where
  block : ∀ b, sz ≤ b → b < A.heap.size → B.heap[b]? = A.heap[b]?
  size : A.heap.size ≤ B.heap.size
/-- What is asked of the body of the loop. -/
def bodyX (I : List (Int × Int) → World → Prop) (Ix : List (Int × Int) → World → Prop) (sz : Nat) (ys : List (Int × Int)) (W : World) : Exit → Act → World → Prop
  | .normal, _, W' => AboveK sz W W' ∧ I ys W'
  | .ret, _, W' => AboveK sz W W' ∧ Ix ys W'
  | _, _, _ => False
theorem roundIn_any {m m' : Nat} {P : Program} {l : Nat} {f : FuncId} {tmps : Array Value} {assign body : Code} {w : World} {R : Ending → World → Prop} (h : RoundIn Fence.wide m P l f tmps assign body w R) : RoundIn Fence.wide m' P l f tmps assign body w R := ⟨h.1, fun c cs _ => h.2 c cs (room_wide _)⟩
set_option maxHeartbeats 2000000 in
/-- A loop that ranges over the tails. -/
theorem wpIn_rangeX {P : Program} {n : Nat} {g : Operand} {ps : Array Tmp} {assign body : Code} {Q : Exit → Act → World → Prop} {a : Act} {w : World} {gf : Nat} {ptr : Value}
    (hg : a.eval g = .func (.func gf) #[ptr] #[]) (eg : ∀ args w, (callFunc gf args).run P w = .ok (.enter gf args) w) (hps : ps.size = 2) (sz hi N : Nat) (hsz : sz < hi) (hhi : hi ≤ w.heap.size) (ys : List (Int × Int))
    (hseq : ∀ (l : Nat) (J Jx : List (Int × Int) → World → Prop), (∀ pre W, J pre W → J pre W.drew) → (∀ pre W i v, J pre W → J pre (W.setCell ⟨sz, i, none⟩ (.int .i64 v))) →
      (∀ m pre x W, J pre W → ValidY N x → YieldAt Fence.wide m P l #[.int .i64 x.1, .int .i64 x.2] W fun e W' => (e = .returned (.bool true) ∧ J (pre ++ [x]) W' ∧ KeepW sz hi W W') ∨ (e = .returned (.bool false) ∧ Jx (pre ++ [x]) W')) →
      ∀ (m : Nat) (W : World), KeepW sz hi w W → J [] W → CallsIn Fence.wide m P gf #[ptr, .func (.yield l) #[] #[]] W fun e W' => (∃ v, e = .returned v) ∧ (J ys W' ∨ ∃ q, q <+: ys ∧ Jx q W'))
    (I Ix : List (Int × Int) → World → Prop) (hI : ∀ pre A B, I pre A → OnlyB w.heap.size sz A B → I pre B) (hIx : ∀ pre A B, Ix pre A → OnlyB w.heap.size sz A B → Ix pre B) (h0 : I [] w)
    (hab : ∀ (l : Nat) (pre : List (Int × Int)) (x : Int × Int) (W : World), I pre W → ValidY N x → w.heap.size ≤ W.heap.size →
      assign.wpIn (Fence.wide.inRound l) n P (Exit.then (fun a₁ W₁ => W = W₁ ∧ ∀ W', I pre W' → w.heap.size ≤ W'.heap.size → body.wpIn (Fence.wide.inRound l) n P (bodyX I Ix sz (pre ++ [x]) W') a₁ W') (fun _ _ _ => False)) { tmps := (ps.zip #[.int .i64 x.1, .int .i64 x.2]).foldl (fun t (p, v) => t.setIfInBounds p v) a.tmps, defers := [] } W)
    (hdone : ∀ (D : Nat) (W : World), I ys W → w.heap.size ≤ D → W.heap[D]? = some (.deferred (some [])) → Q .normal { a with defers := { target := .collected D, args := #[] } :: a.defers } W)
    (hstop : ∀ (D : Nat) (q : List (Int × Int)) (W : World), q <+: ys → Ix q W → w.heap.size ≤ D → W.heap[D]? = some (.deferred (some [])) → (Code.ret).wpIn Fence.wide n P Q { a with defers := { target := .collected D, args := #[] } :: a.defers } W) :
    (Code.rangeFunc g ps assign body).wpIn Fence.wide n P Q a w := by
  refine wpIn_rangeFunc ?_
  intro fn hfn
  obtain ⟨rec, hrec⟩ : ∃ rec : LoopState → Option Code → Loop, rec = fun st pe => { state := st, pending := pe, fn, tmps := a.tmps, params := ps, assign, body, defers := w.heap.size } := ⟨_, rfl⟩
  obtain ⟨W1, hW1⟩ : ∃ W1, (w.alloc (.deferred (some []))).alloc (.loop (rec .ready none)) = W1 := ⟨_, rfl⟩
  have hL1 : W1.heap[w.heap.size + 1]? = some (.loop (rec .ready none)) := by
    rw [← hW1]; have := World.alloc_heap_new (w.alloc (.deferred (some []))) (.loop (rec .ready none)); rwa [World.size_alloc] at this
  have hK1 : W1.heap[w.heap.size]? = some (.deferred (some [])) := by
    rw [← hW1]; exact (Below.heap_alloc _ _ _ (by simp)).trans (World.alloc_heap_new w _)
  have hI1 : I [] W1 := by rw [← hW1]; exact hI _ _ _ (hI _ _ _ h0 (OnlyB.alloc (Nat.le_refl _) _)) (OnlyB.alloc (by simp) _)
  have hb1 : KeepW sz hi w W1 := by
    rw [← hW1]
    refine ⟨fun b h1 h2 => ?_, by simp; omega⟩
    rw [Below.heap_alloc _ _ _ (by simp; omega), Below.heap_alloc _ _ _ (by omega)]
  refine ⟨w.heap.size + 1, [{ target := .collected w.heap.size, args := #[] }], W1, { target := .fn (.func gf) #[], args := #[ptr, .func (.yield (w.heap.size + 1)) #[] #[]] }, W1, gf,
    #[ptr, .func (.yield (w.heap.size + 1)) #[] #[]], W1, ?_, ?_, ?_, ?_, fun h => (by cases h), ?_⟩
  · rw [← hW1, hrec]; exact run_enterLoop_outer _ _ _ _ _
  · simp only [resolve, hg]
    simp [go_sem]
  · intro f' _; trivial
  · simp [invoke, go_sem, eg]
  · refine (hseq (w.heap.size + 1)
      (fun pre W => I pre W ∧ W.heap[w.heap.size + 1]? = some (.loop (rec .ready none)) ∧ W.heap[w.heap.size]? = some (.deferred (some [])))
      (fun pre W => Ix pre W ∧ W.heap[w.heap.size + 1]? = some (.loop (rec .done (some .ret))) ∧ W.heap[w.heap.size]? = some (.deferred (some [])))
      (fun pre W hs => ⟨hI _ _ _ hs.1 ⟨fun _ _ _ => rfl, Nat.le_refl _, rfl, rfl, rfl⟩, hs.2⟩)
      (fun pre W i v hs => ⟨hI _ _ _ hs.1 ⟨fun b _ hb => Below.heap_setCell W ⟨sz, i, none⟩ _ b hb, by rw [size_setCell]; exact Nat.le_refl _, rfl, rfl, rfl⟩,
        (Below.heap_setCell W ⟨sz, i, none⟩ _ _ (show w.heap.size + 1 ≠ sz by omega)).trans hs.2.1, (Below.heap_setCell W ⟨sz, i, none⟩ _ _ (show w.heap.size ≠ sz by omega)).trans hs.2.2⟩)
      ?_ (n - 1) W1 hb1 ⟨hI1, hL1, hK1⟩).mono ?_
    · rintro m pre x W ⟨hi', hl, hk⟩ hval
      have hlt : w.heap.size + 1 < W.heap.size := (Array.getElem?_eq_some_iff.1 hl).1
      have hy := run_yield (P := P) (args := #[.int .i64 x.1, .int .i64 x.2]) hl (by rw [hrec]; exact hps.symm)
      rw [hrec] at hy
      refine ⟨fn, _, assign, body, hy, roundIn_any (roundIn_of_wpIn (n := n) hfn (wpIn_mono (hab _ pre x W hi' hval (by omega)) ?_))⟩
      rintro e a1 Wx hp
      cases e with
      | ret => exact hp.elim
      | exit id => exact hp.elim
      | goto t => exact hp.elim
      | panic ch => exact hp.elim
      | outgrown => exact hp.elim
      | normal =>
      obtain ⟨hWx, hbody⟩ := hp
      subst hWx
      refine ⟨_, run_beginRound hl (by rw [hrec]), ?_⟩
      obtain ⟨Wb, hWb⟩ : ∃ Wb, W.putObj (w.heap.size + 1) (.loop { rec .ready none with state := .busy }) = Wb := ⟨_, rfl⟩
      have hszb : Wb.heap.size = W.heap.size := by rw [← hWb]; simp [World.putObj]
      have hl2 : Wb.heap[w.heap.size + 1]? = some (.loop { rec .ready none with state := .busy }) := by rw [← hWb]; exact World.putObj_heap_same hlt
      have hk2 : Wb.heap[w.heap.size]? = some (.deferred (some [])) := by rw [← hWb]; exact (World.putObj_heap_other (by omega)).trans hk
      have hkw : KeepW sz hi W Wb := by
        refine ⟨fun b h1 h2 => ?_, by omega⟩
        rw [← hWb]; exact World.putObj_heap_other (by omega)
      have hib : I pre Wb := by rw [← hWb]; exact hI _ _ _ hi' (OnlyB.putObj (Nat.le_succ _) _)
      rw [hWb]
      refine wpIn_mono (hbody Wb hib (by omega)) ?_
      have fin : ∀ (jump : Option Code) (W3 : World), AboveK sz Wb W3 →
          (Instr.endRound (w.heap.size + 1) jump).run P W3 = .ok (.bool jump.isNone) (W3.putObj (w.heap.size + 1) (.loop (rec (if jump.isNone then .ready else .done) jump))) ∧
          (W3.putObj (w.heap.size + 1) (.loop (rec (if jump.isNone then .ready else .done) jump))).heap[w.heap.size + 1]? = some (.loop (rec (if jump.isNone then .ready else .done) jump)) ∧
          (W3.putObj (w.heap.size + 1) (.loop (rec (if jump.isNone then .ready else .done) jump))).heap[w.heap.size]? = some (.deferred (some [])) ∧
          KeepW sz hi W (W3.putObj (w.heap.size + 1) (.loop (rec (if jump.isNone then .ready else .done) jump))) := fun jump W3 hk3 => by
        have hl3 := (hk3.block _ (by omega) (by omega)).trans hl2
        have := run_endRound (P := P) jump hl3
        rw [hrec] at this ⊢
        refine ⟨this, World.putObj_heap_same (Array.getElem?_eq_some_iff.1 hl3).1, (World.putObj_heap_other (by omega)).trans ((hk3.block _ (by omega) (by omega)).trans hk2), fun b h1 h2 => ?_, ?_⟩
        · exact (World.putObj_heap_other (by omega)).trans ((hk3.block b h1 (by omega)).trans (hkw.block b h1 h2))
        · have := hk3.size
          simp [World.putObj]; omega
      rintro e a3 W3 hp
      cases e with
      | normal =>
        obtain ⟨hk3, hi3⟩ := hp
        obtain ⟨hr, hl4, hk4, hkk⟩ := fin none W3 hk3
        exact ⟨_, _, hr, .inl ⟨rfl, ⟨hI _ _ _ hi3 (OnlyB.putObj (Nat.le_succ _) _), hl4, hk4⟩, hkk⟩⟩
      | ret =>
        obtain ⟨hk3, hi3⟩ := hp
        obtain ⟨hr, hl4, hk4, hkk⟩ := fin (some .ret) W3 hk3
        exact ⟨_, _, hr, .inr ⟨rfl, hIx _ _ _ hi3 (OnlyB.putObj (Nat.le_succ _) _), hl4, hk4⟩⟩
      | exit id => exact hp.elim
      | goto t => exact hp.elim
      | panic ch => exact hp.elim
      | outgrown => exact hp.elim
    · rintro e W2 ⟨⟨v, rfl⟩, (⟨hi', hl, hk⟩ | ⟨q, hq, hi', hl, hk⟩)⟩
      · exact ⟨none, _, by have := run_endLoop (P := P) hl (by rw [hrec]; simp); rw [hrec] at this; exact this, hdone _ _ (hI _ _ _ hi' (OnlyB.putObj (Nat.le_succ _) _)) (Nat.le_refl _) ((World.putObj_heap_other (by omega)).trans hk)⟩
      · exact ⟨some .ret, _, by have := run_endLoop (P := P) hl (by rw [hrec]; simp); rw [hrec] at this; exact this, hstop _ q _ hq (hIx _ _ _ hi' (OnlyB.putObj (Nat.le_succ _) _)) (Nat.le_refl _) ((World.putObj_heap_other (by omega)).trans hk)⟩
end Go.Proofs.YtaaldapmkhamlaaGreat
