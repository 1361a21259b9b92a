/-
  The sanity check of the laws on enumerate returns true; literal matrices in memory.
-/
import Derived.Test.YtaaldapmkhamlaaGreatFix
import Derived.Test.YtaaldapmkhamlaaGreatR9
namespace Go.Proofs.YtaaldapmkhamlaaGreat
open Go.RowKit
theorem sorted_eq {m L T ls : List (List Int)} (hp : L.Perm (ls.map canonL)) (hw : L.Pairwise (fun x y => cmpK (nrm m x) (nrm m y) x y < 0)) (hT : T.Pairwise (fun x y => cmpK (nrm m x) (nrm m y) x y < 0)) (hpT : T.Perm (ls.map canonL)) (anti : ∀ a ∈ T, ∀ b ∈ T, cmpK (nrm m a) (nrm m b) a b < 0 → cmpK (nrm m b) (nrm m a) b a < 0 → a = b) : L = T := by
  have hq := hp.trans hpT.symm
  exact List.Perm.eq_of_pairwise (fun a b ha hb => anti a (hq.mem_iff.1 ha) b hb) hw hT hq
theorem mat22 (w : World) (a b c d : Int) : Mat64 (((w.alloc (.cells #[.int .i64 a, .int .i64 b] 2)).alloc (.cells #[.int .i64 c, .int .i64 d] 2)).alloc (.cells #[.slice (some ⟨w.heap.size, 0, none⟩) 2 2, .slice (some ⟨w.heap.size + 1, 0, none⟩) 2 2] 22)) (some ⟨w.heap.size + 1 + 1, 0, none⟩) [[a, b], [c, d]] := by
  have h1 : Ints (w.alloc (.cells #[.int .i64 a, .int .i64 b] 2)) (some ⟨w.heap.size, 0, none⟩) 2 .i64 [a, b] := Arr.new w 2 #[.int .i64 a, .int .i64 b]
  have h2 : Ints ((w.alloc (.cells #[.int .i64 a, .int .i64 b] 2)).alloc (.cells #[.int .i64 c, .int .i64 d] 2)) (some ⟨w.heap.size + 1, 0, none⟩) 2 .i64 [c, d] := by
    have := Arr.new (w.alloc (.cells #[.int .i64 a, .int .i64 b] 2)) 2 #[.int .i64 c, .int .i64 d]
    rwa [World.size_alloc] at this
  have h3 := Arr.new ((w.alloc (.cells #[.int .i64 a, .int .i64 b] 2)).alloc (.cells #[.int .i64 c, .int .i64 d] 2)) 22 #[.slice (some ⟨w.heap.size, 0, none⟩) 2 2, .slice (some ⟨w.heap.size + 1, 0, none⟩) 2 2]
  rw [World.size_alloc, World.size_alloc] at h3
  refine ⟨_, rfl, h3, fun i r hr => ?_⟩
  match i with
  | 0 => obtain rfl : [a, b] = r := by simpa using hr
         exact ⟨_, 2, rfl, h1.ext inferInstance, by simp, by omega⟩
  | 1 => obtain rfl : [c, d] = r := by simpa using hr
         exact ⟨_, 2, rfl, h2.ext inferInstance, by simp, by omega⟩
  | i + 2 => simp at hr
theorem mat32 (w : World) (a b c d e f : Int) : Mat64 ((((w.alloc (.cells #[.int .i64 a, .int .i64 b] 2)).alloc (.cells #[.int .i64 c, .int .i64 d] 2)).alloc (.cells #[.int .i64 e, .int .i64 f] 2)).alloc (.cells #[.slice (some ⟨w.heap.size, 0, none⟩) 2 2, .slice (some ⟨w.heap.size + 1, 0, none⟩) 2 2, .slice (some ⟨w.heap.size + 1 + 1, 0, none⟩) 2 2] 22)) (some ⟨w.heap.size + 1 + 1 + 1, 0, none⟩) [[a, b], [c, d], [e, f]] := by
  have h1 : Ints (w.alloc (.cells #[.int .i64 a, .int .i64 b] 2)) (some ⟨w.heap.size, 0, none⟩) 2 .i64 [a, b] := Arr.new w 2 #[.int .i64 a, .int .i64 b]
  have h2 : Ints ((w.alloc (.cells #[.int .i64 a, .int .i64 b] 2)).alloc (.cells #[.int .i64 c, .int .i64 d] 2)) (some ⟨w.heap.size + 1, 0, none⟩) 2 .i64 [c, d] := by
    have := Arr.new (w.alloc (.cells #[.int .i64 a, .int .i64 b] 2)) 2 #[.int .i64 c, .int .i64 d]
    rwa [World.size_alloc] at this
  have h3 : Ints (((w.alloc (.cells #[.int .i64 a, .int .i64 b] 2)).alloc (.cells #[.int .i64 c, .int .i64 d] 2)).alloc (.cells #[.int .i64 e, .int .i64 f] 2)) (some ⟨w.heap.size + 1 + 1, 0, none⟩) 2 .i64 [e, f] := by
    have := Arr.new ((w.alloc (.cells #[.int .i64 a, .int .i64 b] 2)).alloc (.cells #[.int .i64 c, .int .i64 d] 2)) 2 #[.int .i64 e, .int .i64 f]
    rwa [World.size_alloc, World.size_alloc] at this
  have h4 := Arr.new (((w.alloc (.cells #[.int .i64 a, .int .i64 b] 2)).alloc (.cells #[.int .i64 c, .int .i64 d] 2)).alloc (.cells #[.int .i64 e, .int .i64 f] 2)) 22 #[.slice (some ⟨w.heap.size, 0, none⟩) 2 2, .slice (some ⟨w.heap.size + 1, 0, none⟩) 2 2, .slice (some ⟨w.heap.size + 1 + 1, 0, none⟩) 2 2]
  rw [World.size_alloc, World.size_alloc, World.size_alloc] at h4
  refine ⟨_, rfl, h4, fun i r hr => ?_⟩
  match i with
  | 0 => obtain rfl : [a, b] = r := by simpa using hr
         exact ⟨_, 2, rfl, h1.ext inferInstance, by simp, by omega⟩
  | 1 => obtain rfl : [c, d] = r := by simpa using hr
         exact ⟨_, 2, rfl, h2.ext inferInstance, by simp, by omega⟩
  | 2 => obtain rfl : [e, f] = r := by simpa using hr
         exact ⟨_, 2, rfl, h3.ext inferInstance, by simp, by omega⟩
  | i + 3 => simp at hr
def vecs_m2 : List (List Int) := [[0, 1], [1, -1], [1, 0]]
theorem sorted_m2 {L : List (List Int)} (hp : L.Perm ((collL m2 2 false).map canonL)) (hw : L.Pairwise (fun x y => cmpK (nrm m2 x) (nrm m2 y) x y < 0)) : L = vecs_m2 := by
  refine sorted_eq hp hw (by decide) ?_ (by decide)
  rw [coll_m2]
  decide
set_option maxHeartbeats 1000000 in
theorem awake11_any {w : World} : Calls Tryz.prog 11 #[] w (RetVal w (.bool true)) := by
  have hv := fun W A (hM : Mat64 W A m2) => Vectors_ok (w0 := W) (w := W) (c := 2) (st := [3, 7]) hM (by decide) (by decide) enum_m2 steps_m2 (by decide) (by decide) (by decide) (by decide) (by decide)
  have HV : Hid (∀ W A, Mat64 W A m2 → Calls Tryz.prog 8 #[.slice A 2 2, .int .i64 2, .int .i64 100] W fun e w' => ∃ B c, e = .returned (.tuple #[.slice B 3 c, .int .i64 10, .int .i64 0]) ∧ Mat64 w' B vecs_m2 ∧ Step W w') := Lib.hid (fun W A hM => (hv W A hM).mono (fun e w' ⟨B, c, L, he, h1, _, _, hp, hw, hs⟩ => by
    obtain rfl := sorted_m2 hp hw
    exact ⟨B, c, he, h1, hs⟩))
  have HS : Hid (∀ W B c C d, Mat64 W B vecs_m2 → Mat64 W C vecs_m2 → Calls Tryz.prog 30 #[.slice B 3 c, .slice C 3 d] W (RetQ W (.bool true))) := Lib.hid (fun W B c C d h1 h2 => ref09_Same_any (w0 := W) (w := W) (c := c) (d := d) h1 h2 (by decide) (by decide) (by decide) (by decide))
  clear hv
  go_enter Tryz.func11, Tryz.ntmps11
  go_wp2_with (first
    | (go_at_call 8; refine (HV.out _ _ (mat22 w 2 1 1 2)).mono ?_; rintro e w1 ⟨B1, c1, rfl, hM1, hs1⟩)
    | (go_at_call 30; refine (HS.out _ _ _ _ _ (hM1.ext inferInstance) (mat32 w1 0 1 1 (-1) 1 0)).mono ?_; rintro e w2 ⟨rfl, n2, rfl⟩))
  go_ret
  exact ⟨rfl, Step.of _ _⟩
end Go.Proofs.YtaaldapmkhamlaaGreat
