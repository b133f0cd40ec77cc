/- The walks of package buffer, second part: what Put defers. -/
import Derived.Test.YtomgfdfgildkbaaDoorBufW1
import Derived.Test.YtomgfdfgildkbaaDoorArenaW12
import Derived.Defers
import Derived.StillTailTactics
namespace Go.Proofs.YtomgfdfgildkbaaDoor
open Go.RowKit Go.BigFrame

/-- A filler behind the object, if words are left. -/
def Ar.rest (A : Ar) (x y : Int) : Ar := if 0 < y then A.put x (wordT 3 y) else A

set_option maxRecDepth 100000 in
set_option maxHeartbeats 1000000 in
theorem putd_any (p14 p5 rb o a wb : Nat) (A : Ar) (x y : Int) (u : FrameMode) (w : World) (hA : ArAt w a wb A)
    (h14 : w.cell? ⟨p14, 0, none⟩ = some (.pointer (some ⟨rb, o, none⟩))) (h5 : w.cell? ⟨p5, 0, none⟩ = some (.pointer (some ⟨a, 0, none⟩)))
    (hx : w.cell? ⟨rb, o, none⟩ = some (.int .i64 x)) (hy : w.cell? ⟨rb, o + 1, none⟩ = some (.int .i64 y)) (hl : 0 < y → 1 ≤ x ∧ x < (A.words.length : Int)) :
    CallsD Tryd.prog 86 #[.pointer (some ⟨p14, 0, none⟩), .pointer (some ⟨p5, 0, none⟩)] u w fun e u' w' => u' = u ∧ (e = .returned (.tuple #[]) ∧ ArAt w' a wb (A.rest x y) ∧ Only [a, wb] w w') := by
  unfold Ar.rest
  by_cases c : 0 < y
  · rw [if_pos c]
    have G := Lib.hid (fun w => (filler_any y w).mono (R' := fun e w'' => e = .returned (.int .u64 (wordT 3 y)) ∧ w'' = w) fun _ _ ⟨h1, h2⟩ => ⟨h1, h2.symm⟩)
    have S := Lib.hid (fun W hW => setWord_yes a wb A x (wordT 3 y) W hW (hl c).1 (hl c).2)
    generalize wordT 3 y = z at *
    generalize A.put x z = A2 at *
    have HA := Lib.hid hA.drew
    clear hl hA
    go_enter_d Tryd.func86, Tryd.ntmps86
    go_upto_region 1 with fail
    refine wp_region_still_tail 10 (by kernel_rfl) (by kernel_rfl) ?_
    simp only [List.take_succ_cons, List.take_zero, List.drop_succ_cons, List.drop_zero]
    iterate 9 still_step
    still_call (G.out _)
    refine wpStill_nil ?_
    change wpList _ _ _ _ _ w.drew
    have h5' : w.drew.cell? ⟨p5, 0, none⟩ = some (.pointer (some ⟨a, 0, none⟩)) := h5
    generalize hw : w.drew = w2 at *
    have hO : Only [a, wb] w w2 := hw ▸ (Only.refl _ w).drew
    clear hw h14 h5 hx hy
    go_wp2_with fail
    refine (S.out _ HA.out).mono ?_
    rintro e w3 ⟨rfl, hA, h2⟩
    go_wp2_with fail
    go_end0
    exact ⟨rfl, hA, hO.trans h2⟩
  · rw [if_neg c]
    have d : decide (0 < y) = false := decide_eq_false c
    clear hl
    go_enter_d Tryd.func86, Tryd.ntmps86
    go_wp2_with fail
    go_end0
    exact ⟨rfl, hA, Only.refl _ _⟩
end Go.Proofs.YtomgfdfgildkbaaDoor
