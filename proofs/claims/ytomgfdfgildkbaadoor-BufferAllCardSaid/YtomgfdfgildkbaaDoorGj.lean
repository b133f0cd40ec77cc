/- Merged texts: BufP, BufW1, BufW2, BufW3, BufW4, BufW6, BufW5, BufW7, BufW8, BufW9, BufW10. -/
import Derived.Test.YtomgfdfgildkbaaDoorGc
import Derived.Test.YtomgfdfgildkbaaDoorGd
import Derived.Test.YtomgfdfgildkbaaDoorGb
import Derived.Deep.RegionHeld3
import Derived.Defers
import Derived.StillTailTactics
import Derived.Laws.CopyRow
import Derived.Deep.DeepCutAuto
import Derived.Deep.CutBlock
import Derived.Deep.LoopGhost
import Derived.BigRegion
/- Plain words for package buffer: buffers as numbers; how they lie in memory. No condition. -/

namespace Go.Proofs.YtomgfdfgildkbaaDoor
open Go.RowKit

def restsC (l : List (Int × Int)) : Array Value := (l.flatMap fun r => [Value.int .i64 r.1, Value.int .i64 r.2]).toArray
structure Bu where
  size : Int
  rests : List (Int × Int)
structure BuAt (w : World) (b rb : Nat) (B : Bu) : Prop where
  st : w.heap[b]? = some (.cells #[.int .i64 B.size, .slice (some ⟨rb, 0, none⟩) B.rests.length B.rests.length] 129 (0, 0))
  rs : w.heap[rb]? = some (.cells (restsC B.rests) 132 (0, 0))
  ne : b ≠ rb
structure Bu.Ok (B : Bu) : Prop where
  n1 : 1 ≤ B.rests.length
  n8 : B.rests.length ≤ 8
  s0 : 0 ≤ B.size
  s1 : B.size ≤ 65536
def Bu.new (n s : Int) : Bu := ⟨s, List.replicate n.toNat (0, 0)⟩
def Bu.rest (B : Bu) (t : Int) : Int × Int := if 0 ≤ t then B.rests.getD t.toNat (0, 0) else (0, 0)
def Bu.is (B : Bu) (t : Int) : Bool := decide (0 ≤ t ∧ t < (B.rests.length : Int))
theorem BuAt.below {w w' : World} {b rb : Nat} {B : Bu} (h : BuAt w b rb B) (hb : Below w.heap.size w w') : BuAt w' b rb B :=
  ⟨(hb.block _ (lt_of_heap h.st)).trans h.st, (hb.block _ (lt_of_heap h.rs)).trans h.rs, h.ne⟩
theorem restsC_get (l : List (Int × Int)) (k : Nat) (h : k < l.length) : (restsC l)[2 * k]? = some (.int .i64 (l.getD k (0, 0)).1) ∧ (restsC l)[2 * k + 1]? = some (.int .i64 (l.getD k (0, 0)).2) := by
  unfold restsC
  induction l generalizing k with
  | nil => simp at h
  | cons r l ih =>
    cases k with
    | zero => simp
    | succ k =>
      have := ih k (by simpa using h)
      simp only [List.flatMap_cons, List.getElem?_toArray] at this ⊢
      constructor
      · rw [show 2 * (k + 1) = 2 * k + 2 by omega]
        simpa using this.1
      · rw [show 2 * (k + 1) + 1 = (2 * k + 1) + 2 by omega]
        simpa using this.2
theorem restsC_zero (n : Nat) : restsC (List.replicate n (0, 0)) = (List.replicate (2 * n) (Value.int .i64 0)).toArray := by
  unfold restsC
  congr 1
  induction n with
  | zero => rfl
  | succ n ih =>
    rw [List.replicate_succ, List.flatMap_cons, ih, show 2 * (n + 1) = (2 * n) + 1 + 1 by omega, List.replicate_succ, List.replicate_succ]
    rfl
theorem BuAt.cells {w : World} {b rb : Nat} {B : Bu} (h : BuAt w b rb B) : (∀ o, w.cell? ⟨b, o, none⟩ = (#[.int .i64 B.size, .slice (some ⟨rb, 0, none⟩) B.rests.length B.rests.length] : Array Value)[o]?) ∧ (∀ o, w.frozen? ⟨b, o, none⟩ = false) := hcell h.st
theorem BuAt.rcell {w : World} {b rb : Nat} {B : Bu} (h : BuAt w b rb B) {t : Int} (ht : B.is t = true) : w.cell? ⟨rb, t.toNat * 2, none⟩ = some (.int .i64 (B.rest t).1) ∧ w.cell? ⟨rb, t.toNat * 2 + 1, none⟩ = some (.int .i64 (B.rest t).2) := by
  unfold Bu.is at ht
  have ht := of_decide_eq_true ht
  have hg := restsC_get B.rests t.toNat (by omega)
  have hc := (hcell h.rs).1
  unfold Bu.rest
  rw [if_pos ht.1]
  exact ⟨by rw [hc, Nat.mul_comm, hg.1], by rw [hc, Nat.mul_comm, hg.2]⟩
end Go.Proofs.YtomgfdfgildkbaaDoor
/- The walks of package buffer, first part: New, Rest, Room. -/



namespace Go.Proofs.YtomgfdfgildkbaaDoor
open Go.RowKit Go.BigFrame

theorem infoRest : (Tryd.prog.info? 132).map (fun i => (i.zero, i.size, i.bytes)) = some (some (.agg #[.int .i64 0, .int .i64 0]), 2, 16) := by kernel_rfl
theorem mk_rest (n : Int) (w : World) (h0 : 0 ≤ n) (h1 : n ≤ 1000) : (Instr.makeSlice 127 (.int .i64 n) (.int .i64 n)).run Tryd.prog w = .ok (.slice (some ⟨w.heap.size, 0, none⟩) n.toNat n.toNat) (w.alloc (.cells (restsC (List.replicate n.toNat (0, 0))) 132)) := by
  obtain ⟨i, hi, hz, hs, hb⟩ := info_parts infoRest
  have hr := run_make (P := Tryd.prog) w 127 132 i (.agg #[.int .i64 0, .int .i64 0]) Tryd.underlying127 hi hz .i64 .i64 n n h0 (Int.le_refl _) (by rw [hb]; omega) (by omega)
  have e : madeCells (Value.agg #[.int .i64 0, .int .i64 0]).cells (n.toNat * 2) = restsC (List.replicate n.toNat (0, 0)) := by
    rw [restsC_zero]
    apply Array.ext'
    apply List.ext_getElem?
    intro j
    by_cases hj : j < n.toNat * 2
    · rcases Nat.mod_two_eq_zero_or_one j with hm | hm <;> simp [madeCells, hj, hm, Value.cells, show j < 2 * n.toNat by omega]
    · simp [madeCells, hj, show ¬ j < 2 * n.toNat by omega]
  rw [hr, hs, e]

theorem is_buf (b rb : Nat) (B : Bu) (t : Int) (w : World) (h : BuAt w b rb B) : Calls Tryd.prog 84 #[.pointer (some ⟨b, 0, none⟩), .int .i64 t] w fun e w' => e = .returned (.bool (B.is t)) ∧ w = w' := by
  obtain ⟨hc, hf⟩ := h.cells
  unfold Bu.is
  generalize B.rests.length = n at *
  clear h
  by_cases c0 : 0 ≤ t
  · by_cases c1 : t < (n : Int)
    · rw [decide_eq_true ⟨c0, c1⟩]
      go_enter Tryd.func84, Tryd.ntmps84
      go_wp2
      go_ret
      exact ⟨rfl, rfl⟩
    · rw [decide_eq_false (fun x => c1 x.2)]
      have d1 : decide (t < (n : Int)) = false := decide_eq_false c1
      go_enter Tryd.func84, Tryd.ntmps84
      go_wp2
      go_ret
      exact ⟨rfl, rfl⟩
  · rw [decide_eq_false (fun x => c0 x.1)]
    have d1 : decide (0 ≤ t) = false := decide_eq_false c0
    go_enter Tryd.func84, Tryd.ntmps84
    go_wp2
    go_ret
    exact ⟨rfl, rfl⟩

theorem bufNew_yes (n s : Int) (w : World) (h1 : 1 ≤ n) (h2 : n ≤ 8) (h3 : 0 ≤ s) (h4 : s ≤ 65536) :
    Calls Tryd.prog 36 #[.int .i64 n, .int .i64 s] w fun e w' => ∃ b rb, e = .returned (.tuple #[.pointer (some ⟨b, 0, none⟩), .int .i64 0]) ∧ BuAt w' b rb (Bu.new n s) ∧ w.heap.size ≤ b ∧ w.heap.size ≤ rb ∧ Below w.heap.size w w' := by
  have hmk := fun w => mk_rest n w (by omega) (by omega)
  have d1 : decide (n < 1) = false := by simp; omega
  have d2 : decide (8 < n) = false := by simp; omega
  have d3 : decide (s < 0) = false := by simp; omega
  go_enter Tryd.func36, Tryd.ntmps36
  go_wp2
  go_ret2
  refine ⟨w.heap.size + 1, w.heap.size, rfl, ⟨?_, ?_, by omega⟩, by omega, Nat.le_refl _, ((Below.refl _ _).alloc (Nat.le_refl _) _).alloc (by simp) _⟩
  · rw [(heap_two _ _ _).2]; simp [Bu.new]
  · exact (heap_two _ _ _).1
theorem bufNew_no (n s : Int) (w : World) (h : ¬ (1 ≤ n ∧ n ≤ 8 ∧ 0 ≤ s ∧ s ≤ 65536)) :
    Calls Tryd.prog 36 #[.int .i64 n, .int .i64 s] w fun e w' => e = .returned (.tuple #[.pointer none, .int .i64 130]) ∧ w = w' := by
  by_cases c1 : n < 1
  · clear h
    go_enter Tryd.func36, Tryd.ntmps36
    go_wp2
    go_ret2
    exact ⟨rfl, rfl⟩
  have d1 : decide (n < 1) = false := by simp; omega
  by_cases c2 : 8 < n
  · clear h
    go_enter Tryd.func36, Tryd.ntmps36
    go_wp2
    go_ret2
    exact ⟨rfl, rfl⟩
  have d2 : decide (8 < n) = false := by simp; omega
  by_cases c3 : s < 0
  · clear h
    go_enter Tryd.func36, Tryd.ntmps36
    go_wp2
    go_ret2
    exact ⟨rfl, rfl⟩
  have d3 : decide (s < 0) = false := by simp; omega
  have c4 : 65536 < s := by omega
  clear h
  go_enter Tryd.func36, Tryd.ntmps36
  go_wp2
  go_ret2
  exact ⟨rfl, rfl⟩

def Bu.told (B : Bu) (t : Int) : Int × Int := if B.is t = true ∧ ¬ (B.rest t).2 = 0 then B.rest t else (0, 0)
theorem rest_any (b rb : Nat) (B : Bu) (t : Int) (w : World) (h : BuAt w b rb B) (ok : B.Ok) : Calls Tryd.prog 39 #[.pointer (some ⟨b, 0, none⟩), .int .i64 t] w fun e w' => e = .returned (.tuple #[.int .i64 (B.told t).1, .int .i64 (B.told t).2]) ∧ Below w.heap.size w w' := by
  have I := fun w hA => is_buf b rb B t w hA
  have II := Lib.hid (I w h)
  have n8 := ok.n8
  unfold Bu.told
  by_cases c : B.is t = true
  · have hr := h.rcell c
    obtain ⟨hc, hf⟩ := h.cells
    have ht : 0 ≤ t ∧ t < (B.rests.length : Int) := by unfold Bu.is at c; exact of_decide_eq_true c
    obtain ⟨t0, t1⟩ := ht
    have I' := Lib.hid (I w h)
    rw [c] at I'
    clear I II
    by_cases z : (B.rest t).2 = 0
    · rw [if_neg (fun x => x.2 z)]
      rw [z] at hr
      obtain ⟨r1, r2⟩ := hr
      generalize (B.rest t).1 = x at *
      generalize B.rests.length = n at *
      clear h c z ok
      go_enter Tryd.func39, Tryd.ntmps39
      go_wp2_with fail
      refine I'.out.mono ?_
      rintro e w1 ⟨rfl, rfl⟩
      go_wp2_with fail
      go_ret2
      exact ⟨rfl, Below.refl _ _⟩
    · rw [if_pos ⟨c, z⟩]
      have hz : ((B.rest t).2 == 0) = false := by simpa using z
      obtain ⟨r1, r2⟩ := hr
      generalize (B.rest t).1 = x at *
      generalize (B.rest t).2 = y at *
      generalize B.rests.length = n at *
      clear h c z ok
      go_enter Tryd.func39, Tryd.ntmps39
      go_wp2_with fail
      refine I'.out.mono ?_
      rintro e w1 ⟨rfl, rfl⟩
      go_wp2_with fail
      go_big_quiet (fail)
      go_wp2_with fail
      go_ret2
      exact ⟨rfl, below_drewN (Below.refl _ _) _⟩
  · rw [if_neg (fun x => c x.1)]
    have c' : B.is t = false := by simpa using c
    have I' := Lib.hid (I w h)
    rw [c'] at I'
    clear I II h c c' ok
    go_enter Tryd.func39, Tryd.ntmps39
    go_wp2_with fail
    refine I'.out.mono ?_
    rintro e w1 ⟨rfl, rfl⟩
    go_wp2_with fail
    go_ret2
    exact ⟨rfl, Below.refl _ _⟩

def Bu.room (B : Bu) (A : Ar) (t : Int) : Int := if B.is t = true then (if (B.rest t).2 < A.free 1 then A.free 1 else (B.rest t).2) else 0
set_option maxHeartbeats 1000000 in
theorem room_any (b rb : Nat) (B : Bu) (a wb : Nat) (A : Ar) (t : Int) (w : World) (h : BuAt w b rb B) (ok : B.Ok) (hA : ArAt w a wb A) (okA : A.Ok) :
    Calls Tryd.prog 120 #[.pointer (some ⟨b, 0, none⟩), .pointer (some ⟨a, 0, none⟩), .int .i64 t] w fun e w' => e = .returned (.int .i64 (B.room A t)) ∧ Below w.heap.size w w' := by
  have I := Lib.hid (is_buf b rb B t w h)
  have F := Lib.hid (fun W (hb : Below w.heap.size w W) => (free_any a wb A 1 W (hA.below hb) okA).mono (R' := fun e w' => e = .returned (.int .i64 (A.free 1)) ∧ Below w.heap.size w w') fun e w' ⟨h1, h2⟩ => ⟨h1, hb.trans (h2.mono hb.size)⟩)
  have n8 := ok.n8
  unfold Bu.room
  by_cases c : B.is t = true
  · have hr := h.rcell c
    have ht : 0 ≤ t ∧ t < (B.rests.length : Int) := by unfold Bu.is at c; exact of_decide_eq_true c
    obtain ⟨t0, t1⟩ := ht
    obtain ⟨hc, hf⟩ := h.cells
    have hlb := lt_of_heap h.st
    have hlr := lt_of_heap h.rs
    rw [c] at I
    rw [if_pos c]
    have h1 : w.cell? ⟨b, 1, none⟩ = some (.slice (some ⟨rb, 0, none⟩) B.rests.length B.rests.length) := by rw [hc]; rfl
    have r2 := hr.2
    generalize (B.rest t).2 = y at *
    generalize B.rests.length = n at *
    generalize A.free 1 = f at *
    clear h c ok hA okA hr hc
    by_cases q : y < f
    · rw [if_pos q]
      go_enter Tryd.func120, Tryd.ntmps120
      go_wp2_with fail
      refine I.out.mono ?_
      rintro e w1 ⟨rfl, rfl⟩
      have KEEP := Lib.hid (fun (W : World) (hb : Below w.heap.size w W) => (⟨(hb.cell (p := ⟨b, 1, none⟩) hlb).trans h1, (hb.cell (p := ⟨rb, t.toNat * 2 + 1, none⟩) hlr).trans r2, hb⟩ : W.cell? ⟨b, 1, none⟩ = some (.slice (some ⟨rb, 0, none⟩) n n) ∧ W.cell? ⟨rb, t.toNat * 2 + 1, none⟩ = some (.int .i64 y) ∧ Below w.heap.size w W))
      go_upto_region 3 with fail
      go_cut [6] (fun s wx => s = .int .i64 f ∧ Below w.heap.size w wx)
      case first =>
        go_region_held3 (fun w' => w'.cell? ⟨b, 1, none⟩ = some (.slice (some ⟨rb, 0, none⟩) n n) ∧ w'.cell? ⟨rb, t.toNat * 2 + 1, none⟩ = some (.int .i64 y) ∧ Below w.heap.size w w') (first | exact KEEP.out _ (Below.refl _ _).drew | exact KEEP.out _ (by assumption)) (first | (go_at_call 45; refine (F.out _ ?_).mono ?_; (exact (Below.refl _ _).drew); rintro e w' ⟨rfl, hb⟩))
        all_goals
          go_wp2_with fail
          go_meet
          exact ⟨rfl, by assumption⟩
      case rest =>
        obtain ⟨rfl, hb⟩ := hcut
        go_wp2_with fail
        go_ret
        exact ⟨rfl, hb⟩
    · rw [if_neg q]
      have q2 : f ≤ y := by omega
      go_enter Tryd.func120, Tryd.ntmps120
      go_wp2_with fail
      refine I.out.mono ?_
      rintro e w1 ⟨rfl, rfl⟩
      have KEEP := Lib.hid (fun (W : World) (hb : Below w.heap.size w W) => (⟨(hb.cell (p := ⟨b, 1, none⟩) hlb).trans h1, (hb.cell (p := ⟨rb, t.toNat * 2 + 1, none⟩) hlr).trans r2, hb⟩ : W.cell? ⟨b, 1, none⟩ = some (.slice (some ⟨rb, 0, none⟩) n n) ∧ W.cell? ⟨rb, t.toNat * 2 + 1, none⟩ = some (.int .i64 y) ∧ Below w.heap.size w W))
      go_upto_region 3 with fail
      go_cut [6] (fun s wx => s = .int .i64 y ∧ Below w.heap.size w wx)
      case first =>
        go_region_held3 (fun w' => w'.cell? ⟨b, 1, none⟩ = some (.slice (some ⟨rb, 0, none⟩) n n) ∧ w'.cell? ⟨rb, t.toNat * 2 + 1, none⟩ = some (.int .i64 y) ∧ Below w.heap.size w w') (first | exact KEEP.out _ (Below.refl _ _).drew | exact KEEP.out _ (by assumption)) (first | (go_at_call 45; refine (F.out _ ?_).mono ?_; (exact (Below.refl _ _).drew); rintro e w' ⟨rfl, hb⟩))
        all_goals
          go_wp2_with fail
          go_meet
          exact ⟨rfl, by assumption⟩
      case rest =>
        obtain ⟨rfl, hb⟩ := hcut
        go_wp2_with fail
        go_ret
        exact ⟨rfl, hb⟩
  · rw [if_neg c]
    have c' : B.is t = false := by simpa using c
    rw [c'] at I
    clear h c c' ok hA okA F
    go_enter Tryd.func120, Tryd.ntmps120
    go_wp2_with fail
    refine I.out.mono ?_
    rintro e w1 ⟨rfl, rfl⟩
    go_wp2_with fail
    go_ret
    exact ⟨rfl, Below.refl _ _⟩
end Go.Proofs.YtomgfdfgildkbaaDoor
/- The walks of package buffer, second part: what Put defers. -/




namespace Go.Proofs.YtomgfdfgildkbaaDoor
open Go.RowKit Go.BigFrame

/-- A filler behind the object, if words are left. -/
def Ar.rest (A : Ar) (x y : Int) : Ar := if 0 < y then A.put x (wordT 3 y) else A

set_option maxRecDepth 100000 in
set_option maxHeartbeats 1000000 in
theorem putd_any (p14 p5 rb o a wb : Nat) (A : Ar) (x y : Int) (u : FrameMode) (w : World) (hA : ArAt w a wb A)
    (h14 : w.cell? ⟨p14, 0, none⟩ = some (.pointer (some ⟨rb, o, none⟩))) (h5 : w.cell? ⟨p5, 0, none⟩ = some (.pointer (some ⟨a, 0, none⟩)))
    (hx : w.cell? ⟨rb, o, none⟩ = some (.int .i64 x)) (hy : w.cell? ⟨rb, o + 1, none⟩ = some (.int .i64 y)) (hl : 0 < y → 1 ≤ x ∧ x < (A.words.length : Int)) :
    CallsD Tryd.prog 86 #[.pointer (some ⟨p14, 0, none⟩), .pointer (some ⟨p5, 0, none⟩)] u w fun e u' w' => u' = u ∧ (e = .returned (.tuple #[]) ∧ ArAt w' a wb (A.rest x y) ∧ Only [a, wb] w w') := by
  unfold Ar.rest
  by_cases c : 0 < y
  · rw [if_pos c]
    have G := Lib.hid (fun w => (filler_any y w).mono (R' := fun e w'' => e = .returned (.int .u64 (wordT 3 y)) ∧ w'' = w) fun _ _ ⟨h1, h2⟩ => ⟨h1, h2.symm⟩)
    have S := Lib.hid (fun W hW => setWord_yes a wb A x (wordT 3 y) W hW (hl c).1 (hl c).2)
    generalize wordT 3 y = z at *
    generalize A.put x z = A2 at *
    have HA := Lib.hid hA.drew
    clear hl hA
    go_enter_d Tryd.func86, Tryd.ntmps86
    go_upto_region 1 with fail
    refine wp_region_still_tail 10 (by kernel_rfl) (by kernel_rfl) ?_
    simp only [List.take_succ_cons, List.take_zero, List.drop_succ_cons, List.drop_zero]
    iterate 9 still_step
    still_call (G.out _)
    refine wpStill_nil ?_
    change wpList _ _ _ _ _ w.drew
    have h5' : w.drew.cell? ⟨p5, 0, none⟩ = some (.pointer (some ⟨a, 0, none⟩)) := h5
    generalize hw : w.drew = w2 at *
    have hO : Only [a, wb] w w2 := hw ▸ (Only.refl _ w).drew
    clear hw h14 h5 hx hy
    go_wp2_with fail
    refine (S.out _ HA.out).mono ?_
    rintro e w3 ⟨rfl, hA, h2⟩
    go_wp2_with fail
    go_end0
    exact ⟨rfl, hA, hO.trans h2⟩
  · rw [if_neg c]
    have d : decide (0 < y) = false := decide_eq_false c
    clear hl
    go_enter_d Tryd.func86, Tryd.ntmps86
    go_wp2_with fail
    go_end0
    exact ⟨rfl, hA, Only.refl _ _⟩
end Go.Proofs.YtomgfdfgildkbaaDoor
/- Plain words for buffer.Put: words laid over words; a thread's rest turned. No condition. -/


namespace Go.Proofs.YtomgfdfgildkbaaDoor
open Go.RowKit

def blit (l : List Int) (o : Nat) (xs : List Int) : List Int := l.take o ++ xs ++ l.drop (o + xs.length)
theorem blit_length {l : List Int} {o : Nat} {xs : List Int} (h : o + xs.length ≤ l.length) : (blit l o xs).length = l.length := by
  unfold blit; simp; omega
theorem blit_nil (l : List Int) (o : Nat) : blit l o [] = l := by unfold blit; simp
theorem blit_get {l : List Int} {o : Nat} {xs : List Int} (h : o + xs.length ≤ l.length) (j : Nat) : (blit l o xs)[j]? = if j < o then l[j]? else if j < o + xs.length then xs[j - o]? else l[j]? := by
  unfold blit
  by_cases c : j < o
  · rw [if_pos c, List.append_assoc, List.getElem?_append_left (by simp; omega), List.getElem?_take_of_lt c]
  · rw [if_neg c]
    by_cases d : j < o + xs.length
    · rw [if_pos d, List.append_assoc, List.getElem?_append_right (by simp; omega), List.getElem?_append_left (by simp; omega)]
      congr 1; simp; omega
    · rw [if_neg d, List.getElem?_append_right (by simp; omega), List.getElem?_drop]
      congr 1; simp; omega
theorem blit_step {l : List Int} {o : Nat} {xs : List Int} (h : o + xs.length ≤ l.length) {k : Nat} (hk : k < xs.length) : (blit l o (xs.take k)).set (o + k) (xs.getD k 0) = blit l o (xs.take (k + 1)) := by
  have h1 : o + (xs.take k).length ≤ l.length := by simp; omega
  have h2 : o + (xs.take (k + 1)).length ≤ l.length := by simp; omega
  apply List.ext_getElem?
  intro j
  rw [List.getElem?_set, blit_length h1, blit_get h1, blit_get h2]
  have e1 : (xs.take k).length = k := by simp; omega
  have e2 : (xs.take (k + 1)).length = k + 1 := by simp; omega
  rw [e1, e2]
  by_cases c : o + k = j
  · subst c
    rw [if_pos rfl, if_pos (by omega), if_neg (by omega), if_pos (by omega)]
    rw [show o + k - o = k by omega, List.getElem?_take_of_lt (by omega), List.getD_eq_getElem?_getD, List.getElem?_eq_getElem hk]
    rfl
  · rw [if_neg c]
    by_cases d : j < o
    · rw [if_pos d, if_pos d]
    · rw [if_neg d, if_neg d]
      by_cases q : j < o + k
      · rw [if_pos q, if_pos (by omega), List.getElem?_take_of_lt (by omega), List.getElem?_take_of_lt (by omega)]
      · rw [if_neg q, if_neg (by omega)]
def objW (m s : Int) (n : Nat) : List Int := m :: s :: List.replicate (n - 2) 0
def Ar.blit (A : Ar) (i : Int) (xs : List Int) : Ar := { A with words := Go.Proofs.YtomgfdfgildkbaaDoor.blit A.words i.toNat xs }
def Bu.setRest (B : Bu) (t : Int) (r : Int × Int) : Bu := { B with rests := B.rests.set t.toNat r }
theorem restsC_cons (r : Int × Int) (l : List (Int × Int)) : (restsC (r :: l)).toList = .int .i64 r.1 :: .int .i64 r.2 :: (restsC l).toList := by simp [restsC]
theorem restsC_set (l : List (Int × Int)) (k : Nat) (x y : Int) : ((restsC l).setIfInBounds (k * 2) (.int .i64 x)).setIfInBounds (k * 2 + 1) (.int .i64 y) = restsC (l.set k (x, y)) := by
  apply Array.ext'
  simp only [Array.toList_setIfInBounds]
  induction l generalizing k with
  | nil => simp [restsC]
  | cons r l ih =>
    cases k with
    | zero => simp [restsC_cons]
    | succ k =>
      rw [restsC_cons, List.set_cons_succ, restsC_cons, ← ih k, show (k + 1) * 2 = k * 2 + 1 + 1 by omega]
      simp
theorem BuAt.set {w : World} {b rb : Nat} {B : Bu} (h : BuAt w b rb B) (t x y : Int) : BuAt ((w.setCell ⟨rb, t.toNat * 2, none⟩ (.int .i64 x)).setCell ⟨rb, t.toNat * 2 + 1, none⟩ (.int .i64 y)) b rb (B.setRest t (x, y)) := by
  refine ⟨?_, ?_, h.ne⟩
  · rw [block_set_ne h.ne, block_set_ne h.ne, h.st]; simp [Bu.setRest]
  · rw [block_set (block_set h.rs _ _) _ _, restsC_set]; rfl
theorem restsC_set' (l : List (Int × Int)) (k : Nat) (x y : Int) : ((restsC l).setIfInBounds (k * 2 + 1) (.int .i64 y)).setIfInBounds (k * 2) (.int .i64 x) = restsC (l.set k (x, y)) := by
  rw [← restsC_set]
  apply Array.ext'
  simp only [Array.toList_setIfInBounds]
  exact List.set_comm _ _ (by omega)
theorem BuAt.set' {w : World} {b rb : Nat} {B : Bu} (h : BuAt w b rb B) (t x y : Int) : BuAt ((w.setCell ⟨rb, t.toNat * 2 + 1, none⟩ (.int .i64 y)).setCell ⟨rb, t.toNat * 2, none⟩ (.int .i64 x)) b rb (B.setRest t (x, y)) := by
  refine ⟨?_, ?_, h.ne⟩
  · rw [block_set_ne h.ne, block_set_ne h.ne, h.st]; simp [Bu.setRest]
  · rw [block_set (block_set h.rs _ _) _ _, restsC_set']; rfl
/-- The four blocks of a pair of buffers and an arena are four. -/
structure Apart (b rb a wb : Nat) : Prop where
  ba : b ≠ a
  bw : b ≠ wb
  ra : rb ≠ a
  rw : rb ≠ wb
theorem BuAt.only {w w' : World} {b rb : Nat} {B : Bu} {S : List Nat} (h : BuAt w b rb B) (hO : Only S w w') (h1 : b ∉ S) (h2 : rb ∉ S) : BuAt w' b rb B :=
  ⟨(hO.block _ (lt_of_heap h.st) h1).trans h.st, (hO.block _ (lt_of_heap h.rs) h2).trans h.rs, h.ne⟩
theorem ArAt.only {w w' : World} {b wb : Nat} {A : Ar} {S : List Nat} (h : ArAt w b wb A) (hO : Only S w w') (h1 : b ∉ S) (h2 : wb ∉ S) : ArAt w' b wb A :=
  ⟨(hO.block _ (lt_of_heap h.st) h1).trans h.st, (hO.block _ (lt_of_heap h.ws) h2).trans h.ws, h.ne⟩
theorem sizeU64 : (Tryd.prog.info? 22).map (·.size) = some 1 := by kernel_rfl
theorem copy2 (W : World) (po ps n : Nat) (m s : Int) (ty : TypeId) (Ho : W.heap[po]? = some (.cells (u64s (List.replicate n 0)) 22 (0, 0))) (Hs : W.heap[ps]? = some (.cells #[.int .u64 m, .int .u64 s] 22 (0, 0))) (n2 : 2 ≤ n) :
    (Builtin.copy_ #[98, 98] ty #[.slice (some ⟨po, 0, none⟩) n n, .slice (some ⟨ps, 0, none⟩) 2 2]).run Tryd.prog W = .ok (goInt 2) (W.setRow po (u64s (objW m s n))) := by
  have h := run_copy_row (P := Tryd.prog) W 98 98 ty 22 po 0 n n ⟨ps, 0, none⟩ 2 2 (u64s (List.replicate n 0)) 22 [.int .u64 m, .int .u64 s] Tryd.underlying98 sizeU64 Ho
    (by simp [Nat.min_def]; omega) (fun j v hj => by
      have := (hcell Hs).1 j
      rw [show (Addr.add ⟨ps, 0, none⟩ j) = ⟨ps, j, none⟩ by simp [Addr.add]; exact fun q => q.symm]
      rw [this]; rw [← hj]; simp) (by simp [u64s]; omega) (by simp [Value.oneCell'])
  have e : ((u64s (List.replicate n 0)).toList.take 0 ++ [Value.int .u64 m, .int .u64 s] ++ (u64s (List.replicate n 0)).toList.drop (0 + 2)).toArray = u64s (objW m s n) := by
    simp [u64s, objW, List.drop_replicate]
  rw [h]
  exact congrArg (fun q => Result.ok (goInt 2) (W.setRow po q)) e
end Go.Proofs.YtomgfdfgildkbaaDoor
/- The walks of package buffer: Put where the object goes into a buffer. -/






namespace Go.Proofs.YtomgfdfgildkbaaDoor
open Go.RowKit Go.BigFrame

theorem allocF (w : World) (X : Obj) : (w.alloc X).heap[w.heap.size]? = some X ∧ (∀ b, b < w.heap.size → (w.alloc X).heap[b]? = w.heap[b]?) ∧ (w.alloc X).heap.size = w.heap.size + 1 := by
  refine ⟨?_, fun b hb => ?_, ?_⟩
  · show (w.heap.push X)[w.heap.size]? = _; simp
  · exact ((Below.refl _ w).alloc (Nat.le_refl _) X).block b hb
  · simp
theorem Bu.setRest_setRest (B : Bu) (t : Int) (r s : Int × Int) : (B.setRest t r).setRest t s = B.setRest t s := by simp [Bu.setRest]
theorem Bu.rest_setRest {B : Bu} {t : Int} (h : B.is t = true) (r : Int × Int) : (B.setRest t r).rest t = r := by
  unfold Bu.is at h
  have h := of_decide_eq_true h
  unfold Bu.setRest Bu.rest
  rw [if_pos h.1, List.getD_eq_getElem?_getD, List.getElem?_set_self (by omega)]
  rfl
theorem Bu.is_setRest (B : Bu) (t u : Int) (r : Int × Int) : (B.setRest t r).is u = B.is u := by unfold Bu.setRest Bu.is; simp
theorem Ar.blit_nil (A : Ar) (x : Int) : A.blit x [] = A := by unfold Ar.blit; rw [Go.Proofs.YtomgfdfgildkbaaDoor.blit_nil]
theorem Ar.blit_len {A : Ar} {x : Int} {xs : List Int} (h0 : 0 ≤ x) (h : x + xs.length ≤ (A.words.length : Int)) : (A.blit x xs).words.length = A.words.length := by
  unfold Ar.blit; exact blit_length (by omega)
theorem Ar.blit_put {A : Ar} {x : Int} {xs : List Int} (h0 : 0 ≤ x) (h : x + xs.length ≤ (A.words.length : Int)) {k : Nat} (hk : k < xs.length) : (A.blit x (xs.take k)).put (x + k) (xs.getD k 0) = A.blit x (xs.take (k + 1)) := by
  unfold Ar.blit Ar.put
  simp only
  rw [show (x + k).toNat = x.toNat + k by omega, blit_step (by omega) hk]
set_option maxRecDepth 100000 in
set_option maxHeartbeats 2000000 in
theorem put_lay (b rb : Nat) (B : Bu) (a wb : Nat) (A : Ar) (t : Int) (g : Hd) (w : World) (tb : Tab w) (hB : BuAt w b rb B) (hA : ArAt w a wb A) (okA : A.Ok) (ap : Apart b rb a wb) (ht : B.is t = true) (f : Fine g)
    (n x y : Int) (A1 : Ar) (hn : n = 2 + g.ptrs + g.raws) (x1 : 1 ≤ x) (x2 : x + y ≤ (A1.words.length : Int)) (x3 : (A1.words.length : Int) ≤ 1000000) (ny : n ≤ y)
    (hcas : (n ≤ (B.rest t).2 ∧ (x, y) = B.rest t ∧ A1 = A) ∨ ((B.rest t).2 < n ∧ n ≤ A.free 1 ∧ n ≤ B.size ∧ y = (if B.size < A.free 1 then B.size else A.free 1) ∧ x = A.top 1 ∧ A1 = A.take 1 y)) :
    Calls Tryd.prog 37 #[.pointer (some ⟨b, 0, none⟩), .pointer (some ⟨a, 0, none⟩), .int .i64 t, g.val] w fun e w' => e = .returned (.tuple #[.int .i64 x, .bool true]) ∧ BuAt w' b rb (B.setRest t (x + n, y - n)) ∧ ArAt w' a wb ((A1.blit x (objW (enc g) g.ser n.toNat)).rest (x + n) (y - n)) ∧ Only [rb, a, wb] w w' := by
  have P := Lib.hid (fun W (hb : Below w.heap.size w W) => pack_yes g W (tb.below hb) f)
  have eb := enc_bd f
  have Z := fun W (hb : Below w.heap.size w W) => size_any (enc g) W (tb.below hb) eb.1 (by omega)
  rw [sizeW_enc f, ← hn] at Z
  replace Z := Lib.hid Z
  have I := fun W (hb : Below w.heap.size w W) => is_buf b rb B t W (hB.below hb)
  rw [ht] at I
  replace I := Lib.hid I
  have F := Lib.hid (fun W (hb : Below w.heap.size w W) => free_any a wb A 1 W (hA.below hb) okA)
  have hmf : ∀ (fn : Fn) (first cap : Array Value) (w : World), (Instr.makeFunc fn first cap).run Tryd.prog w = .ok (.func fn first cap) w := fun _ _ _ _ => rfl
  obtain ⟨gser, gkind, gptrs, graws, gage, gsite, gheld⟩ := g
  unfold Hd.val at *
  simp only at *
  have n2 : 2 ≤ n := by have := f.p0; have := f.r0; simp only at *; omega
  clear hn
  generalize enc _ = m at *
  have hfr0 : A.free 1 = A.free 1 := rfl
  generalize hfr : A.free 1 = fr at *
  have HFR := Lib.hid hfr
  clear hfr hfr0
  go_enter_defers Tryd.func37, Tryd.ntmps37
  go_wp2_with fail
  refine (P.out _ (((Below.refl _ _).alloc (Nat.le_refl _) _).alloc (by simp) _)).mono ?_
  rintro e w1 ⟨rfl, hb⟩
  obtain ⟨H5, H7, hb1, hlt⟩ := kept_new2 hb
  clear hb
  go_wp2_with fail
  refine (I.out _ hb1).mono ?_
  rintro e w2 ⟨rfl, rfl⟩
  obtain ⟨c5, f5⟩ := hcell H5
  go_upto_region 4 with fail
  have KEEP := Lib.hid (fun (W : World) (hb : Below w1.heap.size w1 W) => (⟨(hcell ((hb.block _ (lt_of_heap H5)).trans H5)).1, hb⟩ : (∀ o, W.cell? ⟨w.heap.size, o, none⟩ = (#[.pointer (some ⟨a, 0, none⟩)] : Array Value)[o]?) ∧ Below w1.heap.size w1 W))
  have ZZ := Lib.hid (fun W (hb : Below w1.heap.size w1 W) => (Z.out W (hb1.trans (hb.mono hb1.size))).mono (R' := fun e w' => e = .returned (.int .i64 n) ∧ Below w1.heap.size w1 w') fun e w' ⟨h1, h2⟩ => ⟨h1, hb.trans (h2.mono hb.size)⟩)
  have FF := Lib.hid (fun W (hb : Below w1.heap.size w1 W) => (F.out W (hb1.trans (hb.mono hb1.size))).mono (R' := fun e w' => e = .returned (.int .i64 fr) ∧ Below w1.heap.size w1 w') fun e w' ⟨h1, h2⟩ => ⟨h1, hb.trans (h2.mono hb.size)⟩)
  go_cut [12, 13] from 35 to 38 (fun s s2 wx => s = .int .i64 n ∧ s2 = .int .i64 fr ∧ Below w1.heap.size w1 wx)
  case first =>
    clear f hB hA okA ap ht eb hcas x1 x2 x3 ny hb1 H5 H7 I F Z P
    go_region_held3 (fun W => (∀ o, W.cell? ⟨w.heap.size, o, none⟩ = (#[.pointer (some ⟨a, 0, none⟩)] : Array Value)[o]?) ∧ Below w1.heap.size w1 W) (first | exact KEEP.out _ (Below.refl _ _).drew | exact KEEP.out _ (Below.refl _ _) | exact KEEP.out _ (by assumption)) (first | (go_at_call 18; refine (ZZ.out _ ?_).mono ?_; (first | assumption | exact (Below.refl _ _).drew | exact (Below.refl _ _)); rintro e w' ⟨rfl, hb⟩) | (go_at_call 45; refine (FF.out _ ?_).mono ?_; (first | assumption | exact (Below.refl _ _).drew | exact (Below.refl _ _)); rintro e w' ⟨rfl, hb⟩))
    all_goals
      go_wp2_with fail
      go_meet
      exact ⟨rfl, rfl, by assumption⟩
  obtain ⟨rfl, rfl, hb2⟩ := hcut
  clear ZZ FF KEEP
  generalize wc = w2 at *
  replace H5 := (hb2.block _ (lt_of_heap H5)).trans H5
  replace H7 := (hb2.block _ (lt_of_heap H7)).trans H7
  replace hb2 := hb1.trans (hb2.mono hb1.size)
  clear hb1 hlt c5 f5 P I Z F
  have hla := lt_of_heap hA.st
  have hlw := lt_of_heap hA.ws
  have hlb := lt_of_heap hB.st
  have hlr := lt_of_heap hB.rs
  replace hA := hA.below hb2
  replace hB := hB.below hb2
  have hO : Only [rb, a, wb] w w2 := Only.of_below hb2
  have l5 : w.heap.size + 1 < w2.heap.size := lt_of_heap H7
  have hr := hB.rcell ht
  obtain ⟨hc, hf⟩ := hB.cells
  have ht2 : 0 ≤ t ∧ t < (B.rests.length : Int) := by unfold Bu.is at ht; exact of_decide_eq_true ht
  go_upto_region 11 with fail
  obtain ⟨H14, ho, hs⟩ := allocF w2 (.cells #[.pointer (some ⟨rb, t.toNat * 2, none⟩)] 130)
  replace H5 := (ho _ (lt_of_heap H5)).trans H5
  replace H7 := (ho _ (lt_of_heap H7)).trans H7
  have hbb := ((Below.refl w2.heap.size w2).alloc (Nat.le_refl _) (.cells #[.pointer (some ⟨rb, t.toNat * 2, none⟩)] 130))
  replace hA := hA.below hbb
  replace hB := hB.below hbb
  replace hO := hO.alloc (.cells #[.pointer (some ⟨rb, t.toNat * 2, none⟩)] 130)
  clear hbb hr hc hf
  generalize (w2.alloc (.cells #[.pointer (some ⟨rb, t.toNat * 2, none⟩)] 130)) = w3 at *
  generalize w2.heap.size = p14 at *
  have hr := hB.rcell ht
  obtain ⟨hc, hf⟩ := hB.cells
  obtain ⟨c14, f14⟩ := hcell H14
  have rf := (hcell hB.rs).2
  clear ho
  have HNY := Lib.hid ny
  rcases hcas with ⟨q1, q2, q3⟩ | ⟨q1, q2, q3, q4, q5, q6⟩
  focus
    have hrr : B.rest t = (x, y) := q2.symm
    rw [← q2] at hr q1
    have hr1 := hr.1
    have hr2 := hr.2
    clear q2 hr ny
    have hA5 : ArAt w3 a wb A1 := q3 ▸ hA
    have HRR := Lib.hid hrr
    clear q3 hA hrr
    go_upto_region 16 with fail
    have HS := Lib.hid (show B.setRest t (x + n, y - n) = B.setRest t (x + n, y - n) from rfl)
    have hrr := HRR.out
    have htt := ht
    have hB5 := hB
    clear hr1 hr2 c14 f14 hc hf rf q1 hB HRR hs
    have ny : n ≤ y := HNY.out
    obtain ⟨w5, hw5⟩ : ∃ w5, w5 = w3 := ⟨_, rfl⟩
    subst hw5
  rotate_left
  focus
    have hn1 : 1 ≤ y := by split at q4 <;> omega
    have hn2 : y ≤ A.free 1 := by rw [HFR.out]; split at q4 <;> omega
    have TK := Lib.hid (fun W (hA : ArAt W a wb A) => take_yes a wb A 1 y W hA okA rfl hn1 hn2)
    have d1 : decide (n ≤ (B.rest t).2) = false := by simpa using q1
    have d2 : decide (fr < n) = false := by simpa using q2
    have d3 : decide (B.size < n) = false := by simpa using q3
    rw [← q5, ← q6] at TK
    have hr2 := hr.2
    have hr1 := hr.1
    generalize (B.rest t).1 = r1 at *
    generalize (B.rest t).2 = r2 at *
    have hmin : min B.size fr = y := by rw [q4]; split <;> omega
    clear hr hn2 q5 q6 HFR
    have HQ4 := Lib.hid q4
    clear q4 hmin
    go_upto_region 6 with fail
    go_cut [15] from 45 to 50 (fun s wx => s = .int .i64 y ∧ w3 = wx)
    case first =>
      clear TK okA hA hB hO ap H5 H7 H14
      have q4 := HQ4.out
      by_cases cm : B.size < fr
      · rw [if_pos cm] at q4
        have E4 := Lib.hid q4
        clear q4
        go_wp2_with fail
        go_meet
        exact ⟨by rw [E4.out], rfl⟩
      · rw [if_neg cm] at q4
        have E4 := Lib.hid q4
        have cm2 : fr ≤ B.size := by omega
        clear q4 cm
        go_wp2_with fail
        all_goals
          go_meet
          exact ⟨congrArg (Value.int .i64) (by have := E4.out; omega), rfl⟩
    obtain ⟨rfl, rfl⟩ := hcut
    obtain ⟨c5, f5⟩ := hcell H5
    go_upto_region 7 with fail
    go_wp2_with fail
    refine (TK.out _ hA).mono ?_
    rintro e w4 ⟨rfl, hA4, hO4⟩
    have nm5 : w.heap.size ∉ [a, wb] := by simp; omega
    have nm7 : w.heap.size + 1 ∉ [a, wb] := by simp; omega
    have nm14 : p14 ∉ [a, wb] := by simp; omega
    replace H5 := (hO4.block _ (lt_of_heap H5) nm5).trans H5
    replace H7 := (hO4.block _ (lt_of_heap H7) nm7).trans H7
    replace H14 := (hO4.block _ (lt_of_heap H14) nm14).trans H14
    replace hB := hB.only hO4 (by simp [ap.ba, ap.bw]) (by simp [ap.ra, ap.rw])
    replace hO := hO.trans (hO4.mono (by simp))
    clear hO4 hA nm5 nm7 nm14 hr1 hr2 c5 f5 c14 f14 hc hf rf TK
    obtain ⟨hc, hf⟩ := hB.cells
    obtain ⟨c14, f14⟩ := hcell H14
    have rf := (hcell hB.rs).2
    have hr := hB.rcell ht
    have hr1 := hr.1
    have hr2 := hr.2
    generalize (B.rest t).1 = r1 at *
    generalize (B.rest t).2 = r2 at *
    clear hr
    go_upto_region 16 with fail
    have hB5 := hB.set t x y
    have hA5 : ArAt ((w4.setCell ⟨rb, t.toNat * 2, none⟩ (.int .i64 x)).setCell ⟨rb, t.toNat * 2 + 1, none⟩ (.int .i64 y)) a wb A1 := hA4.only (((Only.refl [rb] w4).setCell (by simp) _).setCell (by simp) _) (by simp [ap.ra.symm]) (by simp [ap.rw.symm])
    have hK : ∀ k, k ≠ rb → ((w4.setCell ⟨rb, t.toNat * 2, none⟩ (.int .i64 x)).setCell ⟨rb, t.toNat * 2 + 1, none⟩ (.int .i64 y)).heap[k]? = w4.heap[k]? := fun k hk => by rw [block_set_ne hk, block_set_ne hk]
    replace H5 := (hK _ (by omega)).trans H5
    replace H7 := (hK _ (by omega)).trans H7
    replace H14 := (hK _ (by omega)).trans H14
    replace hO := (hO.setCell (p := ⟨rb, t.toNat * 2, none⟩) (by simp) (.int .i64 x)).setCell (p := ⟨rb, t.toNat * 2 + 1, none⟩) (by simp) (.int .i64 y)
    have HS := Lib.hid (show (B.setRest t (x, y)).setRest t (x + n, y - n) = B.setRest t (x + n, y - n) from Bu.setRest_setRest _ _ _ _)
    have hrr := Bu.rest_setRest ht (x, y)
    have htt := (Bu.is_setRest B t t (x, y)).trans ht
    clear hc hf c14 f14 rf hr1 hr2 hA4 hK
    generalize ((w4.setCell ⟨rb, t.toNat * 2, none⟩ (.int .i64 x)).setCell ⟨rb, t.toNat * 2 + 1, none⟩ (.int .i64 y)) = w5 at *
    clear hB d1 d2 d3 q1 q2 q3 HQ4 hn1 hs
  all_goals
    have hlt14 := lt_of_heap H14
    have hr := hB5.rcell htt
    rw [hrr] at hr
    have hr1 := hr.1
    have hr2 := hr.2
    obtain ⟨c5, f5⟩ := hcell H5
    obtain ⟨c7, f7⟩ := hcell H7
    obtain ⟨c14, f14⟩ := hcell H14
    have rf := (hcell hB5.rs).2
    have hmk := fun w => mk_u64 n w (by omega) (by omega)
    clear hr
    go_upto_region 19 with fail
    obtain ⟨Ho, ho, hs6⟩ := allocF w5 (.cells (u64s (List.replicate n.toNat 0)) 22)
    replace H5 := (ho _ (lt_of_heap H5)).trans H5
    replace H7 := (ho _ (lt_of_heap H7)).trans H7
    replace H14 := (ho _ (lt_of_heap H14)).trans H14
    have hbb := (Below.refl w5.heap.size w5).alloc (Nat.le_refl _) (.cells (u64s (List.replicate n.toNat 0)) 22)
    replace hA5 := hA5.below hbb
    replace hB5 := hB5.below hbb
    replace hO := hO.alloc (.cells (u64s (List.replicate n.toNat 0)) 22)
    have l14 : p14 < w5.heap.size := hlt14
    clear hbb hr1 hr2 c5 f5 c7 f7 c14 f14 rf ho hmk
    generalize (w5.alloc (.cells (u64s (List.replicate n.toNat 0)) 22)) = w6 at *
    generalize w5.heap.size = po at *
    obtain ⟨c7, f7⟩ := hcell H7
    obtain ⟨Hs, ho, hs7⟩ := allocF w6 (.cells #[.int .u64 m, .int .u64 gser] 22)
    have Ho7 := (ho _ (lt_of_heap Ho)).trans Ho
    rw [hs6] at Hs hs7
    have hcp := fun ty => copy2 (w6.alloc (.cells #[.int .u64 m, .int .u64 gser] 22)) po (po + 1) n.toNat m gser ty Ho7 Hs (by omega)
    go_upto_region 20 with fail
    have Hobj : ((w6.alloc (.cells #[.int .u64 m, .int .u64 gser] 22)).setRow po (u64s (objW m gser n.toNat))).heap[po]? = some (.cells (u64s (objW m gser n.toNat)) 22 (0, 0)) := setRow_heap _ _ _ _ _ _ Ho7
    have hK : ∀ k, k < po → ((w6.alloc (.cells #[.int .u64 m, .int .u64 gser] 22)).setRow po (u64s (objW m gser n.toNat))).heap[k]? = w6.heap[k]? := fun k hk => (setRow_other _ _ _ _ (Nat.ne_of_lt hk)).trans (ho k (by omega))
    replace H5 := (hK _ (by omega)).trans H5
    replace H7 := (hK _ (by omega)).trans H7
    replace H14 := (hK _ (by omega)).trans H14
    have hA8 : ArAt ((w6.alloc (.cells #[.int .u64 m, .int .u64 gser] 22)).setRow po (u64s (objW m gser n.toNat))) a wb A1 := ⟨(hK _ (by omega)).trans hA5.st, (hK _ (by omega)).trans hA5.ws, hA5.ne⟩
    have hB8 : BuAt ((w6.alloc (.cells #[.int .u64 m, .int .u64 gser] 22)).setRow po (u64s (objW m gser n.toNat))) b rb _ := ⟨(hK _ (by omega)).trans hB5.st, (hK _ (by omega)).trans hB5.rs, hB5.ne⟩
    have hO8 : Only [rb, a, wb] w ((w6.alloc (.cells #[.int .u64 m, .int .u64 gser] 22)).setRow po (u64s (objW m gser n.toNat))) := ⟨hO.os, hO.tape, hO.output, by simp; omega, fun k hk hn => (hK k (by omega)).trans (hO.block k hk hn)⟩
    clear hcp Ho7 Ho Hs ho hA5 hB5 hO hK c7 f7
    generalize ((w6.alloc (.cells #[.int .u64 m, .int .u64 gser] 22)).setRow po (u64s (objW m gser n.toNat))) = w8 at *
    obtain ⟨c5, f5⟩ := hcell H5
    have hxl : (objW m gser n.toNat).length = n.toNat := by simp [objW]; omega
    have SW := Lib.hid (fun (A' : Ar) (W : World) (hA : ArAt W a wb A') (i v : Int) (h1 : 1 ≤ i) (h2 : i < (A'.words.length : Int)) => setWord_yes a wb A' i v W hA h1 h2)
    have HXL := Lib.hid hxl
    clear hxl
    have KP := Lib.hid (fun (wx : World) (h : Only [a, wb] w8 wx) => (⟨(hcell ((h.block _ (lt_of_heap H5) (by simp; omega)).trans H5)).1, (hcell ((h.block _ (lt_of_heap Hobj) (by simp; omega)).trans Hobj)).1⟩ : (∀ o, wx.cell? ⟨w.heap.size, o, none⟩ = (#[.pointer (some ⟨a, 0, none⟩)] : Array Value)[o]?) ∧ (∀ o, wx.cell? ⟨po, o, none⟩ = (u64s (objW m gser n.toNat))[o]?)))
    go_wp2_with fail
    go_loopw [102] (fun i wx => ∃ k : Nat, k ≤ n.toNat ∧ i = .int .i64 k ∧ ArAt wx a wb (A1.blit x ((objW m gser n.toNat).take k)) ∧ Only [a, wb] w8 wx) (fun i _ => n.toNat - (intOf i).toNat)
    case atStart => exact ⟨0, Nat.zero_le _, rfl, by rw [List.take_zero, Ar.blit_nil]; exact hA8, Only.refl _ _⟩
    case round =>
      obtain ⟨k, hk, rfl, hAk, hOk⟩ := hrel
      obtain ⟨c5, cpo⟩ := KP.out _ hOk
      by_cases hlt : k < n.toNat
      · have hx := HXL.out
        have ck : wr.cell? ⟨po, k, none⟩ = some (.int .u64 ((objW m gser n.toNat).getD k 0)) := by rw [cpo, u64s_get (by omega)]
        have hl1 : (A1.blit x ((objW m gser n.toNat).take k)).words.length = A1.words.length := Ar.blit_len (by omega) (by simp; omega)
        have hS := Lib.hid (SW.out _ _ hAk (x + k) ((objW m gser n.toNat).getD k 0) (by omega) (by omega))
        rw [Ar.blit_put (by omega) (by omega) (by omega)] at hS
        have d1 : (k : Int) < (n.toNat : Int) := by omega
        have d2 : (n.toNat : Int) ≤ 1000000 := by omega
        have d3 : x ≤ 1000000 := by omega
        generalize (objW m gser n.toNat).getD k 0 = v at *
        generalize (A1.blit x ((objW m gser n.toNat).take k)) = Ak at *
        generalize hAn : (A1.blit x ((objW m gser n.toNat).take (k + 1))) = An at *
        have HAn := Lib.hid hAn
        clear hAn hx cpo hl1 KP SW
        go_wp2_with fail
        refine hS.out.mono ?_
        rintro e w9 ⟨rfl, hAn, hOn⟩
        go_wp2_with fail
        exact ⟨⟨k + 1, by omega, by go_num, by rw [HAn.out]; exact hAn, hOk.trans hOn⟩, by simp [intOf]; omega⟩
      · have hx := HXL.out
        have hk2 : k = n.toNat := by omega
        have hAe : ArAt wr a wb (A1.blit x (objW m gser n.toNat)) := by
          rw [hk2, List.take_of_length_le (by omega)] at hAk; exact hAk
        have hbl : (A1.blit x (objW m gser n.toNat)).words.length = A1.words.length := Ar.blit_len (by omega) (by omega)
        have hB9 := hB8.only hOk (by simp [ap.ba, ap.bw]) (by simp [ap.ra, ap.rw])
        have H14' := (hOk.block _ (lt_of_heap H14) (by simp; omega)).trans H14
        have H5' := (hOk.block _ (lt_of_heap H5) (by simp; omega)).trans H5
        have hO9 := hO8.trans (hOk.mono (T := [rb, a, wb]) (by simp))
        have hn3 : (n.toNat : Int) ≤ (k : Int) := by omega
        clear hAk hk2 hk hx hlt KP SW cpo c5 hB8 H14 H5 hO8 hA8 f5 HXL Hobj H7
        have hr := hB9.rcell htt
        rw [hrr] at hr
        have hr1 := hr.1
        have hr2 := hr.2
        obtain ⟨c14, f14⟩ := hcell H14'
        have rf := (hcell hB9.rs).2
        have b1 : x ≤ 1000000 := by omega
        have b2 : y ≤ 1000000 := by omega
        have b3 : n ≤ 1000000 := by omega
        clear hr
        have h14 : wr.cell? ⟨p14, 0, none⟩ = some (.pointer (some ⟨rb, t.toNat * 2, none⟩)) := c14 0
        have rf1 := rf (t.toNat * 2)
        have rf2 := rf (t.toNat * 2 + 1)
        have n14 : p14 ≠ rb := by omega
        clear c14 f14 rf
        go_upto_region 25 with fail
        go_cut [] from 114 to 131 (fun wx => wx = (wr.drew.setCell ⟨rb, t.toNat * 2, none⟩ (.int .i64 (x + n))).setCell ⟨rb, t.toNat * 2 + 1, none⟩ (.int .i64 (y - n)) ∨ wx = (wr.drew.setCell ⟨rb, t.toNat * 2 + 1, none⟩ (.int .i64 (y - n))).setCell ⟨rb, t.toNat * 2, none⟩ (.int .i64 (x + n)))
        case first =>
          clear tb okA ap ht f eb hB9 H14' H5' hAe hO9 hOk HS hrr htt ht2 hb2 hla hlw hlb hlr hmf x2 x3 hs6 hs7 hn3 l5 l14 hlt14
          have W1 := Lib.hid (IntWalk.i64_in (x + n) (by omega))
          have W2 := Lib.hid (IntWalk.i64_in (y - n) (by omega))
          have SN := Lib.hid (fun (W : World) (o : Nat) (v : Value) (h : W.cell? ⟨p14, 0, none⟩ = some (.pointer (some ⟨rb, t.toNat * 2, none⟩))) => (show (W.setCell ⟨rb, o, none⟩ v).cell? ⟨p14, 0, none⟩ = some (.pointer (some ⟨rb, t.toNat * 2, none⟩)) from (World.cell?_setCell_other W ⟨rb, o, none⟩ ⟨p14, 0, none⟩ v (by first | (simp; done) | (simp; omega))).trans h))
          first
            | skip
              refine wp_region_noPanic ?_
              refine wp_region_held_drew (S := fun W => W.cell? ⟨p14, 0, none⟩ = some (.pointer (some ⟨rb, t.toNat * 2, none⟩))) (by kernel_rfl) h14 (fun hHeld => ?_)
              refine wpAnyH_take (i := 0) (oi := ?oi1) (v := ?vv1) ?hi1 (by kernel_rfl) (by kernel_rfl) (by kernel_rfl) ?hQ1 ?hy1 (by assumption) ?rest1
              case hi1 => (simp only [List.getElem?_toArray, List.getElem?_cons_zero]; rfl)
              case hQ1 => exact fun _ _ _ h => h
              case hy1 => exact Or.inl ⟨by rfl, by intro w hSw; (try dsimp only at hSw); go_simp; with_reducible rfl⟩
              simp only [Act.put, List.setIfInBounds_toArray, List.set_cons_zero, List.set_cons_succ]
              refine wpAnyH_take (i := 1) (oi := ?oi2) (v := ?vv2) ?hi2 (by kernel_rfl) (by kernel_rfl) (by kernel_rfl) ?hQ2 ?hy2 (by assumption) ?rest2
              case hi2 => (simp only [List.getElem?_toArray, List.getElem?_cons_succ, List.getElem?_cons_zero]; rfl)
              case hQ2 => exact fun _ _ _ h => h
              case hy2 => exact Or.inl ⟨by rfl, by intro w hSw; (try dsimp only at hSw); go_simp; with_reducible rfl⟩
              simp only [Act.put, List.setIfInBounds_toArray, List.set_cons_zero, List.set_cons_succ]
              refine wpAnyH_take (i := 2) (oi := ?oi3) (v := ?vv3) ?hi3 (by kernel_rfl) (by kernel_rfl) (by kernel_rfl) ?hQ3 ?hy3 (by assumption) ?rest3
              case hi3 => (simp only [List.getElem?_toArray, List.getElem?_cons_succ, List.getElem?_cons_zero]; rfl)
              case hQ3 => exact fun _ _ _ h => h
              case hy3 => exact Or.inl ⟨by rfl, by intro w hSw; (try dsimp only at hSw); go_simp; with_reducible rfl⟩
              simp only [Act.put, List.setIfInBounds_toArray, List.set_cons_zero, List.set_cons_succ]
              refine wpAnyH_take (i := 3) (oi := ?oi4) (v := ?vv4) ?hi4 (by kernel_rfl) (by kernel_rfl) (by kernel_rfl) ?hQ4 ?hy4 (by assumption) ?rest4
              case hi4 => (simp only [List.getElem?_toArray, List.getElem?_cons_succ, List.getElem?_cons_zero]; rfl)
              case hQ4 => exact fun _ _ _ h => h
              case hy4 => exact Or.inl ⟨by rfl, by intro w hSw; (try dsimp only at hSw); go_simp; with_reducible rfl⟩
              simp only [Act.put, List.setIfInBounds_toArray, List.set_cons_zero, List.set_cons_succ]
              refine wpAnyH_take (i := 4) (oi := ?oi5) (v := ?vv5) ?hi5 (by kernel_rfl) (by kernel_rfl) (by kernel_rfl) ?hQ5 ?hy5 (by assumption) ?rest5
              case hi5 => (simp only [List.getElem?_toArray, List.getElem?_cons_succ, List.getElem?_cons_zero]; rfl)
              case hQ5 => exact fun _ _ _ h => h
              case hy5 => exact Or.inl ⟨by rfl, by intro w hSw; (try dsimp only at hSw); go_simp; with_reducible rfl⟩
              simp only [Act.put, List.setIfInBounds_toArray, List.set_cons_zero, List.set_cons_succ]
              refine wpAnyH_take (i := 6) (oi := ?oi6) (v := ?vv6) ?hi6 (by kernel_rfl) (by kernel_rfl) (by kernel_rfl) ?hQ6 ?hy6 (by assumption) ?rest6
              case hi6 => (simp only [List.getElem?_toArray, List.getElem?_cons_succ, List.getElem?_cons_zero]; rfl)
              case hQ6 => exact fun _ _ _ h => h
              case hy6 => exact Or.inl ⟨by rfl, by intro w hSw; (try dsimp only at hSw); go_simp; with_reducible rfl⟩
              simp only [Act.put, List.setIfInBounds_toArray, List.set_cons_zero, List.set_cons_succ]
              refine wpAnyH_take (i := 8) (oi := ?oi7) (v := ?vv7) ?hi7 (by kernel_rfl) (by kernel_rfl) (by kernel_rfl) ?hQ7 ?hy7 (by assumption) ?rest7
              case hi7 => (simp only [List.getElem?_toArray, List.getElem?_cons_succ, List.getElem?_cons_zero]; rfl)
              case hQ7 => exact fun _ _ _ h => h
              case hy7 => exact Or.inl ⟨by rfl, by intro w hSw; (try dsimp only at hSw); go_simp; with_reducible rfl⟩
              simp only [Act.put, List.setIfInBounds_toArray, List.set_cons_zero, List.set_cons_succ]
              refine wpAnyH_take (i := 9) (oi := ?oi8) (v := ?vv8) ?hi8 (by kernel_rfl) (by kernel_rfl) (by kernel_rfl) ?hQ8 ?hy8 (by assumption) ?rest8
              case hi8 => (simp only [List.getElem?_toArray, List.getElem?_cons_succ, List.getElem?_cons_zero]; rfl)
              case hQ8 => exact fun _ _ _ h => h
              case hy8 => exact Or.inl ⟨by rfl, by intro w hSw; (try dsimp only at hSw); go_simp; with_reducible rfl⟩
              simp only [Act.put, List.setIfInBounds_toArray, List.set_cons_zero, List.set_cons_succ]
              refine wpAnyH_take (i := 10) (oi := ?oi9) (v := ?vv9) ?hi9 (by kernel_rfl) (by kernel_rfl) (by kernel_rfl) ?hQ9 ?hy9 (by assumption) ?rest9
              case hi9 => (simp only [List.getElem?_toArray, List.getElem?_cons_succ, List.getElem?_cons_zero]; rfl)
              case hQ9 => exact fun _ _ _ h => h
              case hy9 => exact Or.inl ⟨by rfl, by intro w hSw; (try dsimp only at hSw); go_simp; with_reducible rfl⟩
              simp only [Act.put, List.setIfInBounds_toArray, List.set_cons_zero, List.set_cons_succ]
              refine wpAnyH_take (i := 12) (oi := ?oi10) (v := ?vv10) ?hi10 (by kernel_rfl) (by kernel_rfl) (by kernel_rfl) ?hQ10 ?hy10 (by assumption) ?rest10
              case hi10 => (simp only [List.getElem?_toArray, List.getElem?_cons_succ, List.getElem?_cons_zero]; rfl)
              case hQ10 => exact fun _ _ _ h => h
              case hy10 => exact Or.inl ⟨by rfl, by intro w hSw; (try dsimp only at hSw); go_simp; with_reducible rfl⟩
              simp only [Act.put, List.setIfInBounds_toArray, List.set_cons_zero, List.set_cons_succ]
              refine wpAnyH_ready (rs := [5, 11]) (by kernel_rfl) (by simp) ?_
              refine AllReadyH.cons (o := ?oc12) ?hi12 ?step12 (AllReadyH.cons (o := ?oc11) ?hi11 ?step11 AllReadyH.nil)
              case hi12 => (simp only [List.getElem?_toArray, List.getElem?_cons_succ, List.getElem?_cons_zero]; rfl)
              case hi11 => (simp only [List.getElem?_toArray, List.getElem?_cons_succ, List.getElem?_cons_zero]; rfl)
              case step12 =>
                intro K hK
                go_simp
                refine hK.out _ _ (hHeld) (fun hHeld => ?_)
                clear hK K
                try simp only [Act.put, List.setIfInBounds_toArray, List.set_cons_zero, List.set_cons_succ]
                refine wpAnyH_take (i := 7) (oi := ?oi13) (v := ?vv13) ?hi13 (by kernel_rfl) (by kernel_rfl) (by kernel_rfl) ?hQ13 ?hy13 (by assumption) ?rest13
                case hi13 => (simp only [List.getElem?_toArray, List.getElem?_cons_succ, List.getElem?_cons_zero]; rfl)
                case hQ13 => exact fun _ _ _ h => h
                case hy13 => exact Or.inl ⟨by rfl, by intro w hSw; (try dsimp only at hSw); go_simp; with_reducible rfl⟩
                simp only [Act.put, List.setIfInBounds_toArray, List.set_cons_zero, List.set_cons_succ]
                refine wpAnyH_ready (rs := [11]) (by kernel_rfl) (by simp) ?_
                refine AllReadyH.cons (o := ?oc14) ?hi14 ?step14 AllReadyH.nil
                case hi14 => (simp only [List.getElem?_toArray, List.getElem?_cons_succ, List.getElem?_cons_zero]; rfl)
                case step14 =>
                  intro K hK
                  go_simp
                  refine hK.out _ _ (hHeld) (fun hHeld => ?_)
                  clear hK K
                  try simp only [Act.put, List.setIfInBounds_toArray, List.set_cons_zero, List.set_cons_succ]
                  refine wpAnyH_take (i := 13) (oi := ?oi15) (v := ?vv15) ?hi15 (by kernel_rfl) (by kernel_rfl) (by kernel_rfl) ?hQ15 ?hy15 (by assumption) ?rest15
                  case hi15 => (simp only [List.getElem?_toArray, List.getElem?_cons_succ, List.getElem?_cons_zero]; rfl)
                  case hQ15 => exact fun _ _ _ h => h
                  case hy15 => exact Or.inl ⟨by rfl, by intro w hSw; (try dsimp only at hSw); go_simp; with_reducible rfl⟩
                  simp only [Act.put, List.setIfInBounds_toArray, List.set_cons_zero, List.set_cons_succ]
                  refine wpAnyH_take (i := 14) (oi := ?oi16) (v := ?vv16) ?hi16 (by kernel_rfl) (by kernel_rfl) (by kernel_rfl) ?hQ16 ?hy16 (by assumption) ?rest16
                  case hi16 => (simp only [List.getElem?_toArray, List.getElem?_cons_succ, List.getElem?_cons_zero]; rfl)
                  case hQ16 => exact fun _ _ _ h => h
                  case hy16 => exact Or.inl ⟨by rfl, by intro w hSw; (try dsimp only at hSw); go_simp; with_reducible rfl⟩
                  simp only [Act.put, List.setIfInBounds_toArray, List.set_cons_zero, List.set_cons_succ]
                  refine wpAnyH_take (i := 15) (oi := ?oi17) (v := ?vv17) ?hi17 (by kernel_rfl) (by kernel_rfl) (by kernel_rfl) ?hQ17 ?hy17 (by assumption) ?rest17
                  case hi17 => (simp only [List.getElem?_toArray, List.getElem?_cons_succ, List.getElem?_cons_zero]; rfl)
                  case hQ17 => exact fun _ _ _ h => h
                  case hy17 => exact Or.inl ⟨by rfl, by intro w hSw; (try dsimp only at hSw); go_simp; with_reducible rfl⟩
                  simp only [Act.put, List.setIfInBounds_toArray, List.set_cons_zero, List.set_cons_succ]
                  refine wpAnyH_ready (rs := [16]) (by kernel_rfl) (by simp) ?_
                  refine AllReadyH.cons (o := ?oc18) ?hi18 ?step18 AllReadyH.nil
                  case hi18 => (simp only [List.getElem?_toArray, List.getElem?_cons_succ, List.getElem?_cons_zero]; rfl)
                  case step18 =>
                    intro K hK
                    go_simp
                    refine hK.out _ _ (SN.out _ _ _ hHeld) (fun hHeld => ?_)
                    clear hK K
                    try simp only [Act.put, List.setIfInBounds_toArray, List.set_cons_zero, List.set_cons_succ]
                    refine wpAnyH_take (i := 17) (oi := ?oi19) (v := ?vv19) ?hi19 (by kernel_rfl) (by kernel_rfl) (by kernel_rfl) ?hQ19 ?hy19 (by assumption) ?rest19
                    case hi19 => (simp only [List.getElem?_toArray, List.getElem?_cons_succ, List.getElem?_cons_zero]; rfl)
                    case hQ19 => exact fun _ _ _ h => h
                    case hy19 => exact Or.inl ⟨by rfl, by intro w hSw; (try dsimp only at hSw); go_simp; with_reducible rfl⟩
                    simp only [Act.put, List.setIfInBounds_toArray, List.set_cons_zero, List.set_cons_succ]
                    refine wpAnyH_take (i := 18) (oi := ?oi20) (v := ?vv20) ?hi20 (by kernel_rfl) (by kernel_rfl) (by kernel_rfl) ?hQ20 ?hy20 (by assumption) ?rest20
                    case hi20 => (simp only [List.getElem?_toArray, List.getElem?_cons_succ, List.getElem?_cons_zero]; rfl)
                    case hQ20 => exact fun _ _ _ h => h
                    case hy20 => exact Or.inl ⟨by rfl, by intro w hSw; (try dsimp only at hSw); go_simp; with_reducible rfl⟩
                    simp only [Act.put, List.setIfInBounds_toArray, List.set_cons_zero, List.set_cons_succ]
                    refine wpAnyH_ready (rs := [19]) (by kernel_rfl) (by simp) ?_
                    refine AllReadyH.cons (o := ?oc21) ?hi21 ?step21 AllReadyH.nil
                    case hi21 => (simp only [List.getElem?_toArray, List.getElem?_cons_succ, List.getElem?_cons_zero]; rfl)
                    case step21 =>
                      intro K hK
                      go_simp
                      refine hK.out _ _ (SN.out _ _ _ hHeld) (fun hHeld => ?_)
                      clear hK K
                      try simp only [Act.put, List.setIfInBounds_toArray, List.set_cons_zero, List.set_cons_succ]
                      refine wpAnyH_done (by kernel_rfl) (NoPanic.normal ?_) _
                      (go_wp2_with fail; go_meet; first | exact .inl rfl | exact .inr rfl | (rw [W1.out, W2.out]; first | exact .inl rfl | exact .inr rfl))
              case step11 =>
                intro K hK
                go_simp
                refine hK.out _ _ (hHeld) (fun hHeld => ?_)
                clear hK K
                try simp only [Act.put, List.setIfInBounds_toArray, List.set_cons_zero, List.set_cons_succ]
                refine wpAnyH_take (i := 13) (oi := ?oi22) (v := ?vv22) ?hi22 (by kernel_rfl) (by kernel_rfl) (by kernel_rfl) ?hQ22 ?hy22 (by assumption) ?rest22
                case hi22 => (simp only [List.getElem?_toArray, List.getElem?_cons_succ, List.getElem?_cons_zero]; rfl)
                case hQ22 => exact fun _ _ _ h => h
                case hy22 => exact Or.inl ⟨by rfl, by intro w hSw; (try dsimp only at hSw); go_simp; with_reducible rfl⟩
                simp only [Act.put, List.setIfInBounds_toArray, List.set_cons_zero, List.set_cons_succ]
                refine wpAnyH_ready (rs := [5]) (by kernel_rfl) (by simp) ?_
                refine AllReadyH.cons (o := ?oc23) ?hi23 ?step23 AllReadyH.nil
                case hi23 => (simp only [List.getElem?_toArray, List.getElem?_cons_succ, List.getElem?_cons_zero]; rfl)
                case step23 =>
                  intro K hK
                  go_simp
                  refine hK.out _ _ (hHeld) (fun hHeld => ?_)
                  clear hK K
                  try simp only [Act.put, List.setIfInBounds_toArray, List.set_cons_zero, List.set_cons_succ]
                  refine wpAnyH_take (i := 7) (oi := ?oi24) (v := ?vv24) ?hi24 (by kernel_rfl) (by kernel_rfl) (by kernel_rfl) ?hQ24 ?hy24 (by assumption) ?rest24
                  case hi24 => (simp only [List.getElem?_toArray, List.getElem?_cons_succ, List.getElem?_cons_zero]; rfl)
                  case hQ24 => exact fun _ _ _ h => h
                  case hy24 => exact Or.inl ⟨by rfl, by intro w hSw; (try dsimp only at hSw); go_simp; with_reducible rfl⟩
                  simp only [Act.put, List.setIfInBounds_toArray, List.set_cons_zero, List.set_cons_succ]
                  refine wpAnyH_take (i := 14) (oi := ?oi25) (v := ?vv25) ?hi25 (by kernel_rfl) (by kernel_rfl) (by kernel_rfl) ?hQ25 ?hy25 (by assumption) ?rest25
                  case hi25 => (simp only [List.getElem?_toArray, List.getElem?_cons_succ, List.getElem?_cons_zero]; rfl)
                  case hQ25 => exact fun _ _ _ h => h
                  case hy25 => exact Or.inl ⟨by rfl, by intro w hSw; (try dsimp only at hSw); go_simp; with_reducible rfl⟩
                  simp only [Act.put, List.setIfInBounds_toArray, List.set_cons_zero, List.set_cons_succ]
                  refine wpAnyH_take (i := 15) (oi := ?oi26) (v := ?vv26) ?hi26 (by kernel_rfl) (by kernel_rfl) (by kernel_rfl) ?hQ26 ?hy26 (by assumption) ?rest26
                  case hi26 => (simp only [List.getElem?_toArray, List.getElem?_cons_succ, List.getElem?_cons_zero]; rfl)
                  case hQ26 => exact fun _ _ _ h => h
                  case hy26 => exact Or.inl ⟨by rfl, by intro w hSw; (try dsimp only at hSw); go_simp; with_reducible rfl⟩
                  simp only [Act.put, List.setIfInBounds_toArray, List.set_cons_zero, List.set_cons_succ]
                  refine wpAnyH_ready (rs := [16]) (by kernel_rfl) (by simp) ?_
                  refine AllReadyH.cons (o := ?oc27) ?hi27 ?step27 AllReadyH.nil
                  case hi27 => (simp only [List.getElem?_toArray, List.getElem?_cons_succ, List.getElem?_cons_zero]; rfl)
                  case step27 =>
                    intro K hK
                    go_simp
                    refine hK.out _ _ (SN.out _ _ _ hHeld) (fun hHeld => ?_)
                    clear hK K
                    try simp only [Act.put, List.setIfInBounds_toArray, List.set_cons_zero, List.set_cons_succ]
                    refine wpAnyH_take (i := 17) (oi := ?oi28) (v := ?vv28) ?hi28 (by kernel_rfl) (by kernel_rfl) (by kernel_rfl) ?hQ28 ?hy28 (by assumption) ?rest28
                    case hi28 => (simp only [List.getElem?_toArray, List.getElem?_cons_succ, List.getElem?_cons_zero]; rfl)
                    case hQ28 => exact fun _ _ _ h => h
                    case hy28 => exact Or.inl ⟨by rfl, by intro w hSw; (try dsimp only at hSw); go_simp; with_reducible rfl⟩
                    simp only [Act.put, List.setIfInBounds_toArray, List.set_cons_zero, List.set_cons_succ]
                    refine wpAnyH_take (i := 18) (oi := ?oi29) (v := ?vv29) ?hi29 (by kernel_rfl) (by kernel_rfl) (by kernel_rfl) ?hQ29 ?hy29 (by assumption) ?rest29
                    case hi29 => (simp only [List.getElem?_toArray, List.getElem?_cons_succ, List.getElem?_cons_zero]; rfl)
                    case hQ29 => exact fun _ _ _ h => h
                    case hy29 => exact Or.inl ⟨by rfl, by intro w hSw; (try dsimp only at hSw); go_simp; with_reducible rfl⟩
                    simp only [Act.put, List.setIfInBounds_toArray, List.set_cons_zero, List.set_cons_succ]
                    refine wpAnyH_ready (rs := [19]) (by kernel_rfl) (by simp) ?_
                    refine AllReadyH.cons (o := ?oc30) ?hi30 ?step30 AllReadyH.nil
                    case hi30 => (simp only [List.getElem?_toArray, List.getElem?_cons_succ, List.getElem?_cons_zero]; rfl)
                    case step30 =>
                      intro K hK
                      go_simp
                      refine hK.out _ _ (SN.out _ _ _ hHeld) (fun hHeld => ?_)
                      clear hK K
                      try simp only [Act.put, List.setIfInBounds_toArray, List.set_cons_zero, List.set_cons_succ]
                      refine wpAnyH_done (by kernel_rfl) (NoPanic.normal ?_) _
                      (go_wp2_with fail; go_meet; first | exact .inl rfl | exact .inr rfl | (rw [W1.out, W2.out]; first | exact .inl rfl | exact .inr rfl))
            | skip
              refine wp_region_noPanic ?_
              refine wp_region_held_drew (S := fun W => W.cell? ⟨p14, 0, none⟩ = some (.pointer (some ⟨rb, t.toNat * 2, none⟩))) (by kernel_rfl) h14 (fun hHeld => ?_)
              refine wpAnyH_take (i := 0) (oi := ?oi31) (v := ?vv31) ?hi31 (by kernel_rfl) (by kernel_rfl) (by kernel_rfl) ?hQ31 ?hy31 (by assumption) ?rest31
              case hi31 => (simp only [List.getElem?_toArray, List.getElem?_cons_zero]; rfl)
              case hQ31 => exact fun _ _ _ h => h
              case hy31 => exact Or.inl ⟨by rfl, by intro w hSw; (try dsimp only at hSw); go_simp; with_reducible rfl⟩
              simp only [Act.put, List.setIfInBounds_toArray, List.set_cons_zero, List.set_cons_succ]
              refine wpAnyH_take (i := 1) (oi := ?oi32) (v := ?vv32) ?hi32 (by kernel_rfl) (by kernel_rfl) (by kernel_rfl) ?hQ32 ?hy32 (by assumption) ?rest32
              case hi32 => (simp only [List.getElem?_toArray, List.getElem?_cons_succ, List.getElem?_cons_zero]; rfl)
              case hQ32 => exact fun _ _ _ h => h
              case hy32 => exact Or.inl ⟨by rfl, by intro w hSw; (try dsimp only at hSw); go_simp; with_reducible rfl⟩
              simp only [Act.put, List.setIfInBounds_toArray, List.set_cons_zero, List.set_cons_succ]
              refine wpAnyH_take (i := 2) (oi := ?oi33) (v := ?vv33) ?hi33 (by kernel_rfl) (by kernel_rfl) (by kernel_rfl) ?hQ33 ?hy33 (by assumption) ?rest33
              case hi33 => (simp only [List.getElem?_toArray, List.getElem?_cons_succ, List.getElem?_cons_zero]; rfl)
              case hQ33 => exact fun _ _ _ h => h
              case hy33 => exact Or.inl ⟨by rfl, by intro w hSw; (try dsimp only at hSw); go_simp; with_reducible rfl⟩
              simp only [Act.put, List.setIfInBounds_toArray, List.set_cons_zero, List.set_cons_succ]
              refine wpAnyH_take (i := 3) (oi := ?oi34) (v := ?vv34) ?hi34 (by kernel_rfl) (by kernel_rfl) (by kernel_rfl) ?hQ34 ?hy34 (by assumption) ?rest34
              case hi34 => (simp only [List.getElem?_toArray, List.getElem?_cons_succ, List.getElem?_cons_zero]; rfl)
              case hQ34 => exact fun _ _ _ h => h
              case hy34 => exact Or.inl ⟨by rfl, by intro w hSw; (try dsimp only at hSw); go_simp; with_reducible rfl⟩
              simp only [Act.put, List.setIfInBounds_toArray, List.set_cons_zero, List.set_cons_succ]
              refine wpAnyH_take (i := 4) (oi := ?oi35) (v := ?vv35) ?hi35 (by kernel_rfl) (by kernel_rfl) (by kernel_rfl) ?hQ35 ?hy35 (by assumption) ?rest35
              case hi35 => (simp only [List.getElem?_toArray, List.getElem?_cons_succ, List.getElem?_cons_zero]; rfl)
              case hQ35 => exact fun _ _ _ h => h
              case hy35 => exact Or.inl ⟨by rfl, by intro w hSw; (try dsimp only at hSw); go_simp; with_reducible rfl⟩
              simp only [Act.put, List.setIfInBounds_toArray, List.set_cons_zero, List.set_cons_succ]
              refine wpAnyH_take (i := 6) (oi := ?oi36) (v := ?vv36) ?hi36 (by kernel_rfl) (by kernel_rfl) (by kernel_rfl) ?hQ36 ?hy36 (by assumption) ?rest36
              case hi36 => (simp only [List.getElem?_toArray, List.getElem?_cons_succ, List.getElem?_cons_zero]; rfl)
              case hQ36 => exact fun _ _ _ h => h
              case hy36 => exact Or.inl ⟨by rfl, by intro w hSw; (try dsimp only at hSw); go_simp; with_reducible rfl⟩
              simp only [Act.put, List.setIfInBounds_toArray, List.set_cons_zero, List.set_cons_succ]
              refine wpAnyH_take (i := 8) (oi := ?oi37) (v := ?vv37) ?hi37 (by kernel_rfl) (by kernel_rfl) (by kernel_rfl) ?hQ37 ?hy37 (by assumption) ?rest37
              case hi37 => (simp only [List.getElem?_toArray, List.getElem?_cons_succ, List.getElem?_cons_zero]; rfl)
              case hQ37 => exact fun _ _ _ h => h
              case hy37 => exact Or.inl ⟨by rfl, by intro w hSw; (try dsimp only at hSw); go_simp; with_reducible rfl⟩
              simp only [Act.put, List.setIfInBounds_toArray, List.set_cons_zero, List.set_cons_succ]
              refine wpAnyH_take (i := 9) (oi := ?oi38) (v := ?vv38) ?hi38 (by kernel_rfl) (by kernel_rfl) (by kernel_rfl) ?hQ38 ?hy38 (by assumption) ?rest38
              case hi38 => (simp only [List.getElem?_toArray, List.getElem?_cons_succ, List.getElem?_cons_zero]; rfl)
              case hQ38 => exact fun _ _ _ h => h
              case hy38 => exact Or.inl ⟨by rfl, by intro w hSw; (try dsimp only at hSw); go_simp; with_reducible rfl⟩
              simp only [Act.put, List.setIfInBounds_toArray, List.set_cons_zero, List.set_cons_succ]
              refine wpAnyH_take (i := 10) (oi := ?oi39) (v := ?vv39) ?hi39 (by kernel_rfl) (by kernel_rfl) (by kernel_rfl) ?hQ39 ?hy39 (by assumption) ?rest39
              case hi39 => (simp only [List.getElem?_toArray, List.getElem?_cons_succ, List.getElem?_cons_zero]; rfl)
              case hQ39 => exact fun _ _ _ h => h
              case hy39 => exact Or.inl ⟨by rfl, by intro w hSw; (try dsimp only at hSw); go_simp; with_reducible rfl⟩
              simp only [Act.put, List.setIfInBounds_toArray, List.set_cons_zero, List.set_cons_succ]
              refine wpAnyH_take (i := 12) (oi := ?oi40) (v := ?vv40) ?hi40 (by kernel_rfl) (by kernel_rfl) (by kernel_rfl) ?hQ40 ?hy40 (by assumption) ?rest40
              case hi40 => (simp only [List.getElem?_toArray, List.getElem?_cons_succ, List.getElem?_cons_zero]; rfl)
              case hQ40 => exact fun _ _ _ h => h
              case hy40 => exact Or.inl ⟨by rfl, by intro w hSw; (try dsimp only at hSw); go_simp; with_reducible rfl⟩
              simp only [Act.put, List.setIfInBounds_toArray, List.set_cons_zero, List.set_cons_succ]
              refine wpAnyH_ready (rs := [5, 11]) (by kernel_rfl) (by simp) ?_
              refine AllReadyH.cons (o := ?oc42) ?hi42 ?step42 (AllReadyH.cons (o := ?oc41) ?hi41 ?step41 AllReadyH.nil)
              case hi42 => (simp only [List.getElem?_toArray, List.getElem?_cons_succ, List.getElem?_cons_zero]; rfl)
              case hi41 => (simp only [List.getElem?_toArray, List.getElem?_cons_succ, List.getElem?_cons_zero]; rfl)
              case step42 =>
                intro K hK
                go_simp
                refine hK.out _ _ (hHeld) (fun hHeld => ?_)
                clear hK K
                try simp only [Act.put, List.setIfInBounds_toArray, List.set_cons_zero, List.set_cons_succ]
                refine wpAnyH_take (i := 7) (oi := ?oi43) (v := ?vv43) ?hi43 (by kernel_rfl) (by kernel_rfl) (by kernel_rfl) ?hQ43 ?hy43 (by assumption) ?rest43
                case hi43 => (simp only [List.getElem?_toArray, List.getElem?_cons_succ, List.getElem?_cons_zero]; rfl)
                case hQ43 => exact fun _ _ _ h => h
                case hy43 => exact Or.inl ⟨by rfl, by intro w hSw; (try dsimp only at hSw); go_simp; with_reducible rfl⟩
                simp only [Act.put, List.setIfInBounds_toArray, List.set_cons_zero, List.set_cons_succ]
                refine wpAnyH_ready (rs := [11]) (by kernel_rfl) (by simp) ?_
                refine AllReadyH.cons (o := ?oc44) ?hi44 ?step44 AllReadyH.nil
                case hi44 => (simp only [List.getElem?_toArray, List.getElem?_cons_succ, List.getElem?_cons_zero]; rfl)
                case step44 =>
                  intro K hK
                  go_simp
                  refine hK.out _ _ (hHeld) (fun hHeld => ?_)
                  clear hK K
                  try simp only [Act.put, List.setIfInBounds_toArray, List.set_cons_zero, List.set_cons_succ]
                  refine wpAnyH_take (i := 13) (oi := ?oi45) (v := ?vv45) ?hi45 (by kernel_rfl) (by kernel_rfl) (by kernel_rfl) ?hQ45 ?hy45 (by assumption) ?rest45
                  case hi45 => (simp only [List.getElem?_toArray, List.getElem?_cons_succ, List.getElem?_cons_zero]; rfl)
                  case hQ45 => exact fun _ _ _ h => h
                  case hy45 => exact Or.inl ⟨by rfl, by intro w hSw; (try dsimp only at hSw); go_simp; with_reducible rfl⟩
                  simp only [Act.put, List.setIfInBounds_toArray, List.set_cons_zero, List.set_cons_succ]
                  refine wpAnyH_take (i := 14) (oi := ?oi46) (v := ?vv46) ?hi46 (by kernel_rfl) (by kernel_rfl) (by kernel_rfl) ?hQ46 ?hy46 (by assumption) ?rest46
                  case hi46 => (simp only [List.getElem?_toArray, List.getElem?_cons_succ, List.getElem?_cons_zero]; rfl)
                  case hQ46 => exact fun _ _ _ h => h
                  case hy46 => exact Or.inl ⟨by rfl, by intro w hSw; (try dsimp only at hSw); go_simp; with_reducible rfl⟩
                  simp only [Act.put, List.setIfInBounds_toArray, List.set_cons_zero, List.set_cons_succ]
                  refine wpAnyH_take (i := 15) (oi := ?oi47) (v := ?vv47) ?hi47 (by kernel_rfl) (by kernel_rfl) (by kernel_rfl) ?hQ47 ?hy47 (by assumption) ?rest47
                  case hi47 => (simp only [List.getElem?_toArray, List.getElem?_cons_succ, List.getElem?_cons_zero]; rfl)
                  case hQ47 => exact fun _ _ _ h => h
                  case hy47 => exact Or.inl ⟨by rfl, by intro w hSw; (try dsimp only at hSw); go_simp; with_reducible rfl⟩
                  simp only [Act.put, List.setIfInBounds_toArray, List.set_cons_zero, List.set_cons_succ]
                  refine wpAnyH_ready (rs := [16]) (by kernel_rfl) (by simp) ?_
                  refine AllReadyH.cons (o := ?oc48) ?hi48 ?step48 AllReadyH.nil
                  case hi48 => (simp only [List.getElem?_toArray, List.getElem?_cons_succ, List.getElem?_cons_zero]; rfl)
                  case step48 =>
                    intro K hK
                    go_simp
                    refine hK.out _ _ (SN.out _ _ _ hHeld) (fun hHeld => ?_)
                    clear hK K
                    try simp only [Act.put, List.setIfInBounds_toArray, List.set_cons_zero, List.set_cons_succ]
                    refine wpAnyH_take (i := 17) (oi := ?oi49) (v := ?vv49) ?hi49 (by kernel_rfl) (by kernel_rfl) (by kernel_rfl) ?hQ49 ?hy49 (by assumption) ?rest49
                    case hi49 => (simp only [List.getElem?_toArray, List.getElem?_cons_succ, List.getElem?_cons_zero]; rfl)
                    case hQ49 => exact fun _ _ _ h => h
                    case hy49 => exact Or.inl ⟨by rfl, by intro w hSw; (try dsimp only at hSw); go_simp; with_reducible rfl⟩
                    simp only [Act.put, List.setIfInBounds_toArray, List.set_cons_zero, List.set_cons_succ]
                    refine wpAnyH_take (i := 18) (oi := ?oi50) (v := ?vv50) ?hi50 (by kernel_rfl) (by kernel_rfl) (by kernel_rfl) ?hQ50 ?hy50 (by assumption) ?rest50
                    case hi50 => (simp only [List.getElem?_toArray, List.getElem?_cons_succ, List.getElem?_cons_zero]; rfl)
                    case hQ50 => exact fun _ _ _ h => h
                    case hy50 => exact Or.inl ⟨by rfl, by intro w hSw; (try dsimp only at hSw); go_simp; with_reducible rfl⟩
                    simp only [Act.put, List.setIfInBounds_toArray, List.set_cons_zero, List.set_cons_succ]
                    refine wpAnyH_ready (rs := [19]) (by kernel_rfl) (by simp) ?_
                    refine AllReadyH.cons (o := ?oc51) ?hi51 ?step51 AllReadyH.nil
                    case hi51 => (simp only [List.getElem?_toArray, List.getElem?_cons_succ, List.getElem?_cons_zero]; rfl)
                    case step51 =>
                      intro K hK
                      go_simp
                      refine hK.out _ _ (SN.out _ _ _ hHeld) (fun hHeld => ?_)
                      clear hK K
                      try simp only [Act.put, List.setIfInBounds_toArray, List.set_cons_zero, List.set_cons_succ]
                      refine wpAnyH_done (by kernel_rfl) (NoPanic.normal ?_) _
                      (go_wp2_with fail; go_meet; first | exact .inl rfl | exact .inr rfl | (rw [W1.out, W2.out]; first | exact .inl rfl | exact .inr rfl))
              case step41 =>
                intro K hK
                go_simp
                refine hK.out _ _ (hHeld) (fun hHeld => ?_)
                clear hK K
                try simp only [Act.put, List.setIfInBounds_toArray, List.set_cons_zero, List.set_cons_succ]
                refine wpAnyH_take (i := 13) (oi := ?oi52) (v := ?vv52) ?hi52 (by kernel_rfl) (by kernel_rfl) (by kernel_rfl) ?hQ52 ?hy52 (by assumption) ?rest52
                case hi52 => (simp only [List.getElem?_toArray, List.getElem?_cons_succ, List.getElem?_cons_zero]; rfl)
                case hQ52 => exact fun _ _ _ h => h
                case hy52 => exact Or.inl ⟨by rfl, by intro w hSw; (try dsimp only at hSw); go_simp; with_reducible rfl⟩
                simp only [Act.put, List.setIfInBounds_toArray, List.set_cons_zero, List.set_cons_succ]
                refine wpAnyH_ready (rs := [5]) (by kernel_rfl) (by simp) ?_
                refine AllReadyH.cons (o := ?oc53) ?hi53 ?step53 AllReadyH.nil
                case hi53 => (simp only [List.getElem?_toArray, List.getElem?_cons_succ, List.getElem?_cons_zero]; rfl)
                case step53 =>
                  intro K hK
                  go_simp
                  refine hK.out _ _ (hHeld) (fun hHeld => ?_)
                  clear hK K
                  try simp only [Act.put, List.setIfInBounds_toArray, List.set_cons_zero, List.set_cons_succ]
                  refine wpAnyH_take (i := 7) (oi := ?oi54) (v := ?vv54) ?hi54 (by kernel_rfl) (by kernel_rfl) (by kernel_rfl) ?hQ54 ?hy54 (by assumption) ?rest54
                  case hi54 => (simp only [List.getElem?_toArray, List.getElem?_cons_succ, List.getElem?_cons_zero]; rfl)
                  case hQ54 => exact fun _ _ _ h => h
                  case hy54 => exact Or.inl ⟨by rfl, by intro w hSw; (try dsimp only at hSw); go_simp; with_reducible rfl⟩
                  simp only [Act.put, List.setIfInBounds_toArray, List.set_cons_zero, List.set_cons_succ]
                  refine wpAnyH_take (i := 14) (oi := ?oi55) (v := ?vv55) ?hi55 (by kernel_rfl) (by kernel_rfl) (by kernel_rfl) ?hQ55 ?hy55 (by assumption) ?rest55
                  case hi55 => (simp only [List.getElem?_toArray, List.getElem?_cons_succ, List.getElem?_cons_zero]; rfl)
                  case hQ55 => exact fun _ _ _ h => h
                  case hy55 => exact Or.inl ⟨by rfl, by intro w hSw; (try dsimp only at hSw); go_simp; with_reducible rfl⟩
                  simp only [Act.put, List.setIfInBounds_toArray, List.set_cons_zero, List.set_cons_succ]
                  refine wpAnyH_take (i := 15) (oi := ?oi56) (v := ?vv56) ?hi56 (by kernel_rfl) (by kernel_rfl) (by kernel_rfl) ?hQ56 ?hy56 (by assumption) ?rest56
                  case hi56 => (simp only [List.getElem?_toArray, List.getElem?_cons_succ, List.getElem?_cons_zero]; rfl)
                  case hQ56 => exact fun _ _ _ h => h
                  case hy56 => exact Or.inl ⟨by rfl, by intro w hSw; (try dsimp only at hSw); go_simp; with_reducible rfl⟩
                  simp only [Act.put, List.setIfInBounds_toArray, List.set_cons_zero, List.set_cons_succ]
                  refine wpAnyH_ready (rs := [16]) (by kernel_rfl) (by simp) ?_
                  refine AllReadyH.cons (o := ?oc57) ?hi57 ?step57 AllReadyH.nil
                  case hi57 => (simp only [List.getElem?_toArray, List.getElem?_cons_succ, List.getElem?_cons_zero]; rfl)
                  case step57 =>
                    intro K hK
                    go_simp
                    refine hK.out _ _ (SN.out _ _ _ hHeld) (fun hHeld => ?_)
                    clear hK K
                    try simp only [Act.put, List.setIfInBounds_toArray, List.set_cons_zero, List.set_cons_succ]
                    refine wpAnyH_take (i := 17) (oi := ?oi58) (v := ?vv58) ?hi58 (by kernel_rfl) (by kernel_rfl) (by kernel_rfl) ?hQ58 ?hy58 (by assumption) ?rest58
                    case hi58 => (simp only [List.getElem?_toArray, List.getElem?_cons_succ, List.getElem?_cons_zero]; rfl)
                    case hQ58 => exact fun _ _ _ h => h
                    case hy58 => exact Or.inl ⟨by rfl, by intro w hSw; (try dsimp only at hSw); go_simp; with_reducible rfl⟩
                    simp only [Act.put, List.setIfInBounds_toArray, List.set_cons_zero, List.set_cons_succ]
                    refine wpAnyH_take (i := 18) (oi := ?oi59) (v := ?vv59) ?hi59 (by kernel_rfl) (by kernel_rfl) (by kernel_rfl) ?hQ59 ?hy59 (by assumption) ?rest59
                    case hi59 => (simp only [List.getElem?_toArray, List.getElem?_cons_succ, List.getElem?_cons_zero]; rfl)
                    case hQ59 => exact fun _ _ _ h => h
                    case hy59 => exact Or.inl ⟨by rfl, by intro w hSw; (try dsimp only at hSw); go_simp; with_reducible rfl⟩
                    simp only [Act.put, List.setIfInBounds_toArray, List.set_cons_zero, List.set_cons_succ]
                    refine wpAnyH_ready (rs := [19]) (by kernel_rfl) (by simp) ?_
                    refine AllReadyH.cons (o := ?oc60) ?hi60 ?step60 AllReadyH.nil
                    case hi60 => (simp only [List.getElem?_toArray, List.getElem?_cons_succ, List.getElem?_cons_zero]; rfl)
                    case step60 =>
                      intro K hK
                      go_simp
                      refine hK.out _ _ (SN.out _ _ _ hHeld) (fun hHeld => ?_)
                      clear hK K
                      try simp only [Act.put, List.setIfInBounds_toArray, List.set_cons_zero, List.set_cons_succ]
                      refine wpAnyH_done (by kernel_rfl) (NoPanic.normal ?_) _
                      (go_wp2_with fail; go_meet; first | exact .inl rfl | exact .inr rfl | (rw [W1.out, W2.out]; first | exact .inl rfl | exact .inr rfl))
        have hB10 : BuAt wc b rb (B.setRest t (x + n, y - n)) := by
          first | rw [← HS.out] | skip
          have hBd : BuAt wr.drew b rb _ := ⟨hB9.st, hB9.rs, hB9.ne⟩
          rcases hcut with rfl | rfl
          · exact hBd.set t (x + n) (y - n)
          · exact hBd.set' t (x + n) (y - n)
        have hO10 : Only [rb] wr wc := by
          rcases hcut with rfl | rfl
          · exact ((Only.refl [rb] wr).drew.setCell (by simp) _).setCell (by simp) _
          · exact ((Only.refl [rb] wr).drew.setCell (by simp) _).setCell (by simp) _
        have hA10 := hAe.only hO10 (by simp [ap.ra.symm]) (by simp [ap.rw.symm])
        replace H14' := (hO10.block _ (lt_of_heap H14') (by simp; omega)).trans H14'
        replace H5' := (hO10.block _ (lt_of_heap H5') (by simp; omega)).trans H5'
        have hO11 := hO9.trans (hO10.mono (T := [rb, a, wb]) (by simp))
        clear hcut hO10 hO9 hr1 hr2 h14 hB9 hAe hOk
        have HBL := Lib.hid hbl
        clear hbl
        go_wp2_with fail
        refine leaves_cons (f := 86) (args := #[.pointer (some ⟨p14, 0, none⟩), .pointer (some ⟨w.heap.size, 0, none⟩)]) (by simp) (by simp [go_sem]) ?_
        have hq := hB10.rcell (t := t) ((Bu.is_setRest B t t _).trans ht)
        rw [Bu.rest_setRest ht] at hq
        refine (putd_any p14 w.heap.size rb (t.toNat * 2) a wb _ (x + n) (y - n) .returning _ hA10 ((hcell H14').1 0) ((hcell H5').1 0) hq.1 hq.2 (fun _ => by have := HBL.out; omega)).mono ?_
        rintro e u' w'' ⟨rfl, rfl, hAz, hOz⟩
        exact ⟨_, results_tmp2 rfl _ _ _, rfl, hB10.only hOz (by simp [ap.ba, ap.bw]) (by simp [ap.ra, ap.rw]), hAz, hO11.trans (hOz.mono (by simp))⟩
end Go.Proofs.YtomgfdfgildkbaaDoor
/- Plain words: what laying an object does to an arena. No condition. -/

namespace Go.Proofs.YtomgfdfgildkbaaDoor
open Go.RowKit

theorem Ar.rest_top (A : Ar) (x y s : Int) : (A.rest x y).top s = A.top s := by unfold Ar.rest; split <;> rfl
theorem Ar.rest_free (A : Ar) (x y s : Int) : (A.rest x y).free s = A.free s := by unfold Ar.rest; split <;> rfl
theorem Ar.blit_top (A : Ar) (x : Int) (xs : List Int) (s : Int) : (A.blit x xs).top s = A.top s := rfl
theorem Ar.blit_free (A : Ar) (x : Int) (xs : List Int) (s : Int) : (A.blit x xs).free s = A.free s := rfl
theorem Ar.take_top1 (A : Ar) (n : Int) : (A.take 1 n).top 1 = A.top 1 + n := by simp [Ar.take, Ar.setTop, Ar.top]
theorem Ar.take_free1 (A : Ar) (n : Int) : (A.take 1 n).free 1 = A.free 1 - n := by simp [Ar.take, Ar.setTop, Ar.top, Ar.free, Ar.behind]; omega
theorem Ar.rest_len (A : Ar) (x y : Int) : (A.rest x y).words.length = A.words.length := by unfold Ar.rest Ar.put; split <;> simp
theorem blit_mem {l : List Int} {o : Nat} {xs : List Int} {v : Int} (h : v ∈ blit l o xs) : v ∈ l ∨ v ∈ xs := by
  unfold blit at h
  simp only [List.mem_append] at h
  rcases h with (h | h) | h
  · exact .inl (List.mem_of_mem_take h)
  · exact .inr h
  · exact .inl (List.mem_of_mem_drop h)
theorem Ar.Ok.blit {A : Ar} (ok : A.Ok) {x : Int} {xs : List Int} (h0 : 0 ≤ x) (h : x + xs.length ≤ (A.words.length : Int)) (hx : ∀ v ∈ xs, 0 ≤ v ∧ v < 18446744073709551616) : (A.blit x xs).Ok := by
  refine ⟨ok.cv, ?_, ?_, ok.a1, ok.b1, ok.a2, ok.b2, ok.a3, ok.b3, ok.a4, ok.b4, ok.fr⟩
  · rw [Ar.blit_len h0 h]; exact ok.len
  · intro v hv
    rcases blit_mem hv with h | h
    · exact ok.rng v h
    · exact hx v h
theorem objW_range {m s : Int} {n : Nat} (hm : 0 ≤ m ∧ m < 18446744073709551616) (hs : 0 ≤ s ∧ s < 18446744073709551616) : ∀ v ∈ objW m s n, 0 ≤ v ∧ v < 18446744073709551616 := by
  intro v hv
  unfold objW at hv
  simp only [List.mem_cons, List.mem_replicate] at hv
  rcases hv with rfl | rfl | ⟨_, rfl⟩
  · exact hm
  · exact hs
  · decide
theorem Ar.Ok.rest {A : Ar} (ok : A.Ok) {x y : Int} (h : y ≤ 1099511627776) : (A.rest x y).Ok := by
  unfold Ar.rest
  split
  · exact ok.put x.toNat (by unfold wordT; split <;> omega)
  · exact ok
end Go.Proofs.YtomgfdfgildkbaaDoor
/- The walks of package buffer: Put where nothing is laid, or where the object goes past the buffers. -/



namespace Go.Proofs.YtomgfdfgildkbaaDoor
open Go.RowKit Go.BigFrame

set_option maxRecDepth 100000 in
set_option maxHeartbeats 1000000 in
theorem put_noThread (b rb : Nat) (B : Bu) (a : Nat) (t : Int) (g : Hd) (w : World) (tb : Tab w) (hB : BuAt w b rb B) (ht : B.is t = false) :
    Calls Tryd.prog 37 #[.pointer (some ⟨b, 0, none⟩), .pointer (some ⟨a, 0, none⟩), .int .i64 t, g.val] w fun e w' => e = .returned (.tuple #[.int .i64 0, .bool false]) ∧ Below w.heap.size w w' := by
  have P := Lib.hid (fun W (hb : Below w.heap.size w W) => pack_any g W (tb.below hb))
  have I := fun W (hb : Below w.heap.size w W) => is_buf b rb B t W (hB.below hb)
  rw [ht] at I
  replace I := Lib.hid I
  generalize pack g = m at *
  generalize chk g = er at *
  obtain ⟨gser, gkind, gptrs, graws, gage, gsite, gheld⟩ := g
  unfold Hd.val at *
  simp only at *
  clear hB ht
  go_enter_defers Tryd.func37, Tryd.ntmps37
  go_wp2_with fail
  refine (P.out _ (((Below.refl _ _).alloc (Nat.le_refl _) _).alloc (by simp) _)).mono ?_
  rintro e w1 ⟨rfl, hb⟩
  obtain ⟨H5, H7, hb1, hlt⟩ := kept_new2 hb
  clear hb
  go_wp2_with fail
  refine (I.out _ hb1).mono ?_
  rintro e w2 ⟨rfl, rfl⟩
  go_wp2_with fail
  exact ⟨_, results_tmp2 rfl _ _ _, rfl, hb1⟩
set_option maxRecDepth 100000 in
set_option maxHeartbeats 1000000 in
theorem put_badHead (b rb : Nat) (B : Bu) (a : Nat) (t : Int) (g : Hd) (w : World) (tb : Tab w) (hB : BuAt w b rb B) (ht : B.is t = true) (hg : chk g ≠ 0) :
    Calls Tryd.prog 37 #[.pointer (some ⟨b, 0, none⟩), .pointer (some ⟨a, 0, none⟩), .int .i64 t, g.val] w fun e w' => e = .returned (.tuple #[.int .i64 0, .bool false]) ∧ Below w.heap.size w w' := by
  have P := Lib.hid (fun W (hb : Below w.heap.size w W) => pack_any g W (tb.below hb))
  have I := fun W (hb : Below w.heap.size w W) => is_buf b rb B t W (hB.below hb)
  rw [ht] at I
  replace I := Lib.hid I
  generalize pack g = m at *
  have d1 : (chk g == 0) = false := by simpa using hg
  have d2 : (chk g != 0) = true := by simpa using hg
  generalize chk g = er at *
  obtain ⟨gser, gkind, gptrs, graws, gage, gsite, gheld⟩ := g
  unfold Hd.val at *
  simp only at *
  clear hB ht hg
  go_enter_defers Tryd.func37, Tryd.ntmps37
  go_wp2_with fail
  refine (P.out _ (((Below.refl _ _).alloc (Nat.le_refl _) _).alloc (by simp) _)).mono ?_
  rintro e w1 ⟨rfl, hb⟩
  obtain ⟨H5, H7, hb1, hlt⟩ := kept_new2 hb
  clear hb
  go_wp2_with fail
  refine (I.out _ hb1).mono ?_
  rintro e w2 ⟨rfl, rfl⟩
  go_wp2_with fail
  exact ⟨_, results_tmp2 rfl _ _ _, rfl, hb1⟩
theorem allocF5 (w : World) (X : Obj) : (w.alloc X).heap[w.heap.size]? = some X ∧ (∀ b, b < w.heap.size → (w.alloc X).heap[b]? = w.heap[b]?) ∧ (w.alloc X).heap.size = w.heap.size + 1 := by
  refine ⟨?_, fun b hb => ?_, ?_⟩
  · show (w.heap.push X)[w.heap.size]? = _; simp
  · exact ((Below.refl _ w).alloc (Nat.le_refl _) X).block b hb
  · simp
set_option maxRecDepth 100000 in
set_option maxHeartbeats 2000000 in
theorem put_full (b rb : Nat) (B : Bu) (a wb : Nat) (A : Ar) (t : Int) (g : Hd) (w : World) (tb : Tab w) (hB : BuAt w b rb B) (hA : ArAt w a wb A) (okA : A.Ok) (ht : B.is t = true) (f : Fine g)
    (n : Int) (hn : n = 2 + g.ptrs + g.raws) (q1 : (B.rest t).2 < n) (q2 : A.free 1 < n) :
    Calls Tryd.prog 37 #[.pointer (some ⟨b, 0, none⟩), .pointer (some ⟨a, 0, none⟩), .int .i64 t, g.val] w fun e w' => e = .returned (.tuple #[.int .i64 0, .bool false]) ∧ Below w.heap.size w w' := by
  have P := Lib.hid (fun W (hb : Below w.heap.size w W) => pack_yes g W (tb.below hb) f)
  have eb := enc_bd f
  have Z := fun W (hb : Below w.heap.size w W) => size_any (enc g) W (tb.below hb) eb.1 (by omega)
  rw [sizeW_enc f, ← hn] at Z
  replace Z := Lib.hid Z
  have I := fun W (hb : Below w.heap.size w W) => is_buf b rb B t W (hB.below hb)
  rw [ht] at I
  replace I := Lib.hid I
  have F := Lib.hid (fun W (hb : Below w.heap.size w W) => free_any a wb A 1 W (hA.below hb) okA)
  have hmf : ∀ (fn : Fn) (first cap : Array Value) (w : World), (Instr.makeFunc fn first cap).run Tryd.prog w = .ok (.func fn first cap) w := fun _ _ _ _ => rfl
  obtain ⟨gser, gkind, gptrs, graws, gage, gsite, gheld⟩ := g
  unfold Hd.val at *
  simp only at *
  have n2 : 2 ≤ n := by have := f.p0; have := f.r0; simp only at *; omega
  clear hn
  generalize enc _ = m at *
  have hfr0 : A.free 1 = A.free 1 := rfl
  generalize hfr : A.free 1 = fr at *
  have HFR := Lib.hid hfr
  clear hfr hfr0
  go_enter_defers Tryd.func37, Tryd.ntmps37
  go_wp2_with fail
  refine (P.out _ (((Below.refl _ _).alloc (Nat.le_refl _) _).alloc (by simp) _)).mono ?_
  rintro e w1 ⟨rfl, hb⟩
  obtain ⟨H5, H7, hb1, hlt⟩ := kept_new2 hb
  clear hb
  go_wp2_with fail
  refine (I.out _ hb1).mono ?_
  rintro e w2 ⟨rfl, rfl⟩
  obtain ⟨c5, f5⟩ := hcell H5
  go_upto_region 4 with fail
  have KEEP := Lib.hid (fun (W : World) (hb : Below w1.heap.size w1 W) => (⟨(hcell ((hb.block _ (lt_of_heap H5)).trans H5)).1, hb⟩ : (∀ o, W.cell? ⟨w.heap.size, o, none⟩ = (#[.pointer (some ⟨a, 0, none⟩)] : Array Value)[o]?) ∧ Below w1.heap.size w1 W))
  have ZZ := Lib.hid (fun W (hb : Below w1.heap.size w1 W) => (Z.out W (hb1.trans (hb.mono hb1.size))).mono (R' := fun e w' => e = .returned (.int .i64 n) ∧ Below w1.heap.size w1 w') fun e w' ⟨h1, h2⟩ => ⟨h1, hb.trans (h2.mono hb.size)⟩)
  have FF := Lib.hid (fun W (hb : Below w1.heap.size w1 W) => (F.out W (hb1.trans (hb.mono hb1.size))).mono (R' := fun e w' => e = .returned (.int .i64 fr) ∧ Below w1.heap.size w1 w') fun e w' ⟨h1, h2⟩ => ⟨h1, hb.trans (h2.mono hb.size)⟩)
  go_cut [12, 13] from 35 to 38 (fun s s2 wx => s = .int .i64 n ∧ s2 = .int .i64 fr ∧ Below w1.heap.size w1 wx)
  case first =>
    clear f hB hA okA ht eb hb1 H5 H7 I F Z P
    go_region_held3 (fun W => (∀ o, W.cell? ⟨w.heap.size, o, none⟩ = (#[.pointer (some ⟨a, 0, none⟩)] : Array Value)[o]?) ∧ Below w1.heap.size w1 W) (first | exact KEEP.out _ (Below.refl _ _).drew | exact KEEP.out _ (Below.refl _ _) | exact KEEP.out _ (by assumption)) (first | (go_at_call 18; refine (ZZ.out _ ?_).mono ?_; (first | assumption | exact (Below.refl _ _).drew | exact (Below.refl _ _)); rintro e w' ⟨rfl, hb⟩) | (go_at_call 45; refine (FF.out _ ?_).mono ?_; (first | assumption | exact (Below.refl _ _).drew | exact (Below.refl _ _)); rintro e w' ⟨rfl, hb⟩))
    all_goals
      go_wp2_with fail
      go_meet
      exact ⟨rfl, rfl, by assumption⟩
  obtain ⟨rfl, rfl, hb2⟩ := hcut
  clear ZZ FF KEEP
  generalize wc = w2 at *
  replace H5 := (hb2.block _ (lt_of_heap H5)).trans H5
  replace H7 := (hb2.block _ (lt_of_heap H7)).trans H7
  replace hb2 := hb1.trans (hb2.mono hb1.size)
  clear hb1 hlt c5 f5 P I Z F
  have hla := lt_of_heap hA.st
  have hlw := lt_of_heap hA.ws
  have hlb := lt_of_heap hB.st
  have hlr := lt_of_heap hB.rs
  replace hA := hA.below hb2
  replace hB := hB.below hb2
  have hO : True := trivial
  have l5 : w.heap.size + 1 < w2.heap.size := lt_of_heap H7
  have hr := hB.rcell ht
  obtain ⟨hc, hf⟩ := hB.cells
  have ht2 : 0 ≤ t ∧ t < (B.rests.length : Int) := by unfold Bu.is at ht; exact of_decide_eq_true ht
  go_upto_region 11 with fail
  obtain ⟨H14, ho, hs⟩ := allocF5 w2 (.cells #[.pointer (some ⟨rb, t.toNat * 2, none⟩)] 130)
  replace H5 := (ho _ (lt_of_heap H5)).trans H5
  replace H7 := (ho _ (lt_of_heap H7)).trans H7
  have hbb := ((Below.refl w2.heap.size w2).alloc (Nat.le_refl _) (.cells #[.pointer (some ⟨rb, t.toNat * 2, none⟩)] 130))
  replace hA := hA.below hbb
  replace hB := hB.below hbb
  have hb3 := hbb
  have hb4 := hb2.trans (hb3.mono hb2.size)
  clear hb3 hO
  clear hbb hr hc hf
  generalize (w2.alloc (.cells #[.pointer (some ⟨rb, t.toNat * 2, none⟩)] 130)) = w3 at *
  generalize w2.heap.size = p14 at *
  have hr := hB.rcell ht
  obtain ⟨hc, hf⟩ := hB.cells
  obtain ⟨c14, f14⟩ := hcell H14
  have rf := (hcell hB.rs).2
  clear ho
  have d1 : decide (n ≤ (B.rest t).2) = false := by simpa using q1
  have d2 : decide (fr < n) = true := by have := HFR.out; simp; omega
  have hr1 := hr.1
  have hr2 := hr.2
  go_wp2_with fail
  exact ⟨_, results_tmp2 rfl _ _ _, rfl, hb4⟩
set_option maxRecDepth 100000 in
set_option maxHeartbeats 2000000 in
theorem put_big (b rb : Nat) (B : Bu) (a wb : Nat) (A : Ar) (t : Int) (g : Hd) (w : World) (tb : Tab w) (hB : BuAt w b rb B) (hA : ArAt w a wb A) (okA : A.Ok) (ht : B.is t = true) (f : Fine g)
    (n : Int) (hn : n = 2 + g.ptrs + g.raws) (q1 : (B.rest t).2 < n) (q2 : n ≤ A.free 1) (q3 : B.size < n) :
    Calls Tryd.prog 37 #[.pointer (some ⟨b, 0, none⟩), .pointer (some ⟨a, 0, none⟩), .int .i64 t, g.val] w fun e w' => e = .returned (.tuple #[.int .i64 (A.top 1), .bool true]) ∧ ArAt w' a wb (A.lay 1 g) ∧ Only [a, wb] w w' := by
  have PY := Lib.hid (fun W (hb : Below w.heap.size w W) (hA : ArAt W a wb A) => put_yes a wb A 1 g W (tb.below hb) hA okA f rfl (by omega))
  generalize A.lay 1 g = A3 at *
  generalize A.top 1 = tp at *
  have P := Lib.hid (fun W (hb : Below w.heap.size w W) => pack_yes g W (tb.below hb) f)
  have eb := enc_bd f
  have Z := fun W (hb : Below w.heap.size w W) => size_any (enc g) W (tb.below hb) eb.1 (by omega)
  rw [sizeW_enc f, ← hn] at Z
  replace Z := Lib.hid Z
  have I := fun W (hb : Below w.heap.size w W) => is_buf b rb B t W (hB.below hb)
  rw [ht] at I
  replace I := Lib.hid I
  have F := Lib.hid (fun W (hb : Below w.heap.size w W) => free_any a wb A 1 W (hA.below hb) okA)
  have hmf : ∀ (fn : Fn) (first cap : Array Value) (w : World), (Instr.makeFunc fn first cap).run Tryd.prog w = .ok (.func fn first cap) w := fun _ _ _ _ => rfl
  obtain ⟨gser, gkind, gptrs, graws, gage, gsite, gheld⟩ := g
  unfold Hd.val at *
  simp only at *
  have n2 : 2 ≤ n := by have := f.p0; have := f.r0; simp only at *; omega
  clear hn
  generalize enc _ = m at *
  have hfr0 : A.free 1 = A.free 1 := rfl
  generalize hfr : A.free 1 = fr at *
  have HFR := Lib.hid hfr
  clear hfr hfr0
  go_enter_defers Tryd.func37, Tryd.ntmps37
  go_wp2_with fail
  refine (P.out _ (((Below.refl _ _).alloc (Nat.le_refl _) _).alloc (by simp) _)).mono ?_
  rintro e w1 ⟨rfl, hb⟩
  obtain ⟨H5, H7, hb1, hlt⟩ := kept_new2 hb
  clear hb
  go_wp2_with fail
  refine (I.out _ hb1).mono ?_
  rintro e w2 ⟨rfl, rfl⟩
  obtain ⟨c5, f5⟩ := hcell H5
  go_upto_region 4 with fail
  have KEEP := Lib.hid (fun (W : World) (hb : Below w1.heap.size w1 W) => (⟨(hcell ((hb.block _ (lt_of_heap H5)).trans H5)).1, hb⟩ : (∀ o, W.cell? ⟨w.heap.size, o, none⟩ = (#[.pointer (some ⟨a, 0, none⟩)] : Array Value)[o]?) ∧ Below w1.heap.size w1 W))
  have ZZ := Lib.hid (fun W (hb : Below w1.heap.size w1 W) => (Z.out W (hb1.trans (hb.mono hb1.size))).mono (R' := fun e w' => e = .returned (.int .i64 n) ∧ Below w1.heap.size w1 w') fun e w' ⟨h1, h2⟩ => ⟨h1, hb.trans (h2.mono hb.size)⟩)
  have FF := Lib.hid (fun W (hb : Below w1.heap.size w1 W) => (F.out W (hb1.trans (hb.mono hb1.size))).mono (R' := fun e w' => e = .returned (.int .i64 fr) ∧ Below w1.heap.size w1 w') fun e w' ⟨h1, h2⟩ => ⟨h1, hb.trans (h2.mono hb.size)⟩)
  go_cut [12, 13] from 35 to 38 (fun s s2 wx => s = .int .i64 n ∧ s2 = .int .i64 fr ∧ Below w1.heap.size w1 wx)
  case first =>
    clear f hB hA okA ht eb hb1 H5 H7 I F Z P
    go_region_held3 (fun W => (∀ o, W.cell? ⟨w.heap.size, o, none⟩ = (#[.pointer (some ⟨a, 0, none⟩)] : Array Value)[o]?) ∧ Below w1.heap.size w1 W) (first | exact KEEP.out _ (Below.refl _ _).drew | exact KEEP.out _ (Below.refl _ _) | exact KEEP.out _ (by assumption)) (first | (go_at_call 18; refine (ZZ.out _ ?_).mono ?_; (first | assumption | exact (Below.refl _ _).drew | exact (Below.refl _ _)); rintro e w' ⟨rfl, hb⟩) | (go_at_call 45; refine (FF.out _ ?_).mono ?_; (first | assumption | exact (Below.refl _ _).drew | exact (Below.refl _ _)); rintro e w' ⟨rfl, hb⟩))
    all_goals
      go_wp2_with fail
      go_meet
      exact ⟨rfl, rfl, by assumption⟩
  obtain ⟨rfl, rfl, hb2⟩ := hcut
  clear ZZ FF KEEP
  generalize wc = w2 at *
  replace H5 := (hb2.block _ (lt_of_heap H5)).trans H5
  replace H7 := (hb2.block _ (lt_of_heap H7)).trans H7
  replace hb2 := hb1.trans (hb2.mono hb1.size)
  clear hb1 hlt c5 f5 P I Z F
  have hla := lt_of_heap hA.st
  have hlw := lt_of_heap hA.ws
  have hlb := lt_of_heap hB.st
  have hlr := lt_of_heap hB.rs
  replace hA := hA.below hb2
  replace hB := hB.below hb2
  have hO : True := trivial
  have l5 : w.heap.size + 1 < w2.heap.size := lt_of_heap H7
  have hr := hB.rcell ht
  obtain ⟨hc, hf⟩ := hB.cells
  have ht2 : 0 ≤ t ∧ t < (B.rests.length : Int) := by unfold Bu.is at ht; exact of_decide_eq_true ht
  go_upto_region 11 with fail
  obtain ⟨H14, ho, hs⟩ := allocF5 w2 (.cells #[.pointer (some ⟨rb, t.toNat * 2, none⟩)] 130)
  replace H5 := (ho _ (lt_of_heap H5)).trans H5
  replace H7 := (ho _ (lt_of_heap H7)).trans H7
  have hbb := ((Below.refl w2.heap.size w2).alloc (Nat.le_refl _) (.cells #[.pointer (some ⟨rb, t.toNat * 2, none⟩)] 130))
  replace hA := hA.below hbb
  replace hB := hB.below hbb
  have hb3 := hbb
  have hb4 := hb2.trans (hb3.mono hb2.size)
  clear hb3 hO
  clear hbb hr hc hf
  generalize (w2.alloc (.cells #[.pointer (some ⟨rb, t.toNat * 2, none⟩)] 130)) = w3 at *
  generalize w2.heap.size = p14 at *
  have hr := hB.rcell ht
  obtain ⟨hc, hf⟩ := hB.cells
  obtain ⟨c14, f14⟩ := hcell H14
  have rf := (hcell hB.rs).2
  clear ho
  have d1 : decide (n ≤ (B.rest t).2) = false := by simpa using q1
  have d2 : decide (fr < n) = false := by have := HFR.out; simp; omega
  have d3 : decide (B.size < n) = true := by simpa using q3
  have hr1 := hr.1
  have hr2 := hr.2
  obtain ⟨c5, f5⟩ := hcell H5
  obtain ⟨c7, f7⟩ := hcell H7
  go_wp2_with fail
  refine (PY.out _ (hb4) hA).mono ?_
  rintro e w4 ⟨rfl, hA4, hO4⟩
  go_wp2_with fail
  exact ⟨_, results_tmp2 rfl _ _ _, rfl, hA4, (Only.of_below (hb4)).trans hO4⟩
end Go.Proofs.YtomgfdfgildkbaaDoor
/- The walks of the law BufferCount: its helpers. -/



namespace Go.Proofs.YtomgfdfgildkbaaDoor
open Go.RowKit Go.BigFrame

theorem among13_any (a n : Int) (w : World) (ha : -9223372036854775808 ≤ a) (ha2 : a < 9223372036854775808) (h : 0 < n) (h2 : n ≤ 1099511627776) :
    Calls Tryd.prog 35 #[.int .i64 a, .int .i64 n] w fun e w' => e = .returned (.int .i64 (amongI a n)) ∧ w = w' := by
  have hn : (n == 0) = false := by simp; omega
  unfold amongI
  by_cases c : a < 0
  · rw [if_pos c]
    go_enter Tryd.func35, Tryd.ntmps35
    go_wp2
    go_ret
    exact ⟨ret_int (by first | rfl | exact among_neg c), rfl⟩
  · rw [if_neg c]
    have c0 : 0 ≤ a := by omega
    go_enter Tryd.func35, Tryd.ntmps35
    go_wp2
    go_ret
    exact ⟨ret_int (by first | rfl | exact Int.tmod_eq_emod_of_nonneg c0), rfl⟩
def plainHd (r : Int) : Hd := ⟨1, 1, 0, r, 0, 0, false⟩
theorem plain13_any (r : Int) (w : World) :
    Calls Tryd.prog 38 #[.int .i64 r] w fun e w' => e = .returned (plainHd r).val ∧ Below w.heap.size w w' := by
  go_enter Tryd.func38, Tryd.ntmps38
  go_wp2
  refine bodyPost_ret (v := (plainHd r).val) (by simp [results, Tryd.results38, go_sem, plainHd, Hd.val]) rfl ⟨rfl, (Below.refl _ _).alloc (Nat.le_refl _) _⟩
def smallCfg : Cfg := ⟨64, 64, 64, 64, 0, 1, 1, 50, 1, 2, 1, 0, 0, 1⟩
theorem small13_any (w : World) :
    Calls Tryd.prog 33 #[] w fun e w' => e = .returned smallCfg.val ∧ Below w.heap.size w w' := by
  go_enter Tryd.func33, Tryd.ntmps33
  go_wp2
  refine bodyPost_ret (v := smallCfg.val) (by simp [results, Tryd.results33, go_sem, smallCfg, Cfg.val, Cfg.cells]) rfl ⟨rfl, (Below.refl _ _).alloc (Nat.le_refl _) _⟩
end Go.Proofs.YtomgfdfgildkbaaDoor
/- Buffers and an arena together: what Put does, as a step of a pair. -/

namespace Go.Proofs.YtomgfdfgildkbaaDoor
open Go.RowKit Go.BigFrame

structure PairAt (w : World) (b rb : Nat) (B : Bu) (a wb : Nat) (A : Ar) : Prop where
  hB : BuAt w b rb B
  hA : ArAt w a wb A
  okB : B.Ok
  okA : A.Ok
  ap : Apart b rb a wb
theorem PairAt.below {w w' : World} {b rb : Nat} {B : Bu} {a wb : Nat} {A : Ar} (h : PairAt w b rb B a wb A) (hb : Below w.heap.size w w') : PairAt w' b rb B a wb A :=
  ⟨h.hB.below hb, h.hA.below hb, h.okB, h.okA, h.ap⟩
theorem Bu.Ok.set {B : Bu} (h : B.Ok) (t : Int) (r : Int × Int) : (B.setRest t r).Ok := by
  refine ⟨?_, ?_, h.s0, h.s1⟩ <;> simp only [Bu.setRest, List.length_set]
  · exact h.n1
  · exact h.n8
/-- The arena behind an object of n words that was laid at x, y words having been left there. -/
def Ar.laid (A : Ar) (x y n : Int) (g : Hd) : Ar := (A.blit x (objW (enc g) g.ser n.toNat)).rest (x + n) (y - n)
theorem Ar.laid_top (A : Ar) (x y n : Int) (g : Hd) (s : Int) : (A.laid x y n g).top s = A.top s := by unfold Ar.laid; rw [Ar.rest_top, Ar.blit_top]
theorem Ar.laid_free (A : Ar) (x y n : Int) (g : Hd) (s : Int) : (A.laid x y n g).free s = A.free s := by unfold Ar.laid; rw [Ar.rest_free, Ar.blit_free]
theorem objW_length {m s : Int} {n : Nat} (h : 2 ≤ n) : (objW m s n).length = n := by simp [objW]; omega
theorem Ar.laid_len {A : Ar} {x y n : Int} {g : Hd} (h0 : 0 ≤ x) (h2 : 2 ≤ n) (h : x + n ≤ (A.words.length : Int)) : (A.laid x y n g).words.length = A.words.length := by
  unfold Ar.laid; rw [Ar.rest_len, Ar.blit_len h0 (by rw [objW_length (by omega)]; omega)]
theorem Ar.Ok.laid {A : Ar} (ok : A.Ok) {x y n : Int} {g : Hd} (f : Fine g) (h0 : 0 ≤ x) (h2 : 2 ≤ n) (h : x + n ≤ (A.words.length : Int)) (hy : y - n ≤ 1099511627776) (hs : 0 ≤ g.ser ∧ g.ser < 18446744073709551616) : (A.laid x y n g).Ok := by
  unfold Ar.laid
  have eb := enc_bd f
  exact Ar.Ok.rest (Ar.Ok.blit ok h0 (by rw [objW_length (by omega)]; omega) (objW_range ⟨eb.1, by omega⟩ hs)) hy
theorem put_old (b rb : Nat) (B : Bu) (a wb : Nat) (A : Ar) (t : Int) (g : Hd) (w : World) (tb : Tab w) (h : PairAt w b rb B a wb A) (ht : B.is t = true) (f : Fine g) (hs : 0 ≤ g.ser ∧ g.ser < 18446744073709551616)
    (n x y : Int) (hn : n = 2 + g.ptrs + g.raws) (hr : B.rest t = (x, y)) (x1 : 1 ≤ x) (x2 : x + y ≤ (A.words.length : Int)) (ny : n ≤ y) :
    Calls Tryd.prog 37 #[.pointer (some ⟨b, 0, none⟩), .pointer (some ⟨a, 0, none⟩), .int .i64 t, g.val] w fun e w' => e = .returned (.tuple #[.int .i64 x, .bool true]) ∧ PairAt w' b rb (B.setRest t (x + n, y - n)) a wb (A.laid x y n g) ∧ Only [rb, a, wb] w w' := by
  have hl := h.okA.tops.2.2.2.2
  have n2 : 2 ≤ n := by have := f.p0; have := f.r0; omega
  refine (put_lay b rb B a wb A t g w tb h.hB h.hA h.okA h.ap ht f n x y A hn x1 x2 (by omega) ny (.inl ⟨by rw [hr]; exact ny, hr.symm, rfl⟩)).mono fun e w' ⟨h1, h2, h3, h4⟩ => ⟨h1, ⟨h2, h3, h.okB.set t _, h.okA.laid f (by omega) n2 (by omega) (by omega) hs, h.ap⟩, h4⟩
theorem put_fresh (b rb : Nat) (B : Bu) (a wb : Nat) (A : Ar) (t : Int) (g : Hd) (w : World) (tb : Tab w) (h : PairAt w b rb B a wb A) (ht : B.is t = true) (f : Fine g) (hs : 0 ≤ g.ser ∧ g.ser < 18446744073709551616)
    (n y : Int) (hn : n = 2 + g.ptrs + g.raws) (hr : (B.rest t).2 < n) (h2 : n ≤ A.free 1) (h3 : n ≤ B.size) (hy : y = (if B.size < A.free 1 then B.size else A.free 1)) :
    Calls Tryd.prog 37 #[.pointer (some ⟨b, 0, none⟩), .pointer (some ⟨a, 0, none⟩), .int .i64 t, g.val] w fun e w' => e = .returned (.tuple #[.int .i64 (A.top 1), .bool true]) ∧ PairAt w' b rb (B.setRest t (A.top 1 + n, y - n)) a wb ((A.take 1 y).laid (A.top 1) y n g) ∧ Only [rb, a, wb] w w' := by
  have n2 : 2 ≤ n := by have := f.p0; have := f.r0; omega
  have y1 : 1 ≤ y := by rw [hy]; split <;> omega
  have y2 : y ≤ A.free 1 := by rw [hy]; split <;> omega
  have ny : n ≤ y := by rw [hy]; split <;> omega
  obtain ⟨t1, t2, t3⟩ := h.okA.top_bd (s := 1) rfl y1 y2
  have ok2 := h.okA.take (s := 1) (n := y) rfl y1 y2
  refine (put_lay b rb B a wb A t g w tb h.hB h.hA h.okA h.ap ht f n (A.top 1) y (A.take 1 y) hn t1 t2 (by omega) ny (.inr ⟨hr, h2, h3, hy, rfl, rfl⟩)).mono fun e w' ⟨h1, h2, h3, h4⟩ => ⟨h1, ⟨h2, h3, h.okB.set t _, ok2.laid f (by omega) n2 (by omega) (by omega) hs, h.ap⟩, h4⟩
end Go.Proofs.YtomgfdfgildkbaaDoor
/- Two buffers and an arena, told by numbers. -/

namespace Go.Proofs.YtomgfdfgildkbaaDoor
open Go.RowKit Go.BigFrame

structure Sum2 (B : Bu) (A : Ar) (sz top free len : Int) (r0 r1 : Int × Int) : Prop where
  s : B.size = sz
  l : B.rests = [r0, r1]
  t : A.top 1 = top
  f : A.free 1 = free
  n : (A.words.length : Int) = len
def pick2 {α : Type} (t : Int) (r0 r1 : α) : α := if t = 0 then r0 else r1
theorem Sum2.is {B : Bu} {A : Ar} {sz top free len : Int} {r0 r1 : Int × Int} (h : Sum2 B A sz top free len r0 r1) {t : Int} (ht : t = 0 ∨ t = 1) : B.is t = true ∧ B.rest t = pick2 t r0 r1 := by
  unfold Bu.is Bu.rest pick2
  rw [h.l]
  rcases ht with rfl | rfl <;> simp
theorem Sum2.set {B : Bu} {A A' : Ar} {sz top free len top' free' : Int} {r0 r1 : Int × Int} (h : Sum2 B A sz top free len r0 r1) {t : Int} (ht : t = 0 ∨ t = 1) (r : Int × Int) (h1 : A'.top 1 = top') (h2 : A'.free 1 = free') (h3 : A'.words.length = A.words.length) :
    Sum2 (B.setRest t r) A' sz top' free' len (pick2 t r r0) (pick2 t r1 r) := by
  refine ⟨h.s, ?_, h1, h2, by rw [h3]; exact h.n⟩
  unfold Bu.setRest pick2
  simp only
  rw [h.l]
  rcases ht with rfl | rfl <;> simp
theorem Ar.take_len1 {A : Ar} (ok : A.Ok) {y : Int} (h1 : 1 ≤ y) (h2 : y ≤ A.free 1) : (A.take 1 y).words.length = A.words.length := by
  have h := (ok.take (s := 1) rfl h1 h2).len
  have := ok.len
  have e : (A.take 1 y).cfg = A.cfg := by simp [Ar.take, Ar.setTop]
  rw [e] at h
  omega
theorem step_old (b rb : Nat) (B : Bu) (a wb : Nat) (A : Ar) (t : Int) (g : Hd) (w : World) (tb : Tab w) (h : PairAt w b rb B a wb A) (f : Fine g) (hs : 0 ≤ g.ser ∧ g.ser < 18446744073709551616)
    {sz top free len : Int} {r0 r1 : Int × Int} (S : Sum2 B A sz top free len r0 r1) (ht : t = 0 ∨ t = 1)
    (n x y : Int) (hn : n = 2 + g.ptrs + g.raws) (hr : pick2 t r0 r1 = (x, y)) (x1 : 1 ≤ x) (x2 : x + y ≤ len) (ny : n ≤ y) :
    Calls Tryd.prog 37 #[.pointer (some ⟨b, 0, none⟩), .pointer (some ⟨a, 0, none⟩), .int .i64 t, g.val] w fun e w' => e = .returned (.tuple #[.int .i64 x, .bool true]) ∧ (∃ B' A', PairAt w' b rb B' a wb A' ∧ Sum2 B' A' sz top free len (pick2 t (x + n, y - n) r0) (pick2 t r1 (x + n, y - n))) ∧ Only [rb, a, wb] w w' := by
  obtain ⟨i1, i2⟩ := S.is ht
  have hl := S.n
  have n2 : 2 ≤ n := by have := f.p0; have := f.r0; omega
  refine (put_old b rb B a wb A t g w tb h i1 f hs n x y hn (i2.trans hr) x1 (by omega) ny).mono fun e w' ⟨h1, h2, h3⟩ => ⟨h1, ⟨_, _, h2, S.set ht _ ?_ ?_ ?_⟩, h3⟩
  · rw [Ar.laid_top]; exact S.t
  · rw [Ar.laid_free]; exact S.f
  · exact Ar.laid_len (by omega) n2 (by omega)
theorem step_fresh (b rb : Nat) (B : Bu) (a wb : Nat) (A : Ar) (t : Int) (g : Hd) (w : World) (tb : Tab w) (h : PairAt w b rb B a wb A) (f : Fine g) (hs : 0 ≤ g.ser ∧ g.ser < 18446744073709551616)
    {sz top free len : Int} {r0 r1 : Int × Int} (S : Sum2 B A sz top free len r0 r1) (ht : t = 0 ∨ t = 1)
    (n : Int) (hn : n = 2 + g.ptrs + g.raws) (hr : (pick2 t r0 r1).2 < n) (h2 : sz ≤ free) (h3 : n ≤ sz) :
    Calls Tryd.prog 37 #[.pointer (some ⟨b, 0, none⟩), .pointer (some ⟨a, 0, none⟩), .int .i64 t, g.val] w fun e w' => e = .returned (.tuple #[.int .i64 top, .bool true]) ∧ (∃ B' A', PairAt w' b rb B' a wb A' ∧ Sum2 B' A' sz (top + sz) (free - sz) len (pick2 t (top + n, sz - n) r0) (pick2 t r1 (top + n, sz - n))) ∧ Only [rb, a, wb] w w' := by
  obtain ⟨i1, i2⟩ := S.is ht
  have hl := S.n
  have n2 : 2 ≤ n := by have := f.p0; have := f.r0; omega
  have e1 := S.t
  have e2 := S.f
  have e3 := S.s
  have hy : sz = (if B.size < A.free 1 then B.size else A.free 1) := by split <;> omega
  obtain ⟨t1, t2, t3⟩ := h.okA.top_bd (s := 1) (n := sz) rfl (by omega) (by omega)
  have tl := Ar.take_len1 h.okA (y := sz) (by omega) (by omega)
  have P := put_fresh b rb B a wb A t g w tb h i1 f hs n sz hn (by rw [i2]; exact hr) (by omega) (by omega) hy
  rw [e1] at P
  refine P.mono fun e w' ⟨h1, h2, h3⟩ => ⟨h1, ⟨_, _, h2, S.set ht _ ?_ ?_ ?_⟩, h3⟩
  · rw [Ar.laid_top, Ar.take_top1, e1]
  · rw [Ar.laid_free, Ar.take_free1, e2]
  · rw [Ar.laid_len (by omega) n2 (by omega), tl]
end Go.Proofs.YtomgfdfgildkbaaDoor
/- The walks of the law BufferCount: known. -/

namespace Go.Proofs.YtomgfdfgildkbaaDoor
open Go.RowKit Go.BigFrame

theorem smallCfg_valid : smallCfg.valid = true := by decide
theorem plainHd_fine {r : Int} (h0 : 0 ≤ r) (h1 : r ≤ 65535) : Fine (plainHd r) := by
  constructor <;> simp [plainHd, h0, h1]
theorem Sum2.new {c : Cfg} {s : Int} (hc : c.valid = true) : Sum2 (Bu.new 2 s) (Ar.new c) s 1 c.eden c.size (0, 0) (0, 0) := by
  have q := Cfg.bd hc
  have q1 := q.e0
  have q2 := q.s0
  have q3 := q.t0
  refine ⟨rfl, rfl, rfl, ?_, ?_⟩
  · simp [Ar.free, Ar.behind, Ar.top, Ar.new]; omega
  · simp [Ar.new]; unfold Cfg.size; omega
theorem Bu.new_ok {n s : Int} (h1 : 1 ≤ n) (h2 : n ≤ 8) (h3 : 0 ≤ s) (h4 : s ≤ 65536) : (Bu.new n s).Ok := by
  refine ⟨?_, ?_, h3, h4⟩ <;> simp [Bu.new] <;> omega
theorem Ar.new_ok {c : Cfg} (h : c.valid = true) : (Ar.new c).Ok := by
  obtain ⟨e0, e1, s0, s1, t0, t1⟩ := Cfg.bd h
  refine ⟨h, ?_, ?_, by simp [Ar.new], ?_, ?_, ?_, ?_, ?_, ?_, ?_, .inl rfl⟩
  · show ((List.replicate c.size.toNat (0 : Int)).length : Int) = c.size
    rw [List.length_replicate]; unfold Cfg.size; omega
  · intro x hx
    have hx' : x ∈ List.replicate c.size.toNat (0 : Int) := hx
    rw [(List.mem_replicate.1 hx').2]; decide
  all_goals (simp only [Ar.new]; omega)
theorem Only.tab {w0 w w' : World} {rb a wb : Nat} (hb : Below w0.heap.size w0 w) (h1 : w0.heap.size ≤ rb) (h2 : w0.heap.size ≤ a) (h3 : w0.heap.size ≤ wb) (h : Only [rb, a, wb] w w') : Below w0.heap.size w0 w' :=
  hb.trans (h.below hb.size (by simp; omega))
end Go.Proofs.YtomgfdfgildkbaaDoor
