/- The walks of package arena, third part: words, spaces, tops. -/
import Derived.Test.YtomgfdfgildkbaaDoorArenaW2
namespace Go.Proofs.YtomgfdfgildkbaaDoor
open Go.RowKit Go.BigFrame

theorem ArAt.cells {w : World} {b wb : Nat} {A : Ar} (h : ArAt w b wb A) : (∀ o, w.cell? ⟨b, o, none⟩ = (arCells A wb)[o]?) ∧ (∀ o, w.frozen? ⟨b, o, none⟩ = false) := hcell h.st
theorem ArAt.wcell {w : World} {b wb : Nat} {A : Ar} (h : ArAt w b wb A) {i : Nat} (hi : i < A.words.length) : w.cell? ⟨wb, i, none⟩ = some (.int .u64 (A.words.getD i 0)) := by
  rw [(hcell h.ws).1, u64s_get hi]
theorem ArAt.wfree {w : World} {b wb : Nat} {A : Ar} (h : ArAt w b wb A) (i : Nat) : w.frozen? ⟨wb, i, none⟩ = false := (hcell h.ws).2 i

theorem ArAt.setWord {w : World} {b wb : Nat} {A : Ar} (h : ArAt w b wb A) (i : Nat) (v : Int) : ArAt (w.setCell ⟨wb, i, none⟩ (.int .u64 v)) b wb { A with words := A.words.set i v } := by
  refine ⟨?_, ?_, h.ne⟩
  · rw [block_set_ne h.ne, h.st]; simp [arCells]
  · rw [block_set h.ws, u64s_set]

theorem Ar.Ok.put {A : Ar} (h : A.Ok) (i : Nat) {v : Int} (hv : 0 ≤ v ∧ v < 18446744073709551616) : ({ A with words := A.words.set i v } : Ar).Ok := by
  obtain ⟨cv, len, rng, a1, b1, a2, b2, a3, b3, a4, b4, fr⟩ := h
  refine ⟨cv, by simpa using len, ?_, a1, b1, a2, b2, a3, b3, a4, b4, fr⟩
  intro x hx
  rcases List.mem_or_eq_of_mem_set hx with h | h
  · exact rng x h
  · exact h ▸ hv

theorem config_any (b wb : Nat) (A : Ar) (w : World) (h : ArAt w b wb A) : Calls Tryd.prog 113 #[.pointer (some ⟨b, 0, none⟩)] w fun e w' => e = .returned A.cfg.val ∧ Below w.heap.size w w' := by
  obtain ⟨hc, hf⟩ := h.cells
  have hlt := lt_of_heap h.st
  unfold arCells at hc
  unfold Cfg.val Cfg.cells
  clear h
  go_enter Tryd.func113, Tryd.ntmps113
  go_wp2
  exact bodyPost_ret (v := .agg #[.int .i64 A.cfg.eden, .int .i64 A.cfg.surv, .int .i64 A.cfg.ten, .int .i64 A.cfg.large, .int .i64 A.cfg.floor, .int .i64 A.cfg.num, .int .i64 A.cfg.den, .int .i64 A.cfg.target, .int .i64 A.cfg.maxAge, .int .i64 A.cfg.threads, .int .i64 A.cfg.slots, .int .i64 A.cfg.handles, .int .i64 A.cfg.buffer, .int .i64 A.cfg.workers]) (by simp [results, Tryd.results113, go_sem]) rfl ⟨rfl, (Below.refl _ _).alloc (Nat.le_refl _) _⟩

theorem word_any (b wb : Nat) (A : Ar) (i : Int) (w : World) (h : ArAt w b wb A) : Calls Tryd.prog 49 #[.pointer (some ⟨b, 0, none⟩), .int .i64 i] w fun e w' => e = .returned (.int .u64 (A.word i)) ∧ w = w' := by
  obtain ⟨hc, hf⟩ := h.cells
  unfold arCells at hc
  unfold Ar.word
  by_cases c0 : i < 0
  · rw [if_neg (by omega)]
    clear h
    go_enter Tryd.func49, Tryd.ntmps49
    go_wp2
    go_ret
    exact ⟨rfl, rfl⟩
  rw [if_pos (by omega)]
  have d0 : decide (i < 0) = false := by simpa using c0
  by_cases c1 : (A.words.length : Int) ≤ i
  · have hg : A.words.getD i.toNat 0 = 0 := by
      rw [List.getD_eq_getElem?_getD, List.getElem?_eq_none (by omega)]; rfl
    rw [hg]
    clear h hg
    go_enter Tryd.func49, Tryd.ntmps49
    go_wp2
    go_ret
    exact ⟨rfl, rfl⟩
  · have hw := h.wcell (i := i.toNat) (by omega)
    have c2 : i < (A.words.length : Int) := by omega
    have d1 : decide ((A.words.length : Int) ≤ i) = false := by simpa using c1
    generalize A.words.getD i.toNat 0 = v at *
    clear h c1
    go_enter Tryd.func49, Tryd.ntmps49
    go_wp2
    go_ret
    exact ⟨rfl, rfl⟩

theorem is_any (s : Int) (w : World) : Calls Tryd.prog 91 #[.int .i64 s] w fun e w' => e = .returned (.bool (isSp s)) ∧ w = w' := by
  unfold isSp
  by_cases c0 : 1 ≤ s
  · by_cases c1 : s ≤ 4
    · rw [decide_eq_true ⟨c0, c1⟩]
      go_enter Tryd.func91, Tryd.ntmps91
      go_wp2
      go_ret
      exact ⟨rfl, rfl⟩
    · rw [decide_eq_false (fun x => c1 x.2)]
      have d1 : decide (s ≤ 4) = false := decide_eq_false c1
      have c2 : 4 < s := by omega
      clear c1
      go_enter Tryd.func91, Tryd.ntmps91
      go_wp2
      go_ret
      exact ⟨rfl, rfl⟩
  · rw [decide_eq_false (fun x => c0 x.1)]
    have d0 : decide (1 ≤ s) = false := decide_eq_false c0
    have c2 : s < 1 := by omega
    clear c0
    go_enter Tryd.func91, Tryd.ntmps91
    go_wp2
    go_ret
    exact ⟨rfl, rfl⟩

set_option maxHeartbeats 1000000 in
theorem of_any (b wb : Nat) (A : Ar) (s : Int) (w : World) (h : ArAt w b wb A) : Calls Tryd.prog 87 #[.pointer (some ⟨b, 0, none⟩), .int .i64 s] w fun e w' => e = .returned (.agg #[.int .i64 (A.first s), .int .i64 (A.behind s), .int .i64 (A.top s)]) ∧ Below w.heap.size w w' := by
  obtain ⟨hc, hf⟩ := h.cells
  have hlt := lt_of_heap h.st
  unfold arCells at hc
  have I := fun w => is_any s w
  by_cases c : isSp s = true
  · rw [c] at I
    have II := Lib.hid I
    unfold isSp at c
    have hs : s = 1 ∨ s = 2 ∨ s = 3 ∨ s = 4 := by have := of_decide_eq_true c; omega
    clear c I h
    rcases hs with rfl | rfl | rfl | rfl
    all_goals
      go_enter Tryd.func87, Tryd.ntmps87
      go_wp2_with fail
      refine (II.out _).mono ?_
      rintro e w' ⟨rfl, rfl⟩
      go_wp2_with fail
      refine bodyPost_ret (v := .agg #[_, _, _]) (by simp [results, Tryd.results87, go_sem]; exact ⟨rfl, rfl, rfl⟩) rfl ⟨?_, (Below.refl _ _).alloc (Nat.le_refl _) _⟩
      simp [Ar.first, Ar.behind, Ar.top]
  · have c' : isSp s = false := by simpa using c
    rw [c'] at I
    have II := Lib.hid I
    have hs : ¬ s = 1 ∧ ¬ s = 2 ∧ ¬ s = 3 ∧ ¬ s = 4 := by
      unfold isSp at c'; have := of_decide_eq_false c'; omega
    have e1 : A.first s = 0 := by unfold Ar.first; rw [if_neg hs.1, if_neg hs.2.1, if_neg hs.2.2.1, if_neg hs.2.2.2]
    have e2 : A.behind s = 0 := by unfold Ar.behind; rw [if_neg hs.1, if_neg hs.2.1, if_neg hs.2.2.1, if_neg hs.2.2.2]
    have e3 : A.top s = 0 := by unfold Ar.top; rw [if_neg hs.1, if_neg hs.2.1, if_neg hs.2.2.1, if_neg hs.2.2.2]
    rw [e1, e2, e3]
    clear c c' I h hs e1 e2 e3
    go_enter Tryd.func87, Tryd.ntmps87
    go_wp2_with fail
    refine (II.out _).mono ?_
    rintro e w' ⟨rfl, rfl⟩
    go_wp2_with fail
    exact bodyPost_ret (v := .agg #[.int .i64 0, .int .i64 0, .int .i64 0]) (by simp [results, Tryd.results87, go_sem]) rfl ⟨rfl, (Below.refl _ _).alloc (Nat.le_refl _) _⟩

@[go_sem] theorem fld_space0 (x y z : Value) (w : World) : (Instr.field 122 (.agg #[x, y, z]) 0).run Tryd.prog w = .ok x w := by kernel_rfl
@[go_sem] theorem fld_space1 (x y z : Value) (w : World) : (Instr.field 122 (.agg #[x, y, z]) 1).run Tryd.prog w = .ok y w := by kernel_rfl
@[go_sem] theorem fld_space2 (x y z : Value) (w : World) : (Instr.field 122 (.agg #[x, y, z]) 2).run Tryd.prog w = .ok z w := by kernel_rfl
theorem bounds_any (b wb : Nat) (A : Ar) (s : Int) (w : World) (h : ArAt w b wb A) : Calls Tryd.prog 43 #[.pointer (some ⟨b, 0, none⟩), .int .i64 s] w fun e w' => e = .returned (.tuple #[.int .i64 (A.first s), .int .i64 (A.behind s)]) ∧ Below w.heap.size w w' := by
  have O := Lib.hid (of_any b wb A s w h)
  generalize A.first s = x at *
  generalize A.behind s = y at *
  generalize A.top s = z at *
  clear h
  go_enter Tryd.func43, Tryd.ntmps43
  go_wp2_with fail
  refine O.out.mono ?_
  rintro e w1 ⟨rfl, hb⟩
  go_wp2_with fail
  go_big_quiet (fail)
  go_wp2_with fail
  go_ret2
  exact ⟨rfl, below_drewN (hb.alloc hb.size _) _⟩

theorem top_any (b wb : Nat) (A : Ar) (s : Int) (w : World) (h : ArAt w b wb A) : Calls Tryd.prog 40 #[.pointer (some ⟨b, 0, none⟩), .int .i64 s] w fun e w' => e = .returned (.int .i64 (A.top s)) ∧ Below w.heap.size w w' := by
  have O := Lib.hid (of_any b wb A s w h)
  generalize A.first s = x at *
  generalize A.behind s = y at *
  generalize A.top s = z at *
  clear h
  go_enter Tryd.func40, Tryd.ntmps40
  go_wp2_with fail
  refine O.out.mono ?_
  rintro e w1 ⟨rfl, hb⟩
  go_wp2_with fail
  go_ret
  exact ⟨rfl, hb⟩

theorem Ar.Ok.sizes {A : Ar} (h : A.Ok) (s : Int) : 0 ≤ A.first s ∧ A.first s ≤ A.top s ∧ A.top s ≤ A.behind s ∧ A.behind s ≤ 262145 := by
  obtain ⟨cv, len, rng, a1, b1, a2, b2, a3, b3, a4, b4, fr⟩ := h
  obtain ⟨e0, e1, s0, s1, t0, t1⟩ := Cfg.bd cv
  unfold Ar.first Ar.top Ar.behind
  by_cases c1 : s = 1
  · rw [if_pos c1, if_pos c1, if_pos c1]; omega
  rw [if_neg c1, if_neg c1, if_neg c1]
  by_cases c2 : s = 2
  · rw [if_pos c2, if_pos c2, if_pos c2]; omega
  rw [if_neg c2, if_neg c2, if_neg c2]
  by_cases c3 : s = 3
  · rw [if_pos c3, if_pos c3, if_pos c3]; omega
  rw [if_neg c3, if_neg c3, if_neg c3]
  by_cases c4 : s = 4
  · rw [if_pos c4, if_pos c4, if_pos c4]; omega
  rw [if_neg c4, if_neg c4, if_neg c4]; omega

theorem free_any (b wb : Nat) (A : Ar) (s : Int) (w : World) (h : ArAt w b wb A) (ok : A.Ok) : Calls Tryd.prog 45 #[.pointer (some ⟨b, 0, none⟩), .int .i64 s] w fun e w' => e = .returned (.int .i64 (A.free s)) ∧ Below w.heap.size w w' := by
  have O := Lib.hid (fun W (hb : Below w.heap.size w W) => of_any b wb A s W (h.below hb))
  have hz := ok.sizes s
  unfold Ar.free
  generalize A.first s = x at *
  generalize A.behind s = y at *
  generalize A.top s = z at *
  clear h ok
  go_enter Tryd.func45, Tryd.ntmps45
  go_wp2_with fail
  refine (O.out _ (Below.refl _ _)).mono ?_
  rintro e w1 ⟨rfl, hb⟩
  go_wp2_with fail
  refine (O.out _ hb).mono ?_
  rintro e w2 ⟨rfl, hb2⟩
  have hb3 := hb.trans (hb2.mono hb.size)
  go_wp2_with fail
  go_ret
  exact ⟨rfl, hb3⟩

theorem from_any (b wb : Nat) (A : Ar) (w : World) (h : ArAt w b wb A) : Calls Tryd.prog 54 #[.pointer (some ⟨b, 0, none⟩)] w fun e w' => e = .returned (.int .i64 A.frm) ∧ w = w' := by
  obtain ⟨hc, hf⟩ := h.cells
  unfold arCells at hc
  clear h
  go_enter Tryd.func54, Tryd.ntmps54
  go_wp2
  go_ret
  exact ⟨rfl, rfl⟩
theorem to_any (b wb : Nat) (A : Ar) (w : World) (h : ArAt w b wb A) (ok : A.Ok) : Calls Tryd.prog 56 #[.pointer (some ⟨b, 0, none⟩)] w fun e w' => e = .returned (.int .i64 A.to) ∧ w = w' := by
  obtain ⟨hc, hf⟩ := h.cells
  have fr := ok.fr
  unfold arCells at hc
  unfold Ar.to
  clear h ok
  have f1 : 2 ≤ A.frm := by omega
  have f2 : A.frm ≤ 3 := by omega
  clear fr
  go_enter Tryd.func56, Tryd.ntmps56
  go_wp2
  go_ret
  exact ⟨rfl, rfl⟩
theorem swap_any (b wb : Nat) (A : Ar) (w : World) (h : ArAt w b wb A) (ok : A.Ok) : Calls Tryd.prog 55 #[.pointer (some ⟨b, 0, none⟩)] w fun e w' => e = .returned (.tuple #[]) ∧ ArAt w' b wb { A with frm := A.to } ∧ Only [b, wb] w w' := by
  obtain ⟨hc, hf⟩ := h.cells
  have T := Lib.hid (to_any b wb A w h ok)
  have hn : ArAt (w.setCell ⟨b, 30, none⟩ (.int .i64 A.to)) b wb { A with frm := A.to } := by
    refine ⟨?_, ?_, h.ne⟩
    · rw [block_set h.st]; simp [arCells]
    · rw [block_set_ne (Ne.symm h.ne)]; exact h.ws
  unfold arCells at hc
  generalize A.to = t at *
  clear h ok
  go_enter Tryd.func55, Tryd.ntmps55
  go_wp2_with fail
  refine T.out.mono ?_
  rintro e w1 ⟨rfl, rfl⟩
  go_wp2_with fail
  go_end0
  exact ⟨rfl, hn, (Only.refl _ _).setCell (by simp) _⟩

theorem setWord_yes (b wb : Nat) (A : Ar) (i v : Int) (w : World) (h : ArAt w b wb A) (h1 : 1 ≤ i) (h2 : i < (A.words.length : Int)) :
    Calls Tryd.prog 50 #[.pointer (some ⟨b, 0, none⟩), .int .i64 i, .int .u64 v] w fun e w' => e = .returned (.bool true) ∧ ArAt w' b wb (A.put i v) ∧ Only [b, wb] w w' := by
  obtain ⟨hc, hf⟩ := h.cells
  have hw := h.wcell (i := i.toNat) (by omega)
  have hwf := h.wfree i.toNat
  have hn := h.setWord i.toNat v
  unfold arCells at hc
  unfold Ar.put
  generalize A.words.getD i.toNat 0 = o at *
  clear h
  go_enter Tryd.func50, Tryd.ntmps50
  go_wp2
  go_ret
  exact ⟨rfl, hn, (Only.refl _ _).setCell (by simp) _⟩
theorem setWord_no (b wb : Nat) (A : Ar) (i v : Int) (w : World) (h : ArAt w b wb A) (h1 : ¬ (1 ≤ i ∧ i < (A.words.length : Int))) :
    Calls Tryd.prog 50 #[.pointer (some ⟨b, 0, none⟩), .int .i64 i, .int .u64 v] w fun e w' => e = .returned (.bool false) ∧ w = w' := by
  obtain ⟨hc, hf⟩ := h.cells
  unfold arCells at hc
  clear h
  by_cases c : i < 1
  · clear h1
    go_enter Tryd.func50, Tryd.ntmps50
    go_wp2
    go_ret
    exact ⟨rfl, rfl⟩
  · have d : decide (i < 1) = false := by simpa using c
    have c1 : (A.words.length : Int) ≤ i := by omega
    clear h1
    go_enter Tryd.func50, Tryd.ntmps50
    go_wp2
    go_ret
    exact ⟨rfl, rfl⟩
end Go.Proofs.YtomgfdfgildkbaaDoor
