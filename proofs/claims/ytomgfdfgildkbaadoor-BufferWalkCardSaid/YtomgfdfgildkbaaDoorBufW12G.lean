/- The walk of the law BufferCount's first question: the chapter's first example. -/
import Derived.Test.YtomgfdfgildkbaaDoorBufW11G
import Derived.Test.YtomgfdfgildkbaaDoorArenaW3
namespace Go.Proofs.YtomgfdfgildkbaaDoor
open Go.RowKit Go.BigFrame

theorem Apart.of {b rb a wb n : Nat} (h1 : a < n) (h2 : wb < n) (h3 : n ≤ b) (h4 : n ≤ rb) : Apart b rb a wb := ⟨by omega, by omega, by omega, by omega⟩
theorem PairAt.first {w2 w3 : World} {a wb b rb : Nat} {c : Cfg} {s : Int} (hc : c.valid = true) (s0 : 0 ≤ s) (s1 : s ≤ 65536) (hA : ArAt w2 a wb (Ar.new c)) (hB : BuAt w3 b rb (Bu.new 2 s)) (b1 : w2.heap.size ≤ b) (b2 : w2.heap.size ≤ rb) (hb : Below w2.heap.size w2 w3) :
    PairAt w3 b rb (Bu.new 2 s) a wb (Ar.new c) :=
  ⟨hB, hA.below hb, Bu.new_ok (by decide) (by decide) s0 s1, Ar.new_ok hc, Apart.of (lt_of_heap hA.st) (lt_of_heap hA.ws) b1 b2⟩
theorem Sum2.told1 {B : Bu} {A : Ar} {sz top free len x y : Int} {r0 : Int × Int} (h : Sum2 B A sz top free len r0 (x, y)) (hy : ¬ y = 0) : B.told 1 = (x, y) := by
  obtain ⟨h1, h2⟩ := h.is (t := 1) (.inr rfl)
  unfold Bu.told
  rw [h1, h2]
  simp [pick2, hy]
set_option maxRecDepth 100000 in
set_option maxHeartbeats 2000000 in
theorem known13_any (w : World) (tb : Tab w) : Calls Tryd.prog 32 #[] w fun e w' => e = .returned (.bool true) ∧ Below w.heap.size w w' := by
  have SM := Lib.hid (fun w => small13_any w)
  have NA := Lib.hid (fun w => new_yes smallCfg w smallCfg_valid)
  have NB := Lib.hid (fun w => bufNew_yes 2 10 w (by decide) (by decide) (by decide) (by decide))
  have PL := Lib.hid (fun r w => plain13_any r w)
  have OLD := Lib.hid @step_old
  have FR := Lib.hid @step_fresh
  have RS := Lib.hid @rest_any
  have TP := Lib.hid @top_any
  have FINE := Lib.hid (fun (r : Int) (h0 : 0 ≤ r) (h1 : r ≤ 65535) => plainHd_fine h0 h1)
  have T0 := Lib.hid (fun w' (hb : Below w.heap.size w w') => tb.below hb)
  have ONLY := Lib.hid (fun (w1 w2 : World) (rb a wb : Nat) (hb : Below w.heap.size w w1) (h1 : w.heap.size ≤ rb) (h2 : w.heap.size ≤ a) (h3 : w.heap.size ≤ wb) (ho : Only [rb, a, wb] w1 w2) => Only.tab hb h1 h2 h3 ho)
  clear tb
  go_enter Tryd.func32, Tryd.ntmps32
  go_wp2_with fail
  refine (SM.out _).mono ?_
  rintro e w1 ⟨rfl, hb1⟩
  go_wp2_with fail
  refine (NA.out _).mono ?_
  rintro e w2 ⟨a, wb, rfl, hA, a1, a2, hb⟩
  have hb2 := hb1.trans (hb.mono hb1.size)
  replace a1 := Nat.le_trans hb1.size a1
  replace a2 := Nat.le_trans hb1.size a2
  clear hb hb1 SM NA
  go_wp2_with fail
  refine (NB.out _).mono ?_
  rintro e w3 ⟨b, rb, rfl, hB, b1, b2, hb⟩
  obtain ⟨B, A, hP, hS⟩ : ∃ B A, PairAt w3 b rb B a wb A ∧ Sum2 B A 10 1 64 257 (0, 0) (0, 0) := ⟨_, _, PairAt.first smallCfg_valid (by decide) (by decide) hA hB b1 b2 hb, Sum2.new smallCfg_valid⟩
  have hb3 := hb2.trans (hb.mono hb2.size)
  replace b1 := Nat.le_trans hb2.size b1
  replace b2 := Nat.le_trans hb2.size b2
  clear hb hb2 hA hB NB w1 w2
  go_wp2_with fail
  refine (PL.out 2 _).mono ?_
  rintro e w1 ⟨rfl, hb⟩
  replace hP := hP.below hb
  have hb1 := hb3.trans (hb.mono hb3.size)
  clear hb hb3 w3
  go_wp2_with fail
  refine (FR.out b rb B a wb A 0 (plainHd 2) w1 (T0.out _ hb1) hP (FINE.out _ (by decide) (by decide)) (by decide) hS (.inl rfl) 4 (by decide) (by decide) (by decide) (by decide)).mono ?_
  rintro e w2 ⟨rfl, ⟨B1, A1, hP1, hS1⟩, ho⟩
  have hb2 := ONLY.out _ _ _ _ _ hb1 b2 a1 a2 ho
  replace hS1 : Sum2 B1 A1 10 11 54 257 (5, 6) (0, 0) := hS1
  clear hP hS ho hb1 w1 B A
  go_wp2_with fail
  refine (PL.out 1 _).mono ?_
  rintro e w1 ⟨rfl, hb⟩
  replace hP1 := hP1.below hb
  have hb1 := hb2.trans (hb.mono hb2.size)
  clear hb hb2 w2
  go_wp2_with fail
  refine (FR.out b rb B1 a wb A1 1 (plainHd 1) w1 (T0.out _ hb1) hP1 (FINE.out _ (by decide) (by decide)) (by decide) hS1 (.inr rfl) 3 (by decide) (by decide) (by decide) (by decide)).mono ?_
  rintro e w2 ⟨rfl, ⟨B2, A2, hP2, hS2⟩, ho⟩
  have hb2 := ONLY.out _ _ _ _ _ hb1 b2 a1 a2 ho
  replace hS2 : Sum2 B2 A2 10 21 44 257 (5, 6) (14, 7) := hS2
  clear hP1 hS1 ho hb1 w1 B1 A1
  go_wp2_with fail
  refine (PL.out 4 _).mono ?_
  rintro e w1 ⟨rfl, hb⟩
  replace hP2 := hP2.below hb
  have hb1 := hb2.trans (hb.mono hb2.size)
  clear hb hb2 w2
  go_wp2_with fail
  refine (OLD.out b rb B2 a wb A2 0 (plainHd 4) w1 (T0.out _ hb1) hP2 (FINE.out _ (by decide) (by decide)) (by decide) hS2 (.inl rfl) 6 5 6 (by decide) (by decide) (by decide) (by decide) (by decide)).mono ?_
  rintro e w2 ⟨rfl, ⟨B3, A3, hP3, hS3⟩, ho⟩
  have hb2 := ONLY.out _ _ _ _ _ hb1 b2 a1 a2 ho
  replace hS3 : Sum2 B3 A3 10 21 44 257 (11, 0) (14, 7) := hS3
  have tl := hS3.told1 (by decide)
  have tt := hS3.t
  clear hP2 hS2 ho hb1 w1 B2 A2
  go_wp2_with fail
  have R1 := RS.out b rb B3 1 w2 hP3.hB hP3.okB
  rw [tl] at R1
  refine R1.mono ?_
  rintro e w1 ⟨rfl, hb⟩
  replace hP3 := hP3.below hb
  have hb1 := hb2.trans (hb.mono hb2.size)
  clear hb hb2 R1 tl w2
  go_wp2_with fail
  have R2 := TP.out a wb A3 1 w1 hP3.hA
  rw [tt] at R2
  refine R2.mono ?_
  rintro e w2 ⟨rfl, hb⟩
  have hb2 := hb1.trans (hb.mono hb1.size)
  clear hb hb1 R2 tt
  go_wp2_with fail
  go_ret
  exact ⟨rfl, hb2⟩
end Go.Proofs.YtomgfdfgildkbaaDoor
