/- The walks of package arena, fifth part: words taken and given back. -/
import Derived.Test.YtomgfdfgildkbaaDoorArenaW4
namespace Go.Proofs.YtomgfdfgildkbaaDoor
open Go.RowKit Go.BigFrame

theorem piece_any (b wb : Nat) (A : Ar) (i n : Int) (w : World) (h : ArAt w b wb A) (h0 : 0 ≤ i) (h1 : 1 ≤ n) (h2 : i + n ≤ (A.words.length : Int)) (h3 : (A.words.length : Int) ≤ 1000000) :
    Calls Tryd.prog 92 #[.pointer (some ⟨b, 0, none⟩), .int .i64 i, .int .i64 n] w fun e w' => e = .returned (.slice (some ⟨wb, i.toNat, none⟩) n.toNat n.toNat) ∧ w = w' := by
  obtain ⟨hc, hf⟩ := h.cells
  unfold arCells at hc
  generalize A.words.length = N at *
  clear h
  go_enter Tryd.func92, Tryd.ntmps92
  go_wp2
  go_ret
  refine ⟨?_, rfl⟩
  simp
  omega

theorem ArAt.drew {w : World} {b wb : Nat} {A : Ar} (h : ArAt w b wb A) : ArAt w.drew b wb A := ⟨h.st, h.ws, h.ne⟩
theorem ArAt.drewN {w : World} {b wb : Nat} {A : Ar} (h : ArAt w b wb A) (n : Nat) : ArAt (w.drewN n) b wb A := ⟨h.st, h.ws, h.ne⟩

set_option maxHeartbeats 1000000 in
theorem take_1 (b wb : Nat) (A : Ar) (n : Int) (w : World) (h : ArAt w b wb A) (ok : A.Ok) (h1 : 1 ≤ n) (h2 : n ≤ A.free 1) :
    Calls Tryd.prog 48 #[.pointer (some ⟨b, 0, none⟩), .int .i64 1, .int .i64 n] w fun e w' => e = .returned (.tuple #[.int .i64 A.t1, .bool true]) ∧ ArAt w' b wb (A.take 1 n) ∧ Only [b, wb] w w' := by
  have I := fun w => is_any 1 w
  rw [show isSp 1 = true by decide] at I
  have F := free_any b wb A 1 w h ok
  have len := ok.len
  obtain ⟨e0, e1, s0, s1, t0, t1⟩ := Cfg.bd ok.cv
  have a1 := ok.a1
  have b1 := ok.b1
  have hfr : A.free 1 = 1 + A.cfg.eden - A.t1 := by simp [Ar.free, Ar.behind, Ar.top]
  have hsz : (A.words.length : Int) ≤ 1000000 := by rw [len]; unfold Cfg.size; omega
  have hle : A.t1 + n ≤ (A.words.length : Int) := by rw [len]; unfold Cfg.size; omega
  have P := fun (W : World) (hb : Below w.heap.size w W) => piece_any b wb A A.t1 n W (h.below hb) (by omega) h1 hle hsz
  have II := Lib.hid I
  have FF := Lib.hid F
  have PP := Lib.hid P
  have HH := Lib.hid h
  clear I F P len
  go_enter Tryd.func48, Tryd.ntmps48
  go_wp2_with fail
  refine (II.out _).mono ?_
  rintro e w1 ⟨rfl, rfl⟩
  go_wp2_with fail
  refine FF.out.mono ?_
  rintro e w1 ⟨rfl, hb⟩
  have hw := HH.out.below hb
  obtain ⟨hc, hf⟩ := hw.cells
  unfold arCells at hc
  go_wp2_with fail
  refine (PP.out _ hb).mono ?_
  rintro e w2 ⟨rfl, rfl⟩
  have hclr := fun ty => clr_u64 w1 wb A.words A.t1.toNat n.toNat n.toNat ty hw.ws (by omega) (by omega)
  go_wp2_with fail
  have hz := hw.zero A.t1.toNat n.toNat (by omega)
  have ho : Only [b, wb] w (w1.setRow wb (u64s (zeroAt A.words A.t1.toNat n.toNat))) := (Only.of_below hb).setRow (by simp) _
  clear hclr hc hf hw hb
  generalize w1.setRow wb (u64s (zeroAt A.words A.t1.toNat n.toNat)) = W2 at *
  obtain ⟨hc, hf⟩ := hz.cells
  unfold arCells at hc
  simp only at hc
  have hn : ArAt (W2.setCell ⟨b, 20, none⟩ (.int .i64 (A.t1 + n))) b wb (A.take 1 n) := by
    refine ⟨?_, ?_, hz.ne⟩
    · rw [block_set hz.st]; simp [arCells, Ar.take, Ar.setTop, Ar.top]
    · rw [block_set_ne (Ne.symm hz.ne), hz.ws]; simp [Ar.take, Ar.setTop, Ar.top]
  have ho2 : Only [b, wb] w (W2.setCell ⟨b, 20, none⟩ (.int .i64 (A.t1 + n))) := ho.setCell (by simp) _
  have HN := Lib.hid hn
  have HO := Lib.hid ho2
  clear hn ho2 hz ho
  go_region
  all_goals
    go_wp2
    go_ret2
    exact ⟨rfl, HN.out.drew, HO.out.drew⟩

set_option maxHeartbeats 1000000 in
theorem take_2 (b wb : Nat) (A : Ar) (n : Int) (w : World) (h : ArAt w b wb A) (ok : A.Ok) (h1 : 1 ≤ n) (h2 : n ≤ A.free 2) :
    Calls Tryd.prog 48 #[.pointer (some ⟨b, 0, none⟩), .int .i64 2, .int .i64 n] w fun e w' => e = .returned (.tuple #[.int .i64 A.t2, .bool true]) ∧ ArAt w' b wb (A.take 2 n) ∧ Only [b, wb] w w' := by
  have I := fun w => is_any 2 w
  rw [show isSp 2 = true by decide] at I
  have F := free_any b wb A 2 w h ok
  have len := ok.len
  obtain ⟨e0, e1, s0, s1, t0, t1⟩ := Cfg.bd ok.cv
  have a1 := ok.a2
  have b1 := ok.b2
  have hfr : A.free 2 = 1 + A.cfg.eden + A.cfg.surv - A.t2 := by simp [Ar.free, Ar.behind, Ar.top]
  have hsz : (A.words.length : Int) ≤ 1000000 := by rw [len]; unfold Cfg.size; omega
  have hle : A.t2 + n ≤ (A.words.length : Int) := by rw [len]; unfold Cfg.size; omega
  have P := fun (W : World) (hb : Below w.heap.size w W) => piece_any b wb A A.t2 n W (h.below hb) (by omega) h1 hle hsz
  have II := Lib.hid I
  have FF := Lib.hid F
  have PP := Lib.hid P
  have HH := Lib.hid h
  clear I F P len
  go_enter Tryd.func48, Tryd.ntmps48
  go_wp2_with fail
  refine (II.out _).mono ?_
  rintro e w1 ⟨rfl, rfl⟩
  go_wp2_with fail
  refine FF.out.mono ?_
  rintro e w1 ⟨rfl, hb⟩
  have hw := HH.out.below hb
  obtain ⟨hc, hf⟩ := hw.cells
  unfold arCells at hc
  go_wp2_with fail
  refine (PP.out _ hb).mono ?_
  rintro e w2 ⟨rfl, rfl⟩
  have hclr := fun ty => clr_u64 w1 wb A.words A.t2.toNat n.toNat n.toNat ty hw.ws (by omega) (by omega)
  go_wp2_with fail
  have hz := hw.zero A.t2.toNat n.toNat (by omega)
  have ho : Only [b, wb] w (w1.setRow wb (u64s (zeroAt A.words A.t2.toNat n.toNat))) := (Only.of_below hb).setRow (by simp) _
  clear hclr hc hf hw hb
  generalize w1.setRow wb (u64s (zeroAt A.words A.t2.toNat n.toNat)) = W2 at *
  obtain ⟨hc, hf⟩ := hz.cells
  unfold arCells at hc
  simp only at hc
  have hn : ArAt (W2.setCell ⟨b, 23, none⟩ (.int .i64 (A.t2 + n))) b wb (A.take 2 n) := by
    refine ⟨?_, ?_, hz.ne⟩
    · rw [block_set hz.st]; simp [arCells, Ar.take, Ar.setTop, Ar.top]
    · rw [block_set_ne (Ne.symm hz.ne), hz.ws]; simp [Ar.take, Ar.setTop, Ar.top]
  have ho2 : Only [b, wb] w (W2.setCell ⟨b, 23, none⟩ (.int .i64 (A.t2 + n))) := ho.setCell (by simp) _
  have HN := Lib.hid hn
  have HO := Lib.hid ho2
  clear hn ho2 hz ho
  go_region
  all_goals
    go_wp2
    go_ret2
    exact ⟨rfl, HN.out.drew, HO.out.drew⟩

set_option maxHeartbeats 1000000 in
theorem take_3 (b wb : Nat) (A : Ar) (n : Int) (w : World) (h : ArAt w b wb A) (ok : A.Ok) (h1 : 1 ≤ n) (h2 : n ≤ A.free 3) :
    Calls Tryd.prog 48 #[.pointer (some ⟨b, 0, none⟩), .int .i64 3, .int .i64 n] w fun e w' => e = .returned (.tuple #[.int .i64 A.t3, .bool true]) ∧ ArAt w' b wb (A.take 3 n) ∧ Only [b, wb] w w' := by
  have I := fun w => is_any 3 w
  rw [show isSp 3 = true by decide] at I
  have F := free_any b wb A 3 w h ok
  have len := ok.len
  obtain ⟨e0, e1, s0, s1, t0, t1⟩ := Cfg.bd ok.cv
  have a1 := ok.a3
  have b1 := ok.b3
  have hfr : A.free 3 = 1 + A.cfg.eden + A.cfg.surv + A.cfg.surv - A.t3 := by simp [Ar.free, Ar.behind, Ar.top]
  have hsz : (A.words.length : Int) ≤ 1000000 := by rw [len]; unfold Cfg.size; omega
  have hle : A.t3 + n ≤ (A.words.length : Int) := by rw [len]; unfold Cfg.size; omega
  have P := fun (W : World) (hb : Below w.heap.size w W) => piece_any b wb A A.t3 n W (h.below hb) (by omega) h1 hle hsz
  have II := Lib.hid I
  have FF := Lib.hid F
  have PP := Lib.hid P
  have HH := Lib.hid h
  clear I F P len
  go_enter Tryd.func48, Tryd.ntmps48
  go_wp2_with fail
  refine (II.out _).mono ?_
  rintro e w1 ⟨rfl, rfl⟩
  go_wp2_with fail
  refine FF.out.mono ?_
  rintro e w1 ⟨rfl, hb⟩
  have hw := HH.out.below hb
  obtain ⟨hc, hf⟩ := hw.cells
  unfold arCells at hc
  go_wp2_with fail
  refine (PP.out _ hb).mono ?_
  rintro e w2 ⟨rfl, rfl⟩
  have hclr := fun ty => clr_u64 w1 wb A.words A.t3.toNat n.toNat n.toNat ty hw.ws (by omega) (by omega)
  go_wp2_with fail
  have hz := hw.zero A.t3.toNat n.toNat (by omega)
  have ho : Only [b, wb] w (w1.setRow wb (u64s (zeroAt A.words A.t3.toNat n.toNat))) := (Only.of_below hb).setRow (by simp) _
  clear hclr hc hf hw hb
  generalize w1.setRow wb (u64s (zeroAt A.words A.t3.toNat n.toNat)) = W2 at *
  obtain ⟨hc, hf⟩ := hz.cells
  unfold arCells at hc
  simp only at hc
  have hn : ArAt (W2.setCell ⟨b, 26, none⟩ (.int .i64 (A.t3 + n))) b wb (A.take 3 n) := by
    refine ⟨?_, ?_, hz.ne⟩
    · rw [block_set hz.st]; simp [arCells, Ar.take, Ar.setTop, Ar.top]
    · rw [block_set_ne (Ne.symm hz.ne), hz.ws]; simp [Ar.take, Ar.setTop, Ar.top]
  have ho2 : Only [b, wb] w (W2.setCell ⟨b, 26, none⟩ (.int .i64 (A.t3 + n))) := ho.setCell (by simp) _
  have HN := Lib.hid hn
  have HO := Lib.hid ho2
  clear hn ho2 hz ho
  go_region
  all_goals
    go_wp2
    go_ret2
    exact ⟨rfl, HN.out.drew, HO.out.drew⟩

set_option maxHeartbeats 1000000 in
theorem take_4 (b wb : Nat) (A : Ar) (n : Int) (w : World) (h : ArAt w b wb A) (ok : A.Ok) (h1 : 1 ≤ n) (h2 : n ≤ A.free 4) :
    Calls Tryd.prog 48 #[.pointer (some ⟨b, 0, none⟩), .int .i64 4, .int .i64 n] w fun e w' => e = .returned (.tuple #[.int .i64 A.t4, .bool true]) ∧ ArAt w' b wb (A.take 4 n) ∧ Only [b, wb] w w' := by
  have I := fun w => is_any 4 w
  rw [show isSp 4 = true by decide] at I
  have F := free_any b wb A 4 w h ok
  have len := ok.len
  obtain ⟨e0, e1, s0, s1, t0, t1⟩ := Cfg.bd ok.cv
  have a1 := ok.a4
  have b1 := ok.b4
  have hfr : A.free 4 = 1 + A.cfg.eden + A.cfg.surv + A.cfg.surv + A.cfg.ten - A.t4 := by simp [Ar.free, Ar.behind, Ar.top]
  have hsz : (A.words.length : Int) ≤ 1000000 := by rw [len]; unfold Cfg.size; omega
  have hle : A.t4 + n ≤ (A.words.length : Int) := by rw [len]; unfold Cfg.size; omega
  have P := fun (W : World) (hb : Below w.heap.size w W) => piece_any b wb A A.t4 n W (h.below hb) (by omega) h1 hle hsz
  have II := Lib.hid I
  have FF := Lib.hid F
  have PP := Lib.hid P
  have HH := Lib.hid h
  clear I F P len
  go_enter Tryd.func48, Tryd.ntmps48
  go_wp2_with fail
  refine (II.out _).mono ?_
  rintro e w1 ⟨rfl, rfl⟩
  go_wp2_with fail
  refine FF.out.mono ?_
  rintro e w1 ⟨rfl, hb⟩
  have hw := HH.out.below hb
  obtain ⟨hc, hf⟩ := hw.cells
  unfold arCells at hc
  go_wp2_with fail
  refine (PP.out _ hb).mono ?_
  rintro e w2 ⟨rfl, rfl⟩
  have hclr := fun ty => clr_u64 w1 wb A.words A.t4.toNat n.toNat n.toNat ty hw.ws (by omega) (by omega)
  go_wp2_with fail
  have hz := hw.zero A.t4.toNat n.toNat (by omega)
  have ho : Only [b, wb] w (w1.setRow wb (u64s (zeroAt A.words A.t4.toNat n.toNat))) := (Only.of_below hb).setRow (by simp) _
  clear hclr hc hf hw hb
  generalize w1.setRow wb (u64s (zeroAt A.words A.t4.toNat n.toNat)) = W2 at *
  obtain ⟨hc, hf⟩ := hz.cells
  unfold arCells at hc
  simp only at hc
  have hn : ArAt (W2.setCell ⟨b, 29, none⟩ (.int .i64 (A.t4 + n))) b wb (A.take 4 n) := by
    refine ⟨?_, ?_, hz.ne⟩
    · rw [block_set hz.st]; simp [arCells, Ar.take, Ar.setTop, Ar.top]
    · rw [block_set_ne (Ne.symm hz.ne), hz.ws]; simp [Ar.take, Ar.setTop, Ar.top]
  have ho2 : Only [b, wb] w (W2.setCell ⟨b, 29, none⟩ (.int .i64 (A.t4 + n))) := ho.setCell (by simp) _
  have HN := Lib.hid hn
  have HO := Lib.hid ho2
  clear hn ho2 hz ho
  go_region
  all_goals
    go_wp2
    go_ret2
    exact ⟨rfl, HN.out.drew, HO.out.drew⟩

theorem take_yes (b wb : Nat) (A : Ar) (s n : Int) (w : World) (h : ArAt w b wb A) (ok : A.Ok) (hs : isSp s = true) (h1 : 1 ≤ n) (h2 : n ≤ A.free s) :
    Calls Tryd.prog 48 #[.pointer (some ⟨b, 0, none⟩), .int .i64 s, .int .i64 n] w fun e w' => e = .returned (.tuple #[.int .i64 (A.top s), .bool true]) ∧ ArAt w' b wb (A.take s n) ∧ Only [b, wb] w w' := by
  unfold isSp at hs
  have hs' : s = 1 ∨ s = 2 ∨ s = 3 ∨ s = 4 := by have := of_decide_eq_true hs; omega
  rcases hs' with rfl | rfl | rfl | rfl
  · exact take_1 b wb A n w h ok h1 h2
  · exact take_2 b wb A n w h ok h1 h2
  · exact take_3 b wb A n w h ok h1 h2
  · exact take_4 b wb A n w h ok h1 h2

theorem take_no (b wb : Nat) (A : Ar) (s n : Int) (w : World) (h : ArAt w b wb A) (ok : A.Ok) (hs : ¬ (isSp s = true ∧ 1 ≤ n ∧ n ≤ A.free s)) :
    Calls Tryd.prog 48 #[.pointer (some ⟨b, 0, none⟩), .int .i64 s, .int .i64 n] w fun e w' => e = .returned (.tuple #[.int .i64 0, .bool false]) ∧ Below w.heap.size w w' := by
  have I := Lib.hid (fun w => is_any s w)
  have F := Lib.hid (free_any b wb A s w h ok)
  by_cases c : isSp s = true
  · by_cases c1 : 1 ≤ n
    · have c2 : A.free s < n := by
        by_cases q : n ≤ A.free s
        · exact absurd ⟨c, c1, q⟩ hs
        · omega
      have d1 : decide (n < 1) = false := by simp; omega
      rw [c] at I
      generalize A.free s = f at *
      clear hs h ok c
      go_enter Tryd.func48, Tryd.ntmps48
      go_wp2_with fail
      refine (I.out _).mono ?_
      rintro e w1 ⟨rfl, rfl⟩
      go_wp2_with fail
      refine F.out.mono ?_
      rintro e w1 ⟨rfl, hb⟩
      go_wp2_with fail
      go_ret2
      exact ⟨rfl, hb⟩
    · have c2 : n < 1 := by omega
      rw [c] at I
      clear hs h ok c c1 F
      go_enter Tryd.func48, Tryd.ntmps48
      go_wp2_with fail
      refine (I.out _).mono ?_
      rintro e w1 ⟨rfl, rfl⟩
      go_wp2_with fail
      go_ret2
      exact ⟨rfl, Below.refl _ _⟩
  · have c' : isSp s = false := by simpa using c
    rw [c'] at I
    clear hs h ok c c' F
    go_enter Tryd.func48, Tryd.ntmps48
    go_wp2_with fail
    refine (I.out _).mono ?_
    rintro e w1 ⟨rfl, rfl⟩
    go_wp2_with fail
    go_ret2
    exact ⟨rfl, Below.refl _ _⟩

theorem Ar.take_words (A : Ar) (s n : Int) : (A.take s n).words = zeroAt A.words (A.top s).toNat n.toNat := by
  unfold Ar.take Ar.setTop
  (repeat' split) <;> rfl
theorem Ar.take_cfg (A : Ar) (s n : Int) : (A.take s n).cfg = A.cfg := by
  unfold Ar.take Ar.setTop
  (repeat' split) <;> rfl
theorem Ar.take_frm (A : Ar) (s n : Int) : (A.take s n).frm = A.frm := by
  unfold Ar.take Ar.setTop
  (repeat' split) <;> rfl

theorem Ar.Ok.take {A : Ar} (ok : A.Ok) {s n : Int} (hs : isSp s = true) (h1 : 1 ≤ n) (h2 : n ≤ A.free s) : (A.take s n).Ok := by
  have hz := ok.sizes s
  obtain ⟨cv, len, rng, a1, b1, a2, b2, a3, b3, a4, b4, fr⟩ := ok
  obtain ⟨e0, e1, s0, s1, t0, t1⟩ := Cfg.bd cv
  unfold isSp at hs
  have hs' : s = 1 ∨ s = 2 ∨ s = 3 ∨ s = 4 := by have := of_decide_eq_true hs; omega
  have hle : A.behind s ≤ (A.words.length : Int) := by
    rw [len]; unfold Cfg.size Ar.behind
    rcases hs' with rfl | rfl | rfl | rfl <;> simp <;> omega
  have hwl : (zeroAt A.words (A.top s).toNat n.toNat).length = A.words.length := zeroAt_length (by unfold Ar.free at h2; omega)
  have hr : ∀ x ∈ (A.take s n).words, 0 ≤ x ∧ x < 18446744073709551616 := by
    rw [Ar.take_words]
    intro x hx
    rcases zeroAt_mem hx with rfl | h
    · decide
    · exact rng x h
  have hl : (((A.take s n).words.length : Nat) : Int) = (A.take s n).cfg.size := by rw [Ar.take_words, Ar.take_cfg, hwl, len]
  unfold Ar.free at h2
  rcases hs' with rfl | rfl | rfl | rfl
  all_goals
    simp [Ar.behind, Ar.top] at h2
    refine ⟨by rw [Ar.take_cfg]; exact cv, hl, hr, ?_, ?_, ?_, ?_, ?_, ?_, ?_, ?_, ?_⟩
    all_goals (simp [Ar.take, Ar.setTop, Ar.top]; omega)
end Go.Proofs.YtomgfdfgildkbaaDoor
