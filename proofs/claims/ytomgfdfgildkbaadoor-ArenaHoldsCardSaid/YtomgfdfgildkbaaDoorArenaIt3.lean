/- The iterator arena.walk$1: it gives just what stands in the space, one by one. -/
import Derived.Test.YtomgfdfgildkbaaDoorArenaIt2
import Derived.Sort.CutIn
import Derived.Sort.BigQuietIn
namespace Go.Proofs.YtomgfdfgildkbaaDoor
open Go.RowKit Go.BigFrame
attribute [local go_sem] Oper.semAt_some

theorem ArAt.sp {w : World} {b wb : Nat} {A : Ar} (h : ArAt w b wb A) {s : Int} (hs : isSp s = true) : w.cell? ⟨b, 15 + s.toNat * 3, none⟩ = some (.int .i64 (A.first s)) ∧ w.cell? ⟨b, 15 + s.toNat * 3 + 1, none⟩ = some (.int .i64 (A.behind s)) ∧ w.cell? ⟨b, 15 + s.toNat * 3 + 2, none⟩ = some (.int .i64 (A.top s)) := by
  obtain ⟨hc, _⟩ := h.cells
  have s1 : 1 ≤ s ∧ s ≤ 4 := by unfold isSp at hs; exact of_decide_eq_true hs
  rcases (show s = 1 ∨ s = 2 ∨ s = 3 ∨ s = 4 by omega) with rfl | rfl | rfl | rfl <;> refine ⟨?_, ?_, ?_⟩ <;> rw [hc] <;> rfl
theorem ArAt.wsl {w : World} {b wb : Nat} {A : Ar} (h : ArAt w b wb A) : w.cell? ⟨b, 14, none⟩ = some (.slice (some ⟨wb, 0, none⟩) A.words.length A.words.length) := by
  obtain ⟨hc, _⟩ := h.cells
  rw [hc]; rfl
theorem set10 {W : World} {b : Nat} {c0 c1 c2 c3 c4 c5 c6 c7 c8 c9 : Value} {t : TypeId} (h : W.heap[b]? = some (.cells #[c0, c1, c2, c3, c4, c5, c6, c7, c8, c9] t (0, 0))) (v0 v1 v2 v3 v4 v5 v6 v7 v8 v9 : Value) :
    (((((((((((W.setCell ⟨b, 0, none⟩ v0).setCell ⟨b, 1, none⟩ v1).setCell ⟨b, 2, none⟩ v2).setCell ⟨b, 3, none⟩ v3).setCell ⟨b, 4, none⟩ v4).setCell ⟨b, 5, none⟩ v5).setCell ⟨b, 6, none⟩ v6).setCell ⟨b, 7, none⟩ v7).setCell ⟨b, 8, none⟩ v8).setCell ⟨b, 9, none⟩ v9)).heap[b]? = some (.cells #[v0, v1, v2, v3, v4, v5, v6, v7, v8, v9] t (0, 0)) := by
  have h0 := block_set h 0 v0
  have h1 := block_set h0 1 v1
  have h2 := block_set h1 2 v2
  have h3 := block_set h2 3 v3
  have h4 := block_set h3 4 v4
  have h5 := block_set h4 5 v5
  have h6 := block_set h5 6 v6
  have h7 := block_set h6 7 v7
  have h8 := block_set h7 8 v8
  have h9 := block_set h8 9 v9
  simpa using h9
theorem set10_below {W a : World} {b B : Nat} (v0 v1 v2 v3 v4 v5 v6 v7 v8 v9 : Value) (h : Below B a W) (hb : B ≤ b) :
    Below B a ((((((((((W.setCell ⟨b, 0, none⟩ v0).setCell ⟨b, 1, none⟩ v1).setCell ⟨b, 2, none⟩ v2).setCell ⟨b, 3, none⟩ v3).setCell ⟨b, 4, none⟩ v4).setCell ⟨b, 5, none⟩ v5).setCell ⟨b, 6, none⟩ v6).setCell ⟨b, 7, none⟩ v7).setCell ⟨b, 8, none⟩ v8).setCell ⟨b, 9, none⟩ v9) := by
  have h0 := Below.setCell (p := ⟨b, 0, none⟩) h hb v0
  have h1 := Below.setCell (p := ⟨b, 1, none⟩) h0 hb v1
  have h2 := Below.setCell (p := ⟨b, 2, none⟩) h1 hb v2
  have h3 := Below.setCell (p := ⟨b, 3, none⟩) h2 hb v3
  have h4 := Below.setCell (p := ⟨b, 4, none⟩) h3 hb v4
  have h5 := Below.setCell (p := ⟨b, 5, none⟩) h4 hb v5
  have h6 := Below.setCell (p := ⟨b, 6, none⟩) h5 hb v6
  have h7 := Below.setCell (p := ⟨b, 7, none⟩) h6 hb v7
  have h8 := Below.setCell (p := ⟨b, 8, none⟩) h7 hb v8
  have h9 := Below.setCell (p := ⟨b, 9, none⟩) h8 hb v9
  exact h9
theorem Ar.Ok.top_le {A : Ar} (ok : A.Ok) (s : Int) : A.top s ≤ (A.words.length : Int) ∧ 0 ≤ A.first s ∧ A.top s ≤ 262145 := by
  obtain ⟨h1, h2, h3, h4, h5⟩ := ok.tops
  obtain ⟨h6, h7, h8, h9⟩ := ok.sizes s
  refine ⟨?_, h6, by omega⟩
  unfold Ar.top
  repeat' split
  all_goals omega
theorem Ar.space_of {A : Ar} (ok : A.Ok) {s i : Int} (hs : isSp s = true) (h1 : A.first s ≤ i) (h2 : i < A.behind s) : A.space i = s := by
  obtain ⟨e0, e1, s0, s1, t0, t1⟩ := Cfg.bd ok.cv
  have s1 : 1 ≤ s ∧ s ≤ 4 := by unfold isSp at hs; exact of_decide_eq_true hs
  rcases (show s = 1 ∨ s = 2 ∨ s = 3 ∨ s = 4 by omega) with rfl | rfl | rfl | rfl <;> simp [Ar.first, Ar.behind] at h1 h2 <;> unfold Ar.space <;> (repeat' split) <;> omega
theorem grown_of_below {w w' : World} (h : Below w.heap.size w w') : w.grownBy w' none := ⟨h.os, h.tape, h.output, h.size, fun k hk _ => h.block k hk⟩
set_option maxRecDepth 100000 in
set_option maxHeartbeats 4000000 in
theorem walk1_gives (b wb bs ba : Nat) (A : Ar) (s : Int) (S : List Nat) (m1 : b ∈ S) (m2 : wb ∈ S) (m3 : bs ∈ S) (m4 : ba ∈ S) (m5 : 1 ∈ S) (m6 : 0 ∈ S) (ok : A.Ok) (w : World) (tb : Tab w) (hA : ArAt w b wb A)
    (hbs : w.cell? ⟨bs, 0, none⟩ = some (.int .i64 s)) (hba : w.cell? ⟨ba, 0, none⟩ = some (.pointer (some ⟨b, 0, none⟩))) :
    Gives 163 #[.pointer (some ⟨bs, 0, none⟩), .pointer (some ⟨ba, 0, none⟩)] (fun x : Th => #[x.val]) S (A.all s) w := by
  intro n l J Jx W hW hJ hJx hY h0
  replace tb := tb.below hW
  replace hA := hA.below hW
  replace hbs := (hW.cell (p := ⟨bs, 0, none⟩) (World.block_lt_of_cell? w ⟨bs, 0, none⟩ hbs)).trans hbs
  replace hba := (hW.cell (p := ⟨ba, 0, none⟩) (World.block_lt_of_cell? w ⟨ba, 0, none⟩ hba)).trans hba
  have IS := Lib.hid (is_any s W)
  have OB := Lib.hid (fun (i : Int) (W' : World) (k : KeptT S W W') => object_any b wb A i W' (tb.kept k m5 m6) (hA.kept k m1 m2) ok)
  clear hW
  refine callsIn_of_wp Tryd.func163 rfl trivial ?_ rfl
  simp only [Tryd.ntmps163, List.size_toArray, List.length_cons, List.length_nil, Nat.reduceAdd, Nat.reduceSub, Array.replicate_succ, Array.replicate_zero, List.push_toArray, List.append_toArray, List.nil_append, List.cons_append]
  by_cases hs : isSp s = true
  · rw [hs] at IS
    obtain ⟨c1, c2, c3⟩ := hA.sp hs
    have s1 : 1 ≤ s ∧ s ≤ 4 := by unfold isSp at hs; exact of_decide_eq_true hs
    have s0 : (0 : Int) ≤ s := by omega
    have s5 : s < (5 : Int) := by omega
    gi_wp2_with fail
    refine ⟨trivial, (fun h => by cases h), (callsIn_wide.2 IS.out).mono ?_⟩
    rintro e w1 ⟨rfl, rfl⟩
    gi_wp2_with fail
    gi_big_quiet_th (fail)
    clear c1 c2 c3 IS
    have DR : ∀ (pre : List Th) (W' : World) (q : Nat), J pre W' → J pre (W'.drewN q) := fun pre W' q h => hJ pre W' _ none h ⟨rfl, rfl, rfl, Nat.le_refl _, fun _ _ _ => rfl⟩ (fun r e => by cases e)
    gi_wp2_with fail
    gi_loopw [4] (fun p wr => ∃ (pre : List Th) (i : Int), p = .int .i64 i ∧ A.all s = pre ++ A.things s i ∧ A.first s ≤ i ∧ J pre wr ∧ KeptT S W wr) (fun p _ => (A.top s - intOf p).toNat)
    case atStart =>
      refine ⟨[], A.first s, rfl, ?_, Int.le_refl _, DR _ _ _ h0, .below (below_drewN (Below.refl _ _) _)⟩
      unfold Ar.all; rw [if_pos hs]; rfl
    case round =>
      obtain ⟨pre, i, rfl, hx, hi, hJr, hk⟩ := hrel
      have hA' := hA.kept hk m1 m2
      obtain ⟨c1, c2, c3⟩ := hA'.sp hs
      have cs := hk.cell m3 hbs
      have ca := hk.cell m4 hba
      by_cases hlt : i < A.top s
      · gi_wp2_with fail
        gi_big_quiet_th (fail)
        replace hJr := DR _ _ nq hJr
        replace hk := hk.trans (.below (below_drewN (Below.refl _ wr) nq))
        clear cs ca c1 c2 c3 hA'
        generalize wr.drewN nq = w2 at *
        gi_upto_region 4 with fail
        have hX := heap_one w2 (.cells #[.int .i64 i, .int .i64 0, .int .u64 0, .int .i64 0, .int .i64 0, .int .i64 0, .int .i64 0, .int .i64 0, .bool false, .bool false] 193)
        have hb2 := (Below.refl w2.heap.size w2).alloc (Nat.le_refl _) (.cells #[.int .i64 i, .int .i64 0, .int .u64 0, .int .i64 0, .int .i64 0, .int .i64 0, .int .i64 0, .int .i64 0, .bool false, .bool false] 193)
        generalize w2.alloc (.cells #[.int .i64 i, .int .i64 0, .int .u64 0, .int .i64 0, .int .i64 0, .int .i64 0, .int .i64 0, .int .i64 0, .bool false, .bool false] 193) = w3 at *
        have HK := Lib.hid (fun (wx : World) (h : Below w2.heap.size w2 wx) => hk.trans (.below h))
        have HJ := Lib.hid (fun (wx : World) (h : Below w2.heap.size w2 wx) => hJ _ _ _ none hJr (grown_of_below h) (fun r e => by cases e))
        have cs := (HK.out _ hb2).cell m3 hbs
        have ca := (HK.out _ hb2).cell m4 hba
        generalize w2.heap.size = p at *
        clear hJr hk
        gi_wp2_with fail
        refine ⟨trivial, (fun h => by cases h), (callsIn_wide.2 (OB.out i w3 (HK.out _ hb2))).mono ?_⟩
        rintro e w4 ⟨rfl, hb⟩
        have hb4 := hb2.trans (hb.mono (Nat.le_of_lt (lt_of_heap hX)))
        replace hX := (hb.block _ (lt_of_heap hX)).trans hX
        clear hb hb2 cs ca w3
        generalize hhd : A.hd i = h9 at *
        obtain ⟨x0, x1, x2, x3, x4, x5, x6⟩ := h9
        unfold Hd.val
        simp only
        gi_upto_if 39 with fail
        have hbH := (Below.refl w4.heap.size w4).alloc (Nat.le_refl _) (.cells #[.int .u64 x0, .int .i64 x1, .int .i64 x2, .int .i64 x3, .int .i64 x4, .int .i64 x5, .bool x6] 24)
        have hH := heap_one w4 (.cells #[.int .u64 x0, .int .i64 x1, .int .i64 x2, .int .i64 x3, .int .i64 x4, .int .i64 x5, .bool x6] 24)
        have hpq := lt_of_heap hX
        replace hX := (hbH.block _ hpq).trans hX
        have hb5 := hb4.trans (hbH.mono (Nat.le_of_lt hpq))
        generalize w4.alloc (.cells #[.int .u64 x0, .int .i64 x1, .int .i64 x2, .int .i64 x3, .int .i64 x4, .int .i64 x5, .bool x6] 24) = w5 at *
        generalize w4.heap.size = q at *
        clear hbH hb4 w4
        gi_cut [6, 8] from 21 (fun _ _ wx => Below p w2 wx ∧ wx.heap[p]? = some (.cells (A.th s i).cells 193 (0, 0)))
        case first =>
          by_cases ho : A.isObj i = true
          · have hth : A.th s i = ⟨i, A.osz i, ⟨x0, x1, x2, x3, x4, x5, x6⟩, true⟩ := by unfold Ar.th; rw [if_pos ho, hhd]
            rw [ho]
            obtain ⟨cX, fX⟩ := hcell hX
            obtain ⟨cH, fH⟩ := hcell hH
            have hosl : A.osl wb i = .slice (some ⟨wb, i.toNat, none⟩) (A.osz i).toNat (A.osz i).toNat := by unfold Ar.osl; rw [ho]; rfl
            have hsz : ((A.osz i).toNat : Int) = A.osz i := by have f := (isObj_facts ok ho).2.2.2.1; have := f.p0; have := f.r0; have := (isObj_facts ok ho).2.2.2.2.1; omega
            rw [hosl]
            gi_wp2_with fail
            gi_meet
            refine ⟨set10_below _ _ _ _ _ _ _ _ _ _ hb5 (Nat.le_refl _), ?_⟩
            rw [hth]
            have h10 := set10 hX (.int .i64 i) (.int .i64 (A.osz i)) (.int .u64 x0) (.int .i64 x1) (.int .i64 x2) (.int .i64 x3) (.int .i64 x4) (.int .i64 x5) (.bool x6) (.bool true)
            exact h10
          · have ho : A.isObj i = false := by simpa using ho
            have hth : A.th s i = ⟨i, A.fw s i, nohd, false⟩ := by unfold Ar.th; rw [ho]; rfl
            rw [ho]
            have hA5 := hA.kept (HK.out _ hb5) m1 m2
            have cs := (HK.out _ hb5).cell m3 hbs
            have ca := (HK.out _ hb5).cell m4 hba
            obtain ⟨c1, c2, c3⟩ := hA5.sp hs
            have cw := hA5.wsl
            obtain ⟨tl, fi, tm⟩ := ok.top_le s
            have i0 : (0 : Int) ≤ i := by omega
            have i1 : i < (A.words.length : Int) := by omega
            have i2 : i ≤ 262145 := by omega
            have cv := hA5.word i0 i1
            have FI := Lib.hid (fun w => filled_any (A.word i) w (ok.word i).1 (ok.word i).2)
            have hfw : A.fw s i = if (numT 3 (A.word i)).2 = true ∧ (numT 3 (A.word i)).1 ≤ A.top s - i then (numT 3 (A.word i)).1 else 0 := rfl
            generalize numT 3 (A.word i) = nt at *
            obtain ⟨fn, fo⟩ := nt
            simp only at FI hfw
            generalize A.word i = wv at *
            gi_wp2_with fail
            refine ⟨trivial, (fun h => by cases h), (callsIn_wide.2 (FI.out _)).mono ?_⟩
            rintro e w6 ⟨rfl, rfl⟩
            gi_upto_region 8 with fail
            cases fo with
            | false =>
              have hz : A.fw s i = 0 := by rw [hfw]; simp
              gi_big_quiet_th (fail)
              gi_wp2_with fail
              gi_meet
              refine ⟨below_drewN hb5 _, ?_⟩
              rw [hth, hz]
              exact hX
            | true =>
              by_cases qf : fn ≤ A.top s - i
              · have hz : A.fw s i = fn := by rw [hfw, if_pos ⟨rfl, qf⟩]
                obtain ⟨cX, fX⟩ := hcell hX
                have qd : decide (fn ≤ A.top s - i) = true := by simp; omega
                gi_big_quiet_th (fail)
                gi_wp2_with fail
                gi_meet
                refine ⟨Below.setCell (p := ⟨p, 1, none⟩) (below_drewN hb5 _) (Nat.le_refl _) _, ?_⟩
                rw [hth, hz]
                exact (block_set (w := w5.drewN nq) hX 1 (.int .i64 fn)).trans (by simp [Th.cells, nohd])
              · have hz : A.fw s i = 0 := by rw [hfw, if_neg (by simp; omega)]
                have qd : decide (fn ≤ A.top s - i) = false := by simp; omega
                gi_big_quiet_th (fail)
                gi_wp2_with fail
                gi_meet
                refine ⟨below_drewN hb5 _, ?_⟩
                rw [hth, hz]
                exact hX
        case rest =>
          obtain ⟨hbw, hXw⟩ := hcut
          clear hb5 hX hH hhd x0 x1 x2 x3 x4 x5 x6
          generalize wc = w6 at *
          have hJ6 := HJ.out _ hbw
          have hk6 := HK.out _ hbw
          obtain ⟨tl, fi, tm⟩ := ok.top_le s
          have hw0 : 0 ≤ (A.th s i).words ∧ i + (A.th s i).words ≤ A.top s := by
            unfold Ar.th
            split
            · rename_i ho
              have f := (isObj_facts ok ho).2.2.2.1
              have := f.p0
              have := f.r0
              have h5 := (isObj_facts ok ho).2.2.2.2.1
              unfold Ar.isObj at ho
              simp only [Bool.and_eq_true, decide_eq_true_eq] at ho
              have h6 := ok.sizes s
              rw [Ar.space_of ok hs hi (by omega)] at ho
              refine ⟨by simp only; omega, by simp only; omega⟩
            · exact A.fw_bd s i hlt
          have hat := A.th_at s i
          have hpre : pre ++ [A.th s i] <+: A.all s := by
            rw [hx]
            by_cases hw : 0 < (A.th s i).words
            · rw [A.things_on hlt hw]; exact ⟨A.things s (i + (A.th s i).words), by simp⟩
            · rw [A.things_bad hlt hw]; exact List.prefix_refl _
          have hon := fun h => A.things_on hlt h
          have hoff := fun h => A.things_bad hlt h
          generalize A.th s i = x at *
          obtain ⟨fn, tmps, assign, body, hy, hR⟩ := hY (n - 1) pre x w6 hJ6 hpre
          obtain ⟨xa, xw, ⟨x0, x1, x2, x3, x4, x5, x6⟩, xo⟩ := x
          obtain rfl : xa = i := hat
          unfold Th.cells at hXw
          unfold Th.val Th.cells at hy
          simp only at hXw hy hw0 hon hoff
          obtain ⟨cX, fX⟩ := hcell hXw
          gi_wp2_with fail
          refine ⟨(fun h => by cases h), hR.mono ?_⟩
          rintro e w7 (⟨rfl, hJ7, hk7⟩ | ⟨rfl, hJx7⟩)
          · replace hXw := (hk7.thg p _ _ hXw).trans hXw
            clear cX fX hy hR
            obtain ⟨cX, fX⟩ := hcell hXw
            by_cases hw : 0 < xw
            · have hq : (xw == 0) = false := by simp; omega
              have hw1 := hw0.2
              have hx0 : 0 ≤ xa := by omega
              gi_wp2_with fail
              exact ⟨⟨pre ++ [⟨xa, xw, ⟨x0, x1, x2, x3, x4, x5, x6⟩, xo⟩], xa + xw, rfl, by rw [hx, hon hw]; simp, by omega, hJ7, hk6.trans hk7⟩, by simp [intOf]; omega⟩
            · obtain rfl : xw = 0 := by omega
              gi_wp2_with fail
              refine bodyPost_ret (results_none rfl _ _ _) rfl ?_
              refine ⟨⟨_, rfl⟩, .inl ?_⟩
              rw [hx, hoff hw]
              exact hJ7
          · gi_wp2_with fail
            refine bodyPost_ret (results_none rfl _ _ _) rfl ?_
            exact ⟨⟨_, rfl⟩, .inr ⟨_, hpre, hJx7⟩⟩
      · have hnil := A.things_end hlt
        gi_wp2_with fail
        gi_big_quiet_th (fail)
        gi_wp2_with fail
        go_end0
        refine ⟨⟨_, rfl⟩, .inl ?_⟩
        rw [hx, hnil, List.append_nil]
        exact DR _ _ _ hJr
  · have hs' : isSp s = false := by simpa using hs
    rw [hs'] at IS
    gi_wp2_with fail
    refine ⟨trivial, (fun h => by cases h), (callsIn_wide.2 IS.out).mono ?_⟩
    rintro e w1 ⟨rfl, rfl⟩
    gi_wp2_with fail
    refine bodyPost_ret (results_none rfl _ _ _) rfl ?_
    refine ⟨⟨_, rfl⟩, .inl ?_⟩
    unfold Ar.all; rw [if_neg hs]
    exact h0
end Go.Proofs.YtomgfdfgildkbaaDoor
