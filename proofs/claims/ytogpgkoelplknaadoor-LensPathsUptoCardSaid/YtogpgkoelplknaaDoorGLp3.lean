/- Merged texts: Rm7, Rm8, Rm9, Rm10, Rm11, Rm12, Sg1, Lg19, Lg20, Lg21, Lg22, Lg23, Lg24. No condition of its own: each text says what it holds. -/
import Derived.Test.YtogpgkoelplknaaDoorGLp2
import Derived.Test.YtogpgkoelplknaaDoorPLensPathsx15
section
/- middenroom: Graph. No condition. -/

namespace Go.Proofs.YtogpgkoelplknaaDoor
open Go.RowKit Go.BigFrame PLensPaths Go.Proofs.YtogpgkoelplknaaDoorW.PrintWords Go.Proofs.YtogpgkoelplknaaDoorW.PrintMore
set_option linter.unusedVariables false
/-- A graph whose lists are a room's copies. -/
structure InAt (w : World) (b : Nat) (ok : Nat → Prop) (g : Gv) (G : Gr) : Prop where
  m0 : kSO.M w b ok G.obs [.slice g.A0 G.obs.length g.c0]
  m1 : kS3.M w b ok G.slots [.slice g.A1 G.slots.length g.c1]
  m2 : kS1.M w b ok G.hands [.slice g.A2 G.hands.length g.c2]
  m3 : kS1.M w b ok G.reg [.slice g.A3 G.reg.length g.c3]
  m4 : kS1.M w b ok G.queue [.slice g.A4 G.queue.length g.c4]
theorem Sub.reads {α : Type} {e : Nat} {d : Kd α} {w : World} {b : Nat} {ok : Nat → Prop} {xs : List α} {A : Option Addr} {n c : Nat} (h : (kSub e d).M w b ok xs [.slice A n c]) : n = xs.length ∧ xs.length ≤ c ∧ Kd.C d w A xs.length xs := by
  obtain ⟨A', c', e1, h2, h3⟩ := (kSub e d).K_of_M h
  cases e1
  exact ⟨rfl, h2, h3⟩
theorem InAt.reads {w : World} {b : Nat} {ok : Nat → Prop} {g : Gv} {G : Gr} (h : InAt w b ok g G) : GAt w g G := by
  obtain ⟨h0, h1, h2, h3, h4⟩ := h
  obtain ⟨_, l0, r0⟩ := Sub.reads h0
  obtain ⟨_, l1, r1⟩ := Sub.reads h1
  obtain ⟨_, l2, r2⟩ := Sub.reads h2
  obtain ⟨_, l3, r3⟩ := Sub.reads h3
  obtain ⟨_, l4, r4⟩ := Sub.reads h4
  exact ⟨C_kObS r0, l0, C_kS2 r1, l1, r2, l2, r3, l3, r4, l4⟩
def costG (G : Gr) : Nat := (2 * G.obs.length + 1) + cost3 G.slots + 3
theorem six {w : World} {b g : Nat} (h : g ≠ b) (a0 a1 a2 a3 a4 a5 : Value) : ((((((w.setCell ⟨b, 0, none⟩ a0).setCell ⟨b, 1, none⟩ a1).setCell ⟨b, 2, none⟩ a2).setCell ⟨b, 3, none⟩ a3).setCell ⟨b, 4, none⟩ a4).setCell ⟨b, 5, none⟩ a5).heap[g]? = w.heap[g]? := by
  rw [Below.heap_setCell _ _ _ _ h, Below.heap_setCell _ _ _ _ h, Below.heap_setCell _ _ _ _ h, Below.heap_setCell _ _ _ _ h, Below.heap_setCell _ _ _ _ h, Below.heap_setCell _ _ _ _ h]
theorem six_at {w : World} {b : Nat} {t : TypeId} {z0 z1 z2 z3 z4 z5 : Value} (h : w.heap[b]? = some (.cells #[z0, z1, z2, z3, z4, z5] t (0, 0))) (a0 a1 a2 a3 a4 a5 : Value) : ((((((w.setCell ⟨b, 0, none⟩ a0).setCell ⟨b, 1, none⟩ a1).setCell ⟨b, 2, none⟩ a2).setCell ⟨b, 3, none⟩ a3).setCell ⟨b, 4, none⟩ a4).setCell ⟨b, 5, none⟩ a5).heap[b]? = some (.cells #[a0, a1, a2, a3, a4, a5] t (0, 0)) := by
  have h0 := blk_set h 0 a0
  have h1 := blk_set h0 1 a1
  have h2 := blk_set h1 2 a2
  have h3 := blk_set h2 3 a3
  have h4 := blk_set h3 4 a4
  have h5 := blk_set h4 5 a5
  simpa using h5
theorem six_below {B : Nat} {w W : World} {b : Nat} (h : Below B w W) (hb : B ≤ b) (a0 a1 a2 a3 a4 a5 : Value) : Below B w ((((((W.setCell ⟨b, 0, none⟩ a0).setCell ⟨b, 1, none⟩ a1).setCell ⟨b, 2, none⟩ a2).setCell ⟨b, 3, none⟩ a3).setCell ⟨b, 4, none⟩ a4).setCell ⟨b, 5, none⟩ a5) :=
  (((((h.setCell (p := ⟨b, 0, none⟩) hb a0).setCell (p := ⟨b, 1, none⟩) hb a1).setCell (p := ⟨b, 2, none⟩) hb a2).setCell (p := ⟨b, 3, none⟩) hb a3).setCell (p := ⟨b, 4, none⟩) hb a4).setCell (p := ⟨b, 5, none⟩) hb a5
theorem six_size {w : World} {b : Nat} (a0 a1 a2 a3 a4 a5 : Value) : ((((((w.setCell ⟨b, 0, none⟩ a0).setCell ⟨b, 1, none⟩ a1).setCell ⟨b, 2, none⟩ a2).setCell ⟨b, 3, none⟩ a3).setCell ⟨b, 4, none⟩ a4).setCell ⟨b, 5, none⟩ a5).heap.size = w.heap.size := by simp [World.setCell]
theorem M_store {α : Type} {d : Kd α} {w5 wz : World} {b b' g : Nat} {X : Nat → Prop} {x : α} {cs : List Value} (h : d.M w5 b (fun k => ¬ X k) x cs) (ho : ∀ k, k ≠ g → wz.heap[k]? = w5.heap[k]?) (hg : g < b) (hb : b' ≤ b) : d.M wz b' (fun k => ¬ X k) x cs :=
  d.M_lower hb (d.M_mono (fun k hk => hk.1) (d.M_move (fun k hk => ho k (by have := hk.2.1; omega)) (d.M_bound h)))
set_option maxRecDepth 100000 in
set_option maxHeartbeats 16000000 in
theorem graph_room (w : World) (B r : Nat) (V : Nat → Value) (N : Nat) (ex : Nat → Prop) (g : Gv) (G : Gr) (hr : RoomAt w B r V N ex) (hB : B ≤ w.heap.size) (w0 : World) (h0 : Below w0.heap.size w0 w) (hB0 : w0.heap.size ≤ B) (hG : GAt w0 g G) (bd : G.Bd) (fb : FrBd G) (hN : N + costG G ≤ 8388608) (hx : ∀ k, ex k → k < w.heap.size) :
    Calls Tryd.prog 10 #[.pointer (some ⟨r, 0, none⟩), gval g G] w fun e w' => ∃ g' V', e = .returned (gval g' G) ∧ Went w w' B r V V' (N + costG G) ex ∧ InAt w' w.heap.size (fun k => ¬ XV V' r k) g' G := by
  unfold costG at *
  obtain ⟨A0, A1, A2, A3, A4, c0, c1, c2, c3, c4⟩ := g
  have OBS := Lib.hid objects_room
  have FRS := Lib.hid frames_room
  have INTS := Lib.hid ints_room
  unfold gval gcells
  simp only
  go_enter Tryd.func10, Tryd.ntmps10
  go_upto_region 1 with fail
  have hX := blk_new w (.cells #[.slice A0 G.obs.length c0, .slice A1 G.slots.length c1, .slice A2 G.hands.length c2, .slice A3 G.reg.length c3, .slice A4 G.queue.length c4, .int .u64 G.next] 27 (0, 0))
  have b1 := (Below.refl w.heap.size w).alloc (Nat.le_refl _) (.cells #[.slice A0 G.obs.length c0, .slice A1 G.slots.length c1, .slice A2 G.hands.length c2, .slice A3 G.reg.length c3, .slice A4 G.queue.length c4, .int .u64 G.next] 27 (0, 0))
  have s1 := alloc_sz w (.cells #[.slice A0 G.obs.length c0, .slice A1 G.slots.length c1, .slice A2 G.hands.length c2, .slice A3 G.reg.length c3, .slice A4 G.queue.length c4, .int .u64 G.next] 27 (0, 0))
  generalize w.alloc (.cells #[.slice A0 G.obs.length c0, .slice A1 G.slots.length c1, .slice A2 G.hands.length c2, .slice A3 G.reg.length c3, .slice A4 G.queue.length c4, .int .u64 G.next] 27) = wB at *
  have hY := blk_new wB (.cells #[.slice none 0 0, .slice none 0 0, .slice none 0 0, .slice none 0 0, .slice none 0 0, .int .u64 0] 27 (0, 0))
  have b2 := b1.alloc b1.size (.cells #[.slice none 0 0, .slice none 0 0, .slice none 0 0, .slice none 0 0, .slice none 0 0, .int .u64 0] 27 (0, 0))
  have s2 := alloc_sz wB (.cells #[.slice none 0 0, .slice none 0 0, .slice none 0 0, .slice none 0 0, .slice none 0 0, .int .u64 0] 27 (0, 0))
  have hX2 := ((Below.refl wB.heap.size wB).alloc (Nat.le_refl _) (.cells #[.slice none 0 0, .slice none 0 0, .slice none 0 0, .slice none 0 0, .slice none 0 0, .int .u64 0] 27 (0, 0))).block w.heap.size (by omega)
  generalize wB.alloc (.cells #[.slice none 0 0, .slice none 0 0, .slice none 0 0, .slice none 0 0, .slice none 0 0, .int .u64 0] 27) = wA at *
  rw [s1] at hY s2
  replace hX2 := hX2.trans hX
  clear hX b1 s1
  have hWA : Went w wA B r V V N (fun k => ex k ∨ k = w.heap.size + 1) := ⟨hr.step (fun k _ hk => b2.block k hk) (fun k hk => by
    rcases hk with q | q
    · exact .inl q
    · exact .inr (by omega)) (Nat.le_refl _), Keeps.below b2, fun _ h => .inl h, b2.mono hB⟩
  have hex : ∀ W : World, wA.heap.size ≤ W.heap.size → ∀ k, (ex k ∨ k = w.heap.size + 1) → k < W.heap.size := fun W hW k hk => by
    rcases hk with q | q
    · have := hx k q; omega
    · omega
  have nx : ∀ k, w.heap.size ≤ k → ¬ XV V r k := fun k hk => hr.fresh hk
  have CB := Lib.hid (fun (W : World) (hk : W.heap[w.heap.size]? = wA.heap[w.heap.size]?) => (by
    have hc := (blk_at (hk.trans hX2)).1
    exact ⟨hc 0, hc 1, hc 2, hc 3, hc 4, hc 5⟩ : W.cell? ⟨w.heap.size, 0, none⟩ = some (.slice A0 G.obs.length c0) ∧ W.cell? ⟨w.heap.size, 1, none⟩ = some (.slice A1 G.slots.length c1) ∧ W.cell? ⟨w.heap.size, 2, none⟩ = some (.slice A2 G.hands.length c2) ∧ W.cell? ⟨w.heap.size, 3, none⟩ = some (.slice A3 G.reg.length c3) ∧ W.cell? ⟨w.heap.size, 4, none⟩ = some (.slice A4 G.queue.length c4) ∧ W.cell? ⟨w.heap.size, 5, none⟩ = some (.int .u64 G.next)))
  have KB := Lib.hid (fun (W : World) (hk : Keeps wA W (XV V r)) => hk.blk w.heap.size (by omega) (nx _ (Nat.le_refl _)))
  have CD := Lib.hid (fun (W : World) (hk : Keeps wA W (XV V r)) => (by
    obtain ⟨hd, hf⟩ := blk_at ((hk.blk (w.heap.size + 1) (by omega) (nx _ (Nat.le_succ _))).trans hY)
    exact ⟨hd 0, hd 1, hd 2, hd 3, hd 4, hd 5, hf 0, hf 1, hf 2, hf 3, hf 4, hf 5⟩ :W.cell? ⟨w.heap.size + 1, 0, none⟩ = some (.slice none 0 0) ∧ W.cell? ⟨w.heap.size + 1, 1, none⟩ = some (.slice none 0 0) ∧ W.cell? ⟨w.heap.size + 1, 2, none⟩ = some (.slice none 0 0) ∧ W.cell? ⟨w.heap.size + 1, 3, none⟩ = some (.slice none 0 0) ∧ W.cell? ⟨w.heap.size + 1, 4, none⟩ = some (.slice none 0 0) ∧ W.cell? ⟨w.heap.size + 1, 5, none⟩ = some (.int .u64 0) ∧ W.frozen? ⟨w.heap.size + 1, 0, none⟩ = false ∧ W.frozen? ⟨w.heap.size + 1, 1, none⟩ = false ∧ W.frozen? ⟨w.heap.size + 1, 2, none⟩ = false ∧ W.frozen? ⟨w.heap.size + 1, 3, none⟩ = false ∧ W.frozen? ⟨w.heap.size + 1, 4, none⟩ = false ∧ W.frozen? ⟨w.heap.size + 1, 5, none⟩ = false))
  have hr0 := hWA.room
  have W0 : Went wA wA.drew B r V V N (fun k => ex k ∨ k = w.heap.size + 1) := (Went.refl hr0).drew
  have hA0 := h0.trans (hWA.bel.mono hB0)
  have hfs : ∀ f ∈ G.slots, f.length ≤ 1048576 ∧ ∀ l ∈ f, l.length ≤ 1048576 := fun f hf => ⟨(fb f hf).1, (fb f hf).2.2⟩
  have hBA := Nat.le_trans hB b2.size
  have C0 := Lib.hid (OBS.out wA.drew B r V N _ A0 c0 G.obs W0.room hBA w0 (hA0.trans (W0.bel.mono hB0)) hB0 hG.r0 bd.n (fun o ho => bd.i64 o ho) (by omega) (hex _ (Nat.le_refl _)))
  have C1 := Lib.hid (fun (W : World) (V1 : Nat → Value) (hw : Went wA W B r V V1 (N + (2 * G.obs.length + 1)) (fun k => ex k ∨ k = w.heap.size + 1)) => FRS.out W B r V1 _ _ A1 c1 G.slots hw.room (Nat.le_trans hBA hw.keep.size) w0 (hA0.trans (hw.bel.mono hB0)) hB0 hG.r1 bd.m hfs (by omega) (hex _ hw.keep.size))
  have C2 := Lib.hid (fun (W : World) (V1 : Nat → Value) (n : Nat) (hw : Went wA W B r V V1 n (fun k => ex k ∨ k = w.heap.size + 1)) (hn : n ≤ 8388608) (A : Option Addr) (c : Nat) (l : List Int) (hl : Kd.C (Kd.int .i64) w0 A l.length l) (hll : l.length ≤ 1048576) => INTS.out W B r V1 n _ A c l hw.room (Nat.le_trans hBA hw.keep.size) (Kd.C_below hl (hA0.trans (hw.bel.mono hB0))) hll hn (hex _ hw.keep.size))
  clear OBS FRS INTS
  go_region_held3 (fun W => W.cell? ⟨w.heap.size, 0, none⟩ = some (.slice A0 G.obs.length c0) ∧ W.cell? ⟨w.heap.size, 1, none⟩ = some (.slice A1 G.slots.length c1) ∧ W.cell? ⟨w.heap.size, 2, none⟩ = some (.slice A2 G.hands.length c2) ∧ W.cell? ⟨w.heap.size, 3, none⟩ = some (.slice A3 G.reg.length c3) ∧ W.cell? ⟨w.heap.size, 4, none⟩ = some (.slice A4 G.queue.length c4) ∧ W.cell? ⟨w.heap.size, 5, none⟩ = some (.int .u64 G.next))
    (first
      | with_reducible exact CB.out wA (KB.out wA (Keeps.refl wA _))
      | with_reducible exact CB.out _ (KB.out _ W0.keep)
      | with_reducible exact CB.out _ (KB.out _ T1.keep)
      | with_reducible exact CB.out _ (KB.out _ T2.keep)
      | with_reducible exact CB.out _ (KB.out _ T3.keep)
      | with_reducible exact CB.out _ (KB.out _ T4.keep)
      | with_reducible exact CB.out _ (KB.out _ T5.keep)
      | exact CB.out _ ((six (by omega) _ _ _ _ _ _).trans (KB.out _ T5.keep)))
    (first
      | ((go_at_call 38; refine (C2.out _ _ _ T4 (by omega) A4 c4 G.queue hG.r4 bd.q).mono ?_; rintro e w5 ⟨v5, V5, rfl, hW5, hM5⟩; obtain ⟨A9, n9, m9, rfl⟩ := Sub.form hM5; have T5 := T4.trans hW5; obtain ⟨d0, d1, d2, d3, d4, d5, g0, g1, g2, g3, g4, g5⟩ := CD.out _ T5.keep))
      | ((go_at_call 38; refine (C2.out _ _ _ T3 (by omega) A3 c3 G.reg hG.r3 bd.r).mono ?_; rintro e w4 ⟨v4, V4, rfl, hW4, hM4⟩; obtain ⟨A8, n8, m8, rfl⟩ := Sub.form hM4; have T4 := T3.trans hW4))
      | ((go_at_call 38; refine (C2.out _ _ _ T2 (by omega) A2 c2 G.hands hG.r2 bd.h).mono ?_; rintro e w3 ⟨v3, V3, rfl, hW3, hM3⟩; obtain ⟨A7, n7, m7, rfl⟩ := Sub.form hM3; have T3 := T2.trans hW3))
      | ((go_at_call 37; refine (C1.out _ _ T1).mono ?_; rintro e w2 ⟨v2, V2, rfl, hW2, hM2⟩; obtain ⟨A6, n6, m6, rfl⟩ := Sub.form hM2; have T2 := T1.trans hW2))
      | ((go_at_call 36; refine C0.out.mono ?_; rintro e w1 ⟨v1, V1, rfl, hW1, hM1⟩; obtain ⟨A5, n5, m5, rfl⟩ := Sub.form hM1; have T1 := W0.trans hW1)))
  have T := hWA.trans T5
  have hz := six_at ((T5.keep.blk (w.heap.size + 1) (by omega) (nx _ (Nat.le_succ _))).trans hY) (.slice A5 n5 m5) (.slice A6 n6 m6) (.slice A7 n7 m7) (.slice A8 n8 m8) (.slice A9 n9 m9) (.int .u64 G.next)
  have ho := fun g (h : g ≠ w.heap.size + 1) => six (w := w5) h (.slice A5 n5 m5) (.slice A6 n6 m6) (.slice A7 n7 m7) (.slice A8 n8 m8) (.slice A9 n9 m9) (.int .u64 G.next)
  have hbz := six_below T.bel (show B ≤ w.heap.size + 1 by omega) (.slice A5 n5 m5) (.slice A6 n6 m6) (.slice A7 n7 m7) (.slice A8 n8 m8) (.slice A9 n9 m9) (.int .u64 G.next)
  have hsz := six_size (w := w5) (b := w.heap.size + 1) (.slice A5 n5 m5) (.slice A6 n6 m6) (.slice A7 n7 m7) (.slice A8 n8 m8) (.slice A9 n9 m9) (.int .u64 G.next)
  clear d0 d1 d2 d3 d4 d5 g0 g1 g2 g3 g4 g5
  generalize ((((((w5.setCell ⟨w.heap.size + 1, 0, none⟩ (.slice A5 n5 m5)).setCell ⟨w.heap.size + 1, 1, none⟩ (.slice A6 n6 m6)).setCell ⟨w.heap.size + 1, 2, none⟩ (.slice A7 n7 m7)).setCell ⟨w.heap.size + 1, 3, none⟩ (.slice A8 n8 m8)).setCell ⟨w.heap.size + 1, 4, none⟩ (.slice A9 n9 m9)).setCell ⟨w.heap.size + 1, 5, none⟩ (.int .u64 G.next)) = wz at *
  obtain ⟨cz, fz⟩ := blk_at hz
  go_wp2_with fail
  have c0' : wz.cell? ⟨w.heap.size + 1, 0, none⟩ = some (.slice A5 n5 m5) := cz 0
  have c1' : wz.cell? ⟨w.heap.size + 1, 1, none⟩ = some (.slice A6 n6 m6) := cz 1
  have c2' : wz.cell? ⟨w.heap.size + 1, 2, none⟩ = some (.slice A7 n7 m7) := cz 2
  have c3' : wz.cell? ⟨w.heap.size + 1, 3, none⟩ = some (.slice A8 n8 m8) := cz 3
  have c4' : wz.cell? ⟨w.heap.size + 1, 4, none⟩ = some (.slice A9 n9 m9) := cz 4
  have c5' : wz.cell? ⟨w.heap.size + 1, 5, none⟩ = some (.int .u64 G.next) := cz 5
  (try simp only [Exit.inBlock, Exit.then])
  refine bodyPost_ret (v := .agg #[.slice A5 n5 m5, .slice A6 n6 m6, .slice A7 n7 m7, .slice A8 n8 m8, .slice A9 n9 m9, .int .u64 G.next]) ?_ rfl ?_
  · simp [results, go_sem, c0', c1', c2', c3', c4', c5']
  obtain ⟨rfl, l0, _⟩ := Sub.reads hM1
  obtain ⟨rfl, l1, _⟩ := Sub.reads hM2
  obtain ⟨rfl, l2, _⟩ := Sub.reads hM3
  obtain ⟨rfl, l3, _⟩ := Sub.reads hM4
  obtain ⟨rfl, l4, _⟩ := Sub.reads hM5
  refine ⟨⟨A5, A6, A7, A8, A9, m5, m6, m7, m8, m9⟩, V5, rfl, ⟨T.room.step (fun k hk hlt => ho k (fun e => hk (.inr e))) (fun k hk => .inl (.inl hk)) (by omega), ⟨by have := T.keep.size; omega, fun k hk hn => (ho k (by omega)).trans (T.keep.blk k hk hn)⟩, T.ext, hbz⟩, ?_⟩
  have q1 := hW1.keep.size
  have q2 := hW2.keep.size
  have q3 := hW3.keep.size
  have q4 := hW4.keep.size
  have q0 : wA.drew.heap.size = wA.heap.size := rfl
  exact ⟨M_store (hW5.M (hW4.M (hW3.M (hW2.M hM1)))) ho (by omega) (by omega), M_store (hW5.M (hW4.M (hW3.M hM2))) ho (by omega) (by omega), M_store (hW5.M (hW4.M hM3)) ho (by omega) (by omega), M_store (hW5.M hM4) ho (by omega) (by omega), M_store hM5 ho (by omega) (by omega)⟩
end Go.Proofs.YtogpgkoelplknaaDoor
end
section
/- middenroom: holdInts, holdWords. No condition. -/

namespace Go.Proofs.YtogpgkoelplknaaDoor
open Go.RowKit Go.BigFrame PLensPaths Go.Proofs.YtogpgkoelplknaaDoorW.PrintWords Go.Proofs.YtogpgkoelplknaaDoorW.PrintMore
set_option linter.unusedVariables false
theorem Rwk.read {α : Type} {d : Kd α} {e : Nat} {mk : List α} {t : Nat} {w : World} {B : Nat} {ok : Nat → Prop} {v : Value} {N : Nat} (h : Rwk d e mk t w B ok v N) : ∃ A xs c, v = .slice A xs.length c ∧ xs.length ≤ N ∧ Kd.C (kSub e d) w A xs.length xs ∧ ∀ L ∈ xs, Ends mk L := by
  obtain ⟨xs, hR, hl, hE⟩ := h
  obtain ⟨A, c, rfl, _, hC⟩ := Kd.R_reads hR
  exact ⟨A, xs, c, rfl, hl, hC, hE⟩
theorem mk1_at : ∀ k, k < 40 → mk1.getD k 0 = if k % 2 = 0 then -7701 else -7702 := by decide
theorem mkW_at : ∀ k, k < 40 → mkW.getD k 0 = if k % 2 = 0 then 7701 else 7702 := by decide
theorem end_at {α : Type} (l mk : List α) (k : Nat) (z : α) : (l ++ mk).getD (l.length + k) z = mk.getD k z := by
  rw [List.getD_eq_getElem?_getD, List.getElem?_append_right (by omega), Nat.add_sub_cancel_left, ← List.getD_eq_getElem?_getD]
set_option maxRecDepth 100000 in
set_option maxHeartbeats 8000000 in
theorem holdInts_true (w : World) (B r : Nat) (V : Nat → Value) (N : Nat) (ex : Nat → Prop) (hr : RoomAt w B r V N ex) (hN : N ≤ 8388608) :
    Calls Tryd.prog 49 #[.pointer (some ⟨r, 0, none⟩)] w fun e w' => e = .returned (.bool true) ∧ Below w.heap.size w w' := by
  obtain ⟨A, xs, c, hv, hl, hC, hE⟩ := Rwk.read (hr.row 0 (by omega))
  have hbox := hr.box
  rw [hv] at hbox
  have rr := blk_lt hbox
  clear hr hv
  have hb := (Below.refl w.heap.size w).alloc (Nat.le_refl _) (.cells #[.int .i64 (-7701), .int .i64 (-7702)] 3 (0, 0))
  have hM := blk_new w (.cells #[.int .i64 (-7701), .int .i64 (-7702)] 3 (0, 0))
  have hb2 := box_keep hbox hb
  have hC2 := Kd.C_below hC hb
  obtain ⟨cB, fB⟩ := blk_at hb2
  obtain ⟨cM, fM⟩ := blk_at hM
  go_enter Tryd.func49, Tryd.ntmps49
  go_upto_region 2 with fail
  generalize w.alloc _ = wA at *
  have k1 : wA.cell? ⟨r, 1, none⟩ = some (.slice A xs.length c) := cB 1
  have m0 : wA.cell? ⟨w.heap.size, 0, none⟩ = some (.int .i64 (-7701)) := cM 0
  have m1 : wA.cell? ⟨w.heap.size, 1, none⟩ = some (.int .i64 (-7702)) := cM 1
  clear cB fB cM fM hbox hb2 hM hC
  go_wp2_with fail
  go_loopw [4] (fun iv wx => ∃ i : Nat, i ≤ xs.length ∧ iv = .int .i64 i ∧ wx = wA) (fun iv _ => xs.length - (intOf iv).toNat)
  case atStart => exact ⟨0, by omega, rfl, rfl⟩
  case round =>
    obtain ⟨i, hi, rfl, rfl⟩ := hrel
    by_cases hlt : i < xs.length
    · have dlt : decide ((i : Int) < (xs.length : Int)) = true := decide_eq_true (by omega)
      have i0 : (0 : Int) ≤ (i : Int) := by omega
      have i1 : (i : Int) < (xs.length : Int) := by omega
      obtain ⟨l, hl1⟩ := hE _ (getD_mem [] hlt)
      obtain ⟨ad, A1, c1, rfl, hc, hc1, hC1⟩ := sl_at (C_kS1 hC2) i hlt
      rw [hl1] at hc hc1 hC1
      have hll : (l ++ mk1).length = l.length + 40 := by rw [List.length_append]; rfl
      rw [hll] at hc hc1 hC1
      have hmx := hC1.2.1
      generalize hn : l.length = n at *
      have HN := Lib.hid hn
      clear hn hll
      go_wp2_with fail
      go_loopw [6] (fun kv wx => ∃ k : Nat, k ≤ 40 ∧ kv = .int .i64 k ∧ wx = wr) (fun kv _ => 40 - (intOf kv).toNat)
      case atStart => exact ⟨0, by omega, rfl, rfl⟩
      case round =>
        obtain ⟨k, hk, rfl, rfl⟩ := hrel
        by_cases hkt : k < 40
        · have dk : decide ((k : Int) < 40) = true := decide_eq_true (by omega)
          obtain ⟨ad1, rfl, hcx⟩ := int_at hC1 (n + k) (by omega)
          have hx : (l ++ mk1).getD (n + k) 0 = mk1.getD k 0 := by rw [← HN.out]; exact end_at l mk1 k 0
          rw [hx, mk1_at k hkt] at hcx
          have k0 : (0 : Int) ≤ (k : Int) := by omega
          have z0 : (0 : Int) ≤ (n : Int) + (k : Int) := by omega
          have z1 : (n : Int) + (k : Int) < (n : Int) + 40 := by omega
          have z2 : ((n : Int) + (k : Int)).toNat = n + k := by omega
          have e2 : ((k : Int).tmod 2) = ((k % 2 : Nat) : Int) := rfl
          rcases Nat.mod_two_eq_zero_or_one k with e | e
          · rw [if_pos e] at hcx
            rw [e] at e2
            go_wp2_with fail
            exact ⟨⟨k + 1, by omega, by simp, trivial⟩, by simp [intOf]; omega⟩
          · rw [if_neg (by omega)] at hcx
            rw [e] at e2
            go_wp2_with fail
            exact ⟨⟨k + 1, by omega, by simp, trivial⟩, by simp [intOf]; omega⟩
        · have dk : decide ((k : Int) < 40) = false := decide_eq_false (by omega)
          go_wp2_with fail
          exact ⟨⟨i + 1, by omega, by simp, trivial⟩, by simp [intOf]; omega⟩
    · have dlt : decide ((i : Int) < (xs.length : Int)) = false := decide_eq_false (by omega)
      go_wp2_with fail
      go_ret
      exact ⟨rfl, hb⟩
set_option maxRecDepth 100000 in
set_option maxHeartbeats 8000000 in
theorem holdWords_true (w : World) (B r : Nat) (V : Nat → Value) (N : Nat) (ex : Nat → Prop) (hr : RoomAt w B r V N ex) (hN : N ≤ 8388608) :
    Calls Tryd.prog 50 #[.pointer (some ⟨r, 0, none⟩)] w fun e w' => e = .returned (.bool true) ∧ Below w.heap.size w w' := by
  obtain ⟨A, xs, c, hv, hl, hC, hE⟩ := Rwk.read (hr.row 1 (by omega))
  have hbox := hr.box
  rw [hv] at hbox
  have rr := blk_lt hbox
  clear hr hv
  have hb := (Below.refl w.heap.size w).alloc (Nat.le_refl _) (.cells #[.int .u64 7701, .int .u64 7702] 25 (0, 0))
  have hM := blk_new w (.cells #[.int .u64 7701, .int .u64 7702] 25 (0, 0))
  have hb2 := box_keep hbox hb
  have hC2 := Kd.C_below hC hb
  obtain ⟨cB, fB⟩ := blk_at hb2
  obtain ⟨cM, fM⟩ := blk_at hM
  go_enter Tryd.func50, Tryd.ntmps50
  go_upto_region 2 with fail
  generalize w.alloc _ = wA at *
  have k1 : wA.cell? ⟨r, 2, none⟩ = some (.slice A xs.length c) := cB 2
  have m0 : wA.cell? ⟨w.heap.size, 0, none⟩ = some (.int .u64 7701) := cM 0
  have m1 : wA.cell? ⟨w.heap.size, 1, none⟩ = some (.int .u64 7702) := cM 1
  clear cB fB cM fM hbox hb2 hM hC
  go_wp2_with fail
  go_loopw [4] (fun iv wx => ∃ i : Nat, i ≤ xs.length ∧ iv = .int .i64 i ∧ wx = wA) (fun iv _ => xs.length - (intOf iv).toNat)
  case atStart => exact ⟨0, by omega, rfl, rfl⟩
  case round =>
    obtain ⟨i, hi, rfl, rfl⟩ := hrel
    by_cases hlt : i < xs.length
    · have dlt : decide ((i : Int) < (xs.length : Int)) = true := decide_eq_true (by omega)
      have i0 : (0 : Int) ≤ (i : Int) := by omega
      have i1 : (i : Int) < (xs.length : Int) := by omega
      obtain ⟨l, hl1⟩ := hE _ (getD_mem [] hlt)
      obtain ⟨ad, A1, c1, rfl, hc, hc1, hC1⟩ := sl_at (show Kd.C (Kd.slice 25 (Kd.int .u64)) _ _ _ _ from hC2) i hlt
      rw [hl1] at hc hc1 hC1
      have hll : (l ++ mkW).length = l.length + 40 := by rw [List.length_append]; rfl
      rw [hll] at hc hc1 hC1
      have hmx := hC1.2.1
      generalize hn : l.length = n at *
      have HN := Lib.hid hn
      clear hn hll
      go_wp2_with fail
      go_loopw [6] (fun kv wx => ∃ k : Nat, k ≤ 40 ∧ kv = .int .i64 k ∧ wx = wr) (fun kv _ => 40 - (intOf kv).toNat)
      case atStart => exact ⟨0, by omega, rfl, rfl⟩
      case round =>
        obtain ⟨k, hk, rfl, rfl⟩ := hrel
        by_cases hkt : k < 40
        · have dk : decide ((k : Int) < 40) = true := decide_eq_true (by omega)
          obtain ⟨ad1, rfl, hcx⟩ := int_at hC1 (n + k) (by omega)
          have hx : (l ++ mkW).getD (n + k) 0 = mkW.getD k 0 := by rw [← HN.out]; exact end_at l mkW k 0
          rw [hx, mkW_at k hkt] at hcx
          have k0 : (0 : Int) ≤ (k : Int) := by omega
          have z0 : (0 : Int) ≤ (n : Int) + (k : Int) := by omega
          have z1 : (n : Int) + (k : Int) < (n : Int) + 40 := by omega
          have z2 : ((n : Int) + (k : Int)).toNat = n + k := by omega
          have e2 : ((k : Int).tmod 2) = ((k % 2 : Nat) : Int) := rfl
          rcases Nat.mod_two_eq_zero_or_one k with e | e
          · rw [if_pos e] at hcx
            rw [e] at e2
            go_wp2_with fail
            exact ⟨⟨k + 1, by omega, by simp, trivial⟩, by simp [intOf]; omega⟩
          · rw [if_neg (by omega)] at hcx
            rw [e] at e2
            go_wp2_with fail
            exact ⟨⟨k + 1, by omega, by simp, trivial⟩, by simp [intOf]; omega⟩
        · have dk : decide ((k : Int) < 40) = false := decide_eq_false (by omega)
          go_wp2_with fail
          exact ⟨⟨i + 1, by omega, by simp, trivial⟩, by simp [intOf]; omega⟩
    · have dlt : decide ((i : Int) < (xs.length : Int)) = false := decide_eq_false (by omega)
      go_wp2_with fail
      go_ret
      exact ⟨rfl, hb⟩
end Go.Proofs.YtogpgkoelplknaaDoor
end
section
/- middenroom: holdIntLists. No condition. -/

namespace Go.Proofs.YtogpgkoelplknaaDoor
open Go.RowKit Go.BigFrame PLensPaths Go.Proofs.YtogpgkoelplknaaDoorW.PrintWords Go.Proofs.YtogpgkoelplknaaDoorW.PrintMore
set_option linter.unusedVariables false
theorem mk2_at : ∀ k, k < 8 → mk2.getD k [] = if k % 2 = 0 then [-7701] else [-7702] := by decide
theorem add_zero' (a : Addr) : a.add 0 = a := by
  cases a
  simp [Addr.add]
set_option maxRecDepth 100000 in
set_option maxHeartbeats 8000000 in
theorem holdIntLists_true (w : World) (B r : Nat) (V : Nat → Value) (N : Nat) (ex : Nat → Prop) (hr : RoomAt w B r V N ex) (hN : N ≤ 8388608) :
    Calls Tryd.prog 53 #[.pointer (some ⟨r, 0, none⟩)] w fun e w' => e = .returned (.bool true) ∧ Below w.heap.size w w' := by
  obtain ⟨A, xs, c, hv, hl, hC, hE⟩ := Rwk.read (hr.row 2 (by omega))
  have hbox := hr.box
  rw [hv] at hbox
  have rr := blk_lt hbox
  clear hr hv
  have s1 := alloc_sz w (.cells #[.int .i64 (-7701)] 3 (0, 0))
  have hb1 := (Below.refl w.heap.size w).alloc (Nat.le_refl _) (.cells #[.int .i64 (-7701)] 3 (0, 0))
  have hM1 := blk_new w (.cells #[.int .i64 (-7701)] 3 (0, 0))
  go_enter Tryd.func53, Tryd.ntmps53
  go_upto_region 2 with fail
  generalize w.alloc (.cells #[.int .i64 (-7701)] 3) = w1 at *
  have s2 := alloc_sz w1 (.cells #[.int .i64 (-7702)] 3 (0, 0))
  have hb2 := (Below.refl w1.heap.size w1).alloc (Nat.le_refl _) (.cells #[.int .i64 (-7702)] 3 (0, 0))
  have hM2 := blk_new w1 (.cells #[.int .i64 (-7702)] 3 (0, 0))
  generalize w1.alloc (.cells #[.int .i64 (-7702)] 3) = w2 at *
  have s3 := alloc_sz w2 (.cells #[.slice (some ⟨w.heap.size, 0, none⟩) 1 1, .slice (some ⟨w.heap.size + 1, 0, none⟩) 1 1] 24 (0, 0))
  have hb3 := (Below.refl w2.heap.size w2).alloc (Nat.le_refl _) (.cells #[.slice (some ⟨w.heap.size, 0, none⟩) 1 1, .slice (some ⟨w.heap.size + 1, 0, none⟩) 1 1] 24 (0, 0))
  have hM3 := blk_new w2 (.cells #[.slice (some ⟨w.heap.size, 0, none⟩) 1 1, .slice (some ⟨w.heap.size + 1, 0, none⟩) 1 1] 24 (0, 0))
  generalize w2.alloc _ = wA at *
  have e1 : w1.heap.size = w.heap.size + 1 := s1
  have e2 : w2.heap.size = w.heap.size + 1 + 1 := by omega
  rw [e1] at hM2
  rw [e2] at hM3
  have hbA := hb1.trans ((hb2.mono (show w.heap.size ≤ w1.heap.size by omega)).trans (hb3.mono (show w.heap.size ≤ w2.heap.size by omega)))
  have hM2' := (hb3.block (w.heap.size + 1) (by omega)).trans hM2
  have hM1' := (hb3.block w.heap.size (by omega)).trans ((hb2.block w.heap.size (by omega)).trans hM1)
  have hbox' := box_keep hbox hbA
  have hC2 : Kd.C kFrames wA A xs.length xs := C_kS2 (Kd.C_below hC hbA)
  have sA : wA.heap.size = w.heap.size + 1 + 1 + 1 := by omega
  clear hM1 hM2 hbox hC s1 s2 s3 hb1 hb2 hb3 e1 e2
  have FC := Lib.hid (fun (W : World) (hb : Below wA.heap.size wA W) => (by
    have q1 := (blk_at (box_keep hbox' hb)).1 5
    have q2 := (blk_at (box_keep hM3 hb)).1
    have q3 := (blk_at (box_keep hM1' hb)).1 0
    have q4 := (blk_at (box_keep hM2' hb)).1 0
    exact ⟨q1, q2 0, q2 1, q3, q4⟩ : W.cell? ⟨r, 5, none⟩ = some (.slice A xs.length c) ∧ W.cell? ⟨w.heap.size + 1 + 1, 0, none⟩ = some (.slice (some ⟨w.heap.size, 0, none⟩) 1 1) ∧ W.cell? ⟨w.heap.size + 1 + 1, 1, none⟩ = some (.slice (some ⟨w.heap.size + 1, 0, none⟩) 1 1) ∧ W.cell? ⟨w.heap.size, 0, none⟩ = some (.int .i64 (-7701)) ∧ W.cell? ⟨w.heap.size + 1, 0, none⟩ = some (.int .i64 (-7702))))
  go_wp2_with fail
  go_loopw [4] (fun iv wx => ∃ i : Nat, i ≤ xs.length ∧ iv = .int .i64 i ∧ Below wA.heap.size wA wx) (fun iv _ => xs.length - (intOf iv).toNat)
  case atStart => exact ⟨0, by omega, rfl, Below.refl _ _⟩
  case round =>
    obtain ⟨i, hi, rfl, hbr⟩ := hrel
    obtain ⟨q1, -, -, -, -⟩ := FC.out _ hbr
    by_cases hlt : i < xs.length
    · have dlt : decide ((i : Int) < (xs.length : Int)) = true := decide_eq_true (by omega)
      have i0 : (0 : Int) ≤ (i : Int) := by omega
      have i1 : (i : Int) < (xs.length : Int) := by omega
      obtain ⟨l, hl1⟩ := hE _ (getD_mem [] hlt)
      obtain ⟨ad, A1, c1, rfl, hc, hc1, hC1⟩ := sl_at hC2 i hlt
      rw [hl1] at hc hc1 hC1
      have hll : (l ++ mk2).length = l.length + 8 := by rw [List.length_append]; rfl
      rw [hll] at hc hc1 hC1
      have hmx := hC1.2.1
      generalize hn : l.length = n at *
      have HN := Lib.hid hn
      clear hn hll
      have hcr := cell_later hbr hc
      go_wp2_with fail
      clear q1 hcr
      go_loopw [6] (fun kv wx => ∃ k : Nat, k ≤ 8 ∧ kv = .int .i64 k ∧ Below wA.heap.size wA wx) (fun kv _ => 8 - (intOf kv).toNat)
      case atStart => exact ⟨0, by omega, rfl, hbr⟩
      case round =>
        clear hbr
        obtain ⟨k, hk, rfl, hbr⟩ := hrel
        obtain ⟨q1, q2, q3, q4, q5⟩ := FC.out _ hbr
        have hcr := cell_later hbr hc
        by_cases hkt : k < 8
        · have dk : decide ((k : Int) < 8) = true := decide_eq_true (by omega)
          obtain ⟨ad1, A2, c2, rfl, hcx, hc2, hC3⟩ := sl_at hC1 (n + k) (by omega)
          have hx : (l ++ mk2).getD (n + k) [] = mk2.getD k [] := by rw [← HN.out]; exact end_at l mk2 k []
          rw [hx, mk2_at k hkt] at hcx hc2 hC3
          have k0 : (0 : Int) ≤ (k : Int) := by omega
          have z0 : (0 : Int) ≤ (n : Int) + (k : Int) := by omega
          have z1 : (n : Int) + (k : Int) < (n : Int) + 8 := by omega
          have z2 : ((n : Int) + (k : Int)).toNat = n + k := by omega
          have e2 : ((k : Int).tmod 2) = ((k % 2 : Nat) : Int) := rfl
          rcases Nat.mod_two_eq_zero_or_one k with e | e
          · rw [if_pos e] at hcx hc2 hC3
            rw [e] at e2
            obtain ⟨ad2, rfl, hcy⟩ := int_at hC3 0 (by simp)
            rw [add_zero'] at hcy
            have hcxr := cell_later hbr hcx
            have hcyr := cell_later hbr hcy
            clear hcx hcy
            simp only [List.length_singleton, List.getD_cons_zero] at hcxr hcyr
            go_upto_region 11 with fail
            go_quiet (fail)
            go_wp2_with fail
            exact ⟨⟨k + 1, by omega, by simp, below_drN hbr nq⟩, by simp [intOf]; omega⟩
          · rw [if_neg (by omega)] at hcx hc2 hC3
            rw [e] at e2
            obtain ⟨ad2, rfl, hcy⟩ := int_at hC3 0 (by simp)
            rw [add_zero'] at hcy
            have hcxr := cell_later hbr hcx
            have hcyr := cell_later hbr hcy
            clear hcx hcy
            simp only [List.length_singleton, List.getD_cons_zero] at hcxr hcyr
            go_upto_region 11 with fail
            go_quiet (fail)
            go_wp2_with fail
            exact ⟨⟨k + 1, by omega, by simp, below_drN hbr nq⟩, by simp [intOf]; omega⟩
        · have dk : decide ((k : Int) < 8) = false := decide_eq_false (by omega)
          go_wp2_with fail
          exact ⟨⟨i + 1, by omega, by simp, hbr⟩, by simp [intOf]; omega⟩
    · have dlt : decide ((i : Int) < (xs.length : Int)) = false := decide_eq_false (by omega)
      go_wp2_with fail
      go_ret
      exact ⟨rfl, hbA.trans (hbr.mono (by omega))⟩
end Go.Proofs.YtogpgkoelplknaaDoor
end
section
/- middenroom: holdFrames. No condition. -/

namespace Go.Proofs.YtogpgkoelplknaaDoor
open Go.RowKit Go.BigFrame PLensPaths Go.Proofs.YtogpgkoelplknaaDoorW.PrintWords Go.Proofs.YtogpgkoelplknaaDoorW.PrintMore
set_option linter.unusedVariables false
theorem mk3_at : ∀ k, k < 8 → mk3.getD k [] = if k % 2 = 0 then [[-7701]] else [[-7702]] := by decide
set_option maxRecDepth 100000 in
set_option maxHeartbeats 8000000 in
theorem holdFrames_true (w : World) (B r : Nat) (V : Nat → Value) (N : Nat) (ex : Nat → Prop) (hr : RoomAt w B r V N ex) (hN : N ≤ 8388608) :
    Calls Tryd.prog 54 #[.pointer (some ⟨r, 0, none⟩)] w fun e w' => e = .returned (.bool true) ∧ Below w.heap.size w w' := by
  obtain ⟨A, xs, c, hv, hl, hC, hE⟩ := Rwk.read (hr.row 3 (by omega))
  have hbox := hr.box
  rw [hv] at hbox
  have rr := blk_lt hbox
  clear hr hv
  go_enter Tryd.func54, Tryd.ntmps54
  go_upto_region 2 with fail
  have s1 := alloc_sz w (.cells #[.int .i64 (-7701)] 3 (0, 0))
  have hb1 := (Below.refl w.heap.size w).alloc (Nat.le_refl _) (.cells #[.int .i64 (-7701)] 3 (0, 0))
  have hM1 := blk_new w (.cells #[.int .i64 (-7701)] 3 (0, 0))
  generalize w.alloc _ = w1 at *
  have s2 := alloc_sz w1 (.cells #[.slice (some ⟨w.heap.size, 0, none⟩) 1 1] 24 (0, 0))
  have hb2 := (Below.refl w1.heap.size w1).alloc (Nat.le_refl _) (.cells #[.slice (some ⟨w.heap.size, 0, none⟩) 1 1] 24 (0, 0))
  have hM2 := blk_new w1 (.cells #[.slice (some ⟨w.heap.size, 0, none⟩) 1 1] 24 (0, 0))
  generalize w1.alloc _ = w2 at *
  have s3 := alloc_sz w2 (.cells #[.int .i64 (-7702)] 3 (0, 0))
  have hb3 := (Below.refl w2.heap.size w2).alloc (Nat.le_refl _) (.cells #[.int .i64 (-7702)] 3 (0, 0))
  have hM3 := blk_new w2 (.cells #[.int .i64 (-7702)] 3 (0, 0))
  generalize w2.alloc _ = w3 at *
  have s4 := alloc_sz w3 (.cells #[.slice (some ⟨w.heap.size + 1 + 1, 0, none⟩) 1 1] 24 (0, 0))
  have hb4 := (Below.refl w3.heap.size w3).alloc (Nat.le_refl _) (.cells #[.slice (some ⟨w.heap.size + 1 + 1, 0, none⟩) 1 1] 24 (0, 0))
  have hM4 := blk_new w3 (.cells #[.slice (some ⟨w.heap.size + 1 + 1, 0, none⟩) 1 1] 24 (0, 0))
  generalize w3.alloc _ = w4 at *
  have s5 := alloc_sz w4 (.cells #[.slice (some ⟨w.heap.size + 1, 0, none⟩) 1 1, .slice (some ⟨w.heap.size + 1 + 1 + 1, 0, none⟩) 1 1] 30 (0, 0))
  have hb5 := (Below.refl w4.heap.size w4).alloc (Nat.le_refl _) (.cells #[.slice (some ⟨w.heap.size + 1, 0, none⟩) 1 1, .slice (some ⟨w.heap.size + 1 + 1 + 1, 0, none⟩) 1 1] 30 (0, 0))
  have hM5 := blk_new w4 (.cells #[.slice (some ⟨w.heap.size + 1, 0, none⟩) 1 1, .slice (some ⟨w.heap.size + 1 + 1 + 1, 0, none⟩) 1 1] 30 (0, 0))
  generalize w4.alloc _ = wA at *
  have e1 : w1.heap.size = w.heap.size + 1 := s1
  have e2 : w2.heap.size = w.heap.size + 1 + 1 := by omega
  have e3 : w3.heap.size = w.heap.size + 1 + 1 + 1 := by omega
  have e4 : w4.heap.size = w.heap.size + 1 + 1 + 1 + 1 := by omega
  rw [e1] at hM2
  rw [e2] at hM3
  rw [e3] at hM4
  rw [e4] at hM5
  have hbA := hb1.trans ((hb2.mono (show w.heap.size ≤ w1.heap.size by omega)).trans ((hb3.mono (show w.heap.size ≤ w2.heap.size by omega)).trans ((hb4.mono (show w.heap.size ≤ w3.heap.size by omega)).trans (hb5.mono (show w.heap.size ≤ w4.heap.size by omega)))))
  have up : ∀ k, k < w4.heap.size → wA.heap[k]? = w4.heap[k]? := fun k hk => hb5.block k hk
  have up3 : ∀ k, k < w3.heap.size → wA.heap[k]? = w3.heap[k]? := fun k hk => (up k (by omega)).trans (hb4.block k hk)
  have up2 : ∀ k, k < w2.heap.size → wA.heap[k]? = w2.heap[k]? := fun k hk => (up3 k (by omega)).trans (hb3.block k hk)
  have up1 : ∀ k, k < w1.heap.size → wA.heap[k]? = w1.heap[k]? := fun k hk => (up2 k (by omega)).trans (hb2.block k hk)
  have hM4' := (up _ (by omega)).trans hM4
  have hM3' := (up3 _ (by omega)).trans hM3
  have hM2' := (up2 _ (by omega)).trans hM2
  have hM1' := (up1 w.heap.size (by omega)).trans hM1
  have hbox' := box_keep hbox hbA
  have hC2 : Kd.C (Kd.slice 30 kFrames) wA A xs.length xs := Kd.C_below hC hbA
  have sA : wA.heap.size = w.heap.size + 1 + 1 + 1 + 1 + 1 := by omega
  clear up up3 up2 up1 hM1 hM2 hM3 hM4 hbox hC s1 s2 s3 s4 s5 hb1 hb2 hb3 hb4 hb5 e1 e2 e3 e4
  have FC := Lib.hid (fun (W : World) (hb : Below wA.heap.size wA W) => (by
    have q1 := (blk_at (box_keep hbox' hb)).1 6
    have q2 := (blk_at (box_keep hM5 hb)).1
    have q3 := (blk_at (box_keep hM1' hb)).1 0
    have q4 := (blk_at (box_keep hM2' hb)).1 0
    have q5 := (blk_at (box_keep hM3' hb)).1 0
    have q6 := (blk_at (box_keep hM4' hb)).1 0
    exact ⟨q1, q2 0, q2 1, q3, q5, q4, q6⟩ : W.cell? ⟨r, 6, none⟩ = some (.slice A xs.length c) ∧ W.cell? ⟨w.heap.size + 1 + 1 + 1 + 1, 0, none⟩ = some (.slice (some ⟨w.heap.size + 1, 0, none⟩) 1 1) ∧ W.cell? ⟨w.heap.size + 1 + 1 + 1 + 1, 1, none⟩ = some (.slice (some ⟨w.heap.size + 1 + 1 + 1, 0, none⟩) 1 1) ∧ W.cell? ⟨w.heap.size, 0, none⟩ = some (.int .i64 (-7701)) ∧ W.cell? ⟨w.heap.size + 1 + 1, 0, none⟩ = some (.int .i64 (-7702)) ∧ W.cell? ⟨w.heap.size + 1, 0, none⟩ = some (.slice (some ⟨w.heap.size, 0, none⟩) 1 1) ∧ W.cell? ⟨w.heap.size + 1 + 1 + 1, 0, none⟩ = some (.slice (some ⟨w.heap.size + 1 + 1, 0, none⟩) 1 1)))
  go_wp2_with fail
  go_loopw [4] (fun iv wx => ∃ i : Nat, i ≤ xs.length ∧ iv = .int .i64 i ∧ Below wA.heap.size wA wx) (fun iv _ => xs.length - (intOf iv).toNat)
  case atStart => exact ⟨0, by omega, rfl, Below.refl _ _⟩
  case round =>
    obtain ⟨i, hi, rfl, hbr⟩ := hrel
    obtain ⟨q1, -, -, -, -, -, -⟩ := FC.out _ hbr
    by_cases hlt : i < xs.length
    · have dlt : decide ((i : Int) < (xs.length : Int)) = true := decide_eq_true (by omega)
      have i0 : (0 : Int) ≤ (i : Int) := by omega
      have i1 : (i : Int) < (xs.length : Int) := by omega
      obtain ⟨l, hl1⟩ := hE _ (getD_mem [] hlt)
      obtain ⟨ad, A1, c1, rfl, hc, hc1, hC1⟩ := sl_at hC2 i hlt
      rw [hl1] at hc hc1 hC1
      have hll : (l ++ mk3).length = l.length + 8 := by rw [List.length_append]; rfl
      rw [hll] at hc hc1 hC1
      have hmx := hC1.2.1
      generalize hn : l.length = n at *
      have HN := Lib.hid hn
      clear hn hll
      have hcr := cell_later hbr hc
      go_wp2_with fail
      clear q1 hcr
      go_loopw [6] (fun kv wx => ∃ k : Nat, k ≤ 8 ∧ kv = .int .i64 k ∧ Below wA.heap.size wA wx) (fun kv _ => 8 - (intOf kv).toNat)
      case atStart => exact ⟨0, by omega, rfl, hbr⟩
      case round =>
        clear hbr
        obtain ⟨k, hk, rfl, hbr⟩ := hrel
        obtain ⟨q1, q2, q3, q4, q5, q6, q7⟩ := FC.out _ hbr
        have hcr := cell_later hbr hc
        by_cases hkt : k < 8
        · have dk : decide ((k : Int) < 8) = true := decide_eq_true (by omega)
          obtain ⟨ad1, A2, c2, rfl, hcx, hc2, hC3⟩ := sl_at hC1 (n + k) (by omega)
          have hx : (l ++ mk3).getD (n + k) [] = mk3.getD k [] := by rw [← HN.out]; exact end_at l mk3 k []
          rw [hx, mk3_at k hkt] at hcx hc2 hC3
          have k0 : (0 : Int) ≤ (k : Int) := by omega
          have z0 : (0 : Int) ≤ (n : Int) + (k : Int) := by omega
          have z1 : (n : Int) + (k : Int) < (n : Int) + 8 := by omega
          have z2 : ((n : Int) + (k : Int)).toNat = n + k := by omega
          have e2 : ((k : Int).tmod 2) = ((k % 2 : Nat) : Int) := rfl
          rcases Nat.mod_two_eq_zero_or_one k with e | e
          · rw [if_pos e] at hcx hc2 hC3
            rw [e] at e2
            obtain ⟨ad2, A3, c3, rfl, hcy, hc3, hC4⟩ := sl_at hC3 0 (by simp)
            simp only [List.getD_cons_zero] at hcy hc3 hC4
            obtain ⟨ad3, rfl, hcz⟩ := int_at hC4 0 (by simp)
            rw [add_zero'] at hcy hcz
            have hcxr := cell_later hbr hcx
            have hcyr := cell_later hbr hcy
            have hczr := cell_later hbr hcz
            clear hcx hcy hcz
            simp only [List.length_singleton, List.getD_cons_zero] at hcxr hcyr hczr
            go_upto_region 11 with fail
            go_quiet (fail)
            go_wp2_with fail
            exact ⟨⟨k + 1, by omega, by simp, below_drN hbr nq⟩, by simp [intOf]; omega⟩
          · rw [if_neg (by omega)] at hcx hc2 hC3
            rw [e] at e2
            obtain ⟨ad2, A3, c3, rfl, hcy, hc3, hC4⟩ := sl_at hC3 0 (by simp)
            simp only [List.getD_cons_zero] at hcy hc3 hC4
            obtain ⟨ad3, rfl, hcz⟩ := int_at hC4 0 (by simp)
            rw [add_zero'] at hcy hcz
            have hcxr := cell_later hbr hcx
            have hcyr := cell_later hbr hcy
            have hczr := cell_later hbr hcz
            clear hcx hcy hcz
            simp only [List.length_singleton, List.getD_cons_zero] at hcxr hcyr hczr
            go_upto_region 11 with fail
            go_quiet (fail)
            go_wp2_with fail
            exact ⟨⟨k + 1, by omega, by simp, below_drN hbr nq⟩, by simp [intOf]; omega⟩
        · have dk : decide ((k : Int) < 8) = false := decide_eq_false (by omega)
          go_wp2_with fail
          exact ⟨⟨i + 1, by omega, by simp, hbr⟩, by simp [intOf]; omega⟩
    · have dlt : decide ((i : Int) < (xs.length : Int)) = false := decide_eq_false (by omega)
      go_wp2_with fail
      go_ret
      exact ⟨rfl, hbA.trans (hbr.mono (by omega))⟩
end Go.Proofs.YtogpgkoelplknaaDoor
end
section
/- middenroom: holdObjects. No condition. -/

namespace Go.Proofs.YtogpgkoelplknaaDoor
open Go.RowKit Go.BigFrame PLensPaths Go.Proofs.YtogpgkoelplknaaDoorW.PrintWords Go.Proofs.YtogpgkoelplknaaDoorW.PrintMore
set_option linter.unusedVariables false
theorem mkO_at (k : Nat) (hk : k < 8) : mkO.getD k default = if k % 2 = 0 then obM (-7701) else obM (-7702) :=
  match k, hk with
  | 0, _ => rfl
  | 1, _ => rfl
  | 2, _ => rfl
  | 3, _ => rfl
  | 4, _ => rfl
  | 5, _ => rfl
  | 6, _ => rfl
  | 7, _ => rfl
  | _ + 8, h => by omega
set_option maxRecDepth 100000 in
set_option maxHeartbeats 8000000 in
theorem holdObjects_true (w : World) (B r : Nat) (V : Nat → Value) (N : Nat) (ex : Nat → Prop) (hr : RoomAt w B r V N ex) (hN : N ≤ 8388608) :
    Calls Tryd.prog 55 #[.pointer (some ⟨r, 0, none⟩)] w fun e w' => e = .returned (.bool true) ∧ Below w.heap.size w w' := by
  obtain ⟨A, xs, c, hv, hl, hC, hE⟩ := Rwk.read (hr.row 4 (by omega))
  have hbox := hr.box
  rw [hv] at hbox
  have rr := blk_lt hbox
  clear hr hv
  have s1 := alloc_sz w (.cells #[.int .u64 0, .int .i64 (-7701), .int .i64 0, .slice none 0 0, .slice none 0 0, .int .u64 0, .int .i64 (-7702), .int .i64 0, .slice none 0 0, .slice none 0 0] 59 (0, 0))
  have hbA := (Below.refl w.heap.size w).alloc (Nat.le_refl _) (.cells #[.int .u64 0, .int .i64 (-7701), .int .i64 0, .slice none 0 0, .slice none 0 0, .int .u64 0, .int .i64 (-7702), .int .i64 0, .slice none 0 0, .slice none 0 0] 59 (0, 0))
  have hM := blk_new w (.cells #[.int .u64 0, .int .i64 (-7701), .int .i64 0, .slice none 0 0, .slice none 0 0, .int .u64 0, .int .i64 (-7702), .int .i64 0, .slice none 0 0, .slice none 0 0] 59 (0, 0))
  go_enter Tryd.func55, Tryd.ntmps55
  go_upto_region 2 with fail
  generalize w.alloc _ = wA at *
  have hbox' := box_keep hbox hbA
  have hC2 : Kd.C (Kd.slice 59 kOb) wA A xs.length xs := Kd.C_below hC hbA
  have sA : wA.heap.size = w.heap.size + 1 := s1
  clear hbox hC s1
  have FC := Lib.hid (fun (W : World) (hb : Below wA.heap.size wA W) => (by
    have q1 := (blk_at (box_keep hbox' hb)).1 7
    have q2 := (blk_at (box_keep hM hb)).1
    exact ⟨q1, q2 0, q2 1, q2 2, q2 3, q2 4, q2 5, q2 6, q2 7, q2 8, q2 9⟩ : W.cell? ⟨r, 7, none⟩ = some (.slice A xs.length c) ∧ W.cell? ⟨w.heap.size, 0, none⟩ = some (.int .u64 0) ∧ W.cell? ⟨w.heap.size, 1, none⟩ = some (.int .i64 (-7701)) ∧ W.cell? ⟨w.heap.size, 2, none⟩ = some (.int .i64 0) ∧ W.cell? ⟨w.heap.size, 3, none⟩ = some (.slice none 0 0) ∧ W.cell? ⟨w.heap.size, 4, none⟩ = some (.slice none 0 0) ∧ W.cell? ⟨w.heap.size, 5, none⟩ = some (.int .u64 0) ∧ W.cell? ⟨w.heap.size, 6, none⟩ = some (.int .i64 (-7702)) ∧ W.cell? ⟨w.heap.size, 7, none⟩ = some (.int .i64 0) ∧ W.cell? ⟨w.heap.size, 8, none⟩ = some (.slice none 0 0) ∧ W.cell? ⟨w.heap.size, 9, none⟩ = some (.slice none 0 0)))
  go_wp2_with fail
  go_loopw [4] (fun iv wx => ∃ i : Nat, i ≤ xs.length ∧ iv = .int .i64 i ∧ Below wA.heap.size wA wx) (fun iv _ => xs.length - (intOf iv).toNat)
  case atStart => exact ⟨0, by omega, rfl, Below.refl _ _⟩
  case round =>
    obtain ⟨i, hi, rfl, hbr⟩ := hrel
    obtain ⟨q1, -⟩ := FC.out _ hbr
    by_cases hlt : i < xs.length
    · have dlt : decide ((i : Int) < (xs.length : Int)) = true := decide_eq_true (by omega)
      have i0 : (0 : Int) ≤ (i : Int) := by omega
      have i1 : (i : Int) < (xs.length : Int) := by omega
      obtain ⟨l, hl1⟩ := hE _ (getD_mem [] hlt)
      obtain ⟨ad, A1, c1, rfl, hc, hc1, hC1⟩ := sl_at hC2 i hlt
      rw [hl1] at hc hc1 hC1
      have hll : (l ++ mkO).length = l.length + 8 := by rw [List.length_append]; rfl
      rw [hll] at hc hc1 hC1
      have hmx := hC1.2.1
      generalize hn : l.length = n at *
      have HN := Lib.hid hn
      clear hn hll
      have hcr := cell_later hbr hc
      go_wp2_with fail
      clear q1 hcr
      go_loopw [6] (fun kv wx => ∃ k : Nat, k ≤ 8 ∧ kv = .int .i64 k ∧ Below wA.heap.size wA wx) (fun kv _ => 8 - (intOf kv).toNat)
      case atStart => exact ⟨0, by omega, rfl, hbr⟩
      case round =>
        clear hbr
        obtain ⟨k, hk, rfl, hbr⟩ := hrel
        obtain ⟨q1, p0, p1, p2, p3, p4, p5, p6, p7, p8, p9⟩ := FC.out _ hbr
        have hcr := cell_later hbr hc
        by_cases hkt : k < 8
        · have dk : decide ((k : Int) < 8) = true := decide_eq_true (by omega)
          obtain ⟨ad1, A3, c3, A4, c4, rfl, x0, x1, x2, x3, x4, -, -, -, -⟩ := ob_at hC1 (n + k) (by omega)
          have hx : (l ++ mkO).getD (n + k) default = mkO.getD k default := by rw [← HN.out]; exact end_at l mkO k default
          rw [hx, mkO_at k hkt] at x0 x1 x2 x3 x4
          have k0 : (0 : Int) ≤ (k : Int) := by omega
          have z0 : (0 : Int) ≤ (n : Int) + (k : Int) := by omega
          have z1 : (n : Int) + (k : Int) < (n : Int) + 8 := by omega
          have z2 : ((n : Int) + (k : Int)).toNat = n + k := by omega
          have e2 : ((k : Int).tmod 2) = ((k % 2 : Nat) : Int) := rfl
          rcases Nat.mod_two_eq_zero_or_one k with e | e
          · rw [if_pos e] at x0 x1 x2 x3 x4
            rw [e] at e2
            have y0 := cell_later hbr x0
            have y1 := cell_later hbr x1
            have y2 := cell_later hbr x2
            have y3 := cell_later hbr x3
            have y4 := cell_later hbr x4
            clear x0 x1 x2 x3 x4
            simp only [obM, List.length_nil] at y0 y1 y2 y3 y4
            go_upto_region 10 with fail
            have hbx := hbr.alloc hbr.size (.cells #[.int .u64 0, .int .i64 (-7701), .int .i64 0, .slice A3 0 c3, .slice A4 0 c4] 59 (0, 0))
            have hX := blk_new wr (.cells #[.int .u64 0, .int .i64 (-7701), .int .i64 0, .slice A3 0 c3, .slice A4 0 c4] 59 (0, 0))
            have bx := (Below.refl wr.heap.size wr).alloc (Nat.le_refl _) (.cells #[.int .u64 0, .int .i64 (-7701), .int .i64 0, .slice A3 0 c3, .slice A4 0 c4] 59 (0, 0))
            generalize wr.alloc _ = wx at *
            clear q1 p0 p1 p2 p3 p4 p5 p6 p7 p8 p9 y0 y1 y2 y3 y4
            obtain ⟨q1, p0, p1, p2, p3, p4, p5, p6, p7, p8, p9⟩ := FC.out _ hbx
            go_upto_region 11 with fail
            have hby := hbx.alloc hbx.size (.cells #[.int .u64 0, .int .i64 (-7701), .int .i64 0, .slice none 0 0, .slice none 0 0] 59 (0, 0))
            have hY := blk_new wx (.cells #[.int .u64 0, .int .i64 (-7701), .int .i64 0, .slice none 0 0, .slice none 0 0] 59 (0, 0))
            have hX' := box_keep hX ((Below.refl wx.heap.size wx).alloc (Nat.le_refl _) (.cells #[.int .u64 0, .int .i64 (-7701), .int .i64 0, .slice none 0 0, .slice none 0 0] 59 (0, 0)))
            generalize wx.alloc _ = wy at *
            have t1 : wy.cell? ⟨wr.heap.size, 1, none⟩ = some (.int .i64 (-7701)) := (blk_at hX').1 1
            have t3 : wy.cell? ⟨wr.heap.size, 3, none⟩ = some (.slice A3 0 c3) := (blk_at hX').1 3
            have t5 : wy.cell? ⟨wx.heap.size, 1, none⟩ = some (.int .i64 (-7701)) := (blk_at hY).1 1
            go_wp2_with fail
            exact ⟨⟨k + 1, by omega, by simp, hby⟩, by simp [intOf]; omega⟩
          · rw [if_neg (by omega)] at x0 x1 x2 x3 x4
            rw [e] at e2
            have y0 := cell_later hbr x0
            have y1 := cell_later hbr x1
            have y2 := cell_later hbr x2
            have y3 := cell_later hbr x3
            have y4 := cell_later hbr x4
            clear x0 x1 x2 x3 x4
            simp only [obM, List.length_nil] at y0 y1 y2 y3 y4
            go_upto_region 10 with fail
            have hbx := hbr.alloc hbr.size (.cells #[.int .u64 0, .int .i64 (-7702), .int .i64 0, .slice A3 0 c3, .slice A4 0 c4] 59 (0, 0))
            have hX := blk_new wr (.cells #[.int .u64 0, .int .i64 (-7702), .int .i64 0, .slice A3 0 c3, .slice A4 0 c4] 59 (0, 0))
            have bx := (Below.refl wr.heap.size wr).alloc (Nat.le_refl _) (.cells #[.int .u64 0, .int .i64 (-7702), .int .i64 0, .slice A3 0 c3, .slice A4 0 c4] 59 (0, 0))
            generalize wr.alloc _ = wx at *
            clear q1 p0 p1 p2 p3 p4 p5 p6 p7 p8 p9 y0 y1 y2 y3 y4
            obtain ⟨q1, p0, p1, p2, p3, p4, p5, p6, p7, p8, p9⟩ := FC.out _ hbx
            go_upto_region 11 with fail
            have hby := hbx.alloc hbx.size (.cells #[.int .u64 0, .int .i64 (-7702), .int .i64 0, .slice none 0 0, .slice none 0 0] 59 (0, 0))
            have hY := blk_new wx (.cells #[.int .u64 0, .int .i64 (-7702), .int .i64 0, .slice none 0 0, .slice none 0 0] 59 (0, 0))
            have hX' := box_keep hX ((Below.refl wx.heap.size wx).alloc (Nat.le_refl _) (.cells #[.int .u64 0, .int .i64 (-7702), .int .i64 0, .slice none 0 0, .slice none 0 0] 59 (0, 0)))
            generalize wx.alloc _ = wy at *
            have t1 : wy.cell? ⟨wr.heap.size, 1, none⟩ = some (.int .i64 (-7702)) := (blk_at hX').1 1
            have t3 : wy.cell? ⟨wr.heap.size, 3, none⟩ = some (.slice A3 0 c3) := (blk_at hX').1 3
            have t5 : wy.cell? ⟨wx.heap.size, 1, none⟩ = some (.int .i64 (-7702)) := (blk_at hY).1 1
            go_wp2_with fail
            exact ⟨⟨k + 1, by omega, by simp, hby⟩, by simp [intOf]; omega⟩
        · have dk : decide ((k : Int) < 8) = false := decide_eq_false (by omega)
          go_wp2_with fail
          exact ⟨⟨i + 1, by omega, by simp, hbr⟩, by simp [intOf]; omega⟩
    · have dlt : decide ((i : Int) < (xs.length : Int)) = false := decide_eq_false (by omega)
      go_wp2_with fail
      go_ret
      exact ⟨rfl, hbA.trans (hbr.mono (by omega))⟩
end Go.Proofs.YtogpgkoelplknaaDoor
end
section
/- middenroom: Hold. No condition. -/

namespace Go.Proofs.YtogpgkoelplknaaDoor
open Go.RowKit Go.BigFrame PLensPaths Go.Proofs.YtogpgkoelplknaaDoorW.PrintWords Go.Proofs.YtogpgkoelplknaaDoorW.PrintMore
set_option linter.unusedVariables false
set_option maxRecDepth 100000 in
set_option maxHeartbeats 8000000 in
theorem holdBytes_true (w : World) (B r : Nat) (V : Nat → Value) (N : Nat) (ex : Nat → Prop) (hr : RoomAt w B r V N ex) :
    Calls Tryd.prog 48 #[.pointer (some ⟨r, 0, none⟩)] w fun e w' => e = .returned (.bool true) ∧ Below w.heap.size w w' := by
  have hbox := hr.box
  have rr := blk_lt hbox
  clear hr
  have hb0 : ∀ o : Obj, Below w.heap.size w (w.alloc o) := fun o => (Below.refl _ _).alloc (Nat.le_refl _) o
  go_enter Tryd.func48, Tryd.ntmps48
  go_upto_region 2 with fail
  generalize hA : w.alloc _ = wA
  have hb : Below w.heap.size w wA := by rw [← hA]; exact hb0 _
  clear hA hb0
  have k1 : wA.cell? ⟨r, 0, none⟩ = some (.slice none 0 0) := (blk_at (box_keep hbox hb)).1 0
  go_wp2_with fail
  go_loopw [4] (fun iv wx => iv = .int .i64 0 ∧ wx = wA) (fun iv _ => 0)
  case atStart => exact ⟨rfl, rfl⟩
  case round =>
    obtain ⟨rfl, rfl⟩ := hrel
    go_wp2_with fail
    go_ret
    exact ⟨rfl, hb⟩
set_option maxRecDepth 100000 in
set_option maxHeartbeats 8000000 in
theorem holdTexts_true (w : World) (B r : Nat) (V : Nat → Value) (N : Nat) (ex : Nat → Prop) (hr : RoomAt w B r V N ex) :
    Calls Tryd.prog 51 #[.pointer (some ⟨r, 0, none⟩)] w fun e w' => e = .returned (.bool true) ∧ Below w.heap.size w w' := by
  have hbox := hr.box
  have rr := blk_lt hbox
  clear hr
  have hb0 : ∀ o : Obj, Below w.heap.size w (w.alloc o) := fun o => (Below.refl _ _).alloc (Nat.le_refl _) o
  go_enter Tryd.func51, Tryd.ntmps51
  go_upto_region 2 with fail
  generalize hA : w.alloc _ = wA
  have hb : Below w.heap.size w wA := by rw [← hA]; exact hb0 _
  clear hA hb0
  have k1 : wA.cell? ⟨r, 3, none⟩ = some (.slice none 0 0) := (blk_at (box_keep hbox hb)).1 3
  go_wp2_with fail
  go_loopw [4] (fun iv wx => iv = .int .i64 0 ∧ wx = wA) (fun iv _ => 0)
  case atStart => exact ⟨rfl, rfl⟩
  case round =>
    obtain ⟨rfl, rfl⟩ := hrel
    go_wp2_with fail
    go_ret
    exact ⟨rfl, hb⟩
set_option maxRecDepth 100000 in
set_option maxHeartbeats 8000000 in
theorem holdOps_true (w : World) (B r : Nat) (V : Nat → Value) (N : Nat) (ex : Nat → Prop) (hr : RoomAt w B r V N ex) :
    Calls Tryd.prog 52 #[.pointer (some ⟨r, 0, none⟩)] w fun e w' => e = .returned (.bool true) ∧ Below w.heap.size w w' := by
  have hbox := hr.box
  have rr := blk_lt hbox
  clear hr
  have hb0 : ∀ o : Obj, Below w.heap.size w (w.alloc o) := fun o => (Below.refl _ _).alloc (Nat.le_refl _) o
  go_enter Tryd.func52, Tryd.ntmps52
  go_upto_region 2 with fail
  generalize hA : w.alloc _ = wA
  have hb : Below w.heap.size w wA := by rw [← hA]; exact hb0 _
  clear hA hb0
  have k1 : wA.cell? ⟨r, 4, none⟩ = some (.slice none 0 0) := (blk_at (box_keep hbox hb)).1 4
  go_wp2_with fail
  go_loopw [4] (fun iv wx => iv = .int .i64 0 ∧ wx = wA) (fun iv _ => 0)
  case atStart => exact ⟨rfl, rfl⟩
  case round =>
    obtain ⟨rfl, rfl⟩ := hrel
    go_wp2_with fail
    go_ret
    exact ⟨rfl, hb⟩
set_option maxRecDepth 100000 in
set_option maxHeartbeats 8000000 in
theorem hold_true (w : World) (B r : Nat) (V : Nat → Value) (N : Nat) (ex : Nat → Prop) (hr : RoomAt w B r V N ex) (hN : N ≤ 8388608) :
    Calls Tryd.prog 15 #[.pointer (some ⟨r, 0, none⟩)] w fun e w' => e = .returned (.bool true) ∧ Below w.heap.size w w' := by
  have C0 := Lib.hid (fun (W : World) (hb : Below w.heap.size w W) => holdBytes_true W B r V N ex (hr.below hb))
  have C1 := Lib.hid (fun (W : World) (hb : Below w.heap.size w W) => holdInts_true W B r V N ex (hr.below hb) hN)
  have C2 := Lib.hid (fun (W : World) (hb : Below w.heap.size w W) => holdWords_true W B r V N ex (hr.below hb) hN)
  have C3 := Lib.hid (fun (W : World) (hb : Below w.heap.size w W) => holdTexts_true W B r V N ex (hr.below hb))
  have C4 := Lib.hid (fun (W : World) (hb : Below w.heap.size w W) => holdOps_true W B r V N ex (hr.below hb))
  have C5 := Lib.hid (fun (W : World) (hb : Below w.heap.size w W) => holdIntLists_true W B r V N ex (hr.below hb) hN)
  have C6 := Lib.hid (fun (W : World) (hb : Below w.heap.size w W) => holdFrames_true W B r V N ex (hr.below hb) hN)
  have C7 := Lib.hid (fun (W : World) (hb : Below w.heap.size w W) => holdObjects_true W B r V N ex (hr.below hb) hN)
  have b0 := Below.refl w.heap.size w
  go_enter Tryd.func15, Tryd.ntmps15
  go_wp2_with (first
    | (go_at_call 48; refine (C0.out _ b0).mono ?_; rintro e w1 ⟨rfl, h1⟩; have b1 := below_then b0 b0.size h1)
    | (go_at_call 49; refine (C1.out _ b1).mono ?_; rintro e w2 ⟨rfl, h2⟩; have b2 := below_then b1 b1.size h2)
    | (go_at_call 50; refine (C2.out _ b2).mono ?_; rintro e w3 ⟨rfl, h3⟩; have b3 := below_then b2 b2.size h3)
    | (go_at_call 51; refine (C3.out _ b3).mono ?_; rintro e w4 ⟨rfl, h4⟩; have b4 := below_then b3 b3.size h4)
    | (go_at_call 52; refine (C4.out _ b4).mono ?_; rintro e w5 ⟨rfl, h5⟩; have b5 := below_then b4 b4.size h5)
    | (go_at_call 53; refine (C5.out _ b5).mono ?_; rintro e w6 ⟨rfl, h6⟩; have b6 := below_then b5 b5.size h6)
    | (go_at_call 54; refine (C6.out _ b6).mono ?_; rintro e w7 ⟨rfl, h7⟩; have b7 := below_then b6 b6.size h7)
    | (go_at_call 55; refine (C7.out _ b7).mono ?_; rintro e w8 ⟨rfl, h8⟩; have b8 := below_then b7 b7.size h8))
  go_ret
  exact ⟨rfl, b8⟩
end Go.Proofs.YtogpgkoelplknaaDoor
end
section
/- middenlaw17: same and sameWords of equal lists; sameGraph of one graph at two places. No condition. -/


namespace Go.Proofs.YtogpgkoelplknaaDoor
open Go.RowKit Go.BigFrame PLensPaths Go.Proofs.YtogpgkoelplknaaDoorW.PrintWords Go.Proofs.YtogpgkoelplknaaDoorW.PrintMore
set_option linter.unusedVariables false
theorem same_ev (l : List Int) (hl : l.length ≤ 4194304) : Ev (fun k => middenlaw17_same.f k l l) true := by
  have key : ∀ (d i : Nat), i + d = l.length → Ev (fun k => middenlaw17_same.l0 k l l (i : Int)) true := by
    intro d
    induction d with
    | zero =>
      intro i hi
      exact Ev.step (fun k => by rw [middenlaw17_same.l0, if_neg (by omega)]) (Ev.now _)
    | succ d ih =>
      intro i hi
      exact Ev.step (fun k => by rw [middenlaw17_same.l0, if_pos (by omega), if_pos (by omega), if_pos (by omega), if_pos rfl, wrap_up (by omega)]) (by simpa using ih (i + 1) (by omega))
  have := key l.length 0 (by omega)
  simpa [middenlaw17_same.f] using this
theorem sameWords_ev (l : List Int) (hl : l.length ≤ 4194304) : Ev (fun k => middenlaw17_sameWords.f k l l) true := by
  have key : ∀ (d i : Nat), i + d = l.length → Ev (fun k => middenlaw17_sameWords.l0 k l l (i : Int)) true := by
    intro d
    induction d with
    | zero =>
      intro i hi
      exact Ev.step (fun k => by rw [middenlaw17_sameWords.l0, if_neg (by omega)]) (Ev.now _)
    | succ d ih =>
      intro i hi
      exact Ev.step (fun k => by rw [middenlaw17_sameWords.l0, if_pos (by omega), if_pos (by omega), if_pos (by omega), if_pos rfl, wrap_up (by omega)]) (by simpa using ih (i + 1) (by omega))
  have := key l.length 0 (by omega)
  simpa [middenlaw17_sameWords.f] using this
theorem same_q (A : Option Addr) (c : Nat) (A' : Option Addr) (c' : Nat) (l : List Int) (w : World) (h : Kd.C (Kd.int .i64) w A l.length l) (hc : l.length ≤ c) (h' : Kd.C (Kd.int .i64) w A' l.length l) (hc' : l.length ≤ c') (hl : l.length ≤ 4194304) :
    Calls Tryd.prog 13 #[.slice A l.length c, .slice A' l.length c'] w fun e w' => e = .returned (.bool true) ∧ ∃ m, w' = w.drewN m := by
  obtain ⟨k, hk⟩ := (same_ev l hl).rounds
  exact (middenlaw17_same.calls k A c l A' c' l _ w h hc h' hc' hk).mono fun e w' h => ⟨h.1, h.2.out⟩
theorem sameWords_q (A : Option Addr) (c : Nat) (A' : Option Addr) (c' : Nat) (l : List Int) (w : World) (h : Kd.C (Kd.int .u64) w A l.length l) (hc : l.length ≤ c) (h' : Kd.C (Kd.int .u64) w A' l.length l) (hc' : l.length ≤ c') (hl : l.length ≤ 4194304) :
    Calls Tryd.prog 47 #[.slice A l.length c, .slice A' l.length c'] w fun e w' => e = .returned (.bool true) ∧ ∃ m, w' = w.drewN m := by
  obtain ⟨k, hk⟩ := (sameWords_ev l hl).rounds
  exact (middenlaw17_sameWords.calls k A c l A' c' l _ w h hc h' hc' hk).mono fun e w' h => ⟨h.1, h.2.out⟩
theorem same_b {w0 : World} (A : Option Addr) (c : Nat) (A' : Option Addr) (c' : Nat) (l : List Int) (w : World) (hb : Below w0.heap.size w0 w) (h : Kd.C (Kd.int .i64) w0 A l.length l) (hc : l.length ≤ c) (h' : Kd.C (Kd.int .i64) w0 A' l.length l) (hc' : l.length ≤ c') (hl : l.length ≤ 4194304) :
    Calls Tryd.prog 13 #[.slice A l.length c, .slice A' l.length c'] w fun e w' => e = .returned (.bool true) ∧ Below w0.heap.size w0 w' :=
  (same_q A c A' c' l w (Kd.C_below h hb) hc (Kd.C_below h' hb) hc' hl).mono fun e w' q => ⟨q.1, by obtain ⟨m, rfl⟩ := q.2; exact below_drN hb m⟩
theorem two_new (W : World) (o1 o2 : Obj) : ((W.alloc o1).alloc o2).drew.heap[W.heap.size]? = some o1 ∧ ((W.alloc o1).alloc o2).drew.heap[W.heap.size + 1]? = some o2 := by
  have h2 := blk_new (W.alloc o1) o2
  rw [alloc_sz] at h2
  have s1 := alloc_sz W o1
  exact ⟨(((Below.refl (W.alloc o1).heap.size (W.alloc o1)).alloc (Nat.le_refl _) o2).block W.heap.size (by omega)).trans (blk_new W o1), h2⟩
theorem two_below {B : Nat} {w W : World} (h : Below B w W) (hB : B ≤ W.heap.size) (o1 o2 : Obj) : Below B w ((W.alloc o1).alloc o2).drew := ((h.alloc hB o1).alloc (by rw [alloc_sz]; omega) o2).drew
theorem sameWords_b {w0 : World} (A : Option Addr) (c : Nat) (A' : Option Addr) (c' : Nat) (l : List Int) (w : World) (hb : Below w0.heap.size w0 w) (h : Kd.C (Kd.int .u64) w0 A l.length l) (hc : l.length ≤ c) (h' : Kd.C (Kd.int .u64) w0 A' l.length l) (hc' : l.length ≤ c') (hl : l.length ≤ 4194304) :
    Calls Tryd.prog 47 #[.slice A l.length c, .slice A' l.length c'] w fun e w' => e = .returned (.bool true) ∧ Below w.heap.size w w' :=
  (sameWords_q A c A' c' l w (Kd.C_below h hb) hc (Kd.C_below h' hb) hc' hl).mono fun e w' q => ⟨q.1, by obtain ⟨m, rfl⟩ := q.2; exact below_drN (Below.refl _ _) m⟩
theorem same_c {w0 : World} (A : Option Addr) (c : Nat) (A' : Option Addr) (c' : Nat) (l : List Int) (w : World) (hb : Below w0.heap.size w0 w) (h : Kd.C (Kd.int .i64) w0 A l.length l) (hc : l.length ≤ c) (h' : Kd.C (Kd.int .i64) w0 A' l.length l) (hc' : l.length ≤ c') (hl : l.length ≤ 4194304) :
    Calls Tryd.prog 13 #[.slice A l.length c, .slice A' l.length c'] w fun e w' => e = .returned (.bool true) ∧ Below w.heap.size w w' :=
  (same_q A c A' c' l w (Kd.C_below h hb) hc (Kd.C_below h' hb) hc' hl).mono fun e w' q => ⟨q.1, by obtain ⟨m, rfl⟩ := q.2; exact below_drN (Below.refl _ _) m⟩
set_option maxRecDepth 100000 in
set_option maxHeartbeats 16000000 in
theorem sameGraph_q (ga gb : Gv) (G : Gr) (w : World) (ha : GAt w ga G) (hb : GAt w gb G) (bd : G.Bd) (fb : FrBd G) :
    Calls Tryd.prog 14 #[gval ga G, gval gb G] w fun e w' => e = .returned (.bool true) ∧ Below w.heap.size w w' := by
  obtain ⟨A0, A1, A2, A3, A4, c0, c1, c2, c3, c4⟩ := ga
  obtain ⟨B0, B1, B2, B3, B4, d0, d1, d2, d3, d4⟩ := gb
  have hn := bd.n
  have hm := bd.m
  have BX := boxed ha
  unfold gval gcells
  unfold gcells at BX
  simp only at BX ⊢
  go_enter Tryd.func14, Tryd.ntmps14
  go_upto_region 1 with fail
  obtain ⟨hX, hB, lA, hA⟩ := BX
  generalize hwB : w.alloc (.cells #[.slice A0 G.obs.length c0, .slice A1 G.slots.length c1, .slice A2 G.hands.length c2, .slice A3 G.reg.length c3, .slice A4 G.queue.length c4, .int .u64 G.next] 27) = wB at *
  have s1 : wB.heap.size = w.heap.size + 1 := by rw [← hwB]; exact alloc_sz _ _
  clear hwB
  have hY := blk_new wB (.cells #[.slice B0 G.obs.length d0, .slice B1 G.slots.length d1, .slice B2 G.hands.length d2, .slice B3 G.reg.length d3, .slice B4 G.queue.length d4, .int .u64 G.next] 27 (0, 0))
  have hB2 := (Below.refl wB.heap.size wB).alloc (Nat.le_refl _) (.cells #[.slice B0 G.obs.length d0, .slice B1 G.slots.length d1, .slice B2 G.hands.length d2, .slice B3 G.reg.length d3, .slice B4 G.queue.length d4, .int .u64 G.next] 27 (0, 0))
  have s2 := alloc_sz wB (.cells #[.slice B0 G.obs.length d0, .slice B1 G.slots.length d1, .slice B2 G.hands.length d2, .slice B3 G.reg.length d3, .slice B4 G.queue.length d4, .int .u64 G.next] 27 (0, 0))
  generalize wB.alloc _ = wC at *
  have hX2 := box_keep hX hB2
  have hA2 := hA.below hB2
  have hb2 := (hb.below hB).below hB2
  have hBC := below_then hB hB.size hB2
  rw [s1] at hY s2
  clear hX hB hA hB2 ha hb lA
  have FC := Lib.hid (fun (W : World) (hb : Below wC.heap.size wC W) => (by
    have q1 := (blk_at (box_keep hX2 hb)).1
    have q2 := (blk_at (box_keep hY hb)).1
    exact ⟨q1 0, q1 1, q1 2, q1 3, q1 4, q1 5, q2 0, q2 1, q2 2, q2 3, q2 4, q2 5⟩ : W.cell? ⟨w.heap.size, 0, none⟩ = some (.slice A0 G.obs.length c0) ∧ W.cell? ⟨w.heap.size, 1, none⟩ = some (.slice A1 G.slots.length c1) ∧ W.cell? ⟨w.heap.size, 2, none⟩ = some (.slice A2 G.hands.length c2) ∧ W.cell? ⟨w.heap.size, 3, none⟩ = some (.slice A3 G.reg.length c3) ∧ W.cell? ⟨w.heap.size, 4, none⟩ = some (.slice A4 G.queue.length c4) ∧ W.cell? ⟨w.heap.size, 5, none⟩ = some (.int .u64 G.next) ∧ W.cell? ⟨w.heap.size + 1, 0, none⟩ = some (.slice B0 G.obs.length d0) ∧ W.cell? ⟨w.heap.size + 1, 1, none⟩ = some (.slice B1 G.slots.length d1) ∧ W.cell? ⟨w.heap.size + 1, 2, none⟩ = some (.slice B2 G.hands.length d2) ∧ W.cell? ⟨w.heap.size + 1, 3, none⟩ = some (.slice B3 G.reg.length d3) ∧ W.cell? ⟨w.heap.size + 1, 4, none⟩ = some (.slice B4 G.queue.length d4) ∧ W.cell? ⟨w.heap.size + 1, 5, none⟩ = some (.int .u64 G.next)))
  have S2 := Lib.hid (fun (W : World) (h : Below wC.heap.size wC W) => same_b A2 c2 B2 d2 G.hands W h hA2.r2 hA2.l2 hb2.r2 hb2.l2 (by have := bd.h; omega))
  have S3 := Lib.hid (fun (W : World) (h : Below wC.heap.size wC W) => same_b A3 c3 B3 d3 G.reg W h hA2.r3 hA2.l3 hb2.r3 hb2.l3 (by have := bd.r; omega))
  have S4 := Lib.hid (fun (W : World) (h : Below wC.heap.size wC W) => same_b A4 c4 B4 d4 G.queue W h hA2.r4 hA2.l4 hb2.r4 hb2.l4 (by have := bd.q; omega))
  have b0 := Below.refl wC.heap.size wC
  obtain ⟨k0, k1, k2, k3, k4, k5, j0, j1, j2, j3, j4, j5⟩ := FC.out _ b0
  go_wp2_with (first
    | (go_at_call 13; refine (S4.out _ b2).mono ?_; rintro e w3 ⟨rfl, b3⟩; obtain ⟨k0, k1, k2, k3, k4, k5, j0, j1, j2, j3, j4, j5⟩ := FC.out _ b3)
    | (go_at_call 13; refine (S3.out _ b1).mono ?_; rintro e w2 ⟨rfl, b2⟩; obtain ⟨k0, k1, k2, k3, k4, k5, j0, j1, j2, j3, j4, j5⟩ := FC.out _ b2)
    | (go_at_call 13; refine (S2.out _ b0).mono ?_; rintro e w1 ⟨rfl, b1⟩; obtain ⟨k0, k1, k2, k3, k4, k5, j0, j1, j2, j3, j4, j5⟩ := FC.out _ b1))
  clear k0 k1 k2 k3 k4 k5 j0 j1 j2 j3 j4 j5 b0 b1 b2 S2 S3 S4
  go_loopw [5] (fun iv wx => ∃ i : Nat, i ≤ G.obs.length ∧ iv = .int .i64 i ∧ Below wC.heap.size wC wx) (fun iv _ => G.obs.length - (intOf iv).toNat)
  case atStart => exact ⟨0, by omega, rfl, b3⟩
  case round =>
    clear b3
    obtain ⟨i, hi, rfl, hbr⟩ := hrel
    obtain ⟨k0, k1, -, -, -, -, j0, j1, -⟩ := FC.out _ hbr
    by_cases hlt : i < G.obs.length
    · have dlt : decide ((i : Int) < (G.obs.length : Int)) = true := decide_eq_true (by omega)
      have i0 : (0 : Int) ≤ (i : Int) := by omega
      have i1 : (i : Int) < (G.obs.length : Int) := by omega
      obtain ⟨hq3, hq4⟩ := bd.i64 _ (getD_mem default hlt)
      obtain ⟨ad, A3, c3, A4, c4, ea, x0, x1, x2, x3, x4, l3, hC3, l4, hC4⟩ := ob_at hA2.r0 i hlt
      obtain ⟨bd', B3, d3, B4, d4, eb, y0, y1, y2, y3, y4, m3, hD3, m4, hD4⟩ := ob_at hb2.r0 i hlt
      simp only at ea eb
      subst ea eb
      generalize G.obs.getD i default = o at *
      obtain ⟨f0, f1, f2, f3, f4⟩ := o
      simp only at *
      have OC := Lib.hid (fun (W : World) (hb : Below wC.heap.size wC W) => (⟨cell_later hb x0, cell_later hb x1, cell_later hb x2, cell_later hb x3, cell_later hb x4, cell_later hb y0, cell_later hb y1, cell_later hb y2, cell_later hb y3, cell_later hb y4⟩ : W.cell? (ad.add (i * 5)) = some (.int .u64 f0) ∧ W.cell? ⟨(ad.add (i * 5)).block, (ad.add (i * 5)).off + 1, none⟩ = some (.int .i64 f1) ∧ W.cell? ⟨(ad.add (i * 5)).block, (ad.add (i * 5)).off + 2, none⟩ = some (.int .i64 f2) ∧ W.cell? ⟨(ad.add (i * 5)).block, (ad.add (i * 5)).off + 3, none⟩ = some (.slice A3 f3.length c3) ∧ W.cell? ⟨(ad.add (i * 5)).block, (ad.add (i * 5)).off + 4, none⟩ = some (.slice A4 f4.length c4) ∧ W.cell? (bd'.add (i * 5)) = some (.int .u64 f0) ∧ W.cell? ⟨(bd'.add (i * 5)).block, (bd'.add (i * 5)).off + 1, none⟩ = some (.int .i64 f1) ∧ W.cell? ⟨(bd'.add (i * 5)).block, (bd'.add (i * 5)).off + 2, none⟩ = some (.int .i64 f2) ∧ W.cell? ⟨(bd'.add (i * 5)).block, (bd'.add (i * 5)).off + 3, none⟩ = some (.slice B3 f3.length d3) ∧ W.cell? ⟨(bd'.add (i * 5)).block, (bd'.add (i * 5)).off + 4, none⟩ = some (.slice B4 f4.length d4)))
      clear x0 x1 x2 x3 x4 y0 y1 y2 y3 y4
      obtain ⟨x0, x1, x2, x3, x4, y0, y1, y2, y3, y4⟩ := OC.out _ hbr
      go_upto_region 6 with fail
      go_cut [6, 7] (fun v6 v7 wx => ∃ b6 b7 : Nat, v6 = .pointer (some ⟨b6, 0, none⟩) ∧ v7 = .pointer (some ⟨b7, 0, none⟩) ∧ wx.heap[b6]? = some (.cells #[.int .u64 f0, .int .i64 f1, .int .i64 f2, .slice A3 f3.length c3, .slice A4 f4.length c4] 59 (0, 0)) ∧ wx.heap[b7]? = some (.cells #[.int .u64 f0, .int .i64 f1, .int .i64 f2, .slice B3 f3.length d3, .slice B4 f4.length d4] 59 (0, 0)) ∧ Below wC.heap.size wC wx)
      case first =>
        have SC := Lib.hid (fun (W : World) (hb : Below wC.heap.size wC W) => (⟨(FC.out W hb).1, (FC.out W hb).2.2.2.2.2.2.1, OC.out W hb⟩ : W.cell? ⟨w.heap.size, 0, none⟩ = some (.slice (some ad) G.obs.length c0) ∧ W.cell? ⟨w.heap.size + 1, 0, none⟩ = some (.slice (some bd') G.obs.length d0) ∧ W.cell? (ad.add (i * 5)) = some (.int .u64 f0) ∧ W.cell? ⟨(ad.add (i * 5)).block, (ad.add (i * 5)).off + 1, none⟩ = some (.int .i64 f1) ∧ W.cell? ⟨(ad.add (i * 5)).block, (ad.add (i * 5)).off + 2, none⟩ = some (.int .i64 f2) ∧ W.cell? ⟨(ad.add (i * 5)).block, (ad.add (i * 5)).off + 3, none⟩ = some (.slice A3 f3.length c3) ∧ W.cell? ⟨(ad.add (i * 5)).block, (ad.add (i * 5)).off + 4, none⟩ = some (.slice A4 f4.length c4) ∧ W.cell? (bd'.add (i * 5)) = some (.int .u64 f0) ∧ W.cell? ⟨(bd'.add (i * 5)).block, (bd'.add (i * 5)).off + 1, none⟩ = some (.int .i64 f1) ∧ W.cell? ⟨(bd'.add (i * 5)).block, (bd'.add (i * 5)).off + 2, none⟩ = some (.int .i64 f2) ∧ W.cell? ⟨(bd'.add (i * 5)).block, (bd'.add (i * 5)).off + 3, none⟩ = some (.slice B3 f3.length d3) ∧ W.cell? ⟨(bd'.add (i * 5)).block, (bd'.add (i * 5)).off + 4, none⟩ = some (.slice B4 f4.length d4)))
        have hsz := hbr.size
        go_region_held3 (fun W => W.cell? ⟨w.heap.size, 0, none⟩ = some (.slice (some ad) G.obs.length c0) ∧ W.cell? ⟨w.heap.size + 1, 0, none⟩ = some (.slice (some bd') G.obs.length d0) ∧ W.cell? (ad.add (i * 5)) = some (.int .u64 f0) ∧ W.cell? ⟨(ad.add (i * 5)).block, (ad.add (i * 5)).off + 1, none⟩ = some (.int .i64 f1) ∧ W.cell? ⟨(ad.add (i * 5)).block, (ad.add (i * 5)).off + 2, none⟩ = some (.int .i64 f2) ∧ W.cell? ⟨(ad.add (i * 5)).block, (ad.add (i * 5)).off + 3, none⟩ = some (.slice A3 f3.length c3) ∧ W.cell? ⟨(ad.add (i * 5)).block, (ad.add (i * 5)).off + 4, none⟩ = some (.slice A4 f4.length c4) ∧ W.cell? (bd'.add (i * 5)) = some (.int .u64 f0) ∧ W.cell? ⟨(bd'.add (i * 5)).block, (bd'.add (i * 5)).off + 1, none⟩ = some (.int .i64 f1) ∧ W.cell? ⟨(bd'.add (i * 5)).block, (bd'.add (i * 5)).off + 2, none⟩ = some (.int .i64 f2) ∧ W.cell? ⟨(bd'.add (i * 5)).block, (bd'.add (i * 5)).off + 3, none⟩ = some (.slice B3 f3.length d3) ∧ W.cell? ⟨(bd'.add (i * 5)).block, (bd'.add (i * 5)).off + 4, none⟩ = some (.slice B4 f4.length d4))
          (exact SC.out _ (by
            repeat (first
              | exact hbr
              | refine Below.drew ?_
              | refine Below.alloc ?_ (by (try simp) <;> omega) _
              | refine Below.setCell ?_ (by (try simp) <;> omega) _)))
          (first | fail)
        · go_wp2_with fail
          go_meet
          obtain ⟨t1, t2⟩ := two_new wr (.cells #[.int .u64 f0, .int .i64 f1, .int .i64 f2, .slice A3 f3.length c3, .slice A4 f4.length c4] 59 (0, 0)) (.cells #[.int .u64 f0, .int .i64 f1, .int .i64 f2, .slice B3 f3.length d3, .slice B4 f4.length d4] 59 (0, 0))
          exact ⟨_, _, rfl, rfl, t1, t2, two_below hbr hsz _ _⟩
        · go_wp2_with fail
          go_meet
          obtain ⟨t1, t2⟩ := two_new wr (.cells #[.int .u64 f0, .int .i64 f1, .int .i64 f2, .slice B3 f3.length d3, .slice B4 f4.length d4] 59 (0, 0)) (.cells #[.int .u64 f0, .int .i64 f1, .int .i64 f2, .slice A3 f3.length c3, .slice A4 f4.length c4] 59 (0, 0))
          exact ⟨_, _, rfl, rfl, t2, t1, two_below hbr hsz _ _⟩
      case rest =>
        obtain ⟨b6, b7, rfl, rfl, hP, hQ, hbr⟩ := hcut
        clear x0 x1 x2 x3 x4 y0 y1 y2 y3 y4 k0 k1 j0 j1 OC
        have D1 := Lib.hid (fun (W : World) (h : Below wC.heap.size wC W) => same_c A3 c3 B3 d3 f3 W h hC3 l3 hD3 m3 (by omega))
        have D2 := Lib.hid (fun (W : World) (h : Below wC.heap.size wC W) => sameWords_b A4 c4 B4 d4 f4 W h hC4 l4 hD4 m4 (by omega))
        have PC := Lib.hid (fun (W : World) (h : Below wc.heap.size wc W) => (by
          have q1 := (blk_at (box_keep hP h)).1
          have q2 := (blk_at (box_keep hQ h)).1
          exact ⟨q1 0, q1 1, q1 2, q1 3, q1 4, q2 0, q2 1, q2 2, q2 3, q2 4⟩ : W.cell? ⟨b6, 0, none⟩ = some (.int .u64 f0) ∧ W.cell? ⟨b6, 1, none⟩ = some (.int .i64 f1) ∧ W.cell? ⟨b6, 2, none⟩ = some (.int .i64 f2) ∧ W.cell? ⟨b6, 3, none⟩ = some (.slice A3 f3.length c3) ∧ W.cell? ⟨b6, 4, none⟩ = some (.slice A4 f4.length c4) ∧ W.cell? ⟨b7, 0, none⟩ = some (.int .u64 f0) ∧ W.cell? ⟨b7, 1, none⟩ = some (.int .i64 f1) ∧ W.cell? ⟨b7, 2, none⟩ = some (.int .i64 f2) ∧ W.cell? ⟨b7, 3, none⟩ = some (.slice B3 f3.length d3) ∧ W.cell? ⟨b7, 4, none⟩ = some (.slice B4 f4.length d4)))
        obtain ⟨x0, x1, x2, x3, x4, y0, y1, y2, y3, y4⟩ := PC.out _ (Below.refl _ _)
        go_wp2_with (first
          | (go_at_call 13; refine (D1.out _ hbr).mono ?_; rintro e w4 ⟨rfl, b4⟩; have hb4 := below_then hbr hbr.size b4; obtain ⟨x0, x1, x2, x3, x4, y0, y1, y2, y3, y4⟩ := PC.out _ b4)
          | (go_at_call 47; refine (D2.out _ hb4).mono ?_; rintro e w5 ⟨rfl, b5⟩; have hb5 := below_then hb4 hb4.size b5))
        exact ⟨⟨i + 1, by omega, by simp, hb5⟩, by simp [intOf]; omega⟩
    · have dlt : decide ((i : Int) < (G.obs.length : Int)) = false := decide_eq_false (by omega)
      go_wp2_with fail
      clear k0 k1 j0 j1
      go_loopw [8] (fun tv wx => ∃ t : Nat, t ≤ G.slots.length ∧ tv = .int .i64 t ∧ Below wC.heap.size wC wx) (fun tv _ => G.slots.length - (intOf tv).toNat)
      case atStart => exact ⟨0, by omega, rfl, hbr⟩
      case round =>
        clear hbr
        obtain ⟨t, ht, rfl, hbr⟩ := hrel
        obtain ⟨-, k1, -, -, -, -, -, j1, -⟩ := FC.out _ hbr
        by_cases htl : t < G.slots.length
        · have dlt2 : decide ((t : Int) < (G.slots.length : Int)) = true := decide_eq_true (by omega)
          have t0 : (0 : Int) ≤ (t : Int) := by omega
          have t1 : (t : Int) < (G.slots.length : Int) := by omega
          have hm := fb _ (getD_mem [] htl)
          obtain ⟨ad, P1, p1, ea, hcA, hl1, hC1⟩ := sl_at hA2.r1 t htl
          obtain ⟨bd', Q1, q1, eb, hcB, hm1, hD1⟩ := sl_at hb2.r1 t htl
          simp only at ea eb
          subst ea eb
          generalize G.slots.getD t [] = fr at *
          obtain ⟨m1, m2, m3⟩ := hm
          have ha1 := cell_later hbr hcA
          have hb1 := cell_later hbr hcB
          go_upto_region 12 with fail
          go_quiet (fail)
          go_wp2_with fail
          clear k1 j1 ha1 hb1
          go_loopw [9] (fun fv wx => ∃ f : Nat, f ≤ fr.length ∧ fv = .int .i64 f ∧ Below wC.heap.size wC wx) (fun fv _ => fr.length - (intOf fv).toNat)
          case atStart => exact ⟨0, by omega, rfl, below_drN hbr nq⟩
          case round =>
            clear hbr
            obtain ⟨f, hf, rfl, hbr⟩ := hrel
            obtain ⟨-, k1, -, -, -, -, -, j1, -⟩ := FC.out _ hbr
            have ha1 := cell_later hbr hcA
            have hb1 := cell_later hbr hcB
            by_cases hlf : f < fr.length
            · have dlf : decide ((f : Int) < (fr.length : Int)) = true := decide_eq_true (by omega)
              have f0 : (0 : Int) ≤ (f : Int) := by omega
              have f1 : (f : Int) < (fr.length : Int) := by omega
              have hq := m3 _ (getD_mem [] hlf)
              obtain ⟨ad2, P2, p2, ea, hcP, hl2, hC2⟩ := sl_at hC1 f hlf
              obtain ⟨bd2, Q2, q2, eb, hcQ, hm2, hD2⟩ := sl_at hD1 f hlf
              subst ea eb
              have ha2 := cell_later hbr hcP
              have hb2' := cell_later hbr hcQ
              generalize fr.getD f [] = l at *
              have BQ := Lib.hid (fun n => same_q P2 p2 Q2 q2 l (wr.drewN n) (Kd.C_below hC2 (below_drN hbr n)) hl2 (Kd.C_below hD2 (below_drN hbr n)) hm2 (by omega))
              go_upto_region 17 with fail
              go_quiet ((go_at_call 13; exact Calls.quiet_of (BQ.out _)))
              go_wp2_with fail
              exact ⟨⟨f + 1, by omega, by simp, below_drN hbr nq⟩, by simp [intOf]; omega⟩
            · have dlf : decide ((f : Int) < (fr.length : Int)) = false := decide_eq_false (by omega)
              go_wp2_with fail
              exact ⟨⟨t + 1, by omega, by simp, hbr⟩, by simp [intOf]; omega⟩
        · have dlt2 : decide ((t : Int) < (G.slots.length : Int)) = false := decide_eq_false (by omega)
          go_wp2_with fail
          go_ret
          exact ⟨rfl, hBC.trans (hbr.mono (by omega))⟩
end Go.Proofs.YtogpgkoelplknaaDoor
end
section
/- Lens: what lens.distances holds: lists of lists, distances, one list more. No condition. -/

namespace Go.Proofs.YtogpgkoelplknaaDoor
open Go.RowKit Go.BigFrame PLensPaths Go.Proofs.YtogpgkoelplknaaDoorW.PrintWords Go.Proofs.YtogpgkoelplknaaDoorW.PrintMore
set_option linter.unusedVariables false
structure DsAt (w : World) (B gB gF cF n : Nat) (V : List Value) (L : List (List Int)) (F : List Int) (vX : Value) (X : List Int) : Prop where
  bk : BkAt w B gB n V L (fun k => k = gF ∨ vX.ownBlock = some k)
  far : RI w B (.slice (some ⟨gF, 0, none⟩) n cF) F
  xs : RI w B vX X
  ne : vX.ownBlock ≠ some gF
section
variable {w w1 : World} {B gB gF cF n : Nat} {V : List Value} {L : List (List Int)} {F X : List Int} {vX : Value}
theorem DsAt.fB (h : DsAt w B gB gF cF n V L F vX X) : B ≤ gF ∧ gF < w.heap.size := RI_lt h.far gF rfl
theorem DsAt.neB (h : DsAt w B gB gF cF n V L F vX X) : gB ≠ gF := fun e => by
  obtain ⟨cells, hc⟩ := Kd.R_typed h.far gF rfl
  rw [← e] at hc
  exact blk_ne h.bk.out hc (by decide) rfl
theorem DsAt.below (h : DsAt w B gB gF cF n V L F vX X) (hb : Below w.heap.size w w1) : DsAt w1 B gB gF cF n V L F vX X := ⟨h.bk.below hb, Kd.R_below h.far hb, Kd.R_below h.xs hb, h.ne⟩
/-- Another list takes the place of the one more. -/
theorem DsAt.other (h : DsAt w B gB gF cF n V L F vX X) {vY : Value} {Y : List Int} (hb : Below w.heap.size w w1) (hY : RI w1 w.heap.size vY Y) (hB : B ≤ w.heap.size) : DsAt w1 B gB gF cF n V L F vY Y :=
  ⟨(h.bk.below hb |>.mono (ex' := fun k => k = gF) (fun k e => .inl e)).ex |> fun q => ⟨(h.bk.below hb).out, h.bk.vl, h.bk.ll, (h.bk.below hb).row, h.bk.ne, fun x hx k e c => by
      rcases c with c | c
      · exact h.bk.ex x hx k e (.inl c)
      · have a := (RI_lt (h.bk.row x hx) k e).2
        have b := (RI_lt hY k c).1
        omega, h.bk.gb⟩, Kd.R_below h.far hb, Kd.R_lower hY hB, fun e => by
      have a := h.fB.2
      have b := (RI_lt hY gF e).1
      omega⟩
theorem DsAt.bare (h : DsAt w B gB gF cF n V L F vX X) : DsAt w B gB gF cF n V L F nilS [] :=
  ⟨h.bk.mono (fun k e => by rcases e with e | e; exact .inl e; simp [Value.ownBlock] at e), h.far, RI_nil _ _, by simp [Value.ownBlock]⟩
theorem DsAt.farPut (h : DsAt w B gB gF cF n V L F vX X) (i : Nat) (x : Int) : DsAt (w.setCell ⟨gF, i, none⟩ (.int .i64 x)) B gB gF cF n V L (F.set i x) vX X :=
  ⟨h.bk.put (p := ⟨gF, i, none⟩) (.inl rfl) h.neB _, (RI_put h.far i x).1, RI_far h.xs (p := ⟨gF, i, none⟩) h.ne _, h.ne⟩
theorem DsAt.rowApp (h : DsAt w B gB gF cF n V L F vX X) {x : Nat} {v1 : Value} {l1 : List Int} (hx : x < n) (h1 : RI w1 B v1 l1) (hg : w.grownBy w1 (V.getD x nilS).ownBlock)
    (hat : v1.ownBlock = (V.getD x nilS).ownBlock ∨ ∃ b, v1.ownBlock = some b ∧ w.heap.size ≤ b) : DsAt (w1.setCell ⟨gB, x, none⟩ v1) B gB gF cF n (V.set x v1) (L.set x l1) F vX X := by
  have o1 := blk_grown h.bk.out hg (Kd.R_ne (h.bk.row x hx) h.bk.out (by decide))
  have nf : (V.getD x nilS).ownBlock ≠ some gF := fun e => h.bk.ex x hx gF e (.inl rfl)
  have nx : vX.ownBlock = none ∨ vX.ownBlock ≠ (V.getD x nilS).ownBlock := by
    cases q : vX.ownBlock with
    | none => exact .inl rfl
    | some k => right; intro e; exact h.bk.ex x hx k e.symm (.inr q)
  refine ⟨h.bk.app hx h1 hg hat (fun k e => ?_), ?_, ?_, h.ne⟩
  · rcases e with rfl | e
    · exact h.fB.2
    · exact (RI_lt h.xs k e).2
  · exact Kd.R_set (RI_other h.far hg (.inr (fun e => nf e.symm))) o1 (by decide) x v1
  · exact Kd.R_set (RI_other h.xs hg nx) o1 (by decide) x v1
theorem DsAt.xApp (h : DsAt w B gB gF cF n V L F vX X) {v1 : Value} {X1 : List Int} (h1 : RI w1 B v1 X1) (hg : w.grownBy w1 vX.ownBlock) (hat : v1.ownBlock = vX.ownBlock ∨ ∃ b, v1.ownBlock = some b ∧ w.heap.size ≤ b) : DsAt w1 B gB gF cF n V L F v1 X1 := by
  have nb : some gB ≠ vX.ownBlock := Kd.R_ne h.xs h.bk.out (by decide)
  have q : BkAt w B gB n V L (fun k => k = gF ∨ v1.ownBlock = some k) := h.bk.more (fun k e => by
    rcases e with e | e
    · exact .inl (.inl e)
    · rcases hat with c | ⟨b, c, hb⟩
      · exact .inl (.inr (c ▸ e))
      · rw [c] at e; cases e; exact .inr hb)
  refine ⟨⟨blk_grown h.bk.out hg nb, h.bk.vl, h.bk.ll, fun x hx => RI_other (h.bk.row x hx) hg ?_, h.bk.ne, q.ex, h.bk.gb⟩, RI_other h.far hg (.inr (fun e => h.ne e.symm)), h1, fun e => ?_⟩
  · cases c : (V.getD x nilS).ownBlock with
    | none => exact .inl rfl
    | some k => right; intro e; exact h.bk.ex x hx k c (.inr e.symm)
  · rcases hat with c | ⟨b, c, hb⟩
    · exact h.ne (c ▸ e)
    · rw [c] at e; cases e; have := h.fB.2; omega
end
end Go.Proofs.YtogpgkoelplknaaDoor
end
section
/- Lens: lens.distances walked. No condition. -/

namespace Go.Proofs.YtogpgkoelplknaaDoor
open Go.RowKit Go.BigFrame PLensPaths Go.Proofs.YtogpgkoelplknaaDoorW.PrintWords Go.Proofs.YtogpgkoelplknaaDoorW.PrintMore
set_option linter.unusedVariables false
/-- Who leads to each, of the first m objects. -/
def LSpec (G : Gr) (m : Nat) (L : List (List Int)) : Prop := ∀ y x : Int, 1 ≤ y → y ≤ (G.obs.length : Int) → (x ∈ L.getD y.toNat [] ↔ 1 ≤ x ∧ x ≤ (m : Int) ∧ y ∈ wayOf G x)
def LSpecI (G : Gr) (m : Nat) (ws : List Int) (L : List (List Int)) : Prop := ∀ y x : Int, 1 ≤ y → y ≤ (G.obs.length : Int) → (x ∈ L.getD y.toNat [] ↔ (1 ≤ x ∧ x ≤ (m : Int) ∧ y ∈ wayOf G x) ∨ (x = (m : Int) + 1 ∧ y ∈ ws))
theorem LSpecI.step {G : Gr} {m : Nat} {ws : List Int} {L : List (List Int)} (h : LSpecI G m ws L) {y : Int} (h0 : 1 ≤ y) (h1 : y ≤ (G.obs.length : Int)) (hl : L.length = G.obs.length + 1) : LSpecI G m (ws ++ [y]) (L.set y.toNat (L.getD y.toNat [] ++ [(m : Int) + 1])) := by
  intro z x z0 z1
  rw [getD_setL (by omega)]
  by_cases e : y.toNat = z.toNat
  · have : y = z := by omega
    subst this
    rw [if_pos rfl, List.mem_append, h y x h0 h1]
    simp only [List.mem_singleton, List.mem_append]
    constructor
    · rintro (q | q)
      · rcases q with q | q
        · exact .inl q
        · exact .inr ⟨q.1, .inl q.2⟩
      · exact .inr ⟨q, .inr (by trivial)⟩
    · rintro (q | ⟨q, q2 | q2⟩)
      · exact .inl (.inl q)
      · exact .inl (.inr ⟨q, q2⟩)
      · exact .inr q
  · rw [if_neg e, h z x z0 z1]
    have : z ≠ y := fun q => e (by rw [q])
    simp [this]
theorem LSpecI.full {G : Gr} {m : Nat} {L : List (List Int)} (h : LSpecI G m (wayOf G ((m : Int) + 1)) L) : LSpec G (m + 1) L := by
  intro y x y0 y1
  rw [h y x y0 y1]
  constructor
  · rintro (⟨a, b, c⟩ | ⟨a, b⟩)
    · exact ⟨a, by omega, c⟩
    · subst a; exact ⟨by omega, by omega, b⟩
  · rintro ⟨a, b, c⟩
    by_cases e : x ≤ (m : Int)
    · exact .inl ⟨a, e, c⟩
    · have : x = (m : Int) + 1 := by omega
      subst this
      exact .inr ⟨rfl, c⟩
theorem LSpec.begin {G : Gr} {m : Nat} {L : List (List Int)} (h : LSpec G m L) : LSpecI G m [] L := fun y x y0 y1 => by rw [h y x y0 y1]; simp
def LLen (L : List (List Int)) (c : Nat) : Prop := ∀ y, (L.getD y []).length ≤ c
theorem LLen.set {L : List (List Int)} {c : Nat} (h : LLen L c) {x : Nat} {v : Int} (hx : x < L.length) : LLen (L.set x (L.getD x [] ++ [v])) (c + 1) := fun y => by
  rw [getD_setL hx]
  split
  · rw [List.length_append, List.length_singleton]; have := h x; omega
  · have := h y; omega
theorem LLen.mono {L : List (List Int)} {c d : Nat} (h : LLen L c) (hd : c ≤ d) : LLen L d := fun y => Nat.le_trans (h y) hd
theorem sumTo_mono (a : Int → Nat) {i j : Nat} (h : i ≤ j) : sumTo a i ≤ sumTo a j := by
  induction j with
  | zero => obtain rfl : i = 0 := by omega
            exact Nat.le_refl _
  | succ j ih =>
    by_cases e : i = j + 1
    · subst e; exact Nat.le_refl _
    · have := ih (by omega)
      show sumTo a i ≤ a ((j : Int) + 1) + sumTo a j
      omega
theorem RI_lit (w : World) (b : Nat) (x : Int) (hb : b ≤ w.heap.size) : RI (w.alloc (.cells #[.int .i64 x] 3)) b (.slice (some ⟨w.heap.size, 0, none⟩) 1 1) [x] := by
  have h2 := World.ownsRow_lit (base := b) (e := 3) (size := 1) w #[.int .i64 x] 1 hb (by decide) (by rfl)
  exact Kd.R_of_own h2 (fun _ _ => trivial)
def FSpec (G : Gr) (m : Nat) (F : List Int) : Prop := F.length = G.obs.length + 1 ∧ ∀ x : Int, 1 ≤ x → x ≤ (m : Int) → fa F x = -1
theorem FSpec.step {G : Gr} {m : Nat} {F : List Int} (h : FSpec G m F) (hm : m < G.obs.length) : FSpec G (m + 1) (F.set (m + 1) (-1)) := by
  have hl := h.1
  refine ⟨by simp [h.1], fun x x0 x1 => ?_⟩
  have := fa_set (F := F) (x := ((m + 1 : Nat) : Int)) (y := x) (v := -1) (by omega) (by omega)
  rw [Int.toNat_natCast] at this
  rw [this]
  by_cases e : x = ((m + 1 : Nat) : Int)
  · rw [if_pos e]
  · rw [if_neg e]; exact h.2 x x0 (by omega)
set_option maxRecDepth 100000 in
set_option maxHeartbeats 16000000 in
theorem distances_any (g : Gv) (G : Gr) (tg : Int) (w : World) (h : GAt w g G) (s : Small G) (R : Rng G) (t0 : 1 ≤ tg) (t1 : tg ≤ (G.obs.length : Int)) :
    Calls Tryd.prog 40 #[gval g G, .int .i64 tg] w fun e w' => ∃ v F, e = .returned v ∧ RI w' w.heap.size v F ∧ DistOk G tg F ∧ Below w.heap.size w w' := by
  have bd := s.bd
  have hn := bd.n
  have hM := s.m
  obtain ⟨A0, A1, A2, A3, A4, c0, c1, c2, c3, c4⟩ := g
  obtain ⟨tn, rfl⟩ : ∃ tn : Nat, tg = (tn : Int) := ⟨tg.toNat, by omega⟩
  have BX := boxed h
  unfold gval gcells
  unfold gcells at BX
  simp only at BX ⊢
  go_enter Tryd.func40, Tryd.ntmps40
  go_upto_region 1 with fail
  generalize w.alloc _ = wA at *
  obtain ⟨hX, hB, lA, hA⟩ := BX
  obtain ⟨cA, fA⟩ := blk_at hX
  go_upto_region 2 with (refine make_rows (w0 := wA) wA.heap.size rfl rfl _ _ rfl (G.obs.length + 1) rfl rfl ?h1 (Below.refl _ _) (Nat.le_refl _) ?_; (case h1 => omega); intro gB w1 hBk hb1 hg1 lB1 lB2; clear hg1 cA fA)
  obtain ⟨cA, fA⟩ := blk_at (box_keep hX hb1)
  go_upto_region 3 with (refine make_ints (w0 := wA) wA.heap.size rfl rfl _ _ rfl (G.obs.length + 1) rfl rfl ?h1 hb1 hb1.size ?_; (case h1 => omega); intro v2 w2 hF hb2 hg2 hat2; clear cA fA)
  obtain ⟨gF, cF, rfl, gF0, gF1, -⟩ := RI_form hF (by simp)
  simp only [List.length_replicate] at hF ⊢
  have gF2 : w1.heap.size ≤ gF := by obtain ⟨b, e, q⟩ := hat2; cases e; exact q
  have hD : DsAt w2 wA.heap.size gB gF cF (G.obs.length + 1) (List.replicate (G.obs.length + 1) nilS) (List.replicate (G.obs.length + 1) []) (List.replicate (G.obs.length + 1) 0) nilS [] := by
    have b2 := hBk.other hg2 (fun k e => by cases e) (by simp)
    refine ⟨⟨b2.out, b2.vl, b2.ll, b2.row, b2.ne, fun x hx k e c => ?_, b2.gb⟩, hF, RI_nil _ _, by simp [Value.ownBlock]⟩
    rw [List.getD_eq_getElem?_getD, List.getElem?_replicate] at e
    split at e <;> simp [Value.ownBlock] at e
  have hLS : LSpec G 0 (List.replicate (G.obs.length + 1) []) := fun y x y0 y1 => by
    rw [List.getD_eq_getElem?_getD, List.getElem?_replicate]
    split <;> (simp; omega)
  have hLL : LLen (List.replicate (G.obs.length + 1) []) 0 := fun y => by
    rw [List.getD_eq_getElem?_getD, List.getElem?_replicate]
    split <;> simp
  have hFS : FSpec G 0 (List.replicate (G.obs.length + 1) 0) := ⟨by simp, fun x x0 x1 => by omega⟩
  generalize List.replicate (G.obs.length + 1) nilS = V0 at *
  generalize List.replicate (G.obs.length + 1) ([] : List Int) = L0 at *
  generalize List.replicate (G.obs.length + 1) (0 : Int) = F0 at *
  clear hF hBk hg2 hat2 hb1 lB1 lB2 gF2
  obtain ⟨cA, fA⟩ := blk_at (box_keep hX hb2)
  go_wp2_with fail
  go_loopw [28] (fun iv wx => ∃ (i : Nat) (V : List Value) (L : List (List Int)) (F : List Int), i ≤ G.obs.length ∧ iv = .int .i64 i ∧ LSpec G i L ∧ LLen L (sumTo (fun x => (psOf G x).length) i) ∧ FSpec G i F ∧ DsAt wx wA.heap.size gB gF cF (G.obs.length + 1) V L F nilS [] ∧ Below wA.heap.size wA wx) (fun iv _ => G.obs.length - (intOf iv).toNat)
  case atStart => exact ⟨0, V0, L0, F0, by omega, rfl, hLS, hLL, hFS, hD, hb2⟩
  case round =>
    clear cA fA hLS hLL hFS hD hb2
    obtain ⟨i, V, L, F, hi, rfl, hLS, hLL, hFS, hD, hbr⟩ := hrel
    by_cases hlt : i < G.obs.length
    · have dlt : decide ((i : Int) < (G.obs.length : Int)) = true := decide_eq_true (by omega)
      have i0 : (0 : Int) ≤ (i : Int) := by omega
      have i1 : (i : Int) < (G.obs.length : Int) := by omega
      have hps := (bd.i64 _ (getD_mem default hlt)).1
      have hwo : wayOf G ((i : Int) + 1) = waysP (G.obs.getD i default) := by unfold wayOf; rw [show ((i : Int) + 1 - 1).toNat = i by omega]
      have hpo : psOf G ((i : Int) + 1) = (G.obs.getD i default).f3 := by unfold psOf; rw [show ((i : Int) + 1 - 1).toNat = i by omega]
      obtain ⟨ad0, P3, p3, P4, p4, e0, k0, k1, k2, k3, k4, l3, C3, l4, C4⟩ := ob_at hA.r0 i hlt
      simp only at e0
      subst e0
      have hwl : (waysP (G.obs.getD i default)).length ≤ (G.obs.getD i default).f3.length := by
        unfold waysP
        exact Nat.le_trans (List.length_filter_le _ _) (by simp)
      have hwr : ∀ y ∈ waysP (G.obs.getD i default), 1 ≤ y ∧ y ≤ (G.obs.length : Int) := fun y hy => wayOf_rng R (x := (i : Int) + 1) (by omega) (by omega) (by rw [hwo]; exact hy)
      have hsum : sumTo (fun x => (psOf G x).length) (i + 1) = (G.obs.getD i default).f3.length + sumTo (fun x => (psOf G x).length) i := by rw [← hpo]; rfl
      have hsum2 := sumTo_mono (fun x => (psOf G x).length) (show i + 1 ≤ G.obs.length by omega)
      have hall : sumTo (fun x => (psOf G x).length) G.obs.length ≤ 4194304 := by unfold allPs at hM; omega
      have WC := Lib.hid (fun (W : World) (hc : Kd.C (Kd.int .i64) W P3 (G.obs.getD i default).f3.length (G.obs.getD i default).f3) => ways_any (G.obs.getD i default) P3 P4 p3 p4 W hc l3 hps)
      have HW := Lib.hid hwo
      clear hpo hwo
      generalize G.obs.getD i default = o at *
      have j0 := cell_later hbr k0
      have j1 := cell_later hbr k1
      have j2 := cell_later hbr k2
      have j3 := cell_later hbr k3
      have j4 := cell_later hbr k4
      clear k0 k1 k2 k3 k4
      generalize waysP o = ws at *
      obtain ⟨f0, f1, f2, ps, rs⟩ := o
      simp only at *
      generalize hsi : sumTo (fun x => (psOf G x).length) i = si at *
      clear hsi
      go_upto_region 6 with fail
      obtain ⟨hO, bO⟩ := boxed_any wr #[.int .u64 f0, .int .i64 f1, .int .i64 f2, .slice P3 ps.length p3, .slice P4 rs.length p4] 59
      generalize wr.alloc (.cells #[.int .u64 f0, .int .i64 f1, .int .i64 f2, .slice P3 ps.length p3, .slice P4 rs.length p4] 59) = wO at *
      have hDO := hD.below bO
      have hbO := hbr.trans (bO.mono hbr.size)
      clear j0 j1 j2 j3 j4 hbr
      have gFr := hD.fB
      clear hD
      obtain ⟨hcF, hfF⟩ := Kd.R_celln (d := (0 : Int)) hDO.far ((i + 1 : Nat) : Int) (by omega) (by omega)
      rw [Int.toNat_natCast] at hcF hfF
      have ei : ((i : Int) + 1).toNat = i + 1 := by omega
      have i2 : (0 : Int) ≤ (i : Int) + 1 := by omega
      have i3 : (i : Int) + 1 < (G.obs.length : Int) + 1 := by omega
      go_upto_region 7 with fail
      have hD4 := hDO.farPut (i + 1) (-1)
      have hb4 := hbO.setCell (p := ⟨gF, i + 1, none⟩) gFr.1 (.int .i64 (-1))
      have hO4 := blk_far hO (p := ⟨gF, i + 1, none⟩) (show wr.heap.size ≠ gF by omega) (.int .i64 (-1))
      have hFS4 := Lib.hid (hFS.step hlt)
      generalize wO.setCell ⟨gF, i + 1, none⟩ (.int .i64 (-1)) = w4 at *
      clear hcF hfF hDO hbO hO hFS
      obtain ⟨cO, fO⟩ := blk_at hO4
      have WX := Lib.hid (WC.out w4 (Kd.C_below C3 hb4))
      have hsz4 := hb4.size
      go_upto_region 8 with (go_at_call 42; refine WX.out.mono ?_; rintro e w5 ⟨vX, rfl, hX5, hb5⟩; have hD5 := hD4.other hb5 hX5 hsz4; have hb6 := hb4.trans (hb5.mono hsz4); obtain ⟨AX, cX, rfl, hXl, -⟩ := Kd.R_reads hX5; clear hD4 hb4 hO4 cO fO hX5 hb5)
      have LB := Lib.hid hLS.begin
      go_wp2_with fail
      go_loopw [40] (fun jv wx => ∃ (j : Nat) (V : List Value) (L : List (List Int)), j ≤ ws.length ∧ jv = .int .i64 j ∧ LSpecI G i (ws.take j) L ∧ LLen L (si + j) ∧ DsAt wx wA.heap.size gB gF cF (G.obs.length + 1) V L (F.set (i + 1) (-1)) (.slice AX ws.length cX) ws ∧ Below wA.heap.size wA wx) (fun jv _ => ws.length - (intOf jv).toNat)
      case atStart => exact ⟨0, V, L, by omega, rfl, LB.out, hLL, hD5, hb6⟩
      case round =>
        clear hD5 hb6 hLL LB hLS
        obtain ⟨j, V, L, hj, rfl, hLS, hLL, hD, hbr⟩ := hrel
        by_cases hlj : j < ws.length
        · have dlj : decide ((j : Int) < (ws.length : Int)) = true := decide_eq_true (by omega)
          have j0 : (0 : Int) ≤ (j : Int) := by omega
          have j1 : (j : Int) < (ws.length : Int) := by omega
          obtain ⟨ad, rfl, hcW⟩ := int_at (Kd.R_reads' hD.xs).2.2 j hlj
          have hyr := hwr _ (getD_mem 0 hlj)
          have hst := hLS.step hyr.1 hyr.2 hD.bk.ll
          rw [← take_snocD ws j hlj] at hst
          generalize ws.getD j 0 = y at *
          obtain ⟨n, rfl⟩ : ∃ n : Nat, y = (n : Int) := ⟨y.toNat, by omega⟩
          rw [Int.toNat_natCast] at hst
          have hst2 := hLL.set (x := n) (v := (i : Int) + 1) (by rw [hD.bk.ll]; omega)
          have hnN : n < G.obs.length + 1 := by omega
          have hlen := hLL n
          obtain ⟨cB, fB⟩ := blk_at hD.bk.out
          have hVl := hD.bk.vl
          have hcB : wr.cell? ⟨gB, n, none⟩ = some (V.getD n nilS) := by rw [cB n]; simp [List.getD_eq_getElem?_getD, show n < V.length by omega]
          have hfB := fB n
          clear cB fB
          have hRn := hD.bk.row n hnN
          have APP := Lib.hid (fun (w1 : World) (v1 : Value) (l1 : List Int) (h1 : RI w1 wA.heap.size v1 l1) (hg : wr.grownBy w1 (V.getD n nilS).ownBlock) (hat : v1.ownBlock = (V.getD n nilS).ownBlock ∨ ∃ b, v1.ownBlock = some b ∧ wr.heap.size ≤ b) => hD.rowApp hnN h1 hg hat)
          have KB := Lib.hid (fun (w1 : World) (hg : wr.grownBy w1 (V.getD n nilS).ownBlock) => (blk_at (blk_grown hD.bk.out hg (Kd.R_ne hRn hD.bk.out (by decide)))).2 n)
          have KC := Lib.hid (fun (w1 : World) (hg : wr.grownBy w1 (V.getD n nilS).ownBlock) => ((blk_at (blk_grown hD.bk.out hg (Kd.R_ne hRn hD.bk.out (by decide)))).1 n).trans (show V.toArray[n]? = some (V.getD n nilS) by simp [List.getD_eq_getElem?_getD, show n < V.length by omega]))
          have gB0 := hD.bk.gb
          have HS := Lib.hid hst
          have HS2 := Lib.hid hst2
          clear hst hst2 hLS hLL hD
          generalize V.getD n nilS = vn at *
          generalize L.getD n [] = ln at *
          have n0 : (0 : Int) ≤ (n : Int) := by omega
          have n1 : (n : Int) < (G.obs.length : Int) + 1 := by omega
          have ewi : IntKind.i64.wrap ((i : Int) + 1) = (i : Int) + 1 := by rw [IntKind.wrap_i64]; omega
          go_upto_region 11 with (at_builtin; go_loud (refine app_int (w0 := wA) wA.heap.size rfl _ _ rfl vn ln ((i : Int) + 1) rfl rfl hRn hbr hbr.size ?h3 ?_); (case h3 => omega); intro v7 w7 hR7 hb7 hg7 hat7; have hA7 := APP.out w7 v7 _ hR7 hg7 hat7; have f7 := KB.out w7 hg7; have c7 := KC.out w7 hg7; have hb8 := hb7.setCell (p := ⟨gB, n, none⟩) gB0 v7; obtain ⟨g7, c7', rfl, -⟩ := RI_form hR7 (by simp); rw [show (ln ++ [(i : Int) + 1]).length = ln.length + 1 by simp] at hA7 hb8; clear hg7 hat7 hcB hfB)
          go_wp2_with fail
          go_roundw
          case rel => exact ⟨j + 1, _, _, by omega, by go_num, HS.out, HS2.out, hA7, hb8⟩
          case measure => simp [intOf]; omega
        · have dlj : decide ((j : Int) < (ws.length : Int)) = false := decide_eq_false (by omega)
          rw [List.take_of_length_le (by omega), ← HW.out] at hLS
          have HS := Lib.hid hLS.full
          have HL2 := Lib.hid (hLL.mono (d := sumTo (fun x => (psOf G x).length) (i + 1)) (by omega))
          clear hLS hLL
          have hD2 := hD.bare
          go_wp2_with fail
          go_roundw
          case rel => exact ⟨i + 1, V, L, _, by omega, by go_num, HS.out, HL2.out, hFS4.out, hD2, hbr⟩
          case measure => simp [intOf]; omega
    · have dlt : decide ((i : Int) < (G.obs.length : Int)) = false := decide_eq_false (by omega)
      obtain rfl : i = G.obs.length := by omega
      have gFr := hD.fB
      obtain ⟨hc0, hf0⟩ := Kd.R_celln (d := (0 : Int)) hD.far ((0 : Nat) : Int) (by omega) (by omega)
      obtain ⟨hct, hft⟩ := Kd.R_celln (d := (0 : Int)) hD.far (tn : Int) (by omega) (by omega)
      rw [Int.toNat_natCast] at hc0 hf0 hct hft
      have hD1 := (hD.farPut 0 (-1)).farPut tn 0
      have hb1 := (hbr.setCell (p := ⟨gF, 0, none⟩) gFr.1 (.int .i64 (-1))).setCell (p := ⟨gF, tn, none⟩) gFr.1 (.int .i64 0)
      have HF := Lib.hid (show Bfs G (tn : Int) 0 [(tn : Int)] ((F.set 0 (-1)).set tn 0) from by
        have hl := hFS.1
        refine Bfs.start ⟨t0, t1⟩ (by simp [hl]) fun x x0 x1 => ?_
        have e1 := fa_set (F := F.set 0 (-1)) (x := (tn : Int)) (y := x) (v := 0) (by simp; omega) x0
        rw [Int.toNat_natCast] at e1
        rw [e1]
        by_cases q : x = (tn : Int)
        · rw [if_pos q, if_pos q]
        · rw [if_neg q, if_neg q]
          have e2 := fa_set (F := F) (x := (0 : Int)) (y := x) (v := -1) (by omega) x0
          rw [show (0 : Int).toNat = 0 from rfl] at e2
          rw [e2]
          by_cases q2 : x = 0
          · rw [if_pos q2]
          · rw [if_neg q2]; exact hFS.2 x (by omega) x1)
      have q0 : (0 : Int) ≤ (tn : Int) := by omega
      have q1 : (tn : Int) < (G.obs.length : Int) + 1 := by omega
      have q2 : (0 : Int) < (G.obs.length : Int) + 1 := by omega
      have q3 : tn ≠ 0 := by omega
      clear hD hbr hFS hLL
      go_upto_region 14 with fail
      generalize (wr.setCell ⟨gF, 0, none⟩ (.int .i64 (-1))).setCell ⟨gF, tn, none⟩ (.int .i64 0) = w8 at *
      clear hc0 hf0 hct hft
      generalize (F.set 0 (-1)).set tn 0 = F8 at *
      have hsz8 := hb1.size
      have hD9 := hD1.other ((Below.refl _ _).alloc (Nat.le_refl _) (.cells #[.int .i64 (tn : Int)] 3)) (RI_lit w8 w8.heap.size (tn : Int) (Nat.le_refl _)) hsz8
      have hb9 := hb1.alloc hsz8 (.cells #[.int .i64 (tn : Int)] 3)
      clear hD1 hb1
      go_upto_region 15 with fail
      generalize w8.alloc (.cells #[.int .i64 (tn : Int)] 3) = w9 at *
      generalize w8.heap.size = h8 at *
      go_wp2_with fail
      go_loopw [11, 12] (fun v11 iv wx => ∃ (i : Nat) (W F : List Int), i ≤ W.length ∧ iv = .int .i64 i ∧ Bfs G (tn : Int) i W F ∧ DsAt wx wA.heap.size gB gF cF (G.obs.length + 1) V L F v11 W ∧ Below wA.heap.size wA wx) (fun _ iv _ => G.obs.length + 1 - (intOf iv).toNat)
      case atStart => exact ⟨0, [(tn : Int)], F8, by omega, rfl, HF.out, hD9, hb9⟩
      case round =>
        clear hD9 hb9 HF
        obtain ⟨i, W, F9, hi, rfl, hBf, hD, hbr⟩ := hrel
        have hWl := hBf.len
        by_cases hlt : i < W.length
        · obtain ⟨gW, cW, rfl, gW0, gW1, hcW⟩ := RI_form hD.xs (by omega)
          obtain ⟨hcWi, -⟩ := hcW i hlt
          have dlt : decide ((i : Int) < (W.length : Int)) = true := decide_eq_true (by omega)
          have i0 : (0 : Int) ≤ (i : Int) := by omega
          have i1 : (i : Int) < (W.length : Int) := by omega
          have hyr := hBf.rng _ (getD_mem 0 hlt)
          generalize hy : W.getD i 0 = y at *
          have HY := Lib.hid hy
          clear hy hcW
          obtain ⟨yn, rfl⟩ : ∃ yn : Nat, y = (yn : Int) := ⟨y.toNat, by omega⟩
          have hLy : ∀ x : Int, x ∈ L.getD yn [] ↔ 1 ≤ x ∧ x ≤ (G.obs.length : Int) ∧ (yn : Int) ∈ wayOf G x := fun x => by have := hLS (yn : Int) x hyr.1 hyr.2; rwa [Int.toNat_natCast] at this
          have HLY := Lib.hid hLy
          clear hLy
          have hyN : yn < G.obs.length + 1 := by omega
          obtain ⟨cB, fB⟩ := blk_at hD.bk.out
          have hVl := hD.bk.vl
          have hcB : wr.cell? ⟨gB, yn, none⟩ = some (V.getD yn nilS) := by rw [cB yn]; simp [List.getD_eq_getElem?_getD, show yn < V.length by omega]
          clear cB fB
          obtain ⟨Ar, cr, er, hrl, -⟩ := Kd.R_reads (hD.bk.row yn hyN)
          rw [er] at hcB
          have ER := Lib.hid er
          clear er
          have hlsl : (L.getD yn []).length ≤ 9223372036854775807 := by have := Kd.C_max (Kd.R_reads' (ER.out ▸ hD.bk.row yn hyN)).2.2; exact this
          generalize hls : L.getD yn [] = ls at *
          have HLS := Lib.hid hls
          clear hls
          have y0 : (0 : Int) ≤ (yn : Int) := by omega
          have y1 : (yn : Int) < (G.obs.length : Int) + 1 := by omega
          go_wp2_with fail
          go_loopw [11, 78] (fun v11 kv wx => ∃ (k : Nat) (W F : List Int), k ≤ ls.length ∧ kv = .int .i64 k ∧ Bfs G (tn : Int) i W F ∧ i < W.length ∧ W.getD i 0 = (yn : Int) ∧ (∀ x ∈ ls.take k, x ∈ W) ∧ DsAt wx wA.heap.size gB gF cF (G.obs.length + 1) V L F v11 W ∧ Below wA.heap.size wA wx) (fun _ kv _ => ls.length - (intOf kv).toNat)
          case atStart => exact ⟨0, W, F9, by omega, rfl, hBf, hlt, HY.out, fun x hx => by simp at hx, hD, hbr⟩
          case round =>
            clear hBf hD hbr hcB hcWi hWl
            obtain ⟨k, W, F, hk, rfl, hBf, hiW, hWi, hin, hD, hbr⟩ := hrel
            have hWl := hBf.len
            obtain ⟨gW, cW, rfl, gW0, gW1, hcW⟩ := RI_form hD.xs (by omega)
            obtain ⟨hcWi, -⟩ := hcW i hiW
            rw [hWi] at hcWi
            have HWi := Lib.hid hWi
            have HIN := Lib.hid hin
            clear hWi hin hcW
            by_cases hlk : k < ls.length
            · have dlk : decide ((k : Int) < (ls.length : Int)) = true := decide_eq_true (by omega)
              have k0 : (0 : Int) ≤ (k : Int) := by omega
              have k1 : (k : Int) < (ls.length : Int) := by omega
              have hrow := hD.bk.row yn hyN
              rw [ER.out, HLS.out] at hrow
              obtain ⟨ad, rfl, hck⟩ := int_at (Kd.R_reads' hrow).2.2 k hlk
              have hxs := (HLY.out _).1 (getD_mem 0 hlk)
              have HT := Lib.hid (take_snocD ls k hlk)
              clear hrow
              generalize ls.getD k 0 = x at *
              obtain ⟨x0, x1, x2⟩ := hxs
              obtain ⟨xn, rfl⟩ : ∃ xn : Nat, x = (xn : Int) := ⟨x.toNat, by omega⟩
              obtain ⟨hcx, hfx⟩ := Kd.R_celln (d := (0 : Int)) hD.far (xn : Int) (by omega) (by omega)
              obtain ⟨hcy, hfy⟩ := Kd.R_celln (d := (0 : Int)) hD.far (yn : Int) (by omega) (by omega)
              simp only [Int.toNat_natCast, rdOf] at hcx hfx hcy hfy
              have n0 : (0 : Int) ≤ (xn : Int) := by omega
              have n1 : (xn : Int) < (G.obs.length : Int) + 1 := by omega
              have hi0 : (0 : Int) ≤ (i : Int) := by omega
              have hi1 : (i : Int) < (W.length : Int) := by omega
              have X2 := Lib.hid x2
              clear x2
              have efx : fa F (xn : Int) = F.getD xn 0 := by unfold fa; rw [Int.toNat_natCast]
              have efy : fa F (yn : Int) = F.getD yn 0 := by unfold fa; rw [Int.toNat_natCast]
              have hfy0 : 0 ≤ fa F (yn : Int) := (hBf.mem _ hyr.1 hyr.2).2 (by rw [← HWi.out]; exact getD_mem 0 hiW)
              have hfy1 := hBf.top (yn : Int) hyr.1 hyr.2
              rw [efy] at hfy0 hfy1
              by_cases hx0 : fa F (xn : Int) < 0
              · have HB := Lib.hid (hBf.found R hiW x0 x1 hx0 (by rw [HWi.out]; exact X2.out))
                rw [HWi.out, efy, Int.toNat_natCast] at HB
                rw [efx] at hx0
                clear efx efy
                generalize F.getD xn 0 = fx at *
                generalize F.getD yn 0 = fy at *
                have dx : decide (fx < 0) = true := decide_eq_true hx0
                have ewy : IntKind.i64.wrap (fy + 1) = fy + 1 := by rw [IntKind.wrap_i64]; omega
                have gFr := hD.fB
                go_upto_region 23 with fail
                have hD1 := hD.farPut xn (fy + 1)
                have hb1 := hbr.setCell (p := ⟨gF, xn, none⟩) gFr.1 (.int .i64 (fy + 1))
                generalize wr.setCell ⟨gF, xn, none⟩ (.int .i64 (fy + 1)) = w1 at *
                clear hD hbr hcx hfx hcy hfy hck hcWi
                go_upto_region 24 with (at_builtin; go_loud (refine app_int (w0 := wA) wA.heap.size rfl _ _ rfl (.slice (some ⟨gW, 0, none⟩) W.length cW) W (xn : Int) rfl rfl hD1.xs hb1 hb1.size ?h3 ?_); (case h3 => omega); intro v7 w7 hR7 hb7 hg7 hat7; have hD7 := hD1.xApp hR7 hg7 hat7; clear hg7 hat7)
                go_wp2_with fail
                go_roundw
                case rel => exact ⟨k + 1, W ++ [(xn : Int)], _, by omega, by go_num, HB.out, by simp; omega, by rw [getD_app hiW]; exact HWi.out, fun x hx => by
                  rw [HT.out] at hx
                  rcases List.mem_append.1 hx with q | q
                  · exact List.mem_append.2 (.inl (HIN.out x q))
                  · exact List.mem_append.2 (.inr q), hD7, hb7⟩
                case measure => simp [intOf]; omega
              · have hxW := Lib.hid ((hBf.mem (xn : Int) x0 x1).1 (by omega))
                rw [efx] at hx0
                clear efx efy
                generalize F.getD xn 0 = fx at *
                have dx : decide (fx < 0) = false := decide_eq_false hx0
                go_wp2_with fail
                go_roundw
                case rel => exact ⟨k + 1, W, F, by omega, by go_num, hBf, hiW, HWi.out, fun x hx => by
                  rw [HT.out] at hx
                  rcases List.mem_append.1 hx with q | q
                  · exact HIN.out x q
                  · simp at q; subst q; exact hxW.out, hD, hbr⟩
                case measure => simp [intOf]; omega
            · have dlk : decide ((k : Int) < (ls.length : Int)) = false := decide_eq_false (by omega)
              have hin2 := HIN.out
              rw [List.take_of_length_le (by omega)] at hin2
              have HB := Lib.hid (hBf.next hiW (fun x x0 x1 hx => hin2 x ((HLY.out x).2 ⟨x0, x1, by rw [← HWi.out]; exact hx⟩)))
              clear hin2
              go_wp2_with fail
              go_roundw
              case rel => exact ⟨i + 1, W, F, by omega, by go_num, HB.out, hD, hbr⟩
              case measure => simp [intOf]; omega
        · have dlt : decide ((i : Int) < (W.length : Int)) = false := decide_eq_false (by omega)
          obtain rfl : i = W.length := by omega
          have HE := Lib.hid (hBf.end R)
          obtain ⟨AW, CW, rfl, -⟩ := Kd.R_reads hD.xs
          have hfar := hD.far
          clear hBf hD
          go_wp2_with fail
          go_ret
          exact ⟨_, F9, rfl, Kd.R_lower hfar (Nat.le_of_lt lA), HE.out, hB.trans (hbr.mono (Nat.le_of_lt lA))⟩
end Go.Proofs.YtogpgkoelplknaaDoor
end
section
/- Lens: the nearest of some, and the path: plain words. No condition. -/

namespace Go.Proofs.YtogpgkoelplknaaDoor
open Go.RowKit PLensPaths
set_option linter.unusedVariables false
def bestStep (F : List Int) (b n : Int) : Int := if 0 ≤ fa F n ∧ (b = 0 ∨ fa F n < fa F b ∨ (fa F n = fa F b ∧ n < b)) then n else b
def bestP (F l : List Int) : Int := l.foldl (bestStep F) 0
/-- b is the nearest of l, the least of these; 0: none leads there. -/
structure Best (F l : List Int) (b : Int) : Prop where
  no : b = 0 → ∀ x ∈ l, fa F x < 0
  mem : b ≠ 0 → b ∈ l ∧ 0 ≤ fa F b
  le : b ≠ 0 → ∀ x ∈ l, 0 ≤ fa F x → fa F b ≤ fa F x ∧ (fa F x = fa F b → b ≤ x)
theorem Best.step {F l : List Int} {b n : Int} (h : Best F l b) (hn : 0 < n) : Best F (l ++ [n]) (bestStep F b n) := by
  unfold bestStep
  by_cases c : 0 ≤ fa F n ∧ (b = 0 ∨ fa F n < fa F b ∨ (fa F n = fa F b ∧ n < b))
  · rw [if_pos c]
    refine ⟨fun e => by omega, fun _ => ⟨by simp, c.1⟩, fun _ x hx x0 => ?_⟩
    rcases List.mem_append.1 hx with q | q
    · by_cases e : b = 0
      · have := h.no e x q; omega
      · have := h.le e x q x0
        rcases c.2 with c2 | c2 | c2
        · exact absurd c2 e
        · exact ⟨by omega, fun _ => by omega⟩
        · exact ⟨by omega, fun e2 => by have := this.2 (by omega); omega⟩
    · simp at q; subst q; exact ⟨Int.le_refl _, fun _ => Int.le_refl _⟩
  · rw [if_neg c]
    refine ⟨fun e x hx => ?_, fun e => ⟨List.mem_append.2 (.inl (h.mem e).1), (h.mem e).2⟩, fun e x hx x0 => ?_⟩
    · rcases List.mem_append.1 hx with q | q
      · exact h.no e x q
      · simp at q; subst q
        refine Classical.byContradiction fun d => c ⟨by omega, .inl e⟩
    · rcases List.mem_append.1 hx with q | q
      · exact h.le e x q x0
      · simp at q; subst q
        refine ⟨Classical.byContradiction fun d => c ⟨x0, .inr (.inl (by omega))⟩, fun e2 => Classical.byContradiction fun d => c ⟨x0, .inr (.inr ⟨e2, by omega⟩)⟩⟩
theorem Best.nil (F : List Int) : Best F [] 0 := ⟨fun _ x hx => by simp at hx, fun e => absurd rfl e, fun e => absurd rfl e⟩
theorem best_fold (F : List Int) : ∀ (l pre : List Int) (b : Int), Best F pre b → (∀ x ∈ l, 0 < x) → Best F (pre ++ l) (l.foldl (bestStep F) b) := by
  intro l
  induction l with
  | nil => intro pre b h _; simpa using h
  | cons n l ih =>
    intro pre b h hl
    have := ih (pre ++ [n]) (bestStep F b n) (h.step (hl n List.mem_cons_self)) (fun x hx => hl x (List.mem_cons_of_mem _ hx))
    rw [List.append_assoc] at this
    exact this
theorem best_of {F l : List Int} (hl : ∀ x ∈ l, 0 < x) : Best F l (bestP F l) := by
  have := best_fold F l [] 0 (Best.nil F) hl
  simpa [bestP] using this
/-- There is but one. -/
theorem Best.one {F l : List Int} {b c : Int} (h : Best F l b) (k : Best F l c) : b = c := by
  by_cases e : b = 0
  · by_cases e2 : c = 0
    · omega
    · have := h.no e c (k.mem e2).1
      have := (k.mem e2).2
      omega
  · by_cases e2 : c = 0
    · have := k.no e2 b (h.mem e).1
      have := (h.mem e).2
      omega
    · have a := h.le e c (k.mem e2).1 (k.mem e2).2
      have b' := k.le e2 b (h.mem e).1 (h.mem e).2
      have := a.2 (by omega)
      have := b'.2 (by omega)
      omega
/-- A path from one of some. -/
inductive PathR (G : Gr) (tg : Int) (F : List Int) : List Int → List Int → Prop
  | no {l : List Int} {b : Int} : Best F l b → b = 0 → PathR G tg F l []
  | last {l : List Int} {b : Int} : Best F l b → b ≠ 0 → b = tg → PathR G tg F l [b]
  | more {l p : List Int} {b : Int} : Best F l b → b ≠ 0 → b ≠ tg → PathR G tg F (wayOf G b) p → PathR G tg F l (b :: p)
theorem PathR.one {G : Gr} {tg : Int} {F : List Int} {l p : List Int} (h : PathR G tg F l p) : ∀ {q : List Int}, PathR G tg F l q → p = q := by
  induction h with
  | no h1 h2 =>
    intro q k
    cases k with
    | no k1 k2 => rfl
    | last k1 k2 k3 => exact absurd ((h1.one k1).symm.trans h2) k2
    | more k1 k2 k3 k4 => exact absurd ((h1.one k1).symm.trans h2) k2
  | last h1 h2 h3 =>
    intro q k
    cases k with
    | no k1 k2 => exact absurd ((h1.one k1).trans k2) h2
    | last k1 k2 k3 => rw [h1.one k1]
    | more k1 k2 k3 k4 => exact absurd ((h1.one k1).symm.trans h3) k3
  | more h1 h2 h3 h4 ih =>
    intro q k
    cases k with
    | no k1 k2 => exact absurd ((h1.one k1).trans k2) h2
    | last k1 k2 k3 => exact absurd ((h1.one k1).trans k3) h3
    | more k1 k2 k3 k4 =>
      have := h1.one k1
      subst this
      rw [ih k4]
/-- From one that leads there, but isn't it, a nearer one is reached. -/
theorem next_best {G : Gr} {tg : Int} {F : List Int} (h : DistOk G tg F) {b c : Int} (b0 : 1 ≤ b) (b1 : b ≤ (G.obs.length : Int)) (hb : 0 ≤ fa F b) (ht : b ≠ tg) (hc : Best F (wayOf G b) c) : c ≠ 0 ∧ fa F c + 1 = fa F b := by
  obtain ⟨y, y1, y2, y3⟩ := h.back b b0 b1 hb ht
  have c0 : c ≠ 0 := fun e => by have := hc.no e y y1; omega
  have a := hc.le c0 y y1 y2
  have d := h.step b c b0 b1 (hc.mem c0).1 (hc.mem c0).2
  exact ⟨c0, by omega⟩
theorem wayOf_pos {G : Gr} {x : Int} : ∀ y ∈ wayOf G x, 0 < y := fun y hy => (ways_sub hy).2
theorem posL_pos {l : List Int} : ∀ y ∈ posL l, 0 < y := fun y hy => by
  have := (List.mem_filter.1 hy).2
  simpa using this
end Go.Proofs.YtogpgkoelplknaaDoor
end
section
/- Lens: lens.Path walked. No condition. -/

namespace Go.Proofs.YtogpgkoelplknaaDoor
open Go.RowKit Go.BigFrame PLensPaths Go.Proofs.YtogpgkoelplknaaDoorW.PrintWords Go.Proofs.YtogpgkoelplknaaDoorW.PrintMore
set_option linter.unusedVariables false
theorem rng_ok {G : Gr} (h : okB G = true) : Rng G := by
  unfold okB at h
  simp only [Bool.and_eq_true] at h
  exact rng_of h.1.1.1 h.1.1.2 h.1.2
theorem hold_rng {G : Gr} (R : Rng G) : ∀ x ∈ posL (holdP G), 0 < x ∧ x ≤ (G.obs.length : Int) := fun x hx => by
  refine ⟨posL_pos x hx, R.init x ?_⟩
  have := (List.mem_filter.1 hx).1
  unfold initP
  exact List.mem_append.2 (.inl this)
set_option maxRecDepth 100000 in
set_option maxHeartbeats 4000000 in
theorem path_bad (g : Gv) (G : Gr) (tg : Int) (w : World) (h : GAt w g G) (tb : Tab w) (s : Small G) (hk : okB G = false ∨ tg < 1 ∨ (G.obs.length : Int) < tg) :
    Calls Tryd.prog 11 #[gval g G, .int .i64 tg] w fun e w' => e = .returned (.tuple #[nilS, .int .i64 (if okB G = true then 170 else 171)]) ∧ Below w.heap.size w w' := by
  obtain ⟨A0, A1, A2, A3, A4, c0, c1, c2, c3, c4⟩ := g
  have CK := Lib.hid (fun (W : World) (hb : Below w.heap.size w W) => icheck_any ⟨A0, A1, A2, A3, A4, c0, c1, c2, c3, c4⟩ G W (h.below hb) (tb.below hb) s)
  have BX := boxed h
  unfold gval gcells at *
  simp only at BX CK ⊢
  cases hok : okB G with
  | false =>
    rw [hok] at CK
    clear hok
    go_enter Tryd.func11, Tryd.ntmps11
    go_upto_region 1 with fail
    generalize w.alloc _ = wA at *
    obtain ⟨hX, hB, lA, hA⟩ := BX
    obtain ⟨cA, fA⟩ := blk_at hX
    go_wp2_with (go_at_call 39; refine (CK.out _ hB).mono ?_; rintro e w2 ⟨rfl, hb2⟩)
    go_ret2
    exact ⟨rfl, hB.trans (hb2.mono hB.size)⟩
  | true =>
    rw [hok] at CK
    have hk2 : tg < 1 ∨ (G.obs.length : Int) < tg := by
      rcases hk with q | q
      · rw [hok] at q; cases q
      · exact q
    clear hok hk
    by_cases k1 : tg < 1
    · have d1 : decide (tg < 1) = true := decide_eq_true k1
      go_enter Tryd.func11, Tryd.ntmps11
      go_upto_region 1 with fail
      generalize w.alloc _ = wA at *
      obtain ⟨hX, hB, lA, hA⟩ := BX
      obtain ⟨cA, fA⟩ := blk_at hX
      go_wp2_with (go_at_call 39; refine (CK.out _ hB).mono ?_; rintro e w2 ⟨rfl, hb2⟩; clear cA fA; obtain ⟨cA, fA⟩ := blk_at (box_keep hX (hb2)))
      go_ret2
      exact ⟨rfl, hB.trans (hb2.mono hB.size)⟩
    · have d1 : decide (tg < 1) = false := decide_eq_false k1
      have d2 : decide ((G.obs.length : Int) < tg) = true := decide_eq_true (by omega)
      go_enter Tryd.func11, Tryd.ntmps11
      go_upto_region 1 with fail
      generalize w.alloc _ = wA at *
      obtain ⟨hX, hB, lA, hA⟩ := BX
      obtain ⟨cA, fA⟩ := blk_at hX
      go_wp2_with (go_at_call 39; refine (CK.out _ hB).mono ?_; rintro e w2 ⟨rfl, hb2⟩; clear cA fA; obtain ⟨cA, fA⟩ := blk_at (box_keep hX (hb2)))
      go_ret2
      exact ⟨rfl, hB.trans (hb2.mono hB.size)⟩
theorem dist_list {G : Gr} (R : Rng G) {tg : Int} {F : List Int} (h : DistOk G tg F) : ∀ (n : Nat) (x : Int), 1 ≤ x → x ≤ (G.obs.length : Int) → fa F x = n → ∃ L : List Int, L.Nodup ∧ L.length = n + 1 ∧ ∀ y ∈ L, (1 ≤ y ∧ y ≤ (G.obs.length : Int)) ∧ fa F y ≤ n := by
  intro n
  induction n with
  | zero => intro x h0 h1 e; exact ⟨[x], by simp, rfl, fun y hy => by simp at hy; subst hy; exact ⟨⟨h0, h1⟩, by omega⟩⟩
  | succ n ih =>
    intro x h0 h1 e
    have q : x ≠ tg := fun q => by rw [q, h.hd] at e; omega
    obtain ⟨y, hy, y0, e2⟩ := h.back x h0 h1 (by omega) q
    have yr := wayOf_rng R h0 h1 hy
    obtain ⟨L, l1, l2, l3⟩ := ih y yr.1 yr.2 (by omega)
    refine ⟨x :: L, List.nodup_cons.2 ⟨fun c => by have := (l3 x c).2; omega, l1⟩, by simp [l2], fun z hz => ?_⟩
    rcases List.mem_cons.1 hz with rfl | c
    · exact ⟨⟨h0, h1⟩, by omega⟩
    · have := l3 z c; exact ⟨this.1, by omega⟩
theorem dist_top {G : Gr} (R : Rng G) {tg : Int} {F : List Int} (h : DistOk G tg F) {x : Int} (h0 : 1 ≤ x) (h1 : x ≤ (G.obs.length : Int)) : fa F x < (G.obs.length : Int) := by
  by_cases q : 0 ≤ fa F x
  · obtain ⟨L, l1, l2, l3⟩ := dist_list R h (fa F x).toNat x h0 h1 (by omega)
    have := nodup_len l1 (fun y hy => (l3 y hy).1)
    omega
  · omega
end Go.Proofs.YtogpgkoelplknaaDoor
end
section
/- Lens: lens.Path walked: a graph that may be, an object of it. No condition. -/

namespace Go.Proofs.YtogpgkoelplknaaDoor
open Go.RowKit Go.BigFrame PLensPaths Go.Proofs.YtogpgkoelplknaaDoorW.PrintWords Go.Proofs.YtogpgkoelplknaaDoorW.PrintMore
set_option linter.unusedVariables false
def Told (e : Ending) (w' : World) (B : Nat) (D : List Int → Prop) : Prop := ∃ v p, e = .returned (.tuple #[v, .int .i64 0]) ∧ RI w' B v p ∧ D p
set_option maxRecDepth 100000 in
set_option maxHeartbeats 16000000 in
theorem path_good (g : Gv) (G : Gr) (tg : Int) (w : World) (h : GAt w g G) (tb : Tab w) (s : Small G) (hok : okB G = true) (t0 : 1 ≤ tg) (t1 : tg ≤ (G.obs.length : Int)) :
    Calls Tryd.prog 11 #[gval g G, .int .i64 tg] w fun e w' => Told e w' w.heap.size (fun p => ∃ F, DistOk G tg F ∧ PathR G tg F (posL (holdP G)) p) ∧ Below w.heap.size w w' := by
  have R := rng_ok hok
  have bd := s.bd
  have hn := bd.n
  have hhold := s.hold
  obtain ⟨A0, A1, A2, A3, A4, c0, c1, c2, c3, c4⟩ := g
  have CK := Lib.hid (fun (W : World) (hb : Below w.heap.size w W) => icheck_any ⟨A0, A1, A2, A3, A4, c0, c1, c2, c3, c4⟩ G W (h.below hb) (tb.below hb) s)
  have DC := Lib.hid (fun (W : World) (hb : Below w.heap.size w W) => distances_any ⟨A0, A1, A2, A3, A4, c0, c1, c2, c3, c4⟩ G tg W (h.below hb) s R t0 t1)
  have RC := Lib.hid (fun (W : World) (hb : Below w.heap.size w W) => roots_any ⟨A0, A1, A2, A3, A4, c0, c1, c2, c3, c4⟩ G W (h.below hb) s)
  have BX := boxed h
  unfold gval gcells at *
  simp only at BX CK DC RC ⊢
  rw [hok] at CK
  clear hok
  have d1 : decide (tg < 1) = false := decide_eq_false (by omega)
  have d2 : decide ((G.obs.length : Int) < tg) = false := decide_eq_false (by omega)
  go_enter Tryd.func11, Tryd.ntmps11
  go_upto_region 1 with fail
  generalize w.alloc _ = wA at *
  obtain ⟨hX, hB, lA, hA⟩ := BX
  obtain ⟨cA, fA⟩ := blk_at hX
  go_upto_region 5 with (go_at_call 39; refine (CK.out _ hB).mono ?_; rintro e w2 ⟨rfl, hb2⟩; clear cA fA; obtain ⟨cA, fA⟩ := blk_at (box_keep hX (hb2)); have hB2 := hB.trans (hb2.mono hB.size))
  go_upto_region 6 with (go_at_call 40; refine (DC.out _ hB2).mono ?_; rintro e w3 ⟨vF, F, rfl, hF, hDi, hb3⟩; have hbA3 := hb2.trans (hb3.mono hb2.size); clear cA fA; obtain ⟨cA, fA⟩ := blk_at (box_keep hX hbA3); have hB3 := hB2.trans (hb3.mono hB2.size))
  have hF3 := Kd.R_lower hF hb2.size
  have hFl := hDi.fl
  obtain ⟨gF, cF, rfl, gF0, gF1, -⟩ := RI_form hF (by omega)
  rw [hFl] at hF hF3 ⊢
  have hHD := Lib.hid hDi
  clear hDi hF
  go_upto_region 8 with (go_at_call 41; refine (RC.out _ hB3).mono ?_; rintro e w4 ⟨vN, rfl, hN, hb4⟩; have hbA4 := hbA3.trans (hb4.mono hbA3.size); clear cA fA; obtain ⟨cA, fA⟩ := blk_at (box_keep hX hbA4); have hB4 := hB3.trans (hb4.mono hB3.size))
  have hN4 := Kd.R_lower hN hbA3.size
  have hF4 := Kd.R_below hF3 hb4
  have dN : vN.ownBlock ≠ some gF := fun e => by
    have a := (RI_lt hN gF e).1
    have b := (RI_lt hF3 gF rfl).2
    omega
  clear hN hF3 hb2 hb3 hb4 hB2 hB3 hbA3 gF1 cA fA
  have HR := Lib.hid (hold_rng R)
  have HBd := Lib.hid (fun x (hx : 1 ≤ x ∧ x ≤ (G.obs.length : Int)) => hHD.out.low x hx.1 hx.2)
  have HK := Lib.hid (fun x (hx : 1 ≤ x ∧ x ≤ (G.obs.length : Int)) => dist_top R hHD.out hx.1 hx.2)
  have HWR := Lib.hid (fun b (hb : 1 ≤ b ∧ b ≤ (G.obs.length : Int)) x (hx : x ∈ wayOf G b) => wayOf_rng R hb.1 hb.2 hx)
  have HP0 := Lib.hid (show ∀ p, PathR G tg F (posL (holdP G)) p → PathR G tg F (posL (holdP G)) ([] ++ p) from fun p hp => hp)
  generalize hrt : posL (holdP G) = rt at *
  have hrl : rt.length ≤ 1048576 := by rw [← hrt]; unfold posL; exact Nat.le_trans (List.length_filter_le _ _) hhold
  have HRT := Lib.hid hrt
  clear hrt
  go_wp2_with fail
  go_loopg [7, 8] G.obs.length (fun kq v7 v8 wx => ∃ (pre Nx : List Int), RI wx wA.heap.size v7 pre ∧ RI wx wA.heap.size v8 Nx ∧ RI wx wA.heap.size (.slice (some ⟨gF, 0, none⟩) (G.obs.length + 1) cF) F ∧ v7.ownBlock ≠ some gF ∧ (∀ k, v7.ownBlock = some k → v8.ownBlock ≠ some k) ∧ Hid (∀ p, PathR G tg F Nx p → PathR G tg F rt (pre ++ p)) ∧ Hid (pre = [] ∨ ∀ b, Best F Nx b → b ≠ 0) ∧ Hid (∀ b, Best F Nx b → b ≠ 0 → fa F b < (kq : Int)) ∧ Hid (∀ x ∈ Nx, 0 < x ∧ x ≤ (G.obs.length : Int)) ∧ Nx.length ≤ 1048576 ∧ pre.length + kq ≤ G.obs.length ∧ Below wA.heap.size wA wx)
  case atStart => exact ⟨[], rt, RI_nil _ _, hN4, hF4, by simp [Value.ownBlock], fun k e => by simp [Value.ownBlock] at e, HP0, Lib.hid (.inl rfl), Lib.hid (fun b hb b0 => HK.out b (by have := HR.out b (hb.mem b0).1; omega)), HR, hrl, by simp, hbA4⟩
  case round =>
    clear hN4 hF4 dN HP0 HR HK hbA4 hrl
    obtain ⟨pre, Nx, hL, hN, hF, d7F, d78, HP, HZ, HD, HX2, hNl, hpk, hbr⟩ := hrel
    obtain ⟨AN, cN, rfl, hNc, hNC⟩ := Kd.R_reads hN
    obtain ⟨wo, rfl⟩ : ∃ wo : World, wo = wr := ⟨_, rfl⟩
    go_wp2_with fail
    go_loopw [9, 31] (fun bv iv wx => ∃ (i : Nat) (b : Int) (m : Nat), i ≤ Nx.length ∧ iv = .int .i64 i ∧ bv = .int .i64 b ∧ Hid (Best F (Nx.take i) b) ∧ wx = wo.drewN m) (fun _ iv _ => Nx.length - (intOf iv).toNat)
    case atStart => exact ⟨0, 0, 0, by omega, rfl, rfl, Lib.hid (Best.nil F), rfl⟩
    case round =>
      obtain ⟨i, b, m, hi, rfl, rfl, HBe, rfl⟩ := hrel
      by_cases hlt : i < Nx.length
      · have dlt : decide ((i : Int) < (Nx.length : Int)) = true := decide_eq_true (by omega)
        have i0 : (0 : Int) ≤ (i : Int) := by omega
        have i1 : (i : Int) < (Nx.length : Int) := by omega
        obtain ⟨ad, rfl, hcN⟩ := int_at hNC i hlt
        obtain ⟨x0, x1⟩ := HX2.out _ (getD_mem 0 hlt)
        have HS := Lib.hid (HBe.out.step (n := Nx.getD i 0) x0)
        rw [← take_snocD Nx i hlt] at HS
        generalize Nx.getD i 0 = x at *
        have hcx : wo.cell? ⟨gF, x.toNat, none⟩ = some (.int .i64 (fa F x)) := (Kd.R_celln (d := (0 : Int)) hF x (by omega) (by omega)).1
        have n0 : (0 : Int) ≤ x := by omega
        have n1 : x < (G.obs.length : Int) + 1 := by omega
        by_cases q0 : 0 ≤ fa F x
        · have dx : decide (0 ≤ fa F x) = true := decide_eq_true q0
          by_cases hb0 : b = 0
          · subst hb0
            have E := Lib.hid (show Best F (Nx.take (i + 1)) x from by
              have e : bestStep F 0 x = x := by unfold bestStep; rw [if_pos ⟨q0, .inl rfl⟩]
              rw [← e]; exact HS.out)
            clear q0
            generalize fa F x = fx at *
            go_upto_region 12 with fail
            go_quiet (fail)
            go_wp2_with fail
            go_roundw
            case rel => exact ⟨i + 1, x, m + nq, by omega, by go_num, rfl, E, rfl⟩
            case measure => simp [intOf]; omega
          · have db : (b == 0) = false := by rw [beq_eq_false_iff_ne]; exact hb0
            obtain ⟨bm, bf⟩ := HBe.out.mem hb0
            obtain ⟨b0, b1⟩ := HX2.out b (List.mem_of_mem_take bm)
            have hcb : wo.cell? ⟨gF, b.toNat, none⟩ = some (.int .i64 (fa F b)) := (Kd.R_celln (d := (0 : Int)) hF b (by omega) (by omega)).1
            have b2 : (0 : Int) ≤ b := by omega
            have b3 : b < (G.obs.length : Int) + 1 := by omega
            clear bm bf
            by_cases q1 : fa F x < fa F b
            · have d3 : decide (fa F x < fa F b) = true := decide_eq_true q1
              have E := Lib.hid (show Best F (Nx.take (i + 1)) x from by
                have e : bestStep F b x = x := by unfold bestStep; rw [if_pos ⟨q0, .inr (.inl q1)⟩]
                rw [← e]; exact HS.out)
              clear q0 hb0
              generalize fa F x = fx at *
              generalize fa F b = fb at *
              go_upto_region 12 with fail
              go_quiet (fail)
              go_wp2_with fail
              go_roundw
              case rel => exact ⟨i + 1, x, m + nq, by omega, by go_num, rfl, E, rfl⟩
              case measure => simp [intOf]; omega
            · have d3 : decide (fa F x < fa F b) = false := decide_eq_false q1
              by_cases q2 : fa F x = fa F b
              · by_cases q3 : x < b
                · have d5 : decide (x < b) = true := decide_eq_true q3
                  have d4 : (fa F x == fa F b) = true := by rw [beq_iff_eq]; exact q2
                  have E := Lib.hid (show Best F (Nx.take (i + 1)) x from by
                    have e : bestStep F b x = x := by unfold bestStep; rw [if_pos ⟨q0, .inr (.inr ⟨q2, q3⟩)⟩]
                    rw [← e]; exact HS.out)
                  clear q0 hb0 q2
                  generalize fa F x = fx at *
                  generalize fa F b = fb at *
                  go_upto_region 12 with fail
                  go_quiet (fail)
                  go_wp2_with fail
                  go_roundw
                  case rel => exact ⟨i + 1, x, m + nq, by omega, by go_num, rfl, E, rfl⟩
                  case measure => simp [intOf]; omega
                · have d5 : decide (x < b) = false := decide_eq_false q3
                  have d4 : (fa F x == fa F b) = true := by rw [beq_iff_eq]; exact q2
                  have E := Lib.hid (show Best F (Nx.take (i + 1)) b from by
                    have e : bestStep F b x = b := by unfold bestStep; rw [if_neg (by omega)]
                    rw [← e]; exact HS.out)
                  clear q0 hb0 q2
                  generalize fa F x = fx at *
                  generalize fa F b = fb at *
                  go_upto_region 12 with fail
                  go_quiet (fail)
                  go_wp2_with fail
                  go_roundw
                  case rel => exact ⟨i + 1, b, m + nq, by omega, by go_num, rfl, E, rfl⟩
                  case measure => simp [intOf]; omega
              · have d4 : (fa F x == fa F b) = false := by rw [beq_eq_false_iff_ne]; exact q2
                have E := Lib.hid (show Best F (Nx.take (i + 1)) b from by
                  have e : bestStep F b x = b := by unfold bestStep; rw [if_neg (by omega)]
                  rw [← e]; exact HS.out)
                clear q0 hb0 q2
                generalize fa F x = fx at *
                generalize fa F b = fb at *
                go_upto_region 12 with fail
                go_quiet (fail)
                go_wp2_with fail
                go_roundw
                case rel => exact ⟨i + 1, b, m + nq, by omega, by go_num, rfl, E, rfl⟩
                case measure => simp [intOf]; omega
        · have dx : decide (0 ≤ fa F x) = false := decide_eq_false q0
          have E := Lib.hid (show Best F (Nx.take (i + 1)) b from by
            have e : bestStep F b x = b := by unfold bestStep; rw [if_neg (by omega)]
            rw [← e]; exact HS.out)
          clear q0
          generalize fa F x = fx at *
          go_upto_region 12 with fail
          go_quiet (fail)
          go_wp2_with fail
          go_roundw
          case rel => exact ⟨i + 1, b, m + nq, by omega, by go_num, rfl, E, rfl⟩
          case measure => simp [intOf]; omega
      · have dlt : decide ((i : Int) < (Nx.length : Int)) = false := decide_eq_false (by omega)
        have hbe := HBe.out
        rw [List.take_of_length_le (by omega)] at hbe
        have HB := Lib.hid hbe
        clear hbe HBe
        have hbm := below_drN hbr m
        by_cases hb0 : b = 0
        · subst hb0
          have HE := Lib.hid (show PathR G tg F rt [] from by
            rcases HZ.out with q | q
            · have := HP.out [] (.no HB.out rfl)
              rw [q] at this
              exact this
            · exact absurd rfl (q 0 HB.out))
          go_wp2_with fail
          go_ret2
          exact ⟨⟨_, [], rfl, RI_nil _ _, F, hHD.out, by rw [HRT.out]; exact HE.out⟩, hB.trans (hbm.mono (Nat.le_of_lt lA))⟩
        · have db : (b == 0) = false := by rw [beq_eq_false_iff_ne]; exact hb0
          obtain ⟨bm, bf⟩ := HB.out.mem hb0
          obtain ⟨b0, b1⟩ := HX2.out b bm
          have hbd := HD.out b HB.out hb0
          have hsz := hbm.size
          go_upto_region 18 with (at_builtin; go_loud (refine app_int (w0 := wA) wA.heap.size rfl _ _ rfl u7 pre b rfl rfl (Kd.R_drewN hL m) hbm hsz ?h3 ?_); (case h3 => omega); intro v1 w1 hL1 hb1 hg1 hat1)
          have hF1 : RI w1 wA.heap.size (.slice (some ⟨gF, 0, none⟩) (G.obs.length + 1) cF) F := RI_other (Kd.R_drewN hF m) hg1 (.inr (fun e => d7F e.symm))
          have d1F : v1.ownBlock ≠ some gF := fun e => by
            rcases hat1 with q | ⟨k, q, hk⟩
            · exact d7F (q ▸ e)
            · rw [q] at e; cases e
              have := (RI_lt (Kd.R_drewN hF m) gF rfl).2
              omega
          clear hat1 hg1
          by_cases hbt : b = tg
          · subst hbt
            have HE := Lib.hid (show PathR G b F rt (pre ++ [b]) from HP.out [b] (.last HB.out hb0 rfl))
            have dt : (b == b) = true := by simp
            go_wp2_with fail
            go_ret2
            exact ⟨⟨v1, pre ++ [b], rfl, Kd.R_lower hL1 (Nat.le_of_lt lA), F, hHD.out, by rw [HRT.out]; exact HE.out⟩, hB.trans (hb1.mono (Nat.le_of_lt lA))⟩
          · have dt : (b == tg) = false := by rw [beq_eq_false_iff_ne]; exact hbt
            obtain ⟨mn, rfl⟩ : ∃ mn : Nat, b = (mn : Int) + 1 := ⟨(b - 1).toNat, by omega⟩
            have hmn : mn < G.obs.length := by omega
            obtain ⟨k1, rfl⟩ : ∃ k1, gk = k1 + 1 := ⟨gk - 1, by omega⟩
            have hwo : wayOf G ((mn : Int) + 1) = waysP (G.obs.getD mn default) := by unfold wayOf; rw [show ((mn : Int) + 1 - 1).toNat = mn by omega]
            have P1 := Lib.hid (fun p (hp : PathR G tg F (wayOf G ((mn : Int) + 1)) p) => (by
              have := HP.out _ (.more HB.out hb0 hbt hp)
              rw [List.append_assoc]; exact this : PathR G tg F rt ((pre ++ [(mn : Int) + 1]) ++ p)))
            have P2 := Lib.hid (fun c (hc : Best F (wayOf G ((mn : Int) + 1)) c) => next_best hHD.out b0 b1 bf hbt hc)
            have P3 := Lib.hid (HWR.out _ ⟨b0, b1⟩)
            have hps := (bd.i64 _ (getD_mem default hmn)).1
            have hwl : (waysP (G.obs.getD mn default)).length ≤ 1048576 := by
              unfold waysP
              exact Nat.le_trans (List.length_filter_le _ _) (by rw [List.length_drop]; omega)
            obtain ⟨ad0, Q3, p3, Q4, p4, e0, j0, j1, j2, j3, j4, l3, C3, l4, C4⟩ := ob_at hA.r0 mn hmn
            simp only at e0
            subst e0
            rw [hwo] at P1 P2 P3
            have WC := Lib.hid (ways_any (G.obs.getD mn default) Q3 Q4 p3 p4 w1 (Kd.C_below C3 hb1) l3 hps)
            have i0 := cell_later hb1 j0
            have i1 := cell_later hb1 j1
            have i2 := cell_later hb1 j2
            have i3 := cell_later hb1 j3
            have i4 := cell_later hb1 j4
            clear j0 j1 j2 j3 j4 C3 C4 hps hwo
            generalize hws : waysP (G.obs.getD mn default) = ws at *
            generalize G.obs.getD mn default = o at *
            clear hws
            obtain ⟨f0, f1, f2, ps, rs⟩ := o
            simp only at *
            obtain ⟨cA, fA⟩ := blk_at (box_keep hX hb1)
            have ew : IntKind.i64.wrap ((mn : Int) + 1 - 1) = (mn : Int) := by rw [IntKind.wrap_i64]; omega
            have m0 : (0 : Int) ≤ (mn : Int) := by omega
            have m1 : (mn : Int) < (G.obs.length : Int) := by omega
            have hsz1 := hb1.size
            clear HB HD HZ HP HX2 bm bf hbm
            go_wp2_with (go_at_call 42; refine WC.out.mono ?_; rintro e w5 ⟨vX, rfl, hX5, hb5⟩)
            have d1X : ∀ k, v1.ownBlock = some k → vX.ownBlock ≠ some k := fun k e q => by
              have a := (RI_lt hL1 k e).2
              have c := (RI_lt hX5 k q).1
              omega
            go_roundg k1
            case measure => omega
            case rel => exact ⟨pre ++ [(mn : Int) + 1], ws, Kd.R_below hL1 hb5, Kd.R_lower hX5 hsz1, Kd.R_below hF1 hb5, d1F, d1X, P1, Lib.hid (.inr fun c hc => (P2.out c hc).1), Lib.hid (fun c hc c0 => by have := (P2.out c hc).2; omega), Lib.hid (fun x hx => by have := P3.out x hx; omega), hwl, by simp; omega, hb1.trans (hb5.mono hsz1)⟩
end Go.Proofs.YtogpgkoelplknaaDoor
end
section
/- Lens: the document's way to the distances, and to the path: plain words. No condition. -/

namespace Go.Proofs.YtogpgkoelplknaaDoor
open Go.RowKit PLensPaths
set_option linter.unusedVariables false
/-- Round d, the objects below x gone through. -/
structure Lv (G : Gr) (tg d x : Int) (H : List Int) : Prop where
  hl : H.length = G.obs.length + 1
  hd : fa H tg = 1
  z : fa H 0 = 0
  low : ∀ y, 1 ≤ y → y ≤ (G.obs.length : Int) → 0 ≤ fa H y ∧ fa H y ≤ d + 1
  one : ∀ y, 1 ≤ y → y ≤ (G.obs.length : Int) → fa H y = 1 → y = tg
  back : ∀ y, 1 ≤ y → y ≤ (G.obs.length : Int) → 2 ≤ fa H y → ∃ u ∈ wayOf G y, fa H u + 1 = fa H y
  old : ∀ y u, 1 ≤ y → y ≤ (G.obs.length : Int) → u ∈ wayOf G y → 0 < fa H u → fa H u < d → 0 < fa H y ∧ fa H y ≤ fa H u + 1
  cur : ∀ y u, 1 ≤ y → y < x → y ≤ (G.obs.length : Int) → u ∈ wayOf G y → fa H u = d → 0 < fa H y
theorem Lv.set {G : Gr} (R : Rng G) {tg d x : Int} {H : List Int} (h : Lv G tg d x H) (x0 : 1 ≤ x) (x1 : x ≤ (G.obs.length : Int)) (d0 : 1 ≤ d) {u : Int} (hu : u ∈ wayOf G x) (hud : fa H u = d) (hx : fa H x = 0) : Lv G tg d x (H.set x.toNat (d + 1)) := by
  have hl := h.hl
  have fs : ∀ y : Int, 0 ≤ y → fa (H.set x.toNat (d + 1)) y = if y = x then d + 1 else fa H y := fun y hy => fa_set (by omega) hy
  have tx : tg ≠ x := fun e => by have := h.hd; rw [e, hx] at this; omega
  have tr : 0 ≤ tg ∨ tg < 0 := by omega
  have ftg : fa (H.set x.toNat (d + 1)) tg = fa H tg := by
    rcases tr with q | q
    · rw [fs tg q, if_neg tx]
    · have e0 : tg.toNat = (0 : Int).toNat := by omega
      have a : fa (H.set x.toNat (d + 1)) tg = fa (H.set x.toNat (d + 1)) 0 := by unfold fa; rw [e0]
      have b : fa H tg = fa H 0 := by unfold fa; rw [e0]
      rw [a, b, fs 0 (by omega), if_neg (by omega)]
  refine ⟨by simp [hl], by rw [ftg]; exact h.hd, by rw [fs 0 (by omega), if_neg (by omega)]; exact h.z, fun y y0 y1 => ?_, fun y y0 y1 e => ?_, fun y y0 y1 e => ?_, fun y v y0 y1 hv v0 v1 => ?_, fun y v y0 yx y1 hv e => ?_⟩
  · rw [fs y (by omega)]
    split
    · omega
    · exact h.low y y0 y1
  · rw [fs y (by omega)] at e
    split at e
    · omega
    · exact h.one y y0 y1 e
  · rw [fs y (by omega)] at e ⊢
    by_cases q : y = x
    · rw [if_pos q]
      subst q
      have ur := wayOf_rng R y0 y1 hu
      refine ⟨u, hu, ?_⟩
      rw [fs u (by omega), if_neg (fun c => by rw [c, hx] at hud; omega), hud]
    · rw [if_neg q] at e ⊢
      obtain ⟨v, hv, e2⟩ := h.back y y0 y1 e
      have vr := wayOf_rng R y0 y1 hv
      refine ⟨v, hv, ?_⟩
      rw [fs v (by omega), if_neg (fun c => by rw [c, hx] at e2; omega)]
      exact e2
  · have vr := wayOf_rng R y0 y1 hv
    rw [fs v (by omega)] at v0 v1 ⊢
    rw [fs y (by omega)]
    by_cases q : v = x
    · rw [if_pos q] at v1; omega
    · rw [if_neg q] at v0 v1 ⊢
      have := h.old y v y0 y1 hv v0 v1
      by_cases q2 : y = x
      · rw [q2, hx] at this; omega
      · rw [if_neg q2]; exact this
  · have vr := wayOf_rng R y0 y1 hv
    rw [fs v (by omega)] at e
    rw [fs y (by omega)]
    by_cases q : v = x
    · rw [if_pos q] at e; omega
    · rw [if_neg q] at e
      rw [if_neg (by omega)]
      exact h.cur y v y0 yx y1 hv e
theorem Lv.next {G : Gr} {tg d x : Int} {H : List Int} (h : Lv G tg d x H) (hx : ∀ u ∈ wayOf G x, fa H u = d → 0 < fa H x) : Lv G tg d (x + 1) H :=
  ⟨h.hl, h.hd, h.z, h.low, h.one, h.back, h.old, fun y u y0 yx y1 hu e => by
    by_cases q : y < x
    · exact h.cur y u y0 q y1 hu e
    · obtain rfl : y = x := by omega
      exact hx u hu e⟩
theorem Lv.round {G : Gr} {tg d x : Int} {H : List Int} (h : Lv G tg d x H) (hx : (G.obs.length : Int) < x) : Lv G tg (d + 1) 1 H :=
  ⟨h.hl, h.hd, h.z, fun y y0 y1 => by have := h.low y y0 y1; omega, h.one, h.back, fun y u y0 y1 hu u0 u1 => by
    by_cases q : fa H u < d
    · exact h.old y u y0 y1 hu u0 q
    · have a := h.cur y u y0 (by omega) y1 hu (by omega)
      have b := h.low y y0 y1
      exact ⟨a, by omega⟩, fun y u y0 yx => by omega⟩
theorem Lv.start {G : Gr} {tg : Int} (t0 : 1 ≤ tg) (t1 : tg ≤ (G.obs.length : Int)) : Lv G tg 1 1 ((List.replicate (G.obs.length + 1) 0).set tg.toNat 1) := by
  have fr : ∀ y, fa (List.replicate (G.obs.length + 1) 0) y = 0 := fun y => by
    unfold fa
    rw [List.getD_eq_getElem?_getD, List.getElem?_replicate]; split <;> rfl
  have fs : ∀ y : Int, 0 ≤ y → fa ((List.replicate (G.obs.length + 1) 0).set tg.toNat 1) y = if y = tg then 1 else 0 := fun y hy => by
    rw [fa_set (by simp; omega) hy, fr]
  refine ⟨by simp, by rw [fs tg (by omega), if_pos rfl], by rw [fs 0 (by omega), if_neg (by omega)], fun y y0 y1 => ?_, fun y y0 y1 e => ?_, fun y y0 y1 e => ?_, fun y u y0 y1 hu u0 u1 => by omega, fun y u y0 yx => by omega⟩
  · rw [fs y (by omega)]; split <;> omega
  · rw [fs y (by omega)] at e; split at e
    · assumption
    · omega
  · rw [fs y (by omega)] at e; split at e <;> omega
theorem lv_list {G : Gr} (R : Rng G) {tg d x : Int} {H : List Int} (h : Lv G tg d x H) : ∀ (n : Nat) (y : Int), 1 ≤ y → y ≤ (G.obs.length : Int) → fa H y = (n : Int) + 1 → ∃ L : List Int, L.Nodup ∧ L.length = n + 1 ∧ ∀ u ∈ L, (1 ≤ u ∧ u ≤ (G.obs.length : Int)) ∧ fa H u ≤ (n : Int) + 1 := by
  intro n
  induction n with
  | zero => intro y h0 h1 e; exact ⟨[y], by simp, rfl, fun u hu => by simp at hu; subst hu; exact ⟨⟨h0, h1⟩, by omega⟩⟩
  | succ n ih =>
    intro y h0 h1 e
    obtain ⟨u, hu, e2⟩ := h.back y h0 h1 (by omega)
    have ur := wayOf_rng R h0 h1 hu
    obtain ⟨L, l1, l2, l3⟩ := ih u ur.1 ur.2 (by omega)
    refine ⟨y :: L, List.nodup_cons.2 ⟨fun c => by have := (l3 y c).2; omega, l1⟩, by simp [l2], fun v hv => ?_⟩
    rcases List.mem_cons.1 hv with rfl | c
    · exact ⟨⟨h0, h1⟩, by omega⟩
    · have := l3 v c; exact ⟨this.1, by omega⟩
theorem Lv.top {G : Gr} (R : Rng G) {tg d x : Int} {H : List Int} (h : Lv G tg d x H) {y : Int} (h0 : 1 ≤ y) (h1 : y ≤ (G.obs.length : Int)) : fa H y ≤ (G.obs.length : Int) := by
  by_cases q : 1 ≤ fa H y
  · obtain ⟨L, l1, l2, l3⟩ := lv_list R h (fa H y - 1).toNat y h0 h1 (by omega)
    have := nodup_len l1 (fun y hy => (l3 y hy).1)
    omega
  · omega
def less (H : List Int) : List Int := H.map fun x => x - 1
theorem fa_less {H : List Int} {x : Int} (h0 : 0 ≤ x) (h1 : x < (H.length : Int)) : fa (less H) x = fa H x - 1 := by
  unfold fa less
  rw [List.getD_eq_getElem?_getD, List.getD_eq_getElem?_getD, List.getElem?_map, List.getElem?_eq_getElem (by omega)]
  rfl
theorem Lv.dist {G : Gr} (R : Rng G) {tg : Int} {H : List Int} (t0 : 1 ≤ tg) (t1 : tg ≤ (G.obs.length : Int)) (h : Lv G tg ((G.obs.length : Int) + 1) 1 H) : DistOk G tg (less H) := by
  have hl := h.hl
  have f : ∀ x, 0 ≤ x → x ≤ (G.obs.length : Int) → fa (less H) x = fa H x - 1 := fun x a b => fa_less a (by omega)
  refine ⟨by unfold less; simp [hl], by rw [f 0 (by omega) (by omega), h.z]; omega, by rw [f tg (by omega) t1, h.hd]; omega, fun x x0 x1 => ?_, fun x x0 x1 hx hxt => ?_, fun x y x0 x1 hy y0 => ?_⟩
  · rw [f x (by omega) x1]; have := h.low x x0 x1; omega
  · rw [f x (by omega) x1] at hx
    have h1 : fa H x ≠ 1 := fun e => hxt (h.one x x0 x1 e)
    obtain ⟨u, hu, e⟩ := h.back x x0 x1 (by omega)
    have ur := wayOf_rng R x0 x1 hu
    refine ⟨u, hu, ?_⟩
    rw [f u (by omega) ur.2, f x (by omega) x1]
    have := h.low u ur.1 ur.2
    have := h.low x x0 x1
    omega
  · have yr := wayOf_rng R x0 x1 hy
    rw [f y (by omega) yr.2] at y0 ⊢
    rw [f x (by omega) x1]
    have tp := h.top R yr.1 yr.2
    have := h.old x y x0 x1 hy (by omega) (by omega)
    omega
/-- At the roots: just the nearest. -/
theorem near_roots {H l : List Int} {n : Nat} (hl : H.length = n + 1) (h0 : ∀ y, 1 ≤ y → y ≤ (n : Int) → 0 ≤ fa H y) (hr : ∀ x ∈ l, 0 < x ∧ x ≤ (n : Int)) : Best (less H) l (nearP H l 0) := by
  have e : nearP H l 0 = bestP (less H) l := by
    unfold nearP bestP
    have key : ∀ (l : List Int) (b : Int), (∀ x ∈ l, 0 < x ∧ x ≤ (n : Int)) → (b = 0 ∨ (0 < b ∧ b ≤ (n : Int))) → l.foldl (nearStep H 0) b = l.foldl (bestStep (less H)) b := by
      intro l
      induction l with
      | nil => intro b _ _; rfl
      | cons x l ih =>
        intro b hx hb
        have xr := hx x List.mem_cons_self
        rw [List.foldl_cons, List.foldl_cons]
        have e1 : nearStep H 0 b x = bestStep (less H) b x := by
          unfold nearStep bestStep
          have fx : H.getD x.toNat 0 = fa H x := rfl
          have fb : H.getD b.toNat 0 = fa H b := rfl
          rw [fx, fb, fa_less (by omega) (by omega)]
          have := h0 x (by omega) xr.2
          rcases hb with rfl | hb
          · by_cases q : fa H x = 0
            · rw [if_pos (.inl q), if_neg (by omega)]
            · rw [if_neg (by omega), if_pos (.inl rfl), if_pos ⟨by omega, .inl rfl⟩]
          · rw [fa_less (by omega) (by omega)]
            by_cases q : fa H x = 0
            · rw [if_pos (.inl q), if_neg (by omega)]
            · rw [if_neg (by omega)]
              by_cases q2 : fa H x < fa H b ∨ (fa H x = fa H b ∧ x < b)
              · rw [if_pos (.inr q2), if_pos (by omega)]
              · rw [if_neg (by omega), if_neg (by omega)]
        rw [e1]
        refine ih _ (fun y hy => hx y (List.mem_cons_of_mem _ hy)) ?_
        unfold bestStep
        split
        · exact .inr xr
        · exact hb
    exact key l 0 hr (.inl rfl)
  rw [e]
  exact best_of fun x hx => (hr x hx).1
/-- What nearest tells at one distance. -/
theorem near_at (H : List Int) {d : Int} (d0 : 0 < d) : ∀ (l : List Int) (b : Int), (∀ x ∈ l, 0 < x) → (b = 0 ∨ fa H b = d) →
    (l.foldl (nearStep H d) b = 0 → b = 0 ∧ ∀ x ∈ l, fa H x ≠ d) ∧ (l.foldl (nearStep H d) b ≠ 0 → (l.foldl (nearStep H d) b = b ∨ l.foldl (nearStep H d) b ∈ l) ∧ fa H (l.foldl (nearStep H d) b) = d ∧ (b ≠ 0 → l.foldl (nearStep H d) b ≤ b) ∧ ∀ x ∈ l, fa H x = d → l.foldl (nearStep H d) b ≤ x) := by
  intro l
  induction l with
  | nil => intro b _ hb; exact ⟨fun e => ⟨e, fun x hx => by simp at hx⟩, fun e => ⟨.inl rfl, by rcases hb with q | q; exact absurd q e; exact q, fun _ => Int.le_refl _, fun x hx => by simp at hx⟩⟩
  | cons y l ih =>
    intro b hl hb
    have y0 := hl y List.mem_cons_self
    rw [List.foldl_cons]
    have hs : (fa H y = d ∧ (b = 0 ∨ y < b) ∧ nearStep H d b y = y) ∨ ((fa H y ≠ d ∨ (b ≠ 0 ∧ b ≤ y)) ∧ nearStep H d b y = b) := by
      unfold nearStep
      have fy : H.getD y.toNat 0 = fa H y := rfl
      have fb : H.getD b.toNat 0 = fa H b := rfl
      rw [fy, fb]
      by_cases q : fa H y = d
      · rw [if_neg (by omega)]
        rcases hb with rfl | hb
        · left; rw [if_pos (.inl rfl)]; exact ⟨q, .inl rfl, rfl⟩
        · by_cases q3 : b = 0
          · left; rw [if_pos (.inl q3)]; exact ⟨q, .inl q3, rfl⟩
          · by_cases q2 : y < b
            · left; rw [if_pos (by omega)]; exact ⟨q, .inr q2, rfl⟩
            · right; rw [if_neg (by omega)]; exact ⟨.inr ⟨q3, by omega⟩, rfl⟩
      · right
        refine ⟨.inl q, ?_⟩
        by_cases q2 : fa H y = 0
        · rw [if_pos (.inl q2)]
        · rw [if_pos (.inr ⟨d0, q⟩)]
    have hb' : nearStep H d b y = 0 ∨ fa H (nearStep H d b y) = d := by
      rcases hs with ⟨a, _, c⟩ | ⟨_, c⟩
      · right; rw [c]; exact a
      · rw [c]; exact hb
    obtain ⟨i1, i2⟩ := ih (nearStep H d b y) (fun x hx => hl x (List.mem_cons_of_mem _ hx)) hb'
    constructor
    · intro e
      obtain ⟨a, c⟩ := i1 e
      rcases hs with ⟨_, _, q⟩ | ⟨q1, q⟩
      · omega
      · rw [q] at a
        refine ⟨a, fun x hx => ?_⟩
        rcases List.mem_cons.1 hx with rfl | hx
        · rcases q1 with q1 | q1
          · exact q1
          · exact absurd a q1.1
        · exact c x hx
    · intro e
      obtain ⟨j1, j2, j3, j4⟩ := i2 e
      rcases hs with ⟨a, a2, q⟩ | ⟨q1, q⟩
      · rw [q] at j1 j2 j3 j4 ⊢
        have l0 := j3 (by omega)
        refine ⟨.inr ?_, j2, fun hb0 => by omega, fun x hx hxd => ?_⟩
        · rcases j1 with j1 | j1
          · rw [j1]; exact List.mem_cons_self
          · exact List.mem_cons_of_mem _ j1
        · rcases List.mem_cons.1 hx with rfl | hx
          · exact l0
          · exact j4 x hx hxd
      · rw [q] at j1 j2 j3 j4 ⊢
        refine ⟨?_, j2, j3, fun x hx hxd => ?_⟩
        · rcases j1 with j1 | j1
          · exact .inl j1
          · exact .inr (List.mem_cons_of_mem _ j1)
        · rcases List.mem_cons.1 hx with rfl | hx
          · rcases q1 with q1 | q1
            · exact absurd hxd q1
            · have := j3 q1.1; omega
          · exact j4 x hx hxd
theorem near_next {G : Gr} (R : Rng G) {tg : Int} {H : List Int} (hl : H.length = G.obs.length + 1) (h : DistOk G tg (less H)) {b : Int} (b0 : 1 ≤ b) (b1 : b ≤ (G.obs.length : Int)) (hb : 2 ≤ fa H b) (ht : b ≠ tg) : Best (less H) (wayOf G b) (nearP H (wayOf G b) (fa H b - 1)) := by
  have hc := best_of (F := less H) (l := wayOf G b) wayOf_pos
  generalize bestP (less H) (wayOf G b) = c at hc
  have f : ∀ x, 0 ≤ x → x ≤ (G.obs.length : Int) → fa (less H) x = fa H x - 1 := fun x a d => fa_less a (by omega)
  obtain ⟨n1, n2⟩ := next_best h b0 b1 (by rw [f b (by omega) b1]; omega) ht hc
  have cm := (hc.mem n1)
  have cr := wayOf_rng R b0 b1 cm.1
  rw [f c (by omega) cr.2, f b (by omega) b1] at n2
  obtain ⟨k1, k2⟩ := near_at H (d := fa H b - 1) (by omega) (wayOf G b) 0 wayOf_pos (.inl rfl)
  have ne : nearP H (wayOf G b) (fa H b - 1) ≠ 0 := fun e => (k1 e).2 c cm.1 (by omega)
  obtain ⟨j1, j2, -, j4⟩ := k2 ne
  have rm : nearP H (wayOf G b) (fa H b - 1) ∈ wayOf G b := by
    rcases j1 with q | q
    · exact absurd q ne
    · exact q
  have e : nearP H (wayOf G b) (fa H b - 1) = c := by
    have a := j4 c cm.1 (by omega)
    have rr := wayOf_rng R b0 b1 rm
    have d := hc.le n1 _ rm (by rw [f _ (by omega) rr.2]; have : fa H (nearP H (wayOf G b) (fa H b - 1)) = fa H b - 1 := j2; omega)
    have d2 := d.2 (by
      rw [f _ (by omega) rr.2, f c (by omega) cr.2]
      have : fa H (nearP H (wayOf G b) (fa H b - 1)) = fa H b - 1 := j2
      omega)
    have a' : nearP H (wayOf G b) (fa H b - 1) ≤ c := a
    omega
  rw [e]
  exact hc
end Go.Proofs.YtogpgkoelplknaaDoor
end
