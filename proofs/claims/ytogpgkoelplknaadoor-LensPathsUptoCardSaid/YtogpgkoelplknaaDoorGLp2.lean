/- Merged texts: Lg13, Lg14, Lg15, Lg16, Lg17, Lg18, Rm1, Rm2, Rm3, Rm4, Rm5, Rm6. No condition of its own: each text says what it holds. -/
import Derived.Test.YtogpgkoelplknaaDoorGLp1
import Derived.StillTailTactics
import Derived.Lib.SliceRun
import Derived.Deep.RegionHeld3
section
/- Lens: image.known walked. No condition. -/


namespace Go.Proofs.YtogpgkoelplknaaDoor
open Go.RowKit Go.BigFrame PLensPaths Go.Proofs.YtogpgkoelplknaaDoorW.PrintWords Go.Proofs.YtogpgkoelplknaaDoorW.PrintMore
set_option linter.unusedVariables false
/-- What holds of seen and work. -/
structure PK (G : Gr) (S : List Bool) (W : List Int) : Prop where
  sl : S.length = G.obs.length + 1
  s : ∀ x : Int, 0 < x → x ≤ (G.obs.length : Int) → (S.getD x.toNat false = true ↔ x ∈ W)
  nd : W.Nodup
  hit : ∀ x ∈ W, Hit G x
theorem PK.len {G : Gr} (R : Rng G) {S : List Bool} {W : List Int} (h : PK G S W) : W.length ≤ G.obs.length :=
  nodup_len h.nd fun x hx => by have := (h.hit x hx).bd R; omega
theorem PK.start (G : Gr) : PK G ((List.replicate (G.obs.length + 1) false).set 0 true) [] := by
  refine ⟨by simp, fun x h0 h1 => ?_, List.nodup_nil, fun x hx => by simp at hx⟩
  rw [set_getD (by simp), if_neg (by omega), replicate_getD]
  simp
theorem PK.step {G : Gr} (R : Rng G) {S : List Bool} {W : List Int} (h : PK G S W) {n : Int} (hn : 0 < n → Hit G n) : PK G (seeStep (S, W) n).1 (seeStep (S, W) n).2 ∧ (0 < n → n ∈ (seeStep (S, W) n).2) ∧ ∃ M, (seeStep (S, W) n).2 = W ++ M := by
  unfold seeStep
  by_cases c : 0 < n ∧ S.getD n.toNat false = false
  · rw [if_pos c]
    obtain ⟨c1, c2⟩ := c
    have hx := hn c1
    have hb := hx.bd R
    have hw : n ∉ W := fun q => by rw [(h.s n hb.1 hb.2).2 q] at c2; cases c2
    refine ⟨⟨by simp [h.sl], fun y y0 y1 => ?_, ?_, fun y hy => ?_⟩, fun _ => by simp, ⟨[n], rfl⟩⟩
    · simp only
      rw [set_getD (by rw [h.sl]; omega)]
      by_cases e : n.toNat = y.toNat
      · have : n = y := by omega
        subst this
        rw [if_pos e]; simp
      · rw [if_neg e, h.s y y0 y1]
        have : y ≠ n := fun q => e (by rw [q])
        simp [this]
    · simp only
      rw [List.nodup_append]
      refine ⟨h.nd, by simp, fun a ha b hb' => ?_⟩
      simp at hb'
      subst hb'
      exact fun e => hw (e ▸ ha)
    · rcases List.mem_append.1 hy with q | q
      · exact h.hit y q
      · simp at q; subst q; exact hx
  · rw [if_neg c]
    refine ⟨h, fun h0 => ?_, [], by simp⟩
    have hb := (hn h0).bd R
    refine (h.s n hb.1 hb.2).1 ?_
    cases q : S.getD n.toNat false
    · exact absurd ⟨h0, q⟩ c
    · rfl
theorem PK.fold {G : Gr} (R : Rng G) : ∀ (l : List Int) {S : List Bool} {W : List Int}, PK G S W → (∀ x ∈ l, 0 < x → Hit G x) → PK G (l.foldl seeStep (S, W)).1 (l.foldl seeStep (S, W)).2 ∧ (∀ x ∈ l, 0 < x → x ∈ (l.foldl seeStep (S, W)).2) ∧ ∃ M, (l.foldl seeStep (S, W)).2 = W ++ M := by
  intro l
  induction l with
  | nil => intro S W h _; exact ⟨h, fun x hx => by simp at hx, [], by simp⟩
  | cons n l ih =>
    intro S W h hl
    obtain ⟨h1, h2, M, h3⟩ := h.step R (hl n List.mem_cons_self)
    obtain ⟨k1, k2, M', k3⟩ := ih h1 (fun x hx => hl x (List.mem_cons_of_mem _ hx))
    rw [List.foldl_cons]
    have e : seeStep (S, W) n = ((seeStep (S, W) n).1, (seeStep (S, W) n).2) := rfl
    rw [e]
    refine ⟨k1, fun x hx h0 => ?_, M ++ M', by rw [k3, h3, List.append_assoc]⟩
    rcases List.mem_cons.1 hx with rfl | q
    · rw [k3]; exact List.mem_append.2 (.inl (h2 h0))
    · exact k2 x q h0
theorem mem_slots {l : List (List (List Int))} {fr : List (List Int)} {f : List Int} (h1 : fr ∈ l) (h2 : f ∈ fr) {x : Int} (hx : x ∈ f) : x ∈ slotsP l := by
  unfold slotsP
  exact List.mem_flatten.2 ⟨fr.flatten, List.mem_map.2 ⟨fr, h1, rfl⟩, List.mem_flatten.2 ⟨f, h2, hx⟩⟩
set_option maxRecDepth 100000 in
set_option maxHeartbeats 8000000 in
theorem iknown_any (g : Gv) (G : Gr) (w : World) (h : GAt w g G) (s : Small G) (R : Rng G) :
    Calls Tryd.prog 79 #[gval g G] w fun e w' => e = .returned (.bool (knownB G)) ∧ Below w.heap.size w w' := by
  have bd := s.bd
  have fb := s.fr
  have hM := s.m
  have hn := bd.n
  obtain ⟨A0, A1, A2, A3, A4, c0, c1, c2, c3, c4⟩ := g
  have BX := boxed h
  unfold gval gcells
  unfold gcells at BX
  simp only at BX ⊢
  go_enter Tryd.func79, Tryd.ntmps79
  go_upto_region 1 with fail
  generalize w.alloc _ = wA at *
  obtain ⟨hX, hB, lA, hA⟩ := BX
  obtain ⟨cA, fA⟩ := blk_at hX
  go_upto_region 2 with (refine make_bools (w0 := wA) wA.heap.size rfl rfl _ _ rfl (G.obs.length + 1) rfl rfl ?h1 (Below.refl _ _) (Nat.le_refl _) ?_; (case h1 => omega); intro v1 w1 hS hb1 hg1 hat1; clear hg1 hat1 cA fA; obtain ⟨gS, cS, rfl, gS0, gS1⟩ := RB_form hS (by simp); simp only [List.length_replicate] at hS ⊢)
  obtain ⟨hs2, bs2⟩ := boxed_any w1 #[.slice (some ⟨gS, 0, none⟩) (G.obs.length + 1) cS] 52
  have hS2 := Kd.R_alloc hS (.cells #[.slice (some ⟨gS, 0, none⟩) (G.obs.length + 1) cS] 52)
  have hb2 := hb1.trans (bs2.mono hb1.size)
  have hbs : wA.heap.size ≤ w1.heap.size := hb1.size
  generalize w1.alloc (.cells #[.slice (some ⟨gS, 0, none⟩) (G.obs.length + 1) cS] 52) = w2 at *
  generalize w1.heap.size = bs at *
  clear hS hb1 bs2
  obtain ⟨c2s, f2s⟩ := blk_at hs2
  obtain ⟨c2z, f2z⟩ := RB_cell hS2 0 (by omega)
  go_upto_region 3 with fail
  obtain ⟨hS3, hg3⟩ := RB_put hS2 0 true
  have hs3 := blk_grown hs2 hg3 (Kd.R_ne hS2 hs2 (by decide))
  have hb3 := hb2.setCell (p := ⟨gS, 0, none⟩) gS0 (.bool true)
  generalize w2.setCell ⟨gS, 0, none⟩ (.bool true) = w3 at *
  clear hS2 hs2 hb2 hg3 c2s f2s c2z f2z
  go_upto_region 4 with fail
  obtain ⟨hw4, bw4⟩ := boxed_any w3 #[.slice none 0 0] 24
  have hK := (KsAt.mk (box_keep hs3 bw4) hw4 (Kd.R_alloc hS3 _) (RI_nil _ wA.heap.size) hbs hb3.size : KsAt _ wA.heap.size bs w3.heap.size _ [] _ _)
  have hb4 := hb3.trans (bw4.mono hb3.size)
  have hPK := PK.start G
  generalize w3.alloc (.cells #[.slice none 0 0] 24) = w4 at *
  generalize w3.heap.size = bw at *
  generalize (List.replicate (G.obs.length + 1) false).set 0 true = S0 at *
  clear hs3 hS3 hb3 bw4 hw4 hbs
  obtain ⟨cA, fA⟩ := blk_at (box_keep hX hb4)
  have hI : (slotsP G.slots).length + G.hands.length + G.queue.length + G.reg.length ≤ 4194304 := by
    unfold initP at hM
    simp only [List.length_append] at hM
    omega
  have hnm := bd.m
  have SEE := Lib.hid (fun (W : World) (S : List Bool) (L : List Int) (vW : Value) (A : Option Addr) (c : Nat) (l : List Int) (hK : KsAt W wA.heap.size bs bw S L (.slice (some ⟨gS, 0, none⟩) (G.obs.length + 1) cS) vW) (hP : PK G S L) (hl : Kd.C (Kd.int .i64) wA A l.length l) (hb : Below wA.heap.size wA W) (hh : ∀ x ∈ l, 0 < x → Hit G x) (hll : l.length ≤ 4194304) =>
    see_any wA W wA.heap.size bs bw G.obs.length S L _ vW A c l hK hP.sl hl hb (Nat.le_refl _) hb.size (fun x hx => by
      by_cases q : 0 < x
      · exact ((hh x hx q).bd R).2
      · omega) hn (by have := hP.len R; omega))
  go_wp2_with fail
  go_loopw [22] (fun tv wx => ∃ (t : Nat) (S : List Bool) (W : List Int) (vW : Value), t ≤ G.slots.length ∧ tv = .int .i64 t ∧ PK G S W ∧ (∀ x ∈ slotsP G.slots, 0 < x → x ∈ W ∨ x ∈ slotsP (G.slots.drop t)) ∧ KsAt wx wA.heap.size bs bw S W (.slice (some ⟨gS, 0, none⟩) (G.obs.length + 1) cS) vW ∧ Below wA.heap.size wA wx) (fun tv _ => G.slots.length - (intOf tv).toNat)
  case atStart => exact ⟨0, S0, [], _, by omega, rfl, hPK, fun x hx _ => .inr hx, hK, hb4⟩
  case round =>
    clear hPK hK hb4 cA fA
    obtain ⟨t, S, W, vW, ht, rfl, hPK, hin, hK, hbr⟩ := hrel
    obtain ⟨cA, fA⟩ := blk_at (box_keep hX hbr)
    by_cases hlt : t < G.slots.length
    · have dlt : decide ((t : Int) < (G.slots.length : Int)) = true := decide_eq_true (by omega)
      have t0 : (0 : Int) ≤ (t : Int) := by omega
      have t1 : (t : Int) < (G.slots.length : Int) := by omega
      have hmem := getD_mem (l := G.slots) [] hlt
      have hm := fb _ hmem
      have es : slotsP (G.slots.drop t) = (G.slots.getD t []).flatten ++ slotsP (G.slots.drop (t + 1)) := by rw [drop_cons [] hlt]; rfl
      rw [es] at hin
      obtain ⟨ad1, B1, b1, e1, hcA, hl1, hC1⟩ := sl_at hA.r1 t hlt
      simp only at e1
      subst e1
      have hc1 := cell_later hbr hcA
      generalize G.slots.getD t [] = fr at *
      obtain ⟨m1, m2, m3⟩ := hm
      have HI := Lib.hid hin
      clear hin es hcA
      go_wp2_with fail
      go_loopw [28] (fun fv wx => ∃ (f : Nat) (S : List Bool) (W : List Int) (vW : Value), f ≤ fr.length ∧ fv = .int .i64 f ∧ PK G S W ∧ (∀ x ∈ slotsP G.slots, 0 < x → x ∈ W ∨ x ∈ (fr.drop f).flatten ++ slotsP (G.slots.drop (t + 1))) ∧ KsAt wx wA.heap.size bs bw S W (.slice (some ⟨gS, 0, none⟩) (G.obs.length + 1) cS) vW ∧ Below wA.heap.size wA wx) (fun fv _ => fr.length - (intOf fv).toNat)
      case atStart => exact ⟨0, S, W, vW, by omega, rfl, hPK, HI.out, hK, hbr⟩
      case round =>
        clear cA fA hPK hK hbr hc1
        obtain ⟨f, S, W, vW, hf, rfl, hPK, hin, hK, hbr⟩ := hrel
        by_cases hlf : f < fr.length
        · have dlf : decide ((f : Int) < (fr.length : Int)) = true := decide_eq_true (by omega)
          have f0 : (0 : Int) ≤ (f : Int) := by omega
          have f1 : (f : Int) < (fr.length : Int) := by omega
          obtain ⟨ad2, B2, b2, rfl, hcB, hl2, hC2⟩ := sl_at hC1 f hlf
          have hc2 := cell_later hbr hcB
          have hfm := getD_mem (l := fr) [] hlf
          have hq := m3 _ hfm
          have hhit : ∀ x ∈ fr.getD f [], 0 < x → Hit G x := fun x hx h0 => .init (by unfold initP; simp only [List.mem_append]; exact .inl (.inl (.inl (mem_slots hmem hfm hx)))) h0
          rw [drop_cons [] hlf, flat_cons, List.append_assoc] at hin
          generalize fr.getD f [] = l at *
          have SC := Lib.hid (SEE.out _ S W vW B2 b2 l hK hPK hC2 hbr hhit (by omega))
          obtain ⟨p1, p2, M, p3⟩ := hPK.fold R l hhit
          have HN := Lib.hid (show ∀ x ∈ slotsP G.slots, 0 < x → x ∈ (l.foldl seeStep (S, W)).2 ∨ x ∈ (fr.drop (f + 1)).flatten ++ slotsP (G.slots.drop (t + 1)) from fun x hx h0 => by
            rcases hin x hx h0 with q | q
            · left; rw [p3]; exact List.mem_append.2 (.inl q)
            · rcases List.mem_append.1 q with q | q
              · exact .inl (p2 x q h0)
              · exact .inr q)
          clear hin p2 p3 hcB hhit hfm
          go_wp2_with (go_at_call 116; refine SC.out.mono ?_; rintro e w5 ⟨rfl, ⟨vW5, hK5⟩, hb5⟩)
          go_roundw
          case rel => exact ⟨f + 1, _, _, vW5, by omega, by go_num, p1, HN.out, hK5, hb5⟩
          case measure => simp [intOf]; omega
        · have dlf : decide ((f : Int) < (fr.length : Int)) = false := decide_eq_false (by omega)
          rw [List.drop_of_length_le (by omega), List.flatten_nil, List.nil_append] at hin
          have HN := Lib.hid hin
          clear hin
          go_wp2_with fail
          go_roundw
          case rel => exact ⟨t + 1, S, W, vW, by omega, by go_num, hPK, HN.out, hK, hbr⟩
          case measure => simp [intOf]; omega
    · have dlt : decide ((t : Int) < (G.slots.length : Int)) = false := decide_eq_false (by omega)
      rw [List.drop_of_length_le (by omega)] at hin
      have hin' := Lib.hid (fun x (hx : x ∈ slotsP G.slots) (h0 : 0 < x) => (by rcases hin x hx h0 with q | q; exact q; simp [slotsP] at q : x ∈ W))
      clear hin
      have hh5 : ∀ x ∈ G.hands, 0 < x → Hit G x := fun x hx h0 => .init (by unfold initP; simp only [List.mem_append]; exact .inl (.inl (.inr hx))) h0
      have SC5 := Lib.hid (SEE.out _ S W vW A2 c2 G.hands hK hPK hA.r2 hbr hh5 (by omega))
      obtain ⟨p5, i5, M5, e5⟩ := hPK.fold R G.hands hh5
      have j5 := Lib.hid (fun x (q : x ∈ W) => (by rw [e5]; exact List.mem_append.2 (.inl q) : x ∈ (G.hands.foldl seeStep (S, W)).2))
      have J5 := Lib.hid i5
      clear e5 hh5 i5
      generalize (G.hands.foldl seeStep (S, W)).1 = S5 at *
      generalize (G.hands.foldl seeStep (S, W)).2 = W5 at *
      go_upto_region 15 with (go_at_call 116; refine SC5.out.mono ?_; rintro e w50 ⟨rfl, ⟨vW5, hK5⟩, hb5⟩; clear cA fA; obtain ⟨cA, fA⟩ := blk_at (box_keep hX hb5))
      have hh6 : ∀ x ∈ G.queue, 0 < x → Hit G x := fun x hx h0 => .init (by unfold initP; simp only [List.mem_append]; exact .inl (.inr hx)) h0
      have SC6 := Lib.hid (SEE.out _ S5 W5 vW5 A4 c4 G.queue hK5 p5 hA.r4 hb5 hh6 (by omega))
      obtain ⟨p6, i6, M6, e6⟩ := p5.fold R G.queue hh6
      have j6 := Lib.hid (fun x (q : x ∈ W5) => (by rw [e6]; exact List.mem_append.2 (.inl q) : x ∈ (G.queue.foldl seeStep (S5, W5)).2))
      have J6 := Lib.hid i6
      clear e6 hh6 i6
      generalize (G.queue.foldl seeStep (S5, W5)).1 = S6 at *
      generalize (G.queue.foldl seeStep (S5, W5)).2 = W6 at *
      go_upto_region 16 with (go_at_call 116; refine SC6.out.mono ?_; rintro e w60 ⟨rfl, ⟨vW6, hK6⟩, hb6⟩; clear cA fA; obtain ⟨cA, fA⟩ := blk_at (box_keep hX hb6))
      have hh7 : ∀ x ∈ G.reg, 0 < x → Hit G x := fun x hx h0 => .init (by unfold initP; simp only [List.mem_append]; exact .inr hx) h0
      have SC7 := Lib.hid (SEE.out _ S6 W6 vW6 A3 c3 G.reg hK6 p6 hA.r3 hb6 hh7 (by omega))
      obtain ⟨p7, i7, M7, e7⟩ := p6.fold R G.reg hh7
      have j7 := Lib.hid (fun x (q : x ∈ W6) => (by rw [e7]; exact List.mem_append.2 (.inl q) : x ∈ (G.reg.foldl seeStep (S6, W6)).2))
      have J7 := Lib.hid i7
      clear e7 hh7 i7
      generalize (G.reg.foldl seeStep (S6, W6)).1 = S7 at *
      generalize (G.reg.foldl seeStep (S6, W6)).2 = W7 at *
      go_upto_region 17 with (go_at_call 116; refine SC7.out.mono ?_; rintro e w70 ⟨rfl, ⟨vW7, hK7⟩, hb7⟩; clear cA fA; obtain ⟨cA, fA⟩ := blk_at (box_keep hX hb7))
      have HI := Lib.hid (show ∀ x ∈ initP G, 0 < x → x ∈ W7 from fun x hx h0 => by
        unfold initP at hx
        simp only [List.mem_append] at hx
        rcases hx with ((q | q) | q) | q
        · exact j7.out x (j6.out x (j5.out x (hin'.out x q h0)))
        · exact j7.out x (j6.out x (J5.out x q h0))
        · exact j7.out x (J6.out x q h0)
        · exact J7.out x q h0)
      clear hK hPK hbr hK5 p5 hb5 hK6 p6 hb6 SC5 SC6 SC7 j5 j6 j7 J5 J6 J7 hin'
      go_wp2_with fail
      go_loopw [10] (fun iv wx => ∃ (i : Nat) (S : List Bool) (W : List Int) (vW : Value), i ≤ W.length ∧ iv = .int .i64 i ∧ PK G S W ∧ (∀ x ∈ initP G, 0 < x → x ∈ W) ∧ (∀ j, j < i → ∀ y ∈ psOf G (W.getD j 0), 0 < y → y ∈ W) ∧ KsAt wx wA.heap.size bs bw S W (.slice (some ⟨gS, 0, none⟩) (G.obs.length + 1) cS) vW ∧ Below wA.heap.size wA wx) (fun iv _ => G.obs.length + 1 - (intOf iv).toNat)
      case atStart => exact ⟨0, S7, W7, vW7, by omega, rfl, p7, HI.out, fun j hj => by omega, hK7, hb7⟩
      case round =>
        clear cA fA HI p7 hK7 hb7
        obtain ⟨i, S, W, vW, hi, rfl, hPK, hin, hdo, hK, hbr⟩ := hrel
        obtain ⟨cA, fA⟩ := blk_at (box_keep hX hbr)
        obtain ⟨ck, fk⟩ := blk_at hK.k
        have hWl := hPK.len R
        have HI := Lib.hid hin
        have HD := Lib.hid hdo
        clear hin hdo
        by_cases hlt : i < W.length
        · obtain ⟨gW, cW, rfl, gW0, gW1, hcW0⟩ := RI_form hK.rw (by omega)
          obtain ⟨hcW, hfW⟩ := hcW0 i hlt
          have dlt : decide ((i : Int) < (W.length : Int)) = true := decide_eq_true (by omega)
          have i0 : (0 : Int) ≤ (i : Int) := by omega
          have i1 : (i : Int) < (W.length : Int) := by omega
          have hit := hPK.hit _ (getD_mem 0 hlt)
          have hb := hit.bd R
          generalize hx : W.getD i 0 = x at *
          have HX := Lib.hid hx
          clear hcW0 hx
          obtain ⟨m, rfl⟩ : ∃ m : Nat, x = (m : Int) + 1 := ⟨(x - 1).toNat, by omega⟩
          have hm : m < G.obs.length := by omega
          obtain ⟨ad0, P3, p3, P4, p4, e0, -, -, -, hp3, -, hl3, hC3, -, -⟩ := ob_at hA.r0 m hm
          simp only at e0
          subst e0
          have hcP := cell_later hbr hp3
          have ew : IntKind.i64.wrap ((m : Int) + 1 - 1) = (m : Int) := by rw [IntKind.wrap_i64]; omega
          have m0 : (0 : Int) ≤ (m : Int) := by omega
          have m1 : (m : Int) < (G.obs.length : Int) := by omega
          have ep : psOf G ((m : Int) + 1) = (G.obs.getD m default).f3 := by unfold psOf; rw [show ((m : Int) + 1 - 1).toNat = m by omega]
          have hq := (bd.i64 _ (getD_mem default hm)).1
          have hh : ∀ y ∈ (G.obs.getD m default).f3, 0 < y → Hit G y := fun y hy h0 => .step hit (by rw [ep]; exact hy) h0
          have EP := Lib.hid ep
          clear ep hp3
          generalize (G.obs.getD m default).f3 = l at *
          have SC := Lib.hid (SEE.out wr.drew S W _ P3 p3 l (KsAt.mk hK.s hK.k (Kd.R_drew hK.rs) (Kd.R_drew hK.rw) hK.sB hK.kB) hPK hC3 hbr.drew hh (by omega))
          obtain ⟨q1, q2, M, q3⟩ := hPK.fold R l hh
          have hpre : ∀ j, j < W.length → (l.foldl seeStep (S, W)).2.getD j 0 = W.getD j 0 := fun j hj => by
            rw [q3, List.getD_eq_getElem?_getD, List.getElem?_append_left hj, ← List.getD_eq_getElem?_getD]
          have hlen' : W.length ≤ (l.foldl seeStep (S, W)).2.length := by rw [q3, List.length_append]; omega
          have hmem' : ∀ y ∈ W, y ∈ (l.foldl seeStep (S, W)).2 := fun y hy => by rw [q3]; exact List.mem_append.2 (.inl hy)
          have HI2 := Lib.hid (fun x (hx : x ∈ initP G) (h0 : 0 < x) => hmem' x (HI.out x hx h0))
          have HD2 := Lib.hid (fun j (hj : j < i + 1) y (hy : y ∈ psOf G ((l.foldl seeStep (S, W)).2.getD j 0)) (h0 : 0 < y) => (by
            rw [hpre j (by omega)] at hy
            by_cases e : j < i
            · exact hmem' y (HD.out j e y hy h0)
            · obtain rfl : j = i := by omega
              rw [HX.out, EP.out] at hy
              exact q2 y hy h0 : y ∈ (l.foldl seeStep (S, W)).2))
          clear hpre hmem' q2 q3 hh
          generalize (l.foldl seeStep (S, W)).1 = S9 at *
          generalize (l.foldl seeStep (S, W)).2 = W9 at *
          go_upto_region 20 with fail
          have ew2 : IntKind.i64.wrap (m : Int) = (m : Int) := by rw [IntKind.wrap_i64]; omega
          refine wp_region_still_tail 11 (by kernel_rfl) (by kernel_rfl) ?_
          simp only [List.take_succ_cons, List.take_zero, List.drop_succ_cons, List.drop_zero]
          iterate 11 still_step
          refine wpStill_nil ?_
          change wpList _ _ _ _ _ wr.drew
          clear ew2 ew
          go_wp2_with (go_at_call 116; refine SC.out.mono ?_; rintro e w9 ⟨rfl, ⟨vW9, hK9⟩, hb9⟩)
          go_roundw
          case rel => exact ⟨i + 1, S9, W9, vW9, by omega, by go_num, q1, HI2.out, HD2.out, hK9, hb9⟩
          case measure => simp [intOf]; omega
        · have dlt : decide ((i : Int) < (W.length : Int)) = false := decide_eq_false (by omega)
          obtain rfl : i = W.length := by omega
          obtain ⟨AW, CW, rfl, -⟩ := Kd.R_reads hK.rw
          have E := Lib.hid (known_count R hPK.nd hPK.hit HI.out (fun x hx y hy h0 => by
            obtain ⟨j, hj, e⟩ := List.mem_iff_getElem.1 hx
            have e' : W.getD j 0 = x := by rw [List.getD_eq_getElem?_getD, List.getElem?_eq_getElem hj]; exact e
            exact HD.out j hj y (by rw [e']; exact hy) h0))
          clear hPK hWl HI HD
          generalize W.length = nW at *
          go_wp2_with fail
          go_ret
          exact ⟨ret_bool (by rw [← E.out, Bool.eq_iff_iff, beq_iff_eq, decide_eq_true_eq]; omega), hB.trans (hbr.mono (Nat.le_of_lt lA))⟩
end Go.Proofs.YtogpgkoelplknaaDoor
end
section
/- Lens: image.Check, lens.roots$1, slices.IndexFunc and DeleteFunc at it, walked. No condition. -/


namespace Go.Proofs.YtogpgkoelplknaaDoor
open Go.RowKit Go.BigFrame PLensPaths Go.Proofs.YtogpgkoelplknaaDoorW.PrintWords Go.Proofs.YtogpgkoelplknaaDoorW.PrintMore
set_option linter.unusedVariables false
theorem holders_eq (G : Gr) : holdersB G = (slotsB G && listsB G) := by
  unfold holdersB slotsB listsB
  rw [Bool.eq_iff_iff]
  simp only [Bool.and_eq_true]
  constructor
  · rintro ⟨⟨⟨⟨⟨⟨⟨a, b⟩, c⟩, d⟩, e⟩, f⟩, g⟩, h⟩
    exact ⟨⟨⟨⟨⟨a, b⟩, c⟩, e⟩, d⟩, ⟨⟨g, f⟩, h⟩⟩
  · rintro ⟨⟨⟨⟨⟨a, b⟩, c⟩, e⟩, d⟩, ⟨⟨g, f⟩, h⟩⟩
    exact ⟨⟨⟨⟨⟨⟨⟨a, b⟩, c⟩, d⟩, e⟩, f⟩, g⟩, h⟩
set_option maxRecDepth 100000 in
set_option maxHeartbeats 4000000 in
theorem icheck_any (g : Gv) (G : Gr) (w : World) (h : GAt w g G) (tb : Tab w) (s : Small G) :
    Calls Tryd.prog 39 #[gval g G] w fun e w' => e = .returned (.int .i64 (if okB G = true then 0 else 164)) ∧ Below w.heap.size w w' := by
  obtain ⟨A0, A1, A2, A3, A4, c0, c1, c2, c3, c4⟩ := g
  have q1 := fun (W : World) (hb : Below w.heap.size w W) => iobjects_any ⟨A0, A1, A2, A3, A4, c0, c1, c2, c3, c4⟩ G W (h.below hb) (tb.below hb) s.bd
  have q2 := fun (W : World) (hb : Below w.heap.size w W) => holders_any ⟨A0, A1, A2, A3, A4, c0, c1, c2, c3, c4⟩ G W (h.below hb) s.bd s.fr
  have q4 := fun (R : Rng G) (W : World) (hb : Below w.heap.size w W) => iknown_any ⟨A0, A1, A2, A3, A4, c0, c1, c2, c3, c4⟩ G W (h.below hb) s R
  have BX := boxed h
  have hrng := Lib.hid (show objsB G = true → holdersB G = true → Rng G from fun a b => by
    rw [holders_eq, Bool.and_eq_true] at b
    exact rng_of a b.1 b.2)
  have hok : okB G = (objsB G && holdersB G && knownB G) := by unfold okB; rw [holders_eq]; simp only [Bool.and_assoc]
  rw [hok]
  clear hok
  unfold gval gcells at *
  simp only at *
  have C1 := Lib.hid q1
  have C2 := Lib.hid q2
  have C4 := Lib.hid q4
  clear q1 q2 q4
  generalize objsB G = b1 at *
  generalize holdersB G = b2 at *
  generalize knownB G = b4 at *
  cases b1 <;> cases b2
  case true.true =>
    have R := hrng.out rfl rfl
    cases b4
    all_goals
      go_enter Tryd.func39, Tryd.ntmps39
      go_upto_region 1 with fail
      generalize w.alloc _ = wA at *
      obtain ⟨hX, hB, lA, hA⟩ := BX
      obtain ⟨cA, fA⟩ := blk_at hX
      go_wp2_with (first | (go_at_call 77; refine (C1.out _ hB).mono ?_; rintro e w2 ⟨rfl, hb2⟩; have hB2 := hB.trans (hb2.mono hB.size); clear cA fA; obtain ⟨cA, fA⟩ := blk_at (box_keep hX hb2)) | (go_at_call 78; refine (C2.out _ hB2).mono ?_; rintro e w3 ⟨rfl, hb3⟩; have hB3 := hB2.trans (hb3.mono hB2.size); clear cA fA; obtain ⟨cA, fA⟩ := blk_at (box_keep hX (hb2.trans (hb3.mono hb2.size)))) | (go_at_call 79; refine (C4.out R _ hB3).mono ?_; rintro e w5 ⟨rfl, hb5⟩; have hB5 := hB3.trans (hb5.mono hB3.size)))
      go_ret
      exact ⟨rfl, hB5⟩
  all_goals
    go_enter Tryd.func39, Tryd.ntmps39
    go_upto_region 1 with fail
    generalize w.alloc _ = wA at *
    obtain ⟨hX, hB, lA, hA⟩ := BX
    obtain ⟨cA, fA⟩ := blk_at hX
    go_wp2_with (first | (go_at_call 77; refine (C1.out _ hB).mono ?_; rintro e w2 ⟨rfl, hb2⟩; have hB2 := hB.trans (hb2.mono hB.size); clear cA fA; obtain ⟨cA, fA⟩ := blk_at (box_keep hX hb2)) | (go_at_call 78; refine (C2.out _ hB2).mono ?_; rintro e w3 ⟨rfl, hb3⟩; have hB3 := hB2.trans (hb3.mono hB2.size)))
    go_ret
    first | exact ⟨rfl, hB3⟩ | exact ⟨rfl, hB2⟩
theorem neg_any (x : Int) (w : World) : Calls Tryd.prog 81 #[.int .i64 x] w fun e w' => e = .returned (.bool (decide (x ≤ 0))) ∧ w = w' := by
  by_cases h : x ≤ 0
  · have d : decide (x ≤ 0) = true := decide_eq_true h
    go_enter Tryd.func81, Tryd.ntmps81
    go_wp2_with fail
    go_ret
    first | exact ⟨ret_bool d.symm, rfl⟩ | exact ⟨rfl, rfl⟩
  · have d : decide (x ≤ 0) = false := decide_eq_false h
    go_enter Tryd.func81, Tryd.ntmps81
    go_wp2_with fail
    go_ret
    first | exact ⟨ret_bool d.symm, rfl⟩ | exact ⟨rfl, rfl⟩
/-- How many stand ahead of the first that isn't above 0. -/
def ahead (l : List Int) : Nat := (l.takeWhile fun x => decide (0 < x)).length
theorem ahead_le (l : List Int) : ahead l ≤ l.length := by
  unfold ahead
  induction l with
  | nil => simp
  | cons x l ih => rw [List.takeWhile_cons]; split <;> simp <;> omega
theorem ahead_spec : ∀ (l : List Int) (i : Nat), i < l.length → (∀ j, j < i → 0 < l.getD j 0) → (¬ 0 < l.getD i 0 → ahead l = i) ∧ (i + 1 = l.length → 0 < l.getD i 0 → ahead l = l.length) := by
  intro l
  induction l with
  | nil => intro i h; simp at h
  | cons x l ih =>
    intro i hi hj
    unfold ahead
    rw [List.takeWhile_cons]
    cases i with
    | zero =>
      constructor
      · intro h0
        have : ¬ 0 < x := by simpa using h0
        rw [if_neg (by simpa using this)]; rfl
      · intro h1 h0
        have h0' : 0 < x := by simpa using h0
        have : l = [] := List.length_eq_zero_iff.1 (by rw [List.length_cons] at h1; omega)
        subst this
        rw [if_pos (by simpa using h0')]; simp
    | succ i =>
      have hx : 0 < x := by simpa using hj 0 (by omega)
      rw [if_pos (by simpa using hx)]
      obtain ⟨a, b⟩ := ih i (by simp at hi; omega) (fun j hjj => by simpa using hj (j + 1) (by omega))
      unfold ahead at a b
      constructor
      · intro h0
        have := a (by simpa using h0)
        simp [this]
      · intro h1 h0
        have := b (by simp at h1; omega) (by simpa using h0)
        simp [this]
def indexP (l : List Int) : Int := if ahead l = l.length then -1 else (ahead l : Int)
set_option maxRecDepth 100000 in
set_option maxHeartbeats 2000000 in
theorem indexFunc_any (w : World) (A : Option Addr) (c : Nat) (l : List Int) (hl : Kd.C (Kd.int .i64) w A l.length l) :
    Calls Tryd.prog 117 #[.slice A l.length c, .func (.func 81) #[] #[]] w fun e w' => e = .returned (.int .i64 (indexP l)) ∧ w = w' := by
  have NC := Lib.hid (fun (x : Int) => neg_any x w)
  have hm := Kd.C_max hl
  go_enter Tryd.func117, Tryd.ntmps117
  go_wp2_with fail
  go_loop [8] (fun iv => ∃ i : Nat, i ≤ l.length ∧ iv = .int .i64 i ∧ ∀ j, j < i → 0 < l.getD j 0) (fun iv => l.length - (intOf iv).toNat)
  case atStart => exact ⟨0, by omega, rfl, fun j hj => by omega⟩
  case round =>
    obtain ⟨i, hi, rfl, hp⟩ := hrel
    have HP := Lib.hid hp
    clear hp
    by_cases hlt : i < l.length
    · have dlt : decide ((i : Int) < (l.length : Int)) = true := decide_eq_true (by omega)
      have i0 : (0 : Int) ≤ (i : Int) := by omega
      have i1 : (i : Int) < (l.length : Int) := by omega
      obtain ⟨ad, rfl, hc⟩ := int_at hl i hlt
      have HS := Lib.hid (ahead_spec l i hlt HP.out)
      generalize hx : l.getD i 0 = x at *
      have HX := Lib.hid hx
      clear hx
      have NX := Lib.hid (NC.out x)
      by_cases h0 : 0 < x
      · have d : decide (x ≤ 0) = false := decide_eq_false (by omega)
        rw [d] at NX
        clear d
        go_wp2_with (go_at_call 81; refine NX.out.mono ?_; rintro e w2 ⟨rfl, rfl⟩)
        go_round
        case rel => exact ⟨i + 1, by omega, by go_num, fun j hj => by
          by_cases e : j < i
          · exact HP.out j e
          · obtain rfl : j = i := by omega
            rw [HX.out]; exact h0⟩
        case measure => simp [intOf]; omega
      · have d : decide (x ≤ 0) = true := decide_eq_true (by omega)
        rw [d] at NX
        have E := Lib.hid (HS.out.1 h0)
        clear d
        go_wp2_with (go_at_call 81; refine NX.out.mono ?_; rintro e w2 ⟨rfl, rfl⟩)
        go_ret
        exact ⟨ret_int (by unfold indexP; rw [E.out, if_neg (by omega)]), rfl⟩
    · have dlt : decide ((i : Int) < (l.length : Int)) = false := decide_eq_false (by omega)
      have E := Lib.hid (show ahead l = l.length from by
        rcases Nat.eq_zero_or_pos l.length with q | q
        · have : l = [] := List.length_eq_zero_iff.1 q
          subst this; rfl
        · exact (ahead_spec l (l.length - 1) (by omega) (fun j hj => HP.out j (by omega))).2 (by omega) (HP.out _ (by omega)))
      go_wp2_with fail
      go_ret
      exact ⟨ret_int (by unfold indexP; rw [if_pos E.out]), rfl⟩
end Go.Proofs.YtogpgkoelplknaaDoor
end
section
/- Lens: slices.DeleteFunc at lens.roots$1, and lens.roots, walked. No condition. -/

namespace Go.Proofs.YtogpgkoelplknaaDoor
open Go.RowKit Go.BigFrame PLensPaths Go.Proofs.YtogpgkoelplknaaDoorW.PrintWords Go.Proofs.YtogpgkoelplknaaDoorW.PrintMore
set_option linter.unusedVariables false
def posL (l : List Int) : List Int := l.filter fun x => decide (0 < x)
theorem RI_put {w : World} {b g cap n : Nat} {l : List Int} (h : RI w b (.slice (some ⟨g, 0, none⟩) n cap) l) (i : Nat) (x : Int) : RI (w.setCell ⟨g, i, none⟩ (.int .i64 x)) b (.slice (some ⟨g, 0, none⟩) n cap) (l.set i x) ∧ w.grownBy (w.setCell ⟨g, i, none⟩ (.int .i64 x)) (some g) := by
  have := Kd.R_putg h (i : Int) x
  rw [Int.toNat_natCast] at this
  exact this
theorem RI_clear {b g cap n : Nat} : ∀ (m o : Nat) {w : World} {T : List Int}, RI w b (.slice (some ⟨g, 0, none⟩) n cap) T → ∃ T', T'.length = T.length ∧ T'.take o = T.take o ∧ RI (w.setCells g o (List.replicate m (.int .i64 0))) b (.slice (some ⟨g, 0, none⟩) n cap) T' := by
  intro m
  induction m with
  | zero => intro o w T h; exact ⟨T, rfl, rfl, h⟩
  | succ m ih =>
    intro o w T h
    obtain ⟨T', h1, h2, h3⟩ := ih (o + 1) (RI_put h o 0).1
    refine ⟨T', by simpa using h1, ?_, h3⟩
    have e := congrArg (List.take o) h2
    rw [List.take_take, List.take_take, Nat.min_eq_left (Nat.le_succ o)] at e
    rw [e, List.take_set_of_le (Nat.le_refl o)]
theorem below_clear {B : Nat} {a : World} (b : Nat) (hb : B ≤ b) : ∀ (vs : List Value) (o : Nat) {w : World}, Below B a w → Below B a (w.setCells b o vs)
  | [], _, _, h => h
  | v :: r, o, _, h => below_clear b hb r (o + 1) (h.setCell (p := ⟨b, o, none⟩) hb v)
theorem zeroI (w : World) : (zeroValue 3).run Tryd.prog w = .ok (.int .i64 0) w := by kernel_rfl
theorem ahead_take (l : List Int) : l.take (ahead l) = posL (l.take (ahead l)) := by
  unfold ahead posL
  induction l with
  | nil => rfl
  | cons x l ih =>
    rw [List.takeWhile_cons]
    by_cases h : decide (0 < x) = true
    · rw [if_pos h]
      simp only [List.length_cons, List.take_succ_cons]
      rw [List.filter_cons_of_pos (p := fun x => decide (0 < x)) h]
      exact congrArg _ ih
    · rw [if_neg h]; rfl
theorem ahead_bad {l : List Int} : ahead l < l.length → ¬ 0 < l.getD (ahead l) 0 := by
  unfold ahead
  induction l with
  | nil => intro h; simp at h
  | cons x l ih =>
    rw [List.takeWhile_cons]
    by_cases h : decide (0 < x) = true
    · rw [if_pos h]
      intro hl
      simpa using ih (by simpa using hl)
    · rw [if_neg h]
      intro _
      simpa using h
theorem take_set_snoc {l : List Int} {i : Nat} {x : Int} (h : i < l.length) : (l.set i x).take (i + 1) = l.take i ++ [x] := by
  rw [List.take_succ_eq_append_getElem (by simpa using h)]
  simp [List.take_set_of_le]
set_option maxRecDepth 100000 in
set_option maxHeartbeats 4000000 in
theorem deleteFunc_any (w0 w : World) (b : Nat) (v : Value) (T : List Int) (hT : RI w b v T) (hb : Below b w0 w) (hT2 : T.length ≤ 1099511627776) :
    Calls Tryd.prog 80 #[v, .func (.func 81) #[] #[]] w fun e w' => ∃ v', e = .returned v' ∧ RI w' b v' (posL T) ∧ Below b w0 w' := by
  have NC := Lib.hid (fun (x : Int) (W : World) => neg_any x W)
  by_cases hp : ahead T = T.length
  · obtain ⟨A, c, rfl, hc, hC⟩ := Kd.R_reads hT
    have IC := indexFunc_any w A c T hC
    unfold indexP at IC
    rw [if_pos hp] at IC
    have IX := Lib.hid IC
    have hE := ahead_take T
    rw [hp, List.take_length] at hE
    have HE := Lib.hid hE
    clear IC hp hE
    go_enter Tryd.func80, Tryd.ntmps80
    go_wp2_with (go_at_call 117; refine IX.out.mono ?_; rintro e w2 ⟨rfl, rfl⟩)
    go_ret
    exact ⟨_, rfl, by rw [← HE.out]; exact hT, hb⟩
  · have hlt : ahead T < T.length := by have := ahead_le T; omega
    obtain ⟨g, cap, rfl, g0, g1, -⟩ := RI_form hT (by omega)
    obtain ⟨-, hnc, hC⟩ := Kd.R_reads' hT
    have IC := indexFunc_any w _ cap T hC
    unfold indexP at IC
    rw [if_neg hp] at IC
    have IX := Lib.hid IC
    have hA := ahead_take T
    have hbad := ahead_bad hlt
    clear IC hp hC
    generalize hn : T.length = n at *
    generalize ahead T = a at *
    have HN := Lib.hid hn
    have HA := Lib.hid (show T.take a = posL (T.take (a + 1)) from by
      rw [take_snocD T a (by omega)]
      generalize T.getD a 0 = x at *
      have e : posL [x] = [] := by unfold posL; simp; omega
      have e2 : posL (T.take a ++ [x]) = posL (T.take a) ++ posL [x] := by unfold posL; rw [List.filter_append]
      rw [e2, e, List.append_nil]
      exact hA)
    clear hA hbad hn
    have dm : ((a : Int) == -1) = false := by rw [beq_eq_false_iff_ne]; omega
    go_enter Tryd.func80, Tryd.ntmps80
    go_wp2_with (go_at_call 117; refine IX.out.mono ?_; rintro e w2 ⟨rfl, rfl⟩)
    go_loopw [5, 6] (fun iv jv wx => ∃ (i j : Nat) (T' : List Int), i < j ∧ j ≤ n ∧ iv = .int .i64 i ∧ jv = .int .i64 j ∧ T'.length = n ∧ T'.take i = posL (T.take j) ∧ T'.drop j = T.drop j ∧ RI wx b (.slice (some ⟨g, 0, none⟩) n cap) T' ∧ Below b w0 wx) (fun _ jv _ => n - (intOf jv).toNat)
    case atStart => exact ⟨a, a + 1, T, by omega, by omega, rfl, by go_num, HN.out, HA.out, rfl, hT, hb⟩
    case round =>
      clear hT hb
      obtain ⟨i, j, T', hij, hj, rfl, rfl, hl, htk, hdr, hT, hb⟩ := hrel
      have HL := Lib.hid hl
      have HT := Lib.hid htk
      have HD := Lib.hid hdr
      clear hl htk hdr
      by_cases hlj : j < n
      · have dlt : decide ((j : Int) < (n : Int)) = true := decide_eq_true (by omega)
        have j0 : (0 : Int) ≤ (j : Int) := by omega
        have j1 : (j : Int) < (n : Int) := by omega
        have i0 : (0 : Int) ≤ (i : Int) := by omega
        have i1 : (i : Int) < (n : Int) := by omega
        obtain ⟨hcj, -⟩ := Kd.R_celln (d := (0 : Int)) hT (j : Int) (by omega) (by omega)
        obtain ⟨hci, hfi⟩ := Kd.R_celln (d := (0 : Int)) hT (i : Int) (by omega) (by omega)
        simp only [Int.toNat_natCast, rdOf] at hcj hci hfi
        have hx : T'.getD j 0 = T.getD j 0 := by
          have := congrArg (fun l => l.getD 0 0) HD.out
          simpa [List.getD_eq_getElem?_getD, List.getElem?_drop] using this
        have HT2 := Lib.hid (show posL (T.take (j + 1)) = T'.take i ++ posL [T.getD j 0] by
          rw [take_snocD T j (by have := HN.out; omega), HT.out]; unfold posL; rw [List.filter_append])
        have HD2 := Lib.hid (show T'.drop (j + 1) = T.drop (j + 1) by rw [← List.drop_drop, ← List.drop_drop, HD.out])
        rw [hx] at hcj
        clear hx
        generalize T.getD j 0 = x at *
        have NX := Lib.hid (fun (W : World) => NC.out x W)
        by_cases h0 : 0 < x
        · have d : decide (x ≤ 0) = false := decide_eq_false (by omega)
          rw [d] at NX
          clear d
          have e1 : posL [x] = [x] := by unfold posL; simp [h0]
          rw [e1] at HT2
          clear e1
          go_upto_region 10 with (go_at_call 81; refine (NX.out _).mono ?_; rintro e w2 ⟨rfl, rfl⟩)
          obtain ⟨hT1, -⟩ := RI_put hT i x
          have hb1 := hb.setCell (p := ⟨g, i, none⟩) g0 (.int .i64 x)
          generalize wr.setCell ⟨g, i, none⟩ (.int .i64 x) = w3 at *
          clear hT hb hcj hci hfi
          go_wp2_with fail
          go_roundw
          case rel => exact ⟨i + 1, j + 1, T'.set i x, by omega, by omega, by go_num, by go_num, by simp [HL.out], by rw [take_set_snoc (by have := HL.out; omega)]; exact HT2.out.symm, by rw [List.drop_set_of_lt (by omega)]; exact HD2.out, hT1, hb1⟩
          case measure => simp [intOf]; omega
        · have d : decide (x ≤ 0) = true := decide_eq_true (by omega)
          rw [d] at NX
          clear d
          have e1 : posL [x] = [] := by unfold posL; simp; omega
          rw [e1, List.append_nil] at HT2
          clear e1
          go_wp2_with (go_at_call 81; refine (NX.out _).mono ?_; rintro e w2 ⟨rfl, rfl⟩)
          go_roundw
          case rel => exact ⟨i, j + 1, T', by omega, by omega, rfl, by go_num, HL.out, HT2.out.symm, HD2.out, hT, hb⟩
          case measure => simp [intOf]; omega
      · have dlt : decide ((j : Int) < (n : Int)) = false := decide_eq_false (by omega)
        obtain rfl : j = n := by omega
        have hTe := HT.out
        rw [List.take_of_length_le (l := T) (by have := HN.out; omega)] at hTe
        have HE := Lib.hid hTe
        have hcel : ∀ k, k < j - i → wr.cell? ⟨g, i + k, none⟩ = some (.int .i64 (T'.getD (i + k) 0)) ∧ wr.frozen? ⟨g, i + k, none⟩ = false := fun k hk => by
          have := Kd.R_celln (d := (0 : Int)) hT ((i + k : Nat) : Int) (by omega) (by omega)
          simp only [rdOf, Int.toNat_natCast] at this
          exact this
        have hcl : ∀ ty, (Builtin.clear_ #[24] ty #[.slice (some ⟨g, i, none⟩) (j - i) (cap - i)]).run Tryd.prog wr = .ok (.tuple #[]) (wr.setCells g i (List.replicate (j - i) (.int .i64 0))) :=
          fun ty => Lib.run_clear_slice wr 24 3 ty (.int .i64 0) Tryd.underlying24 zeroI rfl rfl g i (j - i) (cap - i) (by omega) (fun k hk => by rw [(hcel k hk).1]; rfl) (fun k hk => (hcel k hk).2)
        clear hcel hTe
        obtain ⟨T3, t1, t2, hT3⟩ := RI_clear (j - i) i hT
        have hb3 := below_clear g g0 (List.replicate (j - i) (.int .i64 0)) i hb
        have h4 := Kd.R_take hT3 (m := i) (by have := HL.out; omega)
        have HZ := Lib.hid (show T3.take i = posL T by rw [t2]; exact HE.out)
        clear t1 t2 hT3
        have q0 : (0 : Int) ≤ (i : Int) := by omega
        have q1 : (i : Int) ≤ (j : Int) := by omega
        have q2 : (i : Int) ≤ (cap : Int) := by omega
        have q3 : ¬ cap = i := by omega
        rw [HZ.out] at h4
        go_wp2_with fail
        go_ret
        exact ⟨_, rfl, h4, hb3⟩
end Go.Proofs.YtogpgkoelplknaaDoor
end
section
/- Lens: lens.roots walked. No condition. -/


namespace Go.Proofs.YtogpgkoelplknaaDoor
open Go.RowKit Go.BigFrame PLensPaths Go.Proofs.YtogpgkoelplknaaDoorW.PrintWords Go.Proofs.YtogpgkoelplknaaDoorW.PrintMore
set_option linter.unusedVariables false
section
variable {ops : Array Oper} {o : Oper} {a : Act} {Q : Exit → Act → World → Prop} {Kc : Act → World → Prop}
/-- append(v, ys...) of ints: a step of a region that draws. -/
theorem step_app_ints {w0 W : World} (base : Nat) (hgd : o.guard = none) (s x : Operand) (ho : o.op = .call { callee := .builtin .append, args := #[s, x], argTypes := #[24, 24] })
    (v : Value) (xs ys : List Int) (A : Option Addr) (c : Nat) (hs : a.eval s = v) (hx : a.eval x = .slice A ys.length c) (HO : RI W base v xs) (HR : Kd.C (Kd.int .i64) W A ys.length ys) (HB : Below base w0 W) (hbase : base ≤ W.heap.size) (hl : xs.length + ys.length ≤ 1099511627776)
    (h : ∀ v1 w1, RI w1 base v1 (xs ++ ys) → Below base w0 w1 → W.grownBy w1 v.ownBlock → (v1.ownBlock = v.ownBlock ∨ ∃ b, v1.ownBlock = some b ∧ W.heap.size ≤ b) → Kc (a.put o.dst v1) w1) :
    if Region.wanted o (yielded ops a.tmps) = true then Oper.wp Tryd.prog o a W Kc Q else Kc (a.put o.dst undef) W :=
  Kd.R_append_rows_step (Kd.int .i64) base (by simp [Region.wanted, hgd]) s x 24 3 (.int .i64 0) 8 ho Tryd.underlying24 infoI rfl (by decide) (by omega) v xs ys A ys.length c All (fun _ => False) hs hx HO HR (fun _ _ h => h) (fun _ h => h.elim) (fun _ _ => trivial) HB hbase (by omega) h
end
theorem posL_roots (G : Gr) (x : Int) (hx : x ≤ 0) : rootsP G x = posL (holdP G) := by
  unfold rootsP posL
  refine List.filter_congr fun n _ => ?_
  rw [Bool.eq_iff_iff]
  simp
  omega
set_option maxRecDepth 100000 in
set_option maxHeartbeats 8000000 in
theorem roots_any (g : Gv) (G : Gr) (w : World) (h : GAt w g G) (s : Small G) :
    Calls Tryd.prog 41 #[gval g G] w fun e w' => ∃ v, e = .returned v ∧ RI w' w.heap.size v (posL (holdP G)) ∧ Below w.heap.size w w' := by
  have bd := s.bd
  have fb := s.fr
  have hM := s.hold
  obtain ⟨A0, A1, A2, A3, A4, c0, c1, c2, c3, c4⟩ := g
  have BX := boxed h
  unfold gval gcells
  unfold gcells at BX
  simp only at BX ⊢
  go_enter Tryd.func41, Tryd.ntmps41
  go_upto_region 1 with fail
  generalize w.alloc _ = wA at *
  obtain ⟨hX, hB, lA, hA⟩ := BX
  obtain ⟨cA, fA⟩ := blk_at hX
  have hI : (slotsP G.slots).length + G.hands.length + G.queue.length ≤ 1048576 := by
    unfold holdP at hM
    simp only [List.length_append] at hM
    omega
  have hnm := bd.m
  go_wp2_with fail
  go_loopw [3, 11] (fun v3 tv wx => ∃ (t : Nat) (pre : List Int), t ≤ G.slots.length ∧ tv = .int .i64 t ∧ pre ++ slotsP (G.slots.drop t) = slotsP G.slots ∧ RI wx wA.heap.size v3 pre ∧ Below wA.heap.size wA wx) (fun _ tv _ => G.slots.length - (intOf tv).toNat)
  case atStart => exact ⟨0, [], by omega, rfl, rfl, RI_nil _ _, Below.refl _ _⟩
  case round =>
    clear cA fA
    obtain ⟨t, pre, ht, rfl, hpre, hR, hbr⟩ := hrel
    by_cases hlt : t < G.slots.length
    · have dlt : decide ((t : Int) < (G.slots.length : Int)) = true := decide_eq_true (by omega)
      have t0 : (0 : Int) ≤ (t : Int) := by omega
      have t1 : (t : Int) < (G.slots.length : Int) := by omega
      have hm := fb _ (getD_mem [] hlt)
      have es : slotsP (G.slots.drop t) = (G.slots.getD t []).flatten ++ slotsP (G.slots.drop (t + 1)) := by rw [drop_cons [] hlt]; rfl
      rw [es, ← List.append_assoc] at hpre
      obtain ⟨ad1, B1, b1, e1, hcA, hl1, hC1⟩ := sl_at hA.r1 t hlt
      simp only at e1
      subst e1
      have hc1 := cell_later hbr hcA
      clear hcA
      generalize G.slots.getD t [] = fr at *
      obtain ⟨m1, m2, m3⟩ := hm
      have hpl : (pre ++ fr.flatten).length ≤ 1048576 := by
        have := congrArg List.length hpre
        rw [List.length_append] at this
        omega
      have HP := Lib.hid hpre
      clear hpre es
      go_wp2_with fail
      go_loopw [3, 17] (fun v3 fv wx => ∃ (f : Nat) (mid : List Int), f ≤ fr.length ∧ fv = .int .i64 f ∧ mid ++ (fr.drop f).flatten = pre ++ fr.flatten ∧ RI wx wA.heap.size v3 mid ∧ Below wA.heap.size wA wx) (fun _ fv _ => fr.length - (intOf fv).toNat)
      case atStart => exact ⟨0, pre, by omega, rfl, rfl, hR, hbr⟩
      case round =>
        clear hR hbr hc1
        obtain ⟨f, mid, hf, rfl, hmid, hR, hbr⟩ := hrel
        by_cases hlf : f < fr.length
        · have dlf : decide ((f : Int) < (fr.length : Int)) = true := decide_eq_true (by omega)
          have f0 : (0 : Int) ≤ (f : Int) := by omega
          have f1 : (f : Int) < (fr.length : Int) := by omega
          obtain ⟨ad2, B2, b2, rfl, hcB, hl2, hC2⟩ := sl_at hC1 f hlf
          have hc2 := cell_later hbr hcB
          have hC3 := Kd.C_below hC2 hbr
          rw [drop_cons [] hlf, flat_cons, ← List.append_assoc] at hmid
          have hq := m3 _ (getD_mem [] hlf)
          generalize fr.getD f [] = l at *
          have hml : (mid ++ l).length ≤ 1048576 := by
            have := congrArg List.length hmid
            rw [List.length_append] at this
            omega
          rw [List.length_append] at hml
          have HM := Lib.hid hmid
          clear hmid
          go_wp2_with (at_builtin; refine app_ints (w0 := wA) wA.heap.size rfl _ _ rfl u3 _ l B2 b2 rfl rfl hR hC3 hbr ?h2 ?h3 ?_; (case h2 => exact hbr.size); (case h3 => omega); intro v1 w1 hR1 hb1 hg1 hat1; clear hg1 hat1)
          go_roundw
          case rel => exact ⟨f + 1, mid ++ l, by omega, by go_num, HM.out, hR1, hb1⟩
          case measure => simp [intOf]; omega
        · have dlf : decide ((f : Int) < (fr.length : Int)) = false := decide_eq_false (by omega)
          rw [List.drop_of_length_le (by omega), List.flatten_nil, List.append_nil] at hmid
          have HN := Lib.hid (show mid ++ slotsP (G.slots.drop (t + 1)) = slotsP G.slots by rw [hmid]; exact HP.out)
          clear hmid
          go_wp2_with fail
          go_roundw
          case rel => exact ⟨t + 1, mid, by omega, by go_num, HN.out, hR, hbr⟩
          case measure => simp [intOf]; omega
    · have dlt : decide ((t : Int) < (G.slots.length : Int)) = false := decide_eq_false (by omega)
      rw [List.drop_of_length_le (by omega)] at hpre
      simp only [slotsP, List.map_nil, List.flatten_nil, List.append_nil] at hpre
      have hpre' : pre = slotsP G.slots := hpre
      subst hpre'
      clear hpre
      have r2 := hA.r2
      have r4 := hA.r4
      simp only at r2 r4
      obtain ⟨cA, fA⟩ := blk_at (box_keep hX hbr)
      have k2 : wr.cell? ⟨w.heap.size, 2, none⟩ = some (.slice A2 G.hands.length c2) := cA 2
      have k4 : wr.cell? ⟨w.heap.size, 4, none⟩ = some (.slice A4 G.queue.length c4) := cA 4
      have CB := Lib.hid (fun (W : World) (hb : Below wA.heap.size wA W) => ((blk_at (box_keep hX hb)).1))
      clear cA fA
      go_upto_region 11 with fail
      go_region_held3 (fun w' => w'.cell? ⟨w.heap.size, 2, none⟩ = some (.slice A2 G.hands.length c2) ∧ w'.cell? ⟨w.heap.size, 4, none⟩ = some (.slice A4 G.queue.length c4) ∧ Below wA.heap.size wA w')
        (first
          | exact ⟨k2, k4, hbr⟩
          | exact ⟨k2, k4, hbr.drew⟩
          | exact ⟨CB.out _ hb1 2, CB.out _ hb1 4, hb1⟩
          | exact ⟨CB.out _ hb2 2, CB.out _ hb2 4, hb2⟩)
        (first
          | ((refine step_app_ints (w0 := wA) wA.heap.size rfl _ _ rfl u3 _ G.hands A2 c2 rfl rfl hR (Kd.C_below r2 hbr) hbr hbr.size (by omega) ?_; intro v1 w1 hR1 hb1 hg1 hat1))
          | ((refine step_app_ints (w0 := wA) wA.heap.size rfl _ _ rfl u3 _ G.hands A2 c2 rfl rfl (Kd.R_drew hR) (Kd.C_below r2 hbr.drew) hbr.drew hbr.drew.size (by omega) ?_; intro v1 w1 hR1 hb1 hg1 hat1))
          | ((refine step_app_ints (w0 := wA) wA.heap.size rfl _ _ rfl v1 _ G.queue A4 c4 rfl rfl hR1 (Kd.C_below r4 hb1) hb1 hb1.size (by simp only [List.length_append]; omega) ?_; intro v2 w2 hR2 hb2 hg2 hat2)))
      have DF := Lib.hid (deleteFunc_any wA w2 wA.heap.size v2 (holdP G) hR2 hb2 (by omega))
      clear hR1 hb1 hg1 hat1 hg2 hat2 hR
      go_wp2_with (go_at_call 80; refine DF.out.mono ?_; rintro e w3 ⟨v3, rfl, hR3, hb3⟩)
      go_ret
      exact ⟨v3, rfl, Kd.R_lower hR3 (Nat.le_of_lt lA), hB.trans (hb3.mono (Nat.le_of_lt lA))⟩
end Go.Proofs.YtogpgkoelplknaaDoor
end
section
/- Lens: how far each object is from one: plain words on the search. No condition. -/

namespace Go.Proofs.YtogpgkoelplknaaDoor
open Go.RowKit PLensPaths
set_option linter.unusedVariables false
def wayOf (G : Gr) (x : Int) : List Int := waysP (G.obs.getD (x - 1).toNat default)
def fa (F : List Int) (x : Int) : Int := F.getD x.toNat 0
theorem ways_sub {o : Ob} {y : Int} (h : y ∈ waysP o) : y ∈ o.f3 ∧ 0 < y := by
  unfold waysP at h
  obtain ⟨h1, h2⟩ := List.mem_filter.1 h
  exact ⟨List.mem_of_mem_drop h1, by simpa using h2⟩
theorem wayOf_rng {G : Gr} (R : Rng G) {x y : Int} (h0 : 1 ≤ x) (h1 : x ≤ (G.obs.length : Int)) (h : y ∈ wayOf G x) : 1 ≤ y ∧ y ≤ (G.obs.length : Int) := by
  obtain ⟨a, b⟩ := ways_sub h
  have := R.ps _ (getD_mem (l := G.obs) default (i := (x - 1).toNat) (by omega)) y a
  omega
/-- What is told of the distances. -/
structure DistOk (G : Gr) (tg : Int) (F : List Int) : Prop where
  fl : F.length = G.obs.length + 1
  z : fa F 0 = -1
  hd : fa F tg = 0
  low : ∀ x, 1 ≤ x → x ≤ (G.obs.length : Int) → -1 ≤ fa F x
  back : ∀ x, 1 ≤ x → x ≤ (G.obs.length : Int) → 0 ≤ fa F x → x ≠ tg → ∃ y ∈ wayOf G x, 0 ≤ fa F y ∧ fa F x = fa F y + 1
  step : ∀ x y, 1 ≤ x → x ≤ (G.obs.length : Int) → y ∈ wayOf G x → 0 ≤ fa F y → 0 ≤ fa F x ∧ fa F x ≤ fa F y + 1
theorem dist_le {G : Gr} (R : Rng G) {tg : Int} (ht : 1 ≤ tg ∧ tg ≤ (G.obs.length : Int)) {F H : List Int} (h : DistOk G tg F) (k : DistOk G tg H) : ∀ (n : Nat) (x : Int), 1 ≤ x → x ≤ (G.obs.length : Int) → fa F x = n → 0 ≤ fa H x ∧ fa H x ≤ n := by
  intro n
  induction n with
  | zero =>
    intro x h0 h1 e
    by_cases q : x = tg
    · rw [q, k.hd]; exact ⟨by omega, by omega⟩
    · obtain ⟨y, hy, y0, e2⟩ := h.back x h0 h1 (by omega) q
      omega
  | succ n ih =>
    intro x h0 h1 e
    have q : x ≠ tg := fun q => by rw [q, h.hd] at e; omega
    obtain ⟨y, hy, y0, e2⟩ := h.back x h0 h1 (by omega) q
    have yr := wayOf_rng R h0 h1 hy
    have := ih y yr.1 yr.2 (by omega)
    have := k.step x y h0 h1 hy this.1
    omega
/-- There is but one such list. -/
theorem dist_eq {G : Gr} (R : Rng G) {tg : Int} (ht : 1 ≤ tg ∧ tg ≤ (G.obs.length : Int)) {F H : List Int} (h : DistOk G tg F) (k : DistOk G tg H) : F = H := by
  have key : ∀ x : Int, 1 ≤ x → x ≤ (G.obs.length : Int) → fa F x = fa H x := fun x h0 h1 => by
    have a := h.low x h0 h1
    have b := k.low x h0 h1
    by_cases q : 0 ≤ fa F x
    · have u := dist_le R ht h k (fa F x).toNat x h0 h1 (by omega)
      have v := dist_le R ht k h (fa H x).toNat x h0 h1 (by omega)
      omega
    · by_cases q2 : 0 ≤ fa H x
      · have v := dist_le R ht k h (fa H x).toNat x h0 h1 (by omega)
        omega
      · omega
  have hl := h.fl
  have kl := k.fl
  refine List.ext_getElem (by omega) fun i h1 h2 => ?_
  have e1 : F[i] = fa F (i : Int) := by unfold fa; rw [Int.toNat_natCast, List.getD_eq_getElem?_getD, List.getElem?_eq_getElem h1]; rfl
  have e2 : H[i] = fa H (i : Int) := by unfold fa; rw [Int.toNat_natCast, List.getD_eq_getElem?_getD, List.getElem?_eq_getElem h2]; rfl
  rw [e1, e2]
  by_cases q : i = 0
  · subst q
    have := h.z
    have := k.z
    simp only [Int.natCast_zero] at *
    omega
  · exact key _ (by omega) (by omega)
/-- The search, i of those that are found gone through. -/
structure Bfs (G : Gr) (tg : Int) (i : Nat) (W F : List Int) : Prop where
  fl : F.length = G.obs.length + 1
  nd : W.Nodup
  rng : ∀ x ∈ W, 1 ≤ x ∧ x ≤ (G.obs.length : Int)
  mem : ∀ x, 1 ≤ x → x ≤ (G.obs.length : Int) → (0 ≤ fa F x ↔ x ∈ W)
  low : ∀ x, 1 ≤ x → x ≤ (G.obs.length : Int) → -1 ≤ fa F x
  z : fa F 0 = -1
  hd : fa F tg = 0
  tin : tg ∈ W
  mono : ∀ j k, j ≤ k → k < W.length → fa F (W.getD j 0) ≤ fa F (W.getD k 0)
  near : ∀ j, j < W.length → i < W.length → fa F (W.getD j 0) ≤ fa F (W.getD i 0) + 1
  back : ∀ x ∈ W, x ≠ tg → ∃ y ∈ wayOf G x, y ∈ W ∧ fa F x = fa F y + 1
  done : ∀ j, j < i → ∀ x, 1 ≤ x → x ≤ (G.obs.length : Int) → W.getD j 0 ∈ wayOf G x → x ∈ W ∧ fa F x ≤ fa F (W.getD j 0) + 1
theorem fa_set {F : List Int} {x y v : Int} (hx : 0 ≤ x ∧ x < (F.length : Int)) (hy : 0 ≤ y) : fa (F.set x.toNat v) y = if y = x then v else fa F y := by
  unfold fa
  rw [List.getD_eq_getElem?_getD, List.getElem?_set]
  by_cases e : x.toNat = y.toNat
  · have : x = y := by omega
    subst this
    rw [if_pos rfl, if_pos rfl]
    have : x.toNat < F.length := by omega
    simp [this]
  · rw [if_neg e, if_neg (by omega), ← List.getD_eq_getElem?_getD]
theorem getD_app {W : List Int} {x : Int} {j : Nat} (h : j < W.length) : (W ++ [x]).getD j 0 = W.getD j 0 := by
  rw [List.getD_eq_getElem?_getD, List.getElem?_append_left h, ← List.getD_eq_getElem?_getD]
theorem getD_last {W : List Int} {x : Int} : (W ++ [x]).getD W.length 0 = x := by
  rw [List.getD_eq_getElem?_getD]; simp
/-- One that is found. -/
theorem Bfs.found {G : Gr} (R : Rng G) {tg : Int} {i : Nat} {W F : List Int} (h : Bfs G tg i W F) (hi : i < W.length) {x : Int} (h0 : 1 ≤ x) (h1 : x ≤ (G.obs.length : Int)) (hx : fa F x < 0) (hy : W.getD i 0 ∈ wayOf G x) :
    Bfs G tg i (W ++ [x]) (F.set x.toNat (fa F (W.getD i 0) + 1)) := by
  have hn : x ∉ W := fun q => by have := (h.mem x h0 h1).2 q; omega
  have hyW : W.getD i 0 ∈ W := getD_mem 0 hi
  have hyr := h.rng _ hyW
  have hy0 := (h.mem _ hyr.1 hyr.2).2 hyW
  have hfl := h.fl
  generalize hv : fa F (W.getD i 0) = v at *
  have fs : ∀ z : Int, 0 ≤ z → fa (F.set x.toNat (v + 1)) z = if z = x then v + 1 else fa F z := fun z hz => fa_set (by omega) hz
  have fW : ∀ z ∈ W, fa (F.set x.toNat (v + 1)) z = fa F z := fun z hz => by
    have e : ¬ z = x := fun e => hn (e ▸ hz)
    rw [fs z (by have := h.rng z hz; omega), if_neg e]
  have fj : ∀ j, j < W.length → fa (F.set x.toNat (v + 1)) (W.getD j 0) = fa F (W.getD j 0) := fun j hj => fW _ (getD_mem 0 hj)
  have fx : fa (F.set x.toNat (v + 1)) x = v + 1 := by rw [fs x (by omega), if_pos rfl]
  refine ⟨by simp [hfl], ?_, fun z hz => ?_, fun z z0 z1 => ?_, fun z z0 z1 => ?_, ?_, ?_, List.mem_append.2 (.inl h.tin), fun j k hjk hk => ?_, fun j hj hi2 => ?_, fun z hz hzt => ?_, fun j hj z z0 z1 hz => ?_⟩
  · rw [List.nodup_append]
    refine ⟨h.nd, by simp, fun a ha b hb => ?_⟩
    simp at hb
    subst hb
    exact fun e => hn (e ▸ ha)
  · rcases List.mem_append.1 hz with q | q
    · exact h.rng z q
    · simp at q; subst q; exact ⟨h0, h1⟩
  · rw [fs z (by omega)]
    by_cases e : z = x
    · subst e; rw [if_pos rfl]; simp; omega
    · rw [if_neg e, h.mem z z0 z1]; simp [e]
  · rw [fs z (by omega)]
    split
    · omega
    · exact h.low z z0 z1
  · rw [fs 0 (by omega), if_neg (by omega)]; exact h.z
  · rw [fW tg h.tin]; exact h.hd
  · rw [List.length_append, List.length_singleton] at hk
    by_cases k2 : k < W.length
    · rw [getD_app k2, getD_app (by omega), fj k k2, fj j (by omega)]
      exact h.mono j k hjk k2
    · obtain rfl : k = W.length := by omega
      rw [getD_last, fx]
      by_cases j2 : j < W.length
      · rw [getD_app j2, fj j j2]
        have := h.near j j2 hi
        omega
      · obtain rfl : j = W.length := by omega
        rw [getD_last, fx]; omega
  · rw [getD_app hi, fj i hi, hv]
    rw [List.length_append, List.length_singleton] at hj
    by_cases j2 : j < W.length
    · rw [getD_app j2, fj j j2]
      have := h.near j j2 hi
      omega
    · obtain rfl : j = W.length := by omega
      rw [getD_last, fx]; omega
  · rcases List.mem_append.1 hz with q | q
    · obtain ⟨y, y1, y2, y3⟩ := h.back z q hzt
      exact ⟨y, y1, List.mem_append.2 (.inl y2), by rw [fW z q, fW y y2]; exact y3⟩
    · simp at q
      subst q
      exact ⟨W.getD i 0, hy, List.mem_append.2 (.inl hyW), by rw [fx, fj i hi, hv]⟩
  · have hjW : j < W.length := by omega
    rw [getD_app hjW] at hz ⊢
    obtain ⟨a, b⟩ := h.done j hj z z0 z1 hz
    exact ⟨List.mem_append.2 (.inl a), by rw [fW z a, fj j hjW]; exact b⟩
/-- The next one is gone through. -/
theorem Bfs.next {G : Gr} {tg : Int} {i : Nat} {W F : List Int} (h : Bfs G tg i W F) (hi : i < W.length) (hd : ∀ x, 1 ≤ x → x ≤ (G.obs.length : Int) → W.getD i 0 ∈ wayOf G x → x ∈ W) : Bfs G tg (i + 1) W F :=
  ⟨h.fl, h.nd, h.rng, h.mem, h.low, h.z, h.hd, h.tin, h.mono, fun j hj hi2 => by
    have a := h.near j hj hi
    have b := h.mono i (i + 1) (by omega) hi2
    omega, h.back, fun j hj x x0 x1 hx => by
    by_cases e : j < i
    · exact h.done j e x x0 x1 hx
    · obtain rfl : j = i := by omega
      have hm := hd x x0 x1 hx
      obtain ⟨k, hk, ek⟩ := List.mem_iff_getElem.1 hm
      have ek' : W.getD k 0 = x := by rw [List.getD_eq_getElem?_getD, List.getElem?_eq_getElem hk]; exact ek
      have := h.near k hk hi
      rw [ek'] at this
      exact ⟨hm, this⟩⟩
theorem Bfs.end {G : Gr} (R : Rng G) {tg : Int} {W F : List Int} (h : Bfs G tg W.length W F) : DistOk G tg F := by
  refine ⟨h.fl, h.z, h.hd, h.low, fun x x0 x1 hx hxt => ?_, fun x y x0 x1 hy y0 => ?_⟩
  · obtain ⟨y, y1, y2, y3⟩ := h.back x ((h.mem x x0 x1).1 hx) hxt
    have yr := h.rng y y2
    exact ⟨y, y1, (h.mem y yr.1 yr.2).2 y2, y3⟩
  · have yr := wayOf_rng R x0 x1 hy
    have yW := (h.mem y yr.1 yr.2).1 y0
    obtain ⟨k, hk, ek⟩ := List.mem_iff_getElem.1 yW
    have ek' : W.getD k 0 = y := by rw [List.getD_eq_getElem?_getD, List.getElem?_eq_getElem hk]; exact ek
    obtain ⟨a, b⟩ := h.done k hk x x0 x1 (by rw [ek']; exact hy)
    rw [ek'] at b
    exact ⟨(h.mem x x0 x1).2 a, b⟩
theorem Bfs.start {G : Gr} {tg : Int} (ht : 1 ≤ tg ∧ tg ≤ (G.obs.length : Int)) {F : List Int} (fl : F.length = G.obs.length + 1) (hF : ∀ x : Int, 0 ≤ x → x ≤ (G.obs.length : Int) → fa F x = if x = tg then 0 else -1) : Bfs G tg 0 [tg] F := by
  have e0 : fa F tg = 0 := by rw [hF tg (by omega) ht.2, if_pos rfl]
  refine ⟨fl, by simp, fun x hx => by simp at hx; subst hx; exact ht, fun x x0 x1 => ?_, fun x x0 x1 => ?_, ?_, e0, by simp, fun j k hjk hk => ?_, fun j hj _ => ?_, fun x hx hxt => ?_, fun j hj => by omega⟩
  · rw [hF x (by omega) x1]
    by_cases e : x = tg
    · simp [e]
    · simp [e]
  · rw [hF x (by omega) x1]; split <;> omega
  · rw [hF 0 (by omega) (by omega), if_neg (by omega)]
  · simp at hk; subst hk; obtain rfl : j = 0 := by omega
    exact Int.le_refl _
  · simp at hj; subst hj; omega
  · simp at hx; exact absurd hx hxt
theorem Bfs.len {G : Gr} {tg : Int} {i : Nat} {W F : List Int} (h : Bfs G tg i W F) : W.length ≤ G.obs.length := nodup_len h.nd h.rng
theorem Bfs.top {G : Gr} {tg : Int} {i : Nat} {W F : List Int} (h : Bfs G tg i W F) : ∀ x, 1 ≤ x → x ≤ (G.obs.length : Int) → fa F x ≤ W.length := by
  have key : ∀ n : Nat, n < W.length → fa F (W.getD n 0) ≤ n := by
    intro n
    induction n using Nat.strongRecOn with
    | _ n ih =>
      intro hn
      by_cases q : W.getD n 0 = tg
      · rw [q, h.hd]; omega
      · obtain ⟨y, y1, y2, y3⟩ := h.back _ (getD_mem 0 hn) q
        obtain ⟨k, hk, ek⟩ := List.mem_iff_getElem.1 y2
        have ek' : W.getD k 0 = y := by rw [List.getD_eq_getElem?_getD, List.getElem?_eq_getElem hk]; exact ek
        have hkn : k < n := by
          refine Classical.byContradiction fun c => ?_
          have := h.mono n k (by omega) hk
          rw [ek'] at this
          omega
        have := ih k hkn hk
        rw [ek'] at this
        omega
  intro x x0 x1
  by_cases q : 0 ≤ fa F x
  · obtain ⟨k, hk, ek⟩ := List.mem_iff_getElem.1 ((h.mem x x0 x1).1 q)
    have ek' : W.getD k 0 = x := by rw [List.getD_eq_getElem?_getD, List.getElem?_eq_getElem hk]; exact ek
    have := key k hk
    rw [ek'] at this
    omega
  · omega
end Go.Proofs.YtogpgkoelplknaaDoor
end
section
/- Lens: a list of lists of one's own, each in a block of its own. No condition. -/

namespace Go.Proofs.YtogpgkoelplknaaDoor
open Go.RowKit Go.BigFrame PLensPaths Go.Proofs.YtogpgkoelplknaaDoorW.PrintWords Go.Proofs.YtogpgkoelplknaaDoorW.PrintMore
set_option linter.unusedVariables false
abbrev nilS : Value := .slice none 0 0
theorem RI_other {w w1 : World} {b : Nat} {v : Value} {l : List Int} {row : Option Nat} (h : RI w b v l) (hg : w.grownBy w1 row) (hne : v.ownBlock = none ∨ v.ownBlock ≠ row) : RI w1 b v l :=
  Kd.R_of_own (own_other (Kd.own_of_R h) hg hne) (fun _ _ => trivial)
theorem RI_lt {w : World} {b : Nat} {v : Value} {l : List Int} (h : RI w b v l) : ∀ k, v.ownBlock = some k → b ≤ k ∧ k < w.heap.size := fun k hk => ⟨Kd.R_base h k hk, Kd.R_lt h k hk⟩
theorem RI_far {w : World} {b : Nat} {v : Value} {l : List Int} (h : RI w b v l) {p : Addr} (hne : v.ownBlock ≠ some p.block) (u : Value) : RI (w.setCell p u) b v l :=
  Kd.R_of_own (own_setCell (Kd.own_of_R h) (fun e => hne e.symm) u) (fun _ _ => trivial)
/-- ex: blocks that none of the rows is. -/
structure BkAt (w : World) (B gB n : Nat) (V : List Value) (L : List (List Int)) (ex : Nat → Prop) : Prop where
  out : w.heap[gB]? = some (.cells V.toArray 24 (0, 0))
  vl : V.length = n
  ll : L.length = n
  row : ∀ x, x < n → RI w B (V.getD x nilS) (L.getD x [])
  ne : ∀ x y, x < n → y < n → x ≠ y → ∀ k, (V.getD x nilS).ownBlock = some k → (V.getD y nilS).ownBlock ≠ some k
  ex : ∀ x, x < n → ∀ k, (V.getD x nilS).ownBlock = some k → ¬ ex k
  gb : B ≤ gB
theorem BkAt.other {w w1 : World} {B gB n : Nat} {V : List Value} {L : List (List Int)} {ex : Nat → Prop} {row : Option Nat} (h : BkAt w B gB n V L ex) (hg : w.grownBy w1 row) (hr : ∀ k, row = some k → ex k ∨ w.heap.size ≤ k) (hne : some gB ≠ row) : BkAt w1 B gB n V L ex :=
  ⟨blk_grown h.out hg hne, h.vl, h.ll, fun x hx => RI_other (h.row x hx) hg (by
    cases e : (V.getD x nilS).ownBlock with
    | none => exact .inl rfl
    | some k =>
      right
      intro q
      rcases hr k q.symm with q2 | q2
      · exact h.ex x hx k e q2
      · have := (RI_lt (h.row x hx) k e).2; omega), h.ne, h.ex, h.gb⟩
theorem BkAt.below {w w1 : World} {B gB n : Nat} {V : List Value} {L : List (List Int)} {ex : Nat → Prop} (h : BkAt w B gB n V L ex) (hb : Below w.heap.size w w1) : BkAt w1 B gB n V L ex :=
  h.other (grown_of_below hb none) (fun k e => by cases e) (by simp)
theorem BkAt.put {w : World} {B gB n : Nat} {V : List Value} {L : List (List Int)} {ex : Nat → Prop} (h : BkAt w B gB n V L ex) {p : Addr} (hp : ex p.block) (hne : gB ≠ p.block) (u : Value) : BkAt (w.setCell p u) B gB n V L ex :=
  ⟨blk_far h.out hne u, h.vl, h.ll, fun x hx => RI_far (h.row x hx) (fun e => h.ex x hx _ e hp) u, h.ne, h.ex, h.gb⟩
theorem BkAt.mono {w : World} {B gB n : Nat} {V : List Value} {L : List (List Int)} {ex ex' : Nat → Prop} (h : BkAt w B gB n V L ex) (hx : ∀ k, ex' k → ex k) : BkAt w B gB n V L ex' :=
  ⟨h.out, h.vl, h.ll, h.row, h.ne, fun x hx' k e q => h.ex x hx' k e (hx k q), h.gb⟩
/-- Blocks that are younger than all of them. -/
theorem BkAt.more {w : World} {B gB n : Nat} {V : List Value} {L : List (List Int)} {ex : Nat → Prop} (h : BkAt w B gB n V L ex) {ex' : Nat → Prop} (hx : ∀ k, ex' k → ex k ∨ w.heap.size ≤ k) : BkAt w B gB n V L ex' :=
  ⟨h.out, h.vl, h.ll, h.row, h.ne, fun x hx' k e q => by
    rcases hx k q with q2 | q2
    · exact h.ex x hx' k e q2
    · have := (RI_lt (h.row x hx') k e).2; omega, h.gb⟩
theorem getD_setV {V : List Value} {x y : Nat} {v : Value} (h : x < V.length) : (V.set x v).getD y nilS = if x = y then v else V.getD y nilS := by
  rw [List.getD_eq_getElem?_getD, List.getElem?_set]
  by_cases e : x = y
  · subst e; rw [if_pos rfl, if_pos rfl]; simp [h]
  · rw [if_neg e, if_neg e, ← List.getD_eq_getElem?_getD]
theorem getD_setL {L : List (List Int)} {x y : Nat} {v : List Int} (h : x < L.length) : (L.set x v).getD y [] = if x = y then v else L.getD y [] := by
  rw [List.getD_eq_getElem?_getD, List.getElem?_set]
  by_cases e : x = y
  · subst e; rw [if_pos rfl, if_pos rfl]; simp [h]
  · rw [if_neg e, if_neg e, ← List.getD_eq_getElem?_getD]
/-- An append to one of the rows, and the store behind it. -/
theorem BkAt.app {w w1 : World} {B gB n : Nat} {V : List Value} {L : List (List Int)} {ex : Nat → Prop} {x : Nat} {v1 : Value} {l1 : List Int} (h : BkAt w B gB n V L ex) (hx : x < n) (h1 : RI w1 B v1 l1) (hg : w.grownBy w1 (V.getD x nilS).ownBlock)
    (hat : v1.ownBlock = (V.getD x nilS).ownBlock ∨ ∃ b, v1.ownBlock = some b ∧ w.heap.size ≤ b) (hex : ∀ k, ex k → k < w.heap.size) :
    BkAt (w1.setCell ⟨gB, x, none⟩ v1) B gB n (V.set x v1) (L.set x l1) ex := by
  have hVl := h.vl
  have hLl := h.ll
  have o1 := blk_grown h.out hg (Kd.R_ne (h.row x hx) h.out (by decide))
  have nw : ∀ y, y < n → y ≠ x → ∀ k, v1.ownBlock = some k → (V.getD y nilS).ownBlock ≠ some k := fun y hy hyx k hk q => by
    rcases hat with e | ⟨b, e, hb⟩
    · rw [e] at hk
      exact h.ne x y hx hy (fun c => hyx c.symm) k hk q
    · rw [e] at hk
      cases hk
      have := (RI_lt (h.row y hy) _ q).2
      omega
  refine ⟨?_, by simpa using hVl, by simpa using hLl, fun y hy => ?_, fun y z hy hz hyz k hk => ?_, fun y hy k hk => ?_, h.gb⟩
  · rw [blk_set o1 x v1]; simp
  · rw [getD_setV (by omega), getD_setL (by omega)]
    by_cases e : x = y
    · rw [if_pos e, if_pos e]
      exact Kd.R_set h1 o1 (by decide) x v1
    · rw [if_neg e, if_neg e]
      refine Kd.R_set (RI_other (h.row y hy) hg ?_) o1 (by decide) x v1
      cases q : (V.getD y nilS).ownBlock with
      | none => exact .inl rfl
      | some k => right; intro c; exact h.ne y x hy hx (fun c => e c.symm) k q c.symm
  · rw [getD_setV (by omega)] at hk ⊢
    by_cases e : x = y
    · rw [if_pos e] at hk
      rw [if_neg (by omega)]
      exact nw z hz (by omega) k hk
    · rw [if_neg e] at hk
      by_cases e2 : x = z
      · rw [if_pos e2]
        exact fun q => nw y hy (fun c => e c.symm) k q hk
      · rw [if_neg e2]
        exact h.ne y z hy hz hyz k hk
  · rw [getD_setV (by omega)] at hk
    by_cases e : x = y
    · rw [if_pos e] at hk
      rcases hat with q | ⟨b, q, hb⟩
      · rw [q] at hk
        exact h.ex x hx k hk
      · rw [q] at hk
        cases hk
        exact fun c => by have := hex _ c; omega
    · rw [if_neg e] at hk
      exact h.ex y hy k hk
theorem infoS : (Tryd.prog.info? 24).map (fun i => (i.zero, i.size, i.bytes)) = some (some nilS, 1, 24) := by kernel_rfl
section
variable {ops : Array Oper} {rest : List Oper} {o : Oper} {a : Act} {Q : Exit → Act → World → Prop}
/-- make([][]int, n). -/
theorem make_rows {w0 W : World} (base : Nat) (hgd : o.guard = none) {N : Tmp} (hd : o.dst = some N) (x y : Operand) (ho : o.op = .makeSlice 30 x y) (n : Nat) (hx : a.eval x = .int .i64 n) (hy : a.eval y = .int .i64 n) (hl : n ≤ 1099511627) (HB : Below base w0 W) (hbase : base ≤ W.heap.size)
    (h : ∀ gB w1, BkAt w1 base gB n (List.replicate n nilS) (List.replicate n []) (fun _ => True) → Below base w0 w1 → W.grownBy w1 none → gB < w1.heap.size → W.heap.size ≤ gB → wpList Tryd.prog ops Q rest (a.put o.dst (.slice (some ⟨gB, 0, none⟩) n n)) w1) : wpList Tryd.prog ops Q (o :: rest) a W := by
  obtain ⟨i0, hi, hz0, hz1, hz2⟩ := info_parts infoS
  have hr := run_make (P := Tryd.prog) W 30 24 i0 nilS Tryd.underlying30 hi hz0 .i64 .i64 (n : Int) (n : Int) (by omega) (by omega) (by rw [hz2]; omega) (by omega)
  simp only [Int.toNat_natCast] at hr
  rw [hz1, Nat.mul_one] at hr
  refine Kd.event_run hgd (w1 := W.alloc (.cells (madeCells nilS.cells n) 24)) (v := .slice (some ⟨W.heap.size, 0, none⟩) n n) ?_ ?_
  · simp [execOp, ho, hx, hy, hr]
  · have hX := blk_new W (.cells (madeCells nilS.cells n) 24 (0, 0))
    have e : madeCells nilS.cells n = (List.replicate n nilS).toArray := by
      have : nilS.cells = #[nilS] := rfl
      rw [this, ← toList_madeCells_one]
    have rl : ∀ k, (List.replicate n nilS).getD k nilS = nilS := fun k => by
      rw [List.getD_eq_getElem?_getD, List.getElem?_replicate]; split <;> rfl
    have rl2 : ∀ k, (List.replicate n ([] : List Int)).getD k [] = [] := fun k => by
      rw [List.getD_eq_getElem?_getD, List.getElem?_replicate]; split <;> rfl
    refine h W.heap.size _ ⟨by rw [← e]; exact hX, by simp, by simp, fun x hx => ?_, fun x y hx hy hxy k hk => ?_, fun x hx k hk => ?_, hbase⟩ (HB.alloc hbase _) (World.grownBy_alloc W _ none) (blk_lt hX) (Nat.le_refl _)
    · rw [rl, rl2]; exact RI_nil _ _
    · rw [rl] at hk; simp [Value.ownBlock] at hk
    · rw [rl] at hk; simp [Value.ownBlock] at hk
/-- make([]int, n). -/
theorem make_ints {w0 W : World} (base : Nat) (hgd : o.guard = none) {N : Tmp} (hd : o.dst = some N) (x y : Operand) (ho : o.op = .makeSlice 24 x y) (n : Nat) (hx : a.eval x = .int .i64 n) (hy : a.eval y = .int .i64 n) (hl : n ≤ 1099511627776) (HB : Below base w0 W) (hbase : base ≤ W.heap.size)
    (h : ∀ v1 w1, RI w1 base v1 (List.replicate n 0) → Below base w0 w1 → W.grownBy w1 none → (∃ b, v1.ownBlock = some b ∧ W.heap.size ≤ b) → wpList Tryd.prog ops Q rest (a.put o.dst v1) w1) : wpList Tryd.prog ops Q (o :: rest) a W :=
  Kd.R_make (Kd.int .i64) base 3 hgd hd 24 x y ho (n : Int) hx hy Tryd.underlying24 (.int .i64 0) 8 infoI rfl (by decide) (by omega) 0 (okp := fun _ => False) (ok := All) rfl (fun _ h => h.elim) trivial (by omega) (by simp; omega) HB hbase (by simpa using h)
end
end Go.Proofs.YtogpgkoelplknaaDoor
end
section
/- middenroom: what a room holds, what a call on it leaves alone. No condition. -/

namespace Go.Proofs.YtogpgkoelplknaaDoor
open Go.RowKit Go.BigFrame PLensPaths Go.Proofs.YtogpgkoelplknaaDoorW.PrintWords Go.Proofs.YtogpgkoelplknaaDoorW.PrintMore
set_option linter.unusedVariables false
/-- A slice that begins where a row of one's own begins, and ends within it. -/
def Sub {α : Type} (v full : Value) (xs fl : List α) : Prop := ∃ m, m ≤ fl.length ∧ xs = fl.take m ∧ ∃ A c cf, full = .slice A fl.length cf ∧ v = .slice A xs.length c ∧ xs.length ≤ c
/-- The same reading as a slice's; made: a part of a row of one's own. -/
def kSub {α : Type} (e : Nat) (d : Kd α) : Kd (List α) where
  sz := 1
  E := e :: d.E
  K := fun w xs cs => ∃ A c, cs = [.slice A xs.length c] ∧ xs.length ≤ c ∧ d.C w A xs.length xs
  M := fun w base ok xs cs => ∃ v full fl, cs = [v] ∧ d.R e w base ok full fl ∧ Sub v full xs fl
  K_len := (Kd.slice e d).K_len
  K_one := (Kd.slice e d).K_one
  K_below := (Kd.slice e d).K_below
  K_of_M := by
    rintro w base ok x cs ⟨v, full, fl, rfl, h, m, hm, rfl, A, c, cf, rfl, rfl, hc⟩
    obtain ⟨A', c', he, hl, hr⟩ := Kd.R_reads h
    cases he
    exact ⟨A, c, rfl, hc, Kd.C_take hr hm⟩
  M_mono := by
    rintro w base ok ok' x cs hok ⟨v, full, fl, e, h, s⟩
    exact ⟨v, full, fl, e, Kd.R_mono h hok, s⟩
  M_bound := by
    rintro w base ok x cs ⟨v, full, fl, e, h, s⟩
    exact ⟨v, full, fl, e, Kd.R_bound h, s⟩
  M_move := by
    rintro w w1 base ok x cs hm ⟨v, full, fl, e, h, s⟩
    exact ⟨v, full, fl, e, Kd.R_move h hm, s⟩
  M_lower := by
    rintro w base base' ok x cs hb ⟨v, full, fl, e, h, s⟩
    exact ⟨v, full, fl, e, Kd.R_lower h hb, s⟩
theorem Sub.all {α : Type} {d : Kd α} {e : Nat} {w : World} {base : Nat} {ok : Nat → Prop} {v : Value} {xs : List α} (h : d.R e w base ok v xs) : (kSub e d).M w base ok xs [v] := by
  obtain ⟨A, c, rfl, hl, _⟩ := Kd.R_reads h
  exact ⟨_, _, xs, rfl, h, xs.length, Nat.le_refl _, by simp, A, c, c, rfl, rfl, hl⟩
theorem Sub.pre {α : Type} {d : Kd α} {e : Nat} {w : World} {base : Nat} {ok : Nat → Prop} {A : Option Addr} {cf c : Nat} {xs ys : List α} (h : d.R e w base ok (.slice A (xs ++ ys).length cf) (xs ++ ys)) (hc : xs.length ≤ c) : (kSub e d).M w base ok xs [.slice A xs.length c] :=
  ⟨_, _, xs ++ ys, rfl, h, xs.length, by simp, by simp, A, c, cf, rfl, rfl, hc⟩
abbrev kS1 : Kd (List Int) := kSub 3 (Kd.int .i64)
abbrev kSW : Kd (List Int) := kSub 25 (Kd.int .u64)
abbrev kS2 : Kd (List (List Int)) := kSub 24 kS1
abbrev kS3 : Kd (List (List (List Int))) := kSub 30 kS2
abbrev kObS : Kd Ob := Kd.iso (Kd.pair (Kd.int .u64) (Kd.pair (Kd.int .i64) (Kd.pair (Kd.int .i64) (Kd.pair kS1 kSW)))) (fun x : Ob => (x.f0, x.f1, x.f2, x.f3, x.f4))
abbrev kSO : Kd (List Ob) := kSub 59 kObS
theorem C_kS1 {w : World} {A : Option Addr} {n : Nat} {xs : List (List Int)} (h : Kd.C kS1 w A n xs) : Kd.C kInts w A n xs := h
theorem C_kS2 {w : World} {A : Option Addr} {n : Nat} {xs : List (List (List Int))} (h : Kd.C kS2 w A n xs) : Kd.C kFrames w A n xs := h
theorem C_kObS {w : World} {A : Option Addr} {n : Nat} {xs : List Ob} (h : Kd.C kObS w A n xs) : Kd.C kOb w A n xs := h
theorem kObS_mkM {w : World} {base : Nat} {ok : Nat → Prop} (x : Ob) {v3 v4 : Value} (g3 : kS1.M w base ok x.f3 [v3]) (g4 : kSW.M w base ok x.f4 [v4]) : kObS.M w base ok x [.int .u64 x.f0, .int .i64 x.f1, .int .i64 x.f2, v3, v4] :=
  ⟨[.int .u64 x.f0], [.int .i64 x.f1, .int .i64 x.f2, v3, v4], rfl, rfl, [.int .i64 x.f1], [.int .i64 x.f2, v3, v4], rfl, rfl, [.int .i64 x.f2], [v3, v4], rfl, rfl, [v3], [v4], rfl, g3, g4⟩
/-- The marks behind. -/
def mk1 : List Int := (List.replicate 20 [-7701, -7702]).flatten
def mkW : List Int := (List.replicate 20 [7701, 7702]).flatten
def mk2 : List (List Int) := (List.replicate 4 [[-7701], [-7702]]).flatten
def mk3 : List (List (List Int)) := (List.replicate 4 [[[-7701]], [[-7702]]]).flatten
def obM (k : Int) : Ob := ⟨0, k, 0, [], []⟩
def mkO : List Ob := (List.replicate 4 [obM (-7701), obM (-7702)]).flatten
def Ends {α : Type} (mk L : List α) : Prop := ∃ l, L = l ++ mk
def Rwk {α : Type} (d : Kd α) (e : Nat) (mk : List α) (t : Nat) (w : World) (B : Nat) (ok : Nat → Prop) (v : Value) (N : Nat) : Prop := ∃ xs : List (List α), (kSub e d).R t w B ok v xs ∧ xs.length ≤ N ∧ ∀ L ∈ xs, Ends mk L
/-- The five rows of a room that graphs are copied by. -/
def Rw : Nat → World → Nat → (Nat → Prop) → Value → Nat → Prop
  | 0 => Rwk (Kd.int .i64) 3 mk1 24
  | 1 => Rwk (Kd.int .u64) 25 mkW 57
  | 2 => Rwk kS1 24 mk2 30
  | 3 => Rwk kS2 30 mk3 23
  | _ => Rwk kObS 59 mkO 22
section
variable {α : Type} {d : Kd α} {e : Nat} {mk : List α} {t : Nat} {w w1 : World} {B : Nat} {ok ok' : Nat → Prop} {v : Value} {N N' : Nat}
theorem Rwk.step (h : Rwk d e mk t w B ok v N) (hm : ∀ k, ok k → k < w.heap.size → w1.heap[k]? = w.heap[k]?) (hok : ∀ k, ok k → k < w.heap.size → ok' k) (hN : N ≤ N') : Rwk d e mk t w1 B ok' v N' := by
  obtain ⟨xs, hR, hl, hE⟩ := h
  exact ⟨xs, Kd.R_mono (Kd.R_step (Kd.R_bound hR) (fun k hk hlt => hm k hk.1 hlt)) (fun k hk => hok k hk.1 hk.2.2.1), by omega, hE⟩
theorem Rwk.own (h : Rwk d e mk t w B ok v N) : ∀ k, v.ownBlock = some k → ok k ∧ B ≤ k ∧ k < w.heap.size := by
  obtain ⟨xs, hR, hl, hE⟩ := h
  exact fun k hk => ⟨hR.1 k hk, Kd.R_base hR k hk, Kd.R_lt hR k hk⟩
end
theorem Rw.step {i : Nat} {w w1 : World} {B : Nat} {ok ok' : Nat → Prop} {v : Value} {N N' : Nat} (h : Rw i w B ok v N) (hm : ∀ k, ok k → k < w.heap.size → w1.heap[k]? = w.heap[k]?) (hok : ∀ k, ok k → k < w.heap.size → ok' k) (hN : N ≤ N') : Rw i w1 B ok' v N' :=
  match i, h with
  | 0, h => Rwk.step h hm hok hN
  | 1, h => Rwk.step h hm hok hN
  | 2, h => Rwk.step h hm hok hN
  | 3, h => Rwk.step h hm hok hN
  | _ + 4, h => Rwk.step h hm hok hN
theorem Rw.own {i : Nat} {w : World} {B : Nat} {ok : Nat → Prop} {v : Value} {N : Nat} (h : Rw i w B ok v N) : ∀ k, v.ownBlock = some k → ok k ∧ B ≤ k ∧ k < w.heap.size :=
  match i, h with
  | 0, h => Rwk.own h
  | 1, h => Rwk.own h
  | 2, h => Rwk.own h
  | 3, h => Rwk.own h
  | _ + 4, h => Rwk.own h
/-- All but these stands. -/
structure Keeps (w w' : World) (X : Nat → Prop) : Prop where
  size : w.heap.size ≤ w'.heap.size
  blk : ∀ k, k < w.heap.size → ¬ X k → w'.heap[k]? = w.heap[k]?
theorem Keeps.refl (w : World) (X : Nat → Prop) : Keeps w w X := ⟨Nat.le_refl _, fun _ _ _ => rfl⟩
theorem Keeps.below {w w' : World} {X : Nat → Prop} (h : Below w.heap.size w w') : Keeps w w' X := ⟨h.size, fun k hk _ => h.block k hk⟩
theorem Keeps.trans {w w1 w2 : World} {X X1 : Nat → Prop} (h : Keeps w w1 X) (k : Keeps w1 w2 X1) (hX : ∀ k, X1 k → X k ∨ w.heap.size ≤ k) : Keeps w w2 X :=
  ⟨Nat.le_trans h.size k.size, fun j hj hn => (k.blk j (Nat.lt_of_lt_of_le hj h.size) (fun c => by
    rcases hX j c with q | q
    · exact hn q
    · omega)).trans (h.blk j hj hn)⟩
theorem Keeps.grown {w w' : World} {X : Nat → Prop} {row : Option Nat} (h : w.grownBy w' row) (hr : ∀ k, row = some k → X k) : Keeps w w' X :=
  ⟨h.size, fun k hk hn => h.block k hk (fun e => hn (hr k e.symm))⟩
theorem Keeps.set {w w' : World} {X : Nat → Prop} (h : Keeps w w' X) {p : Addr} (hp : X p.block ∨ w.heap.size ≤ p.block) (u : Value) : Keeps w (w'.setCell p u) X :=
  ⟨by simpa [World.setCell] using h.size, fun k hk hn => (Below.heap_setCell w' p u k (fun e => by
    subst e
    rcases hp with q | q
    · exact hn q
    · omega)).trans (h.blk k hk hn)⟩
/-- The blocks that a room's calls write. -/
def XV (V : Nat → Value) (r k : Nat) : Prop := k = r ∨ ∃ j, j < 5 ∧ (V j).ownBlock = some k
def Ot (ex : Nat → Prop) (V : Nat → Value) (r i k : Nat) : Prop := ¬ ex k ∧ k ≠ r ∧ ∀ j, j < 5 → j ≠ i → (V j).ownBlock ≠ some k
/-- A room at r. ex: blocks that it has nothing of. -/
structure RoomAt (w : World) (B r : Nat) (V : Nat → Value) (N : Nat) (ex : Nat → Prop) : Prop where
  box : w.heap[r]? = some (.cells #[nilS, V 0, V 1, nilS, nilS, V 2, V 3, V 4] 37 (0, 0))
  rb : B ≤ r
  rx : ¬ ex r
  row : ∀ i, i < 5 → Rw i w B (Ot ex V r i) (V i) N
section
variable {w w1 : World} {B r : Nat} {V : Nat → Value} {N N' : Nat} {ex ex' : Nat → Prop}
theorem RoomAt.lt (h : RoomAt w B r V N ex) : ∀ k, XV V r k → B ≤ k ∧ k < w.heap.size := by
  rintro k (rfl | ⟨j, hj, e⟩)
  · exact ⟨h.rb, blk_lt h.box⟩
  · exact ((h.row j hj).own k e).2
theorem RoomAt.not (h : RoomAt w B r V N ex) : ∀ k, XV V r k → ¬ ex k := by
  rintro k (rfl | ⟨j, hj, e⟩)
  · exact h.rx
  · exact ((h.row j hj).own k e).1.1
theorem RoomAt.step (h : RoomAt w B r V N ex) (hm : ∀ k, ¬ ex k → k < w.heap.size → w1.heap[k]? = w.heap[k]?) (hx : ∀ k, ex' k → ex k ∨ w.heap.size ≤ k) (hN : N ≤ N') : RoomAt w1 B r V N' ex' :=
  ⟨(hm r h.rx (blk_lt h.box)).trans h.box, h.rb, fun c => by
    rcases hx r c with q | q
    · exact h.rx q
    · have := blk_lt h.box; omega, fun i hi => (h.row i hi).step (fun k hk hlt => hm k hk.1 hlt) (fun k hk hlt => ⟨fun c => by
      rcases hx k c with q | q
      · exact hk.1 q
      · omega, hk.2⟩) hN⟩
theorem RoomAt.below (h : RoomAt w B r V N ex) (hb : Below w.heap.size w w1) : RoomAt w1 B r V N ex :=
  h.step (fun k _ hk => hb.block k hk) (fun k hk => .inl hk) (Nat.le_refl _)
def ps (i : Nat) : Nat := if i = 0 then 1 else if i = 1 then 2 else i + 3
def upd (V : Nat → Value) (i : Nat) (v : Value) (j : Nat) : Value := if j = i then v else V j
/-- An append to one of the rows, and the store behind it. -/
theorem RoomAt.app {i : Nat} {v1 : Value} (h : RoomAt w B r V N ex) (hi : i < 5) (h1 : Rw i w1 B (Ot ex V r i) v1 N') (hg : w.grownBy w1 (V i).ownBlock) (hat : v1.ownBlock = (V i).ownBlock ∨ ∃ b, v1.ownBlock = some b ∧ w.heap.size ≤ b) (hN : N ≤ N') :
    RoomAt (w1.setCell ⟨r, ps i, none⟩ v1) B r (upd V i v1) N' ex := by
  have hne : some r ≠ (V i).ownBlock := fun e => ((h.row i hi).own r e.symm).1.2.1 rfl
  have hb := blk_grown h.box hg hne
  refine ⟨?_, h.rb, h.rx, fun j hj => ?_⟩
  · rw [blk_set hb (ps i) v1]
    match i, hi with
    | 0, _ => rfl
    | 1, _ => rfl
    | 2, _ => rfl
    | 3, _ => rfl
    | 4, _ => rfl
  · by_cases e : j = i
    · subst e
      have eu : upd V j v1 j = v1 := by simp [upd]
      rw [eu]
      refine h1.step (fun k hk _ => Below.heap_setCell w1 _ v1 k hk.2.1) (fun k hk _ => ⟨hk.1, hk.2.1, fun l hl hlj => ?_⟩) (Nat.le_refl _)
      rw [upd, if_neg hlj]
      exact hk.2.2 l hl hlj
    · have eu : upd V i v1 j = V j := by simp [upd, e]
      rw [eu]
      refine (h.row j hj).step (fun k hk hlt => (Below.heap_setCell w1 _ v1 k hk.2.1).trans (hg.block k hlt (fun c => hk.2.2 i hi (fun q => e q.symm) c.symm))) (fun k hk hlt => ⟨hk.1, hk.2.1, fun l hl hlj => ?_⟩) hN
      unfold upd
      split
      · intro c
        rcases hat with q | ⟨b, q, hle⟩
        · rw [q] at c
          exact hk.2.2 i hi (fun q => e q.symm) c
        · rw [q] at c
          cases c
          omega
      · exact hk.2.2 l hl hlj
end
/-- What a call on a room has done. -/
structure Went (w w' : World) (B r : Nat) (V V' : Nat → Value) (N : Nat) (ex : Nat → Prop) : Prop where
  room : RoomAt w' B r V' N ex
  keep : Keeps w w' (XV V r)
  ext : ∀ k, XV V' r k → XV V r k ∨ w.heap.size ≤ k
  bel : Below B w w'
theorem Went.refl {w : World} {B r : Nat} {V : Nat → Value} {N : Nat} {ex : Nat → Prop} (h : RoomAt w B r V N ex) : Went w w B r V V N ex := ⟨h, Keeps.refl _ _, fun _ h => .inl h, Below.refl _ _⟩
theorem Went.trans {w w1 w2 : World} {B r : Nat} {V V1 V2 : Nat → Value} {N N1 : Nat} {ex ex1 : Nat → Prop} (h : Went w w1 B r V V1 N1 ex1) (k : Went w1 w2 B r V1 V2 N ex) : Went w w2 B r V V2 N ex :=
  ⟨k.room, h.keep.trans k.keep h.ext, fun j hj => by
    rcases k.ext j hj with q | q
    · exact h.ext j q
    · exact .inr (Nat.le_trans h.keep.size q), h.bel.trans k.bel⟩
theorem upd_ext {V : Nat → Value} {i r n : Nat} {v1 : Value} (hi : i < 5) (hat : v1.ownBlock = (V i).ownBlock ∨ ∃ b, v1.ownBlock = some b ∧ n ≤ b) : ∀ k, XV (upd V i v1) r k → XV V r k ∨ n ≤ k := by
  rintro k (rfl | ⟨j, hj, e⟩)
  · exact .inl (.inl rfl)
  · unfold upd at e
    split at e
    · rcases hat with q | ⟨b, q, hle⟩
      · exact .inl (.inr ⟨i, hi, by rw [← q]; exact e⟩)
      · rw [q] at e
        cases e
        exact .inr hle
    · exact .inl (.inr ⟨j, hj, e⟩)
/-- What is not the room's stays. -/
theorem Went.R {α : Type} {d : Kd α} {e : Nat} {w w' : World} {B r b : Nat} {V V' : Nat → Value} {N : Nat} {ex : Nat → Prop} {v : Value} {xs : List α} (h : Went w w' B r V V' N ex) (hR : d.R e w b (fun k => ¬ XV V r k) v xs) : d.R e w' b (fun k => ¬ XV V' r k) v xs :=
  Kd.R_mono (Kd.R_step (Kd.R_bound hR) (fun k hk hlt => h.keep.blk k hlt hk.1)) (fun k hk c => by
    rcases h.ext k c with q | q
    · exact hk.1 q
    · have := hk.2.2.1; omega)
theorem Went.M {α : Type} {d : Kd α} {w w' : World} {B r b : Nat} {V V' : Nat → Value} {N : Nat} {ex : Nat → Prop} {x : α} {cs : List Value} (h : Went w w' B r V V' N ex) (hM : d.M w b (fun k => ¬ XV V r k) x cs) : d.M w' b (fun k => ¬ XV V' r k) x cs :=
  d.M_mono (fun k hk c => by
    rcases h.ext k c with q | q
    · exact hk.1 q
    · have := hk.2.2.1; omega) (Kd.M_step (d.M_bound hM) (fun k hk hlt => h.keep.blk k hlt hk.1))
end Go.Proofs.YtogpgkoelplknaaDoor
end
section
/- middenroom: appends of one and of two; Ints. No condition. -/

namespace Go.Proofs.YtogpgkoelplknaaDoor
open Go.RowKit Go.BigFrame PLensPaths Go.Proofs.YtogpgkoelplknaaDoorW.PrintWords Go.Proofs.YtogpgkoelplknaaDoorW.PrintMore
set_option linter.unusedVariables false
theorem grown_after {w w1 w2 : World} {row : Option Nat} (h : Below w.heap.size w w1) (k : w1.grownBy w2 row) : w.grownBy w2 row :=
  ⟨k.os.trans h.os, k.tape.trans h.tape, k.output.trans h.output, Nat.le_trans h.size k.size, fun j hj hn => (k.block j (Nat.lt_of_lt_of_le hj h.size) hn).trans (h.block j hj)⟩
section
variable {P : Program} {ops : Array Oper} {rest : List Oper} {o : Oper} {a : Act} {Q : Exit → Act → World → Prop} {α : Type}
theorem R_empty (d : Kd α) (e : Nat) {W : World} {base : Nat} {ok : Nat → Prop} (hok : ok W.heap.size) (hb : base ≤ W.heap.size) : d.R e (W.alloc (.cells #[] e)) base ok (.slice (some ⟨W.heap.size, 0, none⟩) 0 0) [] :=
  ⟨fun k hk => by simp [Value.ownBlock] at hk; subst hk; exact hok, [], ⟨by simp, .inr ⟨W.heap.size, 0, #[], rfl, hb, blk_new W _, Nat.le_refl _, by simp, by simp, by simp⟩⟩, Reps.none _ _⟩
/-- append(v, x), x a value of one cell. -/
theorem R_append1 (d : Kd α) {w0 W : World} (base : Nat) (hgd : o.guard = none) (s x : Operand) (t e : TypeId) (z : Value) (bytes : Nat)
    (ho : o.op = .call { callee := .builtin .append, args := #[s, x], argTypes := #[t, t] })
    (ht : P.underlying t = some (.slice e)) (hinfo : (P.info? e).map (fun i => (i.zero, i.size, i.bytes)) = some (some z, d.sz, bytes)) (hz : z.cells.size = d.sz) (hs0 : 0 < d.sz) (hb0 : 0 < bytes)
    (v : Value) (xs : List α) (p : α) (u : Value) (ok okp : Nat → Prop) (hs : a.eval s = v) (hx : a.eval x = .slice (some ⟨W.heap.size, 0, none⟩) 1 1) (hp : d.M W base okp p [u]) (hokp : ∀ k, okp k → ok k ∧ some k ≠ v.ownBlock) (hfresh : ∀ k, W.heap.size ≤ k → ok k)
    (HO : d.R e W base ok v xs) (HB : Below base w0 W) (hbase : base ≤ W.heap.size) (hl : (xs.length + 1) * bytes ≤ 140737488355328)
    (h : ∀ v1 w1, d.R e w1 base ok v1 (xs ++ [p]) → Below base w0 w1 → W.grownBy w1 v.ownBlock → (v1.ownBlock = v.ownBlock ∨ ∃ b, v1.ownBlock = some b ∧ W.heap.size ≤ b) → wpList P ops Q rest (a.put o.dst v1) w1) :
    wpList P ops Q (o :: rest) a (W.alloc (.cells #[u] e)) :=
  Kd.R_append d base hgd s x t e z bytes ho ht hinfo hz hs0 hb0 v xs p [u] ok okp hs hx hp hokp hfresh HO HB hbase hl h
/-- append(v, x, y), behind at_builtin. -/
theorem R_append2 (d : Kd α) {w0 W : World} (base : Nat) (hgd : o.guard = none) (s x : Operand) (t e : TypeId) (z : Value) (bytes : Nat)
    (ho : o.op = .call { callee := .builtin .append, args := #[s, x], argTypes := #[t, t] })
    (ht : P.underlying t = some (.slice e)) (hinfo : (P.info? e).map (fun i => (i.zero, i.size, i.bytes)) = some (some z, d.sz, bytes)) (hz : z.cells.size = d.sz) (hs0 : 0 < d.sz) (hb0 : 0 < bytes)
    (v : Value) (xs : List α) (p q : α) (c1 c2 : List Value) (ok okp : Nat → Prop) (hs : a.eval s = v) (hx : a.eval x = .slice (some ⟨W.heap.size, 0, none⟩) 2 2) (hp : d.M W base okp p c1) (hq : d.M W base okp q c2) (hokp : ∀ k, okp k → ok k ∧ some k ≠ v.ownBlock) (hfresh : ∀ k, W.heap.size ≤ k → ok k)
    (HO : d.R e W base ok v xs) (HB : Below base w0 W) (hbase : base ≤ W.heap.size) (hl : (xs.length + 2) * bytes ≤ 140737488355328)
    (h : ∀ v1 w1, d.R e w1 base ok v1 (xs ++ [p, q]) → Below base w0 w1 → W.grownBy w1 v.ownBlock → (v1.ownBlock = v.ownBlock ∨ ∃ b, v1.ownBlock = some b ∧ W.heap.size ≤ b) → wpList P ops Q rest (a.put o.dst v1) w1) :
    wpList P ops Q (o :: rest) a (W.alloc (.cells (c1 ++ c2).toArray e)) := by
  have hb1 := (Below.refl W.heap.size W).alloc (Nat.le_refl _) (.cells (c1 ++ c2).toArray e)
  have hX := blk_new W (.cells (c1 ++ c2).toArray e (0, 0))
  have l1 := d.K_len (d.K_of_M hp)
  have l2 := d.K_len (d.K_of_M hq)
  have hc := (blk_at hX).1
  refine Kd.R_append_rows d (Rr := d.M (W.alloc (.cells (c1 ++ c2).toArray e)) base okp) (w0 := w0) base hgd s x t e z bytes ho ht hinfo hz hs0 hb0 v xs [p, q] _ 2 2 ok okp hs hx (Kd.R_below HO hb1) ⟨rfl, by omega, fun _ => ⟨_, rfl, fun j u hj => ?_⟩⟩ (fun _ _ h => h) hokp (fun k hk => hfresh k (Nat.le_trans hb1.size hk)) (HB.alloc hbase _) (Nat.le_trans hbase hb1.size) hl (fun v1 w1 hR hb hg hat => h v1 w1 hR hb (grown_after hb1 hg) ?_)
  · match j, hj with
    | 0, hj =>
      cases hj
      refine ⟨c1, l1, Kd.M_below hp hb1, fun i u hu => ?_⟩
      rw [add_plain, hc, Nat.zero_mul, Nat.zero_add, List.getElem?_toArray, List.getElem?_append_left (List.getElem?_eq_some_iff.1 hu).1]
      exact hu
    | 1, hj =>
      cases hj
      refine ⟨c2, l2, Kd.M_below hq hb1, fun i u hu => ?_⟩
      rw [add_plain, hc, Nat.one_mul, ← l1, List.getElem?_toArray, List.getElem?_append_right (by omega), Nat.add_sub_cancel_left]
      exact hu
  · rcases hat with q | ⟨b, q, hle⟩
    · exact .inl q
    · exact .inr ⟨b, q, Nat.le_trans hb1.size hle⟩
end
theorem take2 {α : Type} (mk : List α) (i : Nat) (z : α) (h : i + 1 < mk.length) : mk.take (i + 2) = mk.take i ++ [mk.getD i z, mk.getD (i + 1) z] := by
  rw [List.take_succ_eq_append_getElem (by omega), List.take_succ_eq_append_getElem (by omega), List.append_assoc, List.getD_eq_getElem?_getD, List.getD_eq_getElem?_getD, List.getElem?_eq_getElem (by omega), List.getElem?_eq_getElem (by omega)]
  rfl
theorem mk1_two : ∀ j, j < 20 → mk1.getD (2 * j) 0 = -7701 ∧ mk1.getD (2 * j + 1) 0 = -7702 := by decide
theorem mkW_two : ∀ j, j < 20 → mkW.getD (2 * j) 0 = 7701 ∧ mkW.getD (2 * j + 1) 0 = 7702 := by decide
theorem Went.below {w w1 : World} {B r : Nat} {V : Nat → Value} {N : Nat} {ex : Nat → Prop} (h : RoomAt w B r V N ex) (hb : Below w.heap.size w w1) (hB : B ≤ w.heap.size) : Went w w1 B r V V N ex := ⟨h.below hb, Keeps.below hb, fun _ h => .inl h, hb.mono hB⟩
theorem Went.less {w w1 : World} {B r : Nat} {V V1 : Nat → Value} {N N' : Nat} {ex ex' : Nat → Prop} (h : Went w w1 B r V V1 N ex) (hx : ∀ k, ex' k → ex k) (hN : N ≤ N') : Went w w1 B r V V1 N' ex' := ⟨h.room.step (fun _ _ _ => rfl) (fun k hk => .inl (hx k hk)) hN, h.keep, h.ext, h.bel⟩
theorem ot_of {ex : Nat → Prop} {V : Nat → Value} {r i k : Nat} (hk : ¬ XV V r k) (he : ¬ ex k) (hi : i < 5) : Ot ex V r i k ∧ some k ≠ (V i).ownBlock := ⟨⟨he, fun c => hk (.inl c), fun j hj _ c => hk (.inr ⟨j, hj, c⟩)⟩, fun c => hk (.inr ⟨i, hi, c.symm⟩)⟩
theorem RoomAt.fresh {w : World} {B r : Nat} {V : Nat → Value} {N : Nat} {ex : Nat → Prop} (h : RoomAt w B r V N ex) {k : Nat} (hk : w.heap.size ≤ k) : ¬ XV V r k := fun c => by have := (h.lt k c).2; omega
/-- A full list laid into its row. -/
theorem room_end {α : Type} {d : Kd α} {e : Nat} {w wr w1 : World} {B r i : Nat} {V V1 : Nat → Value} {N N' : Nat} {ex : Nat → Prop} {full v1 : Value} {fl : List α} (W0 : Went w wr B r V V1 N ex) (hB : B ≤ w.heap.size) (hi : i < 5)
    (hf : d.R e wr w.heap.size (fun k => ¬ XV V1 r k) full fl) (h1 : Rw i w1 B (Ot ex V1 r i) v1 N') (hg : wr.grownBy w1 (V1 i).ownBlock) (hat : v1.ownBlock = (V1 i).ownBlock ∨ ∃ b, v1.ownBlock = some b ∧ wr.heap.size ≤ b) (hb : Below B w w1) (hN : N ≤ N') :
    Went w (w1.setCell ⟨r, ps i, none⟩ v1) B r V (upd V1 i v1) N' ex ∧ d.R e (w1.setCell ⟨r, ps i, none⟩ v1) w.heap.size (fun k => ¬ XV (upd V1 i v1) r k) full fl := by
  have hx1 := upd_ext (V := V1) (r := r) hi hat
  have hrb := W0.room.rb
  refine ⟨⟨W0.room.app hi h1 hg hat hN, ?_, fun k hk => ?_, hb.setCell (p := ⟨r, ps i, none⟩) hrb v1⟩, ?_⟩
  · have k1 : Keeps wr (w1.setCell ⟨r, ps i, none⟩ v1) (XV V1 r) := (Keeps.grown hg (fun k hk => .inr ⟨i, hi, hk⟩)).set (.inl (.inl rfl)) v1
    exact W0.keep.trans k1 W0.ext
  · rcases hx1 k hk with q | q
    · exact W0.ext k q
    · exact .inr (Nat.le_trans W0.keep.size q)
  · refine Kd.R_mono (Kd.R_step (Kd.R_bound hf) (fun k hk hlt => ?_)) (fun k hk c => ?_)
    · exact (Below.heap_setCell w1 _ v1 k (fun c => hk.1 (.inl c))).trans (hg.block k hlt (fun c => hk.1 (.inr ⟨i, hi, c.symm⟩)))
    · rcases hx1 k c with q | q
      · exact hk.1 q
      · have := hk.2.2.1; omega
set_option maxRecDepth 100000 in
set_option maxHeartbeats 8000000 in
theorem ints_room (w : World) (B r : Nat) (V : Nat → Value) (N : Nat) (ex : Nat → Prop) (A : Option Addr) (c : Nat) (l : List Int) (hr : RoomAt w B r V N ex) (hB : B ≤ w.heap.size) (hC : Kd.C (Kd.int .i64) w A l.length l) (hl : l.length ≤ 1048576) (hN : N ≤ 8388608) (hx : ∀ k, ex k → k < w.heap.size) :
    Calls Tryd.prog 38 #[.pointer (some ⟨r, 0, none⟩), .slice A l.length c] w fun e w' => ∃ v V', e = .returned v ∧ Went w w' B r V V' (N + 1) ex ∧ kS1.M w' w.heap.size (fun k => ¬ XV V' r k) l [v] := by
  go_enter Tryd.func38, Tryd.ntmps38
  go_wp2_with fail
  go_loopw [5, 6] (fun v iv wx => ∃ i : Nat, i ≤ l.length ∧ iv = .int .i64 i ∧ RI wx w.heap.size v (l.take i) ∧ Below w.heap.size w wx) (fun _ iv _ => l.length - (intOf iv).toNat)
  case atStart => exact ⟨0, by omega, rfl, R_empty _ _ trivial (Nat.le_refl _), (Below.refl _ _).alloc (Nat.le_refl _) _⟩
  case round =>
    obtain ⟨i, hi, rfl, hR, hbr⟩ := hrel
    by_cases hlt : i < l.length
    · have dlt : decide ((i : Int) < (l.length : Int)) = true := decide_eq_true (by omega)
      have i0 : (0 : Int) ≤ (i : Int) := by omega
      have i1 : (i : Int) < (l.length : Int) := by omega
      obtain ⟨ad, rfl, hc⟩ := int_at (Kd.C_below hC hbr) i hlt
      have et := Lib.hid (take_snocD l i hlt)
      generalize l.getD i 0 = x at *
      go_wp2_with (at_builtin; refine app_int (w0 := w) w.heap.size rfl _ _ rfl u5 _ x rfl rfl hR hbr ?h2 ?h3 ?_; (case h2 => exact hbr.size); (case h3 => simp only [List.length_take]; omega); intro v1 w1 hR1 hb1 hg1 hat1; clear hg1 hat1)
      go_roundw
      case rel => exact ⟨i + 1, by omega, by go_num, by rw [et.out]; exact hR1, hb1⟩
      case measure => simp [intOf]; omega
    · have dlt : decide ((i : Int) < (l.length : Int)) = false := decide_eq_false (by omega)
      have hR' : RI wr w.heap.size u5 (l ++ mk1.take (2 * 0)) := by rw [List.take_of_length_le (by omega)] at hR; simpa using hR
      clear hR
      go_wp2_with fail
      go_loopw [5, 7] (fun v iv wx => ∃ j : Nat, j ≤ 20 ∧ iv = .int .i64 ((2 * j : Nat) : Int) ∧ RI wx w.heap.size v (l ++ mk1.take (2 * j)) ∧ Below w.heap.size w wx) (fun _ iv _ => 40 - (intOf iv).toNat)
      case atStart => exact ⟨0, by omega, rfl, hR', hbr⟩
      case round =>
        clear hR' hbr
        obtain ⟨j, hj, rfl, hR, hbr⟩ := hrel
        by_cases hjt : j < 20
        · have djt : decide (((2 * j : Nat) : Int) < 40) = true := decide_eq_true (by omega)
          have et := Lib.hid (take2 mk1 (2 * j) 0 (by have : mk1.length = 40 := rfl; omega))
          rw [(mk1_two j hjt).1, (mk1_two j hjt).2] at et
          go_wp2_with (at_builtin; refine R_append2 (Kd.int .i64) (w0 := w) w.heap.size rfl _ _ 24 3 (.int .i64 0) 8 rfl Tryd.underlying24 infoI rfl (by decide) (by omega) u5 _ (-7701) (-7702) [.int .i64 (-7701)] [.int .i64 (-7702)] All (fun _ => False) rfl rfl rfl rfl (fun _ h => h.elim) (fun _ _ => trivial) hR hbr ?h2 ?h3 ?_; (case h2 => exact hbr.size); (case h3 => simp only [List.length_append, List.length_take]; omega); intro v1 w1 hR1 hb1 hg1 hat1; clear hg1 hat1)
          go_roundw
          case rel => exact ⟨j + 1, by omega, by go_num, by rw [show 2 * (j + 1) = 2 * j + 2 by omega, et.out, ← List.append_assoc]; exact hR1, hb1⟩
          case measure => simp [intOf]; omega
        · have djt : decide (((2 * j : Nat) : Int) < 40) = false := decide_eq_false (by omega)
          have hj20 : j = 20 := by omega
          subst hj20
          have hR' : RI wr w.heap.size u5 (l ++ mk1) := hR
          clear hR
          have hrA := hr.below hbr
          have hml : mk1.length = 40 := rfl
          obtain ⟨fl, hfl, hl1, hl2⟩ : ∃ fl : List Int, Go.RowKit.Hid (l ++ mk1 = fl) ∧ l.length ≤ fl.length ∧ fl.length ≤ 1048616 := ⟨_, Lib.hid rfl, by simp, by simp; omega⟩
          rw [hfl.out] at hR'
          clear hml
          obtain ⟨A5, c5, rfl, hc5, hrd⟩ := Kd.R_reads hR'
          clear hrd
          obtain ⟨cB, fB⟩ := blk_at hrA.box
          have k1 : wr.cell? ⟨r, 1, none⟩ = some (V 0) := cB 1
          obtain ⟨xs, hX, hlX, hEX⟩ := hrA.row 0 (by omega)
          have fresh : ∀ k, w.heap.size ≤ k → Ot ex V r 0 k ∧ some k ≠ (V 0).ownBlock := fun k hk => ot_of (hr.fresh hk) (fun c => by have := hx k c; omega) (by omega)
          have hM : kS1.M wr B (fun k => w.heap.size ≤ k) fl [.slice A5 fl.length c5] := Sub.all (Kd.R_lower (Kd.R_mono (Kd.R_bound hR') (fun k hk => hk.2.1)) hB)
          have hMl := Lib.hid hM
          have hR5 := Lib.hid hR'
          clear hR' hM
          go_wp2_with (at_builtin; go_loud (refine R_append1 kS1 (w0 := w) B rfl _ _ 30 24 nilS 24 rfl Tryd.underlying30 infoS rfl (by decide) (by omega) (V 0) _ fl (.slice A5 fl.length c5) (Ot ex V r 0) (fun k => w.heap.size ≤ k) rfl rfl hMl.out fresh (fun k hk => (fresh k (Nat.le_trans hbr.size hk)).1) hX (hbr.mono hB) ?h2 ?h3 ?_; (case h2 => exact Nat.le_trans hB hbr.size); (case h3 => omega); intro v1 w1 hR1 hb1 hg1 hat1; obtain ⟨A1, n1, m1, rfl⟩ : ∃ A n m, v1 = .slice A n m := (by obtain ⟨A1, m1, e⟩ := Kd.R_slice hR1; exact ⟨_, _, _, e⟩); obtain ⟨cC, fC⟩ := blk_at (blk_grown hrA.box hg1 (fun e => ((hrA.row 0 (by omega)).own r e.symm).1.2.1 rfl)); have k2 : w1.cell? ⟨r, 1, none⟩ = some (V 0) := cC 1))
          go_ret
          have hfl' := hfl.out
          have hf : (Kd.int .i64).R 3 wr w.heap.size (fun k => ¬ XV V r k) (.slice A5 fl.length c5) fl := Kd.R_mono (Kd.R_bound hR5.out) (fun k hk => hr.fresh hk.2.1)
          obtain ⟨W1, f1⟩ := room_end (i := 0) (N' := N + 1) (Went.below hr hbr hB) hB (by omega) hf ⟨xs ++ [fl], hR1, by simp; omega, fun L hL => by
            rcases List.mem_append.1 hL with q | q
            · exact hEX L q
            · cases List.mem_singleton.1 q; exact ⟨l, hfl'.symm⟩⟩ hg1 hat1 hb1 (by omega)
          subst hfl'
          exact ⟨_, _, rfl, W1, Sub.pre f1 hl1⟩
end Go.Proofs.YtogpgkoelplknaaDoor
end
section
/- middenroom: Words. No condition. -/

namespace Go.Proofs.YtogpgkoelplknaaDoor
open Go.RowKit Go.BigFrame PLensPaths Go.Proofs.YtogpgkoelplknaaDoorW.PrintWords Go.Proofs.YtogpgkoelplknaaDoorW.PrintMore
set_option linter.unusedVariables false
theorem infoU : (Tryd.prog.info? 25).map (fun i => (i.zero, i.size, i.bytes)) = some (some (.int .u64 0), 1, 8) := by kernel_rfl
theorem infoSW : (Tryd.prog.info? 57).map (fun i => (i.zero, i.size, i.bytes)) = some (some nilS, 1, 24) := by kernel_rfl
abbrev RU (w : World) (base : Nat) (v : Value) (l : List Int) : Prop := Kd.R (Kd.int .u64) 25 w base All v l
section
variable {ops : Array Oper} {rest : List Oper} {o : Oper} {a : Act} {Q : Exit → Act → World → Prop}
theorem app_word {w0 W : World} (base : Nat) (hgd : o.guard = none) (s x : Operand) (ho : o.op = .call { callee := .builtin .append, args := #[s, x], argTypes := #[57, 57] })
    (v : Value) (xs : List Int) (p : Int) (hs : a.eval s = v) (hx : a.eval x = .slice (some ⟨W.heap.size, 0, none⟩) 1 1) (HO : RU W base v xs) (HB : Below base w0 W) (hbase : base ≤ W.heap.size) (hl : xs.length ≤ 1099511627776)
    (h : ∀ v1 w1, RU w1 base v1 (xs ++ [p]) → Below base w0 w1 → W.grownBy w1 v.ownBlock → (v1.ownBlock = v.ownBlock ∨ ∃ b, v1.ownBlock = some b ∧ W.heap.size ≤ b) → wpList Tryd.prog ops Q rest (a.put o.dst v1) w1) :
    wpList Tryd.prog ops Q (o :: rest) a (W.alloc (.cells #[.int .u64 p] 25)) :=
  R_append1 (Kd.int .u64) base hgd s x 57 25 (.int .u64 0) 8 ho Tryd.underlying57 infoU rfl (by decide) (by omega) v xs p (.int .u64 p) All (fun _ => False) hs hx rfl (fun _ hk => hk.elim) (fun _ _ => trivial) HO HB hbase (by omega) h
end
set_option maxRecDepth 100000 in
set_option maxHeartbeats 8000000 in
theorem words_room (w : World) (B r : Nat) (V : Nat → Value) (N : Nat) (ex : Nat → Prop) (A : Option Addr) (c : Nat) (l : List Int) (hr : RoomAt w B r V N ex) (hB : B ≤ w.heap.size) (hC : Kd.C (Kd.int .u64) w A l.length l) (hl : l.length ≤ 1048576) (hN : N ≤ 8388608) (hx : ∀ k, ex k → k < w.heap.size) :
    Calls Tryd.prog 75 #[.pointer (some ⟨r, 0, none⟩), .slice A l.length c] w fun e w' => ∃ v V', e = .returned v ∧ Went w w' B r V V' (N + 1) ex ∧ kSW.M w' w.heap.size (fun k => ¬ XV V' r k) l [v] := by
  go_enter Tryd.func75, Tryd.ntmps75
  go_wp2_with fail
  go_loopw [5, 6] (fun v iv wx => ∃ i : Nat, i ≤ l.length ∧ iv = .int .i64 i ∧ RU wx w.heap.size v (l.take i) ∧ Below w.heap.size w wx) (fun _ iv _ => l.length - (intOf iv).toNat)
  case atStart => exact ⟨0, by omega, rfl, R_empty _ _ trivial (Nat.le_refl _), (Below.refl _ _).alloc (Nat.le_refl _) _⟩
  case round =>
    obtain ⟨i, hi, rfl, hR, hbr⟩ := hrel
    by_cases hlt : i < l.length
    · have dlt : decide ((i : Int) < (l.length : Int)) = true := decide_eq_true (by omega)
      have i0 : (0 : Int) ≤ (i : Int) := by omega
      have i1 : (i : Int) < (l.length : Int) := by omega
      obtain ⟨ad, rfl, hc⟩ := int_at (Kd.C_below hC hbr) i hlt
      have et := Lib.hid (take_snocD l i hlt)
      generalize l.getD i 0 = x at *
      go_wp2_with (at_builtin; refine app_word (w0 := w) w.heap.size rfl _ _ rfl u5 _ x rfl rfl hR hbr ?h2 ?h3 ?_; (case h2 => exact hbr.size); (case h3 => simp only [List.length_take]; omega); intro v1 w1 hR1 hb1 hg1 hat1; clear hg1 hat1)
      go_roundw
      case rel => exact ⟨i + 1, by omega, by go_num, by rw [et.out]; exact hR1, hb1⟩
      case measure => simp [intOf]; omega
    · have dlt : decide ((i : Int) < (l.length : Int)) = false := decide_eq_false (by omega)
      have hR' : RU wr w.heap.size u5 (l ++ mkW.take (2 * 0)) := by rw [List.take_of_length_le (by omega)] at hR; simpa using hR
      clear hR
      go_wp2_with fail
      go_loopw [5, 7] (fun v iv wx => ∃ j : Nat, j ≤ 20 ∧ iv = .int .i64 ((2 * j : Nat) : Int) ∧ RU wx w.heap.size v (l ++ mkW.take (2 * j)) ∧ Below w.heap.size w wx) (fun _ iv _ => 40 - (intOf iv).toNat)
      case atStart => exact ⟨0, by omega, rfl, hR', hbr⟩
      case round =>
        clear hR' hbr
        obtain ⟨j, hj, rfl, hR, hbr⟩ := hrel
        by_cases hjt : j < 20
        · have djt : decide (((2 * j : Nat) : Int) < 40) = true := decide_eq_true (by omega)
          have et := Lib.hid (take2 mkW (2 * j) 0 (by have : mkW.length = 40 := rfl; omega))
          rw [(mkW_two j hjt).1, (mkW_two j hjt).2] at et
          go_wp2_with (at_builtin; refine R_append2 (Kd.int .u64) (w0 := w) w.heap.size rfl _ _ 57 25 (.int .u64 0) 8 rfl Tryd.underlying57 infoU rfl (by decide) (by omega) u5 _ 7701 7702 [.int .u64 7701] [.int .u64 7702] All (fun _ => False) rfl rfl rfl rfl (fun _ h => h.elim) (fun _ _ => trivial) hR hbr ?h2 ?h3 ?_; (case h2 => exact hbr.size); (case h3 => simp only [List.length_append, List.length_take]; omega); intro v1 w1 hR1 hb1 hg1 hat1; clear hg1 hat1)
          go_roundw
          case rel => exact ⟨j + 1, by omega, by go_num, by rw [show 2 * (j + 1) = 2 * j + 2 by omega, et.out, ← List.append_assoc]; exact hR1, hb1⟩
          case measure => simp [intOf]; omega
        · have djt : decide (((2 * j : Nat) : Int) < 40) = false := decide_eq_false (by omega)
          have hj20 : j = 20 := by omega
          subst hj20
          have hR' : RU wr w.heap.size u5 (l ++ mkW) := hR
          clear hR
          have hrA := hr.below hbr
          have hml : mkW.length = 40 := rfl
          obtain ⟨fl, hfl, hl1, hl2⟩ : ∃ fl : List Int, Go.RowKit.Hid (l ++ mkW = fl) ∧ l.length ≤ fl.length ∧ fl.length ≤ 1048616 := ⟨_, Lib.hid rfl, by simp, by simp; omega⟩
          rw [hfl.out] at hR'
          clear hml
          obtain ⟨A5, c5, rfl, hc5, hrd⟩ := Kd.R_reads hR'
          clear hrd
          obtain ⟨cB, fB⟩ := blk_at hrA.box
          have k1 : wr.cell? ⟨r, 2, none⟩ = some (V 1) := cB 2
          obtain ⟨xs, hX, hlX, hEX⟩ := hrA.row 1 (by omega)
          have fresh : ∀ k, w.heap.size ≤ k → Ot ex V r 1 k ∧ some k ≠ (V 1).ownBlock := fun k hk => ot_of (hr.fresh hk) (fun c => by have := hx k c; omega) (by omega)
          have hM : kSW.M wr B (fun k => w.heap.size ≤ k) fl [.slice A5 fl.length c5] := Sub.all (Kd.R_lower (Kd.R_mono (Kd.R_bound hR') (fun k hk => hk.2.1)) hB)
          have hMl := Lib.hid hM
          have hR5 := Lib.hid hR'
          clear hR' hM
          go_wp2_with (at_builtin; go_loud (refine R_append1 kSW (w0 := w) B rfl _ _ 31 57 nilS 24 rfl Tryd.underlying31 infoSW rfl (by decide) (by omega) (V 1) _ fl (.slice A5 fl.length c5) (Ot ex V r 1) (fun k => w.heap.size ≤ k) rfl rfl hMl.out fresh (fun k hk => (fresh k (Nat.le_trans hbr.size hk)).1) hX (hbr.mono hB) ?h2 ?h3 ?_; (case h2 => exact Nat.le_trans hB hbr.size); (case h3 => omega); intro v1 w1 hR1 hb1 hg1 hat1; obtain ⟨A1, n1, m1, rfl⟩ : ∃ A n m, v1 = .slice A n m := (by obtain ⟨A1, m1, e⟩ := Kd.R_slice hR1; exact ⟨_, _, _, e⟩); obtain ⟨cC, fC⟩ := blk_at (blk_grown hrA.box hg1 (fun e => ((hrA.row 1 (by omega)).own r e.symm).1.2.1 rfl)); have k2 : w1.cell? ⟨r, 2, none⟩ = some (V 1) := cC 2))
          go_ret
          have hfl' := hfl.out
          have hf : (Kd.int .u64).R 25 wr w.heap.size (fun k => ¬ XV V r k) (.slice A5 fl.length c5) fl := Kd.R_mono (Kd.R_bound hR5.out) (fun k hk => hr.fresh hk.2.1)
          obtain ⟨W1, f1⟩ := room_end (i := 1) (N' := N + 1) (Went.below hr hbr hB) hB (by omega) hf ⟨xs ++ [fl], hR1, by simp; omega, fun L hL => by
            rcases List.mem_append.1 hL with q | q
            · exact hEX L q
            · cases List.mem_singleton.1 q; exact ⟨l, hfl'.symm⟩⟩ hg1 hat1 hb1 (by omega)
          subst hfl'
          exact ⟨_, _, rfl, W1, Sub.pre f1 hl1⟩
end Go.Proofs.YtogpgkoelplknaaDoor
end
section
/- middenroom: IntLists. No condition. -/

namespace Go.Proofs.YtogpgkoelplknaaDoor
open Go.RowKit Go.BigFrame PLensPaths Go.Proofs.YtogpgkoelplknaaDoorW.PrintWords Go.Proofs.YtogpgkoelplknaaDoorW.PrintMore
set_option linter.unusedVariables false
theorem Sub.form {α : Type} {e : Nat} {d : Kd α} {w : World} {b : Nat} {ok : Nat → Prop} {xs : List α} {v : Value} (h : (kSub e d).M w b ok xs [v]) : ∃ A n c, v = .slice A n c := by
  obtain ⟨v', full, fl, e1, _, m, _, _, A, c, cf, _, e2, _⟩ := h
  cases e1
  exact ⟨A, _, c, e2⟩
/-- A literal of one. -/
theorem R_lit1 {α : Type} (d : Kd α) (e : Nat) {W : World} {base : Nat} {ok okp : Nat → Prop} {p : α} {cs : List Value} (hp : d.M W base okp p cs) (hok : ∀ k, okp k → ok k) (hf : ok W.heap.size) (hb : base ≤ W.heap.size) : d.R e (W.alloc (.cells cs.toArray e)) base ok (.slice (some ⟨W.heap.size, 0, none⟩) 1 1) [p] := by
  have hl := d.K_len (d.K_of_M hp)
  refine ⟨fun k hk => ?_, cs, ?_, ?_⟩
  · simp [Value.ownBlock] at hk
    subst hk
    exact hf
  · have h2 := World.ownsRow_lit (base := base) (e := e) (size := d.sz) W cs.toArray 1 hb (by simp [maxLen]) (by simpa using hl)
    simpa using h2
  · have hrep : Reps (d.M W base okp) d.sz [p] cs := ⟨by simp [hl], fun j q hj => by
      match j, hj with
      | 0, hj =>
        cases hj
        rw [Nat.zero_mul, List.drop_zero, ← hl, List.take_length]
        exact hp⟩
    refine hrep.imp_ (fun p c hp => d.M_mono (fun k hk => ⟨hok k hk.1, fun he => ?_⟩) (Kd.M_below (d.M_bound hp) (below_alloc (Below.refl _ _) _)))
    have h3 : k = W.heap.size := by simpa [Value.ownBlock] using he
    have := hk.2.2.1
    omega
/-- One's own list grows; the room has nothing of it. -/
theorem Went.push {w w1 w2 : World} {B r : Nat} {V V1 : Nat → Value} {N : Nat} {ex : Nat → Prop} {v v2 : Value} (h : Went w w1 B r V V1 N (fun k => ex k ∨ v.ownBlock = some k)) (hg : w1.grownBy w2 v.ownBlock) (hat : v2.ownBlock = v.ownBlock ∨ ∃ b, v2.ownBlock = some b ∧ w1.heap.size ≤ b)
    (hv : ∀ k, v.ownBlock = some k → w.heap.size ≤ k) (hB : B ≤ w.heap.size) : Went w w2 B r V V1 N (fun k => ex k ∨ v2.ownBlock = some k) :=
  ⟨h.room.step (fun k hk hlt => hg.block k hlt (fun c => hk (.inr c.symm))) (fun k hk => by
    rcases hk with q | q
    · exact .inl (.inl q)
    · rcases hat with c | ⟨b, c, hle⟩
      · exact .inl (.inr (by rw [← c]; exact q))
      · rw [c] at q; cases q; exact .inr hle) (Nat.le_refl _), h.keep.trans (Keeps.grown (X := fun k => v.ownBlock = some k) hg (fun k hk => hk)) (fun k hk => .inr (hv k hk)), h.ext,
    ⟨hg.os.trans h.bel.os, hg.tape.trans h.bel.tape, hg.output.trans h.bel.output, Nat.le_trans h.bel.size hg.size, fun k hk => (hg.block k (by have := h.keep.size; omega) (fun c => by have := hv k c.symm; omega)).trans (h.bel.block k hk)⟩⟩
theorem take_snocZ {α : Type} (l : List α) (i : Nat) (z : α) (h : i < l.length) : l.take (i + 1) = l.take i ++ [l.getD i z] := by
  rw [List.take_succ_eq_append_getElem h, List.getD_eq_getElem?_getD, List.getElem?_eq_getElem h]; rfl
theorem mk2_two : ∀ j, j < 4 → mk2.getD (2 * j) [] = [-7701] ∧ mk2.getD (2 * j + 1) [] = [-7702] := by decide
theorem infoSS : (Tryd.prog.info? 30).map (fun i => (i.zero, i.size, i.bytes)) = some (some nilS, 1, 24) := by kernel_rfl
theorem alloc_sz (W : World) (o : Obj) : (W.alloc o).heap.size = W.heap.size + 1 := by simp
theorem lit_int (W : World) (x : Int) {b : Nat} (hb : b ≤ W.heap.size) : kS1.M (W.alloc (.cells #[.int .i64 x] 3)) b (fun k => W.heap.size ≤ k) [x] [.slice (some ⟨W.heap.size, 0, none⟩) 1 1] :=
  Sub.all (R_lit1 (Kd.int .i64) 3 (cs := [.int .i64 x]) (okp := fun _ => False) rfl (fun _ h => h.elim) (Nat.le_refl _) hb)
theorem lits_int (W : World) (x y : Int) {b : Nat} (hb : b ≤ W.heap.size) :
    kS1.M ((W.alloc (.cells #[.int .i64 x] 3)).alloc (.cells #[.int .i64 y] 3)) b (fun k => W.heap.size ≤ k) [x] [.slice (some ⟨W.heap.size, 0, none⟩) 1 1] ∧
    kS1.M ((W.alloc (.cells #[.int .i64 x] 3)).alloc (.cells #[.int .i64 y] 3)) b (fun k => W.heap.size ≤ k) [y] [.slice (some ⟨W.heap.size + 1, 0, none⟩) 1 1] := by
  have s1 := alloc_sz W (.cells #[.int .i64 x] 3)
  refine ⟨Kd.M_below (lit_int W x hb) ((Below.refl _ _).alloc (Nat.le_refl _) _), ?_⟩
  have := lit_int (W.alloc (.cells #[.int .i64 x] 3)) y (b := b) (by omega)
  rw [s1] at this
  exact kS1.M_mono (fun k hk => by omega) this
def cost2 (L : List (List Int)) : Nat := L.length + 1
set_option maxRecDepth 100000 in
set_option maxHeartbeats 8000000 in
theorem intLists_room (w : World) (B r : Nat) (V : Nat → Value) (N : Nat) (ex : Nat → Prop) (A : Option Addr) (c : Nat) (L : List (List Int)) (hr : RoomAt w B r V N ex) (hB : B ≤ w.heap.size) (hC : ∀ W, Below B w W → Kd.C kInts W A L.length L) (hl : L.length ≤ 1048576) (hq : ∀ l ∈ L, l.length ≤ 1048576) (hN : N + cost2 L ≤ 8388608) (hx : ∀ k, ex k → k < w.heap.size) :
    Calls Tryd.prog 76 #[.pointer (some ⟨r, 0, none⟩), .slice A L.length c] w fun e w' => ∃ v V', e = .returned v ∧ Went w w' B r V V' (N + cost2 L) ex ∧ kS2.M w' w.heap.size (fun k => ¬ XV V' r k) L [v] := by
  unfold cost2 at *
  have INTS := Lib.hid ints_room
  go_enter Tryd.func76, Tryd.ntmps76
  go_wp2_with fail
  go_loopw [5, 6] (fun v iv wx => ∃ (i : Nat) (Vx : Nat → Value), i ≤ L.length ∧ iv = .int .i64 i ∧ Went w wx B r V Vx (N + i) (fun k => ex k ∨ v.ownBlock = some k) ∧ kS1.R 24 wx w.heap.size (fun k => ¬ XV Vx r k) v (L.take i)) (fun _ iv _ => L.length - (intOf iv).toNat)
  case atStart =>
    refine ⟨0, V, by omega, rfl, ⟨hr.step (fun k _ hk => (Below.refl _ _).alloc (Nat.le_refl _) _ |>.block k hk) (fun k hk => ?_) (by omega), Keeps.below ((Below.refl _ _).alloc (Nat.le_refl _) _), fun _ h => .inl h, (Below.refl _ _).alloc hB _⟩, R_empty _ _ (hr.fresh (Nat.le_refl _)) (Nat.le_refl _)⟩
    rcases hk with q | q
    · exact .inl q
    · simp [Value.ownBlock] at q
      exact .inr (by omega)
  case round =>
    obtain ⟨i, Vx, hi, rfl, hW, hR⟩ := hrel
    have hCx := hC wr hW.bel
    by_cases hlt : i < L.length
    · have dlt : decide ((i : Int) < (L.length : Int)) = true := decide_eq_true (by omega)
      have i0 : (0 : Int) ≤ (i : Int) := by omega
      have i1 : (i : Int) < (L.length : Int) := by omega
      have hql := hq _ (getD_mem [] hlt)
      obtain ⟨ad, A1, c1, rfl, hc, hc1, hC1⟩ := sl_at hCx i hlt
      have et := Lib.hid (take_snocZ L i [] hlt)
      generalize L.getD i [] = l at *
      have hvb := Kd.R_lt hR
      have C0 := Lib.hid (INTS.out wr B r Vx (N + i) _ A1 c1 l hW.room (Nat.le_trans hB hW.keep.size) hC1 hql (by omega) (fun k hk => by
        rcases hk with q | q
        · exact Nat.lt_of_lt_of_le (hx k q) hW.keep.size
        · exact hvb k q))
      go_wp2_with (first
        | (go_at_call 38; refine C0.out.mono ?_; rintro e w1 ⟨v1, V1, rfl, hW1, hM1⟩; obtain ⟨A4, n4, m4, rfl⟩ := Sub.form hM1)
        | (at_builtin; refine R_append1 kS1 (w0 := w1) w.heap.size rfl _ _ 30 24 nilS 24 rfl Tryd.underlying30 infoS rfl (by decide) (by omega) u5 _ l (.slice A4 n4 m4) (fun k => ¬ XV V1 r k) (fun k => ¬ XV V1 r k ∧ wr.heap.size ≤ k) rfl rfl (kS1.M_mono (fun k hk => ⟨hk.1, hk.2.1⟩) (kS1.M_lower hW.keep.size (kS1.M_bound hM1))) (fun k hk => ⟨hk.1, fun c => by have := hvb k c.symm; omega⟩) (fun k hk => hW1.room.fresh hk) (hW1.R hR) (Below.refl _ _) ?h2 ?h3 ?_; (case h2 => exact Nat.le_trans hW.keep.size hW1.keep.size); (case h3 => simp only [List.length_take]; omega); intro v2 w2 hR2 hb2 hg2 hat2))
      go_roundw
      case rel => exact ⟨i + 1, V1, by omega, by go_num, (hW.trans hW1).push hg2 hat2 (fun k hk => Kd.R_base hR k hk) hB, by rw [et.out]; exact hR2⟩
      case measure => simp [intOf]; omega
    · have dlt : decide ((i : Int) < (L.length : Int)) = false := decide_eq_false (by omega)
      have hiL : i = L.length := by omega
      subst hiL
      have hR' : kS1.R 24 wr w.heap.size (fun k => ¬ XV Vx r k) u5 (L ++ mk2.take (2 * 0)) := by rw [List.take_of_length_le (by omega)] at hR; simpa using hR
      clear hR
      go_wp2_with fail
      go_loopw [5, 7] (fun v iv wx => ∃ j : Nat, j ≤ 4 ∧ iv = .int .i64 ((2 * j : Nat) : Int) ∧ Went w wx B r V Vx (N + L.length) (fun k => ex k ∨ v.ownBlock = some k) ∧ kS1.R 24 wx w.heap.size (fun k => ¬ XV Vx r k) v (L ++ mk2.take (2 * j))) (fun _ iv _ => 8 - (intOf iv).toNat)
      case atStart => exact ⟨0, by omega, rfl, hW, hR'⟩
      case round =>
        clear hR' hW hCx
        obtain ⟨j, hj, rfl, hW, hR⟩ := hrel
        have hsz := hW.keep.size
        by_cases hjt : j < 4
        · have djt : decide (((2 * j : Nat) : Int) < 8) = true := decide_eq_true (by omega)
          have et := Lib.hid (take2 mk2 (2 * j) [] (by have : mk2.length = 8 := rfl; omega))
          rw [(mk2_two j hjt).1, (mk2_two j hjt).2] at et
          have okw : ∀ k, wr.heap.size ≤ k → ¬ XV Vx r k ∧ some k ≠ u5.ownBlock := fun k hk => ⟨hW.room.fresh hk, fun c => by have := Kd.R_lt hR k c.symm; omega⟩
          have okw : ∀ k, wr.heap.size ≤ k → ¬ XV Vx r k ∧ some k ≠ u5.ownBlock := fun k hk => ⟨hW.room.fresh hk, fun c => by have := Kd.R_lt hR k c.symm; omega⟩
          have hwb := ((Below.refl wr.heap.size wr).alloc (Nat.le_refl _) (.cells #[.int .i64 (-7701)] 3)).alloc (by rw [alloc_sz]; omega) (.cells #[.int .i64 (-7702)] 3)
          have hrb := Kd.R_below hR hwb
          obtain ⟨m1, m2⟩ := lits_int wr (-7701) (-7702) hsz
          have s2 : ((wr.alloc (.cells #[.int .i64 (-7701)] 3)).alloc (.cells #[.int .i64 (-7702)] 3)).heap.size = wr.heap.size + 1 + 1 := by rw [alloc_sz, alloc_sz]
          have HRB := Lib.hid hrb
          have HWB := Lib.hid hwb
          have M1 := Lib.hid m1
          have M2 := Lib.hid m2
          have S2 := Lib.hid s2
          have RL := Lib.hid (show (L ++ mk2.take (2 * j)).length ≤ 1048616 by have : mk2.length = 8 := rfl; simp only [List.length_append, List.length_take]; omega)
          clear hrb hwb m1 m2 s2
          go_wp2_with (at_builtin; refine R_append2 kS1 (w0 := wr) w.heap.size rfl _ _ 30 24 nilS 24 rfl Tryd.underlying30 infoS rfl (by decide) (by omega) u5 _ [-7701] [-7702] [.slice (some ⟨wr.heap.size, 0, none⟩) 1 1] [.slice (some ⟨wr.heap.size + 1, 0, none⟩) 1 1] (fun k => ¬ XV Vx r k) (fun k => wr.heap.size ≤ k) rfl (by rw [S2.out]; rfl) M1.out M2.out okw (fun k hk => (okw k (by rw [S2.out] at hk; omega)).1) HRB.out (HWB.out.mono hsz) ?h2 ?h3 ?_; (case h2 => rw [S2.out]; omega); (case h3 => have := RL.out; omega); intro v1 w1 hR1 hb1 hg1 hat1)
          go_roundw
          case rel => exact ⟨j + 1, by omega, by go_num, hW.push (grown_after HWB.out hg1) (by
            rcases hat1 with q | ⟨b, q, hle⟩
            · exact .inl q
            · exact .inr ⟨b, q, Nat.le_trans HWB.out.size hle⟩) (fun k hk => Kd.R_base hR k hk) hB, by rw [show 2 * (j + 1) = 2 * j + 2 by omega, et.out, ← List.append_assoc]; exact hR1⟩
          case measure => simp [intOf]; omega
        · have djt : decide (((2 * j : Nat) : Int) < 8) = false := decide_eq_false (by omega)
          have hj20 : j = 4 := by omega
          subst hj20
          have hR' : kS1.R 24 wr w.heap.size (fun k => ¬ XV Vx r k) u5 (L ++ mk2) := hR
          clear hR
          have hrA := hW.room
          have hml : mk2.length = 8 := rfl
          obtain ⟨fl, hfl, hl1, hl2⟩ : ∃ fl : List (List Int), Go.RowKit.Hid (L ++ mk2 = fl) ∧ L.length ≤ fl.length ∧ fl.length ≤ 1048616 := ⟨_, Lib.hid rfl, by simp, by simp; omega⟩
          rw [hfl.out] at hR'
          clear hml
          obtain ⟨A5, c5, rfl, hc5, hrd⟩ := Kd.R_reads hR'
          clear hrd
          obtain ⟨cB, fB⟩ := blk_at hrA.box
          have k1 : wr.cell? ⟨r, 5, none⟩ = some (Vx 2) := cB 5
          obtain ⟨xs, hX, hlX, hEX⟩ := hrA.row 2 (by omega)
          have hW' := hW.less (ex' := ex) (fun k hk => .inl hk) (Nat.le_refl _)
          have hok : ∀ k, ¬ XV Vx r k ∧ w.heap.size ≤ k → Ot ex Vx r 2 k ∧ some k ≠ (Vx 2).ownBlock := fun k hk => ot_of hk.1 (fun c => by have := hx k c; omega) (by omega)
          obtain ⟨xs, hX, hlX, hEX⟩ := hW'.room.row 2 (by omega)
          have hM : kS2.M wr B (fun k => ¬ XV Vx r k ∧ w.heap.size ≤ k) fl [.slice A5 fl.length c5] := Sub.all (Kd.R_lower (Kd.R_mono (Kd.R_bound hR') (fun k hk => ⟨hk.1, hk.2.1⟩)) hB)
          have hMl := Lib.hid hM
          have hR5 := Lib.hid hR'
          clear hR' hM
          go_wp2_with (at_builtin; refine R_append1 kS2 (w0 := wr) B rfl _ _ 23 30 nilS 24 rfl Tryd.underlying23 infoSS rfl (by decide) (by omega) (Vx 2) _ fl (.slice A5 fl.length c5) (Ot ex Vx r 2) (fun k => ¬ XV Vx r k ∧ w.heap.size ≤ k) rfl rfl hMl.out hok (fun k hk => (hok k ⟨hrA.fresh hk, Nat.le_trans hsz hk⟩).1) hX (Below.refl _ _) ?h2 ?h3 ?_; (case h2 => exact Nat.le_trans hB hsz); (case h3 => omega); intro v1 w1 hR1 hb1 hg1 hat1; obtain ⟨A1, n1, m1, rfl⟩ : ∃ A n m, v1 = .slice A n m := (by obtain ⟨A1, m1, e⟩ := Kd.R_slice hR1; exact ⟨_, _, _, e⟩); obtain ⟨cC, fC⟩ := blk_at (blk_grown hrA.box hg1 (fun e => ((hrA.row 2 (by omega)).own r e.symm).1.2.1 rfl)); have k2 : w1.cell? ⟨r, 5, none⟩ = some (Vx 2) := cC 5)
          go_ret
          have hfl' := hfl.out
          obtain ⟨W1, f1⟩ := room_end (i := 2) (N' := N + (L.length + 1)) hW' hB (by omega) hR5.out ⟨xs ++ [fl], hR1, by simp; omega, fun l hl => by
            rcases List.mem_append.1 hl with q | q
            · exact hEX l q
            · cases List.mem_singleton.1 q; exact ⟨L, hfl'.symm⟩⟩ hg1 hat1 (hW.bel.trans hb1) (by omega)
          subst hfl'
          exact ⟨_, _, rfl, W1, Sub.pre f1 hl1⟩
end Go.Proofs.YtogpgkoelplknaaDoor
end
section
/- middenroom: Frames. No condition. -/

namespace Go.Proofs.YtogpgkoelplknaaDoor
open Go.RowKit Go.BigFrame PLensPaths Go.Proofs.YtogpgkoelplknaaDoorW.PrintWords Go.Proofs.YtogpgkoelplknaaDoorW.PrintMore
set_option linter.unusedVariables false
theorem mk3_two : ∀ j, j < 4 → mk3.getD (2 * j) [] = [[-7701]] ∧ mk3.getD (2 * j + 1) [] = [[-7702]] := by decide
theorem infoSSS : (Tryd.prog.info? 23).map (fun i => (i.zero, i.size, i.bytes)) = some (some nilS, 1, 24) := by kernel_rfl
def cost3 (L : List (List (List Int))) : Nat := (L.map cost2).sum + 1
abbrev wA1 (W : World) (x : Int) : World := (W.alloc (.cells #[.int .i64 x] 3)).alloc (.cells #[.slice (some ⟨W.heap.size, 0, none⟩) 1 1] 24)
theorem lit_row (W : World) (x : Int) {b : Nat} (hb : b ≤ W.heap.size) : kS2.M (wA1 W x) b (fun k => W.heap.size ≤ k) [[x]] [.slice (some ⟨W.heap.size + 1, 0, none⟩) 1 1] ∧ (wA1 W x).heap.size = W.heap.size + 1 + 1 ∧ Below W.heap.size W (wA1 W x) := by
  have s1 := alloc_sz W (.cells #[.int .i64 x] 3)
  have m1 := lit_int W x hb
  have b1 := (Below.refl W.heap.size W).alloc (Nat.le_refl _) (.cells #[.int .i64 x] 3)
  have b2 := b1.alloc b1.size (.cells #[.slice (some ⟨W.heap.size, 0, none⟩) 1 1] 24)
  have m2 : kS2.M (wA1 W x) b (fun k => W.heap.size ≤ k) [[x]] [.slice (some ⟨(W.alloc (.cells #[.int .i64 x] 3)).heap.size, 0, none⟩) 1 1] := Sub.all (R_lit1 kS1 24 (cs := [.slice (some ⟨W.heap.size, 0, none⟩) 1 1]) (okp := fun k => W.heap.size ≤ k) m1 (fun _ h => h) (by show W.heap.size ≤ _; omega) (by omega))
  rw [s1] at m2
  exact ⟨m2, by rw [alloc_sz, s1], b2⟩
abbrev wA2 (W : World) (x y : Int) : World := (((W.alloc (.cells #[.int .i64 x] 3)).alloc (.cells #[.slice (some ⟨W.heap.size, 0, none⟩) 1 1] 24)).alloc (.cells #[.int .i64 y] 3)).alloc (.cells #[.slice (some ⟨W.heap.size + 1 + 1, 0, none⟩) 1 1] 24)
theorem wA2_eq (W : World) (x y : Int) : wA1 (wA1 W x) y = wA2 W x y := by
  unfold wA1 wA2
  rw [alloc_sz (W.alloc _), alloc_sz W]
theorem lits_row (W : World) (x y : Int) {b : Nat} (hb : b ≤ W.heap.size) : kS2.M (wA2 W x y) b (fun k => W.heap.size ≤ k) [[x]] [.slice (some ⟨W.heap.size + 1, 0, none⟩) 1 1] ∧ kS2.M (wA2 W x y) b (fun k => W.heap.size ≤ k) [[y]] [.slice (some ⟨W.heap.size + 1 + 1 + 1, 0, none⟩) 1 1] ∧ (wA2 W x y).heap.size = W.heap.size + 1 + 1 + 1 + 1 ∧ Below W.heap.size W (wA2 W x y) := by
  obtain ⟨m1, s1, b1⟩ := lit_row W x hb
  obtain ⟨m2, s2, b2⟩ := lit_row (wA1 W x) y (b := b) (by omega)
  rw [← wA2_eq]
  refine ⟨Kd.M_below m1 b2, ?_, by rw [s2, s1], b1.trans (b2.mono b1.size)⟩
  rw [s1] at m2
  exact kS2.M_mono (fun k hk => by omega) m2
theorem cost_drop (L : List (List (List Int))) (i : Nat) (h : i < L.length) : ((L.drop i).map cost2).sum = cost2 (L.getD i []) + ((L.drop (i + 1)).map cost2).sum := by
  rw [drop_cons [] h]; simp
set_option maxRecDepth 100000 in
set_option maxHeartbeats 8000000 in
theorem frames_room (w : World) (B r : Nat) (V : Nat → Value) (N : Nat) (ex : Nat → Prop) (A : Option Addr) (c : Nat) (L : List (List (List Int))) (hr : RoomAt w B r V N ex) (hB : B ≤ w.heap.size) (w0 : World) (h0 : Below w0.heap.size w0 w) (hB0 : w0.heap.size ≤ B) (hC : Kd.C kFrames w0 A L.length L) (hl : L.length ≤ 1048576) (hq : ∀ f ∈ L, f.length ≤ 1048576 ∧ ∀ l ∈ f, l.length ≤ 1048576) (hN : N + cost3 L ≤ 8388608) (hx : ∀ k, ex k → k < w.heap.size) :
    Calls Tryd.prog 37 #[.pointer (some ⟨r, 0, none⟩), .slice A L.length c] w fun e w' => ∃ v V', e = .returned v ∧ Went w w' B r V V' (N + cost3 L) ex ∧ kS3.M w' w.heap.size (fun k => ¬ XV V' r k) L [v] := by
  unfold cost3 at *
  have INTS := Lib.hid intLists_room
  go_enter Tryd.func37, Tryd.ntmps37
  go_wp2_with fail
  go_loopw [5, 6] (fun v iv wx => ∃ (i Nx : Nat) (Vx : Nat → Value), i ≤ L.length ∧ Nx + ((L.drop i).map cost2).sum = N + (L.map cost2).sum ∧ iv = .int .i64 i ∧ Went w wx B r V Vx Nx (fun k => ex k ∨ v.ownBlock = some k) ∧ kS2.R 30 wx w.heap.size (fun k => ¬ XV Vx r k) v (L.take i)) (fun _ iv _ => L.length - (intOf iv).toNat)
  case atStart =>
    refine ⟨0, N, V, by omega, rfl, rfl, ⟨hr.step (fun k _ hk => (Below.refl _ _).alloc (Nat.le_refl _) _ |>.block k hk) (fun k hk => ?_) (by omega), Keeps.below ((Below.refl _ _).alloc (Nat.le_refl _) _), fun _ h => .inl h, (Below.refl _ _).alloc hB _⟩, R_empty _ _ (hr.fresh (Nat.le_refl _)) (Nat.le_refl _)⟩
    rcases hk with q | q
    · exact .inl q
    · simp [Value.ownBlock] at q
      exact .inr (by omega)
  case round =>
    obtain ⟨i, Nx, Vx, hi, hNx, rfl, hW, hR⟩ := hrel
    have hb0 := h0.trans (hW.bel.mono hB0)
    by_cases hlt : i < L.length
    · have dlt : decide ((i : Int) < (L.length : Int)) = true := decide_eq_true (by omega)
      have i0 : (0 : Int) ≤ (i : Int) := by omega
      have i1 : (i : Int) < (L.length : Int) := by omega
      obtain ⟨hq1, hq2⟩ := hq _ (getD_mem [] hlt)
      obtain ⟨ad, A1, c1, rfl, hc0, hc1, hC1⟩ := sl_at hC i hlt
      have hc := cell_later hb0 hc0
      clear hc0
      rw [cost_drop L i hlt] at hNx
      have et := Lib.hid (take_snocZ L i [] hlt)
      generalize L.getD i [] = l at *
      have hvb := Kd.R_lt hR
      have C0 := Lib.hid (INTS.out wr B r Vx Nx _ A1 c1 l hW.room (Nat.le_trans hB hW.keep.size) (fun W hW' => Kd.C_below hC1 (hb0.trans (hW'.mono hB0))) hq1 hq2 (by omega) (fun k hk => by
        rcases hk with q | q
        · exact Nat.lt_of_lt_of_le (hx k q) hW.keep.size
        · exact hvb k q))
      go_wp2_with (first
        | (go_at_call 76; refine C0.out.mono ?_; rintro e w1 ⟨v1, V1, rfl, hW1, hM1⟩; obtain ⟨A4, n4, m4, rfl⟩ := Sub.form hM1)
        | (at_builtin; refine R_append1 kS2 (w0 := w1) w.heap.size rfl _ _ 23 30 nilS 24 rfl Tryd.underlying23 infoSS rfl (by decide) (by omega) u5 _ l (.slice A4 n4 m4) (fun k => ¬ XV V1 r k) (fun k => ¬ XV V1 r k ∧ wr.heap.size ≤ k) rfl rfl (kS2.M_mono (fun k hk => ⟨hk.1, hk.2.1⟩) (kS2.M_lower hW.keep.size (kS2.M_bound hM1))) (fun k hk => ⟨hk.1, fun c => by have := hvb k c.symm; omega⟩) (fun k hk => hW1.room.fresh hk) (hW1.R hR) (Below.refl _ _) ?h2 ?h3 ?_; (case h2 => exact Nat.le_trans hW.keep.size hW1.keep.size); (case h3 => simp only [List.length_take]; omega); intro v2 w2 hR2 hb2 hg2 hat2))
      go_roundw
      case rel => exact ⟨i + 1, Nx + cost2 l, V1, by omega, by omega, by go_num, (hW.trans hW1).push hg2 hat2 (fun k hk => Kd.R_base hR k hk) hB, by rw [et.out]; exact hR2⟩
      case measure => simp [intOf]; omega
    · have dlt : decide ((i : Int) < (L.length : Int)) = false := decide_eq_false (by omega)
      have hiL : i = L.length := by omega
      subst hiL
      rw [List.drop_of_length_le (Nat.le_refl _)] at hNx
      have hNx' : Nx = N + (L.map cost2).sum := hNx
      clear hNx
      generalize hsm : (L.map cost2).sum = sm at *
      have HS := Lib.hid hsm
      clear hsm
      have hR' : kS2.R 30 wr w.heap.size (fun k => ¬ XV Vx r k) u5 (L ++ mk3.take (2 * 0)) := by rw [List.take_of_length_le (by omega)] at hR; simpa using hR
      clear hR
      go_wp2_with fail
      go_loopw [5, 7] (fun v iv wx => ∃ j : Nat, j ≤ 4 ∧ iv = .int .i64 ((2 * j : Nat) : Int) ∧ Went w wx B r V Vx Nx (fun k => ex k ∨ v.ownBlock = some k) ∧ kS2.R 30 wx w.heap.size (fun k => ¬ XV Vx r k) v (L ++ mk3.take (2 * j))) (fun _ iv _ => 8 - (intOf iv).toNat)
      case atStart => exact ⟨0, by omega, rfl, hW, hR'⟩
      case round =>
        clear hR' hW hb0
        obtain ⟨j, hj, rfl, hW, hR⟩ := hrel
        have hsz := hW.keep.size
        by_cases hjt : j < 4
        · have djt : decide (((2 * j : Nat) : Int) < 8) = true := decide_eq_true (by omega)
          have et := Lib.hid (take2 mk3 (2 * j) [] (by have : mk3.length = 8 := rfl; omega))
          rw [(mk3_two j hjt).1, (mk3_two j hjt).2] at et
          have okw : ∀ k, wr.heap.size ≤ k → ¬ XV Vx r k ∧ some k ≠ u5.ownBlock := fun k hk => ⟨hW.room.fresh hk, fun c => by have := Kd.R_lt hR k c.symm; omega⟩
          have okw : ∀ k, wr.heap.size ≤ k → ¬ XV Vx r k ∧ some k ≠ u5.ownBlock := fun k hk => ⟨hW.room.fresh hk, fun c => by have := Kd.R_lt hR k c.symm; omega⟩
          obtain ⟨m1, m2, s2, hwb⟩ := lits_row wr (-7701) (-7702) hsz
          have hrb := Kd.R_below hR hwb
          have HRB := Lib.hid hrb
          have HWB := Lib.hid hwb
          have M1 := Lib.hid m1
          have M2 := Lib.hid m2
          have S2 := Lib.hid s2
          have RL := Lib.hid (show (L ++ mk3.take (2 * j)).length ≤ 1048616 by have : mk3.length = 8 := rfl; simp only [List.length_append, List.length_take]; omega)
          clear hrb hwb m1 m2 s2
          go_wp2_with (at_builtin; refine R_append2 kS2 (w0 := wr) w.heap.size rfl _ _ 23 30 nilS 24 rfl Tryd.underlying23 infoSS rfl (by decide) (by omega) u5 _ [[-7701]] [[-7702]] [.slice (some ⟨wr.heap.size + 1, 0, none⟩) 1 1] [.slice (some ⟨wr.heap.size + 1 + 1 + 1, 0, none⟩) 1 1] (fun k => ¬ XV Vx r k) (fun k => wr.heap.size ≤ k) rfl (by rw [S2.out]; rfl) M1.out M2.out okw (fun k hk => (okw k (by rw [S2.out] at hk; omega)).1) HRB.out (HWB.out.mono hsz) ?h2 ?h3 ?_; (case h2 => rw [S2.out]; omega); (case h3 => have := RL.out; omega); intro v1 w1 hR1 hb1 hg1 hat1)
          go_roundw
          case rel => exact ⟨j + 1, by omega, by go_num, hW.push (grown_after HWB.out hg1) (by
            rcases hat1 with q | ⟨b, q, hle⟩
            · exact .inl q
            · exact .inr ⟨b, q, Nat.le_trans HWB.out.size hle⟩) (fun k hk => Kd.R_base hR k hk) hB, by rw [show 2 * (j + 1) = 2 * j + 2 by omega, et.out, ← List.append_assoc]; exact hR1⟩
          case measure => simp [intOf]; omega
        · have djt : decide (((2 * j : Nat) : Int) < 8) = false := decide_eq_false (by omega)
          have hj20 : j = 4 := by omega
          subst hj20
          have hR' : kS2.R 30 wr w.heap.size (fun k => ¬ XV Vx r k) u5 (L ++ mk3) := hR
          clear hR
          have hrA := hW.room
          have hml : mk3.length = 8 := rfl
          obtain ⟨fl, hfl, hl1, hl2⟩ : ∃ fl : List (List (List Int)), Go.RowKit.Hid (L ++ mk3 = fl) ∧ L.length ≤ fl.length ∧ fl.length ≤ 1048616 := ⟨_, Lib.hid rfl, by simp, by simp; omega⟩
          rw [hfl.out] at hR'
          clear hml
          obtain ⟨A5, c5, rfl, hc5, hrd⟩ := Kd.R_reads hR'
          clear hrd
          obtain ⟨cB, fB⟩ := blk_at hrA.box
          have k1 : wr.cell? ⟨r, 6, none⟩ = some (Vx 3) := cB 6
          obtain ⟨xs, hX, hlX, hEX⟩ := hrA.row 3 (by omega)
          have hW' := hW.less (ex' := ex) (fun k hk => .inl hk) (Nat.le_refl _)
          have hok : ∀ k, ¬ XV Vx r k ∧ w.heap.size ≤ k → Ot ex Vx r 3 k ∧ some k ≠ (Vx 3).ownBlock := fun k hk => ot_of hk.1 (fun c => by have := hx k c; omega) (by omega)
          obtain ⟨xs, hX, hlX, hEX⟩ := hW'.room.row 3 (by omega)
          have hM : kS3.M wr B (fun k => ¬ XV Vx r k ∧ w.heap.size ≤ k) fl [.slice A5 fl.length c5] := Sub.all (Kd.R_lower (Kd.R_mono (Kd.R_bound hR') (fun k hk => ⟨hk.1, hk.2.1⟩)) hB)
          have hMl := Lib.hid hM
          have hR5 := Lib.hid hR'
          clear hR' hM
          go_wp2_with (at_builtin; refine R_append1 kS3 (w0 := wr) B rfl _ _ 34 23 nilS 24 rfl Tryd.underlying34 infoSSS rfl (by decide) (by omega) (Vx 3) _ fl (.slice A5 fl.length c5) (Ot ex Vx r 3) (fun k => ¬ XV Vx r k ∧ w.heap.size ≤ k) rfl rfl hMl.out hok (fun k hk => (hok k ⟨hrA.fresh hk, Nat.le_trans hsz hk⟩).1) hX (Below.refl _ _) ?h2 ?h3 ?_; (case h2 => exact Nat.le_trans hB hsz); (case h3 => omega); intro v1 w1 hR1 hb1 hg1 hat1; obtain ⟨A1, n1, m1, rfl⟩ : ∃ A n m, v1 = .slice A n m := (by obtain ⟨A1, m1, e⟩ := Kd.R_slice hR1; exact ⟨_, _, _, e⟩); obtain ⟨cC, fC⟩ := blk_at (blk_grown hrA.box hg1 (fun e => ((hrA.row 3 (by omega)).own r e.symm).1.2.1 rfl)); have k2 : w1.cell? ⟨r, 6, none⟩ = some (Vx 3) := cC 6)
          go_ret
          have hfl' := hfl.out
          obtain ⟨W1, f1⟩ := room_end (i := 3) (N' := N + (sm + 1)) hW' hB (by omega) hR5.out ⟨xs ++ [fl], hR1, by simp; omega, fun l hl => by
            rcases List.mem_append.1 hl with q | q
            · exact hEX l q
            · cases List.mem_singleton.1 q; exact ⟨L, hfl'.symm⟩⟩ hg1 hat1 (hW.bel.trans hb1) (by omega)
          subst hfl'
          have hs := HS.out
          subst hs
          exact ⟨_, _, rfl, W1, Sub.pre f1 hl1⟩
end Go.Proofs.YtogpgkoelplknaaDoor
end
section
/- middenroom: Objects. No condition. -/


namespace Go.Proofs.YtogpgkoelplknaaDoor
open Go.RowKit Go.BigFrame PLensPaths Go.Proofs.YtogpgkoelplknaaDoorW.PrintWords Go.Proofs.YtogpgkoelplknaaDoorW.PrintMore
set_option linter.unusedVariables false
theorem infoO : (Tryd.prog.info? 59).map (fun i => (i.zero, i.size, i.bytes)) = some (some (.agg #[.int .u64 0, .int .i64 0, .int .i64 0, nilS, nilS]), 5, 72) := by kernel_rfl
theorem infoSO : (Tryd.prog.info? 22).map (fun i => (i.zero, i.size, i.bytes)) = some (some nilS, 1, 24) := by kernel_rfl
theorem RoomAt.drew {w : World} {B r : Nat} {V : Nat → Value} {N : Nat} {ex : Nat → Prop} (h : RoomAt w B r V N ex) : RoomAt w.drew B r V N ex := h.step (fun _ _ _ => rfl) (fun _ h => .inl h) (Nat.le_refl _)
theorem Went.drew {w w1 : World} {B r : Nat} {V V1 : Nat → Value} {N : Nat} {ex : Nat → Prop} (h : Went w w1 B r V V1 N ex) : Went w w1.drew B r V V1 N ex := ⟨h.room.drew, ⟨h.keep.size, h.keep.blk⟩, h.ext, h.bel.drew⟩
section
variable {ops : Array Oper} {o : Oper} {a : Act} {Q : Exit → Act → World → Prop} {Kc : Act → World → Prop}
/-- append(v, Object{..}): a step of a region that draws. -/
theorem step_app_ob {w0 W : World} (base : Nat) (hgd : o.guard = none) (s x : Operand) (ho : o.op = .call { callee := .builtin .append, args := #[s, x], argTypes := #[22, 22] })
    (v : Value) (xs : List Ob) (p : Ob) (v3 v4 : Value) (ok okp : Nat → Prop) (hs : a.eval s = v) (hx : a.eval x = .slice (some ⟨W.heap.size, 0, none⟩) 1 1) (hp : kObS.M W base okp p [.int .u64 p.f0, .int .i64 p.f1, .int .i64 p.f2, v3, v4]) (hokp : ∀ k, okp k → ok k ∧ some k ≠ v.ownBlock) (hfresh : ∀ k, W.heap.size ≤ k → ok k)
    (HO : kObS.R 59 W base ok v xs) (HB : Below base w0 W) (hbase : base ≤ W.heap.size) (hl : xs.length ≤ 1099511627)
    (h : ∀ v1 w1, kObS.R 59 w1 base ok v1 (xs ++ [p]) → Below base w0 w1 → W.grownBy w1 v.ownBlock → (v1.ownBlock = v.ownBlock ∨ ∃ b, v1.ownBlock = some b ∧ W.heap.size ≤ b) → Kc (a.put o.dst v1) w1) :
    if Region.wanted o (yielded ops a.tmps) = true then Oper.wp Tryd.prog o a (W.alloc (.cells #[.int .u64 p.f0, .int .i64 p.f1, .int .i64 p.f2, v3, v4] 59)) Kc Q else Kc (a.put o.dst undef) (W.alloc (.cells #[.int .u64 p.f0, .int .i64 p.f1, .int .i64 p.f2, v3, v4] 59)) :=
  Kd.R_append_step kObS base (by simp [Region.wanted, hgd]) s x 22 59 (.agg #[.int .u64 0, .int .i64 0, .int .i64 0, nilS, nilS]) 72 ho Tryd.underlying22 infoO rfl (by decide) (by omega) v xs p [.int .u64 p.f0, .int .i64 p.f1, .int .i64 p.f2, v3, v4] ok okp hs hx hp hokp hfresh HO HB hbase (by omega) h
end
theorem okp_of {α : Type} {d : Kd α} {w : World} {b b' n : Nat} {X : Nat → Prop} {x : α} {cs : List Value} (h : d.M w b (fun k => ¬ X k) x cs) (hn : n ≤ b) (hb : b' ≤ b) : d.M w b' (fun k => ¬ X k ∧ n ≤ k) x cs :=
  d.M_lower hb (d.M_mono (fun k hk => ⟨hk.1, Nat.le_trans hn hk.2.1⟩) (d.M_bound h))
theorem mkO_two : ∀ j, j < 4 → mkO.getD (2 * j) default = obM (-7701) ∧ mkO.getD (2 * j + 1) default = obM (-7702)
  | 0, _ => ⟨rfl, rfl⟩
  | 1, _ => ⟨rfl, rfl⟩
  | 2, _ => ⟨rfl, rfl⟩
  | 3, _ => ⟨rfl, rfl⟩
  | _ + 4, h => by omega
set_option maxRecDepth 100000 in
set_option maxHeartbeats 16000000 in
theorem objects_room (w : World) (B r : Nat) (V : Nat → Value) (N : Nat) (ex : Nat → Prop) (A : Option Addr) (c : Nat) (L : List Ob) (hr : RoomAt w B r V N ex) (hB : B ≤ w.heap.size) (w0 : World) (h0 : Below w0.heap.size w0 w) (hB0 : w0.heap.size ≤ B) (hC : Kd.C kOb w0 A L.length L) (hl : L.length ≤ 1048576) (hq : ∀ o ∈ L, o.f3.length ≤ 1048576 ∧ o.f4.length ≤ 1048576) (hN : N + (2 * L.length + 1) ≤ 8388608) (hx : ∀ k, ex k → k < w.heap.size) :
    Calls Tryd.prog 36 #[.pointer (some ⟨r, 0, none⟩), .slice A L.length c] w fun e w' => ∃ v V', e = .returned v ∧ Went w w' B r V V' (N + (2 * L.length + 1)) ex ∧ kSO.M w' w.heap.size (fun k => ¬ XV V' r k) L [v] := by
  have INTS := Lib.hid ints_room
  have WORDS := Lib.hid words_room
  go_enter Tryd.func36, Tryd.ntmps36
  go_wp2_with fail
  go_loopw [5, 6] (fun v iv wx => ∃ (i : Nat) (Vx : Nat → Value), i ≤ L.length ∧ iv = .int .i64 i ∧ Went w wx B r V Vx (N + 2 * i) (fun k => ex k ∨ v.ownBlock = some k) ∧ kObS.R 59 wx w.heap.size (fun k => ¬ XV Vx r k) v (L.take i)) (fun _ iv _ => L.length - (intOf iv).toNat)
  case atStart =>
    refine ⟨0, V, by omega, rfl, ⟨hr.step (fun k _ hk => (Below.refl _ _).alloc (Nat.le_refl _) _ |>.block k hk) (fun k hk => ?_) (by omega), Keeps.below ((Below.refl _ _).alloc (Nat.le_refl _) _), fun _ h => .inl h, (Below.refl _ _).alloc hB _⟩, R_empty _ _ (hr.fresh (Nat.le_refl _)) (Nat.le_refl _)⟩
    rcases hk with q | q
    · exact .inl q
    · simp [Value.ownBlock] at q
      exact .inr (by omega)
  case round =>
    obtain ⟨i, Vx, hi, rfl, hW, hR⟩ := hrel
    have hb0 := h0.trans (hW.bel.mono hB0)
    by_cases hlt : i < L.length
    · have dlt : decide ((i : Int) < (L.length : Int)) = true := decide_eq_true (by omega)
      have i0 : (0 : Int) ≤ (i : Int) := by omega
      have i1 : (i : Int) < (L.length : Int) := by omega
      obtain ⟨hq1, hq2⟩ := hq _ (getD_mem default hlt)
      obtain ⟨ad, A3, c3, A4, c4, rfl, e0, e1, e2, e3, e4, l3, hC3, l4, hC4⟩ := ob_at hC i hlt
      have et := Lib.hid (take_snocZ L i default hlt)
      generalize L.getD i default = o at *
      obtain ⟨f0, f1, f2, f3, f4⟩ := o
      simp only at *
      have hvb := Kd.R_lt hR
      have CB := Lib.hid (fun (W : World) (hb : Below B w W) => (⟨cell_later (h0.trans (hb.mono hB0)) e0, cell_later (h0.trans (hb.mono hB0)) e1, cell_later (h0.trans (hb.mono hB0)) e2, cell_later (h0.trans (hb.mono hB0)) e3, cell_later (h0.trans (hb.mono hB0)) e4⟩ : W.cell? (ad.add (i * 5)) = some (.int .u64 f0) ∧ W.cell? ⟨(ad.add (i * 5)).block, (ad.add (i * 5)).off + 1, none⟩ = some (.int .i64 f1) ∧ W.cell? ⟨(ad.add (i * 5)).block, (ad.add (i * 5)).off + 2, none⟩ = some (.int .i64 f2) ∧ W.cell? ⟨(ad.add (i * 5)).block, (ad.add (i * 5)).off + 3, none⟩ = some (.slice A3 f3.length c3) ∧ W.cell? ⟨(ad.add (i * 5)).block, (ad.add (i * 5)).off + 4, none⟩ = some (.slice A4 f4.length c4)))
      clear e0 e1 e2 e3 e4
      have C1 := Lib.hid (fun (W : World) (hw : Went w W B r V Vx (N + 2 * i) (fun k => ex k ∨ u5.ownBlock = some k)) (hs : wr.heap.size ≤ W.heap.size) => INTS.out W B r Vx (N + 2 * i) _ A3 c3 f3 hw.room (Nat.le_trans hB hw.keep.size) (Kd.C_below hC3 (h0.trans (hw.bel.mono hB0))) hq1 (by omega) (fun k hk => by
        rcases hk with q | q
        · exact Nat.lt_of_lt_of_le (hx k q) hw.keep.size
        · exact Nat.lt_of_lt_of_le (hvb k q) hs))
      have C2 := Lib.hid (fun (W : World) (V1 : Nat → Value) (hw : Went w W B r V V1 (N + 2 * i + 1) (fun k => ex k ∨ u5.ownBlock = some k)) (hs : wr.heap.size ≤ W.heap.size) => WORDS.out W B r V1 (N + 2 * i + 1) _ A4 c4 f4 hw.room (Nat.le_trans hB hw.keep.size) (Kd.C_below hC4 (h0.trans (hw.bel.mono hB0))) hq2 (by omega) (fun k hk => by
        rcases hk with q | q
        · exact Nat.lt_of_lt_of_le (hx k q) hw.keep.size
        · exact Nat.lt_of_lt_of_le (hvb k q) hs))
      go_upto_region 5 with fail
      go_region_held3 (fun W => W.cell? (ad.add (i * 5)) = some (.int .u64 f0) ∧ W.cell? ⟨(ad.add (i * 5)).block, (ad.add (i * 5)).off + 1, none⟩ = some (.int .i64 f1) ∧ W.cell? ⟨(ad.add (i * 5)).block, (ad.add (i * 5)).off + 2, none⟩ = some (.int .i64 f2) ∧ W.cell? ⟨(ad.add (i * 5)).block, (ad.add (i * 5)).off + 3, none⟩ = some (.slice A3 f3.length c3) ∧ W.cell? ⟨(ad.add (i * 5)).block, (ad.add (i * 5)).off + 4, none⟩ = some (.slice A4 f4.length c4))
        (first
          | exact CB.out _ hW.bel
          | exact CB.out _ hW.drew.bel
          | exact CB.out _ (hW.trans hW1).bel
          | exact CB.out _ (hW.trans hW1).drew.bel
          | exact CB.out _ (hW.drew.trans hW1).bel
          | exact CB.out _ ((hW.drew.trans hW1).trans hW2).bel
          | exact CB.out _ (((hW.drew.trans hW1).trans hW2).bel.alloc (Nat.le_trans hB ((hW.drew.trans hW1).trans hW2).keep.size) _)
          | exact CB.out _ ((((hW.drew.trans hW1).trans hW2).push hg3 hat3 (fun k hk => Kd.R_base hR k hk) hB).bel))
        (first
          | ((go_at_call 38; refine (C1.out _ hW.drew (Nat.le_refl _)).mono ?_; rintro e w1 ⟨v1, V1, rfl, hW1, hM1⟩; obtain ⟨A6, n6, m6, rfl⟩ := Sub.form hM1))
          | ((go_at_call 75; refine (C2.out _ _ (hW.drew.trans hW1) hW1.keep.size).mono ?_; rintro e w2 ⟨v2, V2, rfl, hW2, hM2⟩; obtain ⟨A7, n7, m7, rfl⟩ := Sub.form hM2))
          | ((refine step_app_ob (w0 := w2) w.heap.size rfl _ _ rfl u5 _ ⟨f0, f1, f2, f3, f4⟩ (.slice A6 n6 m6) (.slice A7 n7 m7) (fun k => ¬ XV V2 r k) (fun k => ¬ XV V2 r k ∧ wr.heap.size ≤ k) rfl rfl (kObS_mkM ⟨f0, f1, f2, f3, f4⟩ (okp_of (hW2.M hM1) (Nat.le_refl _) hW.keep.size) (okp_of hM2 hW1.keep.size (Nat.le_trans hW.keep.size hW1.keep.size))) (fun k hk => ⟨hk.1, fun c => by have := hvb k c.symm; omega⟩) (fun k hk => hW2.room.fresh hk) (hW2.R (hW1.R (Kd.R_drew hR))) (Below.refl _ _) (Nat.le_trans hW.keep.size (Nat.le_trans hW1.keep.size hW2.keep.size)) (by simp only [List.length_take]; omega) ?_; intro v3 w3 hR3 hb3 hg3 hat3)))
      go_wp2_with fail
      go_roundw
      case rel => exact ⟨i + 1, V2, by omega, by go_num, (((hW.drew.trans hW1).trans hW2).push hg3 hat3 (fun k hk => Kd.R_base hR k hk) hB).less (fun _ h => h) (by omega), by rw [et.out]; exact hR3⟩
      case measure => simp [intOf]; omega
    · have dlt : decide ((i : Int) < (L.length : Int)) = false := decide_eq_false (by omega)
      have hiL : i = L.length := by omega
      subst hiL
      have hR' : kObS.R 59 wr w.heap.size (fun k => ¬ XV Vx r k) u5 (L ++ mkO.take (2 * 0)) := by rw [List.take_of_length_le (by omega)] at hR; simpa using hR
      clear hR
      go_wp2_with fail
      go_loopw [5, 7] (fun v iv wx => ∃ j : Nat, j ≤ 4 ∧ iv = .int .i64 ((2 * j : Nat) : Int) ∧ Went w wx B r V Vx (N + 2 * L.length) (fun k => ex k ∨ v.ownBlock = some k) ∧ kObS.R 59 wx w.heap.size (fun k => ¬ XV Vx r k) v (L ++ mkO.take (2 * j))) (fun _ iv _ => 8 - (intOf iv).toNat)
      case atStart => exact ⟨0, by omega, rfl, hW, hR'⟩
      case round =>
        clear hR' hW hb0
        obtain ⟨j, hj, rfl, hW, hR⟩ := hrel
        have hsz := hW.keep.size
        by_cases hjt : j < 4
        · have djt : decide (((2 * j : Nat) : Int) < 8) = true := decide_eq_true (by omega)
          have et := Lib.hid (take2 mkO (2 * j) default (by have : mkO.length = 8 := rfl; omega))
          rw [(mkO_two j hjt).1, (mkO_two j hjt).2] at et
          have okw : ∀ k, wr.heap.size ≤ k → ¬ XV Vx r k ∧ some k ≠ u5.ownBlock := fun k hk => ⟨hW.room.fresh hk, fun c => by have := Kd.R_lt hR k c.symm; omega⟩
          have okw : ∀ k, wr.heap.size ≤ k → ¬ XV Vx r k ∧ some k ≠ u5.ownBlock := fun k hk => ⟨hW.room.fresh hk, fun c => by have := Kd.R_lt hR k c.symm; omega⟩
          have RL := Lib.hid (show (L ++ mkO.take (2 * j)).length ≤ 1048616 by have : mkO.length = 8 := rfl; simp only [List.length_append, List.length_take]; omega)
          have MO := Lib.hid (fun x : Int => kObS_mkM (w := wr) (base := w.heap.size) (ok := fun k => wr.heap.size ≤ k) (obM x) (v3 := nilS) (v4 := nilS) (Sub.all (Kd.R_nil _ _ _ _ _)) (Sub.all (Kd.R_nil _ _ _ _ _)))
          go_wp2_with (at_builtin; refine R_append2 kObS (w0 := wr) w.heap.size rfl _ _ 22 59 (.agg #[.int .u64 0, .int .i64 0, .int .i64 0, nilS, nilS]) 72 rfl Tryd.underlying22 infoO rfl (by decide) (by omega) u5 _ (obM (-7701)) (obM (-7702)) [.int .u64 0, .int .i64 (-7701), .int .i64 0, nilS, nilS] [.int .u64 0, .int .i64 (-7702), .int .i64 0, nilS, nilS] (fun k => ¬ XV Vx r k) (fun k => wr.heap.size ≤ k) rfl rfl (MO.out (-7701)) (MO.out (-7702)) okw (fun k hk => (okw k hk).1) hR (Below.refl _ _) hsz ?h3 ?_; (case h3 => have := RL.out; omega); intro v1 w1 hR1 hb1 hg1 hat1)
          go_roundw
          case rel => exact ⟨j + 1, by omega, by go_num, hW.push hg1 hat1 (fun k hk => Kd.R_base hR k hk) hB, by rw [show 2 * (j + 1) = 2 * j + 2 by omega, et.out, ← List.append_assoc]; exact hR1⟩
          case measure => simp [intOf]; omega
        · have djt : decide (((2 * j : Nat) : Int) < 8) = false := decide_eq_false (by omega)
          have hj20 : j = 4 := by omega
          subst hj20
          have hR' : kObS.R 59 wr w.heap.size (fun k => ¬ XV Vx r k) u5 (L ++ mkO) := hR
          clear hR
          have hrA := hW.room
          have hml : mkO.length = 8 := rfl
          obtain ⟨fl, hfl, hl1, hl2⟩ : ∃ fl : List Ob, Go.RowKit.Hid (L ++ mkO = fl) ∧ L.length ≤ fl.length ∧ fl.length ≤ 1048616 := ⟨_, Lib.hid rfl, by simp, by simp; omega⟩
          rw [hfl.out] at hR'
          clear hml
          obtain ⟨A5, c5, rfl, hc5, hrd⟩ := Kd.R_reads hR'
          clear hrd
          obtain ⟨cB, fB⟩ := blk_at hrA.box
          have k1 : wr.cell? ⟨r, 7, none⟩ = some (Vx 4) := cB 7
          obtain ⟨xs, hX, hlX, hEX⟩ := hrA.row 4 (by omega)
          have hW' := hW.less (ex' := ex) (fun k hk => .inl hk) (Nat.le_refl _)
          have hok : ∀ k, ¬ XV Vx r k ∧ w.heap.size ≤ k → Ot ex Vx r 4 k ∧ some k ≠ (Vx 4).ownBlock := fun k hk => ot_of hk.1 (fun c => by have := hx k c; omega) (by omega)
          obtain ⟨xs, hX, hlX, hEX⟩ := hW'.room.row 4 (by omega)
          have hM : kSO.M wr B (fun k => ¬ XV Vx r k ∧ w.heap.size ≤ k) fl [.slice A5 fl.length c5] := Sub.all (Kd.R_lower (Kd.R_mono (Kd.R_bound hR') (fun k hk => ⟨hk.1, hk.2.1⟩)) hB)
          have hMl := Lib.hid hM
          have hR5 := Lib.hid hR'
          clear hR' hM
          go_wp2_with (at_builtin; refine R_append1 kSO (w0 := wr) B rfl _ _ 35 22 nilS 24 rfl Tryd.underlying35 infoSO rfl (by decide) (by omega) (Vx 4) _ fl (.slice A5 fl.length c5) (Ot ex Vx r 4) (fun k => ¬ XV Vx r k ∧ w.heap.size ≤ k) rfl rfl hMl.out hok (fun k hk => (hok k ⟨hrA.fresh hk, Nat.le_trans hsz hk⟩).1) hX (Below.refl _ _) ?h2 ?h3 ?_; (case h2 => exact Nat.le_trans hB hsz); (case h3 => omega); intro v1 w1 hR1 hb1 hg1 hat1; obtain ⟨A1, n1, m1, rfl⟩ : ∃ A n m, v1 = .slice A n m := (by obtain ⟨A1, m1, e⟩ := Kd.R_slice hR1; exact ⟨_, _, _, e⟩); obtain ⟨cC, fC⟩ := blk_at (blk_grown hrA.box hg1 (fun e => ((hrA.row 4 (by omega)).own r e.symm).1.2.1 rfl)); have k2 : w1.cell? ⟨r, 7, none⟩ = some (Vx 4) := cC 7)
          go_ret
          have hfl' := hfl.out
          obtain ⟨W1, f1⟩ := room_end (i := 4) (N' := N + (2 * L.length + 1)) hW' hB (by omega) hR5.out ⟨xs ++ [fl], hR1, by simp; omega, fun l hl => by
            rcases List.mem_append.1 hl with q | q
            · exact hEX l q
            · cases List.mem_singleton.1 q; exact ⟨L, hfl'.symm⟩⟩ hg1 hat1 (hW.bel.trans hb1) (by omega)
          subst hfl'
          exact ⟨_, _, rfl, W1, Sub.pre f1 hl1⟩
end Go.Proofs.YtogpgkoelplknaaDoor
end
