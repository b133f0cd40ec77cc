/- Merged texts: Lg13, Lg14, Lg15, Lg16, Lg17, Dm1, Dm2, Lg18, Lg19, Lg20, Dm3, Rm1, Rm2. No condition of its own: each text says what it holds. -/
import Derived.Test.YtogpgkoelplknaaDoorGRt1
import Derived.StillTailTactics
import Derived.Lib.SliceRun
import Derived.Deep.RegionHeld3
section
namespace Go.Proofs.YtogpgkoelplknaaDoor
open Go.RowKit Go.BigFrame PLensPaths Go.Proofs.YtogpgkoelplknaaDoorW.PrintWords Go.Proofs.YtogpgkoelplknaaDoorW.PrintMore
set_option linter.unusedVariables false
section
structure PK (G : Gr) (S : List Bool) (W : List Int) : Prop where
 sl : S.length = G.obs.length + 1
 s : ∀ x : Int, 0 < x -> x <= (G.obs.length : Int) -> (S.getD x.toNat false = true ↔ x ∈ W)
 nd : W.Nodup
 hit : ∀ x ∈ W, Hit G x
theorem PK.len {G : Gr} (R : Rng G) {S : List Bool} {W : List Int} (h : PK G S W) : W.length <= G.obs.length :=
 nodup_len h.nd fun x hx => by have := (h.hit x hx).bd R; omega
theorem PK.start (G : Gr) : PK G ((List.replicate (G.obs.length + 1) false).set 0 true) [] := by
 refine ⟨by simp, fun x h0 h1 => ?_, List.nodup_nil, fun x hx => by simp at hx⟩
 rw [set_getD (by simp), if_neg (by omega), replicate_getD]
 simp
theorem PK.step {G : Gr} (R : Rng G) {S : List Bool} {W : List Int} (h : PK G S W) {n : Int} (hn : 0 < n -> Hit G n) : PK G (seeStep (S, W) n).1 (seeStep (S, W) n).2 /\ (0 < n -> n ∈ (seeStep (S, W) n).2) /\ ∃ M, (seeStep (S, W) n).2 = W ++ M := by
 unfold seeStep
 by_cases c : 0 < n /\ S.getD n.toNat false = false
 ·rw [if_pos c]
  obtain ⟨c1, c2⟩ := c
  have hx := hn c1
  have hb := hx.bd R
  have hw : n ∉ W := fun q => by rw [(h.s n hb.1 hb.2).2 q] at c2; cases c2
  refine ⟨⟨by simp [h.sl], fun y y0 y1 => ?_, ?_, fun y hy => ?_⟩, fun _ => by simp, ⟨[n], rfl⟩⟩
  ·simp only
   rw [set_getD (by rw [h.sl]; omega)]
   by_cases e : n.toNat = y.toNat
   ·have : n = y := by omega
    subst this
    rw [if_pos e]; simp
   ·rw [if_neg e, h.s y y0 y1]
    have : y ≠ n := fun q => e (by rw [q])
    simp [this]
  ·simp only
   rw [List.nodup_append]
   refine ⟨h.nd, by simp, fun a ha b hb' => ?_⟩
   simp at hb'
   subst hb'
   exact fun e => hw (e ▸ ha)
  ·rcases List.mem_append.1 hy with q | q
   ·exact h.hit y q
   ·simp at q; subst q; exact hx
 ·rw [if_neg c]
  refine ⟨h, fun h0 => ?_, [], by simp⟩
  have hb := (hn h0).bd R
  refine (h.s n hb.1 hb.2).1 ?_
  cases q : S.getD n.toNat false
  ·exact absurd ⟨h0, q⟩ c
  ·rfl
theorem PK.fold {G : Gr} (R : Rng G) : ∀ (l : List Int) {S : List Bool} {W : List Int}, PK G S W -> (∀ x ∈ l, 0 < x -> Hit G x) -> PK G (l.foldl seeStep (S, W)).1 (l.foldl seeStep (S, W)).2 /\ (∀ x ∈ l, 0 < x -> x ∈ (l.foldl seeStep (S, W)).2) /\ ∃ M, (l.foldl seeStep (S, W)).2 = W ++ M := by
 intro l
 induction l with
 | nil => intro S W h _; exact ⟨h, fun x hx => by simp at hx, [], by simp⟩
 | cons n l ih =>
  intro S W h hl
  obtain ⟨h1, h2, M, h3⟩ := h.step R (hl n List.mem_cons_self)
  obtain ⟨k1, k2, M', k3⟩ := ih h1 (fun x hx => hl x (List.mem_cons_of_mem _ hx))
  rw [List.foldl_cons]
  have e : seeStep (S, W) n = ((seeStep (S, W) n).1, (seeStep (S, W) n).2) := rfl
  rw [e]
  refine ⟨k1, fun x hx h0 => ?_, M ++ M', by rw [k3, h3, List.append_assoc]⟩
  rcases List.mem_cons.1 hx with rfl | q
  ·rw [k3]; exact List.mem_append.2 (.inl (h2 h0))
  ·exact k2 x q h0
theorem mem_slots {l : List (List (List Int))} {fr : List (List Int)} {f : List Int} (h1 : fr ∈ l) (h2 : f ∈ fr) {x : Int} (hx : x ∈ f) : x ∈ slotsP l := by
 unfold slotsP
 exact List.mem_flatten.2 ⟨fr.flatten, List.mem_map.2 ⟨fr, h1, rfl⟩, List.mem_flatten.2 ⟨f, h2, hx⟩⟩
set_option maxRecDepth 100000 in
set_option maxHeartbeats 8000000 in
theorem iknown_any (g : Gv) (G : Gr) (w : World) (h : GAt w g G) (s : Small G) (R : Rng G) :
  Calls Tryd.prog 79 #[gval g G] w fun e w' => e = .returned (.bool (knownB G)) /\ Below w.heap.size w w' := by
 have bd := s.bd
 have fb := s.fr
 have hM := s.m
 have hn := bd.n
 obtain ⟨A0, A1, A2, A3, A4, c0, c1, c2, c3, c4⟩ := g
 have BX := boxed h
 unfold gval gcells
 unfold gcells at BX
 simp only at BX ⊢
 go_enter Tryd.func79, Tryd.ntmps79
 go_upto_region 1 with fail
 generalize w.alloc _ = wA at *
 obtain ⟨hX, hB, lA, hA⟩ := BX
 obtain ⟨cA, fA⟩ := blk_at hX
 go_upto_region 2 with (refine make_bools (w0 := wA) wA.heap.size rfl rfl _ _ rfl (G.obs.length + 1) rfl rfl ?h1 (Below.refl _ _) (Nat.le_refl _) ?_; (case h1 => omega); intro v1 w1 hS hb1 hg1 hat1; clear hg1 hat1 cA fA; obtain ⟨gS, cS, rfl, gS0, gS1⟩ := RB_form hS (by simp); simp only [List.length_replicate] at hS ⊢)
 obtain ⟨hs2, bs2⟩ := boxed_any w1 #[.slice (some ⟨gS, 0, none⟩) (G.obs.length + 1) cS] 52
 have hS2 := Kd.R_alloc hS (.cells #[.slice (some ⟨gS, 0, none⟩) (G.obs.length + 1) cS] 52)
 have hb2 := hb1.trans (bs2.mono hb1.size)
 have hbs : wA.heap.size <= w1.heap.size := hb1.size
 generalize w1.alloc (.cells #[.slice (some ⟨gS, 0, none⟩) (G.obs.length + 1) cS] 52) = w2 at *
 generalize w1.heap.size = bs at *
 clear hS hb1 bs2
 obtain ⟨c2s, f2s⟩ := blk_at hs2
 obtain ⟨c2z, f2z⟩ := RB_cell hS2 0 (by omega)
 go_upto_region 3 with fail
 obtain ⟨hS3, hg3⟩ := RB_put hS2 0 true
 have hs3 := blk_grown hs2 hg3 (Kd.R_ne hS2 hs2 (by decide))
 have hb3 := hb2.setCell (p := ⟨gS, 0, none⟩) gS0 (.bool true)
 generalize w2.setCell ⟨gS, 0, none⟩ (.bool true) = w3 at *
 clear hS2 hs2 hb2 hg3 c2s f2s c2z f2z
 go_upto_region 4 with fail
 obtain ⟨hw4, bw4⟩ := boxed_any w3 #[.slice none 0 0] 24
 have hK := (KsAt.mk (box_keep hs3 bw4) hw4 (Kd.R_alloc hS3 _) (RI_nil _ wA.heap.size) hbs hb3.size : KsAt _ wA.heap.size bs w3.heap.size _ [] _ _)
 have hb4 := hb3.trans (bw4.mono hb3.size)
 have hPK := PK.start G
 generalize w3.alloc (.cells #[.slice none 0 0] 24) = w4 at *
 generalize w3.heap.size = bw at *
 generalize (List.replicate (G.obs.length + 1) false).set 0 true = S0 at *
 clear hs3 hS3 hb3 bw4 hw4 hbs
 obtain ⟨cA, fA⟩ := blk_at (box_keep hX hb4)
 have hI : (slotsP G.slots).length + G.hands.length + G.queue.length + G.reg.length <= 4194304 := by
  unfold initP at hM
  simp only [List.length_append] at hM
  omega
 have hnm := bd.m
 have SEE := Lib.hid (fun (W : World) (S : List Bool) (L : List Int) (vW : Value) (A : Option Addr) (c : Nat) (l : List Int) (hK : KsAt W wA.heap.size bs bw S L (.slice (some ⟨gS, 0, none⟩) (G.obs.length + 1) cS) vW) (hP : PK G S L) (hl : Kd.C (Kd.int .i64) wA A l.length l) (hb : Below wA.heap.size wA W) (hh : ∀ x ∈ l, 0 < x -> Hit G x) (hll : l.length <= 4194304) =>
  see_any wA W wA.heap.size bs bw G.obs.length S L _ vW A c l hK hP.sl hl hb (Nat.le_refl _) hb.size (fun x hx => by
   by_cases q : 0 < x
   ·exact ((hh x hx q).bd R).2
   ·omega) hn (by have := hP.len R; omega))
 go_wp2_with fail
 go_loopw [22] (fun tv wx => ∃ (t : Nat) (S : List Bool) (W : List Int) (vW : Value), t <= G.slots.length /\ tv = .int .i64 t /\ PK G S W /\ (∀ x ∈ slotsP G.slots, 0 < x -> x ∈ W \/ x ∈ slotsP (G.slots.drop t)) /\ KsAt wx wA.heap.size bs bw S W (.slice (some ⟨gS, 0, none⟩) (G.obs.length + 1) cS) vW /\ Below wA.heap.size wA wx) (fun tv _ => G.slots.length - (intOf tv).toNat)
 case atStart => exact ⟨0, S0, [], _, by omega, rfl, hPK, fun x hx _ => .inr hx, hK, hb4⟩
 case round =>
  clear hPK hK hb4 cA fA
  obtain ⟨t, S, W, vW, ht, rfl, hPK, hin, hK, hbr⟩ := hrel
  obtain ⟨cA, fA⟩ := blk_at (box_keep hX hbr)
  by_cases hlt : t < G.slots.length
  ·have dlt : decide ((t : Int) < (G.slots.length : Int)) = true := decide_eq_true (by omega)
   have t0 : (0 : Int) <= (t : Int) := by omega
   have t1 : (t : Int) < (G.slots.length : Int) := by omega
   have hmem := getD_mem (l := G.slots) [] hlt
   have hm := fb _ hmem
   have es : slotsP (G.slots.drop t) = (G.slots.getD t []).flatten ++ slotsP (G.slots.drop (t + 1)) := by rw [drop_cons [] hlt]; rfl
   rw [es] at hin
   obtain ⟨ad1, B1, b1, e1, hcA, hl1, hC1⟩ := sl_at hA.r1 t hlt
   simp only at e1
   subst e1
   have hc1 := cell_later hbr hcA
   generalize G.slots.getD t [] = fr at *
   obtain ⟨m1, m2, m3⟩ := hm
   have HI := Lib.hid hin
   clear hin es hcA
   go_wp2_with fail
   go_loopw [28] (fun fv wx => ∃ (f : Nat) (S : List Bool) (W : List Int) (vW : Value), f <= fr.length /\ fv = .int .i64 f /\ PK G S W /\ (∀ x ∈ slotsP G.slots, 0 < x -> x ∈ W \/ x ∈ (fr.drop f).flatten ++ slotsP (G.slots.drop (t + 1))) /\ KsAt wx wA.heap.size bs bw S W (.slice (some ⟨gS, 0, none⟩) (G.obs.length + 1) cS) vW /\ Below wA.heap.size wA wx) (fun fv _ => fr.length - (intOf fv).toNat)
   case atStart => exact ⟨0, S, W, vW, by omega, rfl, hPK, HI.out, hK, hbr⟩
   case round =>
    clear cA fA hPK hK hbr hc1
    obtain ⟨f, S, W, vW, hf, rfl, hPK, hin, hK, hbr⟩ := hrel
    by_cases hlf : f < fr.length
    ·have dlf : decide ((f : Int) < (fr.length : Int)) = true := decide_eq_true (by omega)
     have f0 : (0 : Int) <= (f : Int) := by omega
     have f1 : (f : Int) < (fr.length : Int) := by omega
     obtain ⟨ad2, B2, b2, rfl, hcB, hl2, hC2⟩ := sl_at hC1 f hlf
     have hc2 := cell_later hbr hcB
     have hfm := getD_mem (l := fr) [] hlf
     have hq := m3 _ hfm
     have hhit : ∀ x ∈ fr.getD f [], 0 < x -> Hit G x := fun x hx h0 => .init (by unfold initP; simp only [List.mem_append]; exact .inl (.inl (.inl (mem_slots hmem hfm hx)))) h0
     rw [drop_cons [] hlf, flat_cons, List.append_assoc] at hin
     generalize fr.getD f [] = l at *
     have SC := Lib.hid (SEE.out _ S W vW B2 b2 l hK hPK hC2 hbr hhit (by omega))
     obtain ⟨p1, p2, M, p3⟩ := hPK.fold R l hhit
     have HN := Lib.hid (show ∀ x ∈ slotsP G.slots, 0 < x -> x ∈ (l.foldl seeStep (S, W)).2 \/ x ∈ (fr.drop (f + 1)).flatten ++ slotsP (G.slots.drop (t + 1)) from fun x hx h0 => by
      rcases hin x hx h0 with q | q
      ·left; rw [p3]; exact List.mem_append.2 (.inl q)
      ·rcases List.mem_append.1 q with q | q
       ·exact .inl (p2 x q h0)
       ·exact .inr q)
     clear hin p2 p3 hcB hhit hfm
     go_wp2_with (go_at_call 116; refine SC.out.mono ?_; rintro e w5 ⟨rfl, ⟨vW5, hK5⟩, hb5⟩)
     go_roundw
     case rel => exact ⟨f + 1, _, _, vW5, by omega, by go_num, p1, HN.out, hK5, hb5⟩
     case measure => simp [intOf]; omega
    ·have dlf : decide ((f : Int) < (fr.length : Int)) = false := decide_eq_false (by omega)
     rw [List.drop_of_length_le (by omega), List.flatten_nil, List.nil_append] at hin
     have HN := Lib.hid hin
     clear hin
     go_wp2_with fail
     go_roundw
     case rel => exact ⟨t + 1, S, W, vW, by omega, by go_num, hPK, HN.out, hK, hbr⟩
     case measure => simp [intOf]; omega
  ·have dlt : decide ((t : Int) < (G.slots.length : Int)) = false := decide_eq_false (by omega)
   rw [List.drop_of_length_le (by omega)] at hin
   have hin' := Lib.hid (fun x (hx : x ∈ slotsP G.slots) (h0 : 0 < x) => (by rcases hin x hx h0 with q | q; exact q; simp [slotsP] at q : x ∈ W))
   clear hin
   have hh5 : ∀ x ∈ G.hands, 0 < x -> Hit G x := fun x hx h0 => .init (by unfold initP; simp only [List.mem_append]; exact .inl (.inl (.inr hx))) h0
   have SC5 := Lib.hid (SEE.out _ S W vW A2 c2 G.hands hK hPK hA.r2 hbr hh5 (by omega))
   obtain ⟨p5, i5, M5, e5⟩ := hPK.fold R G.hands hh5
   have j5 := Lib.hid (fun x (q : x ∈ W) => (by rw [e5]; exact List.mem_append.2 (.inl q) : x ∈ (G.hands.foldl seeStep (S, W)).2))
   have J5 := Lib.hid i5
   clear e5 hh5 i5
   generalize (G.hands.foldl seeStep (S, W)).1 = S5 at *
   generalize (G.hands.foldl seeStep (S, W)).2 = W5 at *
   go_upto_region 15 with (go_at_call 116; refine SC5.out.mono ?_; rintro e w50 ⟨rfl, ⟨vW5, hK5⟩, hb5⟩; clear cA fA; obtain ⟨cA, fA⟩ := blk_at (box_keep hX hb5))
   have hh6 : ∀ x ∈ G.queue, 0 < x -> Hit G x := fun x hx h0 => .init (by unfold initP; simp only [List.mem_append]; exact .inl (.inr hx)) h0
   have SC6 := Lib.hid (SEE.out _ S5 W5 vW5 A4 c4 G.queue hK5 p5 hA.r4 hb5 hh6 (by omega))
   obtain ⟨p6, i6, M6, e6⟩ := p5.fold R G.queue hh6
   have j6 := Lib.hid (fun x (q : x ∈ W5) => (by rw [e6]; exact List.mem_append.2 (.inl q) : x ∈ (G.queue.foldl seeStep (S5, W5)).2))
   have J6 := Lib.hid i6
   clear e6 hh6 i6
   generalize (G.queue.foldl seeStep (S5, W5)).1 = S6 at *
   generalize (G.queue.foldl seeStep (S5, W5)).2 = W6 at *
   go_upto_region 16 with (go_at_call 116; refine SC6.out.mono ?_; rintro e w60 ⟨rfl, ⟨vW6, hK6⟩, hb6⟩; clear cA fA; obtain ⟨cA, fA⟩ := blk_at (box_keep hX hb6))
   have hh7 : ∀ x ∈ G.reg, 0 < x -> Hit G x := fun x hx h0 => .init (by unfold initP; simp only [List.mem_append]; exact .inr hx) h0
   have SC7 := Lib.hid (SEE.out _ S6 W6 vW6 A3 c3 G.reg hK6 p6 hA.r3 hb6 hh7 (by omega))
   obtain ⟨p7, i7, M7, e7⟩ := p6.fold R G.reg hh7
   have j7 := Lib.hid (fun x (q : x ∈ W6) => (by rw [e7]; exact List.mem_append.2 (.inl q) : x ∈ (G.reg.foldl seeStep (S6, W6)).2))
   have J7 := Lib.hid i7
   clear e7 hh7 i7
   generalize (G.reg.foldl seeStep (S6, W6)).1 = S7 at *
   generalize (G.reg.foldl seeStep (S6, W6)).2 = W7 at *
   go_upto_region 17 with (go_at_call 116; refine SC7.out.mono ?_; rintro e w70 ⟨rfl, ⟨vW7, hK7⟩, hb7⟩; clear cA fA; obtain ⟨cA, fA⟩ := blk_at (box_keep hX hb7))
   have HI := Lib.hid (show ∀ x ∈ initP G, 0 < x -> x ∈ W7 from fun x hx h0 => by
    unfold initP at hx
    simp only [List.mem_append] at hx
    rcases hx with ((q | q) | q) | q
    ·exact j7.out x (j6.out x (j5.out x (hin'.out x q h0)))
    ·exact j7.out x (j6.out x (J5.out x q h0))
    ·exact j7.out x (J6.out x q h0)
    ·exact J7.out x q h0)
   clear hK hPK hbr hK5 p5 hb5 hK6 p6 hb6 SC5 SC6 SC7 j5 j6 j7 J5 J6 J7 hin'
   go_wp2_with fail
   go_loopw [10] (fun iv wx => ∃ (i : Nat) (S : List Bool) (W : List Int) (vW : Value), i <= W.length /\ iv = .int .i64 i /\ PK G S W /\ (∀ x ∈ initP G, 0 < x -> x ∈ W) /\ (∀ j, j < i -> ∀ y ∈ psOf G (W.getD j 0), 0 < y -> y ∈ W) /\ KsAt wx wA.heap.size bs bw S W (.slice (some ⟨gS, 0, none⟩) (G.obs.length + 1) cS) vW /\ Below wA.heap.size wA wx) (fun iv _ => G.obs.length + 1 - (intOf iv).toNat)
   case atStart => exact ⟨0, S7, W7, vW7, by omega, rfl, p7, HI.out, fun j hj => by omega, hK7, hb7⟩
   case round =>
    clear cA fA HI p7 hK7 hb7
    obtain ⟨i, S, W, vW, hi, rfl, hPK, hin, hdo, hK, hbr⟩ := hrel
    obtain ⟨cA, fA⟩ := blk_at (box_keep hX hbr)
    obtain ⟨ck, fk⟩ := blk_at hK.k
    have hWl := hPK.len R
    have HI := Lib.hid hin
    have HD := Lib.hid hdo
    clear hin hdo
    by_cases hlt : i < W.length
    ·obtain ⟨gW, cW, rfl, gW0, gW1, hcW0⟩ := RI_form hK.rw (by omega)
     obtain ⟨hcW, hfW⟩ := hcW0 i hlt
     have dlt : decide ((i : Int) < (W.length : Int)) = true := decide_eq_true (by omega)
     have i0 : (0 : Int) <= (i : Int) := by omega
     have i1 : (i : Int) < (W.length : Int) := by omega
     have hit := hPK.hit _ (getD_mem 0 hlt)
     have hb := hit.bd R
     generalize hx : W.getD i 0 = x at *
     have HX := Lib.hid hx
     clear hcW0 hx
     obtain ⟨m, rfl⟩ : ∃ m : Nat, x = (m : Int) + 1 := ⟨(x - 1).toNat, by omega⟩
     have hm : m < G.obs.length := by omega
     obtain ⟨ad0, P3, p3, P4, p4, e0, -, -, -, hp3, -, hl3, hC3, -, -⟩ := ob_at hA.r0 m hm
     simp only at e0
     subst e0
     have hcP := cell_later hbr hp3
     have ew : IntKind.i64.wrap ((m : Int) + 1 - 1) = (m : Int) := by rw [IntKind.wrap_i64]; omega
     have m0 : (0 : Int) <= (m : Int) := by omega
     have m1 : (m : Int) < (G.obs.length : Int) := by omega
     have ep : psOf G ((m : Int) + 1) = (G.obs.getD m default).f3 := by unfold psOf; rw [show ((m : Int) + 1 - 1).toNat = m by omega]
     have hq := (bd.i64 _ (getD_mem default hm)).1
     have hh : ∀ y ∈ (G.obs.getD m default).f3, 0 < y -> Hit G y := fun y hy h0 => .step hit (by rw [ep]; exact hy) h0
     have EP := Lib.hid ep
     clear ep hp3
     generalize (G.obs.getD m default).f3 = l at *
     have SC := Lib.hid (SEE.out wr.drew S W _ P3 p3 l (KsAt.mk hK.s hK.k (Kd.R_drew hK.rs) (Kd.R_drew hK.rw) hK.sB hK.kB) hPK hC3 hbr.drew hh (by omega))
     obtain ⟨q1, q2, M, q3⟩ := hPK.fold R l hh
     have hpre : ∀ j, j < W.length -> (l.foldl seeStep (S, W)).2.getD j 0 = W.getD j 0 := fun j hj => by
      rw [q3, List.getD_eq_getElem?_getD, List.getElem?_append_left hj, <- List.getD_eq_getElem?_getD]
     have hlen' : W.length <= (l.foldl seeStep (S, W)).2.length := by rw [q3, List.length_append]; omega
     have hmem' : ∀ y ∈ W, y ∈ (l.foldl seeStep (S, W)).2 := fun y hy => by rw [q3]; exact List.mem_append.2 (.inl hy)
     have HI2 := Lib.hid (fun x (hx : x ∈ initP G) (h0 : 0 < x) => hmem' x (HI.out x hx h0))
     have HD2 := Lib.hid (fun j (hj : j < i + 1) y (hy : y ∈ psOf G ((l.foldl seeStep (S, W)).2.getD j 0)) (h0 : 0 < y) => (by
      rw [hpre j (by omega)] at hy
      by_cases e : j < i
      ·exact hmem' y (HD.out j e y hy h0)
      ·obtain rfl : j = i := by omega
       rw [HX.out, EP.out] at hy
       exact q2 y hy h0 : y ∈ (l.foldl seeStep (S, W)).2))
     clear hpre hmem' q2 q3 hh
     generalize (l.foldl seeStep (S, W)).1 = S9 at *
     generalize (l.foldl seeStep (S, W)).2 = W9 at *
     go_upto_region 20 with fail
     have ew2 : IntKind.i64.wrap (m : Int) = (m : Int) := by rw [IntKind.wrap_i64]; omega
     refine wp_region_still_tail 11 (by kernel_rfl) (by kernel_rfl) ?_
     simp only [List.take_succ_cons, List.take_zero, List.drop_succ_cons, List.drop_zero]
     iterate 11 still_step
     refine wpStill_nil ?_
     change wpList _ _ _ _ _ wr.drew
     clear ew2 ew
     go_wp2_with (go_at_call 116; refine SC.out.mono ?_; rintro e w9 ⟨rfl, ⟨vW9, hK9⟩, hb9⟩)
     go_roundw
     case rel => exact ⟨i + 1, S9, W9, vW9, by omega, by go_num, q1, HI2.out, HD2.out, hK9, hb9⟩
     case measure => simp [intOf]; omega
    ·have dlt : decide ((i : Int) < (W.length : Int)) = false := decide_eq_false (by omega)
     obtain rfl : i = W.length := by omega
     obtain ⟨AW, CW, rfl, -⟩ := Kd.R_reads hK.rw
     have E := Lib.hid (known_count R hPK.nd hPK.hit HI.out (fun x hx y hy h0 => by
      obtain ⟨j, hj, e⟩ := List.mem_iff_getElem.1 hx
      have e' : W.getD j 0 = x := by rw [List.getD_eq_getElem?_getD, List.getElem?_eq_getElem hj]; exact e
      exact HD.out j hj y (by rw [e']; exact hy) h0))
     clear hPK hWl HI HD
     generalize W.length = nW at *
     go_wp2_with fail
     go_ret
     exact ⟨ret_bool (by rw [<- E.out, Bool.eq_iff_iff, beq_iff_eq, decide_eq_true_eq]; omega), hB.trans (hbr.mono (Nat.le_of_lt lA))⟩
end
section
theorem holders_eq (G : Gr) : holdersB G = (slotsB G && listsB G) := by
 unfold holdersB slotsB listsB
 rw [Bool.eq_iff_iff]
 simp only [Bool.and_eq_true]
 constructor
 ·rintro ⟨⟨⟨⟨⟨⟨⟨a, b⟩, c⟩, d⟩, e⟩, f⟩, g⟩, h⟩
  exact ⟨⟨⟨⟨⟨a, b⟩, c⟩, e⟩, d⟩, ⟨⟨g, f⟩, h⟩⟩
 ·rintro ⟨⟨⟨⟨⟨a, b⟩, c⟩, e⟩, d⟩, ⟨⟨g, f⟩, h⟩⟩
  exact ⟨⟨⟨⟨⟨⟨⟨a, b⟩, c⟩, d⟩, e⟩, f⟩, g⟩, h⟩
set_option maxRecDepth 100000 in
set_option maxHeartbeats 4000000 in
theorem icheck_any (g : Gv) (G : Gr) (w : World) (h : GAt w g G) (tb : Tab w) (s : Small G) :
  Calls Tryd.prog 39 #[gval g G] w fun e w' => e = .returned (.int .i64 (if okB G = true then 0 else 164)) /\ Below w.heap.size w w' := by
 obtain ⟨A0, A1, A2, A3, A4, c0, c1, c2, c3, c4⟩ := g
 have q1 := fun (W : World) (hb : Below w.heap.size w W) => iobjects_any ⟨A0, A1, A2, A3, A4, c0, c1, c2, c3, c4⟩ G W (h.below hb) (tb.below hb) s.bd
 have q2 := fun (W : World) (hb : Below w.heap.size w W) => holders_any ⟨A0, A1, A2, A3, A4, c0, c1, c2, c3, c4⟩ G W (h.below hb) s.bd s.fr
 have q4 := fun (R : Rng G) (W : World) (hb : Below w.heap.size w W) => iknown_any ⟨A0, A1, A2, A3, A4, c0, c1, c2, c3, c4⟩ G W (h.below hb) s R
 have BX := boxed h
 have hrng := Lib.hid (show objsB G = true -> holdersB G = true -> Rng G from fun a b => by
  rw [holders_eq, Bool.and_eq_true] at b
  exact rng_of a b.1 b.2)
 have hok : okB G = (objsB G && holdersB G && knownB G) := by unfold okB; rw [holders_eq]; simp only [Bool.and_assoc]
 rw [hok]
 clear hok
 unfold gval gcells at *
 simp only at *
 have C1 := Lib.hid q1
 have C2 := Lib.hid q2
 have C4 := Lib.hid q4
 clear q1 q2 q4
 generalize objsB G = b1 at *
 generalize holdersB G = b2 at *
 generalize knownB G = b4 at *
 cases b1 <;> cases b2
 case true.true =>
  have R := hrng.out rfl rfl
  cases b4
  all_goals
   go_enter Tryd.func39, Tryd.ntmps39
   go_upto_region 1 with fail
   generalize w.alloc _ = wA at *
   obtain ⟨hX, hB, lA, hA⟩ := BX
   obtain ⟨cA, fA⟩ := blk_at hX
   go_wp2_with (first | (go_at_call 77; refine (C1.out _ hB).mono ?_; rintro e w2 ⟨rfl, hb2⟩; have hB2 := hB.trans (hb2.mono hB.size); clear cA fA; obtain ⟨cA, fA⟩ := blk_at (box_keep hX hb2)) | (go_at_call 78; refine (C2.out _ hB2).mono ?_; rintro e w3 ⟨rfl, hb3⟩; have hB3 := hB2.trans (hb3.mono hB2.size); clear cA fA; obtain ⟨cA, fA⟩ := blk_at (box_keep hX (hb2.trans (hb3.mono hb2.size)))) | (go_at_call 79; refine (C4.out R _ hB3).mono ?_; rintro e w5 ⟨rfl, hb5⟩; have hB5 := hB3.trans (hb5.mono hB3.size)))
   go_ret
   exact ⟨rfl, hB5⟩
 all_goals
  go_enter Tryd.func39, Tryd.ntmps39
  go_upto_region 1 with fail
  generalize w.alloc _ = wA at *
  obtain ⟨hX, hB, lA, hA⟩ := BX
  obtain ⟨cA, fA⟩ := blk_at hX
  go_wp2_with (first | (go_at_call 77; refine (C1.out _ hB).mono ?_; rintro e w2 ⟨rfl, hb2⟩; have hB2 := hB.trans (hb2.mono hB.size); clear cA fA; obtain ⟨cA, fA⟩ := blk_at (box_keep hX hb2)) | (go_at_call 78; refine (C2.out _ hB2).mono ?_; rintro e w3 ⟨rfl, hb3⟩; have hB3 := hB2.trans (hb3.mono hB2.size)))
  go_ret
  first | exact ⟨rfl, hB3⟩ | exact ⟨rfl, hB2⟩
theorem neg_any (x : Int) (w : World) : Calls Tryd.prog 81 #[.int .i64 x] w fun e w' => e = .returned (.bool (decide (x <= 0))) /\ w = w' := by
 by_cases h : x <= 0
 ·have d : decide (x <= 0) = true := decide_eq_true h
  go_enter Tryd.func81, Tryd.ntmps81
  go_wp2_with fail
  go_ret
  first | exact ⟨ret_bool d.symm, rfl⟩ | exact ⟨rfl, rfl⟩
 ·have d : decide (x <= 0) = false := decide_eq_false h
  go_enter Tryd.func81, Tryd.ntmps81
  go_wp2_with fail
  go_ret
  first | exact ⟨ret_bool d.symm, rfl⟩ | exact ⟨rfl, rfl⟩
def ahead (l : List Int) : Nat := (l.takeWhile fun x => decide (0 < x)).length
theorem ahead_le (l : List Int) : ahead l <= l.length := by
 unfold ahead
 induction l with
 | nil => simp
 | cons x l ih => rw [List.takeWhile_cons]; split <;> simp <;> omega
theorem ahead_spec : ∀ (l : List Int) (i : Nat), i < l.length -> (∀ j, j < i -> 0 < l.getD j 0) -> (¬ 0 < l.getD i 0 -> ahead l = i) /\ (i + 1 = l.length -> 0 < l.getD i 0 -> ahead l = l.length) := by
 intro l
 induction l with
 | nil => intro i h; simp at h
 | cons x l ih =>
  intro i hi hj
  unfold ahead
  rw [List.takeWhile_cons]
  cases i with
  | zero =>
   constructor
   ·intro h0
    have : ¬ 0 < x := by simpa using h0
    rw [if_neg (by simpa using this)]; rfl
   ·intro h1 h0
    have h0' : 0 < x := by simpa using h0
    have : l = [] := List.length_eq_zero_iff.1 (by rw [List.length_cons] at h1; omega)
    subst this
    rw [if_pos (by simpa using h0')]; simp
  | succ i =>
   have hx : 0 < x := by simpa using hj 0 (by omega)
   rw [if_pos (by simpa using hx)]
   obtain ⟨a, b⟩ := ih i (by simp at hi; omega) (fun j hjj => by simpa using hj (j + 1) (by omega))
   unfold ahead at a b
   constructor
   ·intro h0
    have := a (by simpa using h0)
    simp [this]
   ·intro h1 h0
    have := b (by simp at h1; omega) (by simpa using h0)
    simp [this]
def indexP (l : List Int) : Int := if ahead l = l.length then -1 else (ahead l : Int)
set_option maxRecDepth 100000 in
set_option maxHeartbeats 2000000 in
theorem indexFunc_any (w : World) (A : Option Addr) (c : Nat) (l : List Int) (hl : Kd.C (Kd.int .i64) w A l.length l) :
  Calls Tryd.prog 117 #[.slice A l.length c, .func (.func 81) #[] #[]] w fun e w' => e = .returned (.int .i64 (indexP l)) /\ w = w' := by
 have NC := Lib.hid (fun (x : Int) => neg_any x w)
 have hm := Kd.C_max hl
 go_enter Tryd.func117, Tryd.ntmps117
 go_wp2_with fail
 go_loop [8] (fun iv => ∃ i : Nat, i <= l.length /\ iv = .int .i64 i /\ ∀ j, j < i -> 0 < l.getD j 0) (fun iv => l.length - (intOf iv).toNat)
 case atStart => exact ⟨0, by omega, rfl, fun j hj => by omega⟩
 case round =>
  obtain ⟨i, hi, rfl, hp⟩ := hrel
  have HP := Lib.hid hp
  clear hp
  by_cases hlt : i < l.length
  ·have dlt : decide ((i : Int) < (l.length : Int)) = true := decide_eq_true (by omega)
   have i0 : (0 : Int) <= (i : Int) := by omega
   have i1 : (i : Int) < (l.length : Int) := by omega
   obtain ⟨ad, rfl, hc⟩ := int_at hl i hlt
   have HS := Lib.hid (ahead_spec l i hlt HP.out)
   generalize hx : l.getD i 0 = x at *
   have HX := Lib.hid hx
   clear hx
   have NX := Lib.hid (NC.out x)
   by_cases h0 : 0 < x
   ·have d : decide (x <= 0) = false := decide_eq_false (by omega)
    rw [d] at NX
    clear d
    go_wp2_with (go_at_call 81; refine NX.out.mono ?_; rintro e w2 ⟨rfl, rfl⟩)
    go_round
    case rel => exact ⟨i + 1, by omega, by go_num, fun j hj => by
     by_cases e : j < i
     ·exact HP.out j e
     ·obtain rfl : j = i := by omega
      rw [HX.out]; exact h0⟩
    case measure => simp [intOf]; omega
   ·have d : decide (x <= 0) = true := decide_eq_true (by omega)
    rw [d] at NX
    have E := Lib.hid (HS.out.1 h0)
    clear d
    go_wp2_with (go_at_call 81; refine NX.out.mono ?_; rintro e w2 ⟨rfl, rfl⟩)
    go_ret
    exact ⟨ret_int (by unfold indexP; rw [E.out, if_neg (by omega)]), rfl⟩
  ·have dlt : decide ((i : Int) < (l.length : Int)) = false := decide_eq_false (by omega)
   have E := Lib.hid (show ahead l = l.length from by
    rcases Nat.eq_zero_or_pos l.length with q | q
    ·have : l = [] := List.length_eq_zero_iff.1 q
     subst this; rfl
    ·exact (ahead_spec l (l.length - 1) (by omega) (fun j hj => HP.out j (by omega))).2 (by omega) (HP.out _ (by omega)))
   go_wp2_with fail
   go_ret
   exact ⟨ret_int (by unfold indexP; rw [if_pos E.out]), rfl⟩
end
section
def posL (l : List Int) : List Int := l.filter fun x => decide (0 < x)
theorem RI_put {w : World} {b g cap n : Nat} {l : List Int} (h : RI w b (.slice (some ⟨g, 0, none⟩) n cap) l) (i : Nat) (x : Int) : RI (w.setCell ⟨g, i, none⟩ (.int .i64 x)) b (.slice (some ⟨g, 0, none⟩) n cap) (l.set i x) /\ w.grownBy (w.setCell ⟨g, i, none⟩ (.int .i64 x)) (some g) := by
 have := Kd.R_putg h (i : Int) x
 rw [Int.toNat_natCast] at this
 exact this
theorem RI_clear {b g cap n : Nat} : ∀ (m o : Nat) {w : World} {T : List Int}, RI w b (.slice (some ⟨g, 0, none⟩) n cap) T -> ∃ T', T'.length = T.length /\ T'.take o = T.take o /\ RI (w.setCells g o (List.replicate m (.int .i64 0))) b (.slice (some ⟨g, 0, none⟩) n cap) T' := by
 intro m
 induction m with
 | zero => intro o w T h; exact ⟨T, rfl, rfl, h⟩
 | succ m ih =>
  intro o w T h
  obtain ⟨T', h1, h2, h3⟩ := ih (o + 1) (RI_put h o 0).1
  refine ⟨T', by simpa using h1, ?_, h3⟩
  have e := congrArg (List.take o) h2
  rw [List.take_take, List.take_take, Nat.min_eq_left (Nat.le_succ o)] at e
  rw [e, List.take_set_of_le (Nat.le_refl o)]
theorem below_clear {B : Nat} {a : World} (b : Nat) (hb : B <= b) : ∀ (vs : List Value) (o : Nat) {w : World}, Below B a w -> Below B a (w.setCells b o vs)
 | [], _, _, h => h
 | v :: r, o, _, h => below_clear b hb r (o + 1) (h.setCell (p := ⟨b, o, none⟩) hb v)
theorem zeroI (w : World) : (zeroValue 3).run Tryd.prog w = .ok (.int .i64 0) w := by kernel_rfl
theorem ahead_take (l : List Int) : l.take (ahead l) = posL (l.take (ahead l)) := by
 unfold ahead posL
 induction l with
 | nil => rfl
 | cons x l ih =>
  rw [List.takeWhile_cons]
  by_cases h : decide (0 < x) = true
  ·rw [if_pos h]
   simp only [List.length_cons, List.take_succ_cons]
   rw [List.filter_cons_of_pos (p := fun x => decide (0 < x)) h]
   exact congrArg _ ih
  ·rw [if_neg h]; rfl
theorem ahead_bad {l : List Int} : ahead l < l.length -> ¬ 0 < l.getD (ahead l) 0 := by
 unfold ahead
 induction l with
 | nil => intro h; simp at h
 | cons x l ih =>
  rw [List.takeWhile_cons]
  by_cases h : decide (0 < x) = true
  ·rw [if_pos h]
   intro hl
   simpa using ih (by simpa using hl)
  ·rw [if_neg h]
   intro _
   simpa using h
theorem take_set_snoc {l : List Int} {i : Nat} {x : Int} (h : i < l.length) : (l.set i x).take (i + 1) = l.take i ++ [x] := by
 rw [List.take_succ_eq_append_getElem (by simpa using h)]
 simp [List.take_set_of_le]
set_option maxRecDepth 100000 in
set_option maxHeartbeats 4000000 in
theorem deleteFunc_any (w0 w : World) (b : Nat) (v : Value) (T : List Int) (hT : RI w b v T) (hb : Below b w0 w) (hT2 : T.length <= 1099511627776) :
  Calls Tryd.prog 80 #[v, .func (.func 81) #[] #[]] w fun e w' => ∃ v', e = .returned v' /\ RI w' b v' (posL T) /\ Below b w0 w' := by
 have NC := Lib.hid (fun (x : Int) (W : World) => neg_any x W)
 by_cases hp : ahead T = T.length
 ·obtain ⟨A, c, rfl, hc, hC⟩ := Kd.R_reads hT
  have IC := indexFunc_any w A c T hC
  unfold indexP at IC
  rw [if_pos hp] at IC
  have IX := Lib.hid IC
  have hE := ahead_take T
  rw [hp, List.take_length] at hE
  have HE := Lib.hid hE
  clear IC hp hE
  go_enter Tryd.func80, Tryd.ntmps80
  go_wp2_with (go_at_call 117; refine IX.out.mono ?_; rintro e w2 ⟨rfl, rfl⟩)
  go_ret
  exact ⟨_, rfl, by rw [<- HE.out]; exact hT, hb⟩
 ·have hlt : ahead T < T.length := by have := ahead_le T; omega
  obtain ⟨g, cap, rfl, g0, g1, -⟩ := RI_form hT (by omega)
  obtain ⟨-, hnc, hC⟩ := Kd.R_reads' hT
  have IC := indexFunc_any w _ cap T hC
  unfold indexP at IC
  rw [if_neg hp] at IC
  have IX := Lib.hid IC
  have hA := ahead_take T
  have hbad := ahead_bad hlt
  clear IC hp hC
  generalize hn : T.length = n at *
  generalize ahead T = a at *
  have HN := Lib.hid hn
  have HA := Lib.hid (show T.take a = posL (T.take (a + 1)) from by
   rw [take_snocD T a (by omega)]
   generalize T.getD a 0 = x at *
   have e : posL [x] = [] := by unfold posL; simp; omega
   have e2 : posL (T.take a ++ [x]) = posL (T.take a) ++ posL [x] := by unfold posL; rw [List.filter_append]
   rw [e2, e, List.append_nil]
   exact hA)
  clear hA hbad hn
  have dm : ((a : Int) == -1) = false := by rw [beq_eq_false_iff_ne]; omega
  go_enter Tryd.func80, Tryd.ntmps80
  go_wp2_with (go_at_call 117; refine IX.out.mono ?_; rintro e w2 ⟨rfl, rfl⟩)
  go_loopw [5, 6] (fun iv jv wx => ∃ (i j : Nat) (T' : List Int), i < j /\ j <= n /\ iv = .int .i64 i /\ jv = .int .i64 j /\ T'.length = n /\ T'.take i = posL (T.take j) /\ T'.drop j = T.drop j /\ RI wx b (.slice (some ⟨g, 0, none⟩) n cap) T' /\ Below b w0 wx) (fun _ jv _ => n - (intOf jv).toNat)
  case atStart => exact ⟨a, a + 1, T, by omega, by omega, rfl, by go_num, HN.out, HA.out, rfl, hT, hb⟩
  case round =>
   clear hT hb
   obtain ⟨i, j, T', hij, hj, rfl, rfl, hl, htk, hdr, hT, hb⟩ := hrel
   have HL := Lib.hid hl
   have HT := Lib.hid htk
   have HD := Lib.hid hdr
   clear hl htk hdr
   by_cases hlj : j < n
   ·have dlt : decide ((j : Int) < (n : Int)) = true := decide_eq_true (by omega)
    have j0 : (0 : Int) <= (j : Int) := by omega
    have j1 : (j : Int) < (n : Int) := by omega
    have i0 : (0 : Int) <= (i : Int) := by omega
    have i1 : (i : Int) < (n : Int) := by omega
    obtain ⟨hcj, -⟩ := Kd.R_celln (d := (0 : Int)) hT (j : Int) (by omega) (by omega)
    obtain ⟨hci, hfi⟩ := Kd.R_celln (d := (0 : Int)) hT (i : Int) (by omega) (by omega)
    simp only [Int.toNat_natCast, rdOf] at hcj hci hfi
    have hx : T'.getD j 0 = T.getD j 0 := by
     have := congrArg (fun l => l.getD 0 0) HD.out
     simpa [List.getD_eq_getElem?_getD, List.getElem?_drop] using this
    have HT2 := Lib.hid (show posL (T.take (j + 1)) = T'.take i ++ posL [T.getD j 0] by
     rw [take_snocD T j (by have := HN.out; omega), HT.out]; unfold posL; rw [List.filter_append])
    have HD2 := Lib.hid (show T'.drop (j + 1) = T.drop (j + 1) by rw [<- List.drop_drop, <- List.drop_drop, HD.out])
    rw [hx] at hcj
    clear hx
    generalize T.getD j 0 = x at *
    have NX := Lib.hid (fun (W : World) => NC.out x W)
    by_cases h0 : 0 < x
    ·have d : decide (x <= 0) = false := decide_eq_false (by omega)
     rw [d] at NX
     clear d
     have e1 : posL [x] = [x] := by unfold posL; simp [h0]
     rw [e1] at HT2
     clear e1
     go_upto_region 10 with (go_at_call 81; refine (NX.out _).mono ?_; rintro e w2 ⟨rfl, rfl⟩)
     obtain ⟨hT1, -⟩ := RI_put hT i x
     have hb1 := hb.setCell (p := ⟨g, i, none⟩) g0 (.int .i64 x)
     generalize wr.setCell ⟨g, i, none⟩ (.int .i64 x) = w3 at *
     clear hT hb hcj hci hfi
     go_wp2_with fail
     go_roundw
     case rel => exact ⟨i + 1, j + 1, T'.set i x, by omega, by omega, by go_num, by go_num, by simp [HL.out], by rw [take_set_snoc (by have := HL.out; omega)]; exact HT2.out.symm, by rw [List.drop_set_of_lt (by omega)]; exact HD2.out, hT1, hb1⟩
     case measure => simp [intOf]; omega
    ·have d : decide (x <= 0) = true := decide_eq_true (by omega)
     rw [d] at NX
     clear d
     have e1 : posL [x] = [] := by unfold posL; simp; omega
     rw [e1, List.append_nil] at HT2
     clear e1
     go_wp2_with (go_at_call 81; refine (NX.out _).mono ?_; rintro e w2 ⟨rfl, rfl⟩)
     go_roundw
     case rel => exact ⟨i, j + 1, T', by omega, by omega, rfl, by go_num, HL.out, HT2.out.symm, HD2.out, hT, hb⟩
     case measure => simp [intOf]; omega
   ·have dlt : decide ((j : Int) < (n : Int)) = false := decide_eq_false (by omega)
    obtain rfl : j = n := by omega
    have hTe := HT.out
    rw [List.take_of_length_le (l := T) (by have := HN.out; omega)] at hTe
    have HE := Lib.hid hTe
    have hcel : ∀ k, k < j - i -> wr.cell? ⟨g, i + k, none⟩ = some (.int .i64 (T'.getD (i + k) 0)) /\ wr.frozen? ⟨g, i + k, none⟩ = false := fun k hk => by
     have := Kd.R_celln (d := (0 : Int)) hT ((i + k : Nat) : Int) (by omega) (by omega)
     simp only [rdOf, Int.toNat_natCast] at this
     exact this
    have hcl : ∀ ty, (Builtin.clear_ #[24] ty #[.slice (some ⟨g, i, none⟩) (j - i) (cap - i)]).run Tryd.prog wr = .ok (.tuple #[]) (wr.setCells g i (List.replicate (j - i) (.int .i64 0))) :=
     fun ty => Lib.run_clear_slice wr 24 3 ty (.int .i64 0) Tryd.underlying24 zeroI rfl rfl g i (j - i) (cap - i) (by omega) (fun k hk => by rw [(hcel k hk).1]; rfl) (fun k hk => (hcel k hk).2)
    clear hcel hTe
    obtain ⟨T3, t1, t2, hT3⟩ := RI_clear (j - i) i hT
    have hb3 := below_clear g g0 (List.replicate (j - i) (.int .i64 0)) i hb
    have h4 := Kd.R_take hT3 (m := i) (by have := HL.out; omega)
    have HZ := Lib.hid (show T3.take i = posL T by rw [t2]; exact HE.out)
    clear t1 t2 hT3
    have q0 : (0 : Int) <= (i : Int) := by omega
    have q1 : (i : Int) <= (j : Int) := by omega
    have q2 : (i : Int) <= (cap : Int) := by omega
    have q3 : ¬ cap = i := by omega
    rw [HZ.out] at h4
    go_wp2_with fail
    go_ret
    exact ⟨_, rfl, h4, hb3⟩
end
section
section
variable {ops : Array Oper} {o : Oper} {a : Act} {Q : Exit -> Act -> World -> Prop} {Kc : Act -> World -> Prop}
theorem step_app_ints {w0 W : World} (base : Nat) (hgd : o.guard = none) (s x : Operand) (ho : o.op = .call { callee := .builtin .append, args := #[s, x], argTypes := #[24, 24] })
  (v : Value) (xs ys : List Int) (A : Option Addr) (c : Nat) (hs : a.eval s = v) (hx : a.eval x = .slice A ys.length c) (HO : RI W base v xs) (HR : Kd.C (Kd.int .i64) W A ys.length ys) (HB : Below base w0 W) (hbase : base <= W.heap.size) (hl : xs.length + ys.length <= 1099511627776)
  (h : ∀ v1 w1, RI w1 base v1 (xs ++ ys) -> Below base w0 w1 -> W.grownBy w1 v.ownBlock -> (v1.ownBlock = v.ownBlock \/ ∃ b, v1.ownBlock = some b /\ W.heap.size <= b) -> Kc (a.put o.dst v1) w1) :
  if Region.wanted o (yielded ops a.tmps) = true then Oper.wp Tryd.prog o a W Kc Q else Kc (a.put o.dst undef) W :=
 Kd.R_append_rows_step (Kd.int .i64) base (by simp [Region.wanted, hgd]) s x 24 3 (.int .i64 0) 8 ho Tryd.underlying24 infoI rfl (by decide) (by omega) v xs ys A ys.length c All (fun _ => False) hs hx HO HR (fun _ _ h => h) (fun _ h => h.elim) (fun _ _ => trivial) HB hbase (by omega) h
end
set_option maxRecDepth 100000 in
set_option maxHeartbeats 8000000 in
theorem roots_any (g : Gv) (G : Gr) (w : World) (h : GAt w g G) (s : Small G) :
  Calls Tryd.prog 41 #[gval g G] w fun e w' => ∃ v, e = .returned v /\ RI w' w.heap.size v (posL (holdP G)) /\ Below w.heap.size w w' := by
 have bd := s.bd
 have fb := s.fr
 have hM := s.hold
 obtain ⟨A0, A1, A2, A3, A4, c0, c1, c2, c3, c4⟩ := g
 have BX := boxed h
 unfold gval gcells
 unfold gcells at BX
 simp only at BX ⊢
 go_enter Tryd.func41, Tryd.ntmps41
 go_upto_region 1 with fail
 generalize w.alloc _ = wA at *
 obtain ⟨hX, hB, lA, hA⟩ := BX
 obtain ⟨cA, fA⟩ := blk_at hX
 have hI : (slotsP G.slots).length + G.hands.length + G.queue.length <= 1048576 := by
  unfold holdP at hM
  simp only [List.length_append] at hM
  omega
 have hnm := bd.m
 go_wp2_with fail
 go_loopw [3, 11] (fun v3 tv wx => ∃ (t : Nat) (pre : List Int), t <= G.slots.length /\ tv = .int .i64 t /\ pre ++ slotsP (G.slots.drop t) = slotsP G.slots /\ RI wx wA.heap.size v3 pre /\ Below wA.heap.size wA wx) (fun _ tv _ => G.slots.length - (intOf tv).toNat)
 case atStart => exact ⟨0, [], by omega, rfl, rfl, RI_nil _ _, Below.refl _ _⟩
 case round =>
  clear cA fA
  obtain ⟨t, pre, ht, rfl, hpre, hR, hbr⟩ := hrel
  by_cases hlt : t < G.slots.length
  ·have dlt : decide ((t : Int) < (G.slots.length : Int)) = true := decide_eq_true (by omega)
   have t0 : (0 : Int) <= (t : Int) := by omega
   have t1 : (t : Int) < (G.slots.length : Int) := by omega
   have hm := fb _ (getD_mem [] hlt)
   have es : slotsP (G.slots.drop t) = (G.slots.getD t []).flatten ++ slotsP (G.slots.drop (t + 1)) := by rw [drop_cons [] hlt]; rfl
   rw [es, <- List.append_assoc] at hpre
   obtain ⟨ad1, B1, b1, e1, hcA, hl1, hC1⟩ := sl_at hA.r1 t hlt
   simp only at e1
   subst e1
   have hc1 := cell_later hbr hcA
   clear hcA
   generalize G.slots.getD t [] = fr at *
   obtain ⟨m1, m2, m3⟩ := hm
   have hpl : (pre ++ fr.flatten).length <= 1048576 := by
    have := congrArg List.length hpre
    rw [List.length_append] at this
    omega
   have HP := Lib.hid hpre
   clear hpre es
   go_wp2_with fail
   go_loopw [3, 17] (fun v3 fv wx => ∃ (f : Nat) (mid : List Int), f <= fr.length /\ fv = .int .i64 f /\ mid ++ (fr.drop f).flatten = pre ++ fr.flatten /\ RI wx wA.heap.size v3 mid /\ Below wA.heap.size wA wx) (fun _ fv _ => fr.length - (intOf fv).toNat)
   case atStart => exact ⟨0, pre, by omega, rfl, rfl, hR, hbr⟩
   case round =>
    clear hR hbr hc1
    obtain ⟨f, mid, hf, rfl, hmid, hR, hbr⟩ := hrel
    by_cases hlf : f < fr.length
    ·have dlf : decide ((f : Int) < (fr.length : Int)) = true := decide_eq_true (by omega)
     have f0 : (0 : Int) <= (f : Int) := by omega
     have f1 : (f : Int) < (fr.length : Int) := by omega
     obtain ⟨ad2, B2, b2, rfl, hcB, hl2, hC2⟩ := sl_at hC1 f hlf
     have hc2 := cell_later hbr hcB
     have hC3 := Kd.C_below hC2 hbr
     rw [drop_cons [] hlf, flat_cons, <- List.append_assoc] at hmid
     have hq := m3 _ (getD_mem [] hlf)
     generalize fr.getD f [] = l at *
     have hml : (mid ++ l).length <= 1048576 := by
      have := congrArg List.length hmid
      rw [List.length_append] at this
      omega
     rw [List.length_append] at hml
     have HM := Lib.hid hmid
     clear hmid
     go_wp2_with (at_builtin; refine app_ints (w0 := wA) wA.heap.size rfl _ _ rfl u3 _ l B2 b2 rfl rfl hR hC3 hbr ?h2 ?h3 ?_; (case h2 => exact hbr.size); (case h3 => omega); intro v1 w1 hR1 hb1 hg1 hat1; clear hg1 hat1)
     go_roundw
     case rel => exact ⟨f + 1, mid ++ l, by omega, by go_num, HM.out, hR1, hb1⟩
     case measure => simp [intOf]; omega
    ·have dlf : decide ((f : Int) < (fr.length : Int)) = false := decide_eq_false (by omega)
     rw [List.drop_of_length_le (by omega), List.flatten_nil, List.append_nil] at hmid
     have HN := Lib.hid (show mid ++ slotsP (G.slots.drop (t + 1)) = slotsP G.slots by rw [hmid]; exact HP.out)
     clear hmid
     go_wp2_with fail
     go_roundw
     case rel => exact ⟨t + 1, mid, by omega, by go_num, HN.out, hR, hbr⟩
     case measure => simp [intOf]; omega
  ·have dlt : decide ((t : Int) < (G.slots.length : Int)) = false := decide_eq_false (by omega)
   rw [List.drop_of_length_le (by omega)] at hpre
   simp only [slotsP, List.map_nil, List.flatten_nil, List.append_nil] at hpre
   have hpre' : pre = slotsP G.slots := hpre
   subst hpre'
   clear hpre
   have r2 := hA.r2
   have r4 := hA.r4
   simp only at r2 r4
   obtain ⟨cA, fA⟩ := blk_at (box_keep hX hbr)
   have k2 : wr.cell? ⟨w.heap.size, 2, none⟩ = some (.slice A2 G.hands.length c2) := cA 2
   have k4 : wr.cell? ⟨w.heap.size, 4, none⟩ = some (.slice A4 G.queue.length c4) := cA 4
   have CB := Lib.hid (fun (W : World) (hb : Below wA.heap.size wA W) => ((blk_at (box_keep hX hb)).1))
   clear cA fA
   go_upto_region 11 with fail
   go_region_held3 (fun w' => w'.cell? ⟨w.heap.size, 2, none⟩ = some (.slice A2 G.hands.length c2) /\ w'.cell? ⟨w.heap.size, 4, none⟩ = some (.slice A4 G.queue.length c4) /\ Below wA.heap.size wA w')
    (first
     | exact ⟨k2, k4, hbr⟩
     | exact ⟨k2, k4, hbr.drew⟩
     | exact ⟨CB.out _ hb1 2, CB.out _ hb1 4, hb1⟩
     | exact ⟨CB.out _ hb2 2, CB.out _ hb2 4, hb2⟩)
    (first
     | ((refine step_app_ints (w0 := wA) wA.heap.size rfl _ _ rfl u3 _ G.hands A2 c2 rfl rfl hR (Kd.C_below r2 hbr) hbr hbr.size (by omega) ?_; intro v1 w1 hR1 hb1 hg1 hat1))
     | ((refine step_app_ints (w0 := wA) wA.heap.size rfl _ _ rfl u3 _ G.hands A2 c2 rfl rfl (Kd.R_drew hR) (Kd.C_below r2 hbr.drew) hbr.drew hbr.drew.size (by omega) ?_; intro v1 w1 hR1 hb1 hg1 hat1))
     | ((refine step_app_ints (w0 := wA) wA.heap.size rfl _ _ rfl v1 _ G.queue A4 c4 rfl rfl hR1 (Kd.C_below r4 hb1) hb1 hb1.size (by simp only [List.length_append]; omega) ?_; intro v2 w2 hR2 hb2 hg2 hat2)))
   have DF := Lib.hid (deleteFunc_any wA w2 wA.heap.size v2 (holdP G) hR2 hb2 (by omega))
   clear hR1 hb1 hg1 hat1 hg2 hat2 hR
   go_wp2_with (go_at_call 80; refine DF.out.mono ?_; rintro e w3 ⟨v3, rfl, hR3, hb3⟩)
   go_ret
   exact ⟨v3, rfl, Kd.R_lower hR3 (Nat.le_of_lt lA), hB.trans (hb3.mono (Nat.le_of_lt lA))⟩
end
end Go.Proofs.YtogpgkoelplknaaDoor
end
section
namespace Go.Proofs.YtogpgkoelplknaaDoor
open Go.RowKit PLensPaths
set_option linter.unusedVariables false
section
def wayOf (G : Gr) (x : Int) : List Int := waysP (G.obs.getD (x - 1).toNat default)
def fa (F : List Int) (x : Int) : Int := F.getD x.toNat 0
theorem ways_sub {o : Ob} {y : Int} (h : y ∈ waysP o) : y ∈ o.f3 /\ 0 < y := by
 unfold waysP at h
 obtain ⟨h1, h2⟩ := List.mem_filter.1 h
 exact ⟨List.mem_of_mem_drop h1, by simpa using h2⟩
theorem wayOf_rng {G : Gr} (R : Rng G) {x y : Int} (h0 : 1 <= x) (h1 : x <= (G.obs.length : Int)) (h : y ∈ wayOf G x) : 1 <= y /\ y <= (G.obs.length : Int) := by
 obtain ⟨a, b⟩ := ways_sub h
 have := R.ps _ (getD_mem (l := G.obs) default (i := (x - 1).toNat) (by omega)) y a
 omega
structure DistOk (G : Gr) (tg : Int) (F : List Int) : Prop where
 fl : F.length = G.obs.length + 1
 z : fa F 0 = -1
 hd : fa F tg = 0
 low : ∀ x, 1 <= x -> x <= (G.obs.length : Int) -> -1 <= fa F x
 back : ∀ x, 1 <= x -> x <= (G.obs.length : Int) -> 0 <= fa F x -> x ≠ tg -> ∃ y ∈ wayOf G x, 0 <= fa F y /\ fa F x = fa F y + 1
 step : ∀ x y, 1 <= x -> x <= (G.obs.length : Int) -> y ∈ wayOf G x -> 0 <= fa F y -> 0 <= fa F x /\ fa F x <= fa F y + 1
structure Bfs (G : Gr) (tg : Int) (i : Nat) (W F : List Int) : Prop where
 fl : F.length = G.obs.length + 1
 nd : W.Nodup
 rng : ∀ x ∈ W, 1 <= x /\ x <= (G.obs.length : Int)
 mem : ∀ x, 1 <= x -> x <= (G.obs.length : Int) -> (0 <= fa F x ↔ x ∈ W)
 low : ∀ x, 1 <= x -> x <= (G.obs.length : Int) -> -1 <= fa F x
 z : fa F 0 = -1
 hd : fa F tg = 0
 tin : tg ∈ W
 mono : ∀ j k, j <= k -> k < W.length -> fa F (W.getD j 0) <= fa F (W.getD k 0)
 near : ∀ j, j < W.length -> i < W.length -> fa F (W.getD j 0) <= fa F (W.getD i 0) + 1
 back : ∀ x ∈ W, x ≠ tg -> ∃ y ∈ wayOf G x, y ∈ W /\ fa F x = fa F y + 1
 done : ∀ j, j < i -> ∀ x, 1 <= x -> x <= (G.obs.length : Int) -> W.getD j 0 ∈ wayOf G x -> x ∈ W /\ fa F x <= fa F (W.getD j 0) + 1
theorem fa_set {F : List Int} {x y v : Int} (hx : 0 <= x /\ x < (F.length : Int)) (hy : 0 <= y) : fa (F.set x.toNat v) y = if y = x then v else fa F y := by
 unfold fa
 rw [List.getD_eq_getElem?_getD, List.getElem?_set]
 by_cases e : x.toNat = y.toNat
 ·have : x = y := by omega
  subst this
  rw [if_pos rfl, if_pos rfl]
  have : x.toNat < F.length := by omega
  simp [this]
 ·rw [if_neg e, if_neg (by omega), <- List.getD_eq_getElem?_getD]
theorem getD_app {W : List Int} {x : Int} {j : Nat} (h : j < W.length) : (W ++ [x]).getD j 0 = W.getD j 0 := by
 rw [List.getD_eq_getElem?_getD, List.getElem?_append_left h, <- List.getD_eq_getElem?_getD]
theorem getD_last {W : List Int} {x : Int} : (W ++ [x]).getD W.length 0 = x := by
 rw [List.getD_eq_getElem?_getD]; simp
theorem Bfs.found {G : Gr} (R : Rng G) {tg : Int} {i : Nat} {W F : List Int} (h : Bfs G tg i W F) (hi : i < W.length) {x : Int} (h0 : 1 <= x) (h1 : x <= (G.obs.length : Int)) (hx : fa F x < 0) (hy : W.getD i 0 ∈ wayOf G x) :
  Bfs G tg i (W ++ [x]) (F.set x.toNat (fa F (W.getD i 0) + 1)) := by
 have hn : x ∉ W := fun q => by have := (h.mem x h0 h1).2 q; omega
 have hyW : W.getD i 0 ∈ W := getD_mem 0 hi
 have hyr := h.rng _ hyW
 have hy0 := (h.mem _ hyr.1 hyr.2).2 hyW
 have hfl := h.fl
 generalize hv : fa F (W.getD i 0) = v at *
 have fs : ∀ z : Int, 0 <= z -> fa (F.set x.toNat (v + 1)) z = if z = x then v + 1 else fa F z := fun z hz => fa_set (by omega) hz
 have fW : ∀ z ∈ W, fa (F.set x.toNat (v + 1)) z = fa F z := fun z hz => by
  have e : ¬ z = x := fun e => hn (e ▸ hz)
  rw [fs z (by have := h.rng z hz; omega), if_neg e]
 have fj : ∀ j, j < W.length -> fa (F.set x.toNat (v + 1)) (W.getD j 0) = fa F (W.getD j 0) := fun j hj => fW _ (getD_mem 0 hj)
 have fx : fa (F.set x.toNat (v + 1)) x = v + 1 := by rw [fs x (by omega), if_pos rfl]
 refine ⟨by simp [hfl], ?_, fun z hz => ?_, fun z z0 z1 => ?_, fun z z0 z1 => ?_, ?_, ?_, List.mem_append.2 (.inl h.tin), fun j k hjk hk => ?_, fun j hj hi2 => ?_, fun z hz hzt => ?_, fun j hj z z0 z1 hz => ?_⟩
 ·rw [List.nodup_append]
  refine ⟨h.nd, by simp, fun a ha b hb => ?_⟩
  simp at hb
  subst hb
  exact fun e => hn (e ▸ ha)
 ·rcases List.mem_append.1 hz with q | q
  ·exact h.rng z q
  ·simp at q; subst q; exact ⟨h0, h1⟩
 ·rw [fs z (by omega)]
  by_cases e : z = x
  ·subst e; rw [if_pos rfl]; simp; omega
  ·rw [if_neg e, h.mem z z0 z1]; simp [e]
 ·rw [fs z (by omega)]
  split
  ·omega
  ·exact h.low z z0 z1
 ·rw [fs 0 (by omega), if_neg (by omega)]; exact h.z
 ·rw [fW tg h.tin]; exact h.hd
 ·rw [List.length_append, List.length_singleton] at hk
  by_cases k2 : k < W.length
  ·rw [getD_app k2, getD_app (by omega), fj k k2, fj j (by omega)]
   exact h.mono j k hjk k2
  ·obtain rfl : k = W.length := by omega
   rw [getD_last, fx]
   by_cases j2 : j < W.length
   ·rw [getD_app j2, fj j j2]
    have := h.near j j2 hi
    omega
   ·obtain rfl : j = W.length := by omega
    rw [getD_last, fx]; omega
 ·rw [getD_app hi, fj i hi, hv]
  rw [List.length_append, List.length_singleton] at hj
  by_cases j2 : j < W.length
  ·rw [getD_app j2, fj j j2]
   have := h.near j j2 hi
   omega
  ·obtain rfl : j = W.length := by omega
   rw [getD_last, fx]; omega
 ·rcases List.mem_append.1 hz with q | q
  ·obtain ⟨y, y1, y2, y3⟩ := h.back z q hzt
   exact ⟨y, y1, List.mem_append.2 (.inl y2), by rw [fW z q, fW y y2]; exact y3⟩
  ·simp at q
   subst q
   exact ⟨W.getD i 0, hy, List.mem_append.2 (.inl hyW), by rw [fx, fj i hi, hv]⟩
 ·have hjW : j < W.length := by omega
  rw [getD_app hjW] at hz ⊢
  obtain ⟨a, b⟩ := h.done j hj z z0 z1 hz
  exact ⟨List.mem_append.2 (.inl a), by rw [fW z a, fj j hjW]; exact b⟩
theorem Bfs.next {G : Gr} {tg : Int} {i : Nat} {W F : List Int} (h : Bfs G tg i W F) (hi : i < W.length) (hd : ∀ x, 1 <= x -> x <= (G.obs.length : Int) -> W.getD i 0 ∈ wayOf G x -> x ∈ W) : Bfs G tg (i + 1) W F :=
 ⟨h.fl, h.nd, h.rng, h.mem, h.low, h.z, h.hd, h.tin, h.mono, fun j hj hi2 => by
  have a := h.near j hj hi
  have b := h.mono i (i + 1) (by omega) hi2
  omega, h.back, fun j hj x x0 x1 hx => by
  by_cases e : j < i
  ·exact h.done j e x x0 x1 hx
  ·obtain rfl : j = i := by omega
   have hm := hd x x0 x1 hx
   obtain ⟨k, hk, ek⟩ := List.mem_iff_getElem.1 hm
   have ek' : W.getD k 0 = x := by rw [List.getD_eq_getElem?_getD, List.getElem?_eq_getElem hk]; exact ek
   have := h.near k hk hi
   rw [ek'] at this
   exact ⟨hm, this⟩⟩
theorem Bfs.end {G : Gr} (R : Rng G) {tg : Int} {W F : List Int} (h : Bfs G tg W.length W F) : DistOk G tg F := by
 refine ⟨h.fl, h.z, h.hd, h.low, fun x x0 x1 hx hxt => ?_, fun x y x0 x1 hy y0 => ?_⟩
 ·obtain ⟨y, y1, y2, y3⟩ := h.back x ((h.mem x x0 x1).1 hx) hxt
  have yr := h.rng y y2
  exact ⟨y, y1, (h.mem y yr.1 yr.2).2 y2, y3⟩
 ·have yr := wayOf_rng R x0 x1 hy
  have yW := (h.mem y yr.1 yr.2).1 y0
  obtain ⟨k, hk, ek⟩ := List.mem_iff_getElem.1 yW
  have ek' : W.getD k 0 = y := by rw [List.getD_eq_getElem?_getD, List.getElem?_eq_getElem hk]; exact ek
  obtain ⟨a, b⟩ := h.done k hk x x0 x1 (by rw [ek']; exact hy)
  rw [ek'] at b
  exact ⟨(h.mem x x0 x1).2 a, b⟩
theorem Bfs.start {G : Gr} {tg : Int} (ht : 1 <= tg /\ tg <= (G.obs.length : Int)) {F : List Int} (fl : F.length = G.obs.length + 1) (hF : ∀ x : Int, 0 <= x -> x <= (G.obs.length : Int) -> fa F x = if x = tg then 0 else -1) : Bfs G tg 0 [tg] F := by
 have e0 : fa F tg = 0 := by rw [hF tg (by omega) ht.2, if_pos rfl]
 refine ⟨fl, by simp, fun x hx => by simp at hx; subst hx; exact ht, fun x x0 x1 => ?_, fun x x0 x1 => ?_, ?_, e0, by simp, fun j k hjk hk => ?_, fun j hj _ => ?_, fun x hx hxt => ?_, fun j hj => by omega⟩
 ·rw [hF x (by omega) x1]
  by_cases e : x = tg
  ·simp [e]
  ·simp [e]
 ·rw [hF x (by omega) x1]; split <;> omega
 ·rw [hF 0 (by omega) (by omega), if_neg (by omega)]
 ·simp at hk; subst hk; obtain rfl : j = 0 := by omega
  exact Int.le_refl _
 ·simp at hj; subst hj; omega
 ·simp at hx; exact absurd hx hxt
theorem Bfs.len {G : Gr} {tg : Int} {i : Nat} {W F : List Int} (h : Bfs G tg i W F) : W.length <= G.obs.length := nodup_len h.nd h.rng
theorem Bfs.top {G : Gr} {tg : Int} {i : Nat} {W F : List Int} (h : Bfs G tg i W F) : ∀ x, 1 <= x -> x <= (G.obs.length : Int) -> fa F x <= W.length := by
 have key : ∀ n : Nat, n < W.length -> fa F (W.getD n 0) <= n := by
  intro n
  induction n using Nat.strongRecOn with
  | _ n ih =>
   intro hn
   by_cases q : W.getD n 0 = tg
   ·rw [q, h.hd]; omega
   ·obtain ⟨y, y1, y2, y3⟩ := h.back _ (getD_mem 0 hn) q
    obtain ⟨k, hk, ek⟩ := List.mem_iff_getElem.1 y2
    have ek' : W.getD k 0 = y := by rw [List.getD_eq_getElem?_getD, List.getElem?_eq_getElem hk]; exact ek
    have hkn : k < n := by
     refine Classical.byContradiction fun c => ?_
     have := h.mono n k (by omega) hk
     rw [ek'] at this
     omega
    have := ih k hkn hk
    rw [ek'] at this
    omega
 intro x x0 x1
 by_cases q : 0 <= fa F x
 ·obtain ⟨k, hk, ek⟩ := List.mem_iff_getElem.1 ((h.mem x x0 x1).1 q)
  have ek' : W.getD k 0 = x := by rw [List.getD_eq_getElem?_getD, List.getElem?_eq_getElem hk]; exact ek
  have := key k hk
  rw [ek'] at this
  omega
 ·omega
end
end Go.Proofs.YtogpgkoelplknaaDoor
end
section
namespace Go.Proofs.YtogpgkoelplknaaDoor
set_option linter.unusedVariables false
section
inductive Av (nx : Int -> List Int) (d : Int) : Nat -> Int -> Prop
 | root : d ≠ 0 -> Av nx d 0 0
 | step {k : Nat} {p y : Int} : Av nx d k p -> y ∈ nx p -> y ≠ d -> Av nx d (k + 1) y
def Dm (nx : Int -> List Int) (d y : Int) : Prop := ∀ k, ¬ Av nx d k y
def Rd (nx : Int -> List Int) (y : Int) : Prop := ∃ k, Av nx (-1) k y
structure NxOk (nx : Int -> List Int) (N : Nat) : Prop where
 rng : ∀ p y, y ∈ nx p -> 1 <= y /\ y <= (N : Int)
section
variable {nx : Int -> List Int} {N : Nat}
theorem Av.all (H : NxOk nx N) {d y : Int} {k : Nat} (h : Av nx d k y) : Av nx (-1) k y := by
 induction h with
 | root _ => exact .root (by omega)
 | step _ hy _ ih => exact .step ih hy (by have := H.rng _ _ hy; omega)
theorem Av.rd (H : NxOk nx N) {d y : Int} {k : Nat} (h : Av nx d k y) : Rd nx y := ⟨k, h.all H⟩
theorem Av.rng (H : NxOk nx N) {d y : Int} {k : Nat} (h : Av nx d k y) : 0 <= y /\ y <= (N : Int) := by
 cases h with
 | root _ => omega
 | step _ hy _ => have := H.rng _ _ hy; omega
theorem Rd.rng (H : NxOk nx N) {y : Int} (h : Rd nx y) : 0 <= y /\ y <= (N : Int) := by obtain ⟨k, h⟩ := h; exact h.rng H
theorem Rd.next (H : NxOk nx N) {p y : Int} (h : Rd nx p) (hy : y ∈ nx p) : Rd nx y := by obtain ⟨k, h⟩ := h; exact ⟨k + 1, .step h hy (by have := H.rng _ _ hy; omega)⟩
theorem Rd.zero : Rd nx 0 := ⟨0, .root (by omega)⟩
theorem Av.ne {d y : Int} {k : Nat} (h : Av nx d k y) : y ≠ d := by
 cases h with
 | root h => omega
 | step _ _ h => exact h
theorem Av.not0 {y : Int} {k : Nat} (h : Av nx 0 k y) : False := by
 induction h with
 | root h => exact h rfl
 | step _ _ _ ih => exact ih
theorem Av.split {d m y : Int} {k : Nat} (h : Av nx d k y) (hn : ¬ Av nx m k y) : ∃ j, j <= k /\ Av nx d j m := by
 induction h with
 | root h0 =>
  by_cases e : m = 0
  ·subst e; exact ⟨0, Nat.le_refl _, .root h0⟩
  ·exact absurd (.root e) hn
 | @step k p y hp hy hd ih =>
  by_cases q : Av nx m k p
  ·by_cases e : y = m
   ·subst e; exact ⟨k + 1, Nat.le_refl _, .step hp hy hd⟩
   ·exact absurd (.step q hy e) hn
  ·obtain ⟨j, hj, a⟩ := ih q
   exact ⟨j, by omega, a⟩
theorem Dm.refl (d : Int) : Dm nx d d := fun k h => h.ne rfl
theorem Dm.zero (y : Int) : Dm nx 0 y := fun k h => h.not0
theorem Dm.trans {e d y : Int} (h : Dm nx e d) (h2 : Dm nx d y) : Dm nx e y := fun k a => by
 obtain ⟨j, _, b⟩ := a.split (h2 k)
 exact h j b
theorem Dm.pred {d p y : Int} (h : Dm nx d y) (hy : y ∈ nx p) (hd : y ≠ d) : Dm nx d p := fun k a => h (k + 1) (.step a hy hd)
theorem Dm.atZero {d : Int} (h : Dm nx d 0) : d = 0 := by
 apply Classical.byContradiction
 intro e
 exact h 0 (.root e)
theorem short_one (P : Nat -> Nat -> Prop) (n : Nat) : ∃ K, ∀ i, i < n -> (∃ k, P i k) -> ∃ k, k <= K /\ P i k := by
 induction n with
 | zero => exact ⟨0, fun i h => by omega⟩
 | succ n ih =>
  obtain ⟨K, hK⟩ := ih
  by_cases q : ∃ k, P n k
  ·obtain ⟨k, hk⟩ := q
   refine ⟨max K k, fun i hi he => ?_⟩
   by_cases e : i = n
   ·subst e; exact ⟨k, by omega, hk⟩
   ·obtain ⟨j, hj, a⟩ := hK i (by omega) he
    exact ⟨j, by omega, a⟩
  ·refine ⟨K, fun i hi he => ?_⟩
   by_cases e : i = n
   ·subst e; exact absurd he q
   ·exact hK i (by omega) he
theorem short_two (P : Nat -> Nat -> Nat -> Prop) (n m : Nat) : ∃ K, ∀ i, i < n -> ∀ j, j < m -> (∃ k, P i j k) -> ∃ k, k <= K /\ P i j k := by
 induction n with
 | zero => exact ⟨0, fun i h => by omega⟩
 | succ n ih =>
  obtain ⟨K, hK⟩ := ih
  obtain ⟨K2, hK2⟩ := short_one (P n) m
  refine ⟨max K K2, fun i hi j hj he => ?_⟩
  by_cases e : i = n
  ·subst e
   obtain ⟨k, hk, a⟩ := hK2 j hj he
   exact ⟨k, by omega, a⟩
  ·obtain ⟨k, hk, a⟩ := hK i (by omega) j hj he
   exact ⟨k, by omega, a⟩
def Ks (nx : Int -> List Int) (N K : Nat) : Prop := ∀ d y : Int, -1 <= d -> d <= (N : Int) -> 0 <= y -> y <= (N : Int) -> (∃ k, Av nx d k y) -> ∃ k, k <= K /\ Av nx d k y
theorem ks_ex (nx : Int -> List Int) (N : Nat) : ∃ K, Ks nx N K := by
 obtain ⟨K, hK⟩ := short_two (fun i j k => Av nx ((i : Int) - 1) k (j : Int)) (N + 2) (N + 1)
 refine ⟨K, fun d y d0 d1 y0 y1 h => ?_⟩
 have := hK (d + 1).toNat (by omega) y.toNat (by omega)
 rw [show (((d + 1).toNat : Nat) : Int) - 1 = d by omega, show ((y.toNat : Nat) : Int) = y by omega] at this
 exact this h
structure Ord (nx : Int -> List Int) (order place : List Int) : Prop where
 hd : 0 < order.length /\ order.getD 0 0 = 0
 mem : ∀ y, y ∈ order ↔ Rd nx y
 pl : ∀ i, i < order.length -> fa place (order.getD i 0) = i
 pred : ∀ y, Rd nx y -> y ≠ 0 -> ∃ p, Rd nx p /\ y ∈ nx p /\ fa place p < fa place y
section
variable {order place : List Int}
theorem Ord.at (O : Ord nx order place) {y : Int} (h : Rd nx y) : ∃ i, i < order.length /\ order.getD i 0 = y /\ fa place y = i := by
 obtain ⟨i, hi, e⟩ := List.getElem_of_mem ((O.mem y).2 h)
 have q : order.getD i 0 = y := by rw [List.getD_eq_getElem?_getD, List.getElem?_eq_getElem hi]; exact e
 exact ⟨i, hi, q, by rw [<- q]; exact O.pl i hi⟩
theorem Ord.inj (O : Ord nx order place) {x y : Int} (hx : Rd nx x) (hy : Rd nx y) (e : fa place x = fa place y) : x = y := by
 obtain ⟨i, _, a, b⟩ := O.at hx
 obtain ⟨j, _, c, d⟩ := O.at hy
 obtain rfl : i = j := by omega
 rw [<- a, <- c]
theorem Ord.nn (O : Ord nx order place) {x : Int} (hx : Rd nx x) : 0 <= fa place x /\ fa place x < (order.length : Int) := by
 obtain ⟨i, h, _, b⟩ := O.at hx
 omega
theorem Ord.dom (O : Ord nx order place) {d : Int} : ∀ (n : Nat) (y : Int), Rd nx y -> fa place y <= n -> Dm nx d y -> d = y \/ (Rd nx d /\ fa place d < fa place y) := by
 intro n
 induction n with
 | zero =>
  intro y hy hn hd
  by_cases e : y = 0
  ·subst e; exact .inl hd.atZero
  ·obtain ⟨p, hp, a, b⟩ := O.pred y hy e
   have := O.nn hp
   omega
 | succ n ih =>
  intro y hy hn hd
  by_cases e : y = 0
  ·subst e; exact .inl hd.atZero
  ·obtain ⟨p, hp, a, b⟩ := O.pred y hy e
   by_cases q : d = y
   ·exact .inl q
   ·right
    rcases ih p hp (by omega) (hd.pred a (fun q2 => q q2.symm)) with r | r
    ·subst r; exact ⟨hp, b⟩
    ·exact ⟨r.1, by omega⟩
theorem Ord.dom' (O : Ord nx order place) {d y : Int} (hy : Rd nx y) (hd : Dm nx d y) : d = y \/ (Rd nx d /\ fa place d < fa place y) := O.dom (fa place y).toNat y hy (by have := O.nn hy; omega) hd
theorem Ord.anti (O : Ord nx order place) {d y : Int} (hy : Rd nx y) (h1 : Dm nx d y) (h2 : Dm nx y d) : d = y := by
 rcases O.dom' hy h1 with e | ⟨r, e⟩
 ·exact e
 ·rcases O.dom' r h2 with e2 | ⟨_, e2⟩
  ·exact e2.symm
  ·omega
end
inductive An (up : List Int) (d : Int) : Int -> Prop
 | refl : An up d d
 | up {y : Int} : An up d (fa up y) -> An up d y
theorem An.trans {up : List Int} {e d y : Int} (h : An up d y) (h2 : An up e d) : An up e y := by
 induction h with
 | refl => exact h2
 | up _ ih => exact .up ih
structure UpOk (nx : Int -> List Int) (N : Nat) (place up : List Int) : Prop where
 ul : up.length = N + 1
 z : fa up 0 = 0
 each : ∀ y : Int, 0 <= y -> y <= (N : Int) -> fa up y = -1 \/ (0 <= fa up y /\ Rd nx y /\ Rd nx (fa up y) /\ 0 <= fa up (fa up y) /\ (y ≠ 0 -> fa place (fa up y) < fa place y /\ ∀ d, d ≠ y -> Dm nx d y -> Dm nx d (fa up y)))
section
variable {order place up : List Int}
theorem UpOk.got (U : UpOk nx N place up) (H : NxOk nx N) {y : Int} (y0 : 0 <= y) (y1 : y <= (N : Int)) (h : 0 <= fa up y) : Rd nx y /\ Rd nx (fa up y) /\ 0 <= fa up (fa up y) /\ (y ≠ 0 -> fa place (fa up y) < fa place y /\ ∀ d, d ≠ y -> Dm nx d y -> Dm nx d (fa up y)) := by
 rcases U.each y y0 y1 with e | e
 ·omega
 ·exact e.2
theorem UpOk.an (U : UpOk nx N place up) (H : NxOk nx N) {d y : Int} (h : An up d y) : 0 <= y -> y <= (N : Int) -> 0 <= fa up y -> Rd nx d /\ 0 <= fa up d /\ fa place d <= fa place y := by
 induction h with
 | refl => intro y0 y1 hu; exact ⟨(U.got H y0 y1 hu).1, hu, Int.le_refl _⟩
 | @up y h ih =>
  intro y0 y1 hu
  obtain ⟨a, b, c, e⟩ := U.got H y0 y1 hu
  have br := b.rng H
  obtain ⟨q1, q2, q3⟩ := ih br.1 br.2 c
  refine ⟨q1, q2, ?_⟩
  by_cases q : y = 0
  ·subst q; rw [U.z] at q3; exact q3
  ·have := (e q).1; omega
theorem UpOk.anZero (U : UpOk nx N place up) {d y : Int} (h : An up d y) (e : y = 0) : d = 0 := by
 induction h with
 | refl => exact e
 | up _ ih => subst e; exact ih U.z
def Lvl (nx : Int -> List Int) (up : List Int) (L : Int -> Nat) : Prop := ∀ (y : Int) (k : Nat), k <= L y -> Av nx (-1) k y -> 0 <= fa up y /\ ∀ d, An up d y -> ¬ Av nx d k y
structure Got (nx : Int -> List Int) (N : Nat) (place up ps : List Int) (c : Int) : Prop where
 u : 0 <= fa up c
 r : Rd nx c
 an : ∀ p ∈ ps, 0 <= fa up p -> An up c p
 dm : ∀ d, (∀ p ∈ ps, 0 <= fa up p -> Dm nx d p) -> Dm nx d c
theorem fa_set' {F : List Int} {x y v : Int} (hx : 0 <= x /\ x < (F.length : Int)) (hy : 0 <= y) : fa (F.set x.toNat v) y = if y = x then v else fa F y := fa_set hx hy
theorem an_put {m c : Int} (hup : ∀ z, 0 <= z -> z <= (N : Int) -> 0 <= fa up z -> fa up z <= (N : Int)) (hul : up.length = N + 1) (hm : 0 <= m /\ m <= (N : Int)) (hc : 0 <= c /\ c <= (N : Int)) {d y : Int} (h : An (up.set m.toNat c) d y) : 0 <= y -> y <= (N : Int) -> 0 <= fa up y \/ y = m -> (∀ z, 0 <= z -> z <= (N : Int) -> 0 <= fa up z -> 0 <= fa up (fa up z)) -> An up d y \/ (An up m y /\ An (up.set m.toNat c) d m) := by
 induction h with
 | refl => intro y0 y1 _ _; exact .inl .refl
 | @up y h ih =>
  intro y0 y1 hu hz
  have e : fa (up.set m.toNat c) y = if y = m then c else fa up y := fa_set (by omega) y0
  by_cases q : y = m
  ·subst q; exact .inr ⟨.refl, .up h⟩
  ·rw [if_neg q] at e
   rw [e] at ih h
   have hu' : 0 <= fa up y := by rcases hu with a | a; exact a; exact absurd a q
   rcases ih hu' (hup y y0 y1 hu') (.inl (hz y y0 y1 hu')) hz with a | ⟨a, b⟩
   ·exact .inl (.up a)
   ·exact .inr ⟨.up a, b⟩
theorem put_ok (H : NxOk nx N) (O : Ord nx order place) (U : UpOk nx N place up) {L : Int -> Nat} {K : Nat} (hL : Lvl nx up L) (hK : ∀ y, K <= L y /\ L y <= K + 1) {m c : Int} (hm : Rd nx m) (hm0 : m ≠ 0) {ps : List Int} (hps : ∀ p, p ∈ ps ↔ Rd nx p /\ m ∈ nx p) (g : Got nx N place up ps c)
  (hq : ∃ q ∈ ps, 0 <= fa up q /\ fa place q < fa place m) : UpOk nx N place (up.set m.toNat c) /\ Lvl nx (up.set m.toNat c) (fun y => if y = m then K + 1 else L y) /\ fa place c < fa place m := by
 have mr := hm.rng H
 have cr := g.r.rng H
 have ul := U.ul
 have fs : ∀ y, 0 <= y -> fa (up.set m.toNat c) y = if y = m then c else fa up y := fun y hy => fa_set (by omega) hy
 have hcp : fa place c < fa place m := by
  obtain ⟨q, hq1, hq2, hq3⟩ := hq
  have qr := ((hps q).1 hq1).1.rng H
  have := (U.an H (g.an q hq1 hq2) qr.1 qr.2 hq2).2.2
  omega
 have hcm : c ≠ m := fun e => by rw [e] at hcp; omega
 have hup : ∀ z, 0 <= z -> z <= (N : Int) -> 0 <= fa up z -> fa up z <= (N : Int) := fun z z0 z1 hz => ((U.got H z0 z1 hz).2.1.rng H).2
 have hz2 : ∀ z, 0 <= z -> z <= (N : Int) -> 0 <= fa up z -> 0 <= fa up (fa up z) := fun z z0 z1 hz => (U.got H z0 z1 hz).2.2.1
 have anm : ∀ d, An (up.set m.toNat c) d m -> d = m \/ An up d c := fun d h => by
  cases h with
  | refl => exact .inl rfl
  | up h =>
   rw [fs m mr.1, if_pos rfl] at h
   rcases an_put hup ul mr cr h cr.1 cr.2 (.inl g.u) hz2 with a | ⟨a, _⟩
   ·exact .inr a
   ·have := (U.an H a cr.1 cr.2 g.u).2.2
    omega
 refine ⟨⟨by simp [ul], by rw [fs 0 (by omega), if_neg (fun e => hm0 e.symm)]; exact U.z, fun y y0 y1 => ?_⟩, ?_, hcp⟩
 ·rw [fs y y0]
  by_cases e : y = m
  ·subst e
   rw [if_pos rfl, fs c cr.1, if_neg hcm]
   refine .inr ⟨cr.1, hm, g.r, g.u, fun _ => ⟨hcp, fun d hd hdm => g.dm d fun p hp hu => ?_⟩⟩
   exact hdm.pred ((hps p).1 hp).2 (fun q => hd q.symm)
  ·rw [if_neg e]
   rcases U.each y y0 y1 with q | ⟨a, b, b2, q, r⟩
   ·exact .inl q
   ·refine .inr ⟨a, b, b2, ?_, r⟩
    rw [fs _ a]
    split
    ·exact cr.1
    ·exact q
 ·have key : ∀ (k : Nat), k <= K + 1 -> Av nx (-1) k m -> ∀ d, An (up.set m.toNat c) d m -> ¬ Av nx d k m := fun k hk ha d hd hav => by
   rcases anm d hd with e | e
   ·exact hav.ne e.symm
   ·cases hav with
    | root _ => exact hm0 rfl
    | @step k p _ hp hy hne =>
     have hpa := hp.all H
     obtain ⟨u1, u2⟩ := hL p k (by have := (hK p).1; omega) hpa
     exact u2 d ((g.an p ((hps p).2 ⟨⟨k, hpa⟩, hy⟩) u1).trans e) hp
  intro y k hk ha
  simp only at hk
  have yr := ha.rng H
  by_cases e : y = m
  ·subst e
   rw [if_pos rfl] at hk
   refine ⟨by rw [fs y yr.1, if_pos rfl]; exact cr.1, fun d hd => key k hk ha d hd⟩
  ·rw [if_neg e] at hk
   obtain ⟨u1, u2⟩ := hL y k hk ha
   refine ⟨by rw [fs y yr.1, if_neg e]; exact u1, fun d hd hav => ?_⟩
   rcases an_put hup ul mr cr hd yr.1 yr.2 (.inl u1) hz2 with a | ⟨a, b⟩
   ·exact u2 d a hav
   ·obtain ⟨j, hj, q⟩ := hav.split (u2 m a)
    exact key j (by have := (hK y).2; omega) (q.all H) d b q
end
end
end
section
section
variable {nx : Int -> List Int} {N : Nat} {order place up : List Int}
structure Meet (nx : Int -> List Int) (N : Nat) (up : List Int) (a0 b0 a b : Int) : Prop where
 a1 : An up a a0
 b1 : An up b b0
 ua : 0 <= fa up a
 ub : 0 <= fa up b
 ra : Rd nx a
 rb : Rd nx b
 dm : ∀ e, Dm nx e a0 -> Dm nx e b0 -> Dm nx e a /\ Dm nx e b
theorem Meet.begin {a b : Int} (ua : 0 <= fa up a) (ub : 0 <= fa up b) (ra : Rd nx a) (rb : Rd nx b) : Meet nx N up a b a b := ⟨.refl, .refl, ua, ub, ra, rb, fun e h1 h2 => ⟨h1, h2⟩⟩
theorem Meet.left (H : NxOk nx N) (O : Ord nx order place) (U : UpOk nx N place up) {a0 b0 a b : Int} (h : Meet nx N up a0 b0 a b) (hlt : fa place b < fa place a) : Meet nx N up a0 b0 (fa up a) b /\ fa place (fa up a) < fa place a := by
 have ar := h.ra.rng H
 have a0' : a ≠ 0 := fun e => by
  have := O.nn h.rb
  have z := O.pl 0 O.hd.1
  rw [O.hd.2] at z
  rw [e] at hlt
  omega
 obtain ⟨_, r, u, q⟩ := U.got H ar.1 ar.2 h.ua
 obtain ⟨q1, q2⟩ := q a0'
 refine ⟨⟨h.a1.trans (.up .refl), h.b1, u, h.ub, r, h.rb, fun e h1 h2 => ?_⟩, q1⟩
 obtain ⟨d1, d2⟩ := h.dm e h1 h2
 refine ⟨q2 e (fun q => ?_) d1, d2⟩
 subst q
 rcases O.dom' h.rb d2 with q | ⟨_, q⟩
 ·subst q; omega
 ·omega
theorem Meet.swap {a0 b0 a b : Int} (h : Meet nx N up a0 b0 a b) : Meet nx N up b0 a0 b a := ⟨h.b1, h.a1, h.ub, h.ua, h.rb, h.ra, fun e h1 h2 => (h.dm e h2 h1).symm⟩
theorem Meet.right (H : NxOk nx N) (O : Ord nx order place) (U : UpOk nx N place up) {a0 b0 a b : Int} (h : Meet nx N up a0 b0 a b) (hne : a ≠ b) (hlt : ¬ fa place b < fa place a) : Meet nx N up a0 b0 a (fa up b) /\ fa place (fa up b) < fa place b := by
 have : fa place a ≠ fa place b := fun e => hne (O.inj h.ra h.rb e)
 obtain ⟨q, q2⟩ := h.swap.left H O U (by omega)
 exact ⟨q.swap, q2⟩
structure Com (nx : Int -> List Int) (up : List Int) (a b c : Int) : Prop where
 a1 : An up c a
 b1 : An up c b
 u : 0 <= fa up c
 r : Rd nx c
 dm : ∀ e, Dm nx e a -> Dm nx e b -> Dm nx e c
theorem Meet.met {a0 b0 a : Int} (h : Meet nx N up a0 b0 a a) : Com nx up a0 b0 a := ⟨h.a1, h.b1, h.ua, h.ra, fun e h1 h2 => (h.dm e h1 h2).1⟩
def Fold (nx : Int -> List Int) (N : Nat) (place up pre : List Int) (d : Int) : Prop := (d = -1 /\ ∀ p ∈ pre, fa up p < 0) \/ (0 <= d /\ Got nx N place up pre d)
theorem Fold.nil : Fold nx N place up [] (-1) := .inl ⟨rfl, fun p h => by cases h⟩
theorem Fold.skip {pre : List Int} {d x : Int} (h : Fold nx N place up pre d) (hx : fa up x < 0) : Fold nx N place up (pre ++ [x]) d := by
 rcases h with ⟨e, h⟩ | ⟨e, h⟩
 ·refine .inl ⟨e, fun p hp => ?_⟩
  rcases List.mem_append.1 hp with q | q
  ·exact h p q
  ·simp at q; subst q; exact hx
 ·refine .inr ⟨e, h.u, h.r, fun p hp hu => ?_, fun e he => h.dm e fun p hp hu => he p (List.mem_append.2 (.inl hp)) hu⟩
  rcases List.mem_append.1 hp with q | q
  ·exact h.an p q hu
  ·simp at q; subst q; omega
theorem Fold.first (H : NxOk nx N) {pre : List Int} {d x : Int} (h : Fold nx N place up pre d) (hd : d < 0) (hu : 0 <= fa up x) (hr : Rd nx x) : Fold nx N place up (pre ++ [x]) x := by
 rcases h with ⟨e, h⟩ | ⟨e, h⟩
 ·refine .inr ⟨(hr.rng H).1, hu, hr, fun p hp hup => ?_, fun e he => he x (List.mem_append.2 (.inr (by simp))) hu⟩
  rcases List.mem_append.1 hp with q | q
  ·have := h p q; omega
  ·simp at q; subst q; exact .refl
 ·omega
theorem Fold.next (H : NxOk nx N) {pre : List Int} {d x c : Int} (h : Fold nx N place up pre d) (hd : ¬ d < 0) (hu : 0 <= fa up x) (hr : Rd nx x) (k : Com nx up d x c) : Fold nx N place up (pre ++ [x]) c := by
 rcases h with ⟨e, h⟩ | ⟨e, h⟩
 ·omega
 ·refine .inr ⟨(k.r.rng H).1, k.u, k.r, fun p hp hup => ?_, fun e he => k.dm e (h.dm e fun p hp hu => he p (List.mem_append.2 (.inl hp)) hu) (he x (List.mem_append.2 (.inr (by simp))) hu)⟩
  rcases List.mem_append.1 hp with q | q
  ·exact (h.an p q hup).trans k.a1
  ·simp at q; subst q; exact k.b1
theorem Fold.got {pre : List Int} {d : Int} (h : Fold nx N place up pre d) (hd : 0 <= d) : Got nx N place up pre d := by
 rcases h with ⟨e, h⟩ | ⟨e, h⟩
 ·omega
 ·exact h
structure Rnd (nx : Int -> List Int) (N : Nat) (order place : List Int) (K i : Nat) (again : Bool) (up : List Int) : Prop where
 u : UpOk nx N place up
 lv : Lvl nx up (fun y => if fa place y < (i : Int) then K + 1 else K)
 done : ∀ y, Rd nx y -> fa place y < (i : Int) -> 0 <= fa up y
 fix : again = false -> ∀ y, Rd nx y -> y ≠ 0 -> fa place y < (i : Int) -> ∀ p, Rd nx p -> y ∈ nx p -> 0 <= fa up p -> An up (fa up y) p
 quiet : ∀ Kst, Ks nx N Kst -> Kst <= K -> again = false
theorem Rnd.begin (H : NxOk nx N) (O : Ord nx order place) {K : Nat} (u : UpOk nx N place up) (lv : Lvl nx up (fun _ => K)) : Rnd nx N order place K 1 false up := by
 have z := O.pl 0 O.hd.1
 rw [O.hd.2] at z
 have key : ∀ y, Rd nx y -> fa place y < ((1 : Nat) : Int) -> y = 0 := fun y hy h => O.inj hy .zero (by have := O.nn hy; omega)
 refine ⟨u, fun y k hk ha => ?_, fun y hy h => by rw [key y hy h, u.z]; omega, fun _ y hy y0 h => absurd (key y hy h) y0, fun _ _ _ => rfl⟩
 simp only at hk
 split at hk
 ·obtain rfl := key y ⟨k, ha⟩ (by assumption)
  refine ⟨by rw [u.z]; omega, fun d hd hav => ?_⟩
  have := u.anZero hd rfl
  subst this
  exact hav.not0
 ·exact lv y k hk ha
theorem Rnd.pred0 (O : Ord nx order place) {K i : Nat} {again : Bool} (h : Rnd nx N order place K i again up) (hi : i < order.length) (i0 : 1 <= i) {m : Int} (hm : order.getD i 0 = m) : Rd nx m /\ m ≠ 0 /\ fa place m = i /\ ∃ q, Rd nx q /\ m ∈ nx q /\ 0 <= fa up q /\ fa place q < fa place m := by
 have hmo : Rd nx m := (O.mem m).1 (by rw [<- hm, List.getD_eq_getElem?_getD, List.getElem?_eq_getElem hi]; exact List.getElem_mem hi)
 have hp : fa place m = i := by rw [<- hm]; exact O.pl i hi
 have z := O.pl 0 O.hd.1
 rw [O.hd.2] at z
 have m0 : m ≠ 0 := fun e => by rw [e] at hp; omega
 obtain ⟨q, a, b, c⟩ := O.pred m hmo m0
 exact ⟨hmo, m0, hp, q, a, b, h.done q a (by omega), c⟩
theorem Rnd.step (H : NxOk nx N) (O : Ord nx order place) {K i : Nat} {again : Bool} (h : Rnd nx N order place K i again up) (hi : i < order.length) (i0 : 1 <= i) {m d : Int} (hm : order.getD i 0 = m) {ps : List Int} (hps : ∀ p, p ∈ ps ↔ Rd nx p /\ m ∈ nx p) (hf : Fold nx N place up ps d) :
  (0 <= d /\ d <= (N : Int)) /\ (fa up m = d -> Rnd nx N order place K (i + 1) again up) /\ (fa up m ≠ d -> Rnd nx N order place K (i + 1) true (up.set m.toNat d)) := by
 obtain ⟨hmo, m0, hp, q, q1, q2, q3, q4⟩ := h.pred0 O hi i0 hm
 have mr := hmo.rng H
 have qps : q ∈ ps := (hps q).2 ⟨q1, q2⟩
 have d0 : 0 <= d := by
  rcases hf with ⟨_, e⟩ | ⟨e, _⟩
  ·have := e q qps; omega
  ·exact e
 have g := hf.got d0
 have dr := g.r.rng H
 have hK : ∀ y, K <= (if fa place y < (i : Int) then K + 1 else K) /\ (if fa place y < (i : Int) then K + 1 else K) <= K + 1 := fun y => by split <;> omega
 obtain ⟨u1, l1, c1⟩ := put_ok H O h.u h.lv hK hmo m0 hps g ⟨q, qps, q3, q4⟩
 have hl := h.u.ul
 have fs : ∀ y, 0 <= y -> fa (up.set m.toNat d) y = if y = m then d else fa up y := fun y hy => fa_set (by omega) hy
 have lv1 : Lvl nx (up.set m.toNat d) (fun y => if fa place y < ((i + 1 : Nat) : Int) then K + 1 else K) := fun y k hk ha => l1 y k (by
  simp only at hk ⊢
  split
  ·split at hk <;> omega
  ·rename_i hym
   have : fa place y ≠ i := fun e => hym (O.inj ⟨k, ha⟩ hmo (by omega))
   split
   ·split at hk <;> omega
   ·rename_i hlt
    rw [if_neg (by omega)] at hk
    exact hk) ha
 have dn : ∀ y, Rd nx y -> fa place y < ((i + 1 : Nat) : Int) -> 0 <= fa (up.set m.toNat d) y := fun y hy hlt => by
  rw [fs y (hy.rng H).1]
  split
  ·exact d0
  ·rename_i hym
   have : fa place y ≠ i := fun e => hym (O.inj hy hmo (by omega))
   exact h.done y hy (by omega)
 have same : fa up m = d -> up.set m.toNat d = up := fun e => by
  apply List.ext_getElem?
  intro j
  rw [List.getElem?_set]
  split
  ·rename_i e2
   subst e2
   have q : up[m.toNat]? = some (fa up m) := by
    unfold fa
    rw [List.getD_eq_getElem?_getD, List.getElem?_eq_getElem (by omega)]
    rfl
   rw [if_pos (by omega), q, e]
  ·rfl
 refine ⟨⟨d0, dr.2⟩, fun e => ?_, fun e => ⟨u1, lv1, dn, (fun q => by cases q), fun Kst hs hk => ?_⟩⟩
 ·rw [same e] at u1 lv1 dn
  refine ⟨u1, lv1, dn, fun ha y hy y0 hlt p pr hyp pu => ?_, h.quiet⟩
  by_cases e2 : y = m
  ·subst e2
   rw [e]
   exact g.an p ((hps p).2 ⟨pr, hyp⟩) pu
  ·have : fa place y ≠ i := fun e => e2 (O.inj hy hmo (by omega))
   exact h.fix ha y hy y0 (by omega) p pr hyp pu
 ·exfalso
  apply e
  have dom : ∀ (y e : Int), Rd nx y -> 0 <= fa up y -> An up e y -> Dm nx e y := fun y e hy hu ha k hav => by
   have yr := hy.rng H
   have er := ((h.u.an H ha yr.1 yr.2 hu).1).rng H
   obtain ⟨k2, hk2, av⟩ := hs e y (by omega) er.2 yr.1 yr.2 ⟨k, hav⟩
   exact (h.lv y k2 (Nat.le_trans hk2 (Nat.le_trans hk (hK y).1)) (av.all H)).2 e ha av
  have um : 0 <= fa up m := by
   obtain ⟨k2, hk2, av⟩ := hs (-1) m (by omega) (by omega) mr.1 mr.2 hmo
   exact (h.lv m k2 (Nat.le_trans hk2 (Nat.le_trans hk (hK m).1)) av).1
  obtain ⟨_, mu, _, q⟩ := h.u.got H mr.1 mr.2 um
  obtain ⟨q5, q6⟩ := q m0
  have d1 : Dm nx (fa up m) m := dom m _ hmo um (.up .refl)
  have dne : d ≠ m := fun q => by rw [q] at c1; omega
  have d2 : Dm nx d m := fun k hav => by
   cases hav with
   | root e => exact m0 rfl
   | @step k p _ hpa hy hne =>
    have pr : Rd nx p := hpa.rd H
    obtain ⟨k2, hk2, av⟩ := hs (-1) p (by omega) (by omega) (pr.rng H).1 (pr.rng H).2 pr
    have pu := (h.lv p k2 (Nat.le_trans hk2 (Nat.le_trans hk (hK p).1)) av).1
    exact dom p d pr pu (g.an p ((hps p).2 ⟨pr, hy⟩) pu) k hpa
  have d3 : Dm nx d (fa up m) := q6 d dne d2
  have d4 : Dm nx (fa up m) d := g.dm _ fun p hp hu => d1.pred ((hps p).1 hp).2 (fun q => by rw [<- q] at q5; omega)
  exact O.anti g.r d4 d3
structure Doms (nx : Int -> List Int) (N : Nat) (up : List Int) : Prop where
 ul : up.length = N + 1
 z : fa up 0 = 0
 no : ∀ y, 1 <= y -> y <= (N : Int) -> ¬ Rd nx y -> fa up y = -1
 yes : ∀ y, Rd nx y -> y ≠ 0 -> 0 <= fa up y /\ fa up y <= (N : Int) /\ Rd nx (fa up y) /\ fa up y ≠ y /\ Dm nx (fa up y) y /\ ∀ d, d ≠ y -> Dm nx d y -> Dm nx d (fa up y)
theorem Rnd.last (H : NxOk nx N) (O : Ord nx order place) {K : Nat} (h : Rnd nx N order place K order.length false up) : Doms nx N up /\ ∀ y, Rd nx y -> y ≠ 0 -> fa place (fa up y) < fa place y := by
 have dn : ∀ y, Rd nx y -> 0 <= fa up y := fun y hy => h.done y hy (O.nn hy).2
 have dom : ∀ (k : Nat) (y e : Int), An up e y -> ¬ Av nx e k y := by
  intro k
  induction k with
  | zero =>
   intro y e ha hav
   cases hav with
   | root he => exact he (h.u.anZero ha rfl)
  | succ k ih =>
   intro y e ha hav
   cases ha with
   | refl => exact hav.ne rfl
   | up ha =>
    have hy := hav.rd H
    cases hav with
    | @step k p _ hpa hyp hne =>
     have pr : Rd nx p := hpa.rd H
     have y0 : y ≠ 0 := by have := H.rng _ _ hyp; omega
     exact ih p e ((h.fix rfl y hy y0 (O.nn hy).2 p pr hyp (dn p pr)).trans ha) hpa
 refine ⟨⟨h.u.ul, h.u.z, fun y y0 y1 hn => ?_, fun y hy y0 => ?_⟩, fun y hy y0 => ?_⟩
 ·rcases h.u.each y (by omega) y1 with e | ⟨_, e, _⟩
  ·exact e
  ·exact absurd e hn
 ·have yr := hy.rng H
  obtain ⟨_, a, b, c⟩ := h.u.got H yr.1 yr.2 (dn y hy)
  obtain ⟨c1, c2⟩ := c y0
  exact ⟨dn y hy, (a.rng H).2, a, fun e => by rw [e] at c1; omega, fun k => dom k y _ (.up .refl), c2⟩
 ·have yr := hy.rng H
  exact ((h.u.got H yr.1 yr.2 (dn y hy)).2.2.2 y0).1
theorem Rnd.again (H : NxOk nx N) (O : Ord nx order place) {K : Nat} {b : Bool} (h : Rnd nx N order place K order.length b up) : UpOk nx N place up /\ Lvl nx up (fun _ => K + 1) :=
 ⟨h.u, fun y k hk ha => h.lv y k (by simp only; rw [if_pos (O.nn ⟨k, ha⟩).2]; exact hk) ha⟩
end
end
end Go.Proofs.YtogpgkoelplknaaDoor
end
section
namespace Go.Proofs.YtogpgkoelplknaaDoor
open Go.RowKit Go.BigFrame PLensPaths Go.Proofs.YtogpgkoelplknaaDoorW.PrintWords Go.Proofs.YtogpgkoelplknaaDoorW.PrintMore
set_option linter.unusedVariables false
section
abbrev nilS : Value := .slice none 0 0
theorem RI_other {w w1 : World} {b : Nat} {v : Value} {l : List Int} {row : Option Nat} (h : RI w b v l) (hg : w.grownBy w1 row) (hne : v.ownBlock = none \/ v.ownBlock ≠ row) : RI w1 b v l :=
 Kd.R_of_own (own_other (Kd.own_of_R h) hg hne) (fun _ _ => trivial)
theorem RI_lt {w : World} {b : Nat} {v : Value} {l : List Int} (h : RI w b v l) : ∀ k, v.ownBlock = some k -> b <= k /\ k < w.heap.size := fun k hk => ⟨Kd.R_base h k hk, Kd.R_lt h k hk⟩
theorem RI_far {w : World} {b : Nat} {v : Value} {l : List Int} (h : RI w b v l) {p : Addr} (hne : v.ownBlock ≠ some p.block) (u : Value) : RI (w.setCell p u) b v l :=
 Kd.R_of_own (own_setCell (Kd.own_of_R h) (fun e => hne e.symm) u) (fun _ _ => trivial)
structure BkAt (w : World) (B gB n : Nat) (V : List Value) (L : List (List Int)) (ex : Nat -> Prop) : Prop where
 out : w.heap[gB]? = some (.cells V.toArray 24 (0, 0))
 vl : V.length = n
 ll : L.length = n
 row : ∀ x, x < n -> RI w B (V.getD x nilS) (L.getD x [])
 ne : ∀ x y, x < n -> y < n -> x ≠ y -> ∀ k, (V.getD x nilS).ownBlock = some k -> (V.getD y nilS).ownBlock ≠ some k
 ex : ∀ x, x < n -> ∀ k, (V.getD x nilS).ownBlock = some k -> ¬ ex k
 gb : B <= gB
theorem BkAt.other {w w1 : World} {B gB n : Nat} {V : List Value} {L : List (List Int)} {ex : Nat -> Prop} {row : Option Nat} (h : BkAt w B gB n V L ex) (hg : w.grownBy w1 row) (hr : ∀ k, row = some k -> ex k \/ w.heap.size <= k) (hne : some gB ≠ row) : BkAt w1 B gB n V L ex :=
 ⟨blk_grown h.out hg hne, h.vl, h.ll, fun x hx => RI_other (h.row x hx) hg (by
  cases e : (V.getD x nilS).ownBlock with
  | none => exact .inl rfl
  | some k =>
   right
   intro q
   rcases hr k q.symm with q2 | q2
   ·exact h.ex x hx k e q2
   ·have := (RI_lt (h.row x hx) k e).2; omega), h.ne, h.ex, h.gb⟩
theorem BkAt.below {w w1 : World} {B gB n : Nat} {V : List Value} {L : List (List Int)} {ex : Nat -> Prop} (h : BkAt w B gB n V L ex) (hb : Below w.heap.size w w1) : BkAt w1 B gB n V L ex :=
 h.other (grown_of_below hb none) (fun k e => by cases e) (by simp)
theorem BkAt.put {w : World} {B gB n : Nat} {V : List Value} {L : List (List Int)} {ex : Nat -> Prop} (h : BkAt w B gB n V L ex) {p : Addr} (hp : ex p.block) (hne : gB ≠ p.block) (u : Value) : BkAt (w.setCell p u) B gB n V L ex :=
 ⟨blk_far h.out hne u, h.vl, h.ll, fun x hx => RI_far (h.row x hx) (fun e => h.ex x hx _ e hp) u, h.ne, h.ex, h.gb⟩
theorem BkAt.mono {w : World} {B gB n : Nat} {V : List Value} {L : List (List Int)} {ex ex' : Nat -> Prop} (h : BkAt w B gB n V L ex) (hx : ∀ k, ex' k -> ex k) : BkAt w B gB n V L ex' :=
 ⟨h.out, h.vl, h.ll, h.row, h.ne, fun x hx' k e q => h.ex x hx' k e (hx k q), h.gb⟩
theorem BkAt.more {w : World} {B gB n : Nat} {V : List Value} {L : List (List Int)} {ex : Nat -> Prop} (h : BkAt w B gB n V L ex) {ex' : Nat -> Prop} (hx : ∀ k, ex' k -> ex k \/ w.heap.size <= k) : BkAt w B gB n V L ex' :=
 ⟨h.out, h.vl, h.ll, h.row, h.ne, fun x hx' k e q => by
  rcases hx k q with q2 | q2
  ·exact h.ex x hx' k e q2
  ·have := (RI_lt (h.row x hx') k e).2; omega, h.gb⟩
theorem getD_setV {V : List Value} {x y : Nat} {v : Value} (h : x < V.length) : (V.set x v).getD y nilS = if x = y then v else V.getD y nilS := by
 rw [List.getD_eq_getElem?_getD, List.getElem?_set]
 by_cases e : x = y
 ·subst e; rw [if_pos rfl, if_pos rfl]; simp [h]
 ·rw [if_neg e, if_neg e, <- List.getD_eq_getElem?_getD]
theorem getD_setL {L : List (List Int)} {x y : Nat} {v : List Int} (h : x < L.length) : (L.set x v).getD y [] = if x = y then v else L.getD y [] := by
 rw [List.getD_eq_getElem?_getD, List.getElem?_set]
 by_cases e : x = y
 ·subst e; rw [if_pos rfl, if_pos rfl]; simp [h]
 ·rw [if_neg e, if_neg e, <- List.getD_eq_getElem?_getD]
theorem BkAt.app {w w1 : World} {B gB n : Nat} {V : List Value} {L : List (List Int)} {ex : Nat -> Prop} {x : Nat} {v1 : Value} {l1 : List Int} (h : BkAt w B gB n V L ex) (hx : x < n) (h1 : RI w1 B v1 l1) (hg : w.grownBy w1 (V.getD x nilS).ownBlock)
  (hat : v1.ownBlock = (V.getD x nilS).ownBlock \/ ∃ b, v1.ownBlock = some b /\ w.heap.size <= b) (hex : ∀ k, ex k -> k < w.heap.size) :
  BkAt (w1.setCell ⟨gB, x, none⟩ v1) B gB n (V.set x v1) (L.set x l1) ex := by
 have hVl := h.vl
 have hLl := h.ll
 have o1 := blk_grown h.out hg (Kd.R_ne (h.row x hx) h.out (by decide))
 have nw : ∀ y, y < n -> y ≠ x -> ∀ k, v1.ownBlock = some k -> (V.getD y nilS).ownBlock ≠ some k := fun y hy hyx k hk q => by
  rcases hat with e | ⟨b, e, hb⟩
  ·rw [e] at hk
   exact h.ne x y hx hy (fun c => hyx c.symm) k hk q
  ·rw [e] at hk
   cases hk
   have := (RI_lt (h.row y hy) _ q).2
   omega
 refine ⟨?_, by simpa using hVl, by simpa using hLl, fun y hy => ?_, fun y z hy hz hyz k hk => ?_, fun y hy k hk => ?_, h.gb⟩
 ·rw [blk_set o1 x v1]; simp
 ·rw [getD_setV (by omega), getD_setL (by omega)]
  by_cases e : x = y
  ·rw [if_pos e, if_pos e]
   exact Kd.R_set h1 o1 (by decide) x v1
  ·rw [if_neg e, if_neg e]
   refine Kd.R_set (RI_other (h.row y hy) hg ?_) o1 (by decide) x v1
   cases q : (V.getD y nilS).ownBlock with
   | none => exact .inl rfl
   | some k => right; intro c; exact h.ne y x hy hx (fun c => e c.symm) k q c.symm
 ·rw [getD_setV (by omega)] at hk ⊢
  by_cases e : x = y
  ·rw [if_pos e] at hk
   rw [if_neg (by omega)]
   exact nw z hz (by omega) k hk
  ·rw [if_neg e] at hk
   by_cases e2 : x = z
   ·rw [if_pos e2]
    exact fun q => nw y hy (fun c => e c.symm) k q hk
   ·rw [if_neg e2]
    exact h.ne y z hy hz hyz k hk
 ·rw [getD_setV (by omega)] at hk
  by_cases e : x = y
  ·rw [if_pos e] at hk
   rcases hat with q | ⟨b, q, hb⟩
   ·rw [q] at hk
    exact h.ex x hx k hk
   ·rw [q] at hk
    cases hk
    exact fun c => by have := hex _ c; omega
  ·rw [if_neg e] at hk
   exact h.ex y hy k hk
theorem infoS : (Tryd.prog.info? 24).map (fun i => (i.zero, i.size, i.bytes)) = some (some nilS, 1, 24) := by kernel_rfl
section
variable {ops : Array Oper} {rest : List Oper} {o : Oper} {a : Act} {Q : Exit -> Act -> World -> Prop}
theorem make_ints {w0 W : World} (base : Nat) (hgd : o.guard = none) {N : Tmp} (hd : o.dst = some N) (x y : Operand) (ho : o.op = .makeSlice 24 x y) (n : Nat) (hx : a.eval x = .int .i64 n) (hy : a.eval y = .int .i64 n) (hl : n <= 1099511627776) (HB : Below base w0 W) (hbase : base <= W.heap.size)
  (h : ∀ v1 w1, RI w1 base v1 (List.replicate n 0) -> Below base w0 w1 -> W.grownBy w1 none -> (∃ b, v1.ownBlock = some b /\ W.heap.size <= b) -> wpList Tryd.prog ops Q rest (a.put o.dst v1) w1) : wpList Tryd.prog ops Q (o :: rest) a W :=
 Kd.R_make (Kd.int .i64) base 3 hgd hd 24 x y ho (n : Int) hx hy Tryd.underlying24 (.int .i64 0) 8 infoI rfl (by decide) (by omega) 0 (okp := fun _ => False) (ok := All) rfl (fun _ h => h.elim) trivial (by omega) (by simp; omega) HB hbase (by simpa using h)
end
end
section
structure DsAt (w : World) (B gB gF cF n : Nat) (V : List Value) (L : List (List Int)) (F : List Int) (vX : Value) (X : List Int) : Prop where
 bk : BkAt w B gB n V L (fun k => k = gF \/ vX.ownBlock = some k)
 far : RI w B (.slice (some ⟨gF, 0, none⟩) n cF) F
 xs : RI w B vX X
 ne : vX.ownBlock ≠ some gF
section
variable {w w1 : World} {B gB gF cF n : Nat} {V : List Value} {L : List (List Int)} {F X : List Int} {vX : Value}
theorem DsAt.fB (h : DsAt w B gB gF cF n V L F vX X) : B <= gF /\ gF < w.heap.size := RI_lt h.far gF rfl
theorem DsAt.neB (h : DsAt w B gB gF cF n V L F vX X) : gB ≠ gF := fun e => by
 obtain ⟨cells, hc⟩ := Kd.R_typed h.far gF rfl
 rw [<- e] at hc
 exact blk_ne h.bk.out hc (by decide) rfl
theorem DsAt.below (h : DsAt w B gB gF cF n V L F vX X) (hb : Below w.heap.size w w1) : DsAt w1 B gB gF cF n V L F vX X := ⟨h.bk.below hb, Kd.R_below h.far hb, Kd.R_below h.xs hb, h.ne⟩
theorem DsAt.other (h : DsAt w B gB gF cF n V L F vX X) {vY : Value} {Y : List Int} (hb : Below w.heap.size w w1) (hY : RI w1 w.heap.size vY Y) (hB : B <= w.heap.size) : DsAt w1 B gB gF cF n V L F vY Y :=
 ⟨(h.bk.below hb |>.mono (ex' := fun k => k = gF) (fun k e => .inl e)).ex |> fun q => ⟨(h.bk.below hb).out, h.bk.vl, h.bk.ll, (h.bk.below hb).row, h.bk.ne, fun x hx k e c => by
   rcases c with c | c
   ·exact h.bk.ex x hx k e (.inl c)
   ·have a := (RI_lt (h.bk.row x hx) k e).2
    have b := (RI_lt hY k c).1
    omega, h.bk.gb⟩, Kd.R_below h.far hb, Kd.R_lower hY hB, fun e => by
   have a := h.fB.2
   have b := (RI_lt hY gF e).1
   omega⟩
theorem DsAt.bare (h : DsAt w B gB gF cF n V L F vX X) : DsAt w B gB gF cF n V L F nilS [] :=
 ⟨h.bk.mono (fun k e => by rcases e with e | e; exact .inl e; simp [Value.ownBlock] at e), h.far, RI_nil _ _, by simp [Value.ownBlock]⟩
theorem DsAt.rowApp (h : DsAt w B gB gF cF n V L F vX X) {x : Nat} {v1 : Value} {l1 : List Int} (hx : x < n) (h1 : RI w1 B v1 l1) (hg : w.grownBy w1 (V.getD x nilS).ownBlock)
  (hat : v1.ownBlock = (V.getD x nilS).ownBlock \/ ∃ b, v1.ownBlock = some b /\ w.heap.size <= b) : DsAt (w1.setCell ⟨gB, x, none⟩ v1) B gB gF cF n (V.set x v1) (L.set x l1) F vX X := by
 have o1 := blk_grown h.bk.out hg (Kd.R_ne (h.bk.row x hx) h.bk.out (by decide))
 have nf : (V.getD x nilS).ownBlock ≠ some gF := fun e => h.bk.ex x hx gF e (.inl rfl)
 have nx : vX.ownBlock = none \/ vX.ownBlock ≠ (V.getD x nilS).ownBlock := by
  cases q : vX.ownBlock with
  | none => exact .inl rfl
  | some k => right; intro e; exact h.bk.ex x hx k e.symm (.inr q)
 refine ⟨h.bk.app hx h1 hg hat (fun k e => ?_), ?_, ?_, h.ne⟩
 ·rcases e with rfl | e
  ·exact h.fB.2
  ·exact (RI_lt h.xs k e).2
 ·exact Kd.R_set (RI_other h.far hg (.inr (fun e => nf e.symm))) o1 (by decide) x v1
 ·exact Kd.R_set (RI_other h.xs hg nx) o1 (by decide) x v1
end
end
section
def LSpec (G : Gr) (m : Nat) (L : List (List Int)) : Prop := ∀ y x : Int, 1 <= y -> y <= (G.obs.length : Int) -> (x ∈ L.getD y.toNat [] ↔ 1 <= x /\ x <= (m : Int) /\ y ∈ wayOf G x)
def LSpecI (G : Gr) (m : Nat) (ws : List Int) (L : List (List Int)) : Prop := ∀ y x : Int, 1 <= y -> y <= (G.obs.length : Int) -> (x ∈ L.getD y.toNat [] ↔ (1 <= x /\ x <= (m : Int) /\ y ∈ wayOf G x) \/ (x = (m : Int) + 1 /\ y ∈ ws))
theorem LSpecI.step {G : Gr} {m : Nat} {ws : List Int} {L : List (List Int)} (h : LSpecI G m ws L) {y : Int} (h0 : 1 <= y) (h1 : y <= (G.obs.length : Int)) (hl : L.length = G.obs.length + 1) : LSpecI G m (ws ++ [y]) (L.set y.toNat (L.getD y.toNat [] ++ [(m : Int) + 1])) := by
 intro z x z0 z1
 rw [getD_setL (by omega)]
 by_cases e : y.toNat = z.toNat
 ·have : y = z := by omega
  subst this
  rw [if_pos rfl, List.mem_append, h y x h0 h1]
  simp only [List.mem_singleton, List.mem_append]
  constructor
  ·rintro (q | q)
   ·rcases q with q | q
    ·exact .inl q
    ·exact .inr ⟨q.1, .inl q.2⟩
   ·exact .inr ⟨q, .inr (by trivial)⟩
  ·rintro (q | ⟨q, q2 | q2⟩)
   ·exact .inl (.inl q)
   ·exact .inl (.inr ⟨q, q2⟩)
   ·exact .inr q
 ·rw [if_neg e, h z x z0 z1]
  have : z ≠ y := fun q => e (by rw [q])
  simp [this]
theorem LSpecI.full {G : Gr} {m : Nat} {L : List (List Int)} (h : LSpecI G m (wayOf G ((m : Int) + 1)) L) : LSpec G (m + 1) L := by
 intro y x y0 y1
 rw [h y x y0 y1]
 constructor
 ·rintro (⟨a, b, c⟩ | ⟨a, b⟩)
  ·exact ⟨a, by omega, c⟩
  ·subst a; exact ⟨by omega, by omega, b⟩
 ·rintro ⟨a, b, c⟩
  by_cases e : x <= (m : Int)
  ·exact .inl ⟨a, e, c⟩
  ·have : x = (m : Int) + 1 := by omega
   subst this
   exact .inr ⟨rfl, c⟩
theorem LSpec.begin {G : Gr} {m : Nat} {L : List (List Int)} (h : LSpec G m L) : LSpecI G m [] L := fun y x y0 y1 => by rw [h y x y0 y1]; simp
def LLen (L : List (List Int)) (c : Nat) : Prop := ∀ y, (L.getD y []).length <= c
theorem LLen.set {L : List (List Int)} {c : Nat} (h : LLen L c) {x : Nat} {v : Int} (hx : x < L.length) : LLen (L.set x (L.getD x [] ++ [v])) (c + 1) := fun y => by
 rw [getD_setL hx]
 split
 ·rw [List.length_append, List.length_singleton]; have := h x; omega
 ·have := h y; omega
theorem LLen.mono {L : List (List Int)} {c d : Nat} (h : LLen L c) (hd : c <= d) : LLen L d := fun y => Nat.le_trans (h y) hd
theorem RI_lit (w : World) (b : Nat) (x : Int) (hb : b <= w.heap.size) : RI (w.alloc (.cells #[.int .i64 x] 3)) b (.slice (some ⟨w.heap.size, 0, none⟩) 1 1) [x] := by
 have h2 := World.ownsRow_lit (base := b) (e := 3) (size := 1) w #[.int .i64 x] 1 hb (by decide) (by rfl)
 exact Kd.R_of_own h2 (fun _ _ => trivial)
def FSpec (G : Gr) (m : Nat) (F : List Int) : Prop := F.length = G.obs.length + 1 /\ ∀ x : Int, 1 <= x -> x <= (m : Int) -> fa F x = -1
theorem FSpec.step {G : Gr} {m : Nat} {F : List Int} (h : FSpec G m F) (hm : m < G.obs.length) : FSpec G (m + 1) (F.set (m + 1) (-1)) := by
 have hl := h.1
 refine ⟨by simp [h.1], fun x x0 x1 => ?_⟩
 have := fa_set (F := F) (x := ((m + 1 : Nat) : Int)) (y := x) (v := -1) (by omega) (by omega)
 rw [Int.toNat_natCast] at this
 rw [this]
 by_cases e : x = ((m + 1 : Nat) : Int)
 ·rw [if_pos e]
 ·rw [if_neg e]; exact h.2 x x0 (by omega)
end
end Go.Proofs.YtogpgkoelplknaaDoor
end
section
namespace Go.Proofs.YtogpgkoelplknaaDoor
set_option linter.unusedVariables false
section
def unb (f : Nat -> Nat) : List Bool -> Nat -> Nat
 | [], _ => 0
 | b :: r, i => (if b then 0 else f i) + unb f r (i + 1)
theorem unb_set (f : Nat -> Nat) : ∀ (bg : List Bool) (y i : Nat), y < bg.length -> bg.getD y false = false -> unb f (bg.set y true) i + f (i + y) = unb f bg i
 | [], y, i, h, _ => by simp at h
 | b :: r, 0, i, _, hb => by
  simp at hb
  subst hb
  simp [unb]
  omega
 | b :: r, y + 1, i, h, hb => by
  simp at h hb
  have := unb_set f r y (i + 1) h (by rw [List.getD_eq_getElem?_getD]; exact hb)
  rw [show i + 1 + y = i + (y + 1) by omega] at this
  simp only [List.set_cons_succ, unb]
  omega
theorem unb_new (f : Nat -> Nat) (n i : Nat) : unb f (List.replicate (n + 1) false) i = unb f (List.replicate n false) i + f (i + n) := by
 induction n generalizing i with
 | zero => simp [unb]
 | succ n ih =>
  have := ih (i + 1)
  rw [show i + 1 + n = i + (n + 1) by omega] at this
  rw [List.replicate_succ]
  simp only [unb]
  rw [this]
  rw [show List.replicate (n + 1) false = false :: List.replicate n false from rfl]
  simp only [unb]
  omega
structure Stp where
 n : Int
 c : List Int
 l : List Int
def stW (st : List Stp) : Nat := (st.map fun e => e.l.length + 1).sum
structure Dfs (nx : Int -> List Int) (N : Nat) (F : List Int) (st : List Stp) (bg : List Bool) (L : List (List Int)) : Prop where
 bl : bg.length = N + 1
 ll : L.length = N + 1
 nd : (F ++ st.map Stp.n).Nodup
 mem : ∀ y : Int, 0 <= y -> y <= (N : Int) -> (bg.getD y.toNat false = true ↔ y ∈ F \/ y ∈ st.map Stp.n)
 rd : ∀ y ∈ F ++ st.map Stp.n, Rd nx y
 done : ∀ x ∈ F, ∀ y ∈ nx x, y ∈ F \/ y ∈ st.map Stp.n
 part : ∀ e ∈ st, nx e.n = e.c ++ e.l /\ ∀ y ∈ e.c, y ∈ F \/ y ∈ st.map Stp.n
 ahead : ∀ y p : Int, 1 <= y -> y <= (N : Int) -> (p ∈ L.getD y.toNat [] ↔ (p ∈ F /\ y ∈ nx p) \/ ∃ e ∈ st, e.n = p /\ y ∈ e.c)
 par : ∀ y ∈ F, y ≠ 0 -> ∃ p, y ∈ nx p /\ ((∃ a b, F = a ++ y :: b /\ p ∈ b) \/ p ∈ st.map Stp.n)
 link : ∀ a e e' b, st = a ++ e :: e' :: b -> e'.n ∈ nx e.n
 hd : ∀ e b, st = e :: b -> e.n = 0
 zin : 0 ∈ F \/ 0 ∈ st.map Stp.n
 fin : st = [] -> ∃ F', F = F' ++ [0]
theorem nodup_len' {n : Nat} {l : List Int} (nd : l.Nodup) (hb : ∀ x ∈ l, 0 <= x /\ x <= (n : Int)) : l.length <= n + 1 := by
 have := nodup_len (n := n + 1) (L := l.map (· + 1)) (List.Pairwise.map _ (fun a b e q => e (by omega)) nd) (fun x hx => by
  obtain ⟨y, hy, rfl⟩ := List.mem_map.1 hx
  have := hb y hy
  omega)
 simpa using this
section
variable {nx : Int -> List Int} {N : Nat} {F : List Int} {st : List Stp} {bg : List Bool} {L : List (List Int)}
theorem Dfs.begin (H : NxOk nx N) : Dfs nx N [] [⟨0, [], nx 0⟩] ((List.replicate (N + 1) false).set 0 true) (List.replicate (N + 1) []) := by
 refine ⟨by simp, by simp, by simp, fun y y0 y1 => ?_, fun y hy => ?_, fun x hx => by simp at hx, fun e he => ?_, fun y p y0 y1 => ?_, fun y hy => by simp at hy, fun a e e' b h => ?_, fun e b h => ?_, .inr (by simp), fun q => by cases q⟩
 ·rw [List.getD_eq_getElem?_getD, List.getElem?_set]
  by_cases e : y = 0
  ·subst e; simp
  ·rw [if_neg (by omega), List.getElem?_replicate]
   simp [e]
   split <;> simp
 ·simp at hy; subst hy; exact .zero
 ·simp at he; subst he; exact ⟨rfl, fun y hy => by cases hy⟩
 ·have : (List.replicate (N + 1) ([] : List Int)).getD y.toNat [] = [] := by
   rw [List.getD_eq_getElem?_getD, List.getElem?_replicate]; split <;> rfl
  rw [this]
  simp
 ·have := congrArg List.length h
  simp at this
  omega
 ·cases h; rfl
theorem Dfs.pop (H : NxOk nx N) {s : List Stp} {n : Int} {c : List Int} (h : Dfs nx N F (s ++ [⟨n, c, []⟩]) bg L) : Dfs nx N (F ++ [n]) s bg L /\ stW s < stW (s ++ [⟨n, c, []⟩]) := by
 have hp := h.part ⟨n, c, []⟩ (by simp)
 simp only [List.append_nil] at hp
 obtain ⟨hc, hc2⟩ := hp
 have mv : ∀ y, (y ∈ F \/ y ∈ (s ++ [⟨n, c, []⟩] : List Stp).map Stp.n) ↔ (y ∈ F ++ [n] \/ y ∈ s.map Stp.n) := fun y => by
  simp only [List.map_append, List.map_cons, List.map_nil, List.mem_append, List.mem_singleton]
  constructor
  ·rintro (a | a | a)
   ·exact .inl (.inl a)
   ·exact .inr a
   ·exact .inl (.inr a)
  ·rintro ((a | a) | a)
   ·exact .inl a
   ·exact .inr (.inr a)
   ·exact .inr (.inl a)
 refine ⟨⟨h.bl, h.ll, ?_, fun y y0 y1 => (h.mem y y0 y1).trans (mv y), fun y hy => h.rd y ?_, fun x hx y hy => ?_, fun e he => ?_, fun y p y0 y1 => ?_, fun y hy hy0 => ?_, fun a e e' b hs => h.link a e e' (b ++ [⟨n, c, []⟩]) (by rw [hs]; simp), fun e b hs => h.hd e (b ++ [⟨n, c, []⟩]) (by rw [hs]; simp), (mv 0).1 h.zin, fun q => ⟨F, by subst q; have e : n = 0 := h.hd ⟨n, c, []⟩ [] rfl; rw [e]⟩⟩, ?_⟩
 ·have := h.nd
  rw [List.map_append, <- List.append_assoc] at this
  have p : (F ++ [n] ++ s.map Stp.n).Perm (F ++ s.map Stp.n ++ [n]) := by
   rw [List.append_assoc, List.append_assoc]
   exact List.Perm.append_left _ List.perm_append_comm
  exact p.symm.nodup this
 ·rcases List.mem_append.1 hy with q | q
  ·exact List.mem_append.2 ((mv y).2 (.inl q))
  ·exact List.mem_append.2 ((mv y).2 (.inr q))
 ·rcases List.mem_append.1 hx with q | q
  ·exact (mv y).1 (h.done x q y hy)
  ·simp at q; subst q
   exact (mv y).1 (hc2 y (by rw [<- hc]; exact hy))
 ·obtain ⟨a, b⟩ := h.part e (List.mem_append.2 (.inl he))
  exact ⟨a, fun y hy => (mv y).1 (b y hy)⟩
 ·rw [h.ahead y p y0 y1]
  constructor
  ·rintro (⟨a, b⟩ | ⟨e, he, rfl, hy⟩)
   ·exact .inl ⟨List.mem_append.2 (.inl a), b⟩
   ·rcases List.mem_append.1 he with q | q
    ·exact .inr ⟨e, q, rfl, hy⟩
    ·simp at q; subst q
     exact .inl ⟨by simp, by simp only at hy ⊢; rw [hc]; exact hy⟩
  ·rintro (⟨a, b⟩ | ⟨e, he, rfl, hy⟩)
   ·rcases List.mem_append.1 a with q | q
    ·exact .inl ⟨q, b⟩
    ·simp at q; subst q
     exact .inr ⟨⟨p, c, []⟩, by simp, rfl, by simp only; rw [<- hc]; exact b⟩
   ·exact .inr ⟨e, List.mem_append.2 (.inl he), rfl, hy⟩
 ·rcases List.mem_append.1 hy with q | q
  ·obtain ⟨p, hp, q2⟩ := h.par y q hy0
   refine ⟨p, hp, ?_⟩
   rcases q2 with ⟨a, b, e, hb⟩ | q2
   ·exact .inl ⟨a, b ++ [n], by rw [e]; simp, List.mem_append.2 (.inl hb)⟩
   ·simp only [List.map_append, List.map_cons, List.map_nil, List.mem_append, List.mem_singleton] at q2
    rcases q2 with q2 | q2
    ·exact .inr q2
    ·subst q2
     obtain ⟨a, b, e⟩ := List.append_of_mem q
     exact .inl ⟨a, b ++ [p], by rw [e]; simp, by simp⟩
  ·simp at q
   subst q
   rcases List.eq_nil_or_concat s with e | ⟨s', e0, e⟩
   ·subst e; exact absurd (h.hd _ [] rfl) hy0
   ·rw [List.concat_eq_append] at e
    subst e
    refine ⟨e0.n, h.link s' e0 ⟨y, c, []⟩ [] (by simp), .inr (by simp)⟩
 ·simp [stW]
theorem Dfs.eat_rng (H : NxOk nx N) {s : List Stp} {n y : Int} {c l : List Int} (h : Dfs nx N F (s ++ [⟨n, c, y :: l⟩]) bg L) : y ∈ nx n /\ 1 <= y /\ y <= (N : Int) /\ 0 <= n /\ n <= (N : Int) := by
 obtain ⟨hc, _⟩ := h.part ⟨n, c, y :: l⟩ (by simp)
 have hy : y ∈ nx n := by simp only at hc; rw [hc]; simp
 have hn := (h.rd n (by simp)).rng H
 exact ⟨hy, (H.rng _ _ hy).1, (H.rng _ _ hy).2, hn.1, hn.2⟩
theorem Dfs.eat (H : NxOk nx N) {s : List Stp} {n y : Int} {c l : List Int} (h : Dfs nx N F (s ++ [⟨n, c, y :: l⟩]) bg L) (hb : bg.getD y.toNat false = true) :
  Dfs nx N F (s ++ [⟨n, c ++ [y], l⟩]) bg (L.set y.toNat (L.getD y.toNat [] ++ [n])) /\ stW (s ++ [⟨n, c ++ [y], l⟩]) + 1 = stW (s ++ [⟨n, c, y :: l⟩]) := by
 obtain ⟨hy, y0, y1, n0, n1⟩ := h.eat_rng H
 have hb2 := (h.mem y (by omega) y1).1 hb
 have mp : (s ++ [⟨n, c ++ [y], l⟩] : List Stp).map Stp.n = (s ++ [⟨n, c, y :: l⟩] : List Stp).map Stp.n := by simp
 have ll := h.ll
 refine ⟨⟨h.bl, by simp [ll], by rw [mp]; exact h.nd, by rw [mp]; exact h.mem, by rw [mp]; exact h.rd, by rw [mp]; exact h.done, fun e he => ?_, fun z p z0 z1 => ?_, by rw [mp]; exact h.par, fun a e e' b hs => ?_, fun e b hs => ?_, by rw [mp]; exact h.zin, fun q => by simp at q⟩, ?_⟩
 ·rw [mp]
  rcases List.mem_append.1 he with q | q
  ·exact h.part e (List.mem_append.2 (.inl q))
  ·simp at q; subst q
   obtain ⟨a, b⟩ := h.part ⟨n, c, y :: l⟩ (by simp)
   refine ⟨by simp only at a ⊢; rw [a]; simp, fun z hz => ?_⟩
   simp only [List.mem_append, List.mem_singleton] at hz
   rcases hz with q | q
   ·exact b z q
   ·subst q; exact hb2
 ·rw [getD_setL (by omega)]
  by_cases e : y.toNat = z.toNat
  ·obtain rfl : y = z := by omega
   rw [if_pos rfl, List.mem_append, h.ahead y p z0 z1]
   simp only [List.mem_singleton]
   constructor
   ·rintro ((a | ⟨e, he, rfl, hy⟩) | a)
    ·exact .inl a
    ·rcases List.mem_append.1 he with q | q
     ·exact .inr ⟨e, List.mem_append.2 (.inl q), rfl, hy⟩
     ·simp at q; subst q
      exact .inr ⟨⟨n, c ++ [y], l⟩, by simp, rfl, by simp⟩
    ·subst a
     exact .inr ⟨⟨p, c ++ [y], l⟩, by simp, rfl, by simp⟩
   ·rintro (a | ⟨e, he, rfl, hy⟩)
    ·exact .inl (.inl a)
    ·rcases List.mem_append.1 he with q | q
     ·exact .inl (.inr ⟨e, List.mem_append.2 (.inl q), rfl, hy⟩)
     ·simp at q; subst q
      exact .inr rfl
  ·rw [if_neg e, h.ahead z p z0 z1]
   have zy : z ≠ y := fun q => e (by rw [q])
   constructor
   ·rintro (a | ⟨e, he, rfl, hz⟩)
    ·exact .inl a
    ·rcases List.mem_append.1 he with q | q
     ·exact .inr ⟨e, List.mem_append.2 (.inl q), rfl, hz⟩
     ·simp at q; subst q
      exact .inr ⟨⟨n, c ++ [y], l⟩, by simp, rfl, List.mem_append.2 (.inl hz)⟩
   ·rintro (a | ⟨e, he, rfl, hz⟩)
    ·exact .inl a
    ·rcases List.mem_append.1 he with q | q
     ·exact .inr ⟨e, List.mem_append.2 (.inl q), rfl, hz⟩
     ·simp at q; subst q
      simp only [List.mem_append, List.mem_singleton] at hz
      rcases hz with q | q
      ·exact .inr ⟨⟨n, c, y :: l⟩, by simp, rfl, q⟩
      ·exact absurd q zy
 ·
  rcases List.eq_nil_or_concat b with e0 | ⟨b', e1, e0⟩
  ·subst e0
   have q : s ++ [⟨n, c ++ [y], l⟩] = (a ++ [e]) ++ [e'] := by rw [hs]; simp
   obtain ⟨q1, q2⟩ := List.append_inj' q rfl
   simp at q2; subst q2 q1
   exact h.link a e ⟨n, c, y :: l⟩ [] (by simp)
  ·rw [List.concat_eq_append] at e0
   subst e0
   have q : s ++ [⟨n, c ++ [y], l⟩] = (a ++ e :: e' :: b') ++ [e1] := by rw [hs]; simp
   obtain ⟨q1, q2⟩ := List.append_inj' q rfl
   subst q1
   exact h.link a e e' (b' ++ [⟨n, c, y :: l⟩]) (by simp)
 ·cases s with
  | nil => simp at hs; obtain ⟨rfl, _⟩ := hs; exact h.hd ⟨n, c, y :: l⟩ [] rfl
  | cons e0 s' => simp at hs; obtain ⟨rfl, _⟩ := hs; exact h.hd _ (s' ++ [⟨n, c, y :: l⟩]) (by simp)
 ·simp [stW]; omega
theorem Dfs.push (H : NxOk nx N) {n y : Int} {c l : List Int} {s : List Stp} (h : Dfs nx N F (s ++ [⟨n, c, y :: l⟩]) bg L) (hb : bg.getD y.toNat false = false) :
  Dfs nx N F (s ++ [⟨n, c ++ [y], l⟩] ++ [⟨y, [], nx y⟩]) (bg.set y.toNat true) (L.set y.toNat (L.getD y.toNat [] ++ [n])) /\ stW (s ++ [⟨n, c ++ [y], l⟩] ++ [⟨y, [], nx y⟩]) = stW (s ++ [⟨n, c, y :: l⟩]) + (nx y).length := by
 obtain ⟨hy, y0, y1, n0, n1⟩ := h.eat_rng H
 have hnb : ¬ (y ∈ F \/ y ∈ (s ++ [⟨n, c, y :: l⟩] : List Stp).map Stp.n) := fun q => by
  have := (h.mem y (by omega) y1).2 q
  rw [hb] at this; cases this
 have mp : (s ++ [⟨n, c ++ [y], l⟩] ++ [⟨y, [], nx y⟩] : List Stp).map Stp.n = (s ++ [⟨n, c, y :: l⟩] : List Stp).map Stp.n ++ [y] := by simp
 have ll := h.ll
 have bl := h.bl
 have mv : ∀ z, (z ∈ F \/ z ∈ (s ++ [⟨n, c, y :: l⟩] : List Stp).map Stp.n ++ [y]) ↔ (z ∈ F \/ z ∈ (s ++ [⟨n, c, y :: l⟩] : List Stp).map Stp.n) \/ z = y := fun z => by
  rw [List.mem_append, List.mem_singleton, or_assoc]
 refine ⟨⟨by simp [bl], by simp [ll], ?_, fun z z0 z1 => ?_, fun z hz => ?_, fun x hx z hz => ?_, fun e he => ?_, fun z p z0 z1 => ?_, fun z hz zn => ?_, fun a e e' b hs => ?_, fun e b hs => ?_, ?_, fun q => by simp at q⟩, ?_⟩
 ·rw [mp, <- List.append_assoc, List.nodup_append]
  refine ⟨h.nd, by simp, fun a ha b hb2 => ?_⟩
  simp at hb2
  subst hb2
  exact fun e => hnb (by subst e; exact List.mem_append.1 ha)
 ·rw [mp, mv z, <- h.mem z z0 z1, List.getD_eq_getElem?_getD, List.getElem?_set]
  by_cases e : y.toNat = z.toNat
  ·obtain rfl : y = z := by omega
   rw [if_pos rfl, if_pos (by omega)]
   simp
  ·rw [if_neg e, <- List.getD_eq_getElem?_getD]
   have : z ≠ y := fun q => e (by rw [q])
   simp [this]
 ·rw [mp] at hz
  rcases (mv z).1 (List.mem_append.1 hz) with q | q
  ·exact h.rd z (List.mem_append.2 q)
  ·subst q; exact (h.rd n (by simp)).next H hy
 ·rw [mp]; exact (mv z).2 (.inl (h.done x hx z hz))
 ·rw [mp]
  rcases List.mem_append.1 he with q | q
  ·rcases List.mem_append.1 q with q | q
   ·obtain ⟨a, b⟩ := h.part e (List.mem_append.2 (.inl q))
    exact ⟨a, fun z hz => (mv z).2 (.inl (b z hz))⟩
   ·simp at q; subst q
    obtain ⟨a, b⟩ := h.part ⟨n, c, y :: l⟩ (by simp)
    refine ⟨by simp only at a ⊢; rw [a]; simp, fun z hz => (mv z).2 ?_⟩
    simp only [List.mem_append, List.mem_singleton] at hz
    rcases hz with q | q
    ·exact .inl (b z q)
    ·exact .inr q
  ·simp at q; subst q
   exact ⟨rfl, fun z hz => by cases hz⟩
 ·have ext : ∀ z p : Int, (∃ e ∈ (s ++ [⟨n, c ++ [y], l⟩] ++ [⟨y, [], nx y⟩] : List Stp), e.n = p /\ z ∈ e.c) ↔ (∃ e ∈ (s ++ [⟨n, c, y :: l⟩] : List Stp), e.n = p /\ z ∈ e.c) \/ (z = y /\ p = n) := fun z p => by
   constructor
   ·rintro ⟨e, he, rfl, hz⟩
    rcases List.mem_append.1 he with q | q
    ·rcases List.mem_append.1 q with q | q
     ·exact .inl ⟨e, List.mem_append.2 (.inl q), rfl, hz⟩
     ·simp at q; subst q
      simp only [List.mem_append, List.mem_singleton] at hz
      rcases hz with q | q
      ·exact .inl ⟨⟨n, c, y :: l⟩, by simp, rfl, q⟩
      ·exact .inr ⟨q, rfl⟩
    ·simp at q; subst q; cases hz
   ·rintro (⟨e, he, rfl, hz⟩ | ⟨rfl, rfl⟩)
    ·rcases List.mem_append.1 he with q | q
     ·exact ⟨e, List.mem_append.2 (.inl (List.mem_append.2 (.inl q))), rfl, hz⟩
     ·simp at q; subst q
      exact ⟨⟨n, c ++ [y], l⟩, by simp, rfl, List.mem_append.2 (.inl hz)⟩
    ·exact ⟨⟨p, c ++ [z], l⟩, by simp, rfl, by simp⟩
  rw [ext z p, getD_setL (by omega)]
  by_cases e : y.toNat = z.toNat
  ·obtain rfl : y = z := by omega
   rw [if_pos rfl, List.mem_append, h.ahead y p z0 z1, List.mem_singleton, or_assoc]
   simp
  ·have zy : z ≠ y := fun q => e (by rw [q])
   rw [if_neg e, h.ahead z p z0 z1]
   simp [zy]
 ·obtain ⟨p, hp, q⟩ := h.par z hz zn
  refine ⟨p, hp, ?_⟩
  rw [mp]
  rcases q with q | q
  ·exact .inl q
  ·exact .inr (List.mem_append.2 (.inl q))
 ·rcases List.eq_nil_or_concat b with e0 | ⟨b', e1, e0⟩
  ·subst e0
   have q : s ++ [⟨n, c ++ [y], l⟩] ++ [⟨y, [], nx y⟩] = (a ++ [e]) ++ [e'] := by rw [hs]; simp
   obtain ⟨q1, q2⟩ := List.append_inj' q rfl
   simp at q2; subst q2
   obtain ⟨q3, q4⟩ := List.append_inj' q1 rfl
   simp at q4; subst q4
   exact hy
  ·rw [List.concat_eq_append] at e0
   subst e0
   have q : s ++ [⟨n, c ++ [y], l⟩] ++ [⟨y, [], nx y⟩] = (a ++ e :: e' :: b') ++ [e1] := by rw [hs]; simp
   obtain ⟨q1, q2⟩ := List.append_inj' q rfl
   rcases List.eq_nil_or_concat b' with e0 | ⟨b2, e2, e0⟩
   ·subst e0
    have q : s ++ [⟨n, c ++ [y], l⟩] = (a ++ [e]) ++ [e'] := by rw [q1]; simp
    obtain ⟨q3, q4⟩ := List.append_inj' q rfl
    simp at q4; subst q4 q3
    exact h.link a e ⟨n, c, y :: l⟩ [] (by simp)
   ·rw [List.concat_eq_append] at e0
    subst e0
    have q : s ++ [⟨n, c ++ [y], l⟩] = (a ++ e :: e' :: b2) ++ [e2] := by rw [q1]; simp
    obtain ⟨q3, q4⟩ := List.append_inj' q rfl
    subst q3
    exact h.link a e e' (b2 ++ [⟨n, c, y :: l⟩]) (by simp)
 ·cases s with
  | nil => simp at hs; obtain ⟨rfl, _⟩ := hs; exact h.hd ⟨n, c, y :: l⟩ [] rfl
  | cons e0 s' => simp at hs; obtain ⟨rfl, _⟩ := hs; exact h.hd _ (s' ++ [⟨n, c, y :: l⟩]) (by simp)
 ·rw [mp]; exact (mv 0).2 (.inl h.zin)
 ·simp [stW]; omega
theorem Dfs.over (H : NxOk nx N) (h : Dfs nx N F [] bg L) {place : List Int} (hpl : ∀ i, i < F.length -> fa place (F.reverse.getD i 0) = i) :
  Ord nx F.reverse place /\ ∀ y p : Int, 1 <= y -> y <= (N : Int) -> (p ∈ L.getD y.toNat [] ↔ Rd nx p /\ y ∈ nx p) := by
 have mem : ∀ y, y ∈ F ↔ Rd nx y := fun y => by
  constructor
  ·intro hy; exact h.rd y (by simpa using hy)
  ·rintro ⟨k, hk⟩
   generalize hd : (-1 : Int) = d at hk
   induction hk with
   | root _ => simpa using h.zin
   | step _ hy _ ih => simpa using h.done _ ih _ hy
 have zin : (0 : Int) ∈ F := (mem 0).2 .zero
 have hz : F.reverse.getD 0 0 = 0 := by obtain ⟨F', e⟩ := h.fin rfl; rw [e]; simp
 refine ⟨⟨⟨?_, hz⟩, fun y => by rw [List.mem_reverse]; exact mem y, fun i hi => hpl i (by simpa using hi), fun y hy y0 => ?_⟩, fun y p y0 y1 => ?_⟩
 ·rw [List.length_reverse]; exact List.length_pos_of_mem zin
 ·obtain ⟨p, hp, q⟩ := h.par y ((mem y).2 hy) y0
  rcases q with ⟨a, b, e, hb⟩ | q
  ·refine ⟨p, (mem p).1 (by rw [e]; simp [hb]), hp, ?_⟩
   obtain ⟨b1, b2, eb⟩ := List.append_of_mem hb
   have er : F.reverse = b2.reverse ++ p :: (b1.reverse ++ y :: a.reverse) := by rw [e, eb]; simp
   have e1 : F.reverse.getD b2.length 0 = p := by
    rw [er, List.getD_eq_getElem?_getD, List.getElem?_append_right (by simp)]; simp
   have e2 : F.reverse.getD (b2.length + 1 + b1.length) 0 = y := by
    rw [er, List.getD_eq_getElem?_getD, List.getElem?_append_right (by simp; omega)]
    simp only [List.length_reverse]
    rw [show b2.length + 1 + b1.length - b2.length = b1.length + 1 by omega, List.getElem?_cons_succ, List.getElem?_append_right (by simp)]
    simp
   have lF : F.length = a.length + (b1.length + b2.length + 1) + 1 := by rw [e, eb]; simp; omega
   have p1 := hpl b2.length (by omega)
   have p2 := hpl (b2.length + 1 + b1.length) (by omega)
   rw [e1] at p1
   rw [e2] at p2
   rw [p1, p2]; omega
  ·cases q
 ·rw [h.ahead y p y0 y1]
  simp [mem]
theorem Dfs.bound (H : NxOk nx N) (h : Dfs nx N F st bg L) : F.length + st.length <= N + 1 := by
 have := nodup_len' (l := F ++ st.map Stp.n) (n := N) h.nd fun x hx => (h.rd x hx).rng H
 simpa using this
end
end
end Go.Proofs.YtogpgkoelplknaaDoor
end
section
namespace Go.Proofs.YtogpgkoelplknaaDoor
open Go.RowKit Go.BigFrame PLensPaths Go.Proofs.YtogpgkoelplknaaDoorW.PrintWords Go.Proofs.YtogpgkoelplknaaDoorW.PrintMore
set_option linter.unusedVariables false
section
def Sub {α : Type} (v full : Value) (xs fl : List α) : Prop := ∃ m, m <= fl.length /\ xs = fl.take m /\ ∃ A c cf, full = .slice A fl.length cf /\ v = .slice A xs.length c /\ xs.length <= c
def kSub {α : Type} (e : Nat) (d : Kd α) : Kd (List α) where
 sz := 1
 E := e :: d.E
 K := fun w xs cs => ∃ A c, cs = [.slice A xs.length c] /\ xs.length <= c /\ d.C w A xs.length xs
 M := fun w base ok xs cs => ∃ v full fl, cs = [v] /\ d.R e w base ok full fl /\ Sub v full xs fl
 K_len := (Kd.slice e d).K_len
 K_one := (Kd.slice e d).K_one
 K_below := (Kd.slice e d).K_below
 K_of_M := by
  rintro w base ok x cs ⟨v, full, fl, rfl, h, m, hm, rfl, A, c, cf, rfl, rfl, hc⟩
  obtain ⟨A', c', he, hl, hr⟩ := Kd.R_reads h
  cases he
  exact ⟨A, c, rfl, hc, Kd.C_take hr hm⟩
 M_mono := by
  rintro w base ok ok' x cs hok ⟨v, full, fl, e, h, s⟩
  exact ⟨v, full, fl, e, Kd.R_mono h hok, s⟩
 M_bound := by
  rintro w base ok x cs ⟨v, full, fl, e, h, s⟩
  exact ⟨v, full, fl, e, Kd.R_bound h, s⟩
 M_move := by
  rintro w w1 base ok x cs hm ⟨v, full, fl, e, h, s⟩
  exact ⟨v, full, fl, e, Kd.R_move h hm, s⟩
 M_lower := by
  rintro w base base' ok x cs hb ⟨v, full, fl, e, h, s⟩
  exact ⟨v, full, fl, e, Kd.R_lower h hb, s⟩
theorem Sub.all {α : Type} {d : Kd α} {e : Nat} {w : World} {base : Nat} {ok : Nat -> Prop} {v : Value} {xs : List α} (h : d.R e w base ok v xs) : (kSub e d).M w base ok xs [v] := by
 obtain ⟨A, c, rfl, hl, _⟩ := Kd.R_reads h
 exact ⟨_, _, xs, rfl, h, xs.length, Nat.le_refl _, by simp, A, c, c, rfl, rfl, hl⟩
theorem Sub.pre {α : Type} {d : Kd α} {e : Nat} {w : World} {base : Nat} {ok : Nat -> Prop} {A : Option Addr} {cf c : Nat} {xs ys : List α} (h : d.R e w base ok (.slice A (xs ++ ys).length cf) (xs ++ ys)) (hc : xs.length <= c) : (kSub e d).M w base ok xs [.slice A xs.length c] :=
 ⟨_, _, xs ++ ys, rfl, h, xs.length, by simp, by simp, A, c, cf, rfl, rfl, hc⟩
abbrev kS1 : Kd (List Int) := kSub 3 (Kd.int .i64)
abbrev kSW : Kd (List Int) := kSub 25 (Kd.int .u64)
abbrev kS2 : Kd (List (List Int)) := kSub 24 kS1
abbrev kS3 : Kd (List (List (List Int))) := kSub 30 kS2
abbrev kObS : Kd Ob := Kd.iso (Kd.pair (Kd.int .u64) (Kd.pair (Kd.int .i64) (Kd.pair (Kd.int .i64) (Kd.pair kS1 kSW)))) (fun x : Ob => (x.f0, x.f1, x.f2, x.f3, x.f4))
abbrev kSO : Kd (List Ob) := kSub 59 kObS
theorem C_kS1 {w : World} {A : Option Addr} {n : Nat} {xs : List (List Int)} (h : Kd.C kS1 w A n xs) : Kd.C kInts w A n xs := h
theorem C_kS2 {w : World} {A : Option Addr} {n : Nat} {xs : List (List (List Int))} (h : Kd.C kS2 w A n xs) : Kd.C kFrames w A n xs := h
theorem C_kObS {w : World} {A : Option Addr} {n : Nat} {xs : List Ob} (h : Kd.C kObS w A n xs) : Kd.C kOb w A n xs := h
theorem kObS_mkM {w : World} {base : Nat} {ok : Nat -> Prop} (x : Ob) {v3 v4 : Value} (g3 : kS1.M w base ok x.f3 [v3]) (g4 : kSW.M w base ok x.f4 [v4]) : kObS.M w base ok x [.int .u64 x.f0, .int .i64 x.f1, .int .i64 x.f2, v3, v4] :=
 ⟨[.int .u64 x.f0], [.int .i64 x.f1, .int .i64 x.f2, v3, v4], rfl, rfl, [.int .i64 x.f1], [.int .i64 x.f2, v3, v4], rfl, rfl, [.int .i64 x.f2], [v3, v4], rfl, rfl, [v3], [v4], rfl, g3, g4⟩
def mk1 : List Int := (List.replicate 20 [-7701, -7702]).flatten
def mkW : List Int := (List.replicate 20 [7701, 7702]).flatten
def mk2 : List (List Int) := (List.replicate 4 [[-7701], [-7702]]).flatten
def mk3 : List (List (List Int)) := (List.replicate 4 [[[-7701]], [[-7702]]]).flatten
def obM (k : Int) : Ob := ⟨0, k, 0, [], []⟩
def mkO : List Ob := (List.replicate 4 [obM (-7701), obM (-7702)]).flatten
def Ends {α : Type} (mk L : List α) : Prop := ∃ l, L = l ++ mk
def Rwk {α : Type} (d : Kd α) (e : Nat) (mk : List α) (t : Nat) (w : World) (B : Nat) (ok : Nat -> Prop) (v : Value) (N : Nat) : Prop := ∃ xs : List (List α), (kSub e d).R t w B ok v xs /\ xs.length <= N /\ ∀ L ∈ xs, Ends mk L
def Rw : Nat -> World -> Nat -> (Nat -> Prop) -> Value -> Nat -> Prop
 | 0 => Rwk (Kd.int .i64) 3 mk1 24
 | 1 => Rwk (Kd.int .u64) 25 mkW 57
 | 2 => Rwk kS1 24 mk2 30
 | 3 => Rwk kS2 30 mk3 23
 | _ => Rwk kObS 59 mkO 22
section
variable {α : Type} {d : Kd α} {e : Nat} {mk : List α} {t : Nat} {w w1 : World} {B : Nat} {ok ok' : Nat -> Prop} {v : Value} {N N' : Nat}
theorem Rwk.step (h : Rwk d e mk t w B ok v N) (hm : ∀ k, ok k -> k < w.heap.size -> w1.heap[k]? = w.heap[k]?) (hok : ∀ k, ok k -> k < w.heap.size -> ok' k) (hN : N <= N') : Rwk d e mk t w1 B ok' v N' := by
 obtain ⟨xs, hR, hl, hE⟩ := h
 exact ⟨xs, Kd.R_mono (Kd.R_step (Kd.R_bound hR) (fun k hk hlt => hm k hk.1 hlt)) (fun k hk => hok k hk.1 hk.2.2.1), by omega, hE⟩
theorem Rwk.own (h : Rwk d e mk t w B ok v N) : ∀ k, v.ownBlock = some k -> ok k /\ B <= k /\ k < w.heap.size := by
 obtain ⟨xs, hR, hl, hE⟩ := h
 exact fun k hk => ⟨hR.1 k hk, Kd.R_base hR k hk, Kd.R_lt hR k hk⟩
end
theorem Rw.step {i : Nat} {w w1 : World} {B : Nat} {ok ok' : Nat -> Prop} {v : Value} {N N' : Nat} (h : Rw i w B ok v N) (hm : ∀ k, ok k -> k < w.heap.size -> w1.heap[k]? = w.heap[k]?) (hok : ∀ k, ok k -> k < w.heap.size -> ok' k) (hN : N <= N') : Rw i w1 B ok' v N' :=
 match i, h with
 | 0, h => Rwk.step h hm hok hN
 | 1, h => Rwk.step h hm hok hN
 | 2, h => Rwk.step h hm hok hN
 | 3, h => Rwk.step h hm hok hN
 | _ + 4, h => Rwk.step h hm hok hN
theorem Rw.own {i : Nat} {w : World} {B : Nat} {ok : Nat -> Prop} {v : Value} {N : Nat} (h : Rw i w B ok v N) : ∀ k, v.ownBlock = some k -> ok k /\ B <= k /\ k < w.heap.size :=
 match i, h with
 | 0, h => Rwk.own h
 | 1, h => Rwk.own h
 | 2, h => Rwk.own h
 | 3, h => Rwk.own h
 | _ + 4, h => Rwk.own h
structure Keeps (w w' : World) (X : Nat -> Prop) : Prop where
 size : w.heap.size <= w'.heap.size
 blk : ∀ k, k < w.heap.size -> ¬ X k -> w'.heap[k]? = w.heap[k]?
theorem Keeps.refl (w : World) (X : Nat -> Prop) : Keeps w w X := ⟨Nat.le_refl _, fun _ _ _ => rfl⟩
theorem Keeps.below {w w' : World} {X : Nat -> Prop} (h : Below w.heap.size w w') : Keeps w w' X := ⟨h.size, fun k hk _ => h.block k hk⟩
theorem Keeps.trans {w w1 w2 : World} {X X1 : Nat -> Prop} (h : Keeps w w1 X) (k : Keeps w1 w2 X1) (hX : ∀ k, X1 k -> X k \/ w.heap.size <= k) : Keeps w w2 X :=
 ⟨Nat.le_trans h.size k.size, fun j hj hn => (k.blk j (Nat.lt_of_lt_of_le hj h.size) (fun c => by
  rcases hX j c with q | q
  ·exact hn q
  ·omega)).trans (h.blk j hj hn)⟩
theorem Keeps.grown {w w' : World} {X : Nat -> Prop} {row : Option Nat} (h : w.grownBy w' row) (hr : ∀ k, row = some k -> X k) : Keeps w w' X :=
 ⟨h.size, fun k hk hn => h.block k hk (fun e => hn (hr k e.symm))⟩
theorem Keeps.set {w w' : World} {X : Nat -> Prop} (h : Keeps w w' X) {p : Addr} (hp : X p.block \/ w.heap.size <= p.block) (u : Value) : Keeps w (w'.setCell p u) X :=
 ⟨by simpa [World.setCell] using h.size, fun k hk hn => (Below.heap_setCell w' p u k (fun e => by
  subst e
  rcases hp with q | q
  ·exact hn q
  ·omega)).trans (h.blk k hk hn)⟩
def XV (V : Nat -> Value) (r k : Nat) : Prop := k = r \/ ∃ j, j < 5 /\ (V j).ownBlock = some k
def Ot (ex : Nat -> Prop) (V : Nat -> Value) (r i k : Nat) : Prop := ¬ ex k /\ k ≠ r /\ ∀ j, j < 5 -> j ≠ i -> (V j).ownBlock ≠ some k
structure RoomAt (w : World) (B r : Nat) (V : Nat -> Value) (N : Nat) (ex : Nat -> Prop) : Prop where
 box : w.heap[r]? = some (.cells #[nilS, V 0, V 1, nilS, nilS, V 2, V 3, V 4] 37 (0, 0))
 rb : B <= r
 rx : ¬ ex r
 row : ∀ i, i < 5 -> Rw i w B (Ot ex V r i) (V i) N
section
variable {w w1 : World} {B r : Nat} {V : Nat -> Value} {N N' : Nat} {ex ex' : Nat -> Prop}
theorem RoomAt.lt (h : RoomAt w B r V N ex) : ∀ k, XV V r k -> B <= k /\ k < w.heap.size := by
 rintro k (rfl | ⟨j, hj, e⟩)
 ·exact ⟨h.rb, blk_lt h.box⟩
 ·exact ((h.row j hj).own k e).2
theorem RoomAt.not (h : RoomAt w B r V N ex) : ∀ k, XV V r k -> ¬ ex k := by
 rintro k (rfl | ⟨j, hj, e⟩)
 ·exact h.rx
 ·exact ((h.row j hj).own k e).1.1
theorem RoomAt.step (h : RoomAt w B r V N ex) (hm : ∀ k, ¬ ex k -> k < w.heap.size -> w1.heap[k]? = w.heap[k]?) (hx : ∀ k, ex' k -> ex k \/ w.heap.size <= k) (hN : N <= N') : RoomAt w1 B r V N' ex' :=
 ⟨(hm r h.rx (blk_lt h.box)).trans h.box, h.rb, fun c => by
  rcases hx r c with q | q
  ·exact h.rx q
  ·have := blk_lt h.box; omega, fun i hi => (h.row i hi).step (fun k hk hlt => hm k hk.1 hlt) (fun k hk hlt => ⟨fun c => by
   rcases hx k c with q | q
   ·exact hk.1 q
   ·omega, hk.2⟩) hN⟩
theorem RoomAt.below (h : RoomAt w B r V N ex) (hb : Below w.heap.size w w1) : RoomAt w1 B r V N ex :=
 h.step (fun k _ hk => hb.block k hk) (fun k hk => .inl hk) (Nat.le_refl _)
def ps (i : Nat) : Nat := if i = 0 then 1 else if i = 1 then 2 else i + 3
def upd (V : Nat -> Value) (i : Nat) (v : Value) (j : Nat) : Value := if j = i then v else V j
theorem RoomAt.app {i : Nat} {v1 : Value} (h : RoomAt w B r V N ex) (hi : i < 5) (h1 : Rw i w1 B (Ot ex V r i) v1 N') (hg : w.grownBy w1 (V i).ownBlock) (hat : v1.ownBlock = (V i).ownBlock \/ ∃ b, v1.ownBlock = some b /\ w.heap.size <= b) (hN : N <= N') :
  RoomAt (w1.setCell ⟨r, ps i, none⟩ v1) B r (upd V i v1) N' ex := by
 have hne : some r ≠ (V i).ownBlock := fun e => ((h.row i hi).own r e.symm).1.2.1 rfl
 have hb := blk_grown h.box hg hne
 refine ⟨?_, h.rb, h.rx, fun j hj => ?_⟩
 ·rw [blk_set hb (ps i) v1]
  match i, hi with
  | 0, _ => rfl
  | 1, _ => rfl
  | 2, _ => rfl
  | 3, _ => rfl
  | 4, _ => rfl
 ·by_cases e : j = i
  ·subst e
   have eu : upd V j v1 j = v1 := by simp [upd]
   rw [eu]
   refine h1.step (fun k hk _ => Below.heap_setCell w1 _ v1 k hk.2.1) (fun k hk _ => ⟨hk.1, hk.2.1, fun l hl hlj => ?_⟩) (Nat.le_refl _)
   rw [upd, if_neg hlj]
   exact hk.2.2 l hl hlj
  ·have eu : upd V i v1 j = V j := by simp [upd, e]
   rw [eu]
   refine (h.row j hj).step (fun k hk hlt => (Below.heap_setCell w1 _ v1 k hk.2.1).trans (hg.block k hlt (fun c => hk.2.2 i hi (fun q => e q.symm) c.symm))) (fun k hk hlt => ⟨hk.1, hk.2.1, fun l hl hlj => ?_⟩) hN
   unfold upd
   split
   ·intro c
    rcases hat with q | ⟨b, q, hle⟩
    ·rw [q] at c
     exact hk.2.2 i hi (fun q => e q.symm) c
    ·rw [q] at c
     cases c
     omega
   ·exact hk.2.2 l hl hlj
end
structure Went (w w' : World) (B r : Nat) (V V' : Nat -> Value) (N : Nat) (ex : Nat -> Prop) : Prop where
 room : RoomAt w' B r V' N ex
 keep : Keeps w w' (XV V r)
 ext : ∀ k, XV V' r k -> XV V r k \/ w.heap.size <= k
 bel : Below B w w'
theorem Went.refl {w : World} {B r : Nat} {V : Nat -> Value} {N : Nat} {ex : Nat -> Prop} (h : RoomAt w B r V N ex) : Went w w B r V V N ex := ⟨h, Keeps.refl _ _, fun _ h => .inl h, Below.refl _ _⟩
theorem Went.trans {w w1 w2 : World} {B r : Nat} {V V1 V2 : Nat -> Value} {N N1 : Nat} {ex ex1 : Nat -> Prop} (h : Went w w1 B r V V1 N1 ex1) (k : Went w1 w2 B r V1 V2 N ex) : Went w w2 B r V V2 N ex :=
 ⟨k.room, h.keep.trans k.keep h.ext, fun j hj => by
  rcases k.ext j hj with q | q
  ·exact h.ext j q
  ·exact .inr (Nat.le_trans h.keep.size q), h.bel.trans k.bel⟩
theorem upd_ext {V : Nat -> Value} {i r n : Nat} {v1 : Value} (hi : i < 5) (hat : v1.ownBlock = (V i).ownBlock \/ ∃ b, v1.ownBlock = some b /\ n <= b) : ∀ k, XV (upd V i v1) r k -> XV V r k \/ n <= k := by
 rintro k (rfl | ⟨j, hj, e⟩)
 ·exact .inl (.inl rfl)
 ·unfold upd at e
  split at e
  ·rcases hat with q | ⟨b, q, hle⟩
   ·exact .inl (.inr ⟨i, hi, by rw [<- q]; exact e⟩)
   ·rw [q] at e
    cases e
    exact .inr hle
  ·exact .inl (.inr ⟨j, hj, e⟩)
theorem Went.R {α : Type} {d : Kd α} {e : Nat} {w w' : World} {B r b : Nat} {V V' : Nat -> Value} {N : Nat} {ex : Nat -> Prop} {v : Value} {xs : List α} (h : Went w w' B r V V' N ex) (hR : d.R e w b (fun k => ¬ XV V r k) v xs) : d.R e w' b (fun k => ¬ XV V' r k) v xs :=
 Kd.R_mono (Kd.R_step (Kd.R_bound hR) (fun k hk hlt => h.keep.blk k hlt hk.1)) (fun k hk c => by
  rcases h.ext k c with q | q
  ·exact hk.1 q
  ·have := hk.2.2.1; omega)
theorem Went.M {α : Type} {d : Kd α} {w w' : World} {B r b : Nat} {V V' : Nat -> Value} {N : Nat} {ex : Nat -> Prop} {x : α} {cs : List Value} (h : Went w w' B r V V' N ex) (hM : d.M w b (fun k => ¬ XV V r k) x cs) : d.M w' b (fun k => ¬ XV V' r k) x cs :=
 d.M_mono (fun k hk c => by
  rcases h.ext k c with q | q
  ·exact hk.1 q
  ·have := hk.2.2.1; omega) (Kd.M_step (d.M_bound hM) (fun k hk hlt => h.keep.blk k hlt hk.1))
end
section
theorem grown_after {w w1 w2 : World} {row : Option Nat} (h : Below w.heap.size w w1) (k : w1.grownBy w2 row) : w.grownBy w2 row :=
 ⟨k.os.trans h.os, k.tape.trans h.tape, k.output.trans h.output, Nat.le_trans h.size k.size, fun j hj hn => (k.block j (Nat.lt_of_lt_of_le hj h.size) hn).trans (h.block j hj)⟩
section
variable {P : Program} {ops : Array Oper} {rest : List Oper} {o : Oper} {a : Act} {Q : Exit -> Act -> World -> Prop} {α : Type}
theorem R_empty (d : Kd α) (e : Nat) {W : World} {base : Nat} {ok : Nat -> Prop} (hok : ok W.heap.size) (hb : base <= W.heap.size) : d.R e (W.alloc (.cells #[] e)) base ok (.slice (some ⟨W.heap.size, 0, none⟩) 0 0) [] :=
 ⟨fun k hk => by simp [Value.ownBlock] at hk; subst hk; exact hok, [], ⟨by simp, .inr ⟨W.heap.size, 0, #[], rfl, hb, blk_new W _, Nat.le_refl _, by simp, by simp, by simp⟩⟩, Reps.none _ _⟩
theorem R_append1 (d : Kd α) {w0 W : World} (base : Nat) (hgd : o.guard = none) (s x : Operand) (t e : TypeId) (z : Value) (bytes : Nat)
  (ho : o.op = .call { callee := .builtin .append, args := #[s, x], argTypes := #[t, t] })
  (ht : P.underlying t = some (.slice e)) (hinfo : (P.info? e).map (fun i => (i.zero, i.size, i.bytes)) = some (some z, d.sz, bytes)) (hz : z.cells.size = d.sz) (hs0 : 0 < d.sz) (hb0 : 0 < bytes)
  (v : Value) (xs : List α) (p : α) (u : Value) (ok okp : Nat -> Prop) (hs : a.eval s = v) (hx : a.eval x = .slice (some ⟨W.heap.size, 0, none⟩) 1 1) (hp : d.M W base okp p [u]) (hokp : ∀ k, okp k -> ok k /\ some k ≠ v.ownBlock) (hfresh : ∀ k, W.heap.size <= k -> ok k)
  (HO : d.R e W base ok v xs) (HB : Below base w0 W) (hbase : base <= W.heap.size) (hl : (xs.length + 1) * bytes <= 140737488355328)
  (h : ∀ v1 w1, d.R e w1 base ok v1 (xs ++ [p]) -> Below base w0 w1 -> W.grownBy w1 v.ownBlock -> (v1.ownBlock = v.ownBlock \/ ∃ b, v1.ownBlock = some b /\ W.heap.size <= b) -> wpList P ops Q rest (a.put o.dst v1) w1) :
  wpList P ops Q (o :: rest) a (W.alloc (.cells #[u] e)) :=
 Kd.R_append d base hgd s x t e z bytes ho ht hinfo hz hs0 hb0 v xs p [u] ok okp hs hx hp hokp hfresh HO HB hbase hl h
theorem R_append2 (d : Kd α) {w0 W : World} (base : Nat) (hgd : o.guard = none) (s x : Operand) (t e : TypeId) (z : Value) (bytes : Nat)
  (ho : o.op = .call { callee := .builtin .append, args := #[s, x], argTypes := #[t, t] })
  (ht : P.underlying t = some (.slice e)) (hinfo : (P.info? e).map (fun i => (i.zero, i.size, i.bytes)) = some (some z, d.sz, bytes)) (hz : z.cells.size = d.sz) (hs0 : 0 < d.sz) (hb0 : 0 < bytes)
  (v : Value) (xs : List α) (p q : α) (c1 c2 : List Value) (ok okp : Nat -> Prop) (hs : a.eval s = v) (hx : a.eval x = .slice (some ⟨W.heap.size, 0, none⟩) 2 2) (hp : d.M W base okp p c1) (hq : d.M W base okp q c2) (hokp : ∀ k, okp k -> ok k /\ some k ≠ v.ownBlock) (hfresh : ∀ k, W.heap.size <= k -> ok k)
  (HO : d.R e W base ok v xs) (HB : Below base w0 W) (hbase : base <= W.heap.size) (hl : (xs.length + 2) * bytes <= 140737488355328)
  (h : ∀ v1 w1, d.R e w1 base ok v1 (xs ++ [p, q]) -> Below base w0 w1 -> W.grownBy w1 v.ownBlock -> (v1.ownBlock = v.ownBlock \/ ∃ b, v1.ownBlock = some b /\ W.heap.size <= b) -> wpList P ops Q rest (a.put o.dst v1) w1) :
  wpList P ops Q (o :: rest) a (W.alloc (.cells (c1 ++ c2).toArray e)) := by
 have hb1 := (Below.refl W.heap.size W).alloc (Nat.le_refl _) (.cells (c1 ++ c2).toArray e)
 have hX := blk_new W (.cells (c1 ++ c2).toArray e (0, 0))
 have l1 := d.K_len (d.K_of_M hp)
 have l2 := d.K_len (d.K_of_M hq)
 have hc := (blk_at hX).1
 refine Kd.R_append_rows d (Rr := d.M (W.alloc (.cells (c1 ++ c2).toArray e)) base okp) (w0 := w0) base hgd s x t e z bytes ho ht hinfo hz hs0 hb0 v xs [p, q] _ 2 2 ok okp hs hx (Kd.R_below HO hb1) ⟨rfl, by omega, fun _ => ⟨_, rfl, fun j u hj => ?_⟩⟩ (fun _ _ h => h) hokp (fun k hk => hfresh k (Nat.le_trans hb1.size hk)) (HB.alloc hbase _) (Nat.le_trans hbase hb1.size) hl (fun v1 w1 hR hb hg hat => h v1 w1 hR hb (grown_after hb1 hg) ?_)
 ·match j, hj with
  | 0, hj =>
   cases hj
   refine ⟨c1, l1, Kd.M_below hp hb1, fun i u hu => ?_⟩
   rw [add_plain, hc, Nat.zero_mul, Nat.zero_add, List.getElem?_toArray, List.getElem?_append_left (List.getElem?_eq_some_iff.1 hu).1]
   exact hu
  | 1, hj =>
   cases hj
   refine ⟨c2, l2, Kd.M_below hq hb1, fun i u hu => ?_⟩
   rw [add_plain, hc, Nat.one_mul, <- l1, List.getElem?_toArray, List.getElem?_append_right (by omega), Nat.add_sub_cancel_left]
   exact hu
 ·rcases hat with q | ⟨b, q, hle⟩
  ·exact .inl q
  ·exact .inr ⟨b, q, Nat.le_trans hb1.size hle⟩
end
theorem take2 {α : Type} (mk : List α) (i : Nat) (z : α) (h : i + 1 < mk.length) : mk.take (i + 2) = mk.take i ++ [mk.getD i z, mk.getD (i + 1) z] := by
 rw [List.take_succ_eq_append_getElem (by omega), List.take_succ_eq_append_getElem (by omega), List.append_assoc, List.getD_eq_getElem?_getD, List.getD_eq_getElem?_getD, List.getElem?_eq_getElem (by omega), List.getElem?_eq_getElem (by omega)]
 rfl
theorem mk1_two : ∀ j, j < 20 -> mk1.getD (2 * j) 0 = -7701 /\ mk1.getD (2 * j + 1) 0 = -7702 := by decide
theorem mkW_two : ∀ j, j < 20 -> mkW.getD (2 * j) 0 = 7701 /\ mkW.getD (2 * j + 1) 0 = 7702 := by decide
theorem Went.below {w w1 : World} {B r : Nat} {V : Nat -> Value} {N : Nat} {ex : Nat -> Prop} (h : RoomAt w B r V N ex) (hb : Below w.heap.size w w1) (hB : B <= w.heap.size) : Went w w1 B r V V N ex := ⟨h.below hb, Keeps.below hb, fun _ h => .inl h, hb.mono hB⟩
theorem Went.less {w w1 : World} {B r : Nat} {V V1 : Nat -> Value} {N N' : Nat} {ex ex' : Nat -> Prop} (h : Went w w1 B r V V1 N ex) (hx : ∀ k, ex' k -> ex k) (hN : N <= N') : Went w w1 B r V V1 N' ex' := ⟨h.room.step (fun _ _ _ => rfl) (fun k hk => .inl (hx k hk)) hN, h.keep, h.ext, h.bel⟩
theorem ot_of {ex : Nat -> Prop} {V : Nat -> Value} {r i k : Nat} (hk : ¬ XV V r k) (he : ¬ ex k) (hi : i < 5) : Ot ex V r i k /\ some k ≠ (V i).ownBlock := ⟨⟨he, fun c => hk (.inl c), fun j hj _ c => hk (.inr ⟨j, hj, c⟩)⟩, fun c => hk (.inr ⟨i, hi, c.symm⟩)⟩
theorem RoomAt.fresh {w : World} {B r : Nat} {V : Nat -> Value} {N : Nat} {ex : Nat -> Prop} (h : RoomAt w B r V N ex) {k : Nat} (hk : w.heap.size <= k) : ¬ XV V r k := fun c => by have := (h.lt k c).2; omega
theorem room_end {α : Type} {d : Kd α} {e : Nat} {w wr w1 : World} {B r i : Nat} {V V1 : Nat -> Value} {N N' : Nat} {ex : Nat -> Prop} {full v1 : Value} {fl : List α} (W0 : Went w wr B r V V1 N ex) (hB : B <= w.heap.size) (hi : i < 5)
  (hf : d.R e wr w.heap.size (fun k => ¬ XV V1 r k) full fl) (h1 : Rw i w1 B (Ot ex V1 r i) v1 N') (hg : wr.grownBy w1 (V1 i).ownBlock) (hat : v1.ownBlock = (V1 i).ownBlock \/ ∃ b, v1.ownBlock = some b /\ wr.heap.size <= b) (hb : Below B w w1) (hN : N <= N') :
  Went w (w1.setCell ⟨r, ps i, none⟩ v1) B r V (upd V1 i v1) N' ex /\ d.R e (w1.setCell ⟨r, ps i, none⟩ v1) w.heap.size (fun k => ¬ XV (upd V1 i v1) r k) full fl := by
 have hx1 := upd_ext (V := V1) (r := r) hi hat
 have hrb := W0.room.rb
 refine ⟨⟨W0.room.app hi h1 hg hat hN, ?_, fun k hk => ?_, hb.setCell (p := ⟨r, ps i, none⟩) hrb v1⟩, ?_⟩
 ·have k1 : Keeps wr (w1.setCell ⟨r, ps i, none⟩ v1) (XV V1 r) := (Keeps.grown hg (fun k hk => .inr ⟨i, hi, hk⟩)).set (.inl (.inl rfl)) v1
  exact W0.keep.trans k1 W0.ext
 ·rcases hx1 k hk with q | q
  ·exact W0.ext k q
  ·exact .inr (Nat.le_trans W0.keep.size q)
 ·refine Kd.R_mono (Kd.R_step (Kd.R_bound hf) (fun k hk hlt => ?_)) (fun k hk c => ?_)
  ·exact (Below.heap_setCell w1 _ v1 k (fun c => hk.1 (.inl c))).trans (hg.block k hlt (fun c => hk.1 (.inr ⟨i, hi, c.symm⟩)))
  ·rcases hx1 k c with q | q
   ·exact hk.1 q
   ·have := hk.2.2.1; omega
set_option maxRecDepth 100000 in
set_option maxHeartbeats 8000000 in
theorem ints_room (w : World) (B r : Nat) (V : Nat -> Value) (N : Nat) (ex : Nat -> Prop) (A : Option Addr) (c : Nat) (l : List Int) (hr : RoomAt w B r V N ex) (hB : B <= w.heap.size) (hC : Kd.C (Kd.int .i64) w A l.length l) (hl : l.length <= 1048576) (hN : N <= 8388608) (hx : ∀ k, ex k -> k < w.heap.size) :
  Calls Tryd.prog 38 #[.pointer (some ⟨r, 0, none⟩), .slice A l.length c] w fun e w' => ∃ v V', e = .returned v /\ Went w w' B r V V' (N + 1) ex /\ kS1.M w' w.heap.size (fun k => ¬ XV V' r k) l [v] := by
 go_enter Tryd.func38, Tryd.ntmps38
 go_wp2_with fail
 go_loopw [5, 6] (fun v iv wx => ∃ i : Nat, i <= l.length /\ iv = .int .i64 i /\ RI wx w.heap.size v (l.take i) /\ Below w.heap.size w wx) (fun _ iv _ => l.length - (intOf iv).toNat)
 case atStart => exact ⟨0, by omega, rfl, R_empty _ _ trivial (Nat.le_refl _), (Below.refl _ _).alloc (Nat.le_refl _) _⟩
 case round =>
  obtain ⟨i, hi, rfl, hR, hbr⟩ := hrel
  by_cases hlt : i < l.length
  ·have dlt : decide ((i : Int) < (l.length : Int)) = true := decide_eq_true (by omega)
   have i0 : (0 : Int) <= (i : Int) := by omega
   have i1 : (i : Int) < (l.length : Int) := by omega
   obtain ⟨ad, rfl, hc⟩ := int_at (Kd.C_below hC hbr) i hlt
   have et := Lib.hid (take_snocD l i hlt)
   generalize l.getD i 0 = x at *
   go_wp2_with (at_builtin; refine app_int (w0 := w) w.heap.size rfl _ _ rfl u5 _ x rfl rfl hR hbr ?h2 ?h3 ?_; (case h2 => exact hbr.size); (case h3 => simp only [List.length_take]; omega); intro v1 w1 hR1 hb1 hg1 hat1; clear hg1 hat1)
   go_roundw
   case rel => exact ⟨i + 1, by omega, by go_num, by rw [et.out]; exact hR1, hb1⟩
   case measure => simp [intOf]; omega
  ·have dlt : decide ((i : Int) < (l.length : Int)) = false := decide_eq_false (by omega)
   have hR' : RI wr w.heap.size u5 (l ++ mk1.take (2 * 0)) := by rw [List.take_of_length_le (by omega)] at hR; simpa using hR
   clear hR
   go_wp2_with fail
   go_loopw [5, 7] (fun v iv wx => ∃ j : Nat, j <= 20 /\ iv = .int .i64 ((2 * j : Nat) : Int) /\ RI wx w.heap.size v (l ++ mk1.take (2 * j)) /\ Below w.heap.size w wx) (fun _ iv _ => 40 - (intOf iv).toNat)
   case atStart => exact ⟨0, by omega, rfl, hR', hbr⟩
   case round =>
    clear hR' hbr
    obtain ⟨j, hj, rfl, hR, hbr⟩ := hrel
    by_cases hjt : j < 20
    ·have djt : decide (((2 * j : Nat) : Int) < 40) = true := decide_eq_true (by omega)
     have et := Lib.hid (take2 mk1 (2 * j) 0 (by have : mk1.length = 40 := rfl; omega))
     rw [(mk1_two j hjt).1, (mk1_two j hjt).2] at et
     go_wp2_with (at_builtin; refine R_append2 (Kd.int .i64) (w0 := w) w.heap.size rfl _ _ 24 3 (.int .i64 0) 8 rfl Tryd.underlying24 infoI rfl (by decide) (by omega) u5 _ (-7701) (-7702) [.int .i64 (-7701)] [.int .i64 (-7702)] All (fun _ => False) rfl rfl rfl rfl (fun _ h => h.elim) (fun _ _ => trivial) hR hbr ?h2 ?h3 ?_; (case h2 => exact hbr.size); (case h3 => simp only [List.length_append, List.length_take]; omega); intro v1 w1 hR1 hb1 hg1 hat1; clear hg1 hat1)
     go_roundw
     case rel => exact ⟨j + 1, by omega, by go_num, by rw [show 2 * (j + 1) = 2 * j + 2 by omega, et.out, <- List.append_assoc]; exact hR1, hb1⟩
     case measure => simp [intOf]; omega
    ·have djt : decide (((2 * j : Nat) : Int) < 40) = false := decide_eq_false (by omega)
     have hj20 : j = 20 := by omega
     subst hj20
     have hR' : RI wr w.heap.size u5 (l ++ mk1) := hR
     clear hR
     have hrA := hr.below hbr
     have hml : mk1.length = 40 := rfl
     obtain ⟨fl, hfl, hl1, hl2⟩ : ∃ fl : List Int, Go.RowKit.Hid (l ++ mk1 = fl) /\ l.length <= fl.length /\ fl.length <= 1048616 := ⟨_, Lib.hid rfl, by simp, by simp; omega⟩
     rw [hfl.out] at hR'
     clear hml
     obtain ⟨A5, c5, rfl, hc5, hrd⟩ := Kd.R_reads hR'
     clear hrd
     obtain ⟨cB, fB⟩ := blk_at hrA.box
     have k1 : wr.cell? ⟨r, 1, none⟩ = some (V 0) := cB 1
     obtain ⟨xs, hX, hlX, hEX⟩ := hrA.row 0 (by omega)
     have fresh : ∀ k, w.heap.size <= k -> Ot ex V r 0 k /\ some k ≠ (V 0).ownBlock := fun k hk => ot_of (hr.fresh hk) (fun c => by have := hx k c; omega) (by omega)
     have hM : kS1.M wr B (fun k => w.heap.size <= k) fl [.slice A5 fl.length c5] := Sub.all (Kd.R_lower (Kd.R_mono (Kd.R_bound hR') (fun k hk => hk.2.1)) hB)
     have hMl := Lib.hid hM
     have hR5 := Lib.hid hR'
     clear hR' hM
     go_wp2_with (at_builtin; go_loud (refine R_append1 kS1 (w0 := w) B rfl _ _ 30 24 nilS 24 rfl Tryd.underlying30 infoS rfl (by decide) (by omega) (V 0) _ fl (.slice A5 fl.length c5) (Ot ex V r 0) (fun k => w.heap.size <= k) rfl rfl hMl.out fresh (fun k hk => (fresh k (Nat.le_trans hbr.size hk)).1) hX (hbr.mono hB) ?h2 ?h3 ?_; (case h2 => exact Nat.le_trans hB hbr.size); (case h3 => omega); intro v1 w1 hR1 hb1 hg1 hat1; obtain ⟨A1, n1, m1, rfl⟩ : ∃ A n m, v1 = .slice A n m := (by obtain ⟨A1, m1, e⟩ := Kd.R_slice hR1; exact ⟨_, _, _, e⟩); obtain ⟨cC, fC⟩ := blk_at (blk_grown hrA.box hg1 (fun e => ((hrA.row 0 (by omega)).own r e.symm).1.2.1 rfl)); have k2 : w1.cell? ⟨r, 1, none⟩ = some (V 0) := cC 1))
     go_ret
     have hfl' := hfl.out
     have hf : (Kd.int .i64).R 3 wr w.heap.size (fun k => ¬ XV V r k) (.slice A5 fl.length c5) fl := Kd.R_mono (Kd.R_bound hR5.out) (fun k hk => hr.fresh hk.2.1)
     obtain ⟨W1, f1⟩ := room_end (i := 0) (N' := N + 1) (Went.below hr hbr hB) hB (by omega) hf ⟨xs ++ [fl], hR1, by simp; omega, fun L hL => by
      rcases List.mem_append.1 hL with q | q
      ·exact hEX L q
      ·cases List.mem_singleton.1 q; exact ⟨l, hfl'.symm⟩⟩ hg1 hat1 hb1 (by omega)
     subst hfl'
     exact ⟨_, _, rfl, W1, Sub.pre f1 hl1⟩
end
end Go.Proofs.YtogpgkoelplknaaDoor
end
