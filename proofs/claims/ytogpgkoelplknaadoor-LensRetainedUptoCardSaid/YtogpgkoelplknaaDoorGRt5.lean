/- Merged texts: Rt7, Rt8, Rt9, Lg23, Lg24, Lg25, Rt10, Rq1, Rq2. No condition of its own: each text says what it holds. -/
import Derived.Test.YtogpgkoelplknaaDoorGRt4
import Derived.Deep.LoopGhost
import Derived.WideLaws
import Derived.Deep.RegionWith
import Derived.BigRegion
import Derived.Deep.CutBlock
import Derived.BigQuiet
section
namespace Go.Proofs.YtogpgkoelplknaaDoor
open Go.RowKit Go.BigFrame PLensPaths Go.Proofs.YtogpgkoelplknaaDoorW.PrintWords Go.Proofs.YtogpgkoelplknaaDoorW.PrintMore
set_option linter.unusedVariables false
section
section
variable {w0 w w1 : World} {bi bk bw bs : Nat} {S : List Bool} {Wk : List Int} {vS vW kv vT : Value} {T : List Int}
theorem run_store_func' {P : Program} {w : World} {a : Addr} {m : Mode} (f : Fn) (b c : Array Value) : (store a (.func f b c) m).run P w = stored P w a (.func f b c) m := run_store P w a _ m rfl
theorem store_fn (W : World) (f : Fn) (b c : Array Value) (t : TypeId) : (store ⟨W.heap.size, 0, none⟩ (.func f b c)).run Tryd.prog (W.alloc (.cells #[.nilFunc] t)) = .ok () (W.alloc (.cells #[.func f b c] t)) := by
 simp [go_sem, run_store_func']
theorem snoc_cases (l : List Int) : l = [] \/ ∃ L b, l = L ++ [b] := by
 by_cases h : l = []
 ·exact .inl h
 ·exact .inr ⟨l.dropLast, l.getLast h, (List.dropLast_concat_getLast h).symm⟩
theorem unb_all (n : Nat) : unb (fun _ => 1) (List.replicate n false) 0 = n := by
 have : ∀ (n i : Nat), unb (fun _ => 1) (List.replicate n false) i = n := by
  intro n
  induction n with
  | zero => intro i; rfl
  | succ n ih => intro i; rw [List.replicate_succ]; unfold unb; rw [ih]; simp; omega
 exact this n 0
theorem GAt.drew' {w : World} {g : Gv} {G : Gr} (h : GAt w g G) : GAt w.drew g G := h.below (Below.refl _ _).drew
theorem EvAt.below (h : EvAt w0 w bi bk bw bs S Wk vS vW kv vT T) (hb : Below w.heap.size w w1) : EvAt w0 w1 bi bk bw bs S Wk vS vW kv vT T :=
 ⟨h.k.below hb, box_keep h.see hb, Kd.R_below h.t hb, h.ne, h.b.trans (hb.mono h.b.size)⟩
theorem EvAt.pop {gW cW m : Nat} {W0 : List Int} {n : Int} (h : EvAt w0 w bi bk bw bs S (W0 ++ [n]) vS (.slice (some ⟨gW, 0, none⟩) m cW) kv vT T) :
  EvAt w0 (w.setCell ⟨bw, 0, none⟩ (.slice (some ⟨gW, 0, none⟩) W0.length cW)) bi bk bw bs S W0 vS (.slice (some ⟨gW, 0, none⟩) W0.length cW) kv vT T := by
 have hk := h.k.ks.k
 have ne1 : bi ≠ bw := blk_ne h.k.ks.s hk (by decide)
 have ne2 : bk ≠ bw := blk_ne h.k.kp hk (by decide)
 have ne3 : bs ≠ bw := blk_ne h.see hk (by decide)
 have ht := Kd.R_take h.k.ks.rw (m := W0.length) (by simp)
 rw [List.take_left] at ht
 refine ⟨⟨⟨blk_far h.k.ks.s ne1 _, blk_put hk 0 _ rfl, ?_, ?_, h.k.ks.sB, h.k.ks.kB⟩, blk_far h.k.kp ne2 _, h.k.kB⟩, blk_far h.see ne3 _, ?_, h.ne, h.b.setCell (p := ⟨bw, 0, none⟩) h.k.ks.kB _⟩
 ·exact Kd.R_set h.k.ks.rs hk (by decide) 0 _
 ·exact Kd.R_set ht hk (by decide) 0 _
 ·exact Kd.R_set h.t hk (by decide) 0 _
theorem EvAt.wait {v2 : Value} {T2 : List Int} (h : EvAt w0 w bi bk bw bs S Wk vS vW kv vT T) (h2 : RI w1 w0.heap.size v2 T2) (hb : Below w0.heap.size w0 w1) (hg : w.grownBy w1 vT.ownBlock) (hat : v2.ownBlock = vT.ownBlock \/ ∃ b, v2.ownBlock = some b /\ w.heap.size <= b) : EvAt w0 w1 bi bk bw bs S Wk vS vW kv v2 T2 := by
 have hne : vW.ownBlock = none \/ vW.ownBlock ≠ vT.ownBlock := by
  cases e : vT.ownBlock with
  | none =>
   cases e2 : vW.ownBlock with
   | none => exact .inl rfl
   | some k => exact .inr (by simp)
  | some k => exact .inr fun q => h.ne k e q
 refine ⟨⟨⟨blk_grown h.k.ks.s hg (Kd.R_ne h.t h.k.ks.s (by decide)), blk_grown h.k.ks.k hg (Kd.R_ne h.t h.k.ks.k (by decide)), RB_over h.k.ks.rs h.t hg, RI_other h.k.ks.rw hg hne, h.k.ks.sB, h.k.ks.kB⟩, blk_grown h.k.kp hg (Kd.R_ne h.t h.k.kp (by decide)), h.k.kB⟩, blk_grown h.see hg (Kd.R_ne h.t h.see (by decide)), h2, fun k hk => ?_, hb⟩
 rcases hat with q | ⟨b, q, hbb⟩
 ·rw [q] at hk; exact h.ne k hk
 ·rw [q] at hk
  cases hk
  intro e
  have := (RI_lt h.k.ks.rw _ e).2
  omega
end
theorem seeAt1 (w0 w W : World) (bi bk bw bs n : Nat) (S : List Bool) (Wk : List Int) (vS vW vT : Value) (T : List Int) (d : Int) (hd : d = -1) (h : EvAt w0 w bi bk bw bs S Wk vS vW (.func (.func 60) #[] #[]) vT T) (hbW : Below w.heap.size w W) (A : Option Addr) (c : Nat) (l : List Int) (hl : RI W w.heap.size (.slice A l.length c) l) (hSl : S.length = n + 1) (hx : ∀ x ∈ l, x <= (n : Int)) (hn : n <= 1048576) (hlen : Wk.length + l.length <= 16777216) :
  Calls Tryd.prog 89 #[.slice A l.length c, .pointer (some ⟨bi, 0, none⟩), .pointer (some ⟨bk, 0, none⟩), .pointer (some ⟨bw, 0, none⟩)] W fun e w' => e = .returned (.tuple #[]) /\ ∃ S' M vW', EvAt w0 w' bi bk bw bs S' (Wk ++ M) vS vW' (.func (.func 60) #[] #[]) vT T /\ More n d l S S' M := by
 have h1 := h.below hbW
 have hs := h.b.size
 refine (see1_any w0 W w0.heap.size bi bk bw n S Wk vS vW A c l d hd h1.k hSl (Kd.R_lower hl hs) (fun k hk e => ?_) h1.b hx hn hlen).mono fun e w' q => ?_
 ·have a := (RI_lt hl k hk).1
  have b := (RI_lt h.k.ks.rw k e).2
  omega
 ·obtain ⟨e1, ⟨S', M, vW', k1, k2, k3⟩, k4, k5, k6⟩ := q
  exact ⟨e1, S', M, vW', h1.del k1 k4 k5 k6 k3, k2⟩
set_option maxRecDepth 100000 in
set_option maxHeartbeats 16000000 in
theorem reach1_any (g : Gv) (G : Gr) (w : World) (d : Int) (hd : d = -1) (h : GAt w g G) (s : Small G) (R : Rng G) (h2 : ∀ o ∈ G.obs, o.f1 = 3 -> 2 <= o.f3.length) :
  Calls Tryd.prog 59 #[gval g G, .func (.func 60) #[] #[]] w fun e w' => ∃ v S, e = .returned v /\ RB w' w.heap.size v S /\ (S.length = G.obs.length + 1 /\ ∀ y : Int, 1 <= y -> y <= (G.obs.length : Int) -> (sb S y = true ↔ Ra (nxG G) (ekG G) d y)) /\ Below w.heap.size w w' := by
 have bd := s.bd
 have hn := bd.n
 have hh : ∀ x ∈ posL (holdP G), 1 <= x /\ x <= (G.obs.length : Int) := fun x hx => by have := hold_rng R x hx; omega
 have H := Lib.hid (nx_ok R hh)
 have K := Lib.hid (ek_ok R)
 have hpl : (posL (holdP G)).length <= 1048576 := Nat.le_trans (List.length_filter_le _ _) s.hold
 have BX := boxed h
 have RC := Lib.hid (fun (W : World) (hA : GAt W g G) => roots_any g G W hA s)
 have h0 := h
 have DC := Lib.hid (fun (wA : World) (hB : Below w.heap.size w wA) (lA : w.heap.size < wA.heap.size) (hX : wA.heap[w.heap.size]? = some (.cells (gcells g G) 27 (0, 0))) (hA : GAt wA g G) (W : World) (bi bk bw bs : Nat) (S : List Bool) (Wk : List Int) (vS vW vT : Value) (T : List Int) (hE : EvAt wA W bi bk bw bs S Wk vS vW (.func (.func 60) #[] #[]) vT T) (hR : Rc (nxG G) (ekG G) G.obs.length d S Wk T) (hc : Wk.length + T.length + uo S <= G.obs.length + 1) => delete1_any g G wA W w.heap.size bi bk bw bs S Wk vS vW d hd hX hA s K.out H.out vT T hE hR hc)
 have SC := Lib.hid (fun (wA : World) (hB : Below w.heap.size w wA) (lA : w.heap.size < wA.heap.size) (w1 W : World) (bi bk bw bs : Nat) (S : List Bool) (Wk : List Int) (vS vW vT : Value) (T : List Int) (hE : EvAt wA w1 bi bk bw bs S Wk vS vW (.func (.func 60) #[] #[]) vT T) (hbW : Below w1.heap.size w1 W) (A : Option Addr) (c : Nat) (l : List Int) (hl : RI W w1.heap.size (.slice A l.length c) l) (hSl : S.length = G.obs.length + 1) (hx : ∀ x ∈ l, x <= (G.obs.length : Int)) (hlen : Wk.length + l.length <= 16777216) => seeAt1 wA w1 W bi bk bw bs G.obs.length S Wk vS vW vT T d hd hE hbW A c l hl hSl hx hn hlen)
 obtain ⟨A0, A1, A2, A3, A4, c0, c1, c2, c3, c4⟩ := g
 unfold gval gcells
 unfold gcells at BX DC
 unfold gval gcells at RC
 simp only at BX RC DC ⊢
 have HD := Lib.hid hd
 clear hd
 have hst := fun (W : World) (f : Fn) (b c : Array Value) (t : TypeId) => store_fn W f b c t
 go_enter Tryd.func59, Tryd.ntmps59
 go_upto_region 1 with fail
 have s1 := alloc_sz w (.cells #[.slice A0 G.obs.length c0, .slice A1 G.slots.length c1, .slice A2 G.hands.length c2, .slice A3 G.reg.length c3, .slice A4 G.queue.length c4, .int .u64 G.next] 27 (0, 0))
 generalize w.alloc (.cells #[.slice A0 G.obs.length c0, .slice A1 G.slots.length c1, .slice A2 G.hands.length c2, .slice A3 G.reg.length c3, .slice A4 G.queue.length c4, .int .u64 G.next] 27) = wA at *
 obtain ⟨hX, hB, lA, hA⟩ := BX
 obtain ⟨hk1, hb1⟩ := boxed_any wA #[.func (.func 60) #[] #[]] 84
 have s2 := alloc_sz wA (.cells #[.func (.func 60) #[] #[]] 84 (0, 0))
 generalize wA.alloc (.cells #[.func (.func 60) #[] #[]] 84) = w1 at *
 rw [s1] at hk1
 have DC1 := Lib.hid (DC.out wA hB lA hX hA)
 have SC1 := Lib.hid (SC.out wA hB lA)
 clear DC SC
 obtain ⟨cA, fA⟩ := blk_at (box_keep hX hb1)
 have hbk : wA.heap.size <= w.heap.size + 1 := by omega
 go_upto_region 2 with (refine make_bools (w0 := w1) w1.heap.size rfl rfl _ _ rfl (G.obs.length + 1) rfl rfl ?h1 (Below.refl _ _) (Nat.le_refl _) ?_; (case h1 => omega); intro v1 w2 hS hb2 hg1 hat1; clear hg1 hat1 cA fA; obtain ⟨gS, cS, rfl, gS0, gS1⟩ := RB_form hS (by simp); simp only [List.length_replicate] at hS ⊢)
 obtain ⟨hs3, bs3⟩ := boxed_any w2 #[.slice (some ⟨gS, 0, none⟩) (G.obs.length + 1) cS] 52
 have hS3 := Kd.R_alloc (Kd.R_lower hS (show wA.heap.size <= w1.heap.size by omega)) (.cells #[.slice (some ⟨gS, 0, none⟩) (G.obs.length + 1) cS] 52)
 have hbi : wA.heap.size <= w2.heap.size := by have := hb2.size; omega
 have hk3 := box_keep (box_keep hk1 hb2) bs3
 have hb3 : Below wA.heap.size wA (w2.alloc (.cells #[.slice (some ⟨gS, 0, none⟩) (G.obs.length + 1) cS] 52)) := (hb1.trans (hb2.mono (by omega))).trans (bs3.mono hbi)
 generalize w2.alloc (.cells #[.slice (some ⟨gS, 0, none⟩) (G.obs.length + 1) cS] 52) = w3 at *
 generalize w2.heap.size = bi at *
 clear hS hb2 bs3
 go_upto_region 3 with fail
 obtain ⟨hw4, bw4⟩ := boxed_any w3 #[.slice none 0 0] 24
 have hS4 := Kd.R_alloc hS3 (.cells #[.slice none 0 0] 24)
 have hbw : wA.heap.size <= w3.heap.size := hb3.size
 have hs4 := box_keep hs3 bw4
 have hk4 := box_keep hk3 bw4
 have hb4 := hb3.trans (bw4.mono hbw)
 generalize w3.alloc (.cells #[.slice none 0 0] 24) = w4 at *
 generalize w3.heap.size = bw at *
 clear hs3 hS3 hk3 hb3 bw4
 go_upto_region 4 with fail
 obtain ⟨hz5, bz5⟩ := boxed_any w4 #[.func (.func 89) #[] #[.pointer (some ⟨bi, 0, none⟩), .pointer (some ⟨w.heap.size + 1, 0, none⟩), .pointer (some ⟨bw, 0, none⟩)]] 127
 have hS5 := Kd.R_alloc hS4 (.cells #[.func (.func 89) #[] #[.pointer (some ⟨bi, 0, none⟩), .pointer (some ⟨w.heap.size + 1, 0, none⟩), .pointer (some ⟨bw, 0, none⟩)]] 127)
 have hs5 := box_keep hs4 bz5
 have hk5 := box_keep hk4 bz5
 have hw5 := box_keep hw4 bz5
 have hb5 := hb4.trans (bz5.mono hb4.size)
 generalize w4.alloc (.cells #[.func (.func 89) #[] #[.pointer (some ⟨bi, 0, none⟩), .pointer (some ⟨w.heap.size + 1, 0, none⟩), .pointer (some ⟨bw, 0, none⟩)]] 127) = w5 at *
 generalize w4.heap.size = bs at *
 clear hs4 hS4 hk4 hb4 hw4 bz5 hb1 hk1 s2
 have hE5 : EvAt wA w5 bi (w.heap.size + 1) bw bs (List.replicate (G.obs.length + 1) false) [] (.slice (some ⟨gS, 0, none⟩) (G.obs.length + 1) cS) (.slice none 0 0) (.func (.func 60) #[] #[]) (.slice none 0 0) [] :=
  ⟨⟨⟨hs5, hw5, hS5, RI_nil _ _, hbi, hbw⟩, hk5, hbk⟩, hz5, RI_nil _ _, fun k hk => by simp [Value.ownBlock] at hk, hb5⟩
 have hu0 : uo (List.replicate (G.obs.length + 1) false) = G.obs.length + 1 := by unfold uo; exact unb_all _
 have HE5 := Lib.hid hE5
 have RC1 := Lib.hid (RC.out w5.drew (hA.below hb5).drew')
 obtain ⟨cz, fz⟩ := blk_at hz5
 obtain ⟨cA, fA⟩ := blk_at (box_keep hX hb5)
 have HH := Lib.hid hh
 have HPL := Lib.hid hpl
 clear hs5 hk5 hw5 hS5 hz5 hE5 hh hpl hb5 RC
 have SC4 := Lib.hid (fun (W : World) (hbW : Below w5.heap.size w5 W) (A : Option Addr) (c : Nat) (hl : RI W w5.heap.size (.slice A (posL (holdP G)).length c) (posL (holdP G))) => SC1.out w5 W bi (w.heap.size + 1) bw bs _ [] _ _ _ [] HE5.out hbW A c (posL (holdP G)) hl (by simp) (fun x hx => (HH.out x hx).2) (by have := HPL.out; simp; omega))
 have KZ := Lib.hid (fun (W : World) (hbW : Below w5.heap.size w5 W) => (cell_later hbW (show w5.cell? ⟨bs, 0, none⟩ = some _ from cz 0) : W.cell? ⟨bs, 0, none⟩ = some (.func (.func 89) #[] #[.pointer (some ⟨bi, 0, none⟩), .pointer (some ⟨w.heap.size + 1, 0, none⟩), .pointer (some ⟨bw, 0, none⟩)])))
 go_cut [] (fun wx => ∃ S M vW, EvAt wA wx bi (w.heap.size + 1) bw bs S M (.slice (some ⟨gS, 0, none⟩) (G.obs.length + 1) cS) vW (.func (.func 60) #[] #[]) (.slice none 0 0) [] /\ More G.obs.length d (posL (holdP G)) (List.replicate (G.obs.length + 1) false) S M)
 case first =>
  go_region_with (first
   | (go_at_call 41; refine RC1.out.mono ?_; rintro e w6 ⟨v6, rfl, hR6, hb6'⟩; obtain ⟨A6, c6, rfl⟩ := Kd.R_slice hR6; have hb6 : Below w5.heap.size w5 w6 := ((Below.refl w5.heap.size w5).drew).trans hb6'; have cz6 := KZ.out w6 hb6)
   | (go_at_call 89; refine (SC4.out _ hb6 _ _ hR6).mono ?_; rintro e w7 ⟨rfl, S7, M7, vW7, hE7, hM7⟩))
  all_goals go_wp2_with fail
  all_goals go_meet
  all_goals exact ⟨S7, M7, vW7, hE7, hM7⟩
 case rest =>
  obtain ⟨S1, M1, vW1, hE1, hM1⟩ := hcut
  have HR1 := Lib.hid (Rc.begin (ek := ekG G) H.out (d := d) (S := S1) (M := M1) (by rw [show nxG G 0 = posL (holdP G) from if_pos rfl]; exact hM1))
  have HC1 := Lib.hid (show M1.length + ([] : List Int).length + uo S1 <= G.obs.length + 1 from by have := hM1.cnt; unfold uo at *; simp only [List.length_nil]; omega)
  clear hM1 RC1 SC4 KZ HE5 cz fz cA fA hu0
  go_wp2_with fail
  go_loopg [8] (2 * uo S1 + M1.length) (fun kq v8 wx => ∃ S Wk vW T, EvAt wA wx bi (w.heap.size + 1) bw bs S Wk (.slice (some ⟨gS, 0, none⟩) (G.obs.length + 1) cS) vW (.func (.func 60) #[] #[]) v8 T /\ Hid (Rc (nxG G) (ekG G) G.obs.length d S Wk T) /\ Hid (Wk.length + T.length + uo S <= G.obs.length + 1) /\ Hid (2 * uo S + Wk.length <= kq))
  case atStart => exact ⟨S1, M1, vW1, [], hE1, HR1, HC1, Lib.hid (Nat.le_refl _)⟩
  case round =>
   clear hE1 HR1 HC1
   obtain ⟨S, Wk, vW, T, hE, hR, hC, hM⟩ := hrel
   obtain ⟨ko, hko⟩ : ∃ ko, ko = gk := ⟨_, rfl⟩
   rw [<- hko] at hM
   have HKO := Lib.hid hko
   clear hko
   go_wp2_with fail
   go_loopg [8] (2 * uo S + Wk.length) (fun kq v8 wx => ∃ S Wk vW T, EvAt wA wx bi (w.heap.size + 1) bw bs S Wk (.slice (some ⟨gS, 0, none⟩) (G.obs.length + 1) cS) vW (.func (.func 60) #[] #[]) v8 T /\ Hid (Rc (nxG G) (ekG G) G.obs.length d S Wk T) /\ Hid (Wk.length + T.length + uo S <= G.obs.length + 1) /\ Hid (2 * uo S + Wk.length <= ko) /\ Hid (2 * uo S + Wk.length <= kq))
   case atStart => exact ⟨S, Wk, vW, T, hE, hR, hC, hM, Lib.hid (Nat.le_refl _)⟩
   case round =>
    clear hE hR hC hM
    obtain ⟨S, Wk, vW, T, hE, hR, hC, hM, hK⟩ := hrel
    rcases snoc_cases Wk with rfl | ⟨W0, n, rfl⟩
    ·have D := Lib.hid (DC1.out wr bi (w.heap.size + 1) bw bs S [] _ vW _ T hE hR.out hC.out)
     obtain ⟨AW, cW, rfl⟩ := Kd.R_slice hE.k.ks.rw
     obtain ⟨ck, fk⟩ := blk_at hE.k.ks.k
     simp only [List.length_nil] at ck D
     have HM0 := Lib.hid (show 2 * uo S <= ko from by have := hM.out; simpa using this)
     have HC0 := Lib.hid (show T.length + uo S <= G.obs.length + 1 from by have := hC.out; simpa using this)
     clear hE hR hC hM hK
     go_upto_region 13 with (go_at_call 80; refine D.out.mono ?_; rintro e w7 ⟨v7, S7, W7, vW7, T7, rfl, hE7, hR7, hst7, hcn7, hlt7⟩; clear ck fk)
     have HR7 := Lib.hid hR7
     have HST := Lib.hid hst7
     have HCN := Lib.hid hcn7
     have HLT := Lib.hid hlt7
     clear hR7 hst7 hcn7 hlt7 D
     obtain ⟨AW7, cW7, rfl⟩ := Kd.R_slice hE7.k.ks.rw
     obtain ⟨ck7, fk7⟩ := blk_at hE7.k.ks.k
     obtain ⟨cs7, fs7⟩ := blk_at hE7.k.ks.s
     by_cases hz : W7 = []
     ·subst hz
      simp only [List.length_nil] at ck7
      go_wp2_with fail
      go_ret
      exact ⟨_, rfl, S7, Kd.R_lower hE7.k.ks.rs (Nat.le_of_lt lA), ⟨HR7.out.sl, fun y y0 y1 => Rc.over H.out K.out HR7.out (fun y hy k v e => HST.out (by trivial) y hy k v e) y y0 y1⟩, hB.trans (hE7.b.mono (Nat.le_of_lt lA))⟩
     ·have hl7 : 1 <= W7.length := by
       rcases Nat.eq_zero_or_pos W7.length with q | q
       ·exact absurd (List.length_eq_zero_iff.1 q) hz
       ·exact q
      have dz : ((W7.length : Int) == 0) = false := by rw [beq_eq_false_iff_ne]; omega
      have dz2 : ¬ (W7.length : Int) = 0 := by omega
      clear hz
      go_wp2_with fail
      go_roundg (2 * uo S7 + W7.length)
      case measure => have a := HKO.out; have b := HM0.out; have c := HCN.out; (try simp only [List.length_nil] at c); omega
      case rel => exact ⟨S7, W7, _, T7, hE7, HR7, Lib.hid (by have a := HC0.out; have b := HCN.out; have c := HLT.out; (try simp only [List.length_nil] at b); omega), Lib.hid (Nat.le_refl _)⟩
    ·have hsl := hR.out.sl
     obtain ⟨n0, n1, -⟩ := hR.out.wk n (by simp)
     obtain ⟨i, rfl⟩ : ∃ i : Nat, n = (i : Int) + 1 := ⟨(n - 1).toNat, by omega⟩
     have hlt : i < G.obs.length := by omega
     have hl1 : (W0 ++ [(i : Int) + 1]).length = W0.length + 1 := by simp
     have hcc := hC.out
     rw [hl1] at hcc
     have hwl : W0.length <= 1048577 := by omega
     have hTl : T.length <= 1048577 := by omega
     clear hcc
     obtain ⟨gW, cW, rfl, gW0, gW1, hWc⟩ := RI_form hE.k.ks.rw (by simp)
     have hcw : wr.cell? ⟨gW, W0.length, none⟩ = some (.int .i64 ((i : Int) + 1)) := by have := (hWc W0.length (by simp)).1; simpa using this
     clear hWc
     have hWcap := (Kd.R_reads' hE.k.ks.rw).2.1
     rw [hl1] at hE hWcap
     obtain ⟨ck, fk⟩ := blk_at hE.k.ks.k
     have hE1 := hE.pop
     have hnx : nxG G ((i : Int) + 1) = waysP (G.obs.getD i default) := by
      unfold nxG
      rw [if_neg (by omega)]
      unfold wayOf
      rw [show ((i : Int) + 1 - 1).toNat = i by omega]
     have hom : G.obs.getD i default ∈ G.obs := getD_mem default hlt
     have HEK := Lib.hid (show (ekG G ((i : Int) + 1)).isSome = true ↔ (G.obs.getD i default).f1 = 3 from by
      unfold ekG
      rw [show ((i : Int) + 1 - 1).toNat = i by omega]
      constructor
      ·intro q
       split at q
       ·rename_i q2; exact q2.1
       ·cases q
      ·intro q
       rw [if_pos ⟨q, h2 _ hom q⟩]; rfl)
     have HPOP := Lib.hid (fun (S' : List Bool) (M : List Int) (hm : More G.obs.length d (waysP (G.obs.getD i default)) S S' M) => (by
      rw [<- hnx] at hm
      exact hR.out.pop H.out hm : Rc (nxG G) (ekG G) G.obs.length d S' (W0 ++ M) (if (ekG G ((i : Int) + 1)).isSome then T ++ [(i : Int) + 1] else T)))
     have hwr : ∀ x ∈ waysP (G.obs.getD i default), x <= (G.obs.length : Int) := fun x hx => (H.out.rng ((i : Int) + 1) x (by rw [hnx]; exact hx)).2
     have hps := (bd.i64 _ hom).1
     have hwsl : (waysP (G.obs.getD i default)).length <= 1048576 := by
      unfold waysP
      exact Nat.le_trans (List.length_filter_le _ _) (by rw [List.length_drop]; omega)
     have HCC := Lib.hid (show 2 * uo S + (W0.length + 1) <= ko /\ 2 * uo S + (W0.length + 1) <= gk /\ W0.length + 1 + T.length + uo S <= G.obs.length + 1 from by rw [<- hl1]; exact ⟨hM.out, hK.out, hC.out⟩)
     clear hM hK hC hR hnx hom hl1
     have w0 : (0 : Int) <= (W0.length : Int) := by omega
     have d1 : decide ((0 : Int) < (W0.length : Int) + 1) = true := decide_eq_true (by omega)
     have wcap : (W0.length : Int) <= (cW : Int) := by omega
     go_upto_region 9 with fail
     generalize wr.setCell ⟨bw, 0, none⟩ (.slice (some ⟨gW, 0, none⟩) W0.length cW) = w2 at *
     obtain ⟨ad0, P3, p3, P4, p4, e0, j0, j1, j2, j3, j4, l3, C3, l4, C4⟩ := ob_at hA.r0 i hlt
     simp only at e0
     subst e0
     have i0 := cell_later hE1.b j0
     have i1 := cell_later hE1.b j1
     have i2 := cell_later hE1.b j2
     have i3 := cell_later hE1.b j3
     have i4 := cell_later hE1.b j4
     have WC := Lib.hid (ways_any (G.obs.getD i default) P3 P4 p3 p4 w2.drew (Kd.C_below (Kd.C_below C3 hE1.b) (Below.refl _ _).drew) l3 hps)
     have SC4 := Lib.hid (fun (W : World) (hbW : Below w2.heap.size w2 W) (A : Option Addr) (c : Nat) (hl : RI W w2.heap.size (.slice A (waysP (G.obs.getD i default)).length c) (waysP (G.obs.getD i default))) => SC1.out w2 W bi (w.heap.size + 1) bw bs S W0 _ _ _ T hE1 hbW A c _ hl hsl hwr (by omega))
     have cz := (blk_at (show w2.heap[bs]? = some (.cells #[.func (.func 89) #[] #[.pointer (some ⟨bi, 0, none⟩), .pointer (some ⟨w.heap.size + 1, 0, none⟩), .pointer (some ⟨bw, 0, none⟩)]] 127 (0, 0)) from hE1.see)).1
     have KZ := Lib.hid (fun (W : World) (hbW : Below w2.heap.size w2 W) => (cell_later hbW (show w2.cell? ⟨bs, 0, none⟩ = some _ from cz 0) : W.cell? ⟨bs, 0, none⟩ = some (.func (.func 89) #[] #[.pointer (some ⟨bi, 0, none⟩), .pointer (some ⟨w.heap.size + 1, 0, none⟩), .pointer (some ⟨bw, 0, none⟩)])))
     have KO := Lib.hid (fun (W : World) (hb : Below wA.heap.size wA W) => (⟨(blk_at (box_keep hX hb)).1 0, cell_later hb j1⟩ : W.cell? ⟨w.heap.size, 0, none⟩ = _ /\ W.cell? ⟨(ad0.add (i * 5)).block, (ad0.add (i * 5)).off + 1, none⟩ = _))
     obtain ⟨cA, fA⟩ := blk_at (box_keep hX hE1.b)
     clear j0 j1 j2 j3 j4 C3 C4 hps hE ck fk hcw
     generalize waysP (G.obs.getD i default) = ws at *
     generalize G.obs.getD i default = o at *
     obtain ⟨f0, f1, f2, ps, rs⟩ := o
     simp only at *
     have m0 : (0 : Int) <= (i : Int) := by omega
     have m1 : (i : Int) < (G.obs.length : Int) := by omega
     have ew : IntKind.i64.wrap ((i : Int) + 1 - 1) = (i : Int) := by rw [IntKind.wrap_i64]; omega
     have ew2 : IntKind.i64.wrap (i : Int) = (i : Int) := w64' (by omega)
     go_cut [] (fun wx => ∃ S' M vW', EvAt wA wx bi (w.heap.size + 1) bw bs S' (W0 ++ M) (.slice (some ⟨gS, 0, none⟩) (G.obs.length + 1) cS) vW' (.func (.func 60) #[] #[]) u8 T /\ More G.obs.length d ws S S' M)
     case first =>
      go_region_with (first
       | (go_at_call 42; refine WC.out.mono ?_; rintro e w6 ⟨v6, rfl, hR6, hb6'⟩; obtain ⟨A6, c6, rfl⟩ := Kd.R_slice hR6; have hb6 : Below w2.heap.size w2 w6 := ((Below.refl w2.heap.size w2).drew).trans hb6'; have cz6 := KZ.out w6 hb6)
       | (go_at_call 89; refine (SC4.out _ hb6 _ _ hR6).mono ?_; rintro e w7 ⟨rfl, S7, M7, vW7, hE7, hM7⟩))
      all_goals go_wp2_with fail
      all_goals go_meet
      all_goals exact ⟨S7, M7, vW7, hE7, hM7⟩
     case rest =>
      obtain ⟨S2, M2, vW2, hE2, hM2⟩ := hcut
      have HP2 := Lib.hid (HPOP.out S2 M2 hM2)
      have HC2 := Lib.hid hM2.cnt
      clear hM2 HPOP i0 i1 i2 i3 i4 cz cA fA WC SC4 KZ hE1
      obtain ⟨ko0, ko1⟩ := KO.out _ hE2.b
      clear KO
      have hT2 := hE2.t
      have hb2 := hE2.b
      have hs2 := hE2.b.size
      by_cases c3 : f1 = 3
      ·have HP3 := Lib.hid (show Rc (nxG G) (ekG G) G.obs.length d S2 (W0 ++ M2) (T ++ [(i : Int) + 1]) from by have := HP2.out; rwa [if_pos (HEK.out.2 c3)] at this)
       subst c3
       go_upto_region 11 with fail
       go_wp2_with (at_builtin; go_loud (refine app_int (w0 := wA) wA.heap.size rfl _ _ rfl u8 T ((i : Int) + 1) rfl rfl hT2 hb2 hs2 ?h3 ?_); (case h3 => omega); intro v9 w9 hR9 hb9 hg9 hat9)
       go_roundg (2 * uo S2 + (W0 ++ M2).length)
       case measure => have a := HC2.out; have b := HCC.out; unfold uo at *; simp only [List.length_append]; omega
       case rel => exact ⟨S2, W0 ++ M2, vW2, T ++ [(i : Int) + 1], hE2.wait hR9 hb9 hg9 hat9, HP3, Lib.hid (by have a := HC2.out; have b := HCC.out; unfold uo at *; simp only [List.length_append, List.length_singleton]; omega), Lib.hid (by have a := HC2.out; have b := HCC.out; unfold uo at *; simp only [List.length_append]; omega), Lib.hid (Nat.le_refl _)⟩
      ·have HP3 := Lib.hid (show Rc (nxG G) (ekG G) G.obs.length d S2 (W0 ++ M2) T from by have := HP2.out; rwa [if_neg (fun q => c3 (HEK.out.1 q))] at this)
       have d3 : (f1 == 3) = false := by rw [beq_eq_false_iff_ne]; exact c3
       go_wp2_with fail
       go_roundg (2 * uo S2 + (W0 ++ M2).length)
       case measure => have a := HC2.out; have b := HCC.out; unfold uo at *; simp only [List.length_append]; omega
       case rel => exact ⟨S2, W0 ++ M2, vW2, T, hE2, HP3, Lib.hid (by have a := HC2.out; have b := HCC.out; unfold uo at *; simp only [List.length_append]; omega), Lib.hid (by have a := HC2.out; have b := HCC.out; unfold uo at *; simp only [List.length_append]; omega), Lib.hid (Nat.le_refl _)⟩
theorem seeAt2 (w0 w W : World) (bi bk bw bs n : Nat) (S : List Bool) (Wk : List Int) (vS vW vT : Value) (T : List Int) (d : Int) (bx ix : Nat) (hbx : w0.cell? ⟨bx, 0, none⟩ = some (.int .i64 (ix : Int))) (hbB : bx < w0.heap.size) (hix : ix <= 1048576) (hd : d = (ix : Int) + 1) (h : EvAt w0 w bi bk bw bs S Wk vS vW (.func (.func 63) #[] #[.pointer (some ⟨bx, 0, none⟩)]) vT T) (hbW : Below w.heap.size w W) (A : Option Addr) (c : Nat) (l : List Int) (hl : RI W w.heap.size (.slice A l.length c) l) (hSl : S.length = n + 1) (hx : ∀ x ∈ l, x <= (n : Int)) (hn : n <= 1048576) (hlen : Wk.length + l.length <= 16777216) :
  Calls Tryd.prog 89 #[.slice A l.length c, .pointer (some ⟨bi, 0, none⟩), .pointer (some ⟨bk, 0, none⟩), .pointer (some ⟨bw, 0, none⟩)] W fun e w' => e = .returned (.tuple #[]) /\ ∃ S' M vW', EvAt w0 w' bi bk bw bs S' (Wk ++ M) vS vW' (.func (.func 63) #[] #[.pointer (some ⟨bx, 0, none⟩)]) vT T /\ More n d l S S' M := by
 have h1 := h.below hbW
 have hs := h.b.size
 refine (see2_any w0 W w0.heap.size bi bk bw n S Wk vS vW A c l d bx ix hbx hbB hix hd h1.k hSl (Kd.R_lower hl hs) (fun k hk e => ?_) h1.b hx hn hlen).mono fun e w' q => ?_
 ·have a := (RI_lt hl k hk).1
  have b := (RI_lt h.k.ks.rw k e).2
  omega
 ·obtain ⟨e1, ⟨S', M, vW', k1, k2, k3⟩, k4, k5, k6⟩ := q
  exact ⟨e1, S', M, vW', h1.del k1 k4 k5 k6 k3, k2⟩
set_option maxRecDepth 100000 in
set_option maxHeartbeats 16000000 in
theorem reach2_any (g : Gv) (G : Gr) (w : World) (d : Int) (bx ix : Nat) (hbx : w.cell? ⟨bx, 0, none⟩ = some (.int .i64 (ix : Int))) (hbB : bx < w.heap.size) (hix : ix <= 1048576) (hd : d = (ix : Int) + 1) (h : GAt w g G) (s : Small G) (R : Rng G) (h2 : ∀ o ∈ G.obs, o.f1 = 3 -> 2 <= o.f3.length) :
  Calls Tryd.prog 59 #[gval g G, .func (.func 63) #[] #[.pointer (some ⟨bx, 0, none⟩)]] w fun e w' => ∃ v S, e = .returned v /\ RB w' w.heap.size v S /\ (S.length = G.obs.length + 1 /\ ∀ y : Int, 1 <= y -> y <= (G.obs.length : Int) -> (sb S y = true ↔ Ra (nxG G) (ekG G) d y)) /\ Below w.heap.size w w' := by
 have bd := s.bd
 have hn := bd.n
 have hh : ∀ x ∈ posL (holdP G), 1 <= x /\ x <= (G.obs.length : Int) := fun x hx => by have := hold_rng R x hx; omega
 have H := Lib.hid (nx_ok R hh)
 have K := Lib.hid (ek_ok R)
 have hpl : (posL (holdP G)).length <= 1048576 := Nat.le_trans (List.length_filter_le _ _) s.hold
 have BX := boxed h
 have RC := Lib.hid (fun (W : World) (hA : GAt W g G) => roots_any g G W hA s)
 have h0 := h
 have DC := Lib.hid (fun (wA : World) (hB : Below w.heap.size w wA) (lA : w.heap.size < wA.heap.size) (hX : wA.heap[w.heap.size]? = some (.cells (gcells g G) 27 (0, 0))) (hA : GAt wA g G) (W : World) (bi bk bw bs : Nat) (S : List Bool) (Wk : List Int) (vS vW vT : Value) (T : List Int) (hE : EvAt wA W bi bk bw bs S Wk vS vW (.func (.func 63) #[] #[.pointer (some ⟨bx, 0, none⟩)]) vT T) (hR : Rc (nxG G) (ekG G) G.obs.length d S Wk T) (hc : Wk.length + T.length + uo S <= G.obs.length + 1) => delete2_any g G wA W w.heap.size bi bk bw bs S Wk vS vW d bx ix (cell_later hB hbx) (by omega) hix hd hX hA s K.out H.out vT T hE hR hc)
 have SC := Lib.hid (fun (wA : World) (hB : Below w.heap.size w wA) (lA : w.heap.size < wA.heap.size) (w1 W : World) (bi bk bw bs : Nat) (S : List Bool) (Wk : List Int) (vS vW vT : Value) (T : List Int) (hE : EvAt wA w1 bi bk bw bs S Wk vS vW (.func (.func 63) #[] #[.pointer (some ⟨bx, 0, none⟩)]) vT T) (hbW : Below w1.heap.size w1 W) (A : Option Addr) (c : Nat) (l : List Int) (hl : RI W w1.heap.size (.slice A l.length c) l) (hSl : S.length = G.obs.length + 1) (hx : ∀ x ∈ l, x <= (G.obs.length : Int)) (hlen : Wk.length + l.length <= 16777216) => seeAt2 wA w1 W bi bk bw bs G.obs.length S Wk vS vW vT T d bx ix (cell_later hB hbx) (by omega) hix hd hE hbW A c l hl hSl hx hn hlen)
 obtain ⟨A0, A1, A2, A3, A4, c0, c1, c2, c3, c4⟩ := g
 unfold gval gcells
 unfold gcells at BX DC
 unfold gval gcells at RC
 simp only at BX RC DC ⊢
 have HD := Lib.hid hd
 clear hd
 have hst := fun (W : World) (f : Fn) (b c : Array Value) (t : TypeId) => store_fn W f b c t
 go_enter Tryd.func59, Tryd.ntmps59
 go_upto_region 1 with fail
 have s1 := alloc_sz w (.cells #[.slice A0 G.obs.length c0, .slice A1 G.slots.length c1, .slice A2 G.hands.length c2, .slice A3 G.reg.length c3, .slice A4 G.queue.length c4, .int .u64 G.next] 27 (0, 0))
 generalize w.alloc (.cells #[.slice A0 G.obs.length c0, .slice A1 G.slots.length c1, .slice A2 G.hands.length c2, .slice A3 G.reg.length c3, .slice A4 G.queue.length c4, .int .u64 G.next] 27) = wA at *
 obtain ⟨hX, hB, lA, hA⟩ := BX
 obtain ⟨hk1, hb1⟩ := boxed_any wA #[.func (.func 63) #[] #[.pointer (some ⟨bx, 0, none⟩)]] 84
 have s2 := alloc_sz wA (.cells #[.func (.func 63) #[] #[.pointer (some ⟨bx, 0, none⟩)]] 84 (0, 0))
 generalize wA.alloc (.cells #[.func (.func 63) #[] #[.pointer (some ⟨bx, 0, none⟩)]] 84) = w1 at *
 rw [s1] at hk1
 have DC1 := Lib.hid (DC.out wA hB lA hX hA)
 have SC1 := Lib.hid (SC.out wA hB lA)
 clear DC SC
 obtain ⟨cA, fA⟩ := blk_at (box_keep hX hb1)
 have hbk : wA.heap.size <= w.heap.size + 1 := by omega
 go_upto_region 2 with (refine make_bools (w0 := w1) w1.heap.size rfl rfl _ _ rfl (G.obs.length + 1) rfl rfl ?h1 (Below.refl _ _) (Nat.le_refl _) ?_; (case h1 => omega); intro v1 w2 hS hb2 hg1 hat1; clear hg1 hat1 cA fA; obtain ⟨gS, cS, rfl, gS0, gS1⟩ := RB_form hS (by simp); simp only [List.length_replicate] at hS ⊢)
 obtain ⟨hs3, bs3⟩ := boxed_any w2 #[.slice (some ⟨gS, 0, none⟩) (G.obs.length + 1) cS] 52
 have hS3 := Kd.R_alloc (Kd.R_lower hS (show wA.heap.size <= w1.heap.size by omega)) (.cells #[.slice (some ⟨gS, 0, none⟩) (G.obs.length + 1) cS] 52)
 have hbi : wA.heap.size <= w2.heap.size := by have := hb2.size; omega
 have hk3 := box_keep (box_keep hk1 hb2) bs3
 have hb3 : Below wA.heap.size wA (w2.alloc (.cells #[.slice (some ⟨gS, 0, none⟩) (G.obs.length + 1) cS] 52)) := (hb1.trans (hb2.mono (by omega))).trans (bs3.mono hbi)
 generalize w2.alloc (.cells #[.slice (some ⟨gS, 0, none⟩) (G.obs.length + 1) cS] 52) = w3 at *
 generalize w2.heap.size = bi at *
 clear hS hb2 bs3
 go_upto_region 3 with fail
 obtain ⟨hw4, bw4⟩ := boxed_any w3 #[.slice none 0 0] 24
 have hS4 := Kd.R_alloc hS3 (.cells #[.slice none 0 0] 24)
 have hbw : wA.heap.size <= w3.heap.size := hb3.size
 have hs4 := box_keep hs3 bw4
 have hk4 := box_keep hk3 bw4
 have hb4 := hb3.trans (bw4.mono hbw)
 generalize w3.alloc (.cells #[.slice none 0 0] 24) = w4 at *
 generalize w3.heap.size = bw at *
 clear hs3 hS3 hk3 hb3 bw4
 go_upto_region 4 with fail
 obtain ⟨hz5, bz5⟩ := boxed_any w4 #[.func (.func 89) #[] #[.pointer (some ⟨bi, 0, none⟩), .pointer (some ⟨w.heap.size + 1, 0, none⟩), .pointer (some ⟨bw, 0, none⟩)]] 127
 have hS5 := Kd.R_alloc hS4 (.cells #[.func (.func 89) #[] #[.pointer (some ⟨bi, 0, none⟩), .pointer (some ⟨w.heap.size + 1, 0, none⟩), .pointer (some ⟨bw, 0, none⟩)]] 127)
 have hs5 := box_keep hs4 bz5
 have hk5 := box_keep hk4 bz5
 have hw5 := box_keep hw4 bz5
 have hb5 := hb4.trans (bz5.mono hb4.size)
 generalize w4.alloc (.cells #[.func (.func 89) #[] #[.pointer (some ⟨bi, 0, none⟩), .pointer (some ⟨w.heap.size + 1, 0, none⟩), .pointer (some ⟨bw, 0, none⟩)]] 127) = w5 at *
 generalize w4.heap.size = bs at *
 clear hs4 hS4 hk4 hb4 hw4 bz5 hb1 hk1 s2
 have hE5 : EvAt wA w5 bi (w.heap.size + 1) bw bs (List.replicate (G.obs.length + 1) false) [] (.slice (some ⟨gS, 0, none⟩) (G.obs.length + 1) cS) (.slice none 0 0) (.func (.func 63) #[] #[.pointer (some ⟨bx, 0, none⟩)]) (.slice none 0 0) [] :=
  ⟨⟨⟨hs5, hw5, hS5, RI_nil _ _, hbi, hbw⟩, hk5, hbk⟩, hz5, RI_nil _ _, fun k hk => by simp [Value.ownBlock] at hk, hb5⟩
 have hu0 : uo (List.replicate (G.obs.length + 1) false) = G.obs.length + 1 := by unfold uo; exact unb_all _
 have HE5 := Lib.hid hE5
 have RC1 := Lib.hid (RC.out w5.drew (hA.below hb5).drew')
 obtain ⟨cz, fz⟩ := blk_at hz5
 obtain ⟨cA, fA⟩ := blk_at (box_keep hX hb5)
 have HH := Lib.hid hh
 have HPL := Lib.hid hpl
 clear hs5 hk5 hw5 hS5 hz5 hE5 hh hpl hb5 RC
 have SC4 := Lib.hid (fun (W : World) (hbW : Below w5.heap.size w5 W) (A : Option Addr) (c : Nat) (hl : RI W w5.heap.size (.slice A (posL (holdP G)).length c) (posL (holdP G))) => SC1.out w5 W bi (w.heap.size + 1) bw bs _ [] _ _ _ [] HE5.out hbW A c (posL (holdP G)) hl (by simp) (fun x hx => (HH.out x hx).2) (by have := HPL.out; simp; omega))
 have KZ := Lib.hid (fun (W : World) (hbW : Below w5.heap.size w5 W) => (cell_later hbW (show w5.cell? ⟨bs, 0, none⟩ = some _ from cz 0) : W.cell? ⟨bs, 0, none⟩ = some (.func (.func 89) #[] #[.pointer (some ⟨bi, 0, none⟩), .pointer (some ⟨w.heap.size + 1, 0, none⟩), .pointer (some ⟨bw, 0, none⟩)])))
 go_cut [] (fun wx => ∃ S M vW, EvAt wA wx bi (w.heap.size + 1) bw bs S M (.slice (some ⟨gS, 0, none⟩) (G.obs.length + 1) cS) vW (.func (.func 63) #[] #[.pointer (some ⟨bx, 0, none⟩)]) (.slice none 0 0) [] /\ More G.obs.length d (posL (holdP G)) (List.replicate (G.obs.length + 1) false) S M)
 case first =>
  go_region_with (first
   | (go_at_call 41; refine RC1.out.mono ?_; rintro e w6 ⟨v6, rfl, hR6, hb6'⟩; obtain ⟨A6, c6, rfl⟩ := Kd.R_slice hR6; have hb6 : Below w5.heap.size w5 w6 := ((Below.refl w5.heap.size w5).drew).trans hb6'; have cz6 := KZ.out w6 hb6)
   | (go_at_call 89; refine (SC4.out _ hb6 _ _ hR6).mono ?_; rintro e w7 ⟨rfl, S7, M7, vW7, hE7, hM7⟩))
  all_goals go_wp2_with fail
  all_goals go_meet
  all_goals exact ⟨S7, M7, vW7, hE7, hM7⟩
 case rest =>
  obtain ⟨S1, M1, vW1, hE1, hM1⟩ := hcut
  have HR1 := Lib.hid (Rc.begin (ek := ekG G) H.out (d := d) (S := S1) (M := M1) (by rw [show nxG G 0 = posL (holdP G) from if_pos rfl]; exact hM1))
  have HC1 := Lib.hid (show M1.length + ([] : List Int).length + uo S1 <= G.obs.length + 1 from by have := hM1.cnt; unfold uo at *; simp only [List.length_nil]; omega)
  clear hM1 RC1 SC4 KZ HE5 cz fz cA fA hu0
  go_wp2_with fail
  go_loopg [8] (2 * uo S1 + M1.length) (fun kq v8 wx => ∃ S Wk vW T, EvAt wA wx bi (w.heap.size + 1) bw bs S Wk (.slice (some ⟨gS, 0, none⟩) (G.obs.length + 1) cS) vW (.func (.func 63) #[] #[.pointer (some ⟨bx, 0, none⟩)]) v8 T /\ Hid (Rc (nxG G) (ekG G) G.obs.length d S Wk T) /\ Hid (Wk.length + T.length + uo S <= G.obs.length + 1) /\ Hid (2 * uo S + Wk.length <= kq))
  case atStart => exact ⟨S1, M1, vW1, [], hE1, HR1, HC1, Lib.hid (Nat.le_refl _)⟩
  case round =>
   clear hE1 HR1 HC1
   obtain ⟨S, Wk, vW, T, hE, hR, hC, hM⟩ := hrel
   obtain ⟨ko, hko⟩ : ∃ ko, ko = gk := ⟨_, rfl⟩
   rw [<- hko] at hM
   have HKO := Lib.hid hko
   clear hko
   go_wp2_with fail
   go_loopg [8] (2 * uo S + Wk.length) (fun kq v8 wx => ∃ S Wk vW T, EvAt wA wx bi (w.heap.size + 1) bw bs S Wk (.slice (some ⟨gS, 0, none⟩) (G.obs.length + 1) cS) vW (.func (.func 63) #[] #[.pointer (some ⟨bx, 0, none⟩)]) v8 T /\ Hid (Rc (nxG G) (ekG G) G.obs.length d S Wk T) /\ Hid (Wk.length + T.length + uo S <= G.obs.length + 1) /\ Hid (2 * uo S + Wk.length <= ko) /\ Hid (2 * uo S + Wk.length <= kq))
   case atStart => exact ⟨S, Wk, vW, T, hE, hR, hC, hM, Lib.hid (Nat.le_refl _)⟩
   case round =>
    clear hE hR hC hM
    obtain ⟨S, Wk, vW, T, hE, hR, hC, hM, hK⟩ := hrel
    rcases snoc_cases Wk with rfl | ⟨W0, n, rfl⟩
    ·have D := Lib.hid (DC1.out wr bi (w.heap.size + 1) bw bs S [] _ vW _ T hE hR.out hC.out)
     obtain ⟨AW, cW, rfl⟩ := Kd.R_slice hE.k.ks.rw
     obtain ⟨ck, fk⟩ := blk_at hE.k.ks.k
     simp only [List.length_nil] at ck D
     have HM0 := Lib.hid (show 2 * uo S <= ko from by have := hM.out; simpa using this)
     have HC0 := Lib.hid (show T.length + uo S <= G.obs.length + 1 from by have := hC.out; simpa using this)
     clear hE hR hC hM hK
     go_upto_region 13 with (go_at_call 80; refine D.out.mono ?_; rintro e w7 ⟨v7, S7, W7, vW7, T7, rfl, hE7, hR7, hst7, hcn7, hlt7⟩; clear ck fk)
     have HR7 := Lib.hid hR7
     have HST := Lib.hid hst7
     have HCN := Lib.hid hcn7
     have HLT := Lib.hid hlt7
     clear hR7 hst7 hcn7 hlt7 D
     obtain ⟨AW7, cW7, rfl⟩ := Kd.R_slice hE7.k.ks.rw
     obtain ⟨ck7, fk7⟩ := blk_at hE7.k.ks.k
     obtain ⟨cs7, fs7⟩ := blk_at hE7.k.ks.s
     by_cases hz : W7 = []
     ·subst hz
      simp only [List.length_nil] at ck7
      go_wp2_with fail
      go_ret
      exact ⟨_, rfl, S7, Kd.R_lower hE7.k.ks.rs (Nat.le_of_lt lA), ⟨HR7.out.sl, fun y y0 y1 => Rc.over H.out K.out HR7.out (fun y hy k v e => HST.out (by trivial) y hy k v e) y y0 y1⟩, hB.trans (hE7.b.mono (Nat.le_of_lt lA))⟩
     ·have hl7 : 1 <= W7.length := by
       rcases Nat.eq_zero_or_pos W7.length with q | q
       ·exact absurd (List.length_eq_zero_iff.1 q) hz
       ·exact q
      have dz : ((W7.length : Int) == 0) = false := by rw [beq_eq_false_iff_ne]; omega
      have dz2 : ¬ (W7.length : Int) = 0 := by omega
      clear hz
      go_wp2_with fail
      go_roundg (2 * uo S7 + W7.length)
      case measure => have a := HKO.out; have b := HM0.out; have c := HCN.out; (try simp only [List.length_nil] at c); omega
      case rel => exact ⟨S7, W7, _, T7, hE7, HR7, Lib.hid (by have a := HC0.out; have b := HCN.out; have c := HLT.out; (try simp only [List.length_nil] at b); omega), Lib.hid (Nat.le_refl _)⟩
    ·have hsl := hR.out.sl
     obtain ⟨n0, n1, -⟩ := hR.out.wk n (by simp)
     obtain ⟨i, rfl⟩ : ∃ i : Nat, n = (i : Int) + 1 := ⟨(n - 1).toNat, by omega⟩
     have hlt : i < G.obs.length := by omega
     have hl1 : (W0 ++ [(i : Int) + 1]).length = W0.length + 1 := by simp
     have hcc := hC.out
     rw [hl1] at hcc
     have hwl : W0.length <= 1048577 := by omega
     have hTl : T.length <= 1048577 := by omega
     clear hcc
     obtain ⟨gW, cW, rfl, gW0, gW1, hWc⟩ := RI_form hE.k.ks.rw (by simp)
     have hcw : wr.cell? ⟨gW, W0.length, none⟩ = some (.int .i64 ((i : Int) + 1)) := by have := (hWc W0.length (by simp)).1; simpa using this
     clear hWc
     have hWcap := (Kd.R_reads' hE.k.ks.rw).2.1
     rw [hl1] at hE hWcap
     obtain ⟨ck, fk⟩ := blk_at hE.k.ks.k
     have hE1 := hE.pop
     have hnx : nxG G ((i : Int) + 1) = waysP (G.obs.getD i default) := by
      unfold nxG
      rw [if_neg (by omega)]
      unfold wayOf
      rw [show ((i : Int) + 1 - 1).toNat = i by omega]
     have hom : G.obs.getD i default ∈ G.obs := getD_mem default hlt
     have HEK := Lib.hid (show (ekG G ((i : Int) + 1)).isSome = true ↔ (G.obs.getD i default).f1 = 3 from by
      unfold ekG
      rw [show ((i : Int) + 1 - 1).toNat = i by omega]
      constructor
      ·intro q
       split at q
       ·rename_i q2; exact q2.1
       ·cases q
      ·intro q
       rw [if_pos ⟨q, h2 _ hom q⟩]; rfl)
     have HPOP := Lib.hid (fun (S' : List Bool) (M : List Int) (hm : More G.obs.length d (waysP (G.obs.getD i default)) S S' M) => (by
      rw [<- hnx] at hm
      exact hR.out.pop H.out hm : Rc (nxG G) (ekG G) G.obs.length d S' (W0 ++ M) (if (ekG G ((i : Int) + 1)).isSome then T ++ [(i : Int) + 1] else T)))
     have hwr : ∀ x ∈ waysP (G.obs.getD i default), x <= (G.obs.length : Int) := fun x hx => (H.out.rng ((i : Int) + 1) x (by rw [hnx]; exact hx)).2
     have hps := (bd.i64 _ hom).1
     have hwsl : (waysP (G.obs.getD i default)).length <= 1048576 := by
      unfold waysP
      exact Nat.le_trans (List.length_filter_le _ _) (by rw [List.length_drop]; omega)
     have HCC := Lib.hid (show 2 * uo S + (W0.length + 1) <= ko /\ 2 * uo S + (W0.length + 1) <= gk /\ W0.length + 1 + T.length + uo S <= G.obs.length + 1 from by rw [<- hl1]; exact ⟨hM.out, hK.out, hC.out⟩)
     clear hM hK hC hR hnx hom hl1
     have w0 : (0 : Int) <= (W0.length : Int) := by omega
     have d1 : decide ((0 : Int) < (W0.length : Int) + 1) = true := decide_eq_true (by omega)
     have wcap : (W0.length : Int) <= (cW : Int) := by omega
     go_upto_region 9 with fail
     generalize wr.setCell ⟨bw, 0, none⟩ (.slice (some ⟨gW, 0, none⟩) W0.length cW) = w2 at *
     obtain ⟨ad0, P3, p3, P4, p4, e0, j0, j1, j2, j3, j4, l3, C3, l4, C4⟩ := ob_at hA.r0 i hlt
     simp only at e0
     subst e0
     have i0 := cell_later hE1.b j0
     have i1 := cell_later hE1.b j1
     have i2 := cell_later hE1.b j2
     have i3 := cell_later hE1.b j3
     have i4 := cell_later hE1.b j4
     have WC := Lib.hid (ways_any (G.obs.getD i default) P3 P4 p3 p4 w2.drew (Kd.C_below (Kd.C_below C3 hE1.b) (Below.refl _ _).drew) l3 hps)
     have SC4 := Lib.hid (fun (W : World) (hbW : Below w2.heap.size w2 W) (A : Option Addr) (c : Nat) (hl : RI W w2.heap.size (.slice A (waysP (G.obs.getD i default)).length c) (waysP (G.obs.getD i default))) => SC1.out w2 W bi (w.heap.size + 1) bw bs S W0 _ _ _ T hE1 hbW A c _ hl hsl hwr (by omega))
     have cz := (blk_at (show w2.heap[bs]? = some (.cells #[.func (.func 89) #[] #[.pointer (some ⟨bi, 0, none⟩), .pointer (some ⟨w.heap.size + 1, 0, none⟩), .pointer (some ⟨bw, 0, none⟩)]] 127 (0, 0)) from hE1.see)).1
     have KZ := Lib.hid (fun (W : World) (hbW : Below w2.heap.size w2 W) => (cell_later hbW (show w2.cell? ⟨bs, 0, none⟩ = some _ from cz 0) : W.cell? ⟨bs, 0, none⟩ = some (.func (.func 89) #[] #[.pointer (some ⟨bi, 0, none⟩), .pointer (some ⟨w.heap.size + 1, 0, none⟩), .pointer (some ⟨bw, 0, none⟩)])))
     have KO := Lib.hid (fun (W : World) (hb : Below wA.heap.size wA W) => (⟨(blk_at (box_keep hX hb)).1 0, cell_later hb j1⟩ : W.cell? ⟨w.heap.size, 0, none⟩ = _ /\ W.cell? ⟨(ad0.add (i * 5)).block, (ad0.add (i * 5)).off + 1, none⟩ = _))
     obtain ⟨cA, fA⟩ := blk_at (box_keep hX hE1.b)
     clear j0 j1 j2 j3 j4 C3 C4 hps hE ck fk hcw
     generalize waysP (G.obs.getD i default) = ws at *
     generalize G.obs.getD i default = o at *
     obtain ⟨f0, f1, f2, ps, rs⟩ := o
     simp only at *
     have m0 : (0 : Int) <= (i : Int) := by omega
     have m1 : (i : Int) < (G.obs.length : Int) := by omega
     have ew : IntKind.i64.wrap ((i : Int) + 1 - 1) = (i : Int) := by rw [IntKind.wrap_i64]; omega
     have ew2 : IntKind.i64.wrap (i : Int) = (i : Int) := w64' (by omega)
     go_cut [] (fun wx => ∃ S' M vW', EvAt wA wx bi (w.heap.size + 1) bw bs S' (W0 ++ M) (.slice (some ⟨gS, 0, none⟩) (G.obs.length + 1) cS) vW' (.func (.func 63) #[] #[.pointer (some ⟨bx, 0, none⟩)]) u8 T /\ More G.obs.length d ws S S' M)
     case first =>
      go_region_with (first
       | (go_at_call 42; refine WC.out.mono ?_; rintro e w6 ⟨v6, rfl, hR6, hb6'⟩; obtain ⟨A6, c6, rfl⟩ := Kd.R_slice hR6; have hb6 : Below w2.heap.size w2 w6 := ((Below.refl w2.heap.size w2).drew).trans hb6'; have cz6 := KZ.out w6 hb6)
       | (go_at_call 89; refine (SC4.out _ hb6 _ _ hR6).mono ?_; rintro e w7 ⟨rfl, S7, M7, vW7, hE7, hM7⟩))
      all_goals go_wp2_with fail
      all_goals go_meet
      all_goals exact ⟨S7, M7, vW7, hE7, hM7⟩
     case rest =>
      obtain ⟨S2, M2, vW2, hE2, hM2⟩ := hcut
      have HP2 := Lib.hid (HPOP.out S2 M2 hM2)
      have HC2 := Lib.hid hM2.cnt
      clear hM2 HPOP i0 i1 i2 i3 i4 cz cA fA WC SC4 KZ hE1
      obtain ⟨ko0, ko1⟩ := KO.out _ hE2.b
      clear KO
      have hT2 := hE2.t
      have hb2 := hE2.b
      have hs2 := hE2.b.size
      by_cases c3 : f1 = 3
      ·have HP3 := Lib.hid (show Rc (nxG G) (ekG G) G.obs.length d S2 (W0 ++ M2) (T ++ [(i : Int) + 1]) from by have := HP2.out; rwa [if_pos (HEK.out.2 c3)] at this)
       subst c3
       go_upto_region 11 with fail
       go_wp2_with (at_builtin; go_loud (refine app_int (w0 := wA) wA.heap.size rfl _ _ rfl u8 T ((i : Int) + 1) rfl rfl hT2 hb2 hs2 ?h3 ?_); (case h3 => omega); intro v9 w9 hR9 hb9 hg9 hat9)
       go_roundg (2 * uo S2 + (W0 ++ M2).length)
       case measure => have a := HC2.out; have b := HCC.out; unfold uo at *; simp only [List.length_append]; omega
       case rel => exact ⟨S2, W0 ++ M2, vW2, T ++ [(i : Int) + 1], hE2.wait hR9 hb9 hg9 hat9, HP3, Lib.hid (by have a := HC2.out; have b := HCC.out; unfold uo at *; simp only [List.length_append, List.length_singleton]; omega), Lib.hid (by have a := HC2.out; have b := HCC.out; unfold uo at *; simp only [List.length_append]; omega), Lib.hid (Nat.le_refl _)⟩
      ·have HP3 := Lib.hid (show Rc (nxG G) (ekG G) G.obs.length d S2 (W0 ++ M2) T from by have := HP2.out; rwa [if_neg (fun q => c3 (HEK.out.1 q))] at this)
       have d3 : (f1 == 3) = false := by rw [beq_eq_false_iff_ne]; exact c3
       go_wp2_with fail
       go_roundg (2 * uo S2 + (W0 ++ M2).length)
       case measure => have a := HC2.out; have b := HCC.out; unfold uo at *; simp only [List.length_append]; omega
       case rel => exact ⟨S2, W0 ++ M2, vW2, T, hE2, HP3, Lib.hid (by have a := HC2.out; have b := HCC.out; unfold uo at *; simp only [List.length_append]; omega), Lib.hid (by have a := HC2.out; have b := HCC.out; unfold uo at *; simp only [List.length_append]; omega), Lib.hid (Nat.le_refl _)⟩
end
section
def wsG (G : Gr) (y : Int) : Int := 2 + ((G.obs.getD (y - 1).toNat default).f3.length : Int) + ((G.obs.getD (y - 1).toNat default).f4.length : Int)
def sumB (G : Gr) (S : List Bool) : Nat -> Int
 | 0 => 0
 | i + 1 => sumB G S i + if S.getD (i + 1) false = true then wsG G ((i : Int) + 1) else 0
def tiedB (G : Gr) (S : List Bool) : Nat -> Bool
 | 0 => false
 | i + 1 => tiedB G S i || (S.getD (i + 1) false && decide ((G.obs.getD i default).f1 = 3))
theorem wsG_bd {G : Gr} (bd : G.Bd) (y : Int) : 0 <= wsG G y /\ wsG G y <= 2097154 := by
 unfold wsG
 by_cases c : (y - 1).toNat < G.obs.length
 ·have := bd.i64 _ (getD_mem (l := G.obs) default c)
  omega
 ·have : G.obs.getD (y - 1).toNat default = default := by rw [List.getD_eq_getElem?_getD, List.getElem?_eq_none (by omega)]; rfl
  rw [this]
  have h3 : (default : Ob).f3 = [] := rfl
  have h4 : (default : Ob).f4 = [] := rfl
  rw [h3, h4]
  simp
theorem sumB_bd {G : Gr} (bd : G.Bd) (S : List Bool) : ∀ i : Nat, 0 <= sumB G S i /\ sumB G S i <= (i : Int) * 2097154
 | 0 => by unfold sumB; simp
 | i + 1 => by
  have ih := sumB_bd bd S i
  have := wsG_bd bd ((i : Int) + 1)
  unfold sumB
  rw [Int.natCast_add, Int.add_mul]
  split <;> omega
theorem sumB_eq (G : Gr) (S : List Bool) : ∀ i : Nat, sumB G S i = wsum (wsG G) (fun y => sb S y = true) i
 | 0 => rfl
 | i + 1 => by
  unfold sumB wsum
  rw [sumB_eq G S i]
  have e : sb S ((i : Int) + 1) = S.getD (i + 1) false := by unfold sb; rw [show ((i : Int) + 1).toNat = i + 1 by omega]
  rw [e]
  by_cases c : S.getD (i + 1) false = true
  ·rw [if_pos c, if_pos c]
  ·rw [if_neg c, if_neg c]
theorem tied_iff (G : Gr) (S : List Bool) : ∀ i : Nat, tiedB G S i = true ↔ ∃ j, j < i /\ S.getD (j + 1) false = true /\ (G.obs.getD j default).f1 = 3
 | 0 => by
  unfold tiedB
  constructor
  ·intro h; cases h
  ·rintro ⟨j, h, _⟩; omega
 | i + 1 => by
  unfold tiedB
  rw [Bool.or_eq_true, tied_iff G S i, Bool.and_eq_true, decide_eq_true_eq]
  constructor
  ·rintro (⟨j, h1, h2⟩ | ⟨h1, h2⟩)
   ·exact ⟨j, by omega, h2⟩
   ·exact ⟨i, by omega, h1, h2⟩
  ·rintro ⟨j, h1, h2, h3⟩
   by_cases e : j = i
   ·subst e; exact .inr ⟨h2, h3⟩
   ·exact .inl ⟨j, by omega, h2, h3⟩
set_option maxRecDepth 100000 in
set_option maxHeartbeats 4000000 in
theorem words_any (f0 f1 f2 : Int) (n3 n4 : Nat) (A3 A4 : Option Addr) (c3 c4 : Nat) (w : World) (h3 : n3 <= 1048576) (h4 : n4 <= 1048576) :
  Calls Tryd.prog 91 #[.agg #[.int .u64 f0, .int .i64 f1, .int .i64 f2, .slice A3 n3 c3, .slice A4 n4 c4]] w fun e w' => e = .returned (.int .i64 (2 + (n3 : Int) + (n4 : Int))) /\ Below w.heap.size w w' := by
 go_enter Tryd.func91, Tryd.ntmps91
 go_upto_region 1 with fail
 obtain ⟨hX, hB⟩ := boxed_any w #[.int .u64 f0, .int .i64 f1, .int .i64 f2, .slice A3 n3 c3, .slice A4 n4 c4] 59
 generalize w.alloc (.cells #[.int .u64 f0, .int .i64 f1, .int .i64 f2, .slice A3 n3 c3, .slice A4 n4 c4] 59) = wA at *
 obtain ⟨cA, fA⟩ := blk_at hX
 go_wp2_with fail
 go_ret
 exact ⟨rfl, hB⟩
set_option maxRecDepth 100000 in
set_option maxHeartbeats 8000000 in
theorem sum_any (g : Gv) (G : Gr) (w : World) (h : GAt w g G) (s : Small G) (gS cS B : Nat) (S : List Bool) (hS : RB w B (.slice (some ⟨gS, 0, none⟩) (G.obs.length + 1) cS) S) :
  Calls Tryd.prog 61 #[gval g G, .slice (some ⟨gS, 0, none⟩) (G.obs.length + 1) cS] w fun e w' => e = .returned (.tuple #[.int .i64 (sumB G S G.obs.length), .bool (tiedB G S G.obs.length)]) /\ Below w.heap.size w w' := by
 have bd := s.bd
 have hn := bd.n
 have BX := boxed h
 have SB := Lib.hid (fun i => sumB_bd bd S i)
 have WB := Lib.hid (fun y => wsG_bd bd y)
 obtain ⟨A0, A1, A2, A3, A4, c0, c1, c2, c3, c4⟩ := g
 unfold gval gcells
 unfold gcells at BX
 simp only at BX ⊢
 go_enter Tryd.func61, Tryd.ntmps61
 go_upto_region 1 with fail
 generalize w.alloc _ = wA at *
 obtain ⟨hX, hB, lA, hA⟩ := BX
 have hS1 := Kd.R_below hS hB
 clear hS
 obtain ⟨cA, fA⟩ := blk_at hX
 go_wp2_with fail
 go_loopw [6, 7, 13] (fun nv tv iv wx => ∃ (i : Nat) (x : Int) (b : Bool), i <= G.obs.length /\ iv = .int .i64 i /\ nv = .int .i64 x /\ tv = .bool b /\ Hid (sumB G S i = x) /\ Hid (tiedB G S i = b) /\ Below wA.heap.size wA wx) (fun _ _ iv _ => G.obs.length - (intOf iv).toNat)
 case atStart => exact ⟨0, 0, false, by omega, rfl, rfl, rfl, Lib.hid rfl, Lib.hid rfl, Below.refl _ _⟩
 case round =>
  clear cA fA
  obtain ⟨i, x, b, hi, rfl, rfl, rfl, HX, HT, hbr⟩ := hrel
  by_cases hlt : i < G.obs.length
  ·have dlt : decide ((i : Int) < (G.obs.length : Int)) = true := decide_eq_true (by omega)
   have i0 : (0 : Int) <= (i : Int) := by omega
   have i1 : (i : Int) < (G.obs.length : Int) := by omega
   have i2 : (0 : Int) <= (i : Int) + 1 := by omega
   have i3 : (i : Int) + 1 < (G.obs.length : Int) + 1 := by omega
   obtain ⟨ad0, P3, p3, P4, p4, e0, j0, j1, j2, j3, j4, l3, C3, l4, C4⟩ := ob_at hA.r0 i hlt
   simp only at e0
   subst e0
   have k0 := cell_later hbr j0
   have k1 := cell_later hbr j1
   have k2 := cell_later hbr j2
   have k3 := cell_later hbr j3
   have k4 := cell_later hbr j4
   have hom := bd.i64 _ (getD_mem (l := G.obs) default hlt)
   have hw : wsG G ((i : Int) + 1) = 2 + ((G.obs.getD i default).f3.length : Int) + ((G.obs.getD i default).f4.length : Int) := by unfold wsG; rw [show ((i : Int) + 1 - 1).toNat = i by omega]
   have HE1 := Lib.hid (show S.getD (i + 1) false = true -> sumB G S (i + 1) = x + (2 + ((G.obs.getD i default).f3.length : Int) + ((G.obs.getD i default).f4.length : Int)) /\ tiedB G S (i + 1) = (b || decide ((G.obs.getD i default).f1 = 3)) from fun q => by
    constructor
    ·show sumB G S i + _ = _
     rw [if_pos q, HX.out, hw]
    ·show (tiedB G S i || _) = _
     rw [q, HT.out]; rfl)
   have HE2 := Lib.hid (show S.getD (i + 1) false = false -> sumB G S (i + 1) = x /\ tiedB G S (i + 1) = b from fun q => by
    constructor
    ·show sumB G S i + _ = _
     rw [if_neg (by rw [q]; decide), HX.out, Int.add_zero]
    ·show (tiedB G S i || _) = _
     rw [q, HT.out]; simp)
   have hx : 0 <= x /\ x <= 2199025352704 := by have a := SB.out i; rw [HX.out] at a; omega
   obtain ⟨hcS, -⟩ := RB_cell (Kd.R_below hS1 hbr) (i + 1) (by omega)
   clear j0 j1 j2 j3 j4 C3 C4 hw HX HT
   generalize G.obs.getD i default = o at *
   obtain ⟨f0, f1, f2, ps, rs⟩ := o
   simp only at *
   go_upto_region 5 with fail
   obtain ⟨hZ, hbZ⟩ := boxed_any wr #[.int .u64 f0, .int .i64 f1, .int .i64 f2, .slice P3 ps.length p3, .slice P4 rs.length p4] 59
   have hb3 := hbr.trans (hbZ.mono hbr.size)
   have hcS3 := cell_later hbZ hcS
   generalize wr.alloc (.cells #[.int .u64 f0, .int .i64 f1, .int .i64 f2, .slice P3 ps.length p3, .slice P4 rs.length p4] 59) = w3 at *
   generalize wr.heap.size = bz at *
   obtain ⟨cz, fz⟩ := blk_at hZ
   clear k0 k1 k2 k3 k4 hcS
   cases hs : S.getD (i + 1) false with
   | false =>
    rw [hs] at hcS3
    have HE := Lib.hid (HE2.out hs)
    clear hs HE1 HE2
    go_wp2_with fail
    go_roundw
    case rel => exact ⟨i + 1, x, b, by omega, by go_num, rfl, rfl, Lib.hid HE.out.1, Lib.hid HE.out.2, hb3⟩
    case measure => simp [intOf]; omega
   | true =>
    rw [hs] at hcS3
    have HE := Lib.hid (HE1.out hs)
    clear hs HE1 HE2
    have WC := Lib.hid (fun (W : World) => words_any f0 f1 f2 ps.length rs.length P3 P4 p3 p4 W hom.1 hom.2)
    have KZ := Lib.hid (fun (W : World) (hb : Below w3.heap.size w3 W) => (cell_later hb (show w3.cell? ⟨bz, 1, none⟩ = some (.int .i64 f1) from cz 1)))
    obtain ⟨o3, o4⟩ := hom
    go_upto_region 7 with (go_at_call 91; refine (WC.out _).mono ?_; rintro e w4 ⟨rfl, hb4⟩; clear cz fz; have cz4 := KZ.out _ hb4)
    have hb5 := hb3.trans (hb4.mono hb3.size)
    cases b with
    | true =>
     go_wp2_with fail
     go_roundw
     case rel => exact ⟨i + 1, _, true, by omega, by go_num, rfl, rfl, Lib.hid HE.out.1, Lib.hid (by have := HE.out.2; simpa using this), hb5⟩
     case measure => simp [intOf]; omega
    | false =>
     by_cases c3 : f1 = 3
     ·subst c3
      go_wp2_with fail
      go_roundw
      case rel => exact ⟨i + 1, _, true, by omega, by go_num, rfl, rfl, Lib.hid HE.out.1, Lib.hid (by have := HE.out.2; simpa using this), hb5⟩
      case measure => simp [intOf]; omega
     ·have d3 : (f1 == 3) = false := by rw [beq_eq_false_iff_ne]; exact c3
      go_wp2_with fail
      go_roundw
      case rel => exact ⟨i + 1, _, false, by omega, by go_num, rfl, rfl, Lib.hid HE.out.1, Lib.hid (by have := HE.out.2; simpa [c3] using this), hb5⟩
      case measure => simp [intOf]; omega
  ·have dlt : decide ((i : Int) < (G.obs.length : Int)) = false := decide_eq_false (by omega)
   obtain rfl : i = G.obs.length := by omega
   go_wp2_with fail
   go_ret2
   exact ⟨by rw [HX.out, HT.out]; rfl, hB.trans (hbr.mono hB.size)⟩
end
section
theorem Sm.room {nx : Int -> List Int} {N : Nat} {f : Int -> Int} {U od P l : List Int} {B : Int} {i : Int} (hf : ∀ y : Int, 0 <= f y /\ f y <= B) (H : NxOk nx N) (O : Ord nx od P) (D : Doms nx N U) (ls : ∀ y, Rd nx y -> y ≠ 0 -> fa P (fa U y) < fa P y) (h : Sm nx N f U P i l) {x : Int} (x0 : 1 <= x) (hx : Rd nx x) : 0 <= fa l (x - 1) /\ fa l (x - 1) <= (N : Int) * B := by
 have tb : ∀ y, 0 <= tw nx N f y /\ tw nx N f y <= (N : Int) * B := fun y => wsum_bd hf
 by_cases c : i <= fa P x
 ·rw [h.done x x0 hx c]; exact tb x
 ·rw [h.part x x0 hx (by omega)]
  have a := wsum_le (p := fun c => Ch nx U x c /\ i <= fa P c) (q := Ch nx U x) (fun y => (tb y).1) (m := N) (fun y _ _ q => q.1)
  have b := tw_eq f H O D ls x0 hx
  have c := tb x
  have d := hf x
  omega
def SmOut (G : Gr) (l : List Int) : Prop := ∃ U od P, Ord (nxG G) od P /\ Sm (nxG G) G.obs.length (wsG G) U P 1 l
set_option maxRecDepth 100000 in
set_option maxHeartbeats 16000000 in
theorem dominated_any (g : Gv) (G : Gr) (w : World) (h : GAt w g G) (s : Small G) (R : Rng G) :
  Calls Tryd.prog 62 #[gval g G] w fun e w' => ∃ v l, e = .returned v /\ RI w' w.heap.size v l /\ SmOut G l /\ Below w.heap.size w w' := by
 have bd := s.bd
 have hn := bd.n
 have hh : ∀ x ∈ posL (holdP G), 1 <= x /\ x <= (G.obs.length : Int) := fun x hx => by have := hold_rng R x hx; omega
 have H := Lib.hid (nx_ok R hh)
 have BX := boxed h
 have DC := Lib.hid (fun (W : World) (hA : GAt W g G) => dominators_any g G W hA s R)
 have WB := Lib.hid (fun y => wsG_bd bd y)
 obtain ⟨A0, A1, A2, A3, A4, c0, c1, c2, c3, c4⟩ := g
 unfold gval gcells
 unfold gcells at BX
 unfold gval gcells at DC
 simp only at BX DC ⊢
 go_enter Tryd.func62, Tryd.ntmps62
 go_upto_region 1 with fail
 generalize w.alloc _ = wA at *
 obtain ⟨hX, hB, lA, hA⟩ := BX
 obtain ⟨cA, fA⟩ := blk_at hX
 go_upto_region 2 with (refine make_ints (w0 := wA) wA.heap.size rfl rfl _ _ rfl G.obs.length rfl rfl ?h1 (Below.refl _ _) (Nat.le_refl _) ?_; (case h1 => omega); intro vL w1 hL hb1 hg1 hat1; clear hg1 hat1 cA fA)
 obtain ⟨cA, fA⟩ := blk_at (box_keep hX hb1)
 have DC1 := Lib.hid (DC.out w1 (hA.below hb1))
 go_upto_region 3 with (go_at_call 56; refine DC1.out.mono ?_; rintro e w2 ⟨vU, vO, U, od, P, rfl, hD⟩)
 have hL2 := Kd.R_below hL hD.b
 have hb2 := hb1.trans (hD.b.mono hb1.size)
 have hU2 := Kd.R_lower hD.ru hb1.size
 have hO2 := Kd.R_lower hD.ro hb1.size
 have neU : ∀ k, vL.ownBlock = some k -> vU.ownBlock ≠ some k := fun k a b => by
  have := (RI_lt hL k a).2
  have := (RI_lt hD.ru k b).1
  omega
 have neO : ∀ k, vL.ownBlock = some k -> vO.ownBlock ≠ some k := fun k a b => by
  have := (RI_lt hL k a).2
  have := (RI_lt hD.ro k b).1
  omega
 have HOR := Lib.hid hD.ord
 have HDM := Lib.hid hD.doms
 have HLS := Lib.hid hD.less
 have HS0 := Lib.hid (Sm.begin (wsG G) H.out hD.ord (U := U))
 have hUl := hD.doms.ul
 clear hL hb1 hD DC DC1 cA fA
 obtain ⟨M, hM⟩ : ∃ M, od.length = M + 1 := ⟨od.length - 1, by have := HOR.out.hd.1; omega⟩
 obtain ⟨gU, cU, rfl, gU0, -, -⟩ := RI_form hU2 (by omega)
 obtain ⟨gO, cO, rfl, gO0, -, -⟩ := RI_form hO2 (by omega)
 rw [hUl] at hU2
 rw [hM] at hO2
 have hMN : M <= 2097152 := by
  have : (od.length : Int) <= 2097153 := by
   have hlast := (HOR.out.mem (od.getD M 0)).1 (getD_mem 0 (by omega))
   have := hUl
   have hpl := HOR.out.pl M (by omega)
   have hnd : od.Nodup := by
    refine List.pairwise_iff_getElem.2 fun i j hi hj hij e' => ?_
    have a := HOR.out.pl i hi
    have b := HOR.out.pl j hj
    rw [List.getD_eq_getElem?_getD, List.getElem?_eq_getElem hi] at a
    rw [List.getD_eq_getElem?_getD, List.getElem?_eq_getElem hj] at b
    simp only [Option.getD_some] at a b
    rw [e', b] at a
    omega
   have := nodup_len' hnd (n := G.obs.length) (fun x hx => ((HOR.out.mem x).1 hx).rng H.out)
   omega
  omega
 rw [hM] at HS0
 have HU := Lib.hid hUl
 have HMm := Lib.hid hM
 clear hUl hM hh
 simp only [HU.out, HMm.out]
 go_wp2_with fail
 go_loopw [6] (fun iv wx => ∃ (i : Nat) (l : List Int), i <= M /\ iv = .int .i64 i /\ RI wx wA.heap.size vL l /\ RI wx wA.heap.size (.slice (some ⟨gU, 0, none⟩) (G.obs.length + 1) cU) U /\ RI wx wA.heap.size (.slice (some ⟨gO, 0, none⟩) (M + 1) cO) od /\ Hid (Sm (nxG G) G.obs.length (wsG G) U P ((i : Int) + 1) l) /\ Below wA.heap.size wA wx) (fun iv _ => (intOf iv).toNat)
 case atStart => exact ⟨M, List.replicate G.obs.length 0, Nat.le_refl _, by go_num, hL2, hU2, hO2, by simpa using HS0, hb2⟩
 case round =>
  clear hL2 hU2 hO2 HS0 hb2
  obtain ⟨i, l, hi, rfl, hL, hU, hO, HS, hbr⟩ := hrel
  by_cases hip : 0 < i
  ·have dlt : decide ((0 : Int) < (i : Int)) = true := decide_eq_true (by omega)
   have i0 : (0 : Int) <= (i : Int) := by omega
   have i1 : (i : Int) < (M : Int) + 1 := by omega
   have hll := HS.out.len
   have hod : i < od.length := by have := HMm.out; omega
   have hnr := (HOR.out.mem (od.getD i 0)).1 (getD_mem 0 hod)
   have hnp := HOR.out.pl i hod
   have hn1 : 1 <= od.getD i 0 := by
    have r := hnr.rng H.out
    by_cases q : od.getD i 0 = 0
    ·have p0 := HOR.out.pl 0 HOR.out.hd.1
     rw [HOR.out.hd.2] at p0
     rw [q, p0] at hnp
     omega
    ·omega
   have hnN := (hnr.rng H.out).2
   obtain ⟨hcO, -⟩ := Kd.R_celln (d := (0 : Int)) hO (i : Int) (by omega) (by omega)
   simp only [Int.toNat_natCast, rdOf] at hcO
   have ST := HS.out.step H.out HOR.out HDM.out HLS.out hn1 hnr hnp
   have RM1 := HS.out.room WB.out H.out HOR.out HDM.out HLS.out hn1 hnr
   have UY := HDM.out.yes _ hnr (by omega)
   have RM3 := Lib.hid (fun hu : 0 < fa U (od.getD i 0) => (⟨HS.out.room WB.out H.out HOR.out HDM.out HLS.out (x := fa U (od.getD i 0)) (by omega) UY.2.2.1, (ST.2.2 hu).2.room WB.out H.out HOR.out HDM.out HLS.out (x := fa U (od.getD i 0)) (by omega) UY.2.2.1⟩ : _ /\ _))
   have UB : -1 <= fa U (od.getD i 0) /\ fa U (od.getD i 0) <= (G.obs.length : Int) := ⟨by omega, UY.2.1⟩
   have UN := UY.2.2.2.1
   obtain ⟨st0, st1, st2⟩ := ST
   have tb : 0 <= tw (nxG G) G.obs.length (wsG G) (od.getD i 0) /\ tw (nxG G) G.obs.length (wsG G) (od.getD i 0) <= (G.obs.length : Int) * 2097154 := wsum_bd WB.out
   have ST1 := Lib.hid st1
   have ST2 := Lib.hid st2
   clear st1 st2 hnr hnp UY HS
   generalize od.getD i 0 = n at *
   generalize tw (nxG G) G.obs.length (wsG G) n = t at *
   obtain ⟨ni, rfl⟩ : ∃ ni : Nat, n = (ni : Int) + 1 := ⟨(n - 1).toNat, by omega⟩
   have hlt : ni < G.obs.length := by omega
   obtain ⟨gL, cL, rfl, gL0, gL1, -⟩ := RI_form hL (by omega)
   have neU1 := neU gL rfl
   have neO1 := neO gL rfl
   rw [hll] at hL ⊢
   have e1 : (ni : Int) + 1 - 1 = (ni : Int) := by omega
   rw [e1] at st0 RM1
   have hw : wsG G ((ni : Int) + 1) = 2 + ((G.obs.getD ni default).f3.length : Int) + ((G.obs.getD ni default).f4.length : Int) := by unfold wsG; rw [show ((ni : Int) + 1 - 1).toNat = ni by omega]
   rw [hw] at st0
   obtain ⟨ad0, P3, p3, P4, p4, e0, j0, j1, j2, j3, j4, l3, C3, l4, C4⟩ := ob_at hA.r0 ni hlt
   simp only at e0
   subst e0
   have k0 := cell_later hbr j0
   have k1 := cell_later hbr j1
   have k2 := cell_later hbr j2
   have k3 := cell_later hbr j3
   have k4 := cell_later hbr j4
   obtain ⟨o3, o4⟩ := bd.i64 _ (getD_mem (l := G.obs) default hlt)
   obtain ⟨hcL, hfL⟩ := Kd.R_celln (d := (0 : Int)) hL (ni : Int) (by omega) (by omega)
   simp only [Int.toNat_natCast, rdOf] at hcL hfL
   have hfe : fa l (ni : Int) = l.getD ni 0 := by unfold fa; rw [Int.toNat_natCast]
   rw [hfe] at st0 RM1
   have et : ((ni : Int) + 1 - 1).toNat = ni := by omega
   rw [et] at ST1 ST2 RM3
   obtain ⟨cA, fA⟩ := blk_at (box_keep hX hbr)
   clear j0 j1 j2 j3 j4 C3 C4 hw e1 hfe et
   have WC := Lib.hid (fun (W : World) => words_any (G.obs.getD ni default).f0 (G.obs.getD ni default).f1 (G.obs.getD ni default).f2 (G.obs.getD ni default).f3.length (G.obs.getD ni default).f4.length P3 P4 p3 p4 W o3 o4)
   have HLN := Lib.hid hll
   clear hll
   have HL := Lib.hid hL
   have KL := Lib.hid (fun (W : World) (hb : Below wr.heap.size wr W) => (by
    have := Kd.R_celln (d := (0 : Int)) (Kd.R_below hL hb) (ni : Int) (by omega) (by omega)
    simpa only [Int.toNat_natCast, rdOf] using this : W.cell? ⟨gL, ni, none⟩ = some (.int .i64 (l.getD ni 0)) /\ W.frozen? ⟨gL, ni, none⟩ = false))
   generalize G.obs.getD ni default = o at *
   obtain ⟨f0, f1, f2, ps, rs⟩ := o
   simp only at *
   have q0 : (0 : Int) <= (ni : Int) := by omega
   have q1 : (ni : Int) < (G.obs.length : Int) := by omega
   have q2 : (ni : Int) + 1 < (G.obs.length : Int) + 1 := by omega
   have ew : IntKind.i64.wrap ((ni : Int) + 1 - 1) = (ni : Int) := by rw [IntKind.wrap_i64]; omega
   have ew2 : IntKind.i64.wrap (ni : Int) = (ni : Int) := w64' (by omega)
   obtain ⟨y, hy⟩ : ∃ y, y = l.getD ni 0 := ⟨_, rfl⟩
   rw [<- hy] at hcL st0 RM1 KL
   have hyb : 0 <= y /\ y <= 2199025352704 := by omega
   have htb : 0 <= t /\ t <= 2199025352704 := by omega
   have est : IntKind.i64.wrap (y + (2 + (ps.length : Int) + (rs.length : Int))) = t := by rw [<- st0, IntKind.wrap_i64]; omega
   clear hy RM1 tb
   go_upto_region 7 with fail
   go_cut [] (fun wx => ∃ w4, Below wr.heap.size wr w4 /\ wx = w4.setCell ⟨gL, ni, none⟩ (.int .i64 t))
   case first =>
    have ST0 := Lib.hid st0
    clear st0 ST1 ST2 RM3 HOR HDM HLS H WB hX hA hL hO hU UN UB hnN hn1 neU neO neU1 neO1 hlt hod
    go_region_with (go_at_call 91; refine (WC.out _).mono ?_; rintro e w5 ⟨rfl, hb5'⟩; have hb5 : Below wr.heap.size wr w5 := ((Below.refl wr.heap.size wr).drew).trans hb5'; obtain ⟨kl5, kf5⟩ := KL.out w5 hb5)
    all_goals go_wp2_with fail
    all_goals go_meet
    all_goals exact ⟨_, hb5, by first | rfl | rw [est] | rw [ST0.out]⟩
   case rest =>
    obtain ⟨w4, hb4, rfl⟩ := hcut
    have hL4 := (RI_put (Kd.R_below HL.out hb4) ni t).1
    have hU4 := RI_far (Kd.R_below hU hb4) (p := ⟨gL, ni, none⟩) neU1 (.int .i64 t)
    have hO4 := RI_far (Kd.R_below hO hb4) (p := ⟨gL, ni, none⟩) neO1 (.int .i64 t)
    have hb5 := (hbr.trans (hb4.mono hbr.size)).setCell (p := ⟨gL, ni, none⟩) gL0 (.int .i64 t)
    generalize w4.setCell ⟨gL, ni, none⟩ (.int .i64 t) = w6 at *
    clear hb4 hcL hfL hbr hU hO HL KL WC k0 k1 k2 k3 k4 cA fA st0 est hyb
    obtain ⟨hcU, -⟩ := Kd.R_celln (d := (0 : Int)) hU4 ((ni : Int) + 1) (by omega) (by omega)
    have eu : ((ni : Int) + 1).toNat = ni + 1 := by omega
    simp only [rdOf, eu] at hcU
    have hfu : fa U ((ni : Int) + 1) = U.getD (ni + 1) 0 := by unfold fa; rw [eu]
    rw [hfu] at RM3 ST1 ST2 UB UN
    clear hfu eu
    generalize U.getD (ni + 1) 0 = u at *
    have hil : i - 1 <= M := by omega
    have hie : ((i : Int) - 1) = ((i - 1 : Nat) : Int) := by omega
    have HIE := Lib.hid hie
    clear hie
    by_cases hu : 0 < u
    ·have du : decide ((0 : Int) < u) = true := decide_eq_true hu
     obtain ⟨r1, r2⟩ := RM3.out hu
     obtain ⟨e1, hs⟩ := ST2.out hu
     obtain ⟨un, rfl⟩ : ∃ un : Nat, u = (un : Int) + 1 := ⟨(u - 1).toNat, by omega⟩
     have et : ((un : Int) + 1 - 1).toNat = un := by omega
     have et2 : (un : Int) + 1 - 1 = (un : Int) := by omega
     have hne : un ≠ ni := fun e => UN (by rw [e])
     rw [et, et2] at hs
     rw [et2] at r1 r2
     have hfa : fa l (un : Int) = l.getD un 0 := by unfold fa; rw [Int.toNat_natCast]
     rw [hfa] at hs r1
     have r3 : fa ((l.set ni t).set (un : Int).toNat (fa l (un : Int) + t)) (un : Int) = l.getD un 0 + t := by
      rw [hfa, fa_set' (by have := HLN.out; simp; omega) (by omega), if_pos rfl]
     rw [r3] at r2
     obtain ⟨hc1, hf1⟩ := Kd.R_celln (d := (0 : Int)) hL4 (un : Int) (by omega) (by omega)
     obtain ⟨hc2, hf2⟩ := Kd.R_celln (d := (0 : Int)) hL4 (ni : Int) (by omega) (by omega)
     simp only [Int.toNat_natCast, rdOf] at hc1 hf1 hc2 hf2
     rw [getD_set' (by have := HLN.out; omega), if_neg (fun e => hne e.symm)] at hc1
     rw [getD_set' (by have := HLN.out; omega), if_pos rfl] at hc2
     obtain ⟨x, hx⟩ : ∃ x, x = l.getD un 0 := ⟨_, rfl⟩
     rw [<- hx] at hc1 hs r1 r2
     have HS := Lib.hid hs
     have hL6 := (RI_put hL4 un (x + t)).1
     have hU6 := RI_far hU4 (p := ⟨gL, un, none⟩) neU1 (.int .i64 (x + t))
     have hO6 := RI_far hO4 (p := ⟨gL, un, none⟩) neO1 (.int .i64 (x + t))
     have hb6 := hb5.setCell (p := ⟨gL, un, none⟩) gL0 (.int .i64 (x + t))
     have q3 : (0 : Int) <= (un : Int) := by omega
     have q4 : (un : Int) < (G.obs.length : Int) := by omega
     have hxb : 0 <= x + t /\ x + t <= 2199025352704 := by omega
     have ewx : IntKind.i64.wrap (x + t) = x + t := by rw [IntKind.wrap_i64]; omega
     have ew3 : IntKind.i64.wrap ((un : Int) + 1 - 1) = (un : Int) := by rw [IntKind.wrap_i64]; omega
     have ew4 : IntKind.i64.wrap (un : Int) = (un : Int) := w64' (by omega)
     clear hs hx r1 r2 r3 hfa et et2 e1 RM3 ST1 ST2 UN hu
     go_upto_region 9 with fail
     have hL7 := Lib.hid (RI_put (Kd.R_drew hL4) un (x + t)).1
     have hU7 := Lib.hid (RI_far (Kd.R_drew hU4) (p := ⟨gL, un, none⟩) neU1 (.int .i64 (x + t)))
     have hO7 := Lib.hid (RI_far (Kd.R_drew hO4) (p := ⟨gL, un, none⟩) neO1 (.int .i64 (x + t)))
     have hb7 := Lib.hid (hb5.drew.setCell (p := ⟨gL, un, none⟩) gL0 (.int .i64 (x + t)))
     clear hL6 hU6 hO6 hb6 hL4 hU4 hO4 hb5
     go_region
     all_goals go_wp2_with fail
     all_goals go_roundw
     all_goals first
      | (refine ⟨i - 1, _, hil, congrArg (Value.int .i64) HIE.out, hL7.out, hU7.out, hO7.out, Lib.hid ?_, hb7.out⟩; rw [show (((i - 1 : Nat) : Int) + 1) = (i : Int) by omega]; exact HS.out)
      | (simp [intOf]; omega)
    ·have du : decide ((0 : Int) < u) = false := decide_eq_false hu
     have HS := Lib.hid (ST1.out (by omega))
     clear RM3 ST1 ST2 UN hu
     go_wp2_with fail
     go_roundw
     case rel => exact ⟨i - 1, _, hil, congrArg (Value.int .i64) HIE.out, hL4, hU4, hO4, Lib.hid (by rw [show (((i - 1 : Nat) : Int) + 1) = (i : Int) by omega]; exact HS.out), hb5⟩
     case measure => simp [intOf]; omega
  ·have dlt : decide ((0 : Int) < (i : Int)) = false := decide_eq_false (by omega)
   obtain rfl : i = 0 := by omega
   have HE := Lib.hid (show SmOut G l from ⟨U, od, P, HOR.out, by simpa using HS.out⟩)
   go_wp2_with fail
   go_ret
   exact ⟨_, l, rfl, Kd.R_lower hL (Nat.le_of_lt lA), HE.out, hB.trans (hbr.mono hB.size)⟩
end
section
def Told (e : Ending) (w' : World) (B : Nat) (D : List Int -> Prop) : Prop := ∃ v p, e = .returned (.tuple #[v, .int .i64 0]) /\ RI w' B v p /\ D p
end
end Go.Proofs.YtogpgkoelplknaaDoor
end
section
namespace Go.Proofs.YtogpgkoelplknaaDoor
open Go.RowKit PLensPaths
set_option linter.unusedVariables false
section
structure Lv (G : Gr) (tg d x : Int) (H : List Int) : Prop where
 hl : H.length = G.obs.length + 1
 hd : fa H tg = 1
 z : fa H 0 = 0
 low : ∀ y, 1 <= y -> y <= (G.obs.length : Int) -> 0 <= fa H y /\ fa H y <= d + 1
 one : ∀ y, 1 <= y -> y <= (G.obs.length : Int) -> fa H y = 1 -> y = tg
 back : ∀ y, 1 <= y -> y <= (G.obs.length : Int) -> 2 <= fa H y -> ∃ u ∈ wayOf G y, fa H u + 1 = fa H y
 old : ∀ y u, 1 <= y -> y <= (G.obs.length : Int) -> u ∈ wayOf G y -> 0 < fa H u -> fa H u < d -> 0 < fa H y /\ fa H y <= fa H u + 1
 cur : ∀ y u, 1 <= y -> y < x -> y <= (G.obs.length : Int) -> u ∈ wayOf G y -> fa H u = d -> 0 < fa H y
theorem Lv.set {G : Gr} (R : Rng G) {tg d x : Int} {H : List Int} (h : Lv G tg d x H) (x0 : 1 <= x) (x1 : x <= (G.obs.length : Int)) (d0 : 1 <= d) {u : Int} (hu : u ∈ wayOf G x) (hud : fa H u = d) (hx : fa H x = 0) : Lv G tg d x (H.set x.toNat (d + 1)) := by
 have hl := h.hl
 have fs : ∀ y : Int, 0 <= y -> fa (H.set x.toNat (d + 1)) y = if y = x then d + 1 else fa H y := fun y hy => fa_set (by omega) hy
 have tx : tg ≠ x := fun e => by have := h.hd; rw [e, hx] at this; omega
 have tr : 0 <= tg \/ tg < 0 := by omega
 have ftg : fa (H.set x.toNat (d + 1)) tg = fa H tg := by
  rcases tr with q | q
  ·rw [fs tg q, if_neg tx]
  ·have e0 : tg.toNat = (0 : Int).toNat := by omega
   have a : fa (H.set x.toNat (d + 1)) tg = fa (H.set x.toNat (d + 1)) 0 := by unfold fa; rw [e0]
   have b : fa H tg = fa H 0 := by unfold fa; rw [e0]
   rw [a, b, fs 0 (by omega), if_neg (by omega)]
 refine ⟨by simp [hl], by rw [ftg]; exact h.hd, by rw [fs 0 (by omega), if_neg (by omega)]; exact h.z, fun y y0 y1 => ?_, fun y y0 y1 e => ?_, fun y y0 y1 e => ?_, fun y v y0 y1 hv v0 v1 => ?_, fun y v y0 yx y1 hv e => ?_⟩
 ·rw [fs y (by omega)]
  split
  ·omega
  ·exact h.low y y0 y1
 ·rw [fs y (by omega)] at e
  split at e
  ·omega
  ·exact h.one y y0 y1 e
 ·rw [fs y (by omega)] at e ⊢
  by_cases q : y = x
  ·rw [if_pos q]
   subst q
   have ur := wayOf_rng R y0 y1 hu
   refine ⟨u, hu, ?_⟩
   rw [fs u (by omega), if_neg (fun c => by rw [c, hx] at hud; omega), hud]
  ·rw [if_neg q] at e ⊢
   obtain ⟨v, hv, e2⟩ := h.back y y0 y1 e
   have vr := wayOf_rng R y0 y1 hv
   refine ⟨v, hv, ?_⟩
   rw [fs v (by omega), if_neg (fun c => by rw [c, hx] at e2; omega)]
   exact e2
 ·have vr := wayOf_rng R y0 y1 hv
  rw [fs v (by omega)] at v0 v1 ⊢
  rw [fs y (by omega)]
  by_cases q : v = x
  ·rw [if_pos q] at v1; omega
  ·rw [if_neg q] at v0 v1 ⊢
   have := h.old y v y0 y1 hv v0 v1
   by_cases q2 : y = x
   ·rw [q2, hx] at this; omega
   ·rw [if_neg q2]; exact this
 ·have vr := wayOf_rng R y0 y1 hv
  rw [fs v (by omega)] at e
  rw [fs y (by omega)]
  by_cases q : v = x
  ·rw [if_pos q] at e; omega
  ·rw [if_neg q] at e
   rw [if_neg (by omega)]
   exact h.cur y v y0 yx y1 hv e
theorem Lv.next {G : Gr} {tg d x : Int} {H : List Int} (h : Lv G tg d x H) (hx : ∀ u ∈ wayOf G x, fa H u = d -> 0 < fa H x) : Lv G tg d (x + 1) H :=
 ⟨h.hl, h.hd, h.z, h.low, h.one, h.back, h.old, fun y u y0 yx y1 hu e => by
  by_cases q : y < x
  ·exact h.cur y u y0 q y1 hu e
  ·obtain rfl : y = x := by omega
   exact hx u hu e⟩
theorem Lv.round {G : Gr} {tg d x : Int} {H : List Int} (h : Lv G tg d x H) (hx : (G.obs.length : Int) < x) : Lv G tg (d + 1) 1 H :=
 ⟨h.hl, h.hd, h.z, fun y y0 y1 => by have := h.low y y0 y1; omega, h.one, h.back, fun y u y0 y1 hu u0 u1 => by
  by_cases q : fa H u < d
  ·exact h.old y u y0 y1 hu u0 q
  ·have a := h.cur y u y0 (by omega) y1 hu (by omega)
   have b := h.low y y0 y1
   exact ⟨a, by omega⟩, fun y u y0 yx => by omega⟩
theorem Lv.start {G : Gr} {tg : Int} (t0 : 1 <= tg) (t1 : tg <= (G.obs.length : Int)) : Lv G tg 1 1 ((List.replicate (G.obs.length + 1) 0).set tg.toNat 1) := by
 have fr : ∀ y, fa (List.replicate (G.obs.length + 1) 0) y = 0 := fun y => by
  unfold fa
  rw [List.getD_eq_getElem?_getD, List.getElem?_replicate]; split <;> rfl
 have fs : ∀ y : Int, 0 <= y -> fa ((List.replicate (G.obs.length + 1) 0).set tg.toNat 1) y = if y = tg then 1 else 0 := fun y hy => by
  rw [fa_set (by simp; omega) hy, fr]
 refine ⟨by simp, by rw [fs tg (by omega), if_pos rfl], by rw [fs 0 (by omega), if_neg (by omega)], fun y y0 y1 => ?_, fun y y0 y1 e => ?_, fun y y0 y1 e => ?_, fun y u y0 y1 hu u0 u1 => by omega, fun y u y0 yx => by omega⟩
 ·rw [fs y (by omega)]; split <;> omega
 ·rw [fs y (by omega)] at e; split at e
  ·assumption
  ·omega
 ·rw [fs y (by omega)] at e; split at e <;> omega
theorem lv_list {G : Gr} (R : Rng G) {tg d x : Int} {H : List Int} (h : Lv G tg d x H) : ∀ (n : Nat) (y : Int), 1 <= y -> y <= (G.obs.length : Int) -> fa H y = (n : Int) + 1 -> ∃ L : List Int, L.Nodup /\ L.length = n + 1 /\ ∀ u ∈ L, (1 <= u /\ u <= (G.obs.length : Int)) /\ fa H u <= (n : Int) + 1 := by
 intro n
 induction n with
 | zero => intro y h0 h1 e; exact ⟨[y], by simp, rfl, fun u hu => by simp at hu; subst hu; exact ⟨⟨h0, h1⟩, by omega⟩⟩
 | succ n ih =>
  intro y h0 h1 e
  obtain ⟨u, hu, e2⟩ := h.back y h0 h1 (by omega)
  have ur := wayOf_rng R h0 h1 hu
  obtain ⟨L, l1, l2, l3⟩ := ih u ur.1 ur.2 (by omega)
  refine ⟨y :: L, List.nodup_cons.2 ⟨fun c => by have := (l3 y c).2; omega, l1⟩, by simp [l2], fun v hv => ?_⟩
  rcases List.mem_cons.1 hv with rfl | c
  ·exact ⟨⟨h0, h1⟩, by omega⟩
  ·have := l3 v c; exact ⟨this.1, by omega⟩
theorem Lv.top {G : Gr} (R : Rng G) {tg d x : Int} {H : List Int} (h : Lv G tg d x H) {y : Int} (h0 : 1 <= y) (h1 : y <= (G.obs.length : Int)) : fa H y <= (G.obs.length : Int) := by
 by_cases q : 1 <= fa H y
 ·obtain ⟨L, l1, l2, l3⟩ := lv_list R h (fa H y - 1).toNat y h0 h1 (by omega)
  have := nodup_len l1 (fun y hy => (l3 y hy).1)
  omega
 ·omega
def less (H : List Int) : List Int := H.map fun x => x - 1
end
end Go.Proofs.YtogpgkoelplknaaDoor
end
section
namespace Go.Proofs.YtogpgkoelplknaaDoor
open Go.RowKit Go.BigFrame PLensPaths Go.Proofs.YtogpgkoelplknaaDoorW.PrintWords Go.Proofs.YtogpgkoelplknaaDoorW.PrintMore
set_option linter.unusedVariables false
section
end
section
theorem objs_mem2 {G : Gr} {l : List Ob} : ∀ {a : Int}, objsFrom G a l = true -> ∀ o ∈ l, chk (obHd o) = 0 := by
 induction l with
 | nil => intro a h o ho; cases ho
 | cons x l ih =>
  intro a h o ho
  unfold objsFrom at h
  simp only [Bool.and_eq_true, decide_eq_true_eq] at h
  rcases List.mem_cons.1 ho with e | e
  ·rw [e]; exact h.1.1.2
  ·exact ih h.2 o e
theorem eph_two {G : Gr} (h : okB G = true) : ∀ o ∈ G.obs, o.f1 = 3 -> 2 <= o.f3.length := fun o ho h3 => by
 unfold okB objsB at h
 simp only [Bool.and_eq_true, decide_eq_true_eq] at h
 have c := objs_mem2 h.1.1.1.2 o ho
 unfold chk obHd at c
 simp only at c
 by_cases q : 2 <= o.f3.length
 ·exact q
 ·rw [if_pos (by omega)] at c
  omega
theorem ek_none {G : Gr} {y : Int} (h : (G.obs.getD (y - 1).toNat default).f1 ≠ 3) : ekG G y = none := by
 unfold ekG
 rw [if_neg (fun q => h q.1)]
structure RtP (G : Gr) (i : Nat) (l : List Int) : Prop where
 len : l.length = G.obs.length
 no : ∀ x : Int, 1 <= x -> x <= (G.obs.length : Int) -> ¬ Ra (nxG G) (ekG G) (-1) x -> l.getD (x - 1).toNat 0 = 0
 yes : ∀ x : Int, 1 <= x -> x <= (i : Int) -> Ra (nxG G) (ekG G) (-1) x -> l.getD (x - 1).toNat 0 = wsum (wsG G) (Ra (nxG G) (ekG G) (-1)) G.obs.length - wsum (wsG G) (Ra (nxG G) (ekG G) x) G.obs.length
theorem RtP.begin (G : Gr) : RtP G 0 (List.replicate G.obs.length 0) :=
 ⟨by simp, fun x _ _ _ => by rw [List.getD_eq_getElem?_getD, List.getElem?_replicate]; split <;> rfl, fun x x0 x1 => by omega⟩
theorem RtP.skip {G : Gr} {i : Nat} {l : List Int} (h : RtP G i l) (q : ¬ Ra (nxG G) (ekG G) (-1) ((i : Int) + 1)) : RtP G (i + 1) l :=
 ⟨h.len, h.no, fun x x0 x1 hx => by
  by_cases e : x = (i : Int) + 1
  ·rw [e] at hx; exact absurd hx q
  ·exact h.yes x x0 (by omega) hx⟩
theorem RtP.put {G : Gr} {i : Nat} {l : List Int} (h : RtP G i l) (hi : i < G.obs.length) (q : Ra (nxG G) (ekG G) (-1) ((i : Int) + 1)) : RtP G (i + 1) (l.set i (wsum (wsG G) (Ra (nxG G) (ekG G) (-1)) G.obs.length - wsum (wsG G) (Ra (nxG G) (ekG G) ((i : Int) + 1)) G.obs.length)) := by
 have hl := h.len
 refine ⟨by simp [hl], fun x x0 x1 hx => ?_, fun x x0 x1 hx => ?_⟩
 ·rw [getD_set' (by omega), if_neg (fun e => hx (by rw [show x = (i : Int) + 1 by omega]; exact q))]
  exact h.no x x0 x1 hx
 ·rw [getD_set' (by omega)]
  by_cases e : x = (i : Int) + 1
  ·rw [if_pos (by omega), e]
  ·rw [if_neg (by omega)]
   exact h.yes x x0 (by omega) hx
theorem RtP.over {G : Gr} {l : List Int} (h : RtP G G.obs.length l) : RetL (nxG G) (ekG G) G.obs.length (wsG G) l :=
 ⟨h.len, h.no, fun x x0 x1 hx => h.yes x x0 x1 hx⟩
set_option maxRecDepth 100000 in
set_option maxHeartbeats 8000000 in
theorem ret_bad (g : Gv) (G : Gr) (w : World) (h : GAt w g G) (tb : Tab w) (s : Small G) (hok : okB G = false) :
  Calls Tryd.prog 19 #[gval g G] w fun e w' => e = .returned (.tuple #[nilS, .int .i64 171]) /\ Below w.heap.size w w' := by
 obtain ⟨A0, A1, A2, A3, A4, c0, c1, c2, c3, c4⟩ := g
 have CK := Lib.hid (fun (W : World) (hb : Below w.heap.size w W) => icheck_any ⟨A0, A1, A2, A3, A4, c0, c1, c2, c3, c4⟩ G W (h.below hb) (tb.below hb) s)
 have BX := boxed h
 unfold gval gcells at *
 simp only at BX CK ⊢
 rw [hok] at CK
 clear hok
 go_enter Tryd.func19, Tryd.ntmps19
 go_upto_region 1 with fail
 generalize w.alloc _ = wA at *
 obtain ⟨hX, hB, lA, hA⟩ := BX
 obtain ⟨cA, fA⟩ := blk_at hX
 go_wp2_with (go_at_call 39; refine (CK.out _ hB).mono ?_; rintro e w2 ⟨rfl, hb2⟩)
 go_ret2
 exact ⟨rfl, hB.trans (hb2.mono hB.size)⟩
set_option maxRecDepth 100000 in
set_option maxHeartbeats 16000000 in
theorem ret_good (g : Gv) (G : Gr) (w : World) (h : GAt w g G) (tb : Tab w) (s : Small G) (hok : okB G = true) :
  Calls Tryd.prog 19 #[gval g G] w fun e w' => Told e w' w.heap.size (RetL (nxG G) (ekG G) G.obs.length (wsG G)) /\ Below w.heap.size w w' := by
 have R := rng_ok hok
 have h2 := eph_two hok
 have bd := s.bd
 have hn := bd.n
 have hh : ∀ x ∈ posL (holdP G), 1 <= x /\ x <= (G.obs.length : Int) := fun x hx => by have := hold_rng R x hx; omega
 have H := Lib.hid (nx_ok R hh)
 have K := Lib.hid (ek_ok R)
 have hwb : ∀ p, 0 <= wsum (wsG G) p G.obs.length /\ wsum (wsG G) p G.obs.length <= 2199025352704 := fun p => by
  have := wsum_bd (f := wsG G) (p := p) (B := 2097154) (fun y => wsG_bd bd y) (m := G.obs.length)
  omega
 have WB := Lib.hid hwb
 have sums : ∀ (S : List Bool) (d : Int), (∀ y : Int, 1 <= y -> y <= (G.obs.length : Int) -> (sb S y = true ↔ Ra (nxG G) (ekG G) d y)) -> sumB G S G.obs.length = wsum (wsG G) (Ra (nxG G) (ekG G) d) G.obs.length := fun S d hS => by
  rw [sumB_eq]
  exact wsum_congr hS
 have SUM := Lib.hid sums
 obtain ⟨A0, A1, A2, A3, A4, c0, c1, c2, c3, c4⟩ := g
 have CK := Lib.hid (fun (W : World) (hb : Below w.heap.size w W) => icheck_any ⟨A0, A1, A2, A3, A4, c0, c1, c2, c3, c4⟩ G W (h.below hb) (tb.below hb) s)
 have R1 := Lib.hid (fun (W : World) (hb : Below w.heap.size w W) => reach1_any ⟨A0, A1, A2, A3, A4, c0, c1, c2, c3, c4⟩ G W (-1) rfl (h.below hb) s R h2)
 have R2 := Lib.hid (fun (W : World) (hb : Below w.heap.size w W) (bx ix : Nat) (hbx : W.cell? ⟨bx, 0, none⟩ = some (.int .i64 (ix : Int))) (hlt : bx < W.heap.size) (hix : ix <= 1048576) => reach2_any ⟨A0, A1, A2, A3, A4, c0, c1, c2, c3, c4⟩ G W ((ix : Int) + 1) bx ix hbx hlt hix rfl (h.below hb) s R h2)
 have SU := Lib.hid (fun (W : World) (hb : Below w.heap.size w W) (gS cS B : Nat) (S : List Bool) (hS : RB W B (.slice (some ⟨gS, 0, none⟩) (G.obs.length + 1) cS) S) => sum_any ⟨A0, A1, A2, A3, A4, c0, c1, c2, c3, c4⟩ G W (h.below hb) s gS cS B S hS)
 have DO := Lib.hid (fun (W : World) (hb : Below w.heap.size w W) => dominated_any ⟨A0, A1, A2, A3, A4, c0, c1, c2, c3, c4⟩ G W (h.below hb) s R)
 have BX := boxed h
 unfold gval gcells at *
 simp only at BX CK R1 R2 SU DO ⊢
 rw [hok] at CK
 clear hok hwb sums
 go_enter Tryd.func19, Tryd.ntmps19
 go_upto_region 1 with fail
 generalize w.alloc _ = wA at *
 obtain ⟨hX, hB, lA, hA⟩ := BX
 obtain ⟨cA, fA⟩ := blk_at hX
 go_upto_region 3 with (go_at_call 39; refine (CK.out _ hB).mono ?_; rintro e w2 ⟨rfl, hb2⟩; clear cA fA; obtain ⟨cA, fA⟩ := blk_at (box_keep hX (hb2)); have hB2 := hB.trans (hb2.mono hB.size))
 go_upto_region 4 with (go_at_call 59; refine (R1.out _ hB2).mono ?_; rintro e w3 ⟨v3, S, rfl, hS3, hsp, hb3⟩)
 obtain ⟨hsl, hsp⟩ := hsp
 have HSP := Lib.hid hsp
 have HSL := Lib.hid hsl
 obtain ⟨gS, cS, rfl, gS0, gS1⟩ := RB_form hS3 (by omega)
 rw [hsl] at hS3 ⊢
 have hb23 := hb2.trans (hb3.mono hb2.size)
 have hB3 := hB.trans (hb23.mono hB.size)
 have SU3 := Lib.hid (SU.out w3 hB3 gS cS _ S hS3)
 have hS30 := Kd.R_lower hS3 (show wA.heap.size <= w2.heap.size from hb2.size)
 clear cA fA hsp hsl hS3 hb2 hb3 hB2 R1 CK
 obtain ⟨cA, fA⟩ := blk_at (box_keep hX hb23)
 go_upto_region 5 with (go_at_call 61; refine SU3.out.mono ?_; rintro e w4 ⟨rfl, hb4⟩)
 have hb24 := hb23.trans (hb4.mono hb23.size)
 have hB4 := hB.trans (hb24.mono hB.size)
 have hS4 := Kd.R_below hS30 hb4
 have HT := Lib.hid (tied_iff G S G.obs.length)
 have HX1 := Lib.hid (SUM.out S (-1) HSP.out)
 clear cA fA hb23 hB3 hb4 hS30 SU3
 obtain ⟨cA, fA⟩ := blk_at (box_keep hX hb24)
 have hxb := (WB.out (Ra (nxG G) (ekG G) (-1)))
 rw [<- HX1.out] at hxb
 obtain ⟨x, hx⟩ : ∃ x, x = sumB G S G.obs.length := ⟨_, rfl⟩
 rw [<- hx] at hxb HX1 ⊢
 clear hx
 cases hb : tiedB G S G.obs.length with
 | false =>
  rw [hb] at HT
  have HNE := Lib.hid (show ∀ y, Ra (nxG G) (ekG G) (-1) y -> ekG G y = none from fun y hy => by
   have r := hy.rng H.out K.out
   refine ek_none fun q => ?_
   have hs := (HSP.out y r.1 r.2).2 hy
   have : (false = true) := HT.out.2 ⟨(y - 1).toNat, by omega, by unfold sb at hs; rwa [show (y - 1).toNat + 1 = y.toNat by omega], q⟩
   cases this)
  clear hb HT
  have DO4 := Lib.hid (DO.out w4 hB4)
  go_wp2_with (go_at_call 62; refine DO4.out.mono ?_; rintro e w5 ⟨v5, l, rfl, hR5, ⟨U, od, P, hO5, hS5⟩, hb5⟩)
  go_ret2
  exact ⟨⟨v5, l, rfl, Kd.R_lower hR5 hB4.size, hS5.ret H.out K.out hO5 HNE.out⟩, hB4.trans (hb5.mono hB4.size)⟩
 | true =>
  clear hb HT DO
  go_upto_region 8 with (refine make_ints (w0 := wA) wA.heap.size rfl rfl _ _ rfl G.obs.length rfl rfl ?h1 hb24 hb24.size ?_; (case h1 => omega); intro vL w5 hL5 hb5 hg5 hat5)
  have hS5 : RB w5 wA.heap.size (.slice (some ⟨gS, 0, none⟩) (G.obs.length + 1) cS) S := Kd.R_of_own (own_other (Kd.own_of_R hS4) hg5 (.inr (by simp [Value.ownBlock]))) (fun _ _ => trivial)
  have hP0 := Lib.hid (RtP.begin G)
  clear hb24 hB4 hS4 cA fA hg5 hat5
  obtain ⟨AL, cL, rfl⟩ := Kd.R_slice hL5
  rw [List.length_replicate] at hL5 ⊢
  go_wp2_with fail
  go_loopw [32] (fun iv wx => ∃ (i : Nat) (l : List Int), i <= G.obs.length /\ iv = .int .i64 i /\ Hid (RtP G i l) /\ RI wx wA.heap.size (.slice AL G.obs.length cL) l /\ RB wx wA.heap.size (.slice (some ⟨gS, 0, none⟩) (G.obs.length + 1) cS) S /\ Below wA.heap.size wA wx) (fun iv _ => G.obs.length - (intOf iv).toNat)
  case atStart => exact ⟨0, _, by omega, rfl, hP0, hL5, hS5, hb5⟩
  case round =>
   clear hL5 hS5 hP0 hb5
   obtain ⟨i, l, hi, rfl, HP, hL, hS, hbr⟩ := hrel
   by_cases hlt : i < G.obs.length
   ·have dlt : decide ((i : Int) < (G.obs.length : Int)) = true := decide_eq_true (by omega)
    have i0 : (0 : Int) <= (i : Int) := by omega
    have i1 : (i : Int) < (G.obs.length : Int) := by omega
    have i2 : (0 : Int) <= (i : Int) + 1 := by omega
    have i3 : (i : Int) + 1 < (G.obs.length : Int) + 1 := by omega
    obtain ⟨gL, cL2, e, gL0, gL1, -⟩ := RI_form hL (by have := HP.out.len; omega)
    simp only [Value.slice.injEq] at e
    obtain ⟨rfl, -, rfl⟩ := e
    obtain ⟨hcS, -⟩ := RB_cell hS (i + 1) (by omega)
    have hsb : sb S ((i : Int) + 1) = S.getD (i + 1) false := by unfold sb; rw [show ((i : Int) + 1).toNat = i + 1 by omega]
    have HSB := Lib.hid hsb
    clear hsb
    go_upto_region 11 with fail
    obtain ⟨hz, bz⟩ := boxed_any wr #[.int .i64 (i : Int)] 3
    have hzl : wr.heap.size < (wr.alloc (.cells #[.int .i64 (i : Int)] 3)).heap.size := by rw [alloc_sz]; omega
    have hcS6 := cell_later bz hcS
    have hb6 := hbr.trans (bz.mono hbr.size)
    have hL6 := Kd.R_below hL bz
    have hS6 := Kd.R_below hS bz
    have hne : wr.heap.size ≠ gL := by have := Kd.R_lt hL gL rfl; omega
    generalize wr.alloc (.cells #[.int .i64 (i : Int)] 3) = w6 at *
    generalize wr.heap.size = bx at *
    clear hcS bz hL hS hbr
    cases hs : S.getD (i + 1) false with
    | false =>
     rw [hs] at hcS6
     have HN := Lib.hid (HP.out.skip (fun q => by have := (HSP.out ((i : Int) + 1) (by omega) (by omega)).2 q; rw [HSB.out, hs] at this; cases this))
     clear hs
     obtain ⟨cz, fz⟩ := blk_at hz
     go_wp2_with fail
     go_roundw
     case rel => exact ⟨i + 1, l, by omega, by go_num, HN, hL6, hS6, hb6⟩
     case measure => simp [intOf]; omega
    | true =>
     rw [hs] at hcS6
     have hra := (HSP.out ((i : Int) + 1) (by omega) (by omega)).1 (by rw [HSB.out, hs])
     have HN := Lib.hid (HP.out.put hlt hra)
     have yb := WB.out (Ra (nxG G) (ekG G) ((i : Int) + 1))
     rw [<- HX1.out] at HN
     have R26 := Lib.hid (R2.out w6.drew ((hB.trans (hb6.mono hB.size)).drew) bx i ((blk_at hz).1 0) hzl (by omega))
     have KG := Lib.hid (fun (W : World) (hb : Below w6.heap.size w6 W) => ((blk_at (box_keep hX (hb6.trans (hb.mono hb6.size)))).1))
     have KZ := Lib.hid (fun (W : World) (hb : Below w6.heap.size w6 W) => (blk_at (box_keep hz hb)))
     have HBB := Lib.hid (fun (W : World) (hb : Below w6.heap.size w6 W) => (hB.trans ((hb6.trans (hb.mono hb6.size)).mono hB.size)))
     have KL := Lib.hid (fun (W : World) (hb : Below w6.heap.size w6 W) => (by
      have := Kd.R_celln (d := (0 : Int)) (Kd.R_below hL6 hb) (i : Int) (by omega) (by omega)
      simpa only [Int.toNat_natCast, rdOf] using this : W.cell? ⟨gL, i, none⟩ = some (.int .i64 (l.getD i 0)) /\ W.frozen? ⟨gL, i, none⟩ = false))
     obtain ⟨cz, fz⟩ := blk_at hz
     obtain ⟨cA, fA⟩ := blk_at (box_keep hX hb6)
     clear hs hra HP
     go_upto_region 12 with fail
     go_cut [9] (fun s wx => s = .int .i64 (wsum (wsG G) (Ra (nxG G) (ekG G) ((i : Int) + 1)) G.obs.length) /\ Below w6.heap.size w6 wx)
     case first =>
      clear HN KL hL6 hS6 hxb yb HX1 HSP HSL K H hcS6 hz hzl h2 R
      go_region_with (first
       | (go_at_call 59; refine R26.out.mono ?_; rintro e w7 ⟨v7, S2, rfl, hS7, hsp7, hb7'⟩; obtain ⟨hl7, hr7⟩ := hsp7; obtain ⟨g7, c7, rfl, -, -⟩ := RB_form hS7 (by omega); rw [hl7] at hS7 ⊢; have HL7 := Lib.hid hl7; have HR7 := Lib.hid hr7; clear hl7 hr7; have hb7 : Below w6.heap.size w6 w7 := ((Below.refl w6.heap.size w6).drew).trans hb7'; have cA7 := KG.out w7 hb7; have SU7 := Lib.hid (SU.out w7 (HBB.out w7 hb7) g7 c7 _ S2 hS7))
       | (go_at_call 61; refine SU7.out.mono ?_; rintro e w8 ⟨rfl, hb8'⟩; have hb8 := hb7.trans (hb8'.mono hb7.size); have E8 := Lib.hid (SUM.out S2 _ HR7.out)))
      all_goals go_wp2_with fail
      all_goals go_meet
      all_goals exact ⟨congrArg (Value.int .i64) E8.out, hb8⟩
     case rest =>
      obtain ⟨rfl, hb8⟩ := hcut
      obtain ⟨hcL, hfL⟩ := KL.out _ hb8
      have hL8 := Kd.R_below hL6 hb8
      have hS8 := Kd.R_below hS6 hb8
      have hbb := hb6.trans (hb8.mono hb6.size)
      obtain ⟨cz8, fz8⟩ := KZ.out _ hb8
      clear cz fz cA fA hcS6 hL6 hS6 hz KL KZ KG HBB R26
      generalize wsum (wsG G) (Ra (nxG G) (ekG G) ((i : Int) + 1)) G.obs.length = y at *
      go_upto_region 14 with fail
      obtain ⟨tcs, hty⟩ := Kd.R_typed hL8 gL rfl
      have hS9 := Kd.R_set hS8 hty (by decide) i (.int .i64 (x - y))
      have hL9 := (RI_put hL8 i (x - y)).1
      have hb9 := hbb.setCell (p := ⟨gL, i, none⟩) gL0 (.int .i64 (x - y))
      clear hL8 hS8 hbb hty hcL hfL cz8 fz8
      go_wp2_with fail
      go_roundw
      case rel => exact ⟨i + 1, _, by omega, by go_num, HN, hL9, hS9, hb9⟩
      case measure => simp [intOf]; omega
   ·have dlt : decide ((i : Int) < (G.obs.length : Int)) = false := decide_eq_false (by omega)
    obtain rfl : i = G.obs.length := by omega
    have HE := Lib.hid HP.out.over
    clear HP
    go_wp2_with fail
    go_ret2
    exact ⟨⟨_, l, rfl, Kd.R_lower hL (Nat.le_of_lt lA), HE.out⟩, hB.trans (hbr.mono hB.size)⟩
end
section
structure Rb (N : Nat) (W : List Int) (i : Nat) (S : List Bool) : Prop where
 sl : S.length = N + 1
 h1 : ∀ z ∈ W.take i, sb S z = true
 h2 : ∀ y : Int, 1 <= y -> y <= (N : Int) -> sb S y = true -> y ∈ W.take i
theorem Rb.begin (N : Nat) (W : List Int) : Rb N W 0 (List.replicate (N + 1) false) :=
 ⟨by simp, fun z h => by simp at h, fun y _ _ h => by
  unfold sb at h
  rw [List.getD_eq_getElem?_getD, List.getElem?_replicate] at h
  split at h <;> cases h⟩
theorem Rb.step {N : Nat} {W : List Int} {i : Nat} {S : List Bool} (h : Rb N W i S) (hW : ∀ z ∈ W, 1 <= z /\ z <= (N : Int)) (hi : i < W.length) : Rb N W (i + 1) (S.set (W.getD i 0).toNat true) := by
 have hx := hW _ (getD_mem (l := W) 0 hi)
 have sl := h.sl
 have st : ∀ y : Int, 0 <= y -> sb (S.set (W.getD i 0).toNat true) y = if y = W.getD i 0 then true else sb S y := fun y hy => sb_set (by omega) hy
 refine ⟨by simp [sl], fun z hz => ?_, fun y y0 y1 hy => ?_⟩
 ·rw [take_snocD W i hi] at hz
  have z0 : 0 <= z := by
   have : z ∈ W := by
    rcases List.mem_append.1 hz with q | q
    ·exact List.mem_of_mem_take q
    ·simp at q; rw [q]; exact getD_mem 0 hi
   have := hW z this; omega
  rw [st z z0]
  rcases List.mem_append.1 hz with q | q
  ·split
   ·rfl
   ·exact h.h1 z q
  ·rw [if_pos (List.mem_singleton.1 q)]
 ·rw [st y (by omega)] at hy
  rw [take_snocD W i hi]
  split at hy
  ·rename_i e; rw [e]; simp
  ·exact List.mem_append.2 (.inl (h.h2 y y0 y1 hy))
def goB (G : Gr) (x : Int) (S : List Bool) (o : Ob) : Bool := decide (o.f1 = 3) && (decide (0 < o.f3.getD 0 0) && (!decide (o.f3.getD 0 0 = x) && (sb S (o.f3.getD 0 0) && decide (0 < o.f3.getD 1 0))))
theorem next_eq {G : Gr} {x : Int} {S : List Bool} {m : Nat} (h2 : (G.obs.getD m default).f1 = 3 -> 2 <= (G.obs.getD m default).f3.length) : nextD (nxG G) (ekG G) x S ((m : Int) + 1) = waysP (G.obs.getD m default) ++ if goB G x S (G.obs.getD m default) = true then [(G.obs.getD m default).f3.getD 1 0] else [] := by
 have hnx : nxG G ((m : Int) + 1) = waysP (G.obs.getD m default) := by
  unfold nxG
  rw [if_neg (by omega)]
  unfold wayOf
  rw [show ((m : Int) + 1 - 1).toNat = m by omega]
 unfold nextD
 rw [hnx]
 congr 1
 unfold ekG goB
 rw [show ((m : Int) + 1 - 1).toNat = m by omega]
 generalize G.obs.getD m default = o at *
 by_cases c : o.f1 = 3
 ·rw [if_pos ⟨c, h2 c⟩]
  simp only
  by_cases q : 0 < o.f3.getD 0 0 /\ o.f3.getD 0 0 ≠ x /\ sb S (o.f3.getD 0 0) = true /\ 0 < o.f3.getD 1 0
  ·rw [if_pos q, if_pos (by rw [decide_eq_true c, decide_eq_true q.1, decide_eq_false q.2.1, q.2.2.1, decide_eq_true q.2.2.2]; rfl)]
  ·rw [if_neg q, if_neg]
   intro e
   simp only [Bool.and_eq_true, decide_eq_true_eq, Bool.not_eq_true', decide_eq_false_iff_not] at e
   exact q ⟨e.2.1, e.2.2.1, e.2.2.2.1, e.2.2.2.2⟩
 ·rw [if_neg (fun q => c q.1), if_neg (by simp [c])]
set_option maxRecDepth 100000 in
set_option maxHeartbeats 16000000 in
theorem rreach_any (g : Gv) (G : Gr) (x : Int) (w : World) (h : GAt w g G) (s : Small G) (R : Rng G) (hE2 : ∀ o ∈ G.obs, o.f1 = 3 -> 2 <= o.f3.length) (hx : 0 <= x) :
  Calls Tryd.prog 64 #[gval g G, .int .i64 x] w fun e w' => ∃ v S, e = .returned v /\ RB w' w.heap.size v S /\ (S.length = G.obs.length + 1 /\ ∀ y : Int, 1 <= y -> y <= (G.obs.length : Int) -> (sb S y = true ↔ Ra (nxG G) (ekG G) x y)) /\ Below w.heap.size w w' := by
 have bd := s.bd
 have hn := bd.n
 have hh : ∀ x ∈ posL (holdP G), 1 <= x /\ x <= (G.obs.length : Int) := fun x hx => by have := hold_rng R x hx; omega
 have H := Lib.hid (nx_ok R hh)
 have K := Lib.hid (ek_ok R)
 have BX := boxed h
 have hfr : ∀ fr ∈ G.slots, fr.length <= 1048576 := fun fr hm => (s.fr fr hm).1
 have RC := Lib.hid (fun (W : World) (hA : GAt W g G) => rroots_any g G x W hA s.hold bd.m hfr)
 have hrl : (rootsP G x).length <= 1048576 := Nat.le_trans (List.length_filter_le _ _) s.hold
 have HRT := Lib.hid (show ∀ z, z ∈ rootsP G x ↔ z ∈ nxG G 0 /\ z ≠ x from fun z => by
  have : nxG G 0 = posL (holdP G) := if_pos rfl
  rw [this]
  unfold rootsP posL
  simp only [List.mem_filter, Bool.and_eq_true, decide_eq_true_eq, Bool.not_eq_true', decide_eq_false_iff_not]
  constructor
  ·rintro ⟨a, b, c⟩; exact ⟨⟨a, b⟩, c⟩
  ·rintro ⟨⟨a, b⟩, c⟩; exact ⟨a, b, c⟩)
 have HRG := Lib.hid (show ∀ z ∈ rootsP G x, 1 <= z /\ z <= (G.obs.length : Int) from fun z hz => H.out.rng 0 z ((HRT.out z).1 hz).1)
 obtain ⟨A0, A1, A2, A3, A4, c0, c1, c2, c3, c4⟩ := g
 unfold gval gcells
 unfold gcells at BX
 unfold gval gcells at RC
 simp only at BX RC ⊢
 go_enter Tryd.func64, Tryd.ntmps64
 go_upto_region 1 with fail
 generalize w.alloc _ = wA at *
 obtain ⟨hX, hB, lA, hA⟩ := BX
 obtain ⟨cA, fA⟩ := blk_at hX
 go_upto_region 2 with (refine make_bools (w0 := wA) wA.heap.size rfl rfl _ _ rfl (G.obs.length + 1) rfl rfl ?h1 (Below.refl _ _) (Nat.le_refl _) ?_; (case h1 => omega); intro v1 w1 hS hb1 hg1 hat1; clear hg1 hat1 cA fA; obtain ⟨gS, cS, rfl, gS0, gS1⟩ := RB_form hS (by simp); simp only [List.length_replicate] at hS ⊢)
 obtain ⟨cA, fA⟩ := blk_at (box_keep hX hb1)
 have RC1 := Lib.hid (RC.out w1 (hA.below hb1))
 have hsz1 := hb1.size
 go_upto_region 3 with (go_at_call 45; refine RC1.out.mono ?_; rintro e w2 ⟨v2, rfl, hR2, hb2'⟩; have hb2 := hb1.trans (hb2'.mono hsz1); have hS2 := Kd.R_below hS hb2'; have hW2 := Kd.R_lower hR2 hsz1)
 have HB0 := Lib.hid (Rb.begin G.obs.length (rootsP G x))
 have HBQ := Lib.hid (fun (S : List Bool) (i : Nat) (hi : (rootsP G x).length <= i) (hb : Rb G.obs.length (rootsP G x) i S) => (by
  have a := hb.h1
  have b := hb.h2
  rw [List.take_of_length_le hi] at a b
  exact Rq.begin H.out HRT.out hb.sl a b : Rq (nxG G) (ekG G) G.obs.length x S))
 clear hS hR2 hb1 hb2' RC RC1 cA fA HRT
 generalize rootsP G x = W0 at *
 generalize List.replicate (G.obs.length + 1) false = S0 at *
 obtain ⟨AW, cW, rfl⟩ := Kd.R_slice hW2
 go_wp2_with fail
 go_loopw [7] (fun iv wx => ∃ (i : Nat) (S : List Bool), i <= W0.length /\ iv = .int .i64 i /\ Hid (Rb G.obs.length W0 i S) /\ RI wx wA.heap.size (.slice AW W0.length cW) W0 /\ RB wx wA.heap.size (.slice (some ⟨gS, 0, none⟩) (G.obs.length + 1) cS) S /\ Below wA.heap.size wA wx) (fun iv _ => W0.length - (intOf iv).toNat)
 case atStart => exact ⟨0, S0, by omega, rfl, HB0, hW2, hS2, hb2⟩
 case round =>
  clear hW2 hS2 hb2 HB0
  obtain ⟨i, S, hi, rfl, HRb, hW, hS, hbr⟩ := hrel
  by_cases hlt : i < W0.length
  ·have dlt : decide ((i : Int) < (W0.length : Int)) = true := decide_eq_true (by omega)
   have i0 : (0 : Int) <= (i : Int) := by omega
   have i1 : (i : Int) < (W0.length : Int) := by omega
   obtain ⟨ad, rfl, hcW⟩ := int_at (Kd.R_reads' hW).2.2 i hlt
   obtain ⟨z0, z1⟩ := HRG.out _ (getD_mem 0 hlt)
   have HS2 := Lib.hid (HRb.out.step HRG.out hlt)
   clear HRb
   generalize W0.getD i 0 = z at *
   obtain ⟨m, rfl⟩ : ∃ m : Nat, z = (m : Int) := ⟨z.toNat, by omega⟩
   rw [Int.toNat_natCast] at HS2
   obtain ⟨cS1, fS1⟩ := RB_cell hS m (by omega)
   have m0 : (0 : Int) <= (m : Int) := by omega
   have m1 : (m : Int) < (G.obs.length : Int) + 1 := by omega
   obtain ⟨tcs, hty⟩ := Kd.R_typed hS gS rfl
   have hS3 := (RB_put hS m true).1
   have hW3 := Kd.R_set hW hty (by decide) m (.bool true)
   have hb3 := hbr.setCell (p := ⟨gS, m, none⟩) gS0 (.bool true)
   clear hty hS hW hbr
   go_wp2_with fail
   go_roundw
   case rel => exact ⟨i + 1, _, by omega, by go_num, HS2, hW3, hS3, hb3⟩
   case measure => simp [intOf]; omega
  ·have dlt : decide ((i : Int) < (W0.length : Int)) = false := decide_eq_false (by omega)
   have HQ := Lib.hid (HBQ.out S i (by omega) HRb.out)
   clear HRb HBQ HRG hW
   go_wp2_with fail
   go_loopg [8] (uo S + 1) (fun kq mv wx => ∃ (S : List Bool) (b : Bool), mv = .bool b /\ Hid (Rq (nxG G) (ekG G) G.obs.length x S) /\ Hid (b = false -> ∀ y : Int, 1 <= y -> y <= (G.obs.length : Int) -> (sb S y = true ↔ Ra (nxG G) (ekG G) x y)) /\ Hid (uo S + (if b then 1 else 0) <= kq) /\ RB wx wA.heap.size (.slice (some ⟨gS, 0, none⟩) (G.obs.length + 1) cS) S /\ Below wA.heap.size wA wx)
   case atStart => exact ⟨S, true, rfl, HQ, Lib.hid (fun e => by cases e), Lib.hid (by simp), hS, hbr⟩
   case round =>
    clear hS hbr HQ
    obtain ⟨S, b, rfl, HQ, HC, HK, hS, hbr⟩ := hrel
    cases b with
    | false =>
     have HE := Lib.hid (HC.out rfl)
     have hsl := HQ.out.sl
     have HSL := Lib.hid hsl
     clear HC HK hsl
     go_wp2_with fail
     go_ret
     exact ⟨_, S, rfl, Kd.R_lower hS (Nat.le_of_lt lA), ⟨HSL.out, HE.out⟩, hB.trans (hbr.mono (Nat.le_of_lt lA))⟩
    | true =>
     obtain ⟨ko, hko⟩ : ∃ ko, ko = gk := ⟨_, rfl⟩
     have HKO := Lib.hid hko
     have HK1 := Lib.hid (show uo S + 1 <= ko from by have := HK.out; rw [hko]; simpa using this)
     have HR0 := Lib.hid (Rr.begin HQ.out)
     clear hko HK HC HQ
     obtain ⟨Sb, hSb⟩ : ∃ Sb, Sb = S := ⟨_, rfl⟩
     rw [<- hSb] at HK1
     have HR1 : Hid (Rr (nxG G) (ekG G) G.obs.length x Sb S 1 false) := by rw [hSb]; exact HR0
     clear hSb HR0
     go_wp2_with fail
     go_loopw [8, 9] (fun mv nv wx => ∃ (n : Nat) (S : List Bool) (b : Bool), 1 <= n /\ n <= G.obs.length + 1 /\ nv = .int .i64 n /\ mv = .bool b /\ Hid (Rr (nxG G) (ekG G) G.obs.length x Sb S n b) /\ RB wx wA.heap.size (.slice (some ⟨gS, 0, none⟩) (G.obs.length + 1) cS) S /\ Below wA.heap.size wA wx) (fun _ nv _ => G.obs.length + 1 - (intOf nv).toNat)
     case atStart => exact ⟨1, S, false, by omega, by omega, by go_num, rfl, HR1, hS, hbr⟩
     case round =>
      clear hS hbr HR1
      obtain ⟨n, S, b, n0, n1, rfl, rfl, HR, hS, hbr⟩ := hrel
      by_cases hln : n < G.obs.length + 1
      ·obtain ⟨m, rfl⟩ : ∃ m : Nat, n = m + 1 := ⟨n - 1, by omega⟩
       have hmN : m < G.obs.length := by omega
       have dlt : decide ((m : Int) + 1 < (G.obs.length : Int) + 1) = true := decide_eq_true (by omega)
       have m0 : (0 : Int) <= (m : Int) := by omega
       have m1 : (m : Int) < (G.obs.length : Int) := by omega
       have m2 : (0 : Int) <= (m : Int) + 1 := by omega
       have m3 : (m : Int) + 1 < (G.obs.length : Int) + 1 := by omega
       obtain ⟨cS1, -⟩ := RB_cell hS (m + 1) (by omega)
       have hsb : sb S ((m + 1 : Nat) : Int) = S.getD (m + 1) false := by unfold sb; rw [Int.toNat_natCast]
       simp only [Int.natCast_add, Int.natCast_one]
       cases hs : S.getD (m + 1) false with
       | false =>
        rw [hs] at cS1
        have HN := Lib.hid (HR.out.skip (by rw [hsb, hs]))
        clear hs hsb HR
        go_wp2_with fail
        go_roundw
        case rel => exact ⟨m + 1 + 1, S, b, by omega, by omega, by go_num, rfl, HN, hS, hbr⟩
        case measure => simp [intOf]; omega
       | true =>
        rw [hs] at cS1
        have hom : G.obs.getD m default ∈ G.obs := getD_mem default hmN
        have hps := (bd.i64 _ hom).1
        have h2o := hE2 _ hom
        have hpr := R.ps _ hom
        have HLE := Lib.hid (next_eq (x := x) (S := S) h2o)
        have HST := Lib.hid (fun (b2 : Bool) (S2 : List Bool) (M : List Int) (hm : More G.obs.length x (nextD (nxG G) (ekG G) x S ((m : Int) + 1)) S S2 M) (e : b2 = true ↔ b = true \/ M ≠ []) => (HR.out.step H.out K.out (by omega) (by omega) (by rw [hsb, hs]) (by rw [show ((m + 1 : Nat) : Int) = (m : Int) + 1 by omega]; exact hm) e : Rr (nxG G) (ekG G) G.obs.length x Sb S2 (m + 1 + 1) b2))
        have hLr : ∀ z ∈ nextD (nxG G) (ekG G) x S ((m : Int) + 1), 1 <= z /\ z <= (G.obs.length : Int) := fun z hz => by
         unfold nextD at hz
         rcases List.mem_append.1 hz with q | q
         ·exact H.out.rng _ z q
         ·split at q
          ·rename_i kk vv ekn
           have kr := K.out.rng _ _ _ ekn
           split at q
           ·rename_i q2
            simp at q
            subst q
            exact ⟨by omega, kr.2.2.2⟩
           ·cases q
          ·cases q
        have HLR := Lib.hid hLr
        have hwl : (waysP (G.obs.getD m default)).length <= 1048576 := Nat.le_trans (by
         unfold waysP
         exact Nat.le_trans (List.length_filter_le _ _) (by simp)) hps
        have hLl : (nextD (nxG G) (ekG G) x S ((m : Int) + 1)).length <= 1048577 := by
         rw [HLE.out, List.length_append]
         split
         ·simp only [List.length_cons, List.length_nil]; omega
         ·simp only [List.length_nil]; omega
        obtain ⟨ad0, P3, p3, P4, p4, e0, j0, j1, j2, j3, j4, l3, C3, l4, C4⟩ := ob_at hA.r0 m hmN
        simp only at e0
        subst e0
        have i0 := cell_later hbr j0
        have i1 := cell_later hbr j1
        have i2 := cell_later hbr j2
        have i3 := cell_later hbr j3
        have i4 := cell_later hbr j4
        have SC := Lib.hid (fun (W : World) (hb : Below wA.heap.size wA W) => rstrong_any (G.obs.getD m default) P3 P4 p3 p4 W (Kd.C_below C3 hb) l3 (Kd.C_below C4 hb) l4 hps)
        have HC3 := Lib.hid C3
        have hsl := HR.out.q.sl
        have HSL := Lib.hid hsl
        clear hs hsb HR hLr j0 j1 j2 j3 j4 C3 C4 hom
        generalize nextD (nxG G) (ekG G) x S ((m : Int) + 1) = L at *
        have HGO := Lib.hid (show goB G x S (G.obs.getD m default) = goB G x S (G.obs.getD m default) from rfl)
        clear HGO
        have hgo : ∃ gb, gb = goB G x S (G.obs.getD m default) := ⟨_, rfl⟩
        obtain ⟨gb, hgb⟩ := hgo
        rw [<- hgb] at HLE
        unfold goB at hgb
        generalize waysP (G.obs.getD m default) = ws at *
        generalize G.obs.getD m default = o at *
        obtain ⟨f0, f1, f2, ps, rs⟩ := o
        simp only at *
        have HGB := Lib.hid hgb
        clear hgb
        have ew : IntKind.i64.wrap ((m : Int) + 1 - 1) = (m : Int) := by rw [IntKind.wrap_i64]; omega
        have ew2 : IntKind.i64.wrap (m : Int) = (m : Int) := w64' (by omega)
        obtain ⟨cA, fA⟩ := blk_at (box_keep hX hbr)
        go_upto_region 15 with fail
        obtain ⟨hz, bz⟩ := boxed_any wr #[.int .u64 f0, .int .i64 f1, .int .i64 f2, .slice P3 ps.length p3, .slice P4 rs.length p4] 59
        have hb5 := hbr.trans (bz.mono hbr.size)
        have hS5 := Kd.R_below hS bz
        generalize wr.alloc (.cells #[.int .u64 f0, .int .i64 f1, .int .i64 f2, .slice P3 ps.length p3, .slice P4 rs.length p4] 59) = w5 at *
        generalize wr.heap.size = bq at *
        clear i0 i1 i2 i3 i4 cS1 cA fA bz hS hbr
        obtain ⟨cz, fz⟩ := blk_at hz
        have SC5 := Lib.hid (SC.out w5 hb5)
        go_upto_region 15 with fail
        go_cut [11] (fun v wx => RI wx w5.heap.size v ws /\ Below w5.heap.size w5 wx)
        case first =>
         clear HST HLE HGB HC3 HLR HSL H K HKO HK1
         go_wp2_with (go_at_call 44; refine SC5.out.mono ?_; rintro e w6 ⟨v6, rfl, hR6', hb6'⟩)
         go_meet
         exact ⟨hR6', hb6'⟩
        case rest =>
         obtain ⟨hR6', hb6'⟩ := hcut
         obtain ⟨w6, hw6⟩ : ∃ w6, w6 = wc := ⟨_, rfl⟩
         subst hw6
         obtain ⟨v6, hv6⟩ : ∃ v6, v6 = u11 := ⟨_, rfl⟩
         subst hv6
         have hb6 := hb5.trans (hb6'.mono hb5.size)
         have hS6 := Kd.R_below hS5 hb6'
         have hR6 := Kd.R_lower hR6' hb5.size
         have hz6 := box_keep hz hb6'
         clear hb5 hS5 hR6' hb6' hz cz fz SC SC5
         obtain ⟨cz, fz⟩ := blk_at hz6
         clear hz6
         have hwsl : ws.length <= 1099511627776 := by omega
         go_upto_region 16 with fail
         go_cut [86] (fun t wx => t = .bool gb /\ w6 = wx)
         case first =>
          by_cases c3 : f1 = 3
          ·have two := h2o c3
           obtain ⟨ap, hP, cp0⟩ := int_at (Kd.C_below HC3.out hb6) 0 (by omega)
           obtain ⟨ap', hP', cp1⟩ := int_at (Kd.C_below HC3.out hb6) 1 (by omega)
           subst hP
           cases hP'
           obtain ⟨r0, r1⟩ := hpr _ (getD_mem (l := ps) 0 (i := 0) (by omega))
           have cp00 : w6.cell? ap = some (.int .i64 (ps.getD 0 0)) := cp0
           have cp11 : w6.cell? ⟨ap.block, ap.off + 1, none⟩ = some (.int .i64 (ps.getD 1 0)) := cp1
           have hgb := HGB.out
           rw [decide_eq_true c3, Bool.true_and] at hgb
           have HGB2 := Lib.hid hgb
           clear cp0 cp1 hgb HGB HC3 hpr
           generalize ps.getD 0 0 = kk at *
           generalize ps.getD 1 0 = vv at *
           obtain ⟨kn, rfl⟩ : ∃ kn : Nat, kk = (kn : Int) := ⟨kk.toNat, by omega⟩
           have z1 : (0 : Int) < (ps.length : Int) := by omega
           have z2 : (1 : Int) < (ps.length : Int) := by omega
           obtain ⟨cSk, -⟩ := RB_cell hS6 kn (by omega)
           have q0 : (0 : Int) <= (kn : Int) := by omega
           have q1 : (kn : Int) < (G.obs.length : Int) + 1 := by omega
           have esb : sb S (kn : Int) = S.getD kn false := by unfold sb; rw [Int.toNat_natCast]
           rw [esb] at HGB2
           clear esb
           subst c3
           by_cases k0 : 0 < kn
           ·have d1 : decide ((0 : Int) < (kn : Int)) = true := decide_eq_true (by omega)
            have d1' : decide (0 < kn) = true := decide_eq_true k0
            by_cases kx : (kn : Int) = x
            ·have HE := Lib.hid (show gb = false by rw [HGB2.out, decide_eq_true kx]; simp)
             have dx : ((kn : Int) == x) = true := by simpa using kx
             have dx2 : ((kn : Int) != x) = false := by simpa using kx
             go_wp2_with fail
             go_meet
             exact ⟨by rw [HE.out], rfl⟩
            ·have dx : ((kn : Int) == x) = false := by simpa using kx
             have dx2 : ((kn : Int) != x) = true := by simpa using kx
             cases hsk : S.getD kn false with
             | false =>
              have HE := Lib.hid (show gb = false by rw [HGB2.out, hsk]; simp)
              rw [hsk] at cSk
              clear hsk
              go_wp2_with fail
              go_meet
              exact ⟨by rw [HE.out], rfl⟩
             | true =>
              by_cases v0 : 0 < vv
              ·have dv : decide ((0 : Int) < vv) = true := decide_eq_true v0
               have HE := Lib.hid (show gb = true by rw [HGB2.out, hsk, d1, dv, decide_eq_false kx]; rfl)
               rw [hsk] at cSk
               clear hsk
               go_wp2_with fail
               go_meet
               exact ⟨by rw [HE.out], rfl⟩
              ·have dv : decide ((0 : Int) < vv) = false := decide_eq_false v0
               have HE := Lib.hid (show gb = false by rw [HGB2.out, hsk, dv]; simp)
               rw [hsk] at cSk
               clear hsk
               go_wp2_with fail
               go_meet
               exact ⟨by rw [HE.out], rfl⟩
           ·have d1 : decide ((0 : Int) < (kn : Int)) = false := decide_eq_false (by omega)
            have d1' : decide (0 < kn) = false := decide_eq_false k0
            have HE := Lib.hid (show gb = false by rw [HGB2.out, d1]; simp)
            obtain rfl : kn = 0 := by omega
            go_wp2_with fail
            go_meet
            exact ⟨by rw [HE.out], rfl⟩
          ·have d3 : (f1 == 3) = false := by rw [beq_eq_false_iff_ne]; exact c3
           have HE := Lib.hid (show gb = false by rw [HGB.out, decide_eq_false c3]; simp)
           go_wp2_with fail
           go_meet
           exact ⟨by rw [HE.out], rfl⟩
         case rest =>
          obtain ⟨rfl, rfl⟩ := hcut
          go_upto_if 86 with fail
          go_cut [11] (fun v wx => RI wx wA.heap.size v L /\ RB wx wA.heap.size (.slice (some ⟨gS, 0, none⟩) (G.obs.length + 1) cS) S /\ Below wA.heap.size wA wx)
          case first =>
           cases gb with
           | true =>
            have hc3 : f1 = 3 := by
             have := HGB.out
             by_cases q : f1 = 3
             ·exact q
             ·rw [decide_eq_false q] at this; cases this
            have two := h2o hc3
            obtain ⟨ap, hP, cp1⟩ := int_at (Kd.C_below HC3.out hb6) 1 (by omega)
            subst hP
            have z2 : (1 : Int) < (ps.length : Int) := by omega
            have cp11 : w6.cell? ⟨ap.block, ap.off + 1, none⟩ = some (.int .i64 (ps.getD 1 0)) := cp1
            have HL1 := Lib.hid (show L = ws ++ [ps.getD 1 0] by rw [HLE.out]; rfl)
            clear cp1 HGB HC3 hpr HLE
            generalize ps.getD 1 0 = vv at *
            go_wp2_with (at_builtin; go_loud (refine app_int (w0 := wA) wA.heap.size rfl _ _ rfl v6 ws vv rfl rfl hR6 hb6 hb6.size hwsl ?_); intro v7 w7 hR7 hb7 hg7 hat7; have hS7 := RB_over hS6 hR6 hg7)
            go_meet
            exact ⟨by rw [HL1.out]; exact hR7, hS7, hb7⟩
           | false =>
            have HL1 := Lib.hid (show L = ws by rw [HLE.out]; simp)
            go_wp2_with fail
            go_meet
            exact ⟨by rw [HL1.out]; exact hR6, hS6, hb6⟩
          case rest =>
           obtain ⟨hRL, hS9, hb9⟩ := hcut
           clear hR6 hS6 hb6 cz fz HLE HC3 HGB hpr h2o
           obtain ⟨AL, cL, rfl⟩ := Kd.R_slice hRL
           go_wp2_with fail
           go_loopw [8, 12] (fun mv kv wx => ∃ (j : Nat) (M : List Int) (S2 : List Bool) (b2 : Bool), j <= L.length /\ kv = .int .i64 j /\ mv = .bool b2 /\ Hid (More G.obs.length x (L.take j) S S2 M) /\ Hid (b2 = true ↔ b = true \/ M ≠ []) /\ RI wx wA.heap.size (.slice AL L.length cL) L /\ RB wx wA.heap.size (.slice (some ⟨gS, 0, none⟩) (G.obs.length + 1) cS) S2 /\ Below wA.heap.size wA wx) (fun _ kv _ => L.length - (intOf kv).toNat)
           case atStart => exact ⟨0, [], S, b, by omega, rfl, rfl, Lib.hid More.nil, Lib.hid (by simp), hRL, hS9, hb9⟩
           case round =>
            clear hRL hS9 hb9
            obtain ⟨j, M, S2, b2, hj, rfl, rfl, HM, HB2, hRL, hS, hbr⟩ := hrel
            by_cases hlj : j < L.length
            ·have dlj : decide ((j : Int) < (L.length : Int)) = true := decide_eq_true (by omega)
             have j0 : (0 : Int) <= (j : Int) := by omega
             have j1 : (j : Int) < (L.length : Int) := by omega
             obtain ⟨al, rfl, hcL⟩ := int_at (Kd.R_reads' hRL).2.2 j hlj
             obtain ⟨z0, z1⟩ := HLR.out _ (getD_mem 0 hlj)
             have HTK := Lib.hid (take_snocD L j hlj)
             generalize L.getD j 0 = z at *
             obtain ⟨zn, rfl⟩ : ∃ zn : Nat, z = (zn : Int) := ⟨z.toNat, by omega⟩
             obtain ⟨cSz, fSz⟩ := RB_cell hS zn (by omega)
             have q0 : (0 : Int) <= (zn : Int) := by omega
             have q1 : (zn : Int) < (G.obs.length : Int) + 1 := by omega
             have esb : sb S2 (zn : Int) = S2.getD zn false := by unfold sb; rw [Int.toNat_natCast]
             have HESB := Lib.hid esb
             clear esb
             by_cases zx : (zn : Int) = x
             ·have dx : ((zn : Int) == x) = true := by simpa using zx
              have dx2 : ((zn : Int) != x) = false := by simpa using zx
              have HM2 := Lib.hid (show More G.obs.length x (L.take (j + 1)) S S2 M by rw [HTK.out]; exact HM.out.skip HSL.out z1 (fun q => q.2.2 zx))
              have HZX := Lib.hid zx
              clear zx
              go_wp2_with fail
              go_roundw
              case rel => exact ⟨j + 1, M, S2, b2, by omega, by go_num, rfl, HM2, HB2, hRL, hS, hbr⟩
              case measure => simp [intOf]; omega
             ·have dx : ((zn : Int) == x) = false := by simpa using zx
              have dx2 : ((zn : Int) != x) = true := by simpa using zx
              cases hs2 : S2.getD zn false with
              | true =>
               rw [hs2] at cSz
               have HM2 := Lib.hid (show More G.obs.length x (L.take (j + 1)) S S2 M by rw [HTK.out]; exact HM.out.skip HSL.out z1 (fun q => by rw [HESB.out, hs2] at q; cases q.2.1))
               clear hs2
               go_wp2_with fail
               go_roundw
               case rel => exact ⟨j + 1, M, S2, b2, by omega, by go_num, rfl, HM2, HB2, hRL, hS, hbr⟩
               case measure => simp [intOf]; omega
              | false =>
               rw [hs2] at cSz
               have HM2 := Lib.hid (show More G.obs.length x (L.take (j + 1)) S (S2.set zn true) (M ++ [(zn : Int)]) by
                rw [HTK.out]
                have := HM.out.add HSL.out z1 ⟨by omega, by rw [HESB.out, hs2], zx⟩
                rwa [Int.toNat_natCast] at this)
               obtain ⟨tcs, hty⟩ := Kd.R_typed hS gS rfl
               have hS3 := (RB_put hS zn true).1
               have hL3 := Kd.R_set hRL hty (by decide) zn (.bool true)
               have hb3 := hbr.setCell (p := ⟨gS, zn, none⟩) gS0 (.bool true)
               clear hs2 hty hS hRL hbr
               go_wp2_with fail
               go_roundw
               case rel => exact ⟨j + 1, M ++ [(zn : Int)], _, true, by omega, by go_num, rfl, HM2, Lib.hid (by simp), hL3, hS3, hb3⟩
               case measure => simp [intOf]; omega
            ·have dlj : decide ((j : Int) < (L.length : Int)) = false := decide_eq_false (by omega)
             have hmm := HM.out
             rw [List.take_of_length_le (by omega)] at hmm
             have HN := Lib.hid (HST.out b2 S2 M hmm HB2.out)
             clear hmm HM HB2 HST
             go_wp2_with fail
             go_roundw
             case rel => exact ⟨m + 1 + 1, S2, b2, by omega, by omega, by go_num, rfl, HN, hS, hbr⟩
             case measure => simp [intOf]; omega
      ·obtain rfl : n = G.obs.length + 1 := by omega
       have HB := Lib.hid HR.out
       have dlt : decide ((G.obs.length : Int) + 1 < (G.obs.length : Int) + 1) = false := decide_eq_false (by omega)
       clear HR
       go_wp2_with fail
       go_roundg (uo S + (if b then 1 else 0))
       case measure =>
        have a := HKO.out
        have c := HK1.out
        have d := HB.out.le
        have e := HB.out.prog
        unfold uo at *
        cases b with
        | false => simp; omega
        | true => have := e rfl; simp; omega
       case rel => exact ⟨S, b, rfl, Lib.hid HB.out.q, Lib.hid (fun e => by subst e; exact HB.out.over H.out K.out), Lib.hid (Nat.le_refl _), hS, hbr⟩
end
section
set_option maxRecDepth 100000 in
set_option maxHeartbeats 8000000 in
theorem rsum_any (g : Gv) (G : Gr) (w : World) (h : GAt w g G) (s : Small G) (gS cS B : Nat) (S : List Bool) (hS : RB w B (.slice (some ⟨gS, 0, none⟩) (G.obs.length + 1) cS) S) :
  Calls Tryd.prog 65 #[gval g G, .slice (some ⟨gS, 0, none⟩) (G.obs.length + 1) cS] w fun e w' => e = .returned (.int .i64 (sumB G S G.obs.length)) /\ Below w.heap.size w w' := by
 have bd := s.bd
 have hn := bd.n
 have BX := boxed h
 have SB := Lib.hid (fun i => sumB_bd bd S i)
 obtain ⟨A0, A1, A2, A3, A4, c0, c1, c2, c3, c4⟩ := g
 unfold gval gcells
 unfold gcells at BX
 simp only at BX ⊢
 go_enter Tryd.func65, Tryd.ntmps65
 go_upto_region 1 with fail
 generalize w.alloc _ = wA at *
 obtain ⟨hX, hB, lA, hA⟩ := BX
 have hS1 := Kd.R_below hS hB
 clear hS
 obtain ⟨cA, fA⟩ := blk_at hX
 go_wp2_with fail
 go_loopw [5, 6] (fun nv iv wx => ∃ (i : Nat) (x : Int) (m : Nat), i <= G.obs.length /\ iv = .int .i64 ((i : Int) + 1) /\ nv = .int .i64 x /\ Hid (sumB G S i = x) /\ wx = wA.drewN m) (fun _ iv _ => G.obs.length + 1 - (intOf iv).toNat)
 case atStart => exact ⟨0, 0, 0, by omega, rfl, rfl, Lib.hid rfl, rfl⟩
 case round =>
  clear cA fA
  obtain ⟨i, x, m, hi, rfl, rfl, HX, rfl⟩ := hrel
  have hbr : Below wA.heap.size wA (wA.drewN m) := below_drN (Below.refl _ _) m
  by_cases hlt : i < G.obs.length
  ·have dlt : decide ((i : Int) + 1 < (G.obs.length : Int) + 1) = true := decide_eq_true (by omega)
   have i0 : (0 : Int) <= (i : Int) := by omega
   have i1 : (i : Int) < (G.obs.length : Int) := by omega
   have i2 : (0 : Int) <= (i : Int) + 1 := by omega
   have i3 : (i : Int) + 1 < (G.obs.length : Int) + 1 := by omega
   obtain ⟨ad0, P3, p3, P4, p4, e0, j0, j1, j2, j3, j4, l3, C3, l4, C4⟩ := ob_at hA.r0 i hlt
   simp only at e0
   subst e0
   have k3 := j3
   have k4 := j4
   have hom := bd.i64 _ (getD_mem (l := G.obs) default hlt)
   have hw : wsG G ((i : Int) + 1) = 2 + ((G.obs.getD i default).f3.length : Int) + ((G.obs.getD i default).f4.length : Int) := by unfold wsG; rw [show ((i : Int) + 1 - 1).toNat = i by omega]
   have HE1 := Lib.hid (show S.getD (i + 1) false = true -> sumB G S (i + 1) = x + 2 + ((G.obs.getD i default).f3.length : Int) + ((G.obs.getD i default).f4.length : Int) from fun q => by
    show sumB G S i + _ = _
    rw [if_pos q, HX.out, hw]
    omega)
   have HE2 := Lib.hid (show S.getD (i + 1) false = false -> sumB G S (i + 1) = x from fun q => by
    show sumB G S i + _ = _
    rw [if_neg (by rw [q]; decide), HX.out, Int.add_zero])
   have hx : 0 <= x /\ x <= 2199025352704 := by have a := SB.out i; rw [HX.out] at a; omega
   obtain ⟨hcS, -⟩ := RB_cell hS1 (i + 1) (by omega)
   obtain ⟨cA, fA⟩ := blk_at hX
   clear j0 j1 j2 j3 j4 C3 C4 hw HX
   generalize G.obs.getD i default = o at *
   obtain ⟨f0, f1, f2, ps, rs⟩ := o
   simp only at *
   obtain ⟨o3, o4⟩ := hom
   have ew : IntKind.i64.wrap ((i : Int) + 1 - 1) = (i : Int) := by rw [IntKind.wrap_i64]; omega
   have ew2 : IntKind.i64.wrap (i : Int) = (i : Int) := w64' (by omega)
   have e1 : IntKind.i64.wrap (x + 2) = x + 2 := by rw [IntKind.wrap_i64]; omega
   have e2 : IntKind.i64.wrap (x + 2 + (ps.length : Int)) = x + 2 + (ps.length : Int) := by rw [IntKind.wrap_i64]; omega
   have e3 : IntKind.i64.wrap (x + 2 + (ps.length : Int) + (rs.length : Int)) = x + 2 + (ps.length : Int) + (rs.length : Int) := by rw [IntKind.wrap_i64]; omega
   cases hs : S.getD (i + 1) false with
   | false =>
    rw [hs] at hcS
    have HE := Lib.hid (HE2.out hs)
    clear hs HE1 HE2
    go_wp2_with fail
    go_roundw
    case rel => exact ⟨i + 1, x, m, by omega, by go_num, rfl, HE, rfl⟩
    case measure => simp [intOf]; omega
   | true =>
    rw [hs] at hcS
    have HE := Lib.hid (HE1.out hs)
    clear hs HE1 HE2
    go_upto_region 6 with fail
    go_quiet (fail)
    go_wp2_with fail
    go_roundw
    case rel => exact ⟨i + 1, _, _, by omega, by go_num, rfl, HE, rfl⟩
    case measure => simp [intOf]; omega
  ·have dlt : decide ((i : Int) + 1 < (G.obs.length : Int) + 1) = false := decide_eq_false (by omega)
   obtain rfl : i = G.obs.length := by omega
   go_wp2_with fail
   go_ret
   exact ⟨ret_int HX.out.symm, hB.trans (hbr.mono hB.size)⟩
structure RtQ (G : Gr) (i : Nat) (l : List Int) : Prop where
 len : l.length = i
 no : ∀ x : Int, 1 <= x -> x <= (i : Int) -> ¬ Ra (nxG G) (ekG G) (-1) x -> l.getD (x - 1).toNat 0 = 0
 yes : ∀ x : Int, 1 <= x -> x <= (i : Int) -> Ra (nxG G) (ekG G) (-1) x -> l.getD (x - 1).toNat 0 = wsum (wsG G) (Ra (nxG G) (ekG G) (-1)) G.obs.length - wsum (wsG G) (Ra (nxG G) (ekG G) x) G.obs.length
theorem RtQ.nil (G : Gr) : RtQ G 0 [] := ⟨rfl, fun x _ _ _ => by simp, fun x _ _ _ => by omega⟩
theorem getD_snoc {l : List Int} {k : Nat} {y : Int} : (l ++ [y]).getD k 0 = if k < l.length then l.getD k 0 else if k = l.length then y else 0 := by
 rw [List.getD_eq_getElem?_getD, List.getElem?_append]
 by_cases c : k < l.length
 ·rw [if_pos c, if_pos c, <- List.getD_eq_getElem?_getD]
 ·rw [if_neg c, if_neg c]
  by_cases e : k = l.length
  ·subst e; simp
  ·rw [if_neg e, List.getElem?_eq_none (by simp; omega)]; rfl
theorem RtQ.add {G : Gr} {i : Nat} {l : List Int} (h : RtQ G i l) {y : Int} (h1 : ¬ Ra (nxG G) (ekG G) (-1) ((i : Int) + 1) -> y = 0) (h2 : Ra (nxG G) (ekG G) (-1) ((i : Int) + 1) -> y = wsum (wsG G) (Ra (nxG G) (ekG G) (-1)) G.obs.length - wsum (wsG G) (Ra (nxG G) (ekG G) ((i : Int) + 1)) G.obs.length) : RtQ G (i + 1) (l ++ [y]) := by
 have hl := h.len
 refine ⟨by simp [hl], fun x x0 x1 hx => ?_, fun x x0 x1 hx => ?_⟩
 ·rw [getD_snoc]
  by_cases e : x = (i : Int) + 1
  ·rw [if_neg (by omega), if_pos (by omega)]
   exact h1 (by rw [<- e]; exact hx)
  ·rw [if_pos (by omega)]; exact h.no x x0 (by omega) hx
 ·rw [getD_snoc]
  by_cases e : x = (i : Int) + 1
  ·rw [if_neg (by omega), if_pos (by omega), e]
   exact h2 (by rw [<- e]; exact hx)
  ·rw [if_pos (by omega)]; exact h.yes x x0 (by omega) hx
theorem RtQ.over {G : Gr} {l : List Int} (h : RtQ G G.obs.length l) : RetL (nxG G) (ekG G) G.obs.length (wsG G) l := ⟨h.len, h.no, h.yes⟩
set_option maxRecDepth 100000 in
set_option maxHeartbeats 8000000 in
theorem rret_bad (g : Gv) (G : Gr) (w : World) (h : GAt w g G) (s : Small G) (hok : okB G = false) :
  Calls Tryd.prog 20 #[gval g G] w fun e w' => e = .returned (.tuple #[nilS, .int .i64 171]) /\ Below w.heap.size w w' := by
 obtain ⟨A0, A1, A2, A3, A4, c0, c1, c2, c3, c4⟩ := g
 have CK := Lib.hid (fun (W : World) (hb : Below w.heap.size w W) => rcheck16_any ⟨A0, A1, A2, A3, A4, c0, c1, c2, c3, c4⟩ G W (h.below hb) s)
 have BX := boxed h
 unfold gval gcells at *
 simp only at BX CK ⊢
 rw [hok] at CK
 clear hok
 go_enter Tryd.func20, Tryd.ntmps20
 go_upto_region 1 with fail
 generalize w.alloc _ = wA at *
 obtain ⟨hX, hB, lA, hA⟩ := BX
 obtain ⟨cA, fA⟩ := blk_at hX
 go_wp2_with (go_at_call 43; refine (CK.out _ hB).mono ?_; rintro e w2 ⟨rfl, hb2⟩)
 go_ret2
 exact ⟨rfl, hB.trans (hb2.mono hB.size)⟩
set_option maxRecDepth 100000 in
set_option maxHeartbeats 16000000 in
theorem rret_good (g : Gv) (G : Gr) (w : World) (h : GAt w g G) (s : Small G) (hok : okB G = true) :
  Calls Tryd.prog 20 #[gval g G] w fun e w' => Told e w' w.heap.size (RetL (nxG G) (ekG G) G.obs.length (wsG G)) /\ Below w.heap.size w w' := by
 have R := rng_ok hok
 have h2 := eph_two hok
 have bd := s.bd
 have hn := bd.n
 have hh : ∀ x ∈ posL (holdP G), 1 <= x /\ x <= (G.obs.length : Int) := fun x hx => by have := hold_rng R x hx; omega
 have H := Lib.hid (nx_ok R hh)
 have K := Lib.hid (ek_ok R)
 have hwb : ∀ p, 0 <= wsum (wsG G) p G.obs.length /\ wsum (wsG G) p G.obs.length <= 2199025352704 := fun p => by
  have := wsum_bd (f := wsG G) (p := p) (B := 2097154) (fun y => wsG_bd bd y) (m := G.obs.length)
  omega
 have WB := Lib.hid hwb
 have sums : ∀ (S : List Bool) (d : Int), (∀ y : Int, 1 <= y -> y <= (G.obs.length : Int) -> (sb S y = true ↔ Ra (nxG G) (ekG G) d y)) -> sumB G S G.obs.length = wsum (wsG G) (Ra (nxG G) (ekG G) d) G.obs.length := fun S d hS => by
  rw [sumB_eq]
  exact wsum_congr hS
 have SUM := Lib.hid sums
 obtain ⟨A0, A1, A2, A3, A4, c0, c1, c2, c3, c4⟩ := g
 have CK := Lib.hid (fun (W : World) (hb : Below w.heap.size w W) => rcheck16_any ⟨A0, A1, A2, A3, A4, c0, c1, c2, c3, c4⟩ G W (h.below hb) s)
 have RR := Lib.hid (fun (W : World) (hb : Below w.heap.size w W) (x : Int) (hx : 0 <= x) => rreach_any ⟨A0, A1, A2, A3, A4, c0, c1, c2, c3, c4⟩ G x W (h.below hb) s R h2 hx)
 have SU := Lib.hid (fun (W : World) (hb : Below w.heap.size w W) (gS cS B : Nat) (S : List Bool) (hS : RB W B (.slice (some ⟨gS, 0, none⟩) (G.obs.length + 1) cS) S) => rsum_any ⟨A0, A1, A2, A3, A4, c0, c1, c2, c3, c4⟩ G W (h.below hb) s gS cS B S hS)
 have BX := boxed h
 unfold gval gcells at *
 simp only at BX CK RR SU ⊢
 rw [hok] at CK
 clear hok hwb sums
 go_enter Tryd.func20, Tryd.ntmps20
 go_upto_region 1 with fail
 generalize w.alloc _ = wA at *
 obtain ⟨hX, hB, lA, hA⟩ := BX
 obtain ⟨cA, fA⟩ := blk_at hX
 go_upto_region 4 with (go_at_call 43; refine (CK.out _ hB).mono ?_; rintro e w2 ⟨rfl, hb2⟩; clear cA fA; obtain ⟨cA, fA⟩ := blk_at (box_keep hX (hb2)); have hB2 := hB.trans (hb2.mono hB.size))
 go_upto_region 5 with (go_at_call 64; refine (RR.out _ hB2 0 (by omega)).mono ?_; rintro e w3 ⟨v3, S, rfl, hS3, hsp, hb3⟩)
 obtain ⟨hsl, hsp⟩ := hsp
 have HSP := Lib.hid (show ∀ y : Int, 1 <= y -> y <= (G.obs.length : Int) -> (sb S y = true ↔ Ra (nxG G) (ekG G) (-1) y) from fun y y0 y1 => (hsp y y0 y1).trans (Ra.zero H.out K.out))
 obtain ⟨gS, cS, rfl, gS0, gS1⟩ := RB_form hS3 (by omega)
 rw [hsl] at hS3 ⊢
 have hb23 := hb2.trans (hb3.mono hb2.size)
 have hB3 := hB.trans (hb23.mono hB.size)
 have SU3 := Lib.hid (SU.out w3 hB3 gS cS _ S hS3)
 have hS30 := Kd.R_lower hS3 (show wA.heap.size <= w2.heap.size from hb2.size)
 clear cA fA hsp hsl hS3 hb2 hb3 hB2 CK
 obtain ⟨cA, fA⟩ := blk_at (box_keep hX hb23)
 go_upto_region 6 with (go_at_call 65; refine SU3.out.mono ?_; rintro e w4 ⟨rfl, hb4⟩)
 have hb24 := hb23.trans (hb4.mono hb23.size)
 have hS4 := Kd.R_below hS30 hb4
 have HX1 := Lib.hid (SUM.out S (-1) HSP.out)
 clear cA fA hb23 hB3 hb4 hS30 SU3
 have hxb := (WB.out (Ra (nxG G) (ekG G) (-1)))
 rw [<- HX1.out] at hxb
 obtain ⟨x, hx⟩ : ∃ x, x = sumB G S G.obs.length := ⟨_, rfl⟩
 rw [<- hx] at hxb HX1 ⊢
 clear hx
 go_wp2_with fail
 go_loopw [7, 8] (fun lv nv wx => ∃ (i : Nat) (l : List Int), i <= G.obs.length /\ nv = .int .i64 ((i : Int) + 1) /\ Hid (RtQ G i l) /\ l.length <= 1048576 /\ RI wx wA.heap.size lv l /\ RB wx wA.heap.size (.slice (some ⟨gS, 0, none⟩) (G.obs.length + 1) cS) S /\ Below wA.heap.size wA wx) (fun _ nv _ => G.obs.length + 1 - (intOf nv).toNat)
 case atStart => exact ⟨0, [], by omega, rfl, Lib.hid (RtQ.nil G), by simp, RI_nil _ _, hS4, hb24⟩
 case round =>
  clear hS4 hb24
  obtain ⟨i, l, hi, rfl, HQ, hll, hL, hS, hbr⟩ := hrel
  obtain ⟨cA, fA⟩ := blk_at (box_keep hX hbr)
  by_cases hlt : i < G.obs.length
  ·have dlt : decide ((i : Int) + 1 <= (G.obs.length : Int)) = true := decide_eq_true (by omega)
   have i2 : (0 : Int) <= (i : Int) + 1 := by omega
   have i3 : (i : Int) + 1 < (G.obs.length : Int) + 1 := by omega
   obtain ⟨hcS, -⟩ := RB_cell hS (i + 1) (by omega)
   have hsb : sb S ((i : Int) + 1) = S.getD (i + 1) false := by unfold sb; rw [show ((i : Int) + 1).toNat = i + 1 by omega]
   have HSB := Lib.hid hsb
   clear hsb
   cases hs : S.getD (i + 1) false with
   | false =>
    rw [hs] at hcS
    have HN := Lib.hid (HQ.out.add (y := 0) (fun _ => rfl) (fun q => by have := (HSP.out ((i : Int) + 1) (by omega) (by omega)).2 q; rw [HSB.out, hs] at this; cases this))
    have HLL := Lib.hid (show (l ++ [(0 : Int)]).length <= 1048576 by have := HN.out.len; omega)
    clear hs
    go_wp2_with (at_builtin; go_loud (refine app_int (w0 := wA) wA.heap.size rfl _ _ rfl u7 l 0 rfl rfl hL hbr hbr.size ?h3 ?_); (case h3 => omega); intro v9 w9 hR9 hb9 hg9 hat9; have hS9 := RB_over hS hL hg9)
    go_roundw
    case rel => exact ⟨i + 1, _, by omega, by go_num, HN, HLL.out, hR9, hS9, hb9⟩
    case measure => simp [intOf]; omega
   | true =>
    rw [hs] at hcS
    have hra := (HSP.out ((i : Int) + 1) (by omega) (by omega)).1 (by rw [HSB.out, hs])
    have HN := Lib.hid (HQ.out.add (y := x - wsum (wsG G) (Ra (nxG G) (ekG G) ((i : Int) + 1)) G.obs.length) (fun q => absurd hra q) (fun _ => by rw [HX1.out]))
    have yb := WB.out (Ra (nxG G) (ekG G) ((i : Int) + 1))
    have RR6 := Lib.hid (RR.out wr (hB.trans (hbr.mono hB.size)) ((i : Int) + 1) (by omega))
    clear hs hra HQ
    go_upto_region 13 with (go_at_call 64; refine RR6.out.mono ?_; rintro e w7 ⟨v7, S2, rfl, hS7, hsp7, hb7⟩)
    obtain ⟨hl7, hr7⟩ := hsp7
    obtain ⟨g7, c7, rfl, -, -⟩ := RB_form hS7 (by omega)
    rw [hl7] at hS7 ⊢
    have E8 := Lib.hid (SUM.out S2 _ hr7)
    have hbb := hbr.trans (hb7.mono hbr.size)
    have SU7 := Lib.hid (SU.out w7 (hB.trans (hbb.mono hB.size)) g7 c7 _ S2 hS7)
    rw [E8.out] at SU7
    have hL7 := Kd.R_below hL hb7
    have hS77 := Kd.R_below hS hb7
    clear hl7 hr7 hS7 hcS hL hS cA fA RR6
    obtain ⟨cA, fA⟩ := blk_at (box_keep hX hbb)
    generalize wsum (wsG G) (Ra (nxG G) (ekG G) ((i : Int) + 1)) G.obs.length = y at *
    go_upto_region 14 with (go_at_call 65; refine SU7.out.mono ?_; rintro e w8 ⟨rfl, hb8⟩)
    have hb88 := hbb.trans (hb8.mono hbb.size)
    have hL8 := Kd.R_below hL7 hb8
    have hS8 := Kd.R_below hS77 hb8
    have HLL := Lib.hid (show (l ++ [x - y]).length <= 1048576 by have := HN.out.len; omega)
    clear hL7 hS77 hbb hbr cA fA
    go_wp2_with (at_builtin; go_loud (refine app_int (w0 := wA) wA.heap.size rfl _ _ rfl u7 l (x - y) rfl rfl hL8 hb88 hb88.size ?h3 ?_); (case h3 => omega); intro v9 w9 hR9 hb9 hg9 hat9; have hS9 := RB_over hS8 hL8 hg9)
    go_roundw
    case rel => exact ⟨i + 1, _, by omega, by go_num, HN, HLL.out, hR9, hS9, hb9⟩
    case measure => simp [intOf]; omega
  ·have dlt : decide ((i : Int) + 1 <= (G.obs.length : Int)) = false := decide_eq_false (by omega)
   obtain rfl : i = G.obs.length := by omega
   have HE := Lib.hid HQ.out.over
   clear HQ
   go_wp2_with fail
   go_ret2
   exact ⟨⟨_, l, rfl, Kd.R_lower hL (Nat.le_of_lt lA), HE.out⟩, hB.trans (hbr.mono hB.size)⟩
end
end Go.Proofs.YtogpgkoelplknaaDoor
end
