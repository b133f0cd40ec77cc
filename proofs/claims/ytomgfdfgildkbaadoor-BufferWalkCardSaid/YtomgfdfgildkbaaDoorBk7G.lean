/- BufferWalk: `whole`: eden's walk meets just what was put, as it was written last; rests lie off it. No condition. -/
import Derived.Test.YtomgfdfgildkbaaDoorBk6G
import Derived.Deep.QuietTactic
import Derived.BigQuiet
namespace Go.Proofs.YtomgfdfgildkbaaDoor
open Go.RowKit Go.BigFrame
set_option linter.unusedVariables false
theorem count_take_succ (l : List Int) (a : Int) {k : Nat} (hk : k < l.length) : (l.take (k + 1)).count a = (l.take k).count a + (if l.getD k 0 = a then 1 else 0) := by
  rw [List.take_succ_eq_append_getElem hk, List.count_append, List.getD_eq_getElem?_getD, List.getElem?_eq_getElem hk]
  simp only [Option.getD_some, List.count_cons, List.count_nil, Nat.zero_add, beq_iff_eq]
set_option maxRecDepth 100000 in
set_option maxHeartbeats 16000000 in
theorem whole_any13 (x D : Nat) (G : Wg) (w : World) (tb : Tab w) (h : WoAt w x D G) :
    Calls Tryd.prog 65 #[.pointer (some ⟨x, 0, none⟩)] w fun e w' => e = .returned (.bool true) ∧ Below w.heap.size w w' := by
  have hA := h.pair.hA
  have ok := h.pair.okA
  obtain ⟨Ls, E⟩ := h.eden
  have WK := Lib.hid (walk13_any x D G w tb h)
  have LI := Lib.hid (fun (q : Lt) (hq : q ∈ G.Q) => E.lies ok hq)
  have CN := Lib.hid (fun (q : Lt) (hq : q ∈ G.Q) => E.count ok hq)
  have PT := Lib.hid (fun (q : Lt) (hq : q ∈ G.Q) (k : Nat) (hk : (k : Int) < q.hd.ptrs) => E.ptr ok hq hk)
  have RW := Lib.hid (fun (q : Lt) (hq : q ∈ G.Q) (k : Nat) (hk : k < q.rs.length) => E.raw ok hq hk)
  have T1 := Lib.hid (fun (t : Nat) (ht : t < G.n) => told_one E (h.is ht))
  have OF := Lib.hid (fun (q : Lt) (hq : q ∈ G.Q) (t : Nat) (ht : t < G.n) (hp : 0 < (G.B.told t).2) => (show q.at_ + (2 + q.hd.ptrs + q.hd.raws) ≤ (G.B.told t).1 ∨ (G.B.told t).1 + (G.B.told t).2 ≤ q.at_ by
    rcases told_cases G.B (h.is ht) with ⟨e, q2⟩ | ⟨e, q2⟩
    · rw [q2] at hp; exact absurd hp (by decide)
    · rw [q2] at hp ⊢; exact E.off hq (h.is ht) hp))
  have hlen : (G.A.objs 1).length = G.Q.length := by
    have := (E.addrs ok).length_eq
    simpa using this
  have hql := E.len ok
  have HDC := Lib.hid (fun (at_ : Int) (W : World) (hb : Below w.heap.size w W) => head_any G.a G.wb G.A at_ W (tb.below hb) (hA.below hb) ok)
  have PC := Lib.hid (fun (at_ i : Int) (W : World) (hb : Below w.heap.size w W) => ptr_any G.a G.wb G.A at_ i W (tb.below hb) (hA.below hb) ok)
  have RC := Lib.hid (fun (at_ i : Int) (W : World) (hb : Below w.heap.size w W) => raw_any G.a G.wb G.A at_ i W (tb.below hb) (hA.below hb) ok)
  have RSC := Lib.hid (fun (t : Int) (W : World) (hb : Below w.heap.size w W) => rest_any G.b G.rb G.B t W (h.pair.hB.below hb) h.pair.okB)
  have RR := Lib.hid (fun (W : World) (hb : Below w.heap.size w W) => rests_any x D G W (h.below hb))
  have HL := Lib.hid (fun (W : World) (hb : Below w.heap.size w W) => h.lds.below hb)
  have tz := (ok.top_le 1).2.2
  have bd := h.bd
  have hx := h.hx
  have HX := Lib.hid (fun (W : World) (hb : Below w.heap.size w W) => hcell ((hb.block _ (lt_of_heap hx)).trans hx))
  unfold Wg.cells at HX
  obtain ⟨pq, cq, hvq⟩ := row_form h.lds.row
  have b0 := Below.refl w.heap.size w
  have lx := lt_of_heap hx
  clear E hx tb hA
  rw [hvq] at HX HL
  have HLe := Lib.hid hlen
  clear hvq h hlen
  generalize htp : G.A.top 1 = tp at *
  have HTP := Lib.hid htp
  clear htp
  generalize hL : (G.A.objs 1).map (·.1) = L at *
  have hLl : L.length = G.Q.length := by rw [← hL, List.length_map, HLe.out]
  have HLL := Lib.hid hL
  clear hL
  generalize hQ : G.Q = Q at *
  generalize G.B = B at *
  generalize G.n = n at *
  generalize G.a = a at *
  generalize G.b = b at *
  generalize hAA : G.A = A at *
  clear hQ hAA
  generalize G.wb = wb at *
  obtain ⟨n1, n8⟩ := bd
  obtain ⟨cX, fX⟩ := HX.out _ b0
  go_enter Tryd.func65, Tryd.ntmps65
  go_wp2_with fail
  refine WK.out.mono ?_
  rintro e w2 ⟨vl, rfl, hr, hq⟩
  rw [HLe.out] at hr
  rw [show ((A.objs 1).map fun x => Value.int .i64 x.1) = L.map (Value.int .i64) by rw [← HLL.out, List.map_map]; rfl] at hr
  obtain ⟨p, cap, rfl⟩ := row_form hr
  have HR := Lib.hid (fun (W : World) (hb : Below w2.heap.size w2 W) => ownsRow_heap (w' := W) hr (fun k hk => hb.block k (hr.lt k hk).2))
  have hb2 := b0.trans hq
  clear cX fX hq WK hr
  obtain ⟨cX, fX⟩ := HX.out _ hb2
  have dne : ((Q.length : Int) != (Q.length : Int)) = false := by simp
  have hL0 := hLl
  have HLl := Lib.hid hLl
  clear hLl hL0
  go_wp2_with fail
  go_loopw [5] (fun iv wx => ∃ i : Nat, i ≤ Q.length ∧ iv = .int .i64 i ∧ Below w2.heap.size w2 wx) (fun iv _ => Q.length - (intOf iv).toNat)
  case atStart => exact ⟨0, by omega, rfl, Below.refl _ _⟩
  case round =>
    clear cX fX
    obtain ⟨i, hi, rfl, hbi⟩ := hrel
    have hb3 := hb2.trans (hbi.mono hb2.size)
    obtain ⟨cX, fX⟩ := HX.out _ hb3
    by_cases hlt : i < Q.length
    · have dlt : decide (i < Q.length) = true := by simpa using hlt
      have dlt2 : decide ((i : Int) < (Q.length : Int)) = true := by simpa using hlt
      have hTr := HL.out wr hb3
      obtain ⟨g, cap', e1⟩ := hTr.form (by omega)
      cases e1
      have hRr := HR.out wr hbi
      obtain ⟨g2, cap2, e2, -, -⟩ := hRr.form (by omega)
      cases e2
      have zc := fun j (hj : j < 9) => hTr.cell (i := i) hlt hj
      have hm := lt_mem hlt
      generalize hq : Q.getD i lt0 = q at *
      clear hq
      have li := LI.out q hm
      have cn := CN.out q hm
      have PP := Lib.hid (PT.out q hm)
      have RR2 := Lib.hid (RW.out q hm)
      have OO := Lib.hid (OF.out q hm)
      have HLQ := Lib.hid (fun (W : World) (hb : Below w.heap.size w W) (k : Nat) (hk : k < q.rs.length) => (HL.out W hb).rcell hm hk)
      obtain ⟨qat, ⟨x0, x1, x2, x3, x4, x5, x6⟩, rs, rb⟩ := q
      simp only at li cn PP RR2 OO HLQ
      have np : x2 ≤ 4095 := by have := li.fine.p1; simpa using this
      have np0 : 0 ≤ x2 := by have := li.fine.p0; simpa using this
      have nr0 : 0 ≤ x3 := by have := li.fine.r0; simpa using this
      have nr1 : x3 ≤ 65535 := by have := li.fine.r1; simpa using this
      have nrs : (rs.length : Int) = x3 := by have := li.nr; simpa using this
      have NRS := Lib.hid nrs
      have nrl : rs.length ≤ 65535 := by omega
      have qlo : 1 ≤ qat := li.lo
      have qhi : qat + (2 + x2 + x3) ≤ tp := by have := li.hi; rw [HTP.out] at this; exact this
      have hob := li.obj
      have hhd := li.hd
      simp only at hob hhd
      have HC0 := fun (W : World) (hb : Below w.heap.size w W) => HDC.out qat W hb
      rw [hob, hhd] at HC0
      unfold Hd.val at HC0
      simp only at HC0
      have HCC := Lib.hid HC0
      have CNN := Lib.hid cn
      have i0 : (0 : Int) ≤ (i : Int) := Int.natCast_nonneg _
      have i1 : (i : Int) < (Q.length : Int) := by omega

      have z0 : wr.cell? ⟨g, i * 9, none⟩ = some (.int .i64 qat) := zc 0 (by decide)
      have z1 : wr.cell? ⟨g, i * 9 + 1, none⟩ = some (.int .u64 x0) := zc 1 (by decide)
      have z2 : wr.cell? ⟨g, i * 9 + 2, none⟩ = some (.int .i64 x1) := zc 2 (by decide)
      have z3 : wr.cell? ⟨g, i * 9 + 3, none⟩ = some (.int .i64 x2) := zc 3 (by decide)
      have z4 : wr.cell? ⟨g, i * 9 + 4, none⟩ = some (.int .i64 x3) := zc 4 (by decide)
      have z5 : wr.cell? ⟨g, i * 9 + 5, none⟩ = some (.int .i64 x4) := zc 5 (by decide)
      have z6 : wr.cell? ⟨g, i * 9 + 6, none⟩ = some (.int .i64 x5) := zc 6 (by decide)
      have z7 : wr.cell? ⟨g, i * 9 + 7, none⟩ = some (.bool x6) := zc 7 (by decide)
      have z8 : wr.cell? ⟨g, i * 9 + 8, none⟩ = some (.slice (some ⟨rb, 0, none⟩) rs.length rs.length) := zc 8 (by decide)
      clear zc li hob hhd HC0 nrs cn hTr hRr
      have hX := heap_one wr (.cells #[.int .i64 qat, .int .u64 x0, .int .i64 x1, .int .i64 x2, .int .i64 x3, .int .i64 x4, .int .i64 x5, .bool x6, .slice (some ⟨rb, 0, none⟩) rs.length rs.length] 100)
      have q1 := (Below.refl wr.heap.size wr).alloc (Nat.le_refl _) (.cells #[.int .i64 qat, .int .u64 x0, .int .i64 x1, .int .i64 x2, .int .i64 x3, .int .i64 x4, .int .i64 x5, .bool x6, .slice (some ⟨rb, 0, none⟩) rs.length rs.length] 100)
      go_upto_region 8 with fail
      generalize wr.alloc (.cells #[.int .i64 qat, .int .u64 x0, .int .i64 x1, .int .i64 x2, .int .i64 x3, .int .i64 x4, .int .i64 x5, .bool x6, .slice (some ⟨rb, 0, none⟩) rs.length rs.length] 100) = w3 at *
      have lX := lt_of_heap hX
      have hbi3 := hbi.trans (q1.mono hbi.size)
      have hb4 := hb3.trans (q1.mono hb3.size)
      generalize wr.heap.size = y at *
      clear z0 z1 z2 z3 z4 z5 z6 z7 z8 q1 cX fX hbi hb3
      go_wp2_with fail
      go_loopw [7, 8] (fun mv kv wx => ∃ k : Nat, k ≤ Q.length ∧ kv = .int .i64 k ∧ mv = .int .i64 ((L.take k).count qat : Nat) ∧ Below w3.heap.size w3 wx) (fun _ kv _ => Q.length - (intOf kv).toNat)
      case atStart => exact ⟨0, by omega, rfl, by simp, Below.refl _ _⟩
      case round =>
        obtain ⟨k, hk, rfl, rfl, hbk⟩ := hrel
        have hX2 := (hbk.block _ lX).trans hX
        obtain ⟨cY, fY⟩ := hcell hX2
        by_cases hlk : k < Q.length
        · have dlk : decide ((k : Int) < (Q.length : Int)) = true := by simpa using hlk
          have hrk := HR.out _ (hbi3.trans (hbk.mono hbi3.size))
          have a1 := row_int hrk (i := k) (by rw [HLl.out]; exact hlk)
          have cs := count_take_succ L qat (k := k) (by rw [HLl.out]; exact hlk)
          have k0 : (0 : Int) ≤ (k : Int) := Int.natCast_nonneg _
          have k1 : (k : Int) < (Q.length : Int) := by omega
          have cb : (L.take k).count qat ≤ k := Nat.le_trans List.count_le_length (List.length_take_le _ _)
          generalize L.getD k 0 = lv at *
          generalize hcc : (L.take k).count qat = cc at *
          clear hrk hcc
          have ccb : (cc : Int) ≤ 65536 := by omega
          have cc0 : (0 : Int) ≤ (cc : Int) := Int.natCast_nonneg _
          by_cases e : lv = qat
          · subst e
            rw [if_pos rfl] at cs
            have CS := Lib.hid cs
            clear cs
            go_upto_region 12 with fail
            go_big_region
            go_wp2_with fail
            exact ⟨⟨k + 1, by omega, by go_num, by rw [CS.out]; go_num, hbk.drew⟩, by simp [intOf]; omega⟩
          · rw [if_neg e] at cs
            have CS := Lib.hid cs
            have de : (lv == qat) = false := by simpa using e
            clear cs
            go_upto_region 12 with fail
            go_big_region
            go_wp2_with fail
            exact ⟨⟨k + 1, by omega, by go_num, by rw [CS.out]; go_num, hbk.drew⟩, by simp [intOf]; omega⟩
        · obtain rfl : k = Q.length := by omega
          have dlk : decide ((Q.length : Int) < (Q.length : Int)) = false := by simp
          have c1 : (L.take Q.length).count qat = 1 := by rw [← HLl.out, List.take_length]; exact CNN.out
          rw [show (((L.take Q.length).count qat : Nat) : Int) = 1 by rw [c1]; rfl]
          have hb5 := hb4.trans (hbk.mono hb4.size)
          obtain ⟨cX, fX⟩ := HX.out _ hb5
          obtain ⟨wb3, rfl⟩ : ∃ wb3 : World, wb3 = wr := ⟨_, rfl⟩
          have cx0 : wb3.cell? ⟨x, 0, none⟩ = some (.pointer (some ⟨a, 0, none⟩)) := by rw [cX]; rfl
          have cy0 : wb3.cell? ⟨y, 0, none⟩ = some (.int .i64 qat) := by rw [cY]; rfl
          have C1 := Lib.hid (fun (W : World) (hb : Below wb3.heap.size wb3 W) => HCC.out W (hb5.trans (hb.mono hb5.size)))
          have KE := Lib.hid (fun (W : World) (hb : Below wb3.heap.size wb3 W) => (⟨(hb.cell (p := ⟨x, 0, none⟩) (World.block_lt_of_cell? wb3 ⟨x, 0, none⟩ cx0)).trans cx0, (hb.cell (p := ⟨y, 0, none⟩) (World.block_lt_of_cell? wb3 ⟨y, 0, none⟩ cy0)).trans cy0, hb⟩ : W.cell? ⟨x, 0, none⟩ = some (.pointer (some ⟨a, 0, none⟩)) ∧ W.cell? ⟨y, 0, none⟩ = some (.int .i64 qat) ∧ Below wb3.heap.size wb3 W))
          clear cX fX cY fY
          go_upto_region 14 with fail
          go_cut [9, 10] from 68 to 78 (fun pq ok wx => ok = .bool true ∧ ∃ p, pq = .pointer (some ⟨p, 0, none⟩) ∧ wb3.heap.size ≤ p ∧ wx.heap[p]? = some (Obj.cells #[.int .u64 x0, .int .i64 x1, .int .i64 x2, .int .i64 x3, .int .i64 x4, .int .i64 x5, .bool x6] 24 (0, 0)) ∧ Below wb3.heap.size wb3 wx)
          case first =>
            have hA0 := ((Below.refl wb3.heap.size wb3).alloc (Nat.le_refl _) (.cells #[.int .u64 0, .int .i64 0, .int .i64 0, .int .i64 0, .int .i64 0, .int .i64 0, .bool false] 24)).drew
            have hH0 : (wb3.alloc (.cells #[.int .u64 0, .int .i64 0, .int .i64 0, .int .i64 0, .int .i64 0, .int .i64 0, .bool false] 24)).drew.heap[wb3.heap.size]? = some (Obj.cells #[.int .u64 0, .int .i64 0, .int .i64 0, .int .i64 0, .int .i64 0, .int .i64 0, .bool false] 24 (0, 0)) := heap_one wb3 (.cells #[.int .u64 0, .int .i64 0, .int .i64 0, .int .i64 0, .int .i64 0, .int .i64 0, .bool false] 24)
            go_region_held3 (fun W => W.cell? ⟨x, 0, none⟩ = some (.pointer (some ⟨a, 0, none⟩)) ∧ W.cell? ⟨y, 0, none⟩ = some (.int .i64 qat) ∧ Below wb3.heap.size wb3 W) ((refine KE.out _ ?_; repeat (first | (with_reducible assumption) | (with_reducible exact Below.refl _ _) | (with_reducible refine Below.drew ?_) | (with_reducible refine Below.setCell ?_ ?_ _) | (with_reducible refine Below.alloc ?_ ?_ _) | exact Nat.le_refl _ | exact hb9.size))) ((go_at_call 107; refine (C1.out _ ?_).mono ?_; first | (exact hA0; rintro e w' ⟨rfl, hq9⟩; have hb9 := hA0.trans (hq9.mono hA0.size); have hH9 := (hq9.block _ (lt_of_heap hH0)).trans hH0; obtain ⟨cH9, fH9⟩ := hcell hH9) | (exact (Below.refl _ _).drew; rintro e w' ⟨rfl, hq9⟩; have hb9 : Below wb3.heap.size wb3 w' := (Below.refl _ _).drew.trans hq9)))
            · have f1 := heap_one w' (.cells #[.int .u64 x0, .int .i64 x1, .int .i64 x2, .int .i64 x3, .int .i64 x4, .int .i64 x5, .bool x6] 24)
              have f2 := hb9.alloc hb9.size (.cells #[.int .u64 x0, .int .i64 x1, .int .i64 x2, .int .i64 x3, .int .i64 x4, .int .i64 x5, .bool x6] 24)
              have f3 := hb9.size
              generalize w'.alloc (.cells #[.int .u64 x0, .int .i64 x1, .int .i64 x2, .int .i64 x3, .int .i64 x4, .int .i64 x5, .bool x6] 24) = WZ at *
              generalize w'.heap.size = nq at *
              go_wp2_with fail
              go_meet
              exact ⟨rfl, _, rfl, f3, f1, f2⟩
            · have f1 := set7 hH9 (.int .u64 x0) (.int .i64 x1) (.int .i64 x2) (.int .i64 x3) (.int .i64 x4) (.int .i64 x5) (.bool x6)
              have f2 := set7_below (.int .u64 x0) (.int .i64 x1) (.int .i64 x2) (.int .i64 x3) (.int .i64 x4) (.int .i64 x5) (.bool x6) hb9 (Nat.le_refl _)
              generalize (((((((w'.setCell ⟨wb3.heap.size, 0, none⟩ (.int .u64 x0)).setCell ⟨wb3.heap.size, 1, none⟩ (.int .i64 x1)).setCell ⟨wb3.heap.size, 2, none⟩ (.int .i64 x2)).setCell ⟨wb3.heap.size, 3, none⟩ (.int .i64 x3)).setCell ⟨wb3.heap.size, 4, none⟩ (.int .i64 x4)).setCell ⟨wb3.heap.size, 5, none⟩ (.int .i64 x5)).setCell ⟨wb3.heap.size, 6, none⟩ (.bool x6)) = WZ at *
              go_wp2_with fail
              go_meet
              exact ⟨rfl, _, rfl, Nat.le_refl _, f1, f2⟩
          case rest =>
            obtain ⟨rfl, p1, rfl, hp1, hH1, hb6⟩ := hcut
            have hbk6 := hbk.trans (hb6.mono hbk.size)
            obtain ⟨cY, fY⟩ := hcell ((hbk6.block _ lX).trans hX)
            obtain ⟨cH, fH⟩ := hcell hH1
            have NQ := neq_head x0 x1 x2 x3 x4 x5 x6
            clear C1 KE cx0 cy0 hb5 hb6 hH1 hp1 hX2 hbk HCC CNN
            go_wp2_with fail
            clear cH fH NQ
            go_loopw [11] (fun kv wx => ∃ k : Nat, (k : Int) ≤ x2 ∧ kv = .int .i64 k ∧ Below w3.heap.size w3 wx) (fun kv _ => (x2 - intOf kv).toNat)
            case atStart => exact ⟨0, by simpa using np0, rfl, hbk6⟩
            case round =>
              clear cY fY hbk6
              obtain ⟨k, hk, rfl, hbk⟩ := hrel
              obtain ⟨wb4, rfl⟩ : ∃ wb4 : World, wb4 = wr := ⟨_, rfl⟩
              have hb5 := hb4.trans (hbk.mono hb4.size)
              obtain ⟨cX, fX⟩ := HX.out _ hb5
              obtain ⟨cY, fY⟩ := hcell ((hbk.block _ lX).trans hX)
              have cx0 : wb4.cell? ⟨x, 0, none⟩ = some (.pointer (some ⟨a, 0, none⟩)) := by rw [cX]; rfl
              have cy0 : wb4.cell? ⟨y, 0, none⟩ = some (.int .i64 qat) := by rw [cY]; rfl
              have k0 : (0 : Int) ≤ (k : Int) := Int.natCast_nonneg _
              by_cases hlk : (k : Int) < x2
              · have dlk : decide ((k : Int) < x2) = true := by simpa using hlk
                have PCk := fun (W : World) (hb : Below wb4.heap.size wb4 W) => (PC.out qat (k : Int) W (hb5.trans (hb.mono hb5.size))).mono (R' := fun e w' => e = .returned (.tuple #[.int .i64 0, .bool true]) ∧ Below wb4.heap.size wb4 w') fun e w' ⟨h1, h2⟩ => ⟨by rw [h1, (PP.out k hlk).1, (PP.out k hlk).2], hb.trans (h2.mono hb.size)⟩
                have C1 := Lib.hid PCk
                have KE := Lib.hid (fun (W : World) (hb : Below wb4.heap.size wb4 W) => (⟨(hb.cell (p := ⟨x, 0, none⟩) (World.block_lt_of_cell? wb4 ⟨x, 0, none⟩ cx0)).trans cx0, (hb.cell (p := ⟨y, 0, none⟩) (World.block_lt_of_cell? wb4 ⟨y, 0, none⟩ cy0)).trans cy0, hb⟩ : W.cell? ⟨x, 0, none⟩ = some (.pointer (some ⟨a, 0, none⟩)) ∧ W.cell? ⟨y, 0, none⟩ = some (.int .i64 qat) ∧ Below wb4.heap.size wb4 W))
                clear PCk
                go_upto_region 20 with fail
                go_region_held3 (fun W => W.cell? ⟨x, 0, none⟩ = some (.pointer (some ⟨a, 0, none⟩)) ∧ W.cell? ⟨y, 0, none⟩ = some (.int .i64 qat) ∧ Below wb4.heap.size wb4 W) ((refine KE.out _ ?_; repeat (first | (with_reducible assumption) | (with_reducible exact Below.refl _ _) | (with_reducible refine Below.drew ?_)))) (first | (go_at_call 97; refine (C1.out _ ?_).mono ?_; (first | exact (Below.refl _ _).drew | exact (Below.refl _ _)); rintro e w' ⟨rfl, hb9⟩))
                all_goals
                  go_wp2_with fail
                  exact ⟨⟨k + 1, by omega, by go_num, hbk.trans (hb9.mono hbk.size)⟩, by simp [intOf]; omega⟩
              · have dlk : decide ((k : Int) < x2) = false := by simpa using hlk
                go_wp2_with fail
                go_loopw [14] (fun fv wx => ∃ f : Nat, f ≤ rs.length ∧ fv = .int .i64 f ∧ Below w3.heap.size w3 wx) (fun fv _ => rs.length - (intOf fv).toNat)
                case atStart => exact ⟨0, by omega, rfl, hbk⟩
                case round =>
                  clear cX fX cY fY cx0 cy0 hbk hb5
                  obtain ⟨f, hf, rfl, hbk⟩ := hrel
                  obtain ⟨wb5, rfl⟩ : ∃ wb5 : World, wb5 = wr := ⟨_, rfl⟩
                  have hb5 := hb4.trans (hbk.mono hb4.size)
                  obtain ⟨cX, fX⟩ := HX.out _ hb5
                  obtain ⟨cY, fY⟩ := hcell ((hbk.block _ lX).trans hX)
                  have cx0 : wb5.cell? ⟨x, 0, none⟩ = some (.pointer (some ⟨a, 0, none⟩)) := by rw [cX]; rfl
                  have cy0 : wb5.cell? ⟨y, 0, none⟩ = some (.int .i64 qat) := by rw [cY]; rfl
                  have f0 : (0 : Int) ≤ (f : Int) := Int.natCast_nonneg _
                  by_cases hlf : f < rs.length
                  · have dlf : decide ((f : Int) < (rs.length : Int)) = true := by simpa using hlf
                    have f1 : (f : Int) < (rs.length : Int) := by omega
                    have HC3 := Lib.hid (fun (W : World) (hb : Below w.heap.size w W) => HLQ.out W hb f hlf)
                    have RCk := fun (W : World) (hb : Below wb5.heap.size wb5 W) => (RC.out qat (f : Int) W (hb5.trans (hb.mono hb5.size))).mono (R' := fun e w' => e = .returned (.tuple #[.int .u64 (rs.getD f 0), .bool true]) ∧ Below wb5.heap.size wb5 w') fun e w' ⟨h1, h2⟩ => ⟨by rw [h1, (RR2.out f hlf).1, (RR2.out f hlf).2], hb.trans (h2.mono hb.size)⟩
                    have C1 := Lib.hid RCk
                    have KE := Lib.hid (fun (W : World) (hb : Below wb5.heap.size wb5 W) => (⟨(hb.cell (p := ⟨x, 0, none⟩) (World.block_lt_of_cell? wb5 ⟨x, 0, none⟩ cx0)).trans cx0, (hb.cell (p := ⟨y, 0, none⟩) (World.block_lt_of_cell? wb5 ⟨y, 0, none⟩ cy0)).trans cy0, hb⟩ : W.cell? ⟨x, 0, none⟩ = some (.pointer (some ⟨a, 0, none⟩)) ∧ W.cell? ⟨y, 0, none⟩ = some (.int .i64 qat) ∧ Below wb5.heap.size wb5 W))
                    clear RCk
                    generalize rs.getD f 0 = pv at *
                    go_upto_region 26 with fail
                    go_region_held3 (fun W => W.cell? ⟨x, 0, none⟩ = some (.pointer (some ⟨a, 0, none⟩)) ∧ W.cell? ⟨y, 0, none⟩ = some (.int .i64 qat) ∧ Below wb5.heap.size wb5 W) ((refine KE.out _ ?_; repeat (first | (with_reducible assumption) | (with_reducible exact Below.refl _ _) | (with_reducible refine Below.drew ?_)))) (first | (go_at_call 98; refine (C1.out _ ?_).mono ?_; (first | exact (Below.refl _ _).drew | exact (Below.refl _ _)); rintro e w' ⟨rfl, hb9⟩))
                    all_goals
                      have hbk9 := hbk.trans (hb9.mono hbk.size)
                      have rc9 := HC3.out _ (hb4.trans (hbk9.mono hb4.size))
                      clear cY fY
                      obtain ⟨cY, fY⟩ := hcell ((hbk9.block _ lX).trans hX)
                      go_wp2_with fail
                      exact ⟨⟨f + 1, by omega, by go_num, hbk9⟩, by simp [intOf]; omega⟩
                  · obtain rfl : f = rs.length := by omega
                    have dlf : decide ((rs.length : Int) < (rs.length : Int)) = false := by simp
                    go_wp2_with fail
                    go_loopw [17] (fun tv wx => ∃ t : Nat, t ≤ n ∧ tv = .int .i64 t ∧ Below w3.heap.size w3 wx) (fun tv _ => n - (intOf tv).toNat)
                    case atStart => exact ⟨0, by omega, rfl, hbk⟩
                    case round =>
                      clear cX fX cY fY cx0 cy0 hbk hb5
                      obtain ⟨t, ht, rfl, hbk⟩ := hrel
                      obtain ⟨wb6, rfl⟩ : ∃ wb6 : World, wb6 = wr := ⟨_, rfl⟩
                      have hb5 := hb4.trans (hbk.mono hb4.size)
                      obtain ⟨cX, fX⟩ := HX.out _ hb5
                      obtain ⟨cY, fY⟩ := hcell ((hbk.block _ lX).trans hX)
                      have t0 : (0 : Int) ≤ (t : Int) := Int.natCast_nonneg _
                      by_cases hlu : t < n
                      · have dlu : decide ((t : Int) < (n : Int)) = true := by simpa using hlu
                        have tu := T1.out t hlu
                        have off := OO.out t hlu
                        have RU := Lib.hid (RSC.out (t : Int) _ hb5)
                        generalize (B.told (t : Int)).1 = z at *
                        generalize (B.told (t : Int)).2 = m at *
                        have OF2 := Lib.hid off
                        clear off
                        go_wp2_with fail
                        refine RU.out.mono ?_
                        rintro e w9 ⟨rfl, hq9⟩
                        have hbk9 := hbk.trans (hq9.mono hbk.size)
                        clear cX fX cY fY hq9
                        obtain ⟨cY, fY⟩ := hcell ((hbk9.block _ lX).trans hX)
                        rcases tu with ⟨e1, e2⟩ | ⟨m0, z1, zm⟩
                        · subst e1 e2
                          go_upto_region 33 with fail
                          go_quiet (fail)
                          all_goals
                            go_wp2_with fail
                            exact ⟨⟨t + 1, by omega, by go_num, below_drewN hbk9 _⟩, by simp [intOf]; omega⟩
                        · have d1 : decide (0 < m) = true := by simpa using m0
                          have d5 : IntKind.i64.wrap (z + m) = z + m := by rw [IntKind.wrap_i64]; omega
                          by_cases c : qat < z + m
                          · have d2 : decide (qat < z + m) = true := by simpa using c
                            have d6 : IntKind.i64.wrap (qat + (2 + x2 + x3)) = qat + (2 + x2 + x3) := by rw [IntKind.wrap_i64]; omega
                            have d3 : decide (z < qat + (2 + x2 + x3)) = false := by
                              rw [decide_eq_false_iff_not]
                              rcases OF2.out m0 with q | q <;> omega
                            have S9 := Lib.hid (fun (W : World) (hb : Below w9.heap.size w9 W) => (size13_any x0 x1 x2 x3 x4 x5 x6 W (by omega) (by omega) (by omega) (by omega)).mono (R' := fun e w' => e = .returned (.int .i64 (2 + x2 + x3)) ∧ Below w9.heap.size w9 w') fun e w' ⟨h1, h2⟩ => ⟨h1, hb.trans (h2.mono hb.size)⟩)
                            have cy0 : w9.cell? ⟨y, 0, none⟩ = some (.int .i64 qat) := by rw [cY]; rfl
                            have cy1 : w9.cell? ⟨y, 1, none⟩ = some (.int .u64 x0) := by rw [cY]; rfl
                            have cy2 : w9.cell? ⟨y, 2, none⟩ = some (.int .i64 x1) := by rw [cY]; rfl
                            have cy3 : w9.cell? ⟨y, 3, none⟩ = some (.int .i64 x2) := by rw [cY]; rfl
                            have cy4 : w9.cell? ⟨y, 4, none⟩ = some (.int .i64 x3) := by rw [cY]; rfl
                            have cy5 : w9.cell? ⟨y, 5, none⟩ = some (.int .i64 x4) := by rw [cY]; rfl
                            have cy6 : w9.cell? ⟨y, 6, none⟩ = some (.int .i64 x5) := by rw [cY]; rfl
                            have cy7 : w9.cell? ⟨y, 7, none⟩ = some (.bool x6) := by rw [cY]; rfl
                            have KE := Lib.hid (fun (W : World) (hb : Below w9.heap.size w9 W) => (⟨(hb.cell (p := ⟨y, 0, none⟩) (World.block_lt_of_cell? w9 ⟨y, 0, none⟩ cy0)).trans cy0, (hb.cell (p := ⟨y, 1, none⟩) (World.block_lt_of_cell? w9 ⟨y, 1, none⟩ cy1)).trans cy1, (hb.cell (p := ⟨y, 2, none⟩) (World.block_lt_of_cell? w9 ⟨y, 2, none⟩ cy2)).trans cy2, (hb.cell (p := ⟨y, 3, none⟩) (World.block_lt_of_cell? w9 ⟨y, 3, none⟩ cy3)).trans cy3, (hb.cell (p := ⟨y, 4, none⟩) (World.block_lt_of_cell? w9 ⟨y, 4, none⟩ cy4)).trans cy4, (hb.cell (p := ⟨y, 5, none⟩) (World.block_lt_of_cell? w9 ⟨y, 5, none⟩ cy5)).trans cy5, (hb.cell (p := ⟨y, 6, none⟩) (World.block_lt_of_cell? w9 ⟨y, 6, none⟩ cy6)).trans cy6, (hb.cell (p := ⟨y, 7, none⟩) (World.block_lt_of_cell? w9 ⟨y, 7, none⟩ cy7)).trans cy7, hb⟩ : W.cell? ⟨y, 0, none⟩ = some (.int .i64 qat) ∧ W.cell? ⟨y, 1, none⟩ = some (.int .u64 x0) ∧ W.cell? ⟨y, 2, none⟩ = some (.int .i64 x1) ∧ W.cell? ⟨y, 3, none⟩ = some (.int .i64 x2) ∧ W.cell? ⟨y, 4, none⟩ = some (.int .i64 x3) ∧ W.cell? ⟨y, 5, none⟩ = some (.int .i64 x4) ∧ W.cell? ⟨y, 6, none⟩ = some (.int .i64 x5) ∧ W.cell? ⟨y, 7, none⟩ = some (.bool x6) ∧ Below w9.heap.size w9 W))
                            clear cY fY
                            go_upto_region 33 with fail
                            go_region_held3 (fun W => W.cell? ⟨y, 0, none⟩ = some (.int .i64 qat) ∧ W.cell? ⟨y, 1, none⟩ = some (.int .u64 x0) ∧ W.cell? ⟨y, 2, none⟩ = some (.int .i64 x1) ∧ W.cell? ⟨y, 3, none⟩ = some (.int .i64 x2) ∧ W.cell? ⟨y, 4, none⟩ = some (.int .i64 x3) ∧ W.cell? ⟨y, 5, none⟩ = some (.int .i64 x4) ∧ W.cell? ⟨y, 6, none⟩ = some (.int .i64 x5) ∧ W.cell? ⟨y, 7, none⟩ = some (.bool x6) ∧ Below w9.heap.size w9 W) ((refine KE.out _ ?_; repeat (first | (with_reducible assumption) | (with_reducible exact Below.refl _ _) | (with_reducible refine Below.drew ?_)))) (first | (go_at_call 66; refine (S9.out _ ?_).mono ?_; (first | exact (Below.refl _ _).drew | exact (Below.refl _ _)); rintro e w' ⟨rfl, hb9⟩))
                            all_goals
                              go_wp2_with fail
                              exact ⟨⟨t + 1, by omega, by go_num, hbk9.trans (hb9.mono hbk9.size)⟩, by simp [intOf]; omega⟩
                          · have d2 : decide (qat < z + m) = false := by simpa using c
                            go_upto_region 33 with fail
                            go_quiet (fail)
                            all_goals
                              go_wp2_with fail
                              exact ⟨⟨t + 1, by omega, by go_num, below_drewN hbk9 _⟩, by simp [intOf]; omega⟩
                      · have dlu : decide ((t : Int) < (n : Int)) = false := by simpa using hlu
                        go_wp2_with fail
                        exact ⟨⟨i + 1, by omega, by go_num, hbi3.trans (hbk.mono hbi3.size)⟩, by simp [intOf]; omega⟩
    · obtain rfl : i = Q.length := by omega
      have dlt : decide ((Q.length : Int) < (Q.length : Int)) = false := by simp
      go_wp2_with fail
      refine (RR.out _ hb3).mono ?_
      rintro e w9 ⟨rfl, hq9⟩
      go_wp2_with fail
      go_ret
      exact ⟨rfl, hb3.trans (hq9.mono hb3.size)⟩
end Go.Proofs.YtomgfdfgildkbaaDoor
