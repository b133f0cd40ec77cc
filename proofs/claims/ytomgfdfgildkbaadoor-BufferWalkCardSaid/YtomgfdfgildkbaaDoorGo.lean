/- Merged texts: Rf1, Rf2, Rf3, Rf4, Rf5. -/
import Derived.Test.YtomgfdfgildkbaaDoorLaw3bG
import Derived.Test.YtomgfdfgildkbaaDoorGp
import Derived.Test.YtomgfdfgildkbaaDoorCellBackWG
import Derived.Test.YtomgfdfgildkbaaDoorGe
import Derived.BigRegion
/- The document's own arena (middenref3) as the same plain arena: its four lists of words; Bounds, Space, Word, Top, Free. -/


namespace Go.Proofs.YtomgfdfgildkbaaDoor
open Go.RowKit Go.BigFrame

theorem first_pos (A : Ar) {s : Int} (hs : isSp s = true) : A.first s = posOf A.cfg s ∧ A.behind s = posOf A.cfg s + szOf A.cfg s := by
  rcases sp_cases hs with rfl | rfl | rfl | rfl <;> simp [Ar.first, Ar.behind, posOf, szOf]
theorem first_no (A : Ar) {s : Int} (hs : isSp s = false) : A.first s = 0 ∧ A.behind s = 0 ∧ A.top s = 0 := by
  have h : ¬ (1 ≤ s ∧ s ≤ 4) := by unfold isSp at hs; exact of_decide_eq_false hs
  unfold Ar.first Ar.behind Ar.top
  refine ⟨?_, ?_, ?_⟩ <;> (repeat' split) <;> omega
def Ar.seg (A : Ar) (s : Int) : List Int := (A.words.drop (A.first s).toNat).take (szOf A.cfg s).toNat
theorem Ar.seg_len {A : Ar} (ok : A.Ok) {s : Int} (hs : isSp s = true) : (A.seg s).length = (szOf A.cfg s).toNat := by
  have len := ok.len
  obtain ⟨e0, e1, s0, s1, t0, t1⟩ := Cfg.bd ok.cv
  unfold Cfg.size at len
  unfold Ar.seg
  rw [List.length_take, List.length_drop]
  rcases sp_cases hs with rfl | rfl | rfl | rfl <;> simp [Ar.first, szOf] <;> omega
theorem Ar.seg_get {A : Ar} {s : Int} {j : Nat} (hj : j < (szOf A.cfg s).toNat) : (A.seg s)[j]? = A.words[(A.first s).toNat + j]? := by
  unfold Ar.seg
  rw [List.getElem?_take, if_pos hj, List.getElem?_drop]
def rfCells (A : Ar) (c : Int → Nat) : Array Value :=
  #[.int .i64 A.cfg.eden, .int .i64 A.cfg.surv, .int .i64 A.cfg.ten, .int .i64 A.cfg.large, .int .i64 A.cfg.floor, .int .i64 A.cfg.num, .int .i64 A.cfg.den, .int .i64 A.cfg.target, .int .i64 A.cfg.maxAge, .int .i64 A.cfg.threads, .int .i64 A.cfg.slots, .int .i64 A.cfg.handles, .int .i64 A.cfg.buffer, .int .i64 A.cfg.workers,
    .slice none 0 0, .slice (some ⟨c 1, 0, none⟩) (szOf A.cfg 1).toNat (szOf A.cfg 1).toNat, .slice (some ⟨c 2, 0, none⟩) (szOf A.cfg 2).toNat (szOf A.cfg 2).toNat, .slice (some ⟨c 3, 0, none⟩) (szOf A.cfg 3).toNat (szOf A.cfg 3).toNat, .slice (some ⟨c 4, 0, none⟩) (szOf A.cfg 4).toNat (szOf A.cfg 4).toNat,
    .int .i64 0, .int .i64 (A.top 1 - A.first 1), .int .i64 (A.top 2 - A.first 2), .int .i64 (A.top 3 - A.first 3), .int .i64 (A.top 4 - A.first 4), .int .i64 A.frm]
structure RfAt (w : World) (b : Nat) (c : Int → Nat) (A : Ar) : Prop where
  st : w.heap[b]? = some (.cells (rfCells A c) 157 (0, 0))
  ws : ∀ s, isSp s = true → w.heap[c s]? = some (.cells (u64s (A.seg s)) 22 (0, 0))
  nb : ∀ s, isSp s = true → c s ≠ b
  nn : ∀ s t, isSp s = true → isSp t = true → s ≠ t → c s ≠ c t
  z0 : A.word 0 = 0
theorem RfAt.below {w w' : World} {b : Nat} {c : Int → Nat} {A : Ar} (h : RfAt w b c A) (hb : Below w.heap.size w w') : RfAt w' b c A :=
  ⟨(hb.block _ (lt_of_heap h.st)).trans h.st, fun s hs => (hb.block _ (lt_of_heap (h.ws s hs))).trans (h.ws s hs), h.nb, h.nn, h.z0⟩
theorem RfAt.drewN {w : World} {b : Nat} {c : Int → Nat} {A : Ar} (h : RfAt w b c A) (n : Nat) : RfAt (w.drewN n) b c A := ⟨h.st, h.ws, h.nb, h.nn, h.z0⟩
theorem RfAt.sp {w : World} {b : Nat} {c : Int → Nat} {A : Ar} (h : RfAt w b c A) {s : Int} (hs : isSp s = true) : w.cell? ⟨b, 14 + s.toNat, none⟩ = some (.slice (some ⟨c s, 0, none⟩) (szOf A.cfg s).toNat (szOf A.cfg s).toNat) ∧ w.cell? ⟨b, 19 + s.toNat, none⟩ = some (.int .i64 (A.top s - A.first s)) := by
  have hc := (hcell h.st).1
  rcases sp_cases hs with rfl | rfl | rfl | rfl <;> refine ⟨?_, ?_⟩ <;> rw [hc] <;> rfl
/-- The word of an address, in the list of its space. -/
theorem RfAt.wd {w : World} {b : Nat} {c : Int → Nat} {A : Ar} (h : RfAt w b c A) (ok : A.Ok) {s i : Int} (hs : isSp s = true) (h1 : A.first s ≤ i) (h2 : i < A.behind s) : w.cell? ⟨c s, (i - A.first s).toNat, none⟩ = some (.int .u64 (A.word i)) := by
  have hb := A.behind_first hs
  have hl := Ar.seg_len ok hs
  have hz := ok.sizes s
  have hlt : (i - A.first s).toNat < (szOf A.cfg s).toNat := by omega
  rw [(hcell (h.ws s hs)).1, u64s_get (by omega), List.getD_eq_getElem?_getD, Ar.seg_get hlt]
  unfold Ar.word
  rw [if_pos (by omega), List.getD_eq_getElem?_getD, show (A.first s).toNat + (i - A.first s).toNat = i.toNat by omega]
theorem rspace_any (s : Int) (w : World) : Calls Tryd.prog 161 #[.int .i64 s] w fun e w' => e = .returned (.bool (isSp s)) ∧ w = w' := by
  unfold isSp
  by_cases h1 : 1 ≤ s
  · by_cases h2 : s ≤ 4
    · have d1 : decide (1 ≤ s) = true := by simpa using h1
      have d2 : decide (s ≤ 4) = true := by simpa using h2
      go_enter Tryd.func161, Tryd.ntmps161
      go_wp2
      go_ret
      exact ⟨ret_bool (by rw [decide_eq_true ⟨h1, h2⟩]), rfl⟩
    · have d1 : decide (1 ≤ s) = true := by simpa using h1
      have d2 : decide (s ≤ 4) = false := by simpa using h2
      go_enter Tryd.func161, Tryd.ntmps161
      go_wp2
      go_ret
      exact ⟨ret_bool (by first | rfl | exact (decide_eq_false (by omega)).symm), rfl⟩
  · have d1 : decide (1 ≤ s) = false := by simpa using h1
    go_enter Tryd.func161, Tryd.ntmps161
    go_wp2
    go_ret
    exact ⟨ret_bool (by first | rfl | exact (decide_eq_false (by omega)).symm), rfl⟩
set_option maxRecDepth 100000 in
set_option maxHeartbeats 4000000 in
theorem rbounds_any (b : Nat) (c : Int → Nat) (A : Ar) (s : Int) (w : World) (h : RfAt w b c A) (ok : A.Ok) : Calls Tryd.prog 149 #[.pointer (some ⟨b, 0, none⟩), .int .i64 s] w fun e w' => e = .returned (.tuple #[.int .i64 (A.first s), .int .i64 (A.behind s)]) ∧ ∃ m, w' = w.drewN m := by
  have IS := Lib.hid (rspace_any s w)
  by_cases hs : isSp s = true
  · obtain ⟨e1, e2⟩ := first_pos A hs
    rw [hs] at IS
    rw [e1, e2]
    have hz := szOf_bd ok.cv
    have hp := posOf_bd ok.cv
    have SP := Lib.hid (fun (n : Nat) (k : Int) (hk : isSp k = true) => ((h.drewN n).sp hk).1)
    have hs' := sp_cases hs
    have NX := Lib.hid (fun (k : Int) (hk : isSp k = true) => posOf_next (c := A.cfg) hk)
    have p1 : posOf A.cfg 1 = 1 := rfl
    have HP1 := Lib.hid p1
    have HZ := Lib.hid hz
    have HP := Lib.hid hp
    clear e1 e2 h ok p1 hz hp
    generalize A.cfg = cf at *
    go_enter Tryd.func149, Tryd.ntmps149
    go_wp2_with fail
    refine IS.out.mono ?_
    rintro e w1 ⟨rfl, rfl⟩
    go_wp2_with fail
    go_loopw [6, 7] (fun at_ i wx => ∃ k : Int, 1 ≤ k ∧ k ≤ s ∧ i = .int .i64 k ∧ at_ = .int .i64 (posOf cf k) ∧ ∃ m, wx = w.drewN m) (fun _ i _ => (s - intOf i).toNat)
    case atStart => exact ⟨1, by omega, by omega, rfl, by rw [HP1.out], 0, rfl⟩
    case round =>
      obtain ⟨k, k1, ks, rfl, rfl, m, rfl⟩ := hrel
      by_cases hlt : k < s
      · have hk : isSp k = true := by unfold isSp; simp; omega
        have cw := SP.out m k hk
        have nx := NX.out k hk
        obtain ⟨z0, z1⟩ := HZ.out k
        obtain ⟨q0, q1⟩ := HP.out k
        have k0 : (0 : Int) ≤ k := by omega
        have k5 : k < (5 : Int) := by omega
        have hzn : ((szOf cf k).toNat : Int) = szOf cf k := by omega
        have HNX := Lib.hid nx
        clear nx
        generalize posOf cf k = pk at *
        generalize szOf cf k = zk at *
        go_wp2_with fail
        exact ⟨⟨k + 1, by omega, by omega, by go_num, by rw [HNX.out], m, rfl⟩, by simp [intOf]; omega⟩
      · obtain rfl : k = s := by omega
        have cw := SP.out m k hs
        obtain ⟨z0, z1⟩ := HZ.out k
        obtain ⟨q0, q1⟩ := HP.out k
        have k0 : (0 : Int) ≤ k := by omega
        have k5 : k < (5 : Int) := by omega
        have hzn : ((szOf cf k).toNat : Int) = szOf cf k := by omega
        generalize hpk : posOf cf k = pk at *
        generalize hzk : szOf cf k = zk at *
        have HPK := Lib.hid hpk
        have HZK := Lib.hid hzk
        clear hpk hzk
        have hwm : ∀ wm, wm = w.drewN m → ∃ m', wm.drew = w.drewN m' := fun wm e => ⟨m + 1, by rw [e]; rfl⟩
        have HWM := Lib.hid (hwm _ rfl)
        clear hwm
        generalize w.drewN m = wm at *
        go_upto_region 8 with fail
        go_big_region
        go_wp2_with fail
        go_ret2
        exact ⟨by rw [HPK.out, HZK.out]; rfl, HWM.out⟩
  · have hs' : isSp s = false := by simpa using hs
    obtain ⟨e1, e2, _⟩ := first_no A hs'
    rw [e1, e2]
    rw [hs'] at IS
    clear h ok
    go_enter Tryd.func149, Tryd.ntmps149
    go_wp2_with fail
    refine IS.out.mono ?_
    rintro e w1 ⟨rfl, rfl⟩
    go_wp2_with fail
    go_ret2
    exact ⟨rfl, 0, rfl⟩
end Go.Proofs.YtomgfdfgildkbaaDoor
/- The document's own arena: Space, Word, Top, Free, From, To, Young. -/

namespace Go.Proofs.YtomgfdfgildkbaaDoor
open Go.RowKit Go.BigFrame

theorem Ar.space_none {A : Ar} (ok : A.Ok) {i : Int} (h : ∀ s, isSp s = true → ¬ (A.first s ≤ i ∧ i < A.behind s)) : A.space i = 0 := by
  by_cases h0 : A.space i = 0
  · exact h0
  · obtain ⟨h1, h2, h3, _⟩ := Ar.space_bd ok h0
    exact absurd ⟨h2, h3⟩ (h _ (by rcases h1 with e | e | e | e <;> rw [e] <;> rfl))
set_option maxRecDepth 100000 in
set_option maxHeartbeats 4000000 in
theorem rspaceOf_any (b : Nat) (c : Int → Nat) (A : Ar) (i : Int) (w : World) (h : RfAt w b c A) (ok : A.Ok) : Calls Tryd.prog 105 #[.pointer (some ⟨b, 0, none⟩), .int .i64 i] w fun e w' => e = .returned (.int .i64 (A.space i)) ∧ ∃ m, w' = w.drewN m := by
  have BO := Lib.hid (fun (n : Nat) (s : Int) => (rbounds_any b c A s (w.drewN n) (h.drewN n) ok).mono (R' := fun e w' => e = .returned (.tuple #[.int .i64 (A.first s), .int .i64 (A.behind s)]) ∧ ∃ m, w' = w.drewN m) fun e w' ⟨h1, m, h2⟩ => ⟨h1, n + m, by rw [h2]; rw [World.drewN_drewN]⟩)
  have SO := Lib.hid (fun (s : Int) (hs : isSp s = true) (h1 : A.first s ≤ i) (h2 : i < A.behind s) => Ar.space_of ok hs h1 h2)
  have SN := Lib.hid (Ar.space_none (i := i) ok)
  clear h
  generalize hsp : A.space i = r at *
  have HSP := Lib.hid hsp
  clear hsp ok
  generalize A.first = fi at *
  generalize A.behind = be at *
  go_enter Tryd.func105, Tryd.ntmps105
  go_wp2_with fail
  go_loopw [5] (fun iv wx => ∃ k : Int, 1 ≤ k ∧ k ≤ 5 ∧ iv = .int .i64 k ∧ (∀ t, 1 ≤ t → t < k → ¬ (fi t ≤ i ∧ i < be t)) ∧ ∃ m, wx = w.drewN m) (fun iv _ => (5 - intOf iv).toNat)
  case atStart => exact ⟨1, by omega, by omega, rfl, fun t h1 h2 => by omega, 0, rfl⟩
  case round =>
    obtain ⟨k, k1, k5, rfl, hn, m, rfl⟩ := hrel
    by_cases hlt : k < 5
    · have d0 : decide (k < 5) = true := by simpa using hlt
      have hk : isSp k = true := by unfold isSp; simp; omega
      have BOk := Lib.hid (BO.out m k)
      by_cases q1 : fi k ≤ i
      · have d1 : decide (fi k ≤ i) = true := by simpa using q1
        by_cases q2 : i < be k
        · have d2 : decide (i < be k) = true := by simpa using q2
          have hr := SO.out k hk q1 q2
          have HR := Lib.hid hr
          clear hr hn
          go_wp2_with fail
          refine BOk.out.mono ?_
          rintro e w1 ⟨rfl, m', rfl⟩
          go_wp2_with fail
          go_ret
          exact ⟨ret_int HR.out.symm, m', rfl⟩
        · have d2 : decide (i < be k) = false := by simpa using q2
          have hn' : ∀ t, 1 ≤ t → t < k + 1 → ¬ (fi t ≤ i ∧ i < be t) := fun t h1 h2 => by
            by_cases e : t = k
            · subst e; exact fun q => q2 q.2
            · exact hn t h1 (by omega)
          clear hn
          go_wp2_with fail
          refine BOk.out.mono ?_
          rintro e w1 ⟨rfl, m', rfl⟩
          go_wp2_with fail
          exact ⟨⟨k + 1, by omega, by omega, by go_num, hn', m', rfl⟩, by simp [intOf]; omega⟩
      · have d1 : decide (fi k ≤ i) = false := by simpa using q1
        have hn' : ∀ t, 1 ≤ t → t < k + 1 → ¬ (fi t ≤ i ∧ i < be t) := fun t h1 h2 => by
          by_cases e : t = k
          · subst e; exact fun q => q1 q.1
          · exact hn t h1 (by omega)
        clear hn
        go_wp2_with fail
        refine BOk.out.mono ?_
        rintro e w1 ⟨rfl, m', rfl⟩
        go_wp2_with fail
        exact ⟨⟨k + 1, by omega, by omega, by go_num, hn', m', rfl⟩, by simp [intOf]; omega⟩
    · obtain rfl : k = 5 := by omega
      have hr : r = 0 := SN.out (fun t ht => hn t (by have := sp_cases ht; omega) (by have := sp_cases ht; omega))
      have HR := Lib.hid hr
      clear hr hn
      go_wp2_with fail
      go_ret
      exact ⟨ret_int HR.out.symm, m, rfl⟩
theorem Ar.word_out {A : Ar} (ok : A.Ok) (z0 : A.word 0 = 0) {i : Int} (h : A.space i = 0) : A.word i = 0 := by
  have len := ok.len
  unfold Cfg.size at len
  by_cases h1 : i < 1
  · by_cases h0 : i = 0
    · rw [h0]; exact z0
    · unfold Ar.word; rw [if_neg (by omega)]
  · have hi : (A.words.length : Int) ≤ i := by
      unfold Ar.space at h
      rw [if_neg h1] at h
      repeat' split at h
      all_goals first | omega | simp at h
    unfold Ar.word
    rw [if_pos (by omega), List.getD_eq_getElem?_getD, List.getElem?_eq_none (by omega)]; rfl
set_option maxRecDepth 100000 in
set_option maxHeartbeats 4000000 in
theorem rword_any (b : Nat) (c : Int → Nat) (A : Ar) (i : Int) (w : World) (h : RfAt w b c A) (ok : A.Ok) : Calls Tryd.prog 101 #[.pointer (some ⟨b, 0, none⟩), .int .i64 i] w fun e w' => e = .returned (.int .u64 (A.word i)) ∧ ∃ m, w' = w.drewN m := by
  have SO := Lib.hid (rspaceOf_any b c A i w h ok)
  by_cases h0 : A.space i = 0
  · rw [Ar.word_out ok h.z0 h0]
    rw [h0] at SO
    clear h ok h0
    go_enter Tryd.func101, Tryd.ntmps101
    go_wp2_with fail
    refine SO.out.mono ?_
    rintro e w1 ⟨rfl, m, rfl⟩
    go_wp2_with fail
    go_ret
    exact ⟨rfl, m, rfl⟩
  · obtain ⟨h1, h2, h3, h4, h5⟩ := Ar.space_bd ok h0
    have hs : isSp (A.space i) = true := by rcases h1 with e | e | e | e <;> rw [e] <;> rfl
    have BO := Lib.hid (fun (n : Nat) => (rbounds_any b c A (A.space i) (w.drewN n) (h.drewN n) ok).mono (R' := fun e w' => e = .returned (.tuple #[.int .i64 (A.first (A.space i)), .int .i64 (A.behind (A.space i))]) ∧ ∃ m, w' = w.drewN m) fun e w' ⟨h1, m, h2⟩ => ⟨h1, n + m, by rw [h2]; rw [World.drewN_drewN]⟩)
    have SP := Lib.hid (fun (n : Nat) => ((h.drewN n).sp hs).1)
    have WV := Lib.hid (fun (n : Nat) => (h.drewN n).wd ok hs h2 h3)
    have bf := A.behind_first hs
    have hz := ok.sizes (A.space i)
    have hz0 : ((A.space i) == 0) = false := by simpa using h0
    clear h ok h0
    generalize A.space i = s at *
    generalize A.first s = fi at *
    generalize A.behind s = be at *
    generalize A.word i = wv at *
    have hzn : ((szOf A.cfg s).toNat : Int) = szOf A.cfg s := by omega
    generalize szOf A.cfg s = zs at *
    have hs' := sp_cases hs
    have s0 : (0 : Int) ≤ s := by omega
    have s5 : s < (5 : Int) := by omega
    have i0 : (0 : Int) ≤ i - fi := by omega
    have i1 : i - fi < (zs.toNat : Int) := by omega
    go_enter Tryd.func101, Tryd.ntmps101
    go_wp2_with fail
    refine SO.out.mono ?_
    rintro e w1 ⟨rfl, m, rfl⟩
    go_wp2_with fail
    refine (BO.out m).mono ?_
    rintro e w1 ⟨rfl, m', rfl⟩
    have cw := SP.out m'
    have cv := WV.out m'
    go_wp2_with fail
    go_ret
    exact ⟨rfl, m', rfl⟩
set_option maxRecDepth 100000 in
set_option maxHeartbeats 4000000 in
theorem rtop_any (b : Nat) (c : Int → Nat) (A : Ar) (s : Int) (w : World) (h : RfAt w b c A) (ok : A.Ok) : Calls Tryd.prog 133 #[.pointer (some ⟨b, 0, none⟩), .int .i64 s] w fun e w' => e = .returned (.int .i64 (A.top s)) ∧ ∃ m, w' = w.drewN m := by
  have IS := Lib.hid (rspace_any s w)
  by_cases hs : isSp s = true
  · rw [hs] at IS
    have BO := Lib.hid (rbounds_any b c A s w h ok)
    have SP := Lib.hid (fun (n : Nat) => ((h.drewN n).sp hs).2)
    have hz := ok.sizes s
    have hs' := sp_cases hs
    have s0 : (0 : Int) ≤ s := by omega
    have s5 : s < (5 : Int) := by omega
    clear h ok
    generalize A.first s = fi at *
    generalize A.behind s = be at *
    generalize A.top s = tp at *
    go_enter Tryd.func133, Tryd.ntmps133
    go_wp2_with fail
    refine IS.out.mono ?_
    rintro e w1 ⟨rfl, rfl⟩
    go_wp2_with fail
    refine BO.out.mono ?_
    rintro e w1 ⟨rfl, m, rfl⟩
    have cu := SP.out m
    go_wp2_with fail
    go_ret
    exact ⟨ret_int (by omega), m, rfl⟩
  · have hs' : isSp s = false := by simpa using hs
    rw [(first_no A hs').2.2]
    rw [hs'] at IS
    clear h ok
    go_enter Tryd.func133, Tryd.ntmps133
    go_wp2_with fail
    refine IS.out.mono ?_
    rintro e w1 ⟨rfl, rfl⟩
    go_wp2_with fail
    go_ret
    exact ⟨rfl, 0, rfl⟩
set_option maxRecDepth 100000 in
set_option maxHeartbeats 4000000 in
theorem rfree_any (b : Nat) (c : Int → Nat) (A : Ar) (s : Int) (w : World) (h : RfAt w b c A) (ok : A.Ok) : Calls Tryd.prog 150 #[.pointer (some ⟨b, 0, none⟩), .int .i64 s] w fun e w' => e = .returned (.int .i64 (A.free s)) ∧ ∃ m, w' = w.drewN m := by
  have IS := Lib.hid (rspace_any s w)
  unfold Ar.free
  by_cases hs : isSp s = true
  · rw [hs] at IS
    obtain ⟨c1, c2⟩ := h.sp hs
    have hz := ok.sizes s
    have bf := A.behind_first hs
    have hs' := sp_cases hs
    have s0 : (0 : Int) ≤ s := by omega
    have s5 : s < (5 : Int) := by omega
    clear h ok
    generalize A.first s = fi at *
    generalize A.behind s = be at *
    generalize A.top s = tp at *
    generalize szOf A.cfg s = zs at *
    have hzn : (zs.toNat : Int) = zs := by omega
    go_enter Tryd.func150, Tryd.ntmps150
    go_wp2_with fail
    refine IS.out.mono ?_
    rintro e w1 ⟨rfl, rfl⟩
    go_upto_region 3 with fail
    go_big_region
    go_wp2_with fail
    go_ret
    exact ⟨ret_int (by omega), 1, rfl⟩
  · have hs' : isSp s = false := by simpa using hs
    rw [(first_no A hs').2.2, (first_no A hs').2.1]
    rw [hs'] at IS
    clear h ok
    go_enter Tryd.func150, Tryd.ntmps150
    go_wp2_with fail
    refine IS.out.mono ?_
    rintro e w1 ⟨rfl, rfl⟩
    go_wp2_with fail
    go_ret
    exact ⟨rfl, 0, rfl⟩
end Go.Proofs.YtomgfdfgildkbaaDoor
/- The document's own arena: From, To, Young, Size, Head. -/



namespace Go.Proofs.YtomgfdfgildkbaaDoor
open Go.RowKit Go.BigFrame

theorem RfAt.frm {w : World} {b : Nat} {c : Int → Nat} {A : Ar} (h : RfAt w b c A) : w.cell? ⟨b, 24, none⟩ = some (.int .i64 A.frm) := by
  rw [(hcell h.st).1]; rfl
theorem rfrom_any (b : Nat) (c : Int → Nat) (A : Ar) (w : World) (h : RfAt w b c A) : Calls Tryd.prog 103 #[.pointer (some ⟨b, 0, none⟩)] w fun e w' => e = .returned (.int .i64 A.frm) ∧ w = w' := by
  have cf := h.frm
  clear h
  go_enter Tryd.func103, Tryd.ntmps103
  go_wp2
  go_ret
  exact ⟨rfl, rfl⟩
theorem rto_any (b : Nat) (c : Int → Nat) (A : Ar) (w : World) (h : RfAt w b c A) (ok : A.Ok) : Calls Tryd.prog 104 #[.pointer (some ⟨b, 0, none⟩)] w fun e w' => e = .returned (.int .i64 A.to) ∧ w = w' := by
  have cf := h.frm
  have hf := ok.fr
  unfold Ar.to
  clear h ok
  generalize A.frm = f at *
  go_enter Tryd.func104, Tryd.ntmps104
  go_wp2
  go_ret
  exact ⟨rfl, rfl⟩
theorem ryoung_any (b : Nat) (c : Int → Nat) (A : Ar) (i : Int) (w : World) (h : RfAt w b c A) (ok : A.Ok) : Calls Tryd.prog 106 #[.pointer (some ⟨b, 0, none⟩), .int .i64 i] w fun e w' => e = .returned (.bool (A.young i)) ∧ ∃ m, w' = w.drewN m := by
  have SO := Lib.hid (rspaceOf_any b c A i w h ok)
  have CF := Lib.hid (fun m => (h.drewN m).frm)
  unfold Ar.young
  clear h ok
  generalize A.frm = f at *
  generalize A.space i = s at *
  by_cases q1 : s = 1
  · have d1 : (s == 1) = true := by simpa using q1
    go_enter Tryd.func106, Tryd.ntmps106
    go_wp2_with fail
    refine SO.out.mono ?_
    rintro e w1 ⟨rfl, m, rfl⟩
    have cf := CF.out m
    go_wp2_with fail
    go_ret
    exact ⟨ret_bool (by simp [q1]), m, rfl⟩
  · have d1 : (s == 1) = false := by simpa using q1
    by_cases q2 : s = f
    · have d2 : (s == f) = true := by simpa using q2
      go_enter Tryd.func106, Tryd.ntmps106
      go_wp2_with fail
      refine SO.out.mono ?_
      rintro e w1 ⟨rfl, m, rfl⟩
      have cf := CF.out m
      go_wp2_with fail
      go_ret
      exact ⟨ret_bool (by simp [q2]), m, rfl⟩
    · have d2 : (s == f) = false := by simpa using q2
      go_enter Tryd.func106, Tryd.ntmps106
      go_wp2_with fail
      refine SO.out.mono ?_
      rintro e w1 ⟨rfl, m, rfl⟩
      have cf := CF.out m
      go_wp2_with fail
      go_ret
      exact ⟨ret_bool (by simp [q1, q2]), m, rfl⟩
set_option maxHeartbeats 1000000 in
theorem rsizeOf_any (b : Nat) (c : Int → Nat) (A : Ar) (w : World) (h : RfAt w b c A) (ok : A.Ok) : Calls Tryd.prog 117 #[.pointer (some ⟨b, 0, none⟩)] w fun e w' => e = .returned (.int .i64 (A.words.length : Int)) ∧ w = w' := by
  have len := ok.len
  have h5 : posOf A.cfg 5 = A.cfg.size := by simp [posOf, Cfg.size]
  rw [len, ← h5]
  have SP := Lib.hid (fun (k : Int) (hk : isSp k = true) => (h.sp hk).1)
  have NX := Lib.hid (fun (k : Int) (hk : isSp k = true) => posOf_next (c := A.cfg) hk)
  have p1 : posOf A.cfg 1 = 1 := rfl
  have HP1 := Lib.hid p1
  have HZ := Lib.hid (szOf_bd ok.cv)
  have HP := Lib.hid (posOf_bd ok.cv)
  clear len h5 h ok p1
  generalize A.cfg = cf at *
  go_enter Tryd.func117, Tryd.ntmps117
  go_wp2_with fail
  go_loopw [3, 4] (fun at_ i wx => ∃ k : Int, 1 ≤ k ∧ k ≤ 5 ∧ i = .int .i64 k ∧ at_ = .int .i64 (posOf cf k) ∧ wx = w) (fun _ i _ => (5 - intOf i).toNat)
  case atStart => exact ⟨1, by omega, by omega, rfl, by rw [HP1.out], rfl⟩
  case round =>
    obtain ⟨k, k1, ks, rfl, rfl, rfl⟩ := hrel
    by_cases hlt : k < 5
    · have hk : isSp k = true := by unfold isSp; simp; omega
      have cw := SP.out k hk
      have nx := NX.out k hk
      obtain ⟨z0, z1⟩ := HZ.out k
      obtain ⟨q0, q1⟩ := HP.out k
      have k0 : (0 : Int) ≤ k := by omega
      have hzn : ((szOf cf k).toNat : Int) = szOf cf k := by omega
      have HNX := Lib.hid nx
      clear nx
      generalize posOf cf k = pk at *
      generalize szOf cf k = zk at *
      go_wp2_with fail
      exact ⟨⟨k + 1, by omega, by omega, by go_num, by rw [HNX.out], trivial⟩, by simp [intOf]; omega⟩
    · obtain rfl : k = 5 := by omega
      go_wp2_with fail
      go_ret
      exact ⟨rfl, rfl⟩
theorem rhsize_any (g : Hd) (w : World) (p0 : 0 ≤ g.ptrs ∧ g.ptrs ≤ 1000000) (r0 : 0 ≤ g.raws ∧ g.raws ≤ 1000000) : Calls Tryd.prog 151 #[g.val] w fun e w' => e = .returned (.int .i64 (2 + g.ptrs + g.raws)) ∧ Below w.heap.size w w' := by
  obtain ⟨x0, x1, x2, x3, x4, x5, x6⟩ := g
  unfold Hd.val
  simp only at *
  go_enter Tryd.func151, Tryd.ntmps151
  go_wp2
  go_ret
  exact ⟨rfl, (Below.refl _ _).alloc (Nat.le_refl _) _⟩
set_option maxRecDepth 100000 in
set_option maxHeartbeats 8000000 in
theorem rhead_any (b : Nat) (c : Int → Nat) (A : Ar) (i : Int) (w : World) (h : RfAt w b c A) (ok : A.Ok) : Calls Tryd.prog 108 #[.pointer (some ⟨b, 0, none⟩), .int .i64 i] w fun e w' => e = .returned (.tuple #[(A.hd i).val, .bool (A.isObj i)]) ∧ Below w.heap.size w w' := by
  have no : A.isObj i = false → A.hd i = nohd := fun h => by unfold Ar.hd; rw [h]; rfl
  have SO := Lib.hid (fun (W : World) (hb : Below w.heap.size w W) => rspaceOf_any b c A i W (h.below hb) ok)
  have TO := Lib.hid (fun (W : World) (hb : Below w.heap.size w W) => rtop_any b c A (A.space i) W (h.below hb) ok)
  have WO := Lib.hid (fun (W : World) (hb : Below w.heap.size w W) => rword_any b c A i W (h.below hb) ok)
  have WO2 := Lib.hid (fun (W : World) (hb : Below w.heap.size w W) => rword_any b c A (i + 1) W (h.below hb) ok)
  have hwd := ok.word i
  have UN := Lib.hid (fun (W : World) => runpack_any (A.word i) W hwd.1 hwd.2)
  have hX := heap_one w (.cells #[.int .u64 0, .int .i64 0, .int .i64 0, .int .i64 0, .int .i64 0, .int .i64 0, .bool false] 24)
  have hb := (Below.refl w.heap.size w).alloc (Nat.le_refl _) (.cells #[.int .u64 0, .int .i64 0, .int .i64 0, .int .i64 0, .int .i64 0, .int .i64 0, .bool false] 24)
  by_cases hs : A.space i = 0
  · have ho : A.isObj i = false := by unfold Ar.isObj; rw [hs]; rfl
    rw [no ho, ho]
    rw [hs] at SO
    clear TO WO WO2 UN no h ok hwd hs ho
    go_enter Tryd.func108, Tryd.ntmps108
    go_upto_region 1 with fail
    generalize w.alloc (.cells #[.int .u64 0, .int .i64 0, .int .i64 0, .int .i64 0, .int .i64 0, .int .i64 0, .bool false] 24) = w1 at *
    go_wp2_with fail
    refine (SO.out _ hb).mono ?_
    rintro e w2 ⟨rfl, m, rfl⟩
    replace hX : (w1.drewN m).heap[w.heap.size]? = _ := hX
    replace hb := below_drewN hb m
    clear SO
    generalize w1.drewN m = w2 at *
    obtain ⟨cX, fX⟩ := hcell hX
    go_wp2_with fail
    exact bodyPost_ret (v := .tuple #[nohd.val, .bool false]) (by simp [results, Tryd.results108, go_sem, nohd, Hd.val, cX]) rfl ⟨rfl, set7_below _ _ _ _ _ _ _ hb (Nat.le_refl _)⟩
  · have hs0 : (A.space i == 0) = false := by simpa using hs
    have hob : A.isObj i = (decide (i < A.top (A.space i)) && isHd (A.word i) && decide (A.osz i ≤ A.top (A.space i) - i)) := by unfold Ar.isObj; rw [decide_eq_true hs]; rfl
    have hz := ok.sizes (A.space i)
    obtain ⟨h1, h2, h3, h4, h5⟩ := Ar.space_bd ok hs
    have hosz : A.osz i = 2 + (dec (A.word i)).ptrs + (dec (A.word i)).raws := rfl
    have hhd : A.isObj i = true → A.hd i = { dec (A.word i) with ser := A.word (i + 1) } := fun h => by unfold Ar.hd; rw [if_pos h]
    have hunp : isHd (A.word i) = true → unp (A.word i) = dec (A.word i) ∧ 0 ≤ (dec (A.word i)).ptrs ∧ (dec (A.word i)).ptrs ≤ 4095 ∧ 0 ≤ (dec (A.word i)).raws ∧ (dec (A.word i)).raws ≤ 65535 := fun hh => by
      have f := (chk_iff (dec (A.word i))).1 (by unfold isHd at hh; simp at hh; exact hh.2)
      exact ⟨by unfold unp; rw [if_pos hh], f.p0, f.p1, f.r0, f.r1⟩
    clear h ok hs h1 h4
    by_cases ht : i < A.top (A.space i)
    · have dt : decide (A.top (A.space i) ≤ i) = false := by simp; omega
      by_cases hh : isHd (A.word i) = true
      · obtain ⟨hu, u0, u1, u2, u3⟩ := hunp hh
        have HS := Lib.hid (fun (W : World) => rhsize_any (dec (A.word i)) W ⟨u0, by omega⟩ ⟨u2, by omega⟩)
        rw [hh, hu] at UN
        rw [← hosz] at HS
        by_cases hf : A.osz i ≤ A.top (A.space i) - i
        · have ho : A.isObj i = true := by rw [hob, decide_eq_true ht, hh, decide_eq_true hf]; rfl
          have df : decide (A.top (A.space i) < i + A.osz i) = false := by simp; omega
          have ob := hhd ho
          rw [ho, ob]
          clear hhd hob no hunp hwd ho hu ob
          generalize A.word (i + 1) = sv at *
          generalize A.top (A.space i) = tp at *
          generalize A.space i = s at *
          generalize hosz2 : A.osz i = oz at *
          generalize A.word i = wv at *
          go_enter Tryd.func108, Tryd.ntmps108
          go_upto_region 1 with fail
          generalize w.alloc (.cells #[.int .u64 0, .int .i64 0, .int .i64 0, .int .i64 0, .int .i64 0, .int .i64 0, .bool false] 24) = w1 at *
          go_wp2_with fail
          refine (SO.out _ hb).mono ?_
          rintro e w2 ⟨rfl, m, rfl⟩
          replace hX : (w1.drewN m).heap[w.heap.size]? = _ := hX
          replace hb := below_drewN hb m
          clear SO
          generalize w1.drewN m = w2 at *
          go_wp2_with fail
          refine (TO.out _ hb).mono ?_
          rintro e w3 ⟨rfl, m, rfl⟩
          replace hX : (w2.drewN m).heap[w.heap.size]? = _ := hX
          replace hb := below_drewN hb m
          generalize w2.drewN m = w3 at *
          go_wp2_with fail
          refine (WO.out _ hb).mono ?_
          rintro e w4 ⟨rfl, m, rfl⟩
          replace hX : (w3.drewN m).heap[w.heap.size]? = _ := hX
          replace hb := below_drewN hb m
          generalize w3.drewN m = w4 at *
          go_wp2_with fail
          refine (UN.out _).mono ?_
          rintro e w5 ⟨rfl, hq⟩
          replace hX := (hq.block _ (lt_of_heap hX)).trans hX
          replace hb := hb.trans (hq.mono hb.size)
          clear hq UN
          generalize hd9 : dec wv = d9 at *
          obtain ⟨x0, x1, x2, x3, x4, x5, x6⟩ := d9
          have HD9 := Lib.hid hd9
          clear hd9
          unfold Hd.val at *
          simp only at *
          go_upto_region 5 with fail
          have hXlt := lt_of_heap hX
          have hH := heap_one w5 (.cells #[.int .u64 x0, .int .i64 x1, .int .i64 x2, .int .i64 x3, .int .i64 x4, .int .i64 x5, .bool x6] 24)
          have hb6 := (Below.refl w5.heap.size w5).alloc (Nat.le_refl _) (.cells #[.int .u64 x0, .int .i64 x1, .int .i64 x2, .int .i64 x3, .int .i64 x4, .int .i64 x5, .bool x6] 24)
          replace hX := (hb6.block _ (lt_of_heap hX)).trans hX
          have hwq : w.heap.size < w5.heap.size := hXlt
          replace hb := hb.trans (hb6.mono hb.size)
          clear hb6
          generalize w5.alloc (.cells #[.int .u64 x0, .int .i64 x1, .int .i64 x2, .int .i64 x3, .int .i64 x4, .int .i64 x5, .bool x6] 24) = w6 at *
          generalize w5.heap.size = q at *
          obtain ⟨cH, fH⟩ := hcell hH
          go_wp2_with fail
          refine (HS.out _).mono ?_
          rintro e w7 ⟨rfl, hq⟩
          replace hX := (hq.block _ (lt_of_heap hX)).trans hX
          replace hH := (hq.block _ (lt_of_heap hH)).trans hH
          replace hb := hb.trans (hq.mono hb.size)
          clear hq HS cH fH
          go_wp2_with fail
          refine (TO.out _ hb).mono ?_
          rintro e w8 ⟨rfl, m, rfl⟩
          replace hX : (w7.drewN m).heap[w.heap.size]? = _ := hX
          replace hH : (w7.drewN m).heap[q]? = _ := hH
          replace hb := below_drewN hb m
          clear TO
          generalize w7.drewN m = w8 at *
          go_wp2_with fail
          refine (WO2.out _ hb).mono ?_
          rintro e w9 ⟨rfl, m, rfl⟩
          replace hX : (w8.drewN m).heap[w.heap.size]? = _ := hX
          replace hH : (w8.drewN m).heap[q]? = _ := hH
          replace hb := below_drewN hb m
          generalize w8.drewN m = w9 at *
          obtain ⟨cX, fX⟩ := hcell hX
          obtain ⟨cH, fH⟩ := hcell hH
          have lX := lt_of_heap hX
          have lH := lt_of_heap hH
          have hne : ¬ q = w.heap.size := by omega
          have hne2 : ¬ w.heap.size = q := by omega
          go_wp2_with fail
          have hb10 := Below.setCell (p := ⟨q, 0, none⟩) hb (Nat.le_of_lt hwq) (.int .u64 sv)
          have hX10 : (w9.setCell ⟨q, 0, none⟩ (.int .u64 sv)).heap[w.heap.size]? = _ := (block_set_ne (by omega)).trans hX
          obtain ⟨cX10, fX10⟩ := hcell hX10
          exact bodyPost_ret (v := .tuple #[.agg #[.int .u64 sv, .int .i64 x1, .int .i64 x2, .int .i64 x3, .int .i64 x4, .int .i64 x5, .bool x6], .bool true]) (by simp [results, Tryd.results108, go_sem, cX10]) rfl ⟨by rw [HD9.out]; rfl, set7_below _ _ _ _ _ _ _ hb10 (Nat.le_refl _)⟩
        · have ho : A.isObj i = false := by rw [hob, decide_eq_false hf]; simp
          have df : decide (A.top (A.space i) < i + A.osz i) = true := by simp; omega
          rw [no ho, ho]
          clear hhd hob no hunp hwd ho hu
          generalize A.top (A.space i) = tp at *
          generalize A.space i = s at *
          generalize hosz2 : A.osz i = oz at *
          generalize A.word i = wv at *
          go_enter Tryd.func108, Tryd.ntmps108
          go_upto_region 1 with fail
          generalize w.alloc (.cells #[.int .u64 0, .int .i64 0, .int .i64 0, .int .i64 0, .int .i64 0, .int .i64 0, .bool false] 24) = w1 at *
          go_wp2_with fail
          refine (SO.out _ hb).mono ?_
          rintro e w2 ⟨rfl, m, rfl⟩
          replace hX : (w1.drewN m).heap[w.heap.size]? = _ := hX
          replace hb := below_drewN hb m
          clear SO
          generalize w1.drewN m = w2 at *
          go_wp2_with fail
          refine (TO.out _ hb).mono ?_
          rintro e w3 ⟨rfl, m, rfl⟩
          replace hX : (w2.drewN m).heap[w.heap.size]? = _ := hX
          replace hb := below_drewN hb m
          generalize w2.drewN m = w3 at *
          go_wp2_with fail
          refine (WO.out _ hb).mono ?_
          rintro e w4 ⟨rfl, m, rfl⟩
          replace hX : (w3.drewN m).heap[w.heap.size]? = _ := hX
          replace hb := below_drewN hb m
          generalize w3.drewN m = w4 at *
          go_wp2_with fail
          refine (UN.out _).mono ?_
          rintro e w5 ⟨rfl, hq⟩
          replace hX := (hq.block _ (lt_of_heap hX)).trans hX
          replace hb := hb.trans (hq.mono hb.size)
          clear hq UN
          generalize hd9 : dec wv = d9 at *
          clear hd9
          obtain ⟨x0, x1, x2, x3, x4, x5, x6⟩ := d9
          unfold Hd.val at *
          simp only at *
          go_upto_region 5 with fail
          have hH := heap_one w5 (.cells #[.int .u64 x0, .int .i64 x1, .int .i64 x2, .int .i64 x3, .int .i64 x4, .int .i64 x5, .bool x6] 24)
          have hb6 := (Below.refl w5.heap.size w5).alloc (Nat.le_refl _) (.cells #[.int .u64 x0, .int .i64 x1, .int .i64 x2, .int .i64 x3, .int .i64 x4, .int .i64 x5, .bool x6] 24)
          replace hX := (hb6.block _ (lt_of_heap hX)).trans hX
          have hwq : w.heap.size ≤ w5.heap.size := hb.size
          replace hb := hb.trans (hb6.mono hb.size)
          clear hb6
          generalize w5.alloc (.cells #[.int .u64 x0, .int .i64 x1, .int .i64 x2, .int .i64 x3, .int .i64 x4, .int .i64 x5, .bool x6] 24) = w6 at *
          generalize w5.heap.size = q at *
          obtain ⟨cH, fH⟩ := hcell hH
          go_wp2_with fail
          refine (HS.out _).mono ?_
          rintro e w7 ⟨rfl, hq⟩
          replace hX := (hq.block _ (lt_of_heap hX)).trans hX
          replace hH := (hq.block _ (lt_of_heap hH)).trans hH
          replace hb := hb.trans (hq.mono hb.size)
          clear hq HS cH fH
          go_wp2_with fail
          refine (TO.out _ hb).mono ?_
          rintro e w8 ⟨rfl, m, rfl⟩
          replace hX : (w7.drewN m).heap[w.heap.size]? = _ := hX
          replace hH : (w7.drewN m).heap[q]? = _ := hH
          replace hb := below_drewN hb m
          clear TO
          generalize w7.drewN m = w8 at *
          obtain ⟨cX, fX⟩ := hcell hX
          go_wp2_with fail
          exact bodyPost_ret (v := .tuple #[nohd.val, .bool false]) (by simp [results, Tryd.results108, go_sem, nohd, Hd.val, cX]) rfl ⟨rfl, set7_below _ _ _ _ _ _ _ hb (Nat.le_refl _)⟩
      · have hh' : isHd (A.word i) = false := by simpa using hh
        have ho : A.isObj i = false := by rw [hob, hh']; simp
        rw [no ho, ho]
        rw [hh'] at UN
        clear hhd hob no hunp hwd hosz hh ho
        generalize A.top (A.space i) = tp at *
        generalize A.space i = s at *
        generalize A.word i = wv at *
        go_enter Tryd.func108, Tryd.ntmps108
        go_upto_region 1 with fail
        generalize w.alloc (.cells #[.int .u64 0, .int .i64 0, .int .i64 0, .int .i64 0, .int .i64 0, .int .i64 0, .bool false] 24) = w1 at *
        go_wp2_with fail
        refine (SO.out _ hb).mono ?_
        rintro e w2 ⟨rfl, m, rfl⟩
        replace hX : (w1.drewN m).heap[w.heap.size]? = _ := hX
        replace hb := below_drewN hb m
        clear SO
        generalize w1.drewN m = w2 at *
        go_wp2_with fail
        refine (TO.out _ hb).mono ?_
        rintro e w3 ⟨rfl, m, rfl⟩
        replace hX : (w2.drewN m).heap[w.heap.size]? = _ := hX
        replace hb := below_drewN hb m
        generalize w2.drewN m = w3 at *
        go_wp2_with fail
        refine (WO.out _ hb).mono ?_
        rintro e w4 ⟨rfl, m, rfl⟩
        replace hX : (w3.drewN m).heap[w.heap.size]? = _ := hX
        replace hb := below_drewN hb m
        generalize w3.drewN m = w4 at *
        go_wp2_with fail
        refine (UN.out _).mono ?_
        rintro e w5 ⟨rfl, hq⟩
        replace hX := (hq.block _ (lt_of_heap hX)).trans hX
        replace hb := hb.trans (hq.mono hb.size)
        clear hq UN
        generalize unp wv = u9 at *
        obtain ⟨x0, x1, x2, x3, x4, x5, x6⟩ := u9
        unfold Hd.val
        simp only
        go_upto_region 5 with fail
        have hb6 := (Below.refl w5.heap.size w5).alloc (Nat.le_refl _) (.cells #[.int .u64 x0, .int .i64 x1, .int .i64 x2, .int .i64 x3, .int .i64 x4, .int .i64 x5, .bool x6] 24)
        replace hX := (hb6.block _ (lt_of_heap hX)).trans hX
        replace hb := hb.trans (hb6.mono hb.size)
        clear hb6
        generalize w5.alloc (.cells #[.int .u64 x0, .int .i64 x1, .int .i64 x2, .int .i64 x3, .int .i64 x4, .int .i64 x5, .bool x6] 24) = w6 at *
        obtain ⟨cX, fX⟩ := hcell hX
        go_wp2_with fail
        exact bodyPost_ret (v := .tuple #[nohd.val, .bool false]) (by simp [results, Tryd.results108, go_sem, nohd, Hd.val, cX]) rfl ⟨rfl, set7_below _ _ _ _ _ _ _ hb (Nat.le_refl _)⟩
    · have dt : decide (A.top (A.space i) ≤ i) = true := by simp; omega
      have ho : A.isObj i = false := by rw [hob, decide_eq_false ht]; rfl
      rw [no ho, ho]
      clear hhd hob no hunp hwd UN WO WO2 hosz ho
      generalize A.top (A.space i) = tp at *
      generalize A.space i = s at *
      go_enter Tryd.func108, Tryd.ntmps108
      go_upto_region 1 with fail
      generalize w.alloc (.cells #[.int .u64 0, .int .i64 0, .int .i64 0, .int .i64 0, .int .i64 0, .int .i64 0, .bool false] 24) = w1 at *
      go_wp2_with fail
      refine (SO.out _ hb).mono ?_
      rintro e w2 ⟨rfl, m, rfl⟩
      replace hX : (w1.drewN m).heap[w.heap.size]? = _ := hX
      replace hb := below_drewN hb m
      clear SO
      generalize w1.drewN m = w2 at *
      go_wp2_with fail
      refine (TO.out _ hb).mono ?_
      rintro e w3 ⟨rfl, m, rfl⟩
      replace hX : (w2.drewN m).heap[w.heap.size]? = _ := hX
      replace hb := below_drewN hb m
      clear TO
      generalize w2.drewN m = w3 at *
      obtain ⟨cX, fX⟩ := hcell hX
      go_wp2_with fail
      exact bodyPost_ret (v := .tuple #[nohd.val, .bool false]) (by simp [results, Tryd.results108, go_sem, nohd, Hd.val, cX]) rfl ⟨rfl, set7_below _ _ _ _ _ _ _ hb (Nat.le_refl _)⟩
end Go.Proofs.YtomgfdfgildkbaaDoor
/- The document's own arena: Walk. -/


namespace Go.Proofs.YtomgfdfgildkbaaDoor
open Go.RowKit Go.BigFrame

/-- Where a walk fails; 0: nowhere. -/
def badOf : List Th → Int
  | [] => 0
  | x :: l => if x.words = 0 then x.at_ else badOf l
theorem badOf_app {l m : List Th} (h : ∀ x ∈ l, x.words ≠ 0) : badOf (l ++ m) = badOf m := by
  induction l with
  | nil => rfl
  | cons x l ih =>
    show (if x.words = 0 then x.at_ else badOf (l ++ m)) = _
    rw [if_neg (h x (by simp)), ih (fun y hy => h y (by simp [hy]))]
set_option maxRecDepth 100000 in
set_option maxHeartbeats 8000000 in
theorem rwalk_any (b : Nat) (c : Int → Nat) (A : Ar) (s : Int) (w : World) (h : RfAt w b c A) (ok : A.Ok) : Calls Tryd.prog 132 #[.pointer (some ⟨b, 0, none⟩), .int .i64 s] w fun e w' => ∃ v, e = .returned (.tuple #[v, .int .i64 (badOf (A.all s))]) ∧ w'.ownsRow w.heap.size 3 1 v (A.objs s).length ((A.objs s).map fun x => Value.int .i64 x.1) ∧ Below w.heap.size w w' := by
  have IS := Lib.hid (rspace_any s w)
  by_cases hs : isSp s = true
  · rw [hs] at IS
    obtain ⟨i1, hi1, hz1, hs1, hy1⟩ := info_parts infoInt
    have bel : ∀ (W : World) (m : Nat), Below w.heap.size w W → Below w.heap.size w (W.drewN m) := fun W m h => below_drewN h m
    have BO := Lib.hid (rbounds_any b c A s w h ok)
    have TO := Lib.hid (fun (W : World) (hb : Below w.heap.size w W) => rtop_any b c A s W (h.below hb) ok)
    have HO := Lib.hid (fun (i : Int) (W : World) (hb : Below w.heap.size w W) => rhead_any b c A i W (h.below hb) ok)
    have WO := Lib.hid (fun (i : Int) (W : World) (hb : Below w.heap.size w W) => rword_any b c A i W (h.below hb) ok)
    have FI := Lib.hid (fun (i : Int) (W : World) => rfilled_any (A.word i) W (ok.word i).1 (ok.word i).2)
    have HS := Lib.hid (fun (i : Int) (ho : A.isObj i = true) (W : World) => (by
      obtain ⟨g1, g2, g3, g4, g5, g6⟩ := isObj_facts ok ho
      have hp : (A.hd i).ptrs = (dec (A.word i)).ptrs ∧ (A.hd i).raws = (dec (A.word i)).raws := by rw [g6]; exact ⟨rfl, rfl⟩
      have := rhsize_any (A.hd i) W ⟨by rw [hp.1]; exact g4.p0, by rw [hp.1]; have := g4.p1; omega⟩ ⟨by rw [hp.2]; exact g4.r0, by rw [hp.2]; have := g4.r1; omega⟩
      rw [hp.1, hp.2, ← g5] at this
      exact this : Calls Tryd.prog 151 #[(A.hd i).val] W fun e w' => e = .returned (.int .i64 (A.osz i)) ∧ Below W.heap.size W w'))
    have OZ := Lib.hid (fun (i : Int) (ho : A.isObj i = true) => Ar.osz_bd (A := A) (i := i) (by unfold Ar.isObj at ho; simp only [Bool.and_eq_true] at ho; exact ho.1.2))
    have OT := Lib.hid (fun (i : Int) (ho : A.isObj i = true) (h1 : A.first s ≤ i) (h2 : i < A.behind s) => (by
      unfold Ar.isObj at ho
      simp only [Bool.and_eq_true, decide_eq_true_eq] at ho
      rw [Ar.space_of ok hs h1 h2] at ho
      exact ho.2 : A.osz i ≤ A.top s - i))
    have hz := ok.sizes s
    have hlen := A.objs_len ok s
    have hall : A.all s = A.things s (A.first s) := by unfold Ar.all; rw [if_pos hs]
    rw [A.objs_all] at hlen ⊢
    have HALL := Lib.hid hall
    have HLEN := Lib.hid hlen
    have hlw := lt_of_heap h.st
    clear h ok bel hall hlen
    go_enter Tryd.func132, Tryd.ntmps132
    go_wp2_with fail
    refine IS.out.mono ?_
    rintro e w1 ⟨rfl, rfl⟩
    go_wp2_with fail
    refine BO.out.mono ?_
    rintro e w1 ⟨rfl, m, rfl⟩
    go_wp2_with fail
    go_loopw [6, 7] (fun v p wx => ∃ (pre : List Th) (i : Int), p = .int .i64 i ∧ A.all s = pre ++ A.things s i ∧ A.first s ≤ i ∧ i ≤ A.behind s ∧ (∀ x ∈ pre, x.words ≠ 0) ∧ wx.ownsRow w.heap.size 3 1 v (objsOf pre).length ((objsOf pre).map fun x => Value.int .i64 x.1) ∧ Below w.heap.size w wx) (fun _ p _ => (A.top s - intOf p).toNat)
    case atStart => exact ⟨[], A.first s, rfl, by rw [HALL.out]; rfl, by omega, by omega, fun x hx => by simp at hx, World.ownsRow_nil _ _ _ _, below_drewN (Below.refl _ _) m⟩
    case round =>
      obtain ⟨pre, i, rfl, hx, f1, f2, hpw, hrow, hb⟩ := hrel
      have TOr := Lib.hid (TO.out _ hb)
      by_cases hlt : i < A.top s
      · have d1 : decide (i < A.top s) = true := by simpa using hlt
        by_cases ho : A.isObj i = true
        · have hth : A.th s i = ⟨i, A.osz i, A.hd i, true⟩ := by unfold Ar.th; rw [if_pos ho]
          obtain ⟨o1, o2⟩ := OZ.out i ho
          have o3 := OT.out i ho f1 (by omega)
          have hon := A.things_on hlt (by rw [hth]; show 0 < A.osz i; omega)
          have hol : (objsOf (pre ++ [A.th s i])) = objsOf pre ++ [(i, A.hd i)] := by rw [objsOf_snoc, hth]; rfl
          have hln : (objsOf pre).length + 1 ≤ 262145 := by
            have h1 : objsOf (pre ++ [A.th s i]) <+: objsOf (A.all s) := by
              refine objsOf_prefix ⟨A.things s (i + (A.th s i).words), ?_⟩
              rw [hx, hon]; simp
            have h2 := h1.length_le
            rw [hol] at h2
            have := HLEN.out
            simp at h2; omega
          go_wp2_with fail
          refine TOr.out.mono ?_
          rintro e w2 ⟨rfl, m2, rfl⟩
          have hb2 := below_drewN hb m2
          have hrow2 : (wr.drewN m2).ownsRow w.heap.size 3 1 u6 (objsOf pre).length ((objsOf pre).map fun x => Value.int .i64 x.1) := hrow
          have H1 := HO.out i _ hb2
          have HS1 := HS.out i ho
          rw [ho] at H1
          clear hrow hb TOr HO WO FI HS OZ OT TO IS BO
          generalize wr.drewN m2 = w2 at *
          generalize hh9 : A.hd i = h9 at *
          obtain ⟨x0, x1, x2, x3, x4, x5, x6⟩ := h9
          have HH9 := Lib.hid hh9
          have HX := Lib.hid hx
          have HON := Lib.hid hon
          have HTH := Lib.hid hth
          have HOL := Lib.hid hol
          clear hh9 hx hon hth hol
          unfold Hd.val at H1 HS1
          simp only at H1 HS1
          generalize hoz : A.osz i = oz at *
          have HOZ := Lib.hid hoz
          clear hoz
          go_wp2_with fail
          refine H1.mono ?_
          rintro e w3 ⟨rfl, hq⟩
          have hrow3 := ownsRow_heap (w' := w3) hrow2 (fun k hk => hq.block k (hrow2.lt k hk).2)
          have hb3 := hb2.trans (hq.mono hb2.size)
          clear hrow2 hb2 hq H1
          go_upto_region 7 with fail
          have hH := heap_one w3 (.cells #[.int .u64 x0, .int .i64 x1, .int .i64 x2, .int .i64 x3, .int .i64 x4, .int .i64 x5, .bool x6] 24)
          have hq := (Below.refl w3.heap.size w3).alloc (Nat.le_refl _) (.cells #[.int .u64 x0, .int .i64 x1, .int .i64 x2, .int .i64 x3, .int .i64 x4, .int .i64 x5, .bool x6] 24)
          have hrow4 := hrow3.alloc (.cells #[.int .u64 x0, .int .i64 x1, .int .i64 x2, .int .i64 x3, .int .i64 x4, .int .i64 x5, .bool x6] 24)
          have hb4 := hb3.trans (hq.mono hb3.size)
          have hrl : ∀ k, u6.ownBlock = some k → k < w3.heap.size := fun k hk => (hrow3.lt k hk).2
          clear hrow3 hq hb3
          generalize w3.alloc (.cells #[.int .u64 x0, .int .i64 x1, .int .i64 x2, .int .i64 x3, .int .i64 x4, .int .i64 x5, .bool x6] 24) = w4 at *
          generalize w3.heap.size = q at *
          have lq := lt_of_heap hH
          have sb4 := hb4.size
          go_upto_region 9 with (at_builtin; refine wpList_append_lies _ rfl _ _ 59 rfl w.heap.size 3 i1 (.int .i64 0) 1 8 Tryd.underlying59 hi1 hz1 hs1 hy1 rfl (by decide) u6 (objsOf pre).length _ rfl (hrow4.alloc _) ⟨w4.heap.size, 0, none⟩ 1 1 [.int .i64 i] rfl rfl (cell_one_new _ _ _) (fun u hu => by simp at hu; subst hu; rfl) (by decide) (by unfold maxLen; omega) (by omega) (by simp; omega) (w4.heap.size + 1) (by simp) ?_; intro g1 cap1 w5 hown1 hgrow1 hat1 hlt1)
          have hH5 := (hgrow1.block q (by simp; omega) (fun e => by have := hrl q e.symm; omega)).trans ((((Below.refl w4.heap.size w4).alloc (Nat.le_refl _) (.cells #[.int .i64 i] 3)).block q lq).trans hH)
          have hb5 := ((hb4.alloc sb4 (.cells #[.int .i64 i] 3)).grown hgrow1 (by simp; omega) (fun k hk => (hrow4.lt k hk).1))
          obtain ⟨cH, fH⟩ := hcell hH5
          go_wp2_with fail
          refine (HS1 _).mono ?_
          rintro e w6 ⟨rfl, hq6⟩
          have hrow6 := ownsRow_heap (w' := w6) hown1 (fun k hk => hq6.block k (hown1.lt k hk).2)
          have hi262 : i ≤ 262145 := by omega
          go_wp2_with fail
          refine ⟨⟨pre ++ [A.th s i], i + oz, rfl, ?_, by omega, by omega, fun x hxm => ?_, ?_, hb5.trans (hq6.mono hb5.size)⟩, by simp [intOf]; omega⟩
          · rw [HX.out, HON.out, HTH.out]; simp
          · rcases List.mem_append.1 hxm with q1 | q1
            · exact hpw x q1
            · simp at q1; rw [q1, HTH.out]; simp only; omega
          · rw [HOL.out]; simpa using hrow6
        · have ho' : A.isObj i = false := by simpa using ho
          have hth : A.th s i = ⟨i, A.fw s i, nohd, false⟩ := by unfold Ar.th; rw [ho']; rfl
          have hfw : A.fw s i = if (numT 3 (A.word i)).2 = true ∧ (numT 3 (A.word i)).1 ≤ A.top s - i then (numT 3 (A.word i)).1 else 0 := rfl
          have hpos : (numT 3 (A.word i)).2 = true → 1 ≤ (numT 3 (A.word i)).1 ∧ (numT 3 (A.word i)).1 ≤ 1099511627776 := fun h => by
            unfold numT at h ⊢
            split at h
            · rename_i q; rw [if_pos q]; exact ⟨q.2.1, q.2.2⟩
            · simp at h
          have hon := fun q => A.things_on hlt q
          have hoff := fun q => A.things_bad hlt q
          rw [hth] at hon hoff
          have hol : ∀ l, objsOf (pre ++ [(⟨i, l, nohd, false⟩ : Th)]) = objsOf pre := fun l => by rw [objsOf_snoc]; rfl
          go_wp2_with fail
          refine TOr.out.mono ?_
          rintro e w2 ⟨rfl, m2, rfl⟩
          have hb2 := below_drewN hb m2
          have hrow2 : (wr.drewN m2).ownsRow w.heap.size 3 1 u6 (objsOf pre).length ((objsOf pre).map fun x => Value.int .i64 x.1) := hrow
          have H1 := HO.out i _ hb2
          have hnh : A.hd i = nohd := by unfold Ar.hd; rw [ho']; rfl
          rw [ho', hnh] at H1
          have WOi := Lib.hid (WO.out i)
          have FIi := Lib.hid (FI.out i)
          clear hrow hb TOr HO WO FI HS OZ OT IS BO
          generalize wr.drewN m2 = w2 at *
          have HX := Lib.hid hx
          clear hx hnh
          unfold nohd Hd.val at H1
          simp only at H1
          generalize A.word i = wv at *
          generalize hnt : numT 3 wv = nt at *
          obtain ⟨fn, fo⟩ := nt
          simp only at FIi
          go_wp2_with fail
          refine H1.mono ?_
          rintro e w3 ⟨rfl, hq⟩
          have hrow3 := ownsRow_heap (w' := w3) hrow2 (fun k hk => hq.block k (hrow2.lt k hk).2)
          have hb3 := hb2.trans (hq.mono hb2.size)
          clear hrow2 hb2 hq H1
          go_upto_region 10 with fail
          have hq := (Below.refl w3.heap.size w3).alloc (Nat.le_refl _) (.cells #[.int .u64 0, .int .i64 0, .int .i64 0, .int .i64 0, .int .i64 0, .int .i64 0, .bool false] 24)
          have hrow4 := hrow3.alloc (.cells #[.int .u64 0, .int .i64 0, .int .i64 0, .int .i64 0, .int .i64 0, .int .i64 0, .bool false] 24)
          have hb4 := hb3.trans (hq.mono hb3.size)
          clear hrow3 hq hb3
          generalize w3.alloc (.cells #[.int .u64 0, .int .i64 0, .int .i64 0, .int .i64 0, .int .i64 0, .int .i64 0, .bool false] 24) = w4 at *
          go_wp2_with fail
          refine (WOi.out _ hb4).mono ?_
          rintro e w5 ⟨rfl, m3, rfl⟩
          have hrow5 : (w4.drewN m3).ownsRow w.heap.size 3 1 u6 (objsOf pre).length ((objsOf pre).map fun x => Value.int .i64 x.1) := hrow4
          have hb5 := below_drewN hb4 m3
          clear hrow4 hb4
          generalize w4.drewN m3 = w5 at *
          go_wp2_with fail
          refine (FIi.out _).mono ?_
          rintro e w6 ⟨rfl, rfl⟩
          cases fo with
          | false =>
            have hz : A.fw s i = 0 := by rw [hfw, if_neg (by simp)]
            rw [hz] at hon hoff
            have HOFF := Lib.hid (hoff (by simp))
            have HOL := Lib.hid (hol 0)
            clear hon hoff hol hfw hpos hth
            go_wp2_with fail
            go_ret2
            refine ⟨u6, by rw [HX.out, HOFF.out, badOf_app hpw]; rfl, ?_, hb5⟩
            rw [HX.out, HOFF.out, HOL.out]
            exact hrow5
          | true =>
            obtain ⟨p0, p1⟩ := hpos rfl
            have i262 : i ≤ 262145 := by omega
            have TO5 := Lib.hid (TO.out _ hb5)
            by_cases hf : fn ≤ A.top s - i
            · have hz : A.fw s i = fn := by rw [hfw, if_pos ⟨rfl, hf⟩]
              have df : decide (A.top s < i + fn) = false := by simp; omega
              rw [hz] at hon
              have HON := Lib.hid (hon (by show 0 < fn; omega))
              have HOL := Lib.hid (hol fn)
              clear hon hoff hol hfw hpos hth
              go_wp2_with fail
              refine TO5.out.mono ?_
              rintro e w7 ⟨rfl, m4, rfl⟩
              go_wp2_with fail
              refine ⟨⟨pre ++ [⟨i, fn, nohd, false⟩], i + fn, rfl, by rw [HX.out, HON.out]; simp, by omega, by omega, fun x hxm => ?_, ?_, below_drewN hb5 _⟩, by simp [intOf]; omega⟩
              · rcases List.mem_append.1 hxm with q1 | q1
                · exact hpw x q1
                · simp at q1; rw [q1]; simp only; omega
              · rw [HOL.out]; exact hrow5
            · have hz : A.fw s i = 0 := by rw [hfw, if_neg (fun q => hf q.2)]
              have df : decide (A.top s < i + fn) = true := by simp; omega
              rw [hz] at hon hoff
              have HOFF := Lib.hid (hoff (by simp))
              have HOL := Lib.hid (hol 0)
              clear hon hoff hol hfw hpos hth
              go_wp2_with fail
              refine TO5.out.mono ?_
              rintro e w7 ⟨rfl, m4, rfl⟩
              go_wp2_with fail
              go_ret2
              refine ⟨u6, by rw [HX.out, HOFF.out, badOf_app hpw]; rfl, ?_, below_drewN hb5 _⟩
              rw [HX.out, HOFF.out, HOL.out]
              exact hrow5
      · have d1 : decide (i < A.top s) = false := by simpa using hlt
        have hnil := A.things_end hlt
        rw [hnil, List.append_nil] at hx
        have HX := Lib.hid hx
        clear hx hnil
        go_wp2_with fail
        refine TOr.out.mono ?_
        rintro e w2 ⟨rfl, m2, rfl⟩
        go_wp2_with fail
        go_ret2
        refine ⟨u6, by rw [HX.out]; have := badOf_app (m := []) hpw; rw [List.append_nil] at this; rw [this]; rfl, ?_, below_drewN hb _⟩
        rw [HX.out]
        exact hrow
  · have hs' : isSp s = false := by simpa using hs
    have h1 : A.all s = [] := by unfold Ar.all; rw [if_neg hs]
    have h2 : A.objs s = [] := by unfold Ar.objs; rw [if_neg hs]
    rw [h1, h2]
    rw [hs'] at IS
    clear h ok h1 h2
    go_enter Tryd.func132, Tryd.ntmps132
    go_wp2_with fail
    refine IS.out.mono ?_
    rintro e w1 ⟨rfl, rfl⟩
    go_wp2_with fail
    go_ret2
    exact ⟨.slice none 0 0, rfl, World.ownsRow_nil _ _ _ _, Below.refl _ _⟩
end Go.Proofs.YtomgfdfgildkbaaDoor
/- Check, the document's and the program's: the first place at which a walk fails. -/

namespace Go.Proofs.YtomgfdfgildkbaaDoor
open Go.RowKit Go.BigFrame

def chkFrom (A : Ar) (s : Int) : Int × Int :=
  if s < 5 then (if 0 < badOf (A.all s) then (badOf (A.all s), 31) else chkFrom A (s + 1)) else (0, 0)
termination_by (5 - s).toNat
decreasing_by omega
theorem chkFrom_end (A : Ar) {s : Int} (h : ¬ s < 5) : chkFrom A s = (0, 0) := by rw [chkFrom]; simp [h]
theorem chkFrom_bad (A : Ar) {s : Int} (h : s < 5) (h2 : 0 < badOf (A.all s)) : chkFrom A s = (badOf (A.all s), 31) := by rw [chkFrom]; simp [h, h2]
theorem chkFrom_on (A : Ar) {s : Int} (h : s < 5) (h2 : ¬ 0 < badOf (A.all s)) : chkFrom A s = chkFrom A (s + 1) := by rw [chkFrom]; simp [h, h2]
set_option maxHeartbeats 2000000 in
theorem rcheckA_any (b : Nat) (c : Int → Nat) (A : Ar) (w : World) (h : RfAt w b c A) (ok : A.Ok) : Calls Tryd.prog 112 #[.pointer (some ⟨b, 0, none⟩)] w fun e w' => e = .returned (.tuple #[.int .i64 (chkFrom A 1).1, .int .i64 (chkFrom A 1).2]) ∧ Below w.heap.size w w' := by
  have WO := Lib.hid (fun (s : Int) (W : World) (hb : Below w.heap.size w W) => (rwalk_any b c A s W (h.below hb) ok).mono (R' := fun e w' => (∃ v, e = .returned (.tuple #[v, .int .i64 (badOf (A.all s))])) ∧ Below w.heap.size w w') fun e w' ⟨v, h1, _, h3⟩ => ⟨⟨v, h1⟩, hb.trans (h3.mono hb.size)⟩)
  have C1 := Lib.hid (fun s => @chkFrom_end A s)
  have C2 := Lib.hid (fun s => @chkFrom_bad A s)
  have C3 := Lib.hid (fun s => @chkFrom_on A s)
  clear h ok
  generalize hr : chkFrom A 1 = r at *
  have HR := Lib.hid hr
  clear hr
  go_enter Tryd.func112, Tryd.ntmps112
  go_wp2_with fail
  go_loopw [4] (fun iv wx => ∃ k : Int, 1 ≤ k ∧ k ≤ 5 ∧ iv = .int .i64 k ∧ chkFrom A k = r ∧ Below w.heap.size w wx) (fun iv _ => (5 - intOf iv).toNat)
  case atStart => exact ⟨1, by omega, by omega, rfl, HR.out, Below.refl _ _⟩
  case round =>
    obtain ⟨k, k1, k5, rfl, hc, hb⟩ := hrel
    by_cases hlt : k < 5
    · have d0 : decide (k < 5) = true := by simpa using hlt
      have WOk := Lib.hid (WO.out k _ hb)
      by_cases q : 0 < badOf (A.all k)
      · have e1 := C2.out k hlt (by omega)
        rw [hc] at e1
        have dq : decide (0 < badOf (A.all k)) = true := by simpa using q
        have E1 := Lib.hid e1
        clear e1 hc
        generalize badOf (A.all k) = bk at *
        go_wp2_with fail
        refine WOk.out.mono ?_
        rintro e w1 ⟨⟨v, rfl⟩, hb1⟩
        go_wp2_with fail
        go_ret2
        exact ⟨by rw [E1.out]; rfl, hb1⟩
      · have e1 := C3.out k hlt (by omega)
        rw [hc] at e1
        have dq : decide (0 < badOf (A.all k)) = false := by simpa using q
        have E1 := Lib.hid e1
        clear e1 hc
        generalize badOf (A.all k) = bk at *
        go_wp2_with fail
        refine WOk.out.mono ?_
        rintro e w1 ⟨⟨v, rfl⟩, hb1⟩
        go_wp2_with fail
        exact ⟨⟨k + 1, by omega, by omega, by go_num, E1.out.symm, hb1⟩, by simp [intOf]; omega⟩
    · have e1 := C1.out k (by omega)
      rw [hc] at e1
      have E1 := Lib.hid e1
      clear e1 hc
      go_wp2_with fail
      go_ret2
      exact ⟨by rw [E1.out]; rfl, hb⟩
end Go.Proofs.YtomgfdfgildkbaaDoor
