/- Opening an argument of the type []middenlaw13.Op. -/
import Derived.Test.YtomgfdfgildkbaaDoorOpenCfg
import Derived.Test.YtomgfdfgildkbaaDoorGq
import Derived.Deep.Slices
namespace Go.Proofs.YtomgfdfgildkbaaDoor
open Go.Joins Go.ChangeShapes Go.WideShapes Go.RowKit Go.Deep Go.ChangeAt
theorem cellsCt : Tryd.prog.cellsOf 93 = 12 := by kernel_rfl
theorem cellsIntO : Tryd.prog.cellsOf 3 = 1 := by kernel_rfl
theorem cellsU64O : Tryd.prog.cellsOf 22 = 1 := by kernel_rfl
section
variable {H : Type} {enc : TypeId × Value → H} {w : World} {base : Nat} {spare : Nat → Bool} {held : Bool}
theorem struct6 {P : Program} {t : TypeId} {f0 f1 f2 f3 f4 f5 : Field} {fuel : Nat} {cs : List Value} {x : DataW H × List MemPlace} (hs : P.underlying t = some (.struct #[f0, f1, f2, f3, f4, f5])) (hC : P.cellsOf t = 12)
    (ho : f0.offset = 0 ∧ f1.offset = 1 ∧ f2.offset = 2 ∧ f3.offset = 9 ∧ f4.offset = 10 ∧ f5.offset = 11)
    (hc : P.cellsOf f0.type = 1 ∧ P.cellsOf f1.type = 1 ∧ P.cellsOf f2.type = 7 ∧ P.cellsOf f3.type = 1 ∧ P.cellsOf f4.type = 1 ∧ P.cellsOf f5.type = 1)
    (h : DataW.trod enc P w base spare held fuel t cs = some x) : ∃ (c0 c1 c2 c3 c4 c5 c6 c7 c8 c9 c10 c11 : Value) (n : Nat) (y0 y1 y2 y3 y4 y5 : DataW H × List MemPlace), cs = [c0, c1, c2, c3, c4, c5, c6, c7, c8, c9, c10, c11] ∧
      DataW.trod enc P w base spare held n f0.type [c0] = some y0 ∧ DataW.trod enc P w base spare held n f1.type [c1] = some y1 ∧ DataW.trod enc P w base spare held n f2.type [c2, c3, c4, c5, c6, c7, c8] = some y2 ∧ DataW.trod enc P w base spare held n f3.type [c9] = some y3 ∧ DataW.trod enc P w base spare held n f4.type [c10] = some y4 ∧ DataW.trod enc P w base spare held n f5.type [c11] = some y5 := by
  obtain ⟨xs, k, hk, hxy, hlen, hxl, hf⟩ := DataW.trod_struct hs h
  rw [hC] at hlen
  obtain ⟨o0, o1, o2, o3, o4, o5⟩ := ho
  obtain ⟨k0, k1, k2, k3, k4, k5⟩ := hc
  match cs, hlen with
  | [c0, c1, c2, c3, c4, c5, c6, c7, c8, c9, c10, c11], _ =>
    match xs, hxl with
    | [y0, y1, y2, y3, y4, y5], _ =>
      exact ⟨c0, c1, c2, c3, c4, c5, c6, c7, c8, c9, c10, c11, k, y0, y1, y2, y3, y4, y5, rfl, by simpa [o0, k0] using hf 0 f0 rfl, by simpa [o1, k1] using hf 1 f1 rfl, by simpa [o2, k2] using hf 2 f2 rfl, by simpa [o3, k3] using hf 3 f3 rfl, by simpa [o4, k4] using hf 4 f4 rfl, by simpa [o5, k5] using hf 5 f5 rfl⟩
theorem struct7 {P : Program} {t : TypeId} {f0 f1 f2 f3 f4 f5 f6 : Field} {fuel : Nat} {cs : List Value} {x : DataW H × List MemPlace} (hs : P.underlying t = some (.struct #[f0, f1, f2, f3, f4, f5, f6])) (hone : oneCellFields P #[f0, f1, f2, f3, f4, f5, f6] = true) (hC : P.cellsOf t = 7)
    (h : DataW.trod enc P w base spare held fuel t cs = some x) : ∃ (c0 c1 c2 c3 c4 c5 c6 : Value) (n : Nat) (y0 y1 y2 y3 y4 y5 y6 : DataW H × List MemPlace), cs = [c0, c1, c2, c3, c4, c5, c6] ∧
      DataW.trod enc P w base spare held n f0.type [c0] = some y0 ∧ DataW.trod enc P w base spare held n f1.type [c1] = some y1 ∧ DataW.trod enc P w base spare held n f2.type [c2] = some y2 ∧ DataW.trod enc P w base spare held n f3.type [c3] = some y3 ∧ DataW.trod enc P w base spare held n f4.type [c4] = some y4 ∧ DataW.trod enc P w base spare held n f5.type [c5] = some y5 ∧ DataW.trod enc P w base spare held n f6.type [c6] = some y6 := by
  obtain ⟨xs, k, hk, hxy, hlen, hxl, hf⟩ := DataW.trod_struct hs h
  rw [hC] at hlen
  obtain ⟨o0, k0⟩ := hone_of hone 0 f0 rfl
  obtain ⟨o1, k1⟩ := hone_of hone 1 f1 rfl
  obtain ⟨o2, k2⟩ := hone_of hone 2 f2 rfl
  obtain ⟨o3, k3⟩ := hone_of hone 3 f3 rfl
  obtain ⟨o4, k4⟩ := hone_of hone 4 f4 rfl
  obtain ⟨o5, k5⟩ := hone_of hone 5 f5 rfl
  obtain ⟨o6, k6⟩ := hone_of hone 6 f6 rfl
  match cs, hlen with
  | [c0, c1, c2, c3, c4, c5, c6], _ =>
    match xs, hxl with
    | [y0, y1, y2, y3, y4, y5, y6], _ =>
      exact ⟨c0, c1, c2, c3, c4, c5, c6, k, y0, y1, y2, y3, y4, y5, y6, rfl, by simpa [o0, k0] using hf 0 f0 rfl, by simpa [o1, k1] using hf 1 f1 rfl, by simpa [o2, k2] using hf 2 f2 rfl, by simpa [o3, k3] using hf 3 f3 rfl, by simpa [o4, k4] using hf 4 f4 rfl, by simpa [o5, k5] using hf 5 f5 rfl, by simpa [o6, k6] using hf 6 f6 rfl⟩
theorem i64_i {n : Int} (h : -9223372036854775808 ≤ n ∧ n < 9223372036854775808) : I64 n := ⟨h.1, h.2⟩
set_option maxRecDepth 100000 in
/-- One call, out of its twelve cells. -/
theorem open_ct {fuel : Nat} {cs : List Value} {x : DataW H × List MemPlace} (h : DataW.trod enc Tryd.prog w base spare held fuel 93 cs = some x) : ∃ o : Ct, cs = o.cells.toList ∧ o.Bd := by
  obtain ⟨c0, c1, c2, c3, c4, c5, c6, c7, c8, c9, c10, c11, n, y0, y1, y2, y3, y4, y5, rfl, g0, g1, g7, g2, g3, g4⟩ := struct6 Tryd.underlying93 cellsCt ⟨rfl, rfl, rfl, rfl, rfl, rfl⟩ ⟨cellsIntO, cellsIntO, cellsHead, cellsIntO, cellsIntO, cellsU64O⟩ h
  obtain ⟨k0, e0, -, b0⟩ := DataW.trod_int Tryd.underlying3 g0
  obtain ⟨k1, e1, -, b1⟩ := DataW.trod_int Tryd.underlying3 g1
  obtain ⟨k2, e2, -, b2⟩ := DataW.trod_int Tryd.underlying3 g2
  obtain ⟨k3, e3, -, b3⟩ := DataW.trod_int Tryd.underlying3 g3
  obtain ⟨k4, e4, -, b4⟩ := DataW.trod_int Tryd.underlying22 g4
  obtain ⟨d0, d1, d2, d3, d4, d5, d6, n', z0, z1, z2, z3, z4, z5, z6, hd, f0, f1, f2, f3, f4, f5, f6⟩ := struct7 Tryd.underlying24 (by kernel_rfl) cellsHead g7
  obtain ⟨m0, q0, -, w0⟩ := DataW.trod_int Tryd.underlying22 f0
  obtain ⟨m1, q1, -, w1⟩ := DataW.trod_int Tryd.underlying3 f1
  obtain ⟨m2, q2, -, w2⟩ := DataW.trod_int Tryd.underlying3 f2
  obtain ⟨m3, q3, -, w3⟩ := DataW.trod_int Tryd.underlying3 f3
  obtain ⟨m4, q4, -, w4⟩ := DataW.trod_int Tryd.underlying3 f4
  obtain ⟨m5, q5, -, w5⟩ := DataW.trod_int Tryd.underlying3 f5
  obtain ⟨m6, q6, -⟩ := DataW.trod_bool Tryd.underlying4 f6
  simp only [List.cons.injEq, and_true] at e0 e1 e2 e3 e4 q0 q1 q2 q3 q4 q5 q6 hd
  obtain ⟨rfl, rfl, rfl, rfl, rfl, rfl, rfl⟩ := hd
  subst e0 e1 e2 e3 e4 q0 q1 q2 q3 q4 q5 q6
  exact ⟨⟨k0, k1, ⟨m0, m1, m2, m3, m4, m5, m6⟩, k2, k3, k4⟩, rfl, ⟨i64_i (i64_bd b1), i64_i (i64_bd w1), i64_i (i64_bd w2), i64_i (i64_bd w3), i64_i (i64_bd w4), i64_i (i64_bd w5), i64_i (i64_bd b2), i64_i (i64_bd b3), u64_bd b4, u64_bd w0⟩⟩
set_option maxRecDepth 100000 in
/-- A parameter of the type []middenlaw13.Op. -/
theorem open_ctsAt {r : Reach} {b0 : Nat} {v : Value} {d : DataW H} {p : List MemPlace} (hv : Value.okWide Tryd.prog w r b0 88 v) (h : DataW.Trod enc Tryd.prog w base spare held 88 v d p) :
    ∃ l : List Ct, CtsAt w v l ∧ (l.length : Int) ≤ 9223372036854775807 ∧ ∀ o ∈ l, o.Bd := by
  obtain ⟨a0, len0, cap0, rfl⟩ := okWide_slice Tryd.underlying88 hv
  obtain ⟨fuel, hf⟩ := h
  rcases open_slice Tryd.underlying88 hf with ⟨hcs, -⟩ | ⟨a, len, cap, m, n, D, Pl, hcs, -, hl, hm, hmm, -, hx⟩
  · refine ⟨[], ⟨none, 0, ?_, fun i hi => by simp at hi⟩, by simp, fun x hx => by simp at hx⟩
    simpa [Value.cells] using hcs
  · have hlm : len ≤ m := by rw [hmm]; split <;> omega
    have each : ∀ i, i < len → ∃ o : Ct, o.Bd ∧ ∀ j, j < 12 → w.cell? ((a.add (i * 12)).add j) = o.cells[j]? := fun i hi => by
      obtain ⟨cs', h1, h2⟩ := hx i (by omega)
      rw [cellsCt] at h1
      obtain ⟨_, hlen, hcell⟩ := World.cells?_some h1
      obtain ⟨o, rfl, hb⟩ := open_ct h2
      exact ⟨o, hb, fun j hj => by rw [hcell j hj]; simp⟩
    obtain ⟨f, hfo⟩ := choose_lt each
    have hlen : ((List.range len).map f).length = len := by simp
    have hget : ∀ i, i < len → ((List.range len).map f).getD i ct0 = f i := fun i hi => by
      rw [List.getD_eq_getElem?_getD, List.getElem?_map, List.getElem?_range hi]; rfl
    refine ⟨(List.range len).map f, ⟨some a, cap, ?_, fun i hi => ?_⟩, ?_, fun o ho => ?_⟩
    · rw [hlen]; simpa [Value.cells] using hcs
    · rw [hlen] at hi
      have c0 := (hfo 0 (by omega)).2 0 (by decide)
      obtain ⟨b, off, spot⟩ := a
      have hspot : spot = none := by
        obtain ⟨u, hu⟩ : ∃ u, (f 0).cells[0]? = some u := ⟨_, rfl⟩
        rw [hu] at c0
        simpa [Addr.add] using World.cell?_spot c0
      subst hspot
      refine ⟨b, off, rfl, fun j hj => ?_⟩
      rw [hget i hi, ← (hfo i hi).2 j hj, add_add, Go.WideShapes.add_plain, Nat.add_assoc]
    · rw [hlen]; unfold maxLen at hm; omega
    · obtain ⟨i, hi, rfl⟩ := List.mem_map.1 ho
      exact (hfo i (List.mem_range.1 hi)).1
end
end Go.Proofs.YtomgfdfgildkbaaDoor
