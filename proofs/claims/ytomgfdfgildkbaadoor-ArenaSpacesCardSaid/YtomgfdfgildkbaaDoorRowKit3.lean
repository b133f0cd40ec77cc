/- Opening an argument of the type api.Config, and a list of ints. -/
import Derived.Test.YtomgfdfgildkbaaDoorRowKit
import Derived.Test.YtomgfdfgildkbaaDoorLaw3c
namespace Go.Proofs.YtomgfdfgildkbaaDoor
open Go.Joins Go.ChangeShapes Go.WideShapes Go.RowKit Go.Deep Go.ChangeAt
theorem cellsConfig : Tryd.prog.cellsOf 45 = 14 := by kernel_rfl
theorem cellsInt : Tryd.prog.cellsOf 3 = 1 := by kernel_rfl
section
variable {H : Type} {enc : TypeId × Value → H} {w : World} {base : Nat} {spare : Nat → Bool} {held : Bool}
set_option maxRecDepth 100000 in
/-- A parameter of the type api.Config. -/
theorem open_config {r : Reach} {b0 : Nat} {v : Value} {d : DataW H} {p : List MemPlace} (hv : Value.okWide Tryd.prog w r b0 45 v) (h : DataW.Trod enc Tryd.prog w base spare held 45 v d p) :
    ∃ x : Cfg, v = x.val := by
  obtain ⟨c0, c1, c2, c3, c4, c5, c6, c7, c8, c9, c10, c11, c12, c13, y0, y1, y2, y3, y4, y5, y6, y7, y8, y9, y10, y11, y12, y13, n, rfl, -, -, g0, g1, g2, g3, g4, g5, g6, g7, g8, g9, g10, g11, g12, g13⟩ := open_agg14 Tryd.underlying45 (by kernel_rfl) cellsConfig hv h
  obtain ⟨k0, e0, -, -⟩ := DataW.trod_int Tryd.underlying3 g0
  obtain ⟨k1, e1, -, -⟩ := DataW.trod_int Tryd.underlying3 g1
  obtain ⟨k2, e2, -, -⟩ := DataW.trod_int Tryd.underlying3 g2
  obtain ⟨k3, e3, -, -⟩ := DataW.trod_int Tryd.underlying3 g3
  obtain ⟨k4, e4, -, -⟩ := DataW.trod_int Tryd.underlying3 g4
  obtain ⟨k5, e5, -, -⟩ := DataW.trod_int Tryd.underlying3 g5
  obtain ⟨k6, e6, -, -⟩ := DataW.trod_int Tryd.underlying3 g6
  obtain ⟨k7, e7, -, -⟩ := DataW.trod_int Tryd.underlying3 g7
  obtain ⟨k8, e8, -, -⟩ := DataW.trod_int Tryd.underlying3 g8
  obtain ⟨k9, e9, -, -⟩ := DataW.trod_int Tryd.underlying3 g9
  obtain ⟨k10, e10, -, -⟩ := DataW.trod_int Tryd.underlying3 g10
  obtain ⟨k11, e11, -, -⟩ := DataW.trod_int Tryd.underlying3 g11
  obtain ⟨k12, e12, -, -⟩ := DataW.trod_int Tryd.underlying3 g12
  obtain ⟨k13, e13, -, -⟩ := DataW.trod_int Tryd.underlying3 g13
  simp only [List.cons.injEq, and_true] at e0 e1 e2 e3 e4 e5 e6 e7 e8 e9 e10 e11 e12 e13
  subst e0 e1 e2 e3 e4 e5 e6 e7 e8 e9 e10 e11 e12 e13
  exact ⟨⟨k0, k1, k2, k3, k4, k5, k6, k7, k8, k9, k10, k11, k12, k13⟩, rfl⟩
set_option maxRecDepth 100000 in
/-- A parameter of the type []int. -/
theorem open_intsAt {r : Reach} {b0 : Nat} {v : Value} {d : DataW H} {p : List MemPlace} (hv : Value.okWide Tryd.prog w r b0 59 v) (h : DataW.Trod enc Tryd.prog w base spare held 59 v d p) :
    ∃ l : List Int, IntsAt w v l ∧ (l.length : Int) ≤ 9223372036854775807 ∧ ∀ x ∈ l, -9223372036854775808 ≤ x ∧ x < 9223372036854775808 := by
  obtain ⟨a0, len0, cap0, rfl⟩ := okWide_slice Tryd.underlying59 hv
  obtain ⟨fuel, hf⟩ := h
  rcases open_ints Tryd.underlying59 Tryd.underlying3 cellsInt hf with ⟨hcs, -⟩ | ⟨a, len, cap, zs, hcs, -, hl, hm, hz, -, hcell, hwf⟩
  · refine ⟨[], ⟨none, 0, ?_, fun i hi => by simp at hi⟩, by simp, fun x hx => by simp at hx⟩
    simpa [Value.cells] using hcs
  · have hlz : len ≤ zs.length := by rw [hz]; split <;> omega
    have hlen : (zs.take len).length = len := by rw [List.length_take]; omega
    refine ⟨zs.take len, ⟨some a, cap, ?_, fun i hi => ?_⟩, ?_, fun x hx => ?_⟩
    · rw [hlen]; simpa [Value.cells] using hcs
    · rw [hlen] at hi
      obtain ⟨b, off, rfl, hc⟩ := ints_at hcell (by omega)
      refine ⟨b, off, rfl, ?_⟩
      rw [hc i (by omega)]
      simp [List.getD_eq_getElem?_getD, hi]
    · rw [hlen]; unfold maxLen at hm; omega
    · exact i64_bd (hwf x (List.mem_of_mem_take hx))
end
theorem arenaSpaces_walk (c : Cfg) (sp cut : Int) (v : Value) (l : List Int) (w : World) (tb : Tab w) (hv : IntsAt w v l) (hl : (l.length : Int) ≤ 9223372036854775807) (hl2 : ∀ x ∈ l, -9223372036854775808 ≤ x ∧ x < 9223372036854775808) (hs : -9223372036854775808 ≤ sp ∧ sp < 9223372036854775808) :
    Calls Tryd.prog 8 #[c.val, .int .i64 sp, v, .int .i64 cut] w fun e w' => e = .returned (.bool true) ∧ Below w.heap.size w w' := by
  by_cases hc : c.valid = true
  · exact spaces_yes c sp cut v l w tb hv hl hl2 hs hc
  · exact spaces_no c sp cut v w tb (by simpa using hc)
end Go.Proofs.YtomgfdfgildkbaaDoor
