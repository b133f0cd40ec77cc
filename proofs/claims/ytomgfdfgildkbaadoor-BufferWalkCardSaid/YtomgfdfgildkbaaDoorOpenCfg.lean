/- Opening an argument of the type api.Config. -/
import Derived.Test.YtomgfdfgildkbaaDoorRowKit
import Derived.Test.YtomgfdfgildkbaaDoorArenaP
namespace Go.Proofs.YtomgfdfgildkbaaDoor
open Go.Joins Go.ChangeShapes Go.WideShapes Go.RowKit Go.Deep Go.ChangeAt
theorem cellsConfig : Tryd.prog.cellsOf 45 = 14 := by kernel_rfl
section
variable {H : Type} {enc : TypeId × Value → H} {w : World} {base : Nat} {spare : Nat → Bool} {held : Bool}
set_option maxRecDepth 100000 in
/-- A parameter of the type api.Config. -/
theorem open_config {r : Reach} {b0 : Nat} {v : Value} {d : DataW H} {p : List MemPlace} (hv : Value.okWide Tryd.prog w r b0 45 v) (h : DataW.Trod enc Tryd.prog w base spare held 45 v d p) :
    ∃ x : Cfg, v = x.val := by
  obtain ⟨c0, c1, c2, c3, c4, c5, c6, c7, c8, c9, c10, c11, c12, c13, y0, y1, y2, y3, y4, y5, y6, y7, y8, y9, y10, y11, y12, y13, n, rfl, -, -, g0, g1, g2, g3, g4, g5, g6, g7, g8, g9, g10, g11, g12, g13⟩ := open_agg14 Tryd.underlying45 (by kernel_rfl) cellsConfig hv h
  obtain ⟨k0, e0, -, -⟩ := DataW.trod_int Tryd.underlying3 g0
  obtain ⟨k1, e1, -, -⟩ := DataW.trod_int Tryd.underlying3 g1
  obtain ⟨k2, e2, -, -⟩ := DataW.trod_int Tryd.underlying3 g2
  obtain ⟨k3, e3, -, -⟩ := DataW.trod_int Tryd.underlying3 g3
  obtain ⟨k4, e4, -, -⟩ := DataW.trod_int Tryd.underlying3 g4
  obtain ⟨k5, e5, -, -⟩ := DataW.trod_int Tryd.underlying3 g5
  obtain ⟨k6, e6, -, -⟩ := DataW.trod_int Tryd.underlying3 g6
  obtain ⟨k7, e7, -, -⟩ := DataW.trod_int Tryd.underlying3 g7
  obtain ⟨k8, e8, -, -⟩ := DataW.trod_int Tryd.underlying3 g8
  obtain ⟨k9, e9, -, -⟩ := DataW.trod_int Tryd.underlying3 g9
  obtain ⟨k10, e10, -, -⟩ := DataW.trod_int Tryd.underlying3 g10
  obtain ⟨k11, e11, -, -⟩ := DataW.trod_int Tryd.underlying3 g11
  obtain ⟨k12, e12, -, -⟩ := DataW.trod_int Tryd.underlying3 g12
  obtain ⟨k13, e13, -, -⟩ := DataW.trod_int Tryd.underlying3 g13
  simp only [List.cons.injEq, and_true] at e0 e1 e2 e3 e4 e5 e6 e7 e8 e9 e10 e11 e12 e13
  subst e0 e1 e2 e3 e4 e5 e6 e7 e8 e9 e10 e11 e12 e13
  exact ⟨⟨k0, k1, k2, k3, k4, k5, k6, k7, k8, k9, k10, k11, k12, k13⟩, rfl⟩
end
end Go.Proofs.YtomgfdfgildkbaaDoor
