/- The walks of the law BufferCount: known. -/
import Derived.Test.YtomgfdfgildkbaaDoorBufW9
namespace Go.Proofs.YtomgfdfgildkbaaDoor
open Go.RowKit Go.BigFrame

theorem smallCfg_valid : smallCfg.valid = true := by decide
theorem plainHd_fine {r : Int} (h0 : 0 ≤ r) (h1 : r ≤ 65535) : Fine (plainHd r) := by
  constructor <;> simp [plainHd, h0, h1]
theorem Sum2.new {c : Cfg} {s : Int} (hc : c.valid = true) : Sum2 (Bu.new 2 s) (Ar.new c) s 1 c.eden c.size (0, 0) (0, 0) := by
  have q := Cfg.bd hc
  have q1 := q.e0
  have q2 := q.s0
  have q3 := q.t0
  refine ⟨rfl, rfl, rfl, ?_, ?_⟩
  · simp [Ar.free, Ar.behind, Ar.top, Ar.new]; omega
  · simp [Ar.new]; unfold Cfg.size; omega
theorem Bu.new_ok {n s : Int} (h1 : 1 ≤ n) (h2 : n ≤ 8) (h3 : 0 ≤ s) (h4 : s ≤ 65536) : (Bu.new n s).Ok := by
  refine ⟨?_, ?_, h3, h4⟩ <;> simp [Bu.new] <;> omega
theorem Ar.new_ok {c : Cfg} (h : c.valid = true) : (Ar.new c).Ok := by
  obtain ⟨e0, e1, s0, s1, t0, t1⟩ := Cfg.bd h
  refine ⟨h, ?_, ?_, by simp [Ar.new], ?_, ?_, ?_, ?_, ?_, ?_, ?_, .inl rfl⟩
  · show ((List.replicate c.size.toNat (0 : Int)).length : Int) = c.size
    rw [List.length_replicate]; unfold Cfg.size; omega
  · intro x hx
    have hx' : x ∈ List.replicate c.size.toNat (0 : Int) := hx
    rw [(List.mem_replicate.1 hx').2]; decide
  all_goals (simp only [Ar.new]; omega)
theorem Only.tab {w0 w w' : World} {rb a wb : Nat} (hb : Below w0.heap.size w0 w) (h1 : w0.heap.size ≤ rb) (h2 : w0.heap.size ≤ a) (h3 : w0.heap.size ≤ wb) (h : Only [rb, a, wb] w w') : Below w0.heap.size w0 w' :=
  hb.trans (h.below hb.size (by simp; omega))
end Go.Proofs.YtomgfdfgildkbaaDoor
