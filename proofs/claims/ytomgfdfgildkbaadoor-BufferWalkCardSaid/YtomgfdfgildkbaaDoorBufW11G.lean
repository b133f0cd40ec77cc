/- The law BufferCount, its plain part: where the k-th object lies. -/
import Derived.Test.YtomgfdfgildkbaaDoorGj
namespace Go.Proofs.YtomgfdfgildkbaaDoor
open Go.RowKit Go.BigFrame

/-- How many buffers i objects take, each holding so many. -/
def cntB (each i : Int) : Int := (i + each - 1) / each
def adrB (n words each i : Int) : Int := 1 + words + (i / each) * words + (i % each) * n
def rstB (n words each i : Int) : Int × Int := if i = 0 then (0, 0) else (1 + words + ((i - 1) / each) * words + ((i - 1) % each + 1) * n, words - ((i - 1) % each + 1) * n)
structure CntOk (n words each k : Int) : Prop where
  n2 : 2 ≤ n
  n21 : n ≤ 21
  w0 : n ≤ words
  w1 : words ≤ n + 59
  e1 : 1 ≤ each
  en : each * n ≤ words
  en2 : words < each * n + n
  k : k ≤ 19
theorem each_ok {n words : Int} (h2 : 2 ≤ n) (h : n ≤ words) : 1 ≤ words / n ∧ words / n * n ≤ words ∧ words < words / n * n + n := by
  have h1 := Int.mul_ediv_add_emod words n
  have h3 := Int.emod_nonneg words (show n ≠ 0 by omega)
  have h4 := Int.emod_lt_of_pos words (show 0 < n by omega)
  rw [Int.mul_comm] at h1
  refine ⟨?_, by omega, by omega⟩
  exact (Int.le_ediv_iff_mul_le (by omega)).2 (by omega)
theorem dm {each i : Int} (e : 1 ≤ each) (h : 0 ≤ i) : 0 ≤ i / each ∧ 0 ≤ i % each ∧ i % each < each ∧ i = each * (i / each) + i % each ∧ i / each ≤ i := by
  have h1 := Int.mul_ediv_add_emod i each
  have h3 := Int.emod_nonneg i (show each ≠ 0 by omega)
  have h4 := Int.emod_lt_of_pos i (show 0 < each by omega)
  refine ⟨Int.ediv_nonneg h (by omega), h3, h4, h1.symm, ?_⟩
  exact Int.ediv_le_self _ h
theorem dm_of {each q r : Int} (h0 : 0 ≤ r) (h1 : r < each) : (each * q + r) / each = q ∧ (each * q + r) % each = r := by
  constructor
  · rw [Int.mul_add_ediv_left _ _ (by omega), Int.ediv_eq_zero_of_lt h0 h1]; omega
  · rw [Int.mul_add_emod_self_left, Int.emod_eq_of_lt h0 h1]
theorem cnt_fresh {each i : Int} (e : 1 ≤ each) (h : 0 ≤ i) (hr : i % each = 0) : cntB each i = i / each ∧ cntB each (i + 1) = i / each + 1 := by
  obtain ⟨_, _, _, hi, _⟩ := dm e h
  generalize i / each = q at *
  rw [hr] at hi
  unfold cntB
  constructor
  · rw [show i + each - 1 = each * q + (each - 1) by omega]; exact (dm_of (by omega) (by omega)).1
  · rw [show i + 1 + each - 1 = each * (q + 1) + 0 by rw [Int.mul_add]; omega]; exact (dm_of (by omega) (by omega)).1
theorem cnt_old {each i : Int} (e : 1 ≤ each) (h : 0 ≤ i) (hr : ¬ i % each = 0) : cntB each i = i / each + 1 ∧ cntB each (i + 1) = i / each + 1 := by
  obtain ⟨_, r0, r1, hi, _⟩ := dm e h
  generalize i / each = q at *
  generalize i % each = r at *
  unfold cntB
  constructor
  · rw [show i + each - 1 = each * (q + 1) + (r - 1) by rw [Int.mul_add]; omega]; exact (dm_of (by omega) (by omega)).1
  · rw [show i + 1 + each - 1 = each * (q + 1) + r by rw [Int.mul_add]; omega]; exact (dm_of (by omega) (by omega)).1
theorem rst_succ {n words each i : Int} (h : 0 ≤ i) : rstB n words each (i + 1) = (1 + words + (i / each) * words + (i % each + 1) * n, words - (i % each + 1) * n) := by
  unfold rstB
  rw [if_neg (by omega), show i + 1 - 1 = i by omega]
theorem rst_fresh {n words each k i : Int} (c : CntOk n words each k) (h : 0 ≤ i) (hr : i % each = 0) : (rstB n words each i).2 < n := by
  have := c.en2
  have := c.n2
  unfold rstB
  split
  · simp only; omega
  obtain ⟨_, _, _, hi, _⟩ := dm c.e1 h
  generalize i / each = q at *
  rw [hr] at hi
  have e1 := c.e1
  have e2 := (dm_of (each := each) (q := q - 1) (r := each - 1) (by omega) (by omega)).2
  rw [show each * (q - 1) + (each - 1) = i - 1 by rw [Int.mul_sub]; omega] at e2
  simp only [e2]
  rw [show each - 1 + 1 = each by omega]
  omega
theorem rst_old {n words each i : Int} (e : 1 ≤ each) (h : 0 ≤ i) (hr : ¬ i % each = 0) : rstB n words each i = (adrB n words each i, words - (i % each) * n) := by
  unfold rstB adrB
  have hi0 : ¬ i = 0 := by rintro rfl; simp at hr
  rw [if_neg hi0]
  obtain ⟨_, r0, r1, hi, _⟩ := dm e h
  generalize i / each = q at *
  generalize i % each = r at *
  obtain ⟨d1, d2⟩ := dm_of (each := each) (q := q) (r := r - 1) (by omega) (by omega)
  rw [show each * q + (r - 1) = i - 1 by omega] at d1 d2
  rw [d1, d2, show r - 1 + 1 = r by omega]
theorem step_k (b rb : Nat) (B : Bu) (a wb : Nat) (A : Ar) (n words each k i : Int) (w : World) (tb : Tab w) (h : PairAt w b rb B a wb A) (c : CntOk n words each k) (i0 : 0 ≤ i) (ik : i < k) {r1 : Int × Int}
    (S : Sum2 B A words (1 + words + cntB each i * words) (2000 - words - cntB each i * words) 2193 (rstB n words each i) r1) :
    Calls Tryd.prog 37 #[.pointer (some ⟨b, 0, none⟩), .pointer (some ⟨a, 0, none⟩), .int .i64 0, (plainHd (n - 2)).val] w fun e w' => e = .returned (.tuple #[.int .i64 (adrB n words each i), .bool true]) ∧ (∃ B' A', PairAt w' b rb B' a wb A' ∧ Sum2 B' A' words (1 + words + cntB each (i + 1) * words) (2000 - words - cntB each (i + 1) * words) 2193 (rstB n words each (i + 1)) r1) ∧ Only [rb, a, wb] w w' := by
  have n2 := c.n2
  have n21 := c.n21
  have w0 := c.w0
  have w1 := c.w1
  have kk := c.k
  have f := plainHd_fine (r := n - 2) (by omega) (by omega)
  obtain ⟨q0, r0, rl, hi, qi⟩ := dm c.e1 i0
  have qw : i / each * words ≤ 18 * 80 := Int.mul_le_mul (by omega) (by omega) (by omega) (by omega)
  have qw0 : 0 ≤ i / each * words := Int.mul_nonneg q0 (by omega)
  by_cases hr : i % each = 0
  · obtain ⟨c1, c2⟩ := cnt_fresh c.e1 i0 hr
    refine (step_fresh b rb B a wb A 0 (plainHd (n - 2)) w tb h f (by simp [plainHd]) S (.inl rfl) n (by simp [plainHd]; omega) (rst_fresh c i0 hr) (by rw [c1]; omega) w0).mono fun e w' ⟨h1, h2, h3⟩ => ⟨?_, ?_, h3⟩
    · rw [h1, c1]; unfold adrB; rw [hr]; simp
    · obtain ⟨B', A', h4, h5⟩ := h2
      refine ⟨B', A', h4, ?_⟩
      rw [c1] at h5
      rw [c2, rst_succ i0, hr, show (i / each + 1) * words = i / each * words + words by rw [Int.add_mul]; omega, show (0 + 1 : Int) * n = n by omega]
      rw [show 1 + words + (i / each * words + words) = 1 + words + i / each * words + words by omega, show 2000 - words - (i / each * words + words) = 2000 - words - i / each * words - words by omega]
      exact h5
  · obtain ⟨c1, c2⟩ := cnt_old c.e1 i0 hr
    have rn : (i % each + 1) * n ≤ each * n := Int.mul_le_mul_of_nonneg_right (by omega) (by omega)
    have en := c.en
    rw [Int.add_mul] at rn
    have rn0 : 0 ≤ i % each * n := Int.mul_nonneg r0 (by omega)
    refine (step_old b rb B a wb A 0 (plainHd (n - 2)) w tb h f (by simp [plainHd]) S (.inl rfl) n (adrB n words each i) (words - (i % each) * n) (by simp [plainHd]; omega) (rst_old c.e1 i0 hr) (by unfold adrB; omega) (by unfold adrB; omega) (by omega)).mono fun e w' ⟨h1, h2, h3⟩ => ⟨h1, ?_, h3⟩
    obtain ⟨B', A', h4, h5⟩ := h2
    refine ⟨B', A', h4, ?_⟩
    rw [c1] at h5
    rw [c2, rst_succ i0, Int.add_mul (i % each) 1 n, show (1 : Int) * n = n by omega]
    unfold adrB at h5
    rw [show 1 + words + i / each * words + (i % each * n + n) = 1 + words + i / each * words + i % each * n + n by omega, show words - (i % each * n + n) = words - i % each * n - n by omega]
    exact h5
end Go.Proofs.YtomgfdfgildkbaaDoor
