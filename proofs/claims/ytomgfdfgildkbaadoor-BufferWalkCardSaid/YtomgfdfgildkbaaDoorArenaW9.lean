/- The walks of package arena, ninth part: fields read. -/
import Derived.Test.YtomgfdfgildkbaaDoorArenaW8
namespace Go.Proofs.YtomgfdfgildkbaaDoor
open Go.RowKit Go.BigFrame

/-- A pointer field, a raw field, as they are told. -/
def Ar.ptrOk (A : Ar) (at_ i : Int) : Bool := A.isObj at_ && decide (0 ≤ i ∧ i < (A.hd at_).ptrs) && decide (A.word (at_ + 2 + i) < (A.words.length : Int))
def Ar.ptr (A : Ar) (at_ i : Int) : Int := if A.ptrOk at_ i then A.word (at_ + 2 + i) else 0
def Ar.rawOk (A : Ar) (at_ i : Int) : Bool := A.isObj at_ && decide (0 ≤ i ∧ i < (A.hd at_).raws)
def Ar.raw (A : Ar) (at_ i : Int) : Int := if A.rawOk at_ i then A.word (at_ + 2 + (A.hd at_).ptrs + i) else 0
theorem hd_bd {A : Ar} (ok : A.Ok) {i : Int} (h : A.isObj i = true) : 1 ≤ i ∧ 0 ≤ (A.hd i).ptrs ∧ (A.hd i).ptrs ≤ 4095 ∧ 0 ≤ (A.hd i).raws ∧ (A.hd i).raws ≤ 65535 ∧ i + 2 + (A.hd i).ptrs + (A.hd i).raws ≤ (A.words.length : Int) ∧ (A.words.length : Int) ≤ 262145 := by
  obtain ⟨h1, h2, h3, f, e4, e5⟩ := isObj_facts ok h
  rw [e5]
  have := f.p0; have := f.p1; have := f.r0; have := f.r1
  simp only
  omega

theorem ptr_nil (b wb : Nat) (A : Ar) (at_ i : Int) (w : World) (tb : Tab w) (h : ArAt w b wb A) (ok : A.Ok) (ho : A.isObj at_ = false) :
    Calls Tryd.prog 97 #[.pointer (some ⟨b, 0, none⟩), .int .i64 at_, .int .i64 i] w fun e w' => e = .returned (.tuple #[.int .i64 0, .bool false]) ∧ Below w.heap.size w w' := by
  have O := Lib.hid (pointers_no b wb A at_ w tb h ok ho)
  clear tb h ok ho
  by_cases c : i < 0
  · go_enter Tryd.func97, Tryd.ntmps97
    go_wp2_with fail
    refine O.out.mono ?_
    rintro e w1 ⟨rfl, hb⟩
    go_wp2_with fail
    go_big_quiet (fail)
    go_wp2_with fail
    go_ret2
    exact ⟨rfl, below_drewN hb _⟩
  · have d : decide (i < 0) = false := by simpa using c
    have c0 : 0 ≤ i := by omega
    clear c
    go_enter Tryd.func97, Tryd.ntmps97
    go_wp2_with fail
    refine O.out.mono ?_
    rintro e w1 ⟨rfl, hb⟩
    go_wp2_with fail
    go_big_quiet (fail)
    go_wp2_with fail
    go_ret2
    exact ⟨rfl, below_drewN hb _⟩

theorem ptr_out (b wb : Nat) (A : Ar) (at_ i : Int) (w : World) (tb : Tab w) (h : ArAt w b wb A) (ok : A.Ok) (ho : A.isObj at_ = true) (hi : ¬ (0 ≤ i ∧ i < (A.hd at_).ptrs)) :
    Calls Tryd.prog 97 #[.pointer (some ⟨b, 0, none⟩), .int .i64 at_, .int .i64 i] w fun e w' => e = .returned (.tuple #[.int .i64 0, .bool false]) ∧ Below w.heap.size w w' := by
  have O := Lib.hid (pointers_yes b wb A at_ w tb h ok ho)
  have hp := (hd_bd ok ho).2.1
  generalize A.hd at_ = d at *
  clear tb h ok ho
  by_cases c : i < 0
  · clear hi
    go_enter Tryd.func97, Tryd.ntmps97
    go_wp2_with fail
    refine O.out.mono ?_
    rintro e w1 ⟨⟨a, rfl, ha⟩, hb⟩
    clear ha
    go_wp2_with fail
    go_big_quiet (fail)
    go_wp2_with fail
    go_ret2
    exact ⟨rfl, below_drewN hb _⟩
  · have d0 : decide (i < 0) = false := by simpa using c
    have c0 : 0 ≤ i := by omega
    obtain ⟨p, hpp⟩ := Int.eq_ofNat_of_zero_le hp
    have c1 : (p : Int) ≤ i := by omega
    rw [hpp] at O
    simp only [Int.toNat_natCast] at O
    clear c hi hpp hp
    go_enter Tryd.func97, Tryd.ntmps97
    go_wp2_with fail
    refine O.out.mono ?_
    rintro e w1 ⟨⟨a, rfl, ha⟩, hb⟩
    clear ha
    go_wp2_with fail
    go_big_quiet (fail)
    go_wp2_with fail
    go_ret2
    exact ⟨rfl, below_drewN hb _⟩

theorem ptr_in (b wb : Nat) (A : Ar) (at_ i : Int) (w : World) (tb : Tab w) (h : ArAt w b wb A) (ok : A.Ok) (ho : A.isObj at_ = true) (h0 : 0 ≤ i) (hi : i < (A.hd at_).ptrs) :
    Calls Tryd.prog 97 #[.pointer (some ⟨b, 0, none⟩), .int .i64 at_, .int .i64 i] w fun e w' => e = .returned (.tuple #[.int .i64 (A.ptr at_ i), .bool (A.ptrOk at_ i)]) ∧ Below w.heap.size w w' := by
  have O := Lib.hid (pointers_yes b wb A at_ w tb h ok ho)
  obtain ⟨h1, hp0, hp1, hr0, hr1, hl, hN⟩ := hd_bd ok ho
  have HC := Lib.hid (fun W (hb : Below w.heap.size w W) => (h.below hb).facts)
  have HW := fun W (hb : Below w.heap.size w W) => (h.below hb).word (i := at_ + 2 + i) (by omega) (by omega)
  rw [show (at_ + 2 + i).toNat = at_.toNat + 2 + i.toNat by omega] at HW
  have hwd := ok.word (at_ + 2 + i)
  have e1 : A.ptrOk at_ i = decide (A.word (at_ + 2 + i) < (A.words.length : Int)) := by unfold Ar.ptrOk; rw [ho, decide_eq_true ⟨h0, hi⟩]; rfl
  unfold Ar.ptr
  rw [e1]
  obtain ⟨p, hpp⟩ := Int.eq_ofNat_of_zero_le hp0
  rw [hpp] at O hi hp1
  simp only [Int.toNat_natCast] at O hi hp1
  have hd1 : decide ((p : Int) ≤ i) = false := by simpa using hi
  have hd0 : decide (i < 0) = false := by simpa using h0
  have hqq : (1 : Int) ≤ (p : Int) := by omega
  by_cases c : A.word (at_ + 2 + i) < (A.words.length : Int)
  · rw [decide_eq_true c, if_pos rfl]
    generalize A.word (at_ + 2 + i) = m at *
    have HWW := Lib.hid HW
    have hc' : decide ((A.words.length : Int) ≤ m) = false := by simpa using c
    clear tb h ok ho HW hpp hr0 hr1 hp0 e1 hl
    go_enter Tryd.func97, Tryd.ntmps97
    go_wp2_with fail
    refine O.out.mono ?_
    rintro e w1 ⟨⟨a, rfl, ha⟩, hb⟩
    obtain rfl := ha hqq
    obtain ⟨hc1, hl1, hm1⟩ := HC.out _ hb
    have hw1 := HWW.out _ hb
    unfold arCells at hc1
    go_wp2_with fail
    go_big_quiet (fail)
    go_wp2_with fail
    go_ret2
    exact ⟨rfl, below_drewN hb _⟩
  · rw [decide_eq_false c, if_neg (by simp)]
    generalize A.word (at_ + 2 + i) = m at *
    have HWW := Lib.hid HW
    have hc' : (A.words.length : Int) ≤ m := by omega
    clear tb h ok ho HW hpp hr0 hr1 hp0 e1 hl c
    go_enter Tryd.func97, Tryd.ntmps97
    go_wp2_with fail
    refine O.out.mono ?_
    rintro e w1 ⟨⟨a, rfl, ha⟩, hb⟩
    obtain rfl := ha hqq
    obtain ⟨hc1, hl1, hm1⟩ := HC.out _ hb
    have hw1 := HWW.out _ hb
    unfold arCells at hc1
    go_wp2_with fail
    go_big_quiet (fail)
    go_wp2_with fail
    go_ret2
    exact ⟨rfl, below_drewN hb _⟩

theorem ptr_any (b wb : Nat) (A : Ar) (at_ i : Int) (w : World) (tb : Tab w) (h : ArAt w b wb A) (ok : A.Ok) :
    Calls Tryd.prog 97 #[.pointer (some ⟨b, 0, none⟩), .int .i64 at_, .int .i64 i] w fun e w' => e = .returned (.tuple #[.int .i64 (A.ptr at_ i), .bool (A.ptrOk at_ i)]) ∧ Below w.heap.size w w' := by
  by_cases ho : A.isObj at_ = true
  · by_cases hi : 0 ≤ i ∧ i < (A.hd at_).ptrs
    · exact ptr_in b wb A at_ i w tb h ok ho hi.1 hi.2
    · have e1 : A.ptrOk at_ i = false := by unfold Ar.ptrOk; rw [decide_eq_false hi]; simp
      rw [show A.ptr at_ i = 0 by unfold Ar.ptr; rw [e1]; rfl, e1]
      exact ptr_out b wb A at_ i w tb h ok ho hi
  · have ho' : A.isObj at_ = false := by simpa using ho
    have e1 : A.ptrOk at_ i = false := by unfold Ar.ptrOk; rw [ho']; rfl
    rw [show A.ptr at_ i = 0 by unfold Ar.ptr; rw [e1]; rfl, e1]
    exact ptr_nil b wb A at_ i w tb h ok ho'
end Go.Proofs.YtomgfdfgildkbaaDoor
