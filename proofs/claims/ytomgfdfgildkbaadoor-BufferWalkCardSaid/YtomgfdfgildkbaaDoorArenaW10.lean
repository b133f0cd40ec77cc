/- The walks of package arena, tenth part: raw fields read, fields written. -/
import Derived.Test.YtomgfdfgildkbaaDoorArenaW9
namespace Go.Proofs.YtomgfdfgildkbaaDoor
open Go.RowKit Go.BigFrame

theorem raw_nil (b wb : Nat) (A : Ar) (at_ i : Int) (w : World) (tb : Tab w) (h : ArAt w b wb A) (ok : A.Ok) (ho : A.isObj at_ = false) :
    Calls Tryd.prog 98 #[.pointer (some ⟨b, 0, none⟩), .int .i64 at_, .int .i64 i] w fun e w' => e = .returned (.tuple #[.int .u64 0, .bool false]) ∧ Below w.heap.size w w' := by
  have O := Lib.hid (raws_no b wb A at_ w tb h ok ho)
  clear tb h ok ho
  by_cases c : i < 0
  · go_enter Tryd.func98, Tryd.ntmps98
    go_wp2_with fail
    refine O.out.mono ?_
    rintro e w1 ⟨rfl, hb⟩
    go_wp2_with fail
    go_ret2
    exact ⟨rfl, hb⟩
  · have d : decide (i < 0) = false := by simpa using c
    have c0 : 0 ≤ i := by omega
    clear c
    go_enter Tryd.func98, Tryd.ntmps98
    go_wp2_with fail
    refine O.out.mono ?_
    rintro e w1 ⟨rfl, hb⟩
    go_wp2_with fail
    go_ret2
    exact ⟨rfl, hb⟩

theorem raw_out (b wb : Nat) (A : Ar) (at_ i : Int) (w : World) (tb : Tab w) (h : ArAt w b wb A) (ok : A.Ok) (ho : A.isObj at_ = true) (hi : ¬ (0 ≤ i ∧ i < (A.hd at_).raws)) :
    Calls Tryd.prog 98 #[.pointer (some ⟨b, 0, none⟩), .int .i64 at_, .int .i64 i] w fun e w' => e = .returned (.tuple #[.int .u64 0, .bool false]) ∧ Below w.heap.size w w' := by
  have O := Lib.hid (raws_yes b wb A at_ w tb h ok ho)
  have hp := (hd_bd ok ho).2.2.2.1
  generalize A.hd at_ = d at *
  clear tb h ok ho
  by_cases c : i < 0
  · clear hi
    go_enter Tryd.func98, Tryd.ntmps98
    go_wp2_with fail
    refine O.out.mono ?_
    rintro e w1 ⟨⟨a, rfl, ha⟩, hb⟩
    clear ha
    go_wp2_with fail
    go_ret2
    exact ⟨rfl, hb⟩
  · have d0 : decide (i < 0) = false := by simpa using c
    have c0 : 0 ≤ i := by omega
    obtain ⟨p, hpp⟩ := Int.eq_ofNat_of_zero_le hp
    have c1 : (p : Int) ≤ i := by omega
    rw [hpp] at O
    simp only [Int.toNat_natCast] at O
    clear c hi hpp hp
    go_enter Tryd.func98, Tryd.ntmps98
    go_wp2_with fail
    refine O.out.mono ?_
    rintro e w1 ⟨⟨a, rfl, ha⟩, hb⟩
    clear ha
    go_wp2_with fail
    go_ret2
    exact ⟨rfl, hb⟩

theorem raw_in (b wb : Nat) (A : Ar) (at_ i : Int) (w : World) (tb : Tab w) (h : ArAt w b wb A) (ok : A.Ok) (ho : A.isObj at_ = true) (h0 : 0 ≤ i) (hi : i < (A.hd at_).raws) :
    Calls Tryd.prog 98 #[.pointer (some ⟨b, 0, none⟩), .int .i64 at_, .int .i64 i] w fun e w' => e = .returned (.tuple #[.int .u64 (A.raw at_ i), .bool true]) ∧ Below w.heap.size w w' := by
  have O := Lib.hid (raws_yes b wb A at_ w tb h ok ho)
  obtain ⟨h1, hp0, hp1, hr0, hr1, hl, hN⟩ := hd_bd ok ho
  have HC := Lib.hid (fun W (hb : Below w.heap.size w W) => (h.below hb).facts)
  have HH := Lib.hid (fun W (hb : Below w.heap.size w W) => h.below hb)
  have HW := fun W (hb : Below w.heap.size w W) => (h.below hb).word (i := at_ + 2 + (A.hd at_).ptrs + i) (by omega) (by omega)
  rw [show (at_ + 2 + (A.hd at_).ptrs + i).toNat = at_.toNat + (2 + (A.hd at_).ptrs).toNat + i.toNat by omega] at HW
  have e1 : A.raw at_ i = A.word (at_ + 2 + (A.hd at_).ptrs + i) := by unfold Ar.raw Ar.rawOk; rw [ho, decide_eq_true ⟨h0, hi⟩]; rfl
  rw [e1]
  obtain ⟨p, hpp⟩ := Int.eq_ofNat_of_zero_le hr0
  rw [hpp] at O hi hr1
  simp only [Int.toNat_natCast] at O hi hr1
  have hd1 : decide ((p : Int) ≤ i) = false := by simpa using hi
  have hd0 : decide (i < 0) = false := by simpa using h0
  have hqq : (1 : Int) ≤ (p : Int) := by omega
  generalize A.word (at_ + 2 + (A.hd at_).ptrs + i) = m at *
  generalize (2 + (A.hd at_).ptrs).toNat = k at *
  have HWW := Lib.hid HW
  clear tb h ok ho HW hpp hr0 hr1 hp0 hp1 e1 hl
  go_enter Tryd.func98, Tryd.ntmps98
  go_wp2_with fail
  refine O.out.mono ?_
  rintro e w1 ⟨⟨a, rfl, ha⟩, hb⟩
  obtain rfl := ha hqq
  have hw1 := HWW.out _ hb
  go_wp2_with fail
  go_ret2
  exact ⟨rfl, hb⟩

theorem raw_any (b wb : Nat) (A : Ar) (at_ i : Int) (w : World) (tb : Tab w) (h : ArAt w b wb A) (ok : A.Ok) :
    Calls Tryd.prog 98 #[.pointer (some ⟨b, 0, none⟩), .int .i64 at_, .int .i64 i] w fun e w' => e = .returned (.tuple #[.int .u64 (A.raw at_ i), .bool (A.rawOk at_ i)]) ∧ Below w.heap.size w w' := by
  by_cases ho : A.isObj at_ = true
  · by_cases hi : 0 ≤ i ∧ i < (A.hd at_).raws
    · have e1 : A.rawOk at_ i = true := by unfold Ar.rawOk; rw [ho, decide_eq_true hi]; rfl
      rw [e1]
      exact raw_in b wb A at_ i w tb h ok ho hi.1 hi.2
    · have e1 : A.rawOk at_ i = false := by unfold Ar.rawOk; rw [decide_eq_false hi]; simp
      rw [show A.raw at_ i = 0 by unfold Ar.raw; rw [e1]; rfl, e1]
      exact raw_out b wb A at_ i w tb h ok ho hi
  · have ho' : A.isObj at_ = false := by simpa using ho
    have e1 : A.rawOk at_ i = false := by unfold Ar.rawOk; rw [ho']; rfl
    rw [show A.raw at_ i = 0 by unfold Ar.raw; rw [e1]; rfl, e1]
    exact raw_nil b wb A at_ i w tb h ok ho'

theorem setRaw_nil (b wb : Nat) (A : Ar) (at_ i v : Int) (w : World) (tb : Tab w) (h : ArAt w b wb A) (ok : A.Ok) (ho : A.isObj at_ = false) :
    Calls Tryd.prog 95 #[.pointer (some ⟨b, 0, none⟩), .int .i64 at_, .int .i64 i, .int .u64 v] w fun e w' => e = .returned (.bool false) ∧ Below w.heap.size w w' := by
  have O := Lib.hid (raws_no b wb A at_ w tb h ok ho)
  clear tb h ok ho
  by_cases c : i < 0
  · go_enter Tryd.func95, Tryd.ntmps95
    go_wp2_with fail
    refine O.out.mono ?_
    rintro e w1 ⟨rfl, hb⟩
    go_wp2_with fail
    go_ret
    exact ⟨rfl, hb⟩
  · have d : decide (i < 0) = false := by simpa using c
    have c0 : 0 ≤ i := by omega
    clear c
    go_enter Tryd.func95, Tryd.ntmps95
    go_wp2_with fail
    refine O.out.mono ?_
    rintro e w1 ⟨rfl, hb⟩
    go_wp2_with fail
    go_ret
    exact ⟨rfl, hb⟩

theorem setRaw_out (b wb : Nat) (A : Ar) (at_ i v : Int) (w : World) (tb : Tab w) (h : ArAt w b wb A) (ok : A.Ok) (ho : A.isObj at_ = true) (hi : ¬ (0 ≤ i ∧ i < (A.hd at_).raws)) :
    Calls Tryd.prog 95 #[.pointer (some ⟨b, 0, none⟩), .int .i64 at_, .int .i64 i, .int .u64 v] w fun e w' => e = .returned (.bool false) ∧ Below w.heap.size w w' := by
  have O := Lib.hid (raws_yes b wb A at_ w tb h ok ho)
  have hp := (hd_bd ok ho).2.2.2.1
  generalize A.hd at_ = d at *
  clear tb h ok ho
  by_cases c : i < 0
  · clear hi
    go_enter Tryd.func95, Tryd.ntmps95
    go_wp2_with fail
    refine O.out.mono ?_
    rintro e w1 ⟨⟨a, rfl, ha⟩, hb⟩
    clear ha
    go_wp2_with fail
    go_ret
    exact ⟨rfl, hb⟩
  · have d0 : decide (i < 0) = false := by simpa using c
    have c0 : 0 ≤ i := by omega
    obtain ⟨p, hpp⟩ := Int.eq_ofNat_of_zero_le hp
    have c1 : (p : Int) ≤ i := by omega
    rw [hpp] at O
    simp only [Int.toNat_natCast] at O
    clear c hi hpp hp
    go_enter Tryd.func95, Tryd.ntmps95
    go_wp2_with fail
    refine O.out.mono ?_
    rintro e w1 ⟨⟨a, rfl, ha⟩, hb⟩
    clear ha
    go_wp2_with fail
    go_ret
    exact ⟨rfl, hb⟩

theorem setRaw_in (b wb : Nat) (A : Ar) (at_ i v : Int) (w : World) (tb : Tab w) (h : ArAt w b wb A) (ok : A.Ok) (ho : A.isObj at_ = true) (h0 : 0 ≤ i) (hi : i < (A.hd at_).raws) :
    Calls Tryd.prog 95 #[.pointer (some ⟨b, 0, none⟩), .int .i64 at_, .int .i64 i, .int .u64 v] w fun e w' => e = .returned (.bool true) ∧ ArAt w' b wb (A.put (at_ + 2 + (A.hd at_).ptrs + i) v) ∧ Only [b, wb] w w' := by
  have O := Lib.hid (raws_yes b wb A at_ w tb h ok ho)
  obtain ⟨h1, hp0, hp1, hr0, hr1, hl, hN⟩ := hd_bd ok ho
  have HC := Lib.hid (fun W (hb : Below w.heap.size w W) => (h.below hb).facts)
  have HH := Lib.hid (fun W (hb : Below w.heap.size w W) => h.below hb)
  have HW := fun W (hb : Below w.heap.size w W) => (h.below hb).word (i := at_ + 2 + (A.hd at_).ptrs + i) (by omega) (by omega)
  rw [show (at_ + 2 + (A.hd at_).ptrs + i).toNat = at_.toNat + (2 + (A.hd at_).ptrs).toNat + i.toNat by omega] at HW
  have HF := Lib.hid (fun W (hb : Below w.heap.size w W) => (h.below hb).wfree (at_.toNat + (2 + (A.hd at_).ptrs).toNat + i.toNat))
  unfold Ar.put
  rw [show (at_ + 2 + (A.hd at_).ptrs + i).toNat = at_.toNat + (2 + (A.hd at_).ptrs).toNat + i.toNat by omega]
  obtain ⟨p, hpp⟩ := Int.eq_ofNat_of_zero_le hr0
  rw [hpp] at O hi hr1
  simp only [Int.toNat_natCast] at O hi hr1
  have hd1 : decide ((p : Int) ≤ i) = false := by simpa using hi
  have hd0 : decide (i < 0) = false := by simpa using h0
  have hqq : (1 : Int) ≤ (p : Int) := by omega
  generalize A.word (at_ + 2 + (A.hd at_).ptrs + i) = m at *
  generalize (2 + (A.hd at_).ptrs).toNat = k at *
  have HWW := Lib.hid HW
  clear tb h ok ho HW hpp hr0 hr1 hp0 hp1 hl
  go_enter Tryd.func95, Tryd.ntmps95
  go_wp2_with fail
  refine O.out.mono ?_
  rintro e w1 ⟨⟨a, rfl, ha⟩, hb⟩
  obtain rfl := ha hqq
  have hw1 := HWW.out _ hb
  have hf1 := HF.out _ hb
  have hn := Lib.hid ((HH.out _ hb).setWord (at_.toNat + k + i.toNat) v)
  go_wp2_with fail
  go_ret
  exact ⟨rfl, hn.out, (Only.of_below hb).setCell (by simp) _⟩

def Ar.setRaw (A : Ar) (at_ i v : Int) : Ar := if A.rawOk at_ i then A.put (at_ + 2 + (A.hd at_).ptrs + i) v else A
theorem setRaw_any (b wb : Nat) (A : Ar) (at_ i v : Int) (w : World) (tb : Tab w) (h : ArAt w b wb A) (ok : A.Ok) :
    Calls Tryd.prog 95 #[.pointer (some ⟨b, 0, none⟩), .int .i64 at_, .int .i64 i, .int .u64 v] w fun e w' => e = .returned (.bool (A.rawOk at_ i)) ∧ ArAt w' b wb (A.setRaw at_ i v) ∧ Only [b, wb] w w' := by
  unfold Ar.setRaw
  by_cases ho : A.isObj at_ = true
  · by_cases hi : 0 ≤ i ∧ i < (A.hd at_).raws
    · have e1 : A.rawOk at_ i = true := by unfold Ar.rawOk; rw [ho, decide_eq_true hi]; rfl
      rw [e1, if_pos rfl]
      exact setRaw_in b wb A at_ i v w tb h ok ho hi.1 hi.2
    · have e1 : A.rawOk at_ i = false := by unfold Ar.rawOk; rw [decide_eq_false hi]; simp
      rw [e1, if_neg (by simp)]
      exact (setRaw_out b wb A at_ i v w tb h ok ho hi).mono fun e w' ⟨h1, h2⟩ => ⟨h1, h.below h2, Only.of_below h2⟩
  · have ho' : A.isObj at_ = false := by simpa using ho
    have e1 : A.rawOk at_ i = false := by unfold Ar.rawOk; rw [ho']; rfl
    rw [e1, if_neg (by simp)]
    exact (setRaw_nil b wb A at_ i v w tb h ok ho').mono fun e w' ⟨h1, h2⟩ => ⟨h1, h.below h2, Only.of_below h2⟩

theorem setPtr_nil (b wb : Nat) (A : Ar) (at_ i v : Int) (w : World) (tb : Tab w) (h : ArAt w b wb A) (ok : A.Ok) (ho : A.isObj at_ = false) :
    Calls Tryd.prog 94 #[.pointer (some ⟨b, 0, none⟩), .int .i64 at_, .int .i64 i, .int .i64 v] w fun e w' => e = .returned (.bool false) ∧ Below w.heap.size w w' := by
  have O := Lib.hid (pointers_no b wb A at_ w tb h ok ho)
  clear tb h ok ho
  by_cases c : i < 0
  · go_enter Tryd.func94, Tryd.ntmps94
    go_wp2_with fail
    refine O.out.mono ?_
    rintro e w1 ⟨rfl, hb⟩
    go_wp2_with fail
    go_ret
    exact ⟨rfl, hb⟩
  · have d : decide (i < 0) = false := by simpa using c
    have c0 : 0 ≤ i := by omega
    clear c
    go_enter Tryd.func94, Tryd.ntmps94
    go_wp2_with fail
    refine O.out.mono ?_
    rintro e w1 ⟨rfl, hb⟩
    go_wp2_with fail
    go_ret
    exact ⟨rfl, hb⟩

theorem setPtr_out (b wb : Nat) (A : Ar) (at_ i v : Int) (w : World) (tb : Tab w) (h : ArAt w b wb A) (ok : A.Ok) (ho : A.isObj at_ = true) (hi : ¬ (0 ≤ i ∧ i < (A.hd at_).ptrs)) :
    Calls Tryd.prog 94 #[.pointer (some ⟨b, 0, none⟩), .int .i64 at_, .int .i64 i, .int .i64 v] w fun e w' => e = .returned (.bool false) ∧ Below w.heap.size w w' := by
  have O := Lib.hid (pointers_yes b wb A at_ w tb h ok ho)
  have hp := (hd_bd ok ho).2.1
  generalize A.hd at_ = d at *
  clear tb h ok ho
  by_cases c : i < 0
  · clear hi
    go_enter Tryd.func94, Tryd.ntmps94
    go_wp2_with fail
    refine O.out.mono ?_
    rintro e w1 ⟨⟨a, rfl, ha⟩, hb⟩
    clear ha
    go_wp2_with fail
    go_ret
    exact ⟨rfl, hb⟩
  · have d0 : decide (i < 0) = false := by simpa using c
    have c0 : 0 ≤ i := by omega
    obtain ⟨p, hpp⟩ := Int.eq_ofNat_of_zero_le hp
    have c1 : (p : Int) ≤ i := by omega
    rw [hpp] at O
    simp only [Int.toNat_natCast] at O
    clear c hi hpp hp
    go_enter Tryd.func94, Tryd.ntmps94
    go_wp2_with fail
    refine O.out.mono ?_
    rintro e w1 ⟨⟨a, rfl, ha⟩, hb⟩
    clear ha
    go_wp2_with fail
    go_ret
    exact ⟨rfl, hb⟩

theorem setPtr_in (b wb : Nat) (A : Ar) (at_ i v : Int) (w : World) (tb : Tab w) (h : ArAt w b wb A) (ok : A.Ok) (ho : A.isObj at_ = true) (h0 : 0 ≤ i) (hi : i < (A.hd at_).ptrs) (v0 : 0 ≤ v) (v1 : v < (A.words.length : Int)) :
    Calls Tryd.prog 94 #[.pointer (some ⟨b, 0, none⟩), .int .i64 at_, .int .i64 i, .int .i64 v] w fun e w' => e = .returned (.bool true) ∧ ArAt w' b wb (A.put (at_ + 2 + i) v) ∧ Only [b, wb] w w' := by
  have O := Lib.hid (pointers_yes b wb A at_ w tb h ok ho)
  obtain ⟨h1, hp0, hp1, hr0, hr1, hl, hN⟩ := hd_bd ok ho
  have HC := Lib.hid (fun W (hb : Below w.heap.size w W) => (h.below hb).facts)
  have HH := Lib.hid (fun W (hb : Below w.heap.size w W) => h.below hb)
  have HW := fun W (hb : Below w.heap.size w W) => (h.below hb).word (i := at_ + 2 + i) (by omega) (by omega)
  rw [show (at_ + 2 + i).toNat = at_.toNat + 2 + i.toNat by omega] at HW
  have HF := Lib.hid (fun W (hb : Below w.heap.size w W) => (h.below hb).wfree (at_.toNat + 2 + i.toNat))
  unfold Ar.put
  rw [show (at_ + 2 + i).toNat = at_.toNat + 2 + i.toNat by omega]
  obtain ⟨p, hpp⟩ := Int.eq_ofNat_of_zero_le hp0
  rw [hpp] at O hi hp1
  simp only [Int.toNat_natCast] at O hi hp1
  have hd1 : decide ((p : Int) ≤ i) = false := by simpa using hi
  have hd0 : decide (i < 0) = false := by simpa using h0
  have hqq : (1 : Int) ≤ (p : Int) := by omega
  generalize A.word (at_ + 2 + i) = m at *
  have HWW := Lib.hid HW
  clear tb h ok ho HW hpp hr0 hr1 hp0 hp1 hl
  have dv0 : decide (v < 0) = false := by simpa using v0
  have dv1 : decide ((A.words.length : Int) ≤ v) = false := by simpa using v1
  go_enter Tryd.func94, Tryd.ntmps94
  go_wp2_with fail
  refine O.out.mono ?_
  rintro e w1 ⟨⟨a, rfl, ha⟩, hb⟩
  obtain rfl := ha hqq
  obtain ⟨hc1, hl1, hm1⟩ := HC.out _ hb
  unfold arCells at hc1
  have hw1 := HWW.out _ hb
  have hf1 := HF.out _ hb
  have hn := Lib.hid ((HH.out _ hb).setWord (at_.toNat + 2 + i.toNat) v)
  go_wp2_with fail
  go_ret
  exact ⟨rfl, hn.out, (Only.of_below hb).setCell (by simp) _⟩

theorem setPtr_bad (b wb : Nat) (A : Ar) (at_ i v : Int) (w : World) (tb : Tab w) (h : ArAt w b wb A) (ok : A.Ok) (ho : A.isObj at_ = true) (h0 : 0 ≤ i) (hi : i < (A.hd at_).ptrs) (hv : ¬ (0 ≤ v ∧ v < (A.words.length : Int))) :
    Calls Tryd.prog 94 #[.pointer (some ⟨b, 0, none⟩), .int .i64 at_, .int .i64 i, .int .i64 v] w fun e w' => e = .returned (.bool false) ∧ Below w.heap.size w w' := by
  have O := Lib.hid (pointers_yes b wb A at_ w tb h ok ho)
  obtain ⟨h1, hp0, hp1, hr0, hr1, hl, hN⟩ := hd_bd ok ho
  have HC := Lib.hid (fun W (hb : Below w.heap.size w W) => (h.below hb).facts)
  have HH := Lib.hid (fun W (hb : Below w.heap.size w W) => h.below hb)
  have HW := fun W (hb : Below w.heap.size w W) => (h.below hb).word (i := at_ + 2 + i) (by omega) (by omega)
  rw [show (at_ + 2 + i).toNat = at_.toNat + 2 + i.toNat by omega] at HW
  obtain ⟨p, hpp⟩ := Int.eq_ofNat_of_zero_le hp0
  rw [hpp] at O hi hp1
  simp only [Int.toNat_natCast] at O hi hp1
  have hd1 : decide ((p : Int) ≤ i) = false := by simpa using hi
  have hd0 : decide (i < 0) = false := by simpa using h0
  clear tb h ok ho HW hpp hr0 hr1 hp0 hp1 hl
  by_cases v0 : v < 0
  · clear hv
    go_enter Tryd.func94, Tryd.ntmps94
    go_wp2_with fail
    refine O.out.mono ?_
    rintro e w1 ⟨⟨a, rfl, ha⟩, hb⟩
    clear ha
    go_wp2_with fail
    go_ret
    exact ⟨rfl, hb⟩
  · have dv0 : decide (v < 0) = false := by simpa using v0
    have v1 : (A.words.length : Int) ≤ v := by omega
    clear hv v0
    go_enter Tryd.func94, Tryd.ntmps94
    go_wp2_with fail
    refine O.out.mono ?_
    rintro e w1 ⟨⟨a, rfl, ha⟩, hb⟩
    obtain ⟨hc1, hl1, hm1⟩ := HC.out _ hb
    unfold arCells at hc1
    clear ha
    go_wp2_with fail
    go_ret
    exact ⟨rfl, hb⟩

def Ar.setPtrOk (A : Ar) (at_ i v : Int) : Bool := A.isObj at_ && decide (0 ≤ i ∧ i < (A.hd at_).ptrs) && decide (0 ≤ v ∧ v < (A.words.length : Int))
def Ar.setPtr (A : Ar) (at_ i v : Int) : Ar := if A.setPtrOk at_ i v then A.put (at_ + 2 + i) v else A
theorem setPtr_any (b wb : Nat) (A : Ar) (at_ i v : Int) (w : World) (tb : Tab w) (h : ArAt w b wb A) (ok : A.Ok) :
    Calls Tryd.prog 94 #[.pointer (some ⟨b, 0, none⟩), .int .i64 at_, .int .i64 i, .int .i64 v] w fun e w' => e = .returned (.bool (A.setPtrOk at_ i v)) ∧ ArAt w' b wb (A.setPtr at_ i v) ∧ Only [b, wb] w w' := by
  unfold Ar.setPtr
  by_cases ho : A.isObj at_ = true
  · by_cases hi : 0 ≤ i ∧ i < (A.hd at_).ptrs
    · by_cases hv : 0 ≤ v ∧ v < (A.words.length : Int)
      · have e1 : A.setPtrOk at_ i v = true := by unfold Ar.setPtrOk; rw [ho, decide_eq_true hi, decide_eq_true hv]; rfl
        rw [e1, if_pos rfl]
        exact setPtr_in b wb A at_ i v w tb h ok ho hi.1 hi.2 hv.1 hv.2
      · have e1 : A.setPtrOk at_ i v = false := by unfold Ar.setPtrOk; rw [decide_eq_false hv]; simp
        rw [e1, if_neg (by simp)]
        exact (setPtr_bad b wb A at_ i v w tb h ok ho hi.1 hi.2 hv).mono fun e w' ⟨h1, h2⟩ => ⟨h1, h.below h2, Only.of_below h2⟩
    · have e1 : A.setPtrOk at_ i v = false := by unfold Ar.setPtrOk; rw [decide_eq_false hi]; simp
      rw [e1, if_neg (by simp)]
      exact (setPtr_out b wb A at_ i v w tb h ok ho hi).mono fun e w' ⟨h1, h2⟩ => ⟨h1, h.below h2, Only.of_below h2⟩
  · have ho' : A.isObj at_ = false := by simpa using ho
    have e1 : A.setPtrOk at_ i v = false := by unfold Ar.setPtrOk; rw [ho']; rfl
    rw [e1, if_neg (by simp)]
    exact (setPtr_nil b wb A at_ i v w tb h ok ho').mono fun e w' ⟨h1, h2⟩ => ⟨h1, h.below h2, Only.of_below h2⟩
end Go.Proofs.YtomgfdfgildkbaaDoor
