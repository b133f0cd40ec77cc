/- The walks of package arena, eighth part: headers and fields. -/
import Derived.Test.YtomgfdfgildkbaaDoorArenaW7
namespace Go.Proofs.YtomgfdfgildkbaaDoor
open Go.RowKit Go.BigFrame

theorem head_any (b wb : Nat) (A : Ar) (i : Int) (w : World) (tb : Tab w) (h : ArAt w b wb A) (ok : A.Ok) :
    Calls Tryd.prog 107 #[.pointer (some ⟨b, 0, none⟩), .int .i64 i] w fun e w' => e = .returned (.tuple #[(A.hd i).val, .bool (A.isObj i)]) ∧ Below w.heap.size w w' := by
  have O := fun W (hb : Below w.heap.size w W) => object_any b wb A i W (tb.below hb) (h.below hb) ok
  have hsl : ∃ a n, A.osl wb i = .slice a n n := by unfold Ar.osl; split <;> exact ⟨_, _, rfl⟩
  obtain ⟨a, n, e⟩ := hsl
  rw [e] at O
  generalize A.hd i = d at *
  generalize A.isObj i = ob at *
  unfold Hd.val at *
  have OO := Lib.hid O
  clear O e h ok tb
  go_enter Tryd.func107, Tryd.ntmps107
  go_wp2_with fail
  refine (OO.out _ ((Below.refl _ _).alloc (Nat.le_refl _) _)).mono ?_
  rintro e w1 ⟨rfl, hb⟩
  obtain ⟨hX, hb1, hz1⟩ := kept_new hb
  obtain ⟨hk, hkf⟩ := hcell hX
  clear hb
  go_wp2_with fail
  exact bodyPost_ret (v := .tuple #[.agg #[.int .u64 d.ser, .int .i64 d.kind, .int .i64 d.ptrs, .int .i64 d.raws, .int .i64 d.age, .int .i64 d.site, .bool d.held], .bool ob]) (by simp [results, Tryd.results107, go_sem, hk, World.cell?_alloc_old, Nat.ne_of_lt hz1]) rfl ⟨rfl, by refine Below.alloc ?_ (by simp; omega) _; (repeat refine Below.setCell ?_ (by simp) _); exact hb1⟩

theorem ret_slice {a : Option Addr} {n n' c c' : Nat} (h : n = n') (h2 : c = c') : Ending.returned (.slice a n c) = .returned (.slice a n' c') := by rw [h, h2]
theorem isObj_facts {A : Ar} (ok : A.Ok) {i : Int} (h : A.isObj i = true) : 1 ≤ i ∧ i + A.osz i ≤ (A.words.length : Int) ∧ (A.words.length : Int) ≤ 262145 ∧ Fine (dec (A.word i)) ∧ A.osz i = 2 + (dec (A.word i)).ptrs + (dec (A.word i)).raws ∧ A.hd i = { dec (A.word i) with ser := A.word (i + 1) } := by
  have ho := h
  unfold Ar.isObj at h
  simp only [Bool.and_eq_true, decide_eq_true_eq] at h
  obtain ⟨⟨⟨h1, h2⟩, h3⟩, h4⟩ := h
  have hb := Ar.space_bd ok h1
  have ht := ok.tops
  have hle : A.top (A.space i) ≤ (A.words.length : Int) := by
    rcases hb.1 with e | e | e | e <;> rw [e] <;> simp [Ar.top] <;> omega
  exact ⟨by omega, by omega, by omega, (chk_iff _).1 (by unfold isHd at h3; simp at h3; exact h3.2), rfl, by unfold Ar.hd; rw [if_pos ho]⟩

theorem pointers_yes (b wb : Nat) (A : Ar) (i : Int) (w : World) (tb : Tab w) (h : ArAt w b wb A) (ok : A.Ok) (ho : A.isObj i = true) :
    Calls Tryd.prog 140 #[.pointer (some ⟨b, 0, none⟩), .int .i64 i] w fun e w' => (∃ a, e = .returned (.slice (some a) (A.hd i).ptrs.toNat (A.hd i).ptrs.toNat) ∧ (1 ≤ (A.hd i).ptrs → a = ⟨wb, i.toNat + 2, none⟩)) ∧ Below w.heap.size w w' := by
  have O := fun W (hb : Below w.heap.size w W) => object_any b wb A i W (tb.below hb) (h.below hb) ok
  obtain ⟨h1, h2, h3, f, e4, e5⟩ := isObj_facts ok ho
  have e6 : A.osl wb i = .slice (some ⟨wb, i.toNat, none⟩) (A.osz i).toNat (A.osz i).toNat := by unfold Ar.osl; rw [if_pos ho]
  rw [e6, ho] at O
  have e7 : (A.hd i).ptrs = (dec (A.word i)).ptrs := by rw [e5]
  have p0 := f.p0
  have p1 := f.p1
  have r0 := f.r0
  have r1 := f.r1
  rw [← e7] at p0 p1
  have hn : 2 + (A.hd i).ptrs ≤ A.osz i := by omega
  generalize A.hd i = d at *
  generalize A.osz i = n at *
  unfold Hd.val at *
  have OO := Lib.hid O
  clear O e4 e5 e6 e7 h ok tb ho f
  go_enter Tryd.func140, Tryd.ntmps140
  go_wp2_with fail
  refine (OO.out _ (Below.refl _ _)).mono ?_
  rintro e w1 ⟨rfl, hb⟩
  go_wp2_with fail
  all_goals
    go_ret
    exact ⟨⟨_, ret_slice (by omega) (by omega), by intro hq; first | rfl | omega⟩, hb.alloc hb.size _⟩

theorem pointers_no (b wb : Nat) (A : Ar) (i : Int) (w : World) (tb : Tab w) (h : ArAt w b wb A) (ok : A.Ok) (ho : A.isObj i = false) :
    Calls Tryd.prog 140 #[.pointer (some ⟨b, 0, none⟩), .int .i64 i] w fun e w' => e = .returned (.slice none 0 0) ∧ Below w.heap.size w w' := by
  have O := fun W (hb : Below w.heap.size w W) => object_any b wb A i W (tb.below hb) (h.below hb) ok
  have e6 : A.osl wb i = .slice none 0 0 := by unfold Ar.osl; rw [ho]; rfl
  rw [e6, ho] at O
  generalize A.hd i = d at *
  unfold Hd.val at *
  have OO := Lib.hid O
  clear O e6 h ok tb ho
  go_enter Tryd.func140, Tryd.ntmps140
  go_wp2_with fail
  refine (OO.out _ (Below.refl _ _)).mono ?_
  rintro e w1 ⟨rfl, hb⟩
  go_wp2_with fail
  go_ret
  exact ⟨rfl, hb.alloc hb.size _⟩

theorem raws_yes (b wb : Nat) (A : Ar) (i : Int) (w : World) (tb : Tab w) (h : ArAt w b wb A) (ok : A.Ok) (ho : A.isObj i = true) :
    Calls Tryd.prog 141 #[.pointer (some ⟨b, 0, none⟩), .int .i64 i] w fun e w' => (∃ a, e = .returned (.slice (some a) (A.hd i).raws.toNat (A.hd i).raws.toNat) ∧ (1 ≤ (A.hd i).raws → a = ⟨wb, i.toNat + (2 + (A.hd i).ptrs).toNat, none⟩)) ∧ Below w.heap.size w w' := by
  have O := fun W (hb : Below w.heap.size w W) => object_any b wb A i W (tb.below hb) (h.below hb) ok
  obtain ⟨h1, h2, h3, f, e4, e5⟩ := isObj_facts ok ho
  have e6 : A.osl wb i = .slice (some ⟨wb, i.toNat, none⟩) (A.osz i).toNat (A.osz i).toNat := by unfold Ar.osl; rw [if_pos ho]
  rw [e6, ho] at O
  have e7 : (A.hd i).ptrs = (dec (A.word i)).ptrs := by rw [e5]
  have e8 : (A.hd i).raws = (dec (A.word i)).raws := by rw [e5]
  have p0 := f.p0
  have p1 := f.p1
  have r0 := f.r0
  have r1 := f.r1
  rw [← e7] at p0 p1
  rw [← e8] at r0 r1
  have hn : A.osz i ≤ 2 + (A.hd i).ptrs + (A.hd i).raws := by omega
  have hn2 : 2 + (A.hd i).ptrs + (A.hd i).raws ≤ A.osz i := by omega
  generalize A.hd i = d at *
  generalize A.osz i = n at *
  unfold Hd.val at *
  have OO := Lib.hid O
  clear O e4 e5 e6 e7 e8 h ok tb ho f
  go_enter Tryd.func141, Tryd.ntmps141
  go_wp2_with fail
  refine (OO.out _ (Below.refl _ _)).mono ?_
  rintro e w1 ⟨rfl, hb⟩
  go_wp2_with fail
  all_goals
    go_ret
    exact ⟨⟨_, ret_slice (by omega) (by omega), by intro hq; first | rfl | omega⟩, hb.alloc hb.size _⟩

theorem raws_no (b wb : Nat) (A : Ar) (i : Int) (w : World) (tb : Tab w) (h : ArAt w b wb A) (ok : A.Ok) (ho : A.isObj i = false) :
    Calls Tryd.prog 141 #[.pointer (some ⟨b, 0, none⟩), .int .i64 i] w fun e w' => e = .returned (.slice none 0 0) ∧ Below w.heap.size w w' := by
  have O := fun W (hb : Below w.heap.size w W) => object_any b wb A i W (tb.below hb) (h.below hb) ok
  have e6 : A.osl wb i = .slice none 0 0 := by unfold Ar.osl; rw [ho]; rfl
  rw [e6, ho] at O
  generalize A.hd i = d at *
  unfold Hd.val at *
  have OO := Lib.hid O
  clear O e6 h ok tb ho
  go_enter Tryd.func141, Tryd.ntmps141
  go_wp2_with fail
  refine (OO.out _ (Below.refl _ _)).mono ?_
  rintro e w1 ⟨rfl, hb⟩
  go_wp2_with fail
  go_ret
  exact ⟨rfl, hb.alloc hb.size _⟩
end Go.Proofs.YtomgfdfgildkbaaDoor
