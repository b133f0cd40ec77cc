/- The walks of package arena, seventh part: the object that stands at an address. -/
import Derived.Test.YtomgfdfgildkbaaDoorArenaW6
import Derived.Test.YtomgfdfgildkbaaDoorCellW5
namespace Go.Proofs.YtomgfdfgildkbaaDoor
open Go.RowKit Go.BigFrame

theorem ArAt.facts {w : World} {b wb : Nat} {A : Ar} (h : ArAt w b wb A) : (∀ o, w.cell? ⟨b, o, none⟩ = (arCells A wb)[o]?) ∧ b < w.heap.size ∧ wb < w.heap.size := ⟨h.cells.1, lt_of_heap h.st, lt_of_heap h.ws⟩
theorem ArAt.word {w : World} {b wb : Nat} {A : Ar} (h : ArAt w b wb A) {i : Int} (h0 : 0 ≤ i) (h1 : i < (A.words.length : Int)) : w.cell? ⟨wb, i.toNat, none⟩ = some (.int .u64 (A.word i)) := by
  rw [h.wcell (by omega)]; unfold Ar.word; rw [if_pos h0]

theorem Ar.Ok.tops {A : Ar} (ok : A.Ok) : A.t1 ≤ (A.words.length : Int) ∧ A.t2 ≤ (A.words.length : Int) ∧ A.t3 ≤ (A.words.length : Int) ∧ A.t4 ≤ (A.words.length : Int) ∧ (A.words.length : Int) ≤ 262145 := by
  obtain ⟨cv, len, rng, a1, b1, a2, b2, a3, b3, a4, b4, fr⟩ := ok
  obtain ⟨e0, e1, s0, s1, t0, t1⟩ := Cfg.bd cv
  unfold Cfg.size at len
  omega
theorem object_out (b wb : Nat) (A : Ar) (i : Int) (w : World) (h : ArAt w b wb A) (ok : A.Ok) (hs : A.space i = 0) :
    Calls Tryd.prog 139 #[.pointer (some ⟨b, 0, none⟩), .int .i64 i] w fun e w' => e = .returned (.tuple #[.slice none 0 0, nohd.val, .bool false]) ∧ Below w.heap.size w w' := by
  have S := fun W (hb : Below w.heap.size w W) => space_any b wb A i W (h.below hb) ok
  rw [hs] at S
  have SS := Lib.hid S
  clear S h ok hs
  go_enter Tryd.func139, Tryd.ntmps139
  go_wp2_with fail
  refine (SS.out _ ((Below.refl _ _).alloc (Nat.le_refl _) _)).mono ?_
  rintro e w1 ⟨rfl, rfl⟩
  go_wp2_with fail
  exact bodyPost_ret (v := .tuple #[.slice none 0 0, nohd.val, .bool false]) (by simp [results, Tryd.results139, go_sem, nohd, Hd.val]) rfl ⟨rfl, (Below.refl _ _).alloc (Nat.le_refl _) _⟩

theorem object_above_1 (b wb : Nat) (A : Ar) (i : Int) (w : World) (h : ArAt w b wb A) (ok : A.Ok) (hs : A.space i = 1) (ht : A.t1 ≤ i) :
    Calls Tryd.prog 139 #[.pointer (some ⟨b, 0, none⟩), .int .i64 i] w fun e w' => e = .returned (.tuple #[.slice none 0 0, nohd.val, .bool false]) ∧ Below w.heap.size w w' := by
  have S := fun W (hb : Below w.heap.size w W) => space_any b wb A i W (h.below hb) ok
  rw [hs] at S
  have SS := Lib.hid S
  obtain ⟨hc, hlt, hlw⟩ := h.facts
  unfold arCells at hc
  clear S h ok hs
  go_enter Tryd.func139, Tryd.ntmps139
  go_wp2_with fail
  refine (SS.out _ ((Below.refl _ _).alloc (Nat.le_refl _) _)).mono ?_
  rintro e w1 ⟨rfl, rfl⟩
  go_wp2_with fail
  exact bodyPost_ret (v := .tuple #[.slice none 0 0, nohd.val, .bool false]) (by simp [results, Tryd.results139, go_sem, nohd, Hd.val]) rfl ⟨rfl, (Below.refl _ _).alloc (Nat.le_refl _) _⟩

set_option maxHeartbeats 1000000 in
theorem object_in_1 (b wb : Nat) (A : Ar) (i : Int) (w : World) (tb : Tab w) (h : ArAt w b wb A) (ok : A.Ok) (hs : A.space i = 1) (ht : i < A.t1) :
    Calls Tryd.prog 139 #[.pointer (some ⟨b, 0, none⟩), .int .i64 i] w fun e w' => e = .returned (.tuple #[A.osl wb i, (A.hd i).val, .bool (A.isObj i)]) ∧ Below w.heap.size w w' := by
  have S := fun W (hb : Below w.heap.size w W) => space_any b wb A i W (h.below hb) ok
  rw [hs] at S
  have SS := Lib.hid S
  have hsb := Ar.space_bd ok (i := i) (by rw [hs]; decide)
  obtain ⟨-, hfi, hbe, h1i, hiN⟩ := hsb
  have hwd := ok.word i
  have htp := ok.tops
  have hsz := ok.sizes 1
  have htop : A.top (A.space i) = A.t1 := by rw [hs]; rfl
  have HW := Lib.hid (fun W (hb : Below w.heap.size w W) => (h.below hb).word (i := i) (by omega) hiN)
  have HC := Lib.hid (fun W (hb : Below w.heap.size w W) => (h.below hb).facts)
  have U := fun W (hb : Below w.heap.size w W) => unpack_any (A.word i) W (tb.below hb) hwd.1 hwd.2
  have Z := fun W (hb : Below w.heap.size w W) => size_any (A.word i) W (tb.below hb) hwd.1 hwd.2
  by_cases q : isHd (A.word i) = true
  · have hz := Ar.osz_bd q
    have he : unp (A.word i) = dec (A.word i) := by unfold unp; rw [if_pos q]
    have hso : sizeW (A.word i) = A.osz i := by unfold sizeW Ar.osz; rw [if_pos q]
    rw [he, q] at U
    rw [hso] at Z
    have hv : (dec (A.word i)).val = .agg #[.int .u64 0, .int .i64 (dec (A.word i)).kind, .int .i64 (dec (A.word i)).ptrs, .int .i64 (dec (A.word i)).raws, .int .i64 (dec (A.word i)).age, .int .i64 (dec (A.word i)).site, .bool (dec (A.word i)).held] := rfl
    rw [hv] at U
    by_cases fit : A.osz i ≤ A.t1 - i
    · have ho : A.isObj i = true := by unfold Ar.isObj; rw [htop, hs, q, decide_eq_true fit, decide_eq_true ht]; rfl
      have hP := fun W (hb : Below w.heap.size w W) => piece_any b wb A i (A.osz i) W (h.below hb) (by omega) (by omega) (by omega) (by omega)
      have HV := Lib.hid (fun W (hb : Below w.heap.size w W) => (h.below hb).word (i := i + 1) (by omega) (by omega))
      have e1 : (A.hd i).val = .agg #[.int .u64 (A.word (i + 1)), .int .i64 (dec (A.word i)).kind, .int .i64 (dec (A.word i)).ptrs, .int .i64 (dec (A.word i)).raws, .int .i64 (dec (A.word i)).age, .int .i64 (dec (A.word i)).site, .bool (dec (A.word i)).held] := by unfold Ar.hd; rw [if_pos ho]; rfl
      have e2 : A.osl wb i = .slice (some ⟨wb, i.toNat, none⟩) (A.osz i).toNat (A.osz i).toNat := by unfold Ar.osl; rw [if_pos ho]
      rw [e1, e2, ho]
      have PP := Lib.hid hP
      have UU := Lib.hid U
      have ZZ := Lib.hid Z
      obtain ⟨hc, hlt, hlw⟩ := HC.out _ (Below.refl _ _)
      have hw := HW.out _ (Below.refl _ _)
      unfold arCells at hc
      generalize A.osz i = n at *
      generalize A.word i = m at *
      generalize A.word (i + 1) = m1 at *
      generalize dec m = d at *
      clear hP U Z S e1 e2 ho h ok tb he hso hv q hwd hsz htop hs
      go_enter Tryd.func139, Tryd.ntmps139
      go_wp2_with fail
      refine (SS.out _ ((Below.refl _ _).alloc (Nat.le_refl _) _)).mono ?_
      rintro e w1 ⟨rfl, rfl⟩
      have hb0 : Below w.heap.size w (w.alloc (.cells #[.int .u64 0, .int .i64 0, .int .i64 0, .int .i64 0, .int .i64 0, .int .i64 0, .bool false] 24)) := (Below.refl _ _).alloc (Nat.le_refl _) _
      go_wp2_with fail
      refine (UU.out _ hb0).mono ?_
      rintro e w1 ⟨rfl, hb⟩
      obtain ⟨hX, hb1, hz1⟩ := kept_new hb
      obtain ⟨hk, hkf⟩ := hcell hX
      obtain ⟨hc1, hl1, hm1⟩ := HC.out _ hb1
      have hw1 := HW.out _ hb1
      unfold arCells at hc1
      clear hb
      go_wp2_with fail
      refine (ZZ.out _ (hb1.alloc hb1.size _)).mono ?_
      rintro e w2 ⟨rfl, hb⟩
      obtain ⟨hY, hb2', hz2⟩ := kept_new hb
      have hb2 : Below w.heap.size w w2 := hb1.trans (hb2'.mono hb1.size)
      have hX2 := (hb2'.block _ hz1).trans hX
      obtain ⟨hk2, hkf2⟩ := hcell hX2
      obtain ⟨hy2, hyf2⟩ := hcell hY
      obtain ⟨hc2, hl2, hm2⟩ := HC.out _ hb2
      have hw2 := HW.out _ hb2
      unfold arCells at hc2
      clear hb hb2' hc1 hw1 hk hkf
      go_wp2_with fail
      have hv2 := HV.out _ hb2
      rw [show (i + 1).toNat = i.toNat + 1 by omega] at hv2
      refine (PP.out _ hb2).mono ?_
      rintro e w3 ⟨rfl, rfl⟩
      go_wp2_with fail
      go_region
      all_goals
        go_wp2
        exact bodyPost_ret (v := .tuple #[.slice (some ⟨wb, i.toNat, none⟩) n.toNat n.toNat, .agg #[.int .u64 m1, .int .i64 d.kind, .int .i64 d.ptrs, .int .i64 d.raws, .int .i64 d.age, .int .i64 d.site, .bool d.held], .bool true]) (by simp [results, Tryd.results139, go_sem, hk2]) rfl ⟨rfl, by refine Below.drew ?_; (repeat refine Below.setCell ?_ (by simp; try omega) _); exact hb2⟩
    · have ho : A.isObj i = false := by unfold Ar.isObj; rw [htop, decide_eq_false fit]; simp
      rw [show A.hd i = nohd by unfold Ar.hd; rw [ho]; rfl, show A.osl wb i = .slice none 0 0 by unfold Ar.osl; rw [ho]; rfl, ho]
      have UU := Lib.hid U
      have ZZ := Lib.hid Z
      obtain ⟨hc, hlt, hlw⟩ := HC.out _ (Below.refl _ _)
      have hw := HW.out _ (Below.refl _ _)
      unfold arCells at hc
      generalize A.osz i = n at *
      generalize A.word i = m at *
      generalize dec m = d at *
      clear U Z S ho h ok tb he hso hv q hwd hsz htop hs
      go_enter Tryd.func139, Tryd.ntmps139
      go_wp2_with fail
      refine (SS.out _ ((Below.refl _ _).alloc (Nat.le_refl _) _)).mono ?_
      rintro e w1 ⟨rfl, rfl⟩
      have hb0 : Below w.heap.size w (w.alloc (.cells #[.int .u64 0, .int .i64 0, .int .i64 0, .int .i64 0, .int .i64 0, .int .i64 0, .bool false] 24)) := (Below.refl _ _).alloc (Nat.le_refl _) _
      go_wp2_with fail
      refine (UU.out _ hb0).mono ?_
      rintro e w1 ⟨rfl, hb⟩
      obtain ⟨hX, hb1, hz1⟩ := kept_new hb
      obtain ⟨hk, hkf⟩ := hcell hX
      obtain ⟨hc1, hl1, hm1⟩ := HC.out _ hb1
      have hw1 := HW.out _ hb1
      unfold arCells at hc1
      clear hb
      go_wp2_with fail
      refine (ZZ.out _ (hb1.alloc hb1.size _)).mono ?_
      rintro e w2 ⟨rfl, hb⟩
      obtain ⟨hY, hb2', hz2⟩ := kept_new hb
      have hb2 : Below w.heap.size w w2 := hb1.trans (hb2'.mono hb1.size)
      have hX2 := (hb2'.block _ hz1).trans hX
      obtain ⟨hk2, hkf2⟩ := hcell hX2
      obtain ⟨hy2, hyf2⟩ := hcell hY
      obtain ⟨hc2, hl2, hm2⟩ := HC.out _ hb2
      have hw2 := HW.out _ hb2
      unfold arCells at hc2
      clear hb hb2' hc1 hw1 hk hkf
      go_wp2_with fail
      exact bodyPost_ret (v := .tuple #[.slice none 0 0, nohd.val, .bool false]) (by simp [results, Tryd.results139, go_sem, nohd, Hd.val, hk2]) rfl ⟨rfl, by (repeat refine Below.setCell ?_ (by simp) _); exact hb2⟩
  · have he : unp (A.word i) = nohd := by unfold unp; rw [if_neg q]
    have q' : isHd (A.word i) = false := by simpa using q
    have ho : A.isObj i = false := by unfold Ar.isObj; rw [q']; simp
    rw [show A.hd i = nohd by unfold Ar.hd; rw [ho]; rfl, show A.osl wb i = .slice none 0 0 by unfold Ar.osl; rw [ho]; rfl, ho]
    rw [he, q', show nohd.val = .agg #[.int .u64 0, .int .i64 0, .int .i64 0, .int .i64 0, .int .i64 0, .int .i64 0, .bool false] from rfl] at U
    have UU := Lib.hid U
    have ZZ := Lib.hid Z
    obtain ⟨hc, hlt, hlw⟩ := HC.out _ (Below.refl _ _)
    have hw := HW.out _ (Below.refl _ _)
    unfold arCells at hc
    generalize sizeW (A.word i) = n at *
    generalize A.word i = m at *
    clear U Z S ho h ok tb he q q' hwd hsz htop hs
    go_enter Tryd.func139, Tryd.ntmps139
    go_wp2_with fail
    refine (SS.out _ ((Below.refl _ _).alloc (Nat.le_refl _) _)).mono ?_
    rintro e w1 ⟨rfl, rfl⟩
    have hb0 : Below w.heap.size w (w.alloc (.cells #[.int .u64 0, .int .i64 0, .int .i64 0, .int .i64 0, .int .i64 0, .int .i64 0, .bool false] 24)) := (Below.refl _ _).alloc (Nat.le_refl _) _
    go_wp2_with fail
    refine (UU.out _ hb0).mono ?_
    rintro e w1 ⟨rfl, hb⟩
    obtain ⟨hX, hb1, hz1⟩ := kept_new hb
    obtain ⟨hk, hkf⟩ := hcell hX
    obtain ⟨hc1, hl1, hm1⟩ := HC.out _ hb1
    have hw1 := HW.out _ hb1
    unfold arCells at hc1
    clear hb
    go_wp2_with fail
    refine (ZZ.out _ (hb1.alloc hb1.size _)).mono ?_
    rintro e w2 ⟨rfl, hb⟩
    obtain ⟨hY, hb2', hz2⟩ := kept_new hb
    have hb2 : Below w.heap.size w w2 := hb1.trans (hb2'.mono hb1.size)
    have hX2 := (hb2'.block _ hz1).trans hX
    obtain ⟨hk2, hkf2⟩ := hcell hX2
    obtain ⟨hc2, hl2, hm2⟩ := HC.out _ hb2
    clear hb hb2' hc1 hw1 hk hkf
    go_wp2_with fail
    exact bodyPost_ret (v := .tuple #[.slice none 0 0, nohd.val, .bool false]) (by simp [results, Tryd.results139, go_sem, nohd, Hd.val, hk2]) rfl ⟨rfl, by (repeat refine Below.setCell ?_ (by simp) _); exact hb2⟩

theorem object_above_2 (b wb : Nat) (A : Ar) (i : Int) (w : World) (h : ArAt w b wb A) (ok : A.Ok) (hs : A.space i = 2) (ht : A.t2 ≤ i) :
    Calls Tryd.prog 139 #[.pointer (some ⟨b, 0, none⟩), .int .i64 i] w fun e w' => e = .returned (.tuple #[.slice none 0 0, nohd.val, .bool false]) ∧ Below w.heap.size w w' := by
  have S := fun W (hb : Below w.heap.size w W) => space_any b wb A i W (h.below hb) ok
  rw [hs] at S
  have SS := Lib.hid S
  obtain ⟨hc, hlt, hlw⟩ := h.facts
  unfold arCells at hc
  clear S h ok hs
  go_enter Tryd.func139, Tryd.ntmps139
  go_wp2_with fail
  refine (SS.out _ ((Below.refl _ _).alloc (Nat.le_refl _) _)).mono ?_
  rintro e w1 ⟨rfl, rfl⟩
  go_wp2_with fail
  exact bodyPost_ret (v := .tuple #[.slice none 0 0, nohd.val, .bool false]) (by simp [results, Tryd.results139, go_sem, nohd, Hd.val]) rfl ⟨rfl, (Below.refl _ _).alloc (Nat.le_refl _) _⟩

set_option maxHeartbeats 1000000 in
theorem object_in_2 (b wb : Nat) (A : Ar) (i : Int) (w : World) (tb : Tab w) (h : ArAt w b wb A) (ok : A.Ok) (hs : A.space i = 2) (ht : i < A.t2) :
    Calls Tryd.prog 139 #[.pointer (some ⟨b, 0, none⟩), .int .i64 i] w fun e w' => e = .returned (.tuple #[A.osl wb i, (A.hd i).val, .bool (A.isObj i)]) ∧ Below w.heap.size w w' := by
  have S := fun W (hb : Below w.heap.size w W) => space_any b wb A i W (h.below hb) ok
  rw [hs] at S
  have SS := Lib.hid S
  have hsb := Ar.space_bd ok (i := i) (by rw [hs]; decide)
  obtain ⟨-, hfi, hbe, h1i, hiN⟩ := hsb
  have hwd := ok.word i
  have htp := ok.tops
  have hsz := ok.sizes 2
  have htop : A.top (A.space i) = A.t2 := by rw [hs]; rfl
  have HW := Lib.hid (fun W (hb : Below w.heap.size w W) => (h.below hb).word (i := i) (by omega) hiN)
  have HC := Lib.hid (fun W (hb : Below w.heap.size w W) => (h.below hb).facts)
  have U := fun W (hb : Below w.heap.size w W) => unpack_any (A.word i) W (tb.below hb) hwd.1 hwd.2
  have Z := fun W (hb : Below w.heap.size w W) => size_any (A.word i) W (tb.below hb) hwd.1 hwd.2
  by_cases q : isHd (A.word i) = true
  · have hz := Ar.osz_bd q
    have he : unp (A.word i) = dec (A.word i) := by unfold unp; rw [if_pos q]
    have hso : sizeW (A.word i) = A.osz i := by unfold sizeW Ar.osz; rw [if_pos q]
    rw [he, q] at U
    rw [hso] at Z
    have hv : (dec (A.word i)).val = .agg #[.int .u64 0, .int .i64 (dec (A.word i)).kind, .int .i64 (dec (A.word i)).ptrs, .int .i64 (dec (A.word i)).raws, .int .i64 (dec (A.word i)).age, .int .i64 (dec (A.word i)).site, .bool (dec (A.word i)).held] := rfl
    rw [hv] at U
    by_cases fit : A.osz i ≤ A.t2 - i
    · have ho : A.isObj i = true := by unfold Ar.isObj; rw [htop, hs, q, decide_eq_true fit, decide_eq_true ht]; rfl
      have hP := fun W (hb : Below w.heap.size w W) => piece_any b wb A i (A.osz i) W (h.below hb) (by omega) (by omega) (by omega) (by omega)
      have HV := Lib.hid (fun W (hb : Below w.heap.size w W) => (h.below hb).word (i := i + 1) (by omega) (by omega))
      have e1 : (A.hd i).val = .agg #[.int .u64 (A.word (i + 1)), .int .i64 (dec (A.word i)).kind, .int .i64 (dec (A.word i)).ptrs, .int .i64 (dec (A.word i)).raws, .int .i64 (dec (A.word i)).age, .int .i64 (dec (A.word i)).site, .bool (dec (A.word i)).held] := by unfold Ar.hd; rw [if_pos ho]; rfl
      have e2 : A.osl wb i = .slice (some ⟨wb, i.toNat, none⟩) (A.osz i).toNat (A.osz i).toNat := by unfold Ar.osl; rw [if_pos ho]
      rw [e1, e2, ho]
      have PP := Lib.hid hP
      have UU := Lib.hid U
      have ZZ := Lib.hid Z
      obtain ⟨hc, hlt, hlw⟩ := HC.out _ (Below.refl _ _)
      have hw := HW.out _ (Below.refl _ _)
      unfold arCells at hc
      generalize A.osz i = n at *
      generalize A.word i = m at *
      generalize A.word (i + 1) = m1 at *
      generalize dec m = d at *
      clear hP U Z S e1 e2 ho h ok tb he hso hv q hwd hsz htop hs
      go_enter Tryd.func139, Tryd.ntmps139
      go_wp2_with fail
      refine (SS.out _ ((Below.refl _ _).alloc (Nat.le_refl _) _)).mono ?_
      rintro e w1 ⟨rfl, rfl⟩
      have hb0 : Below w.heap.size w (w.alloc (.cells #[.int .u64 0, .int .i64 0, .int .i64 0, .int .i64 0, .int .i64 0, .int .i64 0, .bool false] 24)) := (Below.refl _ _).alloc (Nat.le_refl _) _
      go_wp2_with fail
      refine (UU.out _ hb0).mono ?_
      rintro e w1 ⟨rfl, hb⟩
      obtain ⟨hX, hb1, hz1⟩ := kept_new hb
      obtain ⟨hk, hkf⟩ := hcell hX
      obtain ⟨hc1, hl1, hm1⟩ := HC.out _ hb1
      have hw1 := HW.out _ hb1
      unfold arCells at hc1
      clear hb
      go_wp2_with fail
      refine (ZZ.out _ (hb1.alloc hb1.size _)).mono ?_
      rintro e w2 ⟨rfl, hb⟩
      obtain ⟨hY, hb2', hz2⟩ := kept_new hb
      have hb2 : Below w.heap.size w w2 := hb1.trans (hb2'.mono hb1.size)
      have hX2 := (hb2'.block _ hz1).trans hX
      obtain ⟨hk2, hkf2⟩ := hcell hX2
      obtain ⟨hy2, hyf2⟩ := hcell hY
      obtain ⟨hc2, hl2, hm2⟩ := HC.out _ hb2
      have hw2 := HW.out _ hb2
      unfold arCells at hc2
      clear hb hb2' hc1 hw1 hk hkf
      go_wp2_with fail
      have hv2 := HV.out _ hb2
      rw [show (i + 1).toNat = i.toNat + 1 by omega] at hv2
      refine (PP.out _ hb2).mono ?_
      rintro e w3 ⟨rfl, rfl⟩
      go_wp2_with fail
      go_region
      all_goals
        go_wp2
        exact bodyPost_ret (v := .tuple #[.slice (some ⟨wb, i.toNat, none⟩) n.toNat n.toNat, .agg #[.int .u64 m1, .int .i64 d.kind, .int .i64 d.ptrs, .int .i64 d.raws, .int .i64 d.age, .int .i64 d.site, .bool d.held], .bool true]) (by simp [results, Tryd.results139, go_sem, hk2]) rfl ⟨rfl, by refine Below.drew ?_; (repeat refine Below.setCell ?_ (by simp; try omega) _); exact hb2⟩
    · have ho : A.isObj i = false := by unfold Ar.isObj; rw [htop, decide_eq_false fit]; simp
      rw [show A.hd i = nohd by unfold Ar.hd; rw [ho]; rfl, show A.osl wb i = .slice none 0 0 by unfold Ar.osl; rw [ho]; rfl, ho]
      have UU := Lib.hid U
      have ZZ := Lib.hid Z
      obtain ⟨hc, hlt, hlw⟩ := HC.out _ (Below.refl _ _)
      have hw := HW.out _ (Below.refl _ _)
      unfold arCells at hc
      generalize A.osz i = n at *
      generalize A.word i = m at *
      generalize dec m = d at *
      clear U Z S ho h ok tb he hso hv q hwd hsz htop hs
      go_enter Tryd.func139, Tryd.ntmps139
      go_wp2_with fail
      refine (SS.out _ ((Below.refl _ _).alloc (Nat.le_refl _) _)).mono ?_
      rintro e w1 ⟨rfl, rfl⟩
      have hb0 : Below w.heap.size w (w.alloc (.cells #[.int .u64 0, .int .i64 0, .int .i64 0, .int .i64 0, .int .i64 0, .int .i64 0, .bool false] 24)) := (Below.refl _ _).alloc (Nat.le_refl _) _
      go_wp2_with fail
      refine (UU.out _ hb0).mono ?_
      rintro e w1 ⟨rfl, hb⟩
      obtain ⟨hX, hb1, hz1⟩ := kept_new hb
      obtain ⟨hk, hkf⟩ := hcell hX
      obtain ⟨hc1, hl1, hm1⟩ := HC.out _ hb1
      have hw1 := HW.out _ hb1
      unfold arCells at hc1
      clear hb
      go_wp2_with fail
      refine (ZZ.out _ (hb1.alloc hb1.size _)).mono ?_
      rintro e w2 ⟨rfl, hb⟩
      obtain ⟨hY, hb2', hz2⟩ := kept_new hb
      have hb2 : Below w.heap.size w w2 := hb1.trans (hb2'.mono hb1.size)
      have hX2 := (hb2'.block _ hz1).trans hX
      obtain ⟨hk2, hkf2⟩ := hcell hX2
      obtain ⟨hy2, hyf2⟩ := hcell hY
      obtain ⟨hc2, hl2, hm2⟩ := HC.out _ hb2
      have hw2 := HW.out _ hb2
      unfold arCells at hc2
      clear hb hb2' hc1 hw1 hk hkf
      go_wp2_with fail
      exact bodyPost_ret (v := .tuple #[.slice none 0 0, nohd.val, .bool false]) (by simp [results, Tryd.results139, go_sem, nohd, Hd.val, hk2]) rfl ⟨rfl, by (repeat refine Below.setCell ?_ (by simp) _); exact hb2⟩
  · have he : unp (A.word i) = nohd := by unfold unp; rw [if_neg q]
    have q' : isHd (A.word i) = false := by simpa using q
    have ho : A.isObj i = false := by unfold Ar.isObj; rw [q']; simp
    rw [show A.hd i = nohd by unfold Ar.hd; rw [ho]; rfl, show A.osl wb i = .slice none 0 0 by unfold Ar.osl; rw [ho]; rfl, ho]
    rw [he, q', show nohd.val = .agg #[.int .u64 0, .int .i64 0, .int .i64 0, .int .i64 0, .int .i64 0, .int .i64 0, .bool false] from rfl] at U
    have UU := Lib.hid U
    have ZZ := Lib.hid Z
    obtain ⟨hc, hlt, hlw⟩ := HC.out _ (Below.refl _ _)
    have hw := HW.out _ (Below.refl _ _)
    unfold arCells at hc
    generalize sizeW (A.word i) = n at *
    generalize A.word i = m at *
    clear U Z S ho h ok tb he q q' hwd hsz htop hs
    go_enter Tryd.func139, Tryd.ntmps139
    go_wp2_with fail
    refine (SS.out _ ((Below.refl _ _).alloc (Nat.le_refl _) _)).mono ?_
    rintro e w1 ⟨rfl, rfl⟩
    have hb0 : Below w.heap.size w (w.alloc (.cells #[.int .u64 0, .int .i64 0, .int .i64 0, .int .i64 0, .int .i64 0, .int .i64 0, .bool false] 24)) := (Below.refl _ _).alloc (Nat.le_refl _) _
    go_wp2_with fail
    refine (UU.out _ hb0).mono ?_
    rintro e w1 ⟨rfl, hb⟩
    obtain ⟨hX, hb1, hz1⟩ := kept_new hb
    obtain ⟨hk, hkf⟩ := hcell hX
    obtain ⟨hc1, hl1, hm1⟩ := HC.out _ hb1
    have hw1 := HW.out _ hb1
    unfold arCells at hc1
    clear hb
    go_wp2_with fail
    refine (ZZ.out _ (hb1.alloc hb1.size _)).mono ?_
    rintro e w2 ⟨rfl, hb⟩
    obtain ⟨hY, hb2', hz2⟩ := kept_new hb
    have hb2 : Below w.heap.size w w2 := hb1.trans (hb2'.mono hb1.size)
    have hX2 := (hb2'.block _ hz1).trans hX
    obtain ⟨hk2, hkf2⟩ := hcell hX2
    obtain ⟨hc2, hl2, hm2⟩ := HC.out _ hb2
    clear hb hb2' hc1 hw1 hk hkf
    go_wp2_with fail
    exact bodyPost_ret (v := .tuple #[.slice none 0 0, nohd.val, .bool false]) (by simp [results, Tryd.results139, go_sem, nohd, Hd.val, hk2]) rfl ⟨rfl, by (repeat refine Below.setCell ?_ (by simp) _); exact hb2⟩

theorem object_above_3 (b wb : Nat) (A : Ar) (i : Int) (w : World) (h : ArAt w b wb A) (ok : A.Ok) (hs : A.space i = 3) (ht : A.t3 ≤ i) :
    Calls Tryd.prog 139 #[.pointer (some ⟨b, 0, none⟩), .int .i64 i] w fun e w' => e = .returned (.tuple #[.slice none 0 0, nohd.val, .bool false]) ∧ Below w.heap.size w w' := by
  have S := fun W (hb : Below w.heap.size w W) => space_any b wb A i W (h.below hb) ok
  rw [hs] at S
  have SS := Lib.hid S
  obtain ⟨hc, hlt, hlw⟩ := h.facts
  unfold arCells at hc
  clear S h ok hs
  go_enter Tryd.func139, Tryd.ntmps139
  go_wp2_with fail
  refine (SS.out _ ((Below.refl _ _).alloc (Nat.le_refl _) _)).mono ?_
  rintro e w1 ⟨rfl, rfl⟩
  go_wp2_with fail
  exact bodyPost_ret (v := .tuple #[.slice none 0 0, nohd.val, .bool false]) (by simp [results, Tryd.results139, go_sem, nohd, Hd.val]) rfl ⟨rfl, (Below.refl _ _).alloc (Nat.le_refl _) _⟩

set_option maxHeartbeats 1000000 in
theorem object_in_3 (b wb : Nat) (A : Ar) (i : Int) (w : World) (tb : Tab w) (h : ArAt w b wb A) (ok : A.Ok) (hs : A.space i = 3) (ht : i < A.t3) :
    Calls Tryd.prog 139 #[.pointer (some ⟨b, 0, none⟩), .int .i64 i] w fun e w' => e = .returned (.tuple #[A.osl wb i, (A.hd i).val, .bool (A.isObj i)]) ∧ Below w.heap.size w w' := by
  have S := fun W (hb : Below w.heap.size w W) => space_any b wb A i W (h.below hb) ok
  rw [hs] at S
  have SS := Lib.hid S
  have hsb := Ar.space_bd ok (i := i) (by rw [hs]; decide)
  obtain ⟨-, hfi, hbe, h1i, hiN⟩ := hsb
  have hwd := ok.word i
  have htp := ok.tops
  have hsz := ok.sizes 3
  have htop : A.top (A.space i) = A.t3 := by rw [hs]; rfl
  have HW := Lib.hid (fun W (hb : Below w.heap.size w W) => (h.below hb).word (i := i) (by omega) hiN)
  have HC := Lib.hid (fun W (hb : Below w.heap.size w W) => (h.below hb).facts)
  have U := fun W (hb : Below w.heap.size w W) => unpack_any (A.word i) W (tb.below hb) hwd.1 hwd.2
  have Z := fun W (hb : Below w.heap.size w W) => size_any (A.word i) W (tb.below hb) hwd.1 hwd.2
  by_cases q : isHd (A.word i) = true
  · have hz := Ar.osz_bd q
    have he : unp (A.word i) = dec (A.word i) := by unfold unp; rw [if_pos q]
    have hso : sizeW (A.word i) = A.osz i := by unfold sizeW Ar.osz; rw [if_pos q]
    rw [he, q] at U
    rw [hso] at Z
    have hv : (dec (A.word i)).val = .agg #[.int .u64 0, .int .i64 (dec (A.word i)).kind, .int .i64 (dec (A.word i)).ptrs, .int .i64 (dec (A.word i)).raws, .int .i64 (dec (A.word i)).age, .int .i64 (dec (A.word i)).site, .bool (dec (A.word i)).held] := rfl
    rw [hv] at U
    by_cases fit : A.osz i ≤ A.t3 - i
    · have ho : A.isObj i = true := by unfold Ar.isObj; rw [htop, hs, q, decide_eq_true fit, decide_eq_true ht]; rfl
      have hP := fun W (hb : Below w.heap.size w W) => piece_any b wb A i (A.osz i) W (h.below hb) (by omega) (by omega) (by omega) (by omega)
      have HV := Lib.hid (fun W (hb : Below w.heap.size w W) => (h.below hb).word (i := i + 1) (by omega) (by omega))
      have e1 : (A.hd i).val = .agg #[.int .u64 (A.word (i + 1)), .int .i64 (dec (A.word i)).kind, .int .i64 (dec (A.word i)).ptrs, .int .i64 (dec (A.word i)).raws, .int .i64 (dec (A.word i)).age, .int .i64 (dec (A.word i)).site, .bool (dec (A.word i)).held] := by unfold Ar.hd; rw [if_pos ho]; rfl
      have e2 : A.osl wb i = .slice (some ⟨wb, i.toNat, none⟩) (A.osz i).toNat (A.osz i).toNat := by unfold Ar.osl; rw [if_pos ho]
      rw [e1, e2, ho]
      have PP := Lib.hid hP
      have UU := Lib.hid U
      have ZZ := Lib.hid Z
      obtain ⟨hc, hlt, hlw⟩ := HC.out _ (Below.refl _ _)
      have hw := HW.out _ (Below.refl _ _)
      unfold arCells at hc
      generalize A.osz i = n at *
      generalize A.word i = m at *
      generalize A.word (i + 1) = m1 at *
      generalize dec m = d at *
      clear hP U Z S e1 e2 ho h ok tb he hso hv q hwd hsz htop hs
      go_enter Tryd.func139, Tryd.ntmps139
      go_wp2_with fail
      refine (SS.out _ ((Below.refl _ _).alloc (Nat.le_refl _) _)).mono ?_
      rintro e w1 ⟨rfl, rfl⟩
      have hb0 : Below w.heap.size w (w.alloc (.cells #[.int .u64 0, .int .i64 0, .int .i64 0, .int .i64 0, .int .i64 0, .int .i64 0, .bool false] 24)) := (Below.refl _ _).alloc (Nat.le_refl _) _
      go_wp2_with fail
      refine (UU.out _ hb0).mono ?_
      rintro e w1 ⟨rfl, hb⟩
      obtain ⟨hX, hb1, hz1⟩ := kept_new hb
      obtain ⟨hk, hkf⟩ := hcell hX
      obtain ⟨hc1, hl1, hm1⟩ := HC.out _ hb1
      have hw1 := HW.out _ hb1
      unfold arCells at hc1
      clear hb
      go_wp2_with fail
      refine (ZZ.out _ (hb1.alloc hb1.size _)).mono ?_
      rintro e w2 ⟨rfl, hb⟩
      obtain ⟨hY, hb2', hz2⟩ := kept_new hb
      have hb2 : Below w.heap.size w w2 := hb1.trans (hb2'.mono hb1.size)
      have hX2 := (hb2'.block _ hz1).trans hX
      obtain ⟨hk2, hkf2⟩ := hcell hX2
      obtain ⟨hy2, hyf2⟩ := hcell hY
      obtain ⟨hc2, hl2, hm2⟩ := HC.out _ hb2
      have hw2 := HW.out _ hb2
      unfold arCells at hc2
      clear hb hb2' hc1 hw1 hk hkf
      go_wp2_with fail
      have hv2 := HV.out _ hb2
      rw [show (i + 1).toNat = i.toNat + 1 by omega] at hv2
      refine (PP.out _ hb2).mono ?_
      rintro e w3 ⟨rfl, rfl⟩
      go_wp2_with fail
      go_region
      all_goals
        go_wp2
        exact bodyPost_ret (v := .tuple #[.slice (some ⟨wb, i.toNat, none⟩) n.toNat n.toNat, .agg #[.int .u64 m1, .int .i64 d.kind, .int .i64 d.ptrs, .int .i64 d.raws, .int .i64 d.age, .int .i64 d.site, .bool d.held], .bool true]) (by simp [results, Tryd.results139, go_sem, hk2]) rfl ⟨rfl, by refine Below.drew ?_; (repeat refine Below.setCell ?_ (by simp; try omega) _); exact hb2⟩
    · have ho : A.isObj i = false := by unfold Ar.isObj; rw [htop, decide_eq_false fit]; simp
      rw [show A.hd i = nohd by unfold Ar.hd; rw [ho]; rfl, show A.osl wb i = .slice none 0 0 by unfold Ar.osl; rw [ho]; rfl, ho]
      have UU := Lib.hid U
      have ZZ := Lib.hid Z
      obtain ⟨hc, hlt, hlw⟩ := HC.out _ (Below.refl _ _)
      have hw := HW.out _ (Below.refl _ _)
      unfold arCells at hc
      generalize A.osz i = n at *
      generalize A.word i = m at *
      generalize dec m = d at *
      clear U Z S ho h ok tb he hso hv q hwd hsz htop hs
      go_enter Tryd.func139, Tryd.ntmps139
      go_wp2_with fail
      refine (SS.out _ ((Below.refl _ _).alloc (Nat.le_refl _) _)).mono ?_
      rintro e w1 ⟨rfl, rfl⟩
      have hb0 : Below w.heap.size w (w.alloc (.cells #[.int .u64 0, .int .i64 0, .int .i64 0, .int .i64 0, .int .i64 0, .int .i64 0, .bool false] 24)) := (Below.refl _ _).alloc (Nat.le_refl _) _
      go_wp2_with fail
      refine (UU.out _ hb0).mono ?_
      rintro e w1 ⟨rfl, hb⟩
      obtain ⟨hX, hb1, hz1⟩ := kept_new hb
      obtain ⟨hk, hkf⟩ := hcell hX
      obtain ⟨hc1, hl1, hm1⟩ := HC.out _ hb1
      have hw1 := HW.out _ hb1
      unfold arCells at hc1
      clear hb
      go_wp2_with fail
      refine (ZZ.out _ (hb1.alloc hb1.size _)).mono ?_
      rintro e w2 ⟨rfl, hb⟩
      obtain ⟨hY, hb2', hz2⟩ := kept_new hb
      have hb2 : Below w.heap.size w w2 := hb1.trans (hb2'.mono hb1.size)
      have hX2 := (hb2'.block _ hz1).trans hX
      obtain ⟨hk2, hkf2⟩ := hcell hX2
      obtain ⟨hy2, hyf2⟩ := hcell hY
      obtain ⟨hc2, hl2, hm2⟩ := HC.out _ hb2
      have hw2 := HW.out _ hb2
      unfold arCells at hc2
      clear hb hb2' hc1 hw1 hk hkf
      go_wp2_with fail
      exact bodyPost_ret (v := .tuple #[.slice none 0 0, nohd.val, .bool false]) (by simp [results, Tryd.results139, go_sem, nohd, Hd.val, hk2]) rfl ⟨rfl, by (repeat refine Below.setCell ?_ (by simp) _); exact hb2⟩
  · have he : unp (A.word i) = nohd := by unfold unp; rw [if_neg q]
    have q' : isHd (A.word i) = false := by simpa using q
    have ho : A.isObj i = false := by unfold Ar.isObj; rw [q']; simp
    rw [show A.hd i = nohd by unfold Ar.hd; rw [ho]; rfl, show A.osl wb i = .slice none 0 0 by unfold Ar.osl; rw [ho]; rfl, ho]
    rw [he, q', show nohd.val = .agg #[.int .u64 0, .int .i64 0, .int .i64 0, .int .i64 0, .int .i64 0, .int .i64 0, .bool false] from rfl] at U
    have UU := Lib.hid U
    have ZZ := Lib.hid Z
    obtain ⟨hc, hlt, hlw⟩ := HC.out _ (Below.refl _ _)
    have hw := HW.out _ (Below.refl _ _)
    unfold arCells at hc
    generalize sizeW (A.word i) = n at *
    generalize A.word i = m at *
    clear U Z S ho h ok tb he q q' hwd hsz htop hs
    go_enter Tryd.func139, Tryd.ntmps139
    go_wp2_with fail
    refine (SS.out _ ((Below.refl _ _).alloc (Nat.le_refl _) _)).mono ?_
    rintro e w1 ⟨rfl, rfl⟩
    have hb0 : Below w.heap.size w (w.alloc (.cells #[.int .u64 0, .int .i64 0, .int .i64 0, .int .i64 0, .int .i64 0, .int .i64 0, .bool false] 24)) := (Below.refl _ _).alloc (Nat.le_refl _) _
    go_wp2_with fail
    refine (UU.out _ hb0).mono ?_
    rintro e w1 ⟨rfl, hb⟩
    obtain ⟨hX, hb1, hz1⟩ := kept_new hb
    obtain ⟨hk, hkf⟩ := hcell hX
    obtain ⟨hc1, hl1, hm1⟩ := HC.out _ hb1
    have hw1 := HW.out _ hb1
    unfold arCells at hc1
    clear hb
    go_wp2_with fail
    refine (ZZ.out _ (hb1.alloc hb1.size _)).mono ?_
    rintro e w2 ⟨rfl, hb⟩
    obtain ⟨hY, hb2', hz2⟩ := kept_new hb
    have hb2 : Below w.heap.size w w2 := hb1.trans (hb2'.mono hb1.size)
    have hX2 := (hb2'.block _ hz1).trans hX
    obtain ⟨hk2, hkf2⟩ := hcell hX2
    obtain ⟨hc2, hl2, hm2⟩ := HC.out _ hb2
    clear hb hb2' hc1 hw1 hk hkf
    go_wp2_with fail
    exact bodyPost_ret (v := .tuple #[.slice none 0 0, nohd.val, .bool false]) (by simp [results, Tryd.results139, go_sem, nohd, Hd.val, hk2]) rfl ⟨rfl, by (repeat refine Below.setCell ?_ (by simp) _); exact hb2⟩

theorem object_above_4 (b wb : Nat) (A : Ar) (i : Int) (w : World) (h : ArAt w b wb A) (ok : A.Ok) (hs : A.space i = 4) (ht : A.t4 ≤ i) :
    Calls Tryd.prog 139 #[.pointer (some ⟨b, 0, none⟩), .int .i64 i] w fun e w' => e = .returned (.tuple #[.slice none 0 0, nohd.val, .bool false]) ∧ Below w.heap.size w w' := by
  have S := fun W (hb : Below w.heap.size w W) => space_any b wb A i W (h.below hb) ok
  rw [hs] at S
  have SS := Lib.hid S
  obtain ⟨hc, hlt, hlw⟩ := h.facts
  unfold arCells at hc
  clear S h ok hs
  go_enter Tryd.func139, Tryd.ntmps139
  go_wp2_with fail
  refine (SS.out _ ((Below.refl _ _).alloc (Nat.le_refl _) _)).mono ?_
  rintro e w1 ⟨rfl, rfl⟩
  go_wp2_with fail
  exact bodyPost_ret (v := .tuple #[.slice none 0 0, nohd.val, .bool false]) (by simp [results, Tryd.results139, go_sem, nohd, Hd.val]) rfl ⟨rfl, (Below.refl _ _).alloc (Nat.le_refl _) _⟩

set_option maxHeartbeats 1000000 in
theorem object_in_4 (b wb : Nat) (A : Ar) (i : Int) (w : World) (tb : Tab w) (h : ArAt w b wb A) (ok : A.Ok) (hs : A.space i = 4) (ht : i < A.t4) :
    Calls Tryd.prog 139 #[.pointer (some ⟨b, 0, none⟩), .int .i64 i] w fun e w' => e = .returned (.tuple #[A.osl wb i, (A.hd i).val, .bool (A.isObj i)]) ∧ Below w.heap.size w w' := by
  have S := fun W (hb : Below w.heap.size w W) => space_any b wb A i W (h.below hb) ok
  rw [hs] at S
  have SS := Lib.hid S
  have hsb := Ar.space_bd ok (i := i) (by rw [hs]; decide)
  obtain ⟨-, hfi, hbe, h1i, hiN⟩ := hsb
  have hwd := ok.word i
  have htp := ok.tops
  have hsz := ok.sizes 4
  have htop : A.top (A.space i) = A.t4 := by rw [hs]; rfl
  have HW := Lib.hid (fun W (hb : Below w.heap.size w W) => (h.below hb).word (i := i) (by omega) hiN)
  have HC := Lib.hid (fun W (hb : Below w.heap.size w W) => (h.below hb).facts)
  have U := fun W (hb : Below w.heap.size w W) => unpack_any (A.word i) W (tb.below hb) hwd.1 hwd.2
  have Z := fun W (hb : Below w.heap.size w W) => size_any (A.word i) W (tb.below hb) hwd.1 hwd.2
  by_cases q : isHd (A.word i) = true
  · have hz := Ar.osz_bd q
    have he : unp (A.word i) = dec (A.word i) := by unfold unp; rw [if_pos q]
    have hso : sizeW (A.word i) = A.osz i := by unfold sizeW Ar.osz; rw [if_pos q]
    rw [he, q] at U
    rw [hso] at Z
    have hv : (dec (A.word i)).val = .agg #[.int .u64 0, .int .i64 (dec (A.word i)).kind, .int .i64 (dec (A.word i)).ptrs, .int .i64 (dec (A.word i)).raws, .int .i64 (dec (A.word i)).age, .int .i64 (dec (A.word i)).site, .bool (dec (A.word i)).held] := rfl
    rw [hv] at U
    by_cases fit : A.osz i ≤ A.t4 - i
    · have ho : A.isObj i = true := by unfold Ar.isObj; rw [htop, hs, q, decide_eq_true fit, decide_eq_true ht]; rfl
      have hP := fun W (hb : Below w.heap.size w W) => piece_any b wb A i (A.osz i) W (h.below hb) (by omega) (by omega) (by omega) (by omega)
      have HV := Lib.hid (fun W (hb : Below w.heap.size w W) => (h.below hb).word (i := i + 1) (by omega) (by omega))
      have e1 : (A.hd i).val = .agg #[.int .u64 (A.word (i + 1)), .int .i64 (dec (A.word i)).kind, .int .i64 (dec (A.word i)).ptrs, .int .i64 (dec (A.word i)).raws, .int .i64 (dec (A.word i)).age, .int .i64 (dec (A.word i)).site, .bool (dec (A.word i)).held] := by unfold Ar.hd; rw [if_pos ho]; rfl
      have e2 : A.osl wb i = .slice (some ⟨wb, i.toNat, none⟩) (A.osz i).toNat (A.osz i).toNat := by unfold Ar.osl; rw [if_pos ho]
      rw [e1, e2, ho]
      have PP := Lib.hid hP
      have UU := Lib.hid U
      have ZZ := Lib.hid Z
      obtain ⟨hc, hlt, hlw⟩ := HC.out _ (Below.refl _ _)
      have hw := HW.out _ (Below.refl _ _)
      unfold arCells at hc
      generalize A.osz i = n at *
      generalize A.word i = m at *
      generalize A.word (i + 1) = m1 at *
      generalize dec m = d at *
      clear hP U Z S e1 e2 ho h ok tb he hso hv q hwd hsz htop hs
      go_enter Tryd.func139, Tryd.ntmps139
      go_wp2_with fail
      refine (SS.out _ ((Below.refl _ _).alloc (Nat.le_refl _) _)).mono ?_
      rintro e w1 ⟨rfl, rfl⟩
      have hb0 : Below w.heap.size w (w.alloc (.cells #[.int .u64 0, .int .i64 0, .int .i64 0, .int .i64 0, .int .i64 0, .int .i64 0, .bool false] 24)) := (Below.refl _ _).alloc (Nat.le_refl _) _
      go_wp2_with fail
      refine (UU.out _ hb0).mono ?_
      rintro e w1 ⟨rfl, hb⟩
      obtain ⟨hX, hb1, hz1⟩ := kept_new hb
      obtain ⟨hk, hkf⟩ := hcell hX
      obtain ⟨hc1, hl1, hm1⟩ := HC.out _ hb1
      have hw1 := HW.out _ hb1
      unfold arCells at hc1
      clear hb
      go_wp2_with fail
      refine (ZZ.out _ (hb1.alloc hb1.size _)).mono ?_
      rintro e w2 ⟨rfl, hb⟩
      obtain ⟨hY, hb2', hz2⟩ := kept_new hb
      have hb2 : Below w.heap.size w w2 := hb1.trans (hb2'.mono hb1.size)
      have hX2 := (hb2'.block _ hz1).trans hX
      obtain ⟨hk2, hkf2⟩ := hcell hX2
      obtain ⟨hy2, hyf2⟩ := hcell hY
      obtain ⟨hc2, hl2, hm2⟩ := HC.out _ hb2
      have hw2 := HW.out _ hb2
      unfold arCells at hc2
      clear hb hb2' hc1 hw1 hk hkf
      go_wp2_with fail
      have hv2 := HV.out _ hb2
      rw [show (i + 1).toNat = i.toNat + 1 by omega] at hv2
      refine (PP.out _ hb2).mono ?_
      rintro e w3 ⟨rfl, rfl⟩
      go_wp2_with fail
      go_region
      all_goals
        go_wp2
        exact bodyPost_ret (v := .tuple #[.slice (some ⟨wb, i.toNat, none⟩) n.toNat n.toNat, .agg #[.int .u64 m1, .int .i64 d.kind, .int .i64 d.ptrs, .int .i64 d.raws, .int .i64 d.age, .int .i64 d.site, .bool d.held], .bool true]) (by simp [results, Tryd.results139, go_sem, hk2]) rfl ⟨rfl, by refine Below.drew ?_; (repeat refine Below.setCell ?_ (by simp; try omega) _); exact hb2⟩
    · have ho : A.isObj i = false := by unfold Ar.isObj; rw [htop, decide_eq_false fit]; simp
      rw [show A.hd i = nohd by unfold Ar.hd; rw [ho]; rfl, show A.osl wb i = .slice none 0 0 by unfold Ar.osl; rw [ho]; rfl, ho]
      have UU := Lib.hid U
      have ZZ := Lib.hid Z
      obtain ⟨hc, hlt, hlw⟩ := HC.out _ (Below.refl _ _)
      have hw := HW.out _ (Below.refl _ _)
      unfold arCells at hc
      generalize A.osz i = n at *
      generalize A.word i = m at *
      generalize dec m = d at *
      clear U Z S ho h ok tb he hso hv q hwd hsz htop hs
      go_enter Tryd.func139, Tryd.ntmps139
      go_wp2_with fail
      refine (SS.out _ ((Below.refl _ _).alloc (Nat.le_refl _) _)).mono ?_
      rintro e w1 ⟨rfl, rfl⟩
      have hb0 : Below w.heap.size w (w.alloc (.cells #[.int .u64 0, .int .i64 0, .int .i64 0, .int .i64 0, .int .i64 0, .int .i64 0, .bool false] 24)) := (Below.refl _ _).alloc (Nat.le_refl _) _
      go_wp2_with fail
      refine (UU.out _ hb0).mono ?_
      rintro e w1 ⟨rfl, hb⟩
      obtain ⟨hX, hb1, hz1⟩ := kept_new hb
      obtain ⟨hk, hkf⟩ := hcell hX
      obtain ⟨hc1, hl1, hm1⟩ := HC.out _ hb1
      have hw1 := HW.out _ hb1
      unfold arCells at hc1
      clear hb
      go_wp2_with fail
      refine (ZZ.out _ (hb1.alloc hb1.size _)).mono ?_
      rintro e w2 ⟨rfl, hb⟩
      obtain ⟨hY, hb2', hz2⟩ := kept_new hb
      have hb2 : Below w.heap.size w w2 := hb1.trans (hb2'.mono hb1.size)
      have hX2 := (hb2'.block _ hz1).trans hX
      obtain ⟨hk2, hkf2⟩ := hcell hX2
      obtain ⟨hy2, hyf2⟩ := hcell hY
      obtain ⟨hc2, hl2, hm2⟩ := HC.out _ hb2
      have hw2 := HW.out _ hb2
      unfold arCells at hc2
      clear hb hb2' hc1 hw1 hk hkf
      go_wp2_with fail
      exact bodyPost_ret (v := .tuple #[.slice none 0 0, nohd.val, .bool false]) (by simp [results, Tryd.results139, go_sem, nohd, Hd.val, hk2]) rfl ⟨rfl, by (repeat refine Below.setCell ?_ (by simp) _); exact hb2⟩
  · have he : unp (A.word i) = nohd := by unfold unp; rw [if_neg q]
    have q' : isHd (A.word i) = false := by simpa using q
    have ho : A.isObj i = false := by unfold Ar.isObj; rw [q']; simp
    rw [show A.hd i = nohd by unfold Ar.hd; rw [ho]; rfl, show A.osl wb i = .slice none 0 0 by unfold Ar.osl; rw [ho]; rfl, ho]
    rw [he, q', show nohd.val = .agg #[.int .u64 0, .int .i64 0, .int .i64 0, .int .i64 0, .int .i64 0, .int .i64 0, .bool false] from rfl] at U
    have UU := Lib.hid U
    have ZZ := Lib.hid Z
    obtain ⟨hc, hlt, hlw⟩ := HC.out _ (Below.refl _ _)
    have hw := HW.out _ (Below.refl _ _)
    unfold arCells at hc
    generalize sizeW (A.word i) = n at *
    generalize A.word i = m at *
    clear U Z S ho h ok tb he q q' hwd hsz htop hs
    go_enter Tryd.func139, Tryd.ntmps139
    go_wp2_with fail
    refine (SS.out _ ((Below.refl _ _).alloc (Nat.le_refl _) _)).mono ?_
    rintro e w1 ⟨rfl, rfl⟩
    have hb0 : Below w.heap.size w (w.alloc (.cells #[.int .u64 0, .int .i64 0, .int .i64 0, .int .i64 0, .int .i64 0, .int .i64 0, .bool false] 24)) := (Below.refl _ _).alloc (Nat.le_refl _) _
    go_wp2_with fail
    refine (UU.out _ hb0).mono ?_
    rintro e w1 ⟨rfl, hb⟩
    obtain ⟨hX, hb1, hz1⟩ := kept_new hb
    obtain ⟨hk, hkf⟩ := hcell hX
    obtain ⟨hc1, hl1, hm1⟩ := HC.out _ hb1
    have hw1 := HW.out _ hb1
    unfold arCells at hc1
    clear hb
    go_wp2_with fail
    refine (ZZ.out _ (hb1.alloc hb1.size _)).mono ?_
    rintro e w2 ⟨rfl, hb⟩
    obtain ⟨hY, hb2', hz2⟩ := kept_new hb
    have hb2 : Below w.heap.size w w2 := hb1.trans (hb2'.mono hb1.size)
    have hX2 := (hb2'.block _ hz1).trans hX
    obtain ⟨hk2, hkf2⟩ := hcell hX2
    obtain ⟨hc2, hl2, hm2⟩ := HC.out _ hb2
    clear hb hb2' hc1 hw1 hk hkf
    go_wp2_with fail
    exact bodyPost_ret (v := .tuple #[.slice none 0 0, nohd.val, .bool false]) (by simp [results, Tryd.results139, go_sem, nohd, Hd.val, hk2]) rfl ⟨rfl, by (repeat refine Below.setCell ?_ (by simp) _); exact hb2⟩


theorem object_any (b wb : Nat) (A : Ar) (i : Int) (w : World) (tb : Tab w) (h : ArAt w b wb A) (ok : A.Ok) :
    Calls Tryd.prog 139 #[.pointer (some ⟨b, 0, none⟩), .int .i64 i] w fun e w' => e = .returned (.tuple #[A.osl wb i, (A.hd i).val, .bool (A.isObj i)]) ∧ Below w.heap.size w w' := by
  have no : A.isObj i = false → A.osl wb i = .slice none 0 0 ∧ A.hd i = nohd := fun h => by unfold Ar.osl Ar.hd; rw [h]; exact ⟨rfl, rfl⟩
  by_cases hs : A.space i = 0
  · have ho : A.isObj i = false := by unfold Ar.isObj; rw [hs]; rfl
    rw [(no ho).1, (no ho).2, ho]
    exact object_out b wb A i w h ok hs
  have hb := (Ar.space_bd ok hs).1
  have hab : ∀ t, A.top (A.space i) = t → t ≤ i → A.isObj i = false := fun t h1 h2 => by
    unfold Ar.isObj; rw [h1, decide_eq_false (show ¬ i < t by omega)]; simp
  rcases hb with e | e | e | e
  · by_cases c : i < A.t1
    · exact object_in_1 b wb A i w tb h ok e c
    · have ho := hab A.t1 (by rw [e]; rfl) (by omega)
      rw [(no ho).1, (no ho).2, ho]
      exact object_above_1 b wb A i w h ok e (by omega)
  · by_cases c : i < A.t2
    · exact object_in_2 b wb A i w tb h ok e c
    · have ho := hab A.t2 (by rw [e]; rfl) (by omega)
      rw [(no ho).1, (no ho).2, ho]
      exact object_above_2 b wb A i w h ok e (by omega)
  · by_cases c : i < A.t3
    · exact object_in_3 b wb A i w tb h ok e c
    · have ho := hab A.t3 (by rw [e]; rfl) (by omega)
      rw [(no ho).1, (no ho).2, ho]
      exact object_above_3 b wb A i w h ok e (by omega)
  · by_cases c : i < A.t4
    · exact object_in_4 b wb A i w tb h ok e c
    · have ho := hab A.t4 (by rw [e]; rfl) (by omega)
      rw [(no ho).1, (no ho).2, ho]
      exact object_above_4 b wb A i w h ok e (by omega)
end Go.Proofs.YtomgfdfgildkbaaDoor
