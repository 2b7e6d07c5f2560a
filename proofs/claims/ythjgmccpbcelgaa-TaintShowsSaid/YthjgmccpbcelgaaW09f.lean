/-
  TaintShows: the walk.
-/
import Derived.Test.YthjgmccpbcelgaaW09d
import Derived.Test.YthjgmccpbcelgaaPl2
namespace Go.Proofs.Ythjgmccpbcelgaa
open Go Go.RowKit Go.Proofs
set_option linter.unusedSimpArgs false
set_option linter.unusedVariables false
attribute [local go_sem] Ext.alloc Ext.alloc2 Ext.alloc3 Ext.alloc4 Ext.drewN_alloc Ext.drewN_alloc2 Ext.drew_alloc Ext.drew Ext.drewN toList_beq

set_option maxRecDepth 100000 in
set_option maxHeartbeats 8000000 in
theorem w09_shows0 (w : World) (A : Option Addr) (n cap : Nat) (l : List Ev) (i : Int) (hE : Evs w A n l) (h : ¬ (n ≤ 300 ∧ (formed l).2 = 0 ∧ (badAt l i).kind ≠ 0)) :
    Calls Try.prog 3 #[.slice A n cap, .int .i64 i] w fun e w' => e = .returned (.bool true) ∧ Ext w w' := by
  have hX := Ext.refl w
  have hbig := hE.big
  have hl := hid hE.len
  have HE := hid hE
  clear hE
  by_cases hn : n ≤ 300
  · have hd : decide (n ≤ 300) = true := by simp [hn]
    by_cases hf : (formed l).2 = 0
    · have hz : (badAt l i).kind = 0 := by
        by_cases hz : (badAt l i).kind = 0
        · exact hz
        · exact absurd ⟨hn, hf, hz⟩ h
      have hz3 := (bad_zero l i).1 hz
      have HZ : Hid ((badAt l i).kind = 0 ∧ (badAt l i).i = 0 ∧ (badAt l i).j = 0) := hid (by rw [hz3]; exact ⟨rfl, rfl, rfl⟩)
      have hf1 : ((formed l).2 == 0) = true := beq_iff_eq.2 hf
      have hf2 : ((formed l).2 != 0) = false := by simp [hf]
      have HF := hid hf
      clear hz hz3 h hf
      go_enter Try.func3, Try.ntmps3
      go_wp2_with (first
        | (go_at_call 30; refine (w09_shown _).mono ?_; rintro e w1 ⟨rfl, hx1⟩)
        | (go_at_call 31; refine (w09_few _ _ _ _).mono ?_; rintro e w2 ⟨rfl, hx2⟩; rw [hd]; have hX2 := hx1.trans hx2)
        | (go_at_call 32; refine (r08_formed _ _ _ _ _ (HE.out.ext hX2)).mono ?_; rintro e w3 ⟨rfl, hx3⟩; have hX3 := hX2.trans hx3)
        | (go_at_call 33; refine (t_at _ _ _ _ _ _ (HE.out.ext hX3)).mono ?_; rintro e w4 ⟨rfl, hx4⟩; rw [HZ.out.1, HZ.out.2.1, HZ.out.2.2]; have hX4 := hX3.trans hx4))
      go_ret
      exact ⟨rfl, hX4.alloc _⟩
    · have hf1 : ((formed l).2 == 0) = false := beq_eq_false_iff_ne.2 hf
      have hf2 : ((formed l).2 != 0) = true := by simp [hf]
      clear h hf
      go_enter Try.func3, Try.ntmps3
      go_wp2_with (first
        | (go_at_call 30; refine (w09_shown _).mono ?_; rintro e w1 ⟨rfl, hx1⟩)
        | (go_at_call 31; refine (w09_few _ _ _ _).mono ?_; rintro e w2 ⟨rfl, hx2⟩; rw [hd]; have hX2 := hx1.trans hx2)
        | (go_at_call 32; refine (r08_formed _ _ _ _ _ (HE.out.ext hX2)).mono ?_; rintro e w3 ⟨rfl, hx3⟩; have hX3 := hX2.trans hx3))
      go_ret
      exact ⟨rfl, hX3⟩
  · have hd : decide (n ≤ 300) = false := by simp [hn]
    by_cases hf : (formed l).2 = 0
    · have hf2 : ((formed l).2 != 0) = false := by simp [hf]
      have HF := hid hf
      clear h hf
      go_enter Try.func3, Try.ntmps3
      go_wp2_with (first
        | (go_at_call 30; refine (w09_shown _).mono ?_; rintro e w1 ⟨rfl, hx1⟩)
        | (go_at_call 31; refine (w09_few _ _ _ _).mono ?_; rintro e w2 ⟨rfl, hx2⟩; rw [hd]; have hX2 := hx1.trans hx2)
        | (go_at_call 32; refine (r08_formed _ _ _ _ _ (HE.out.ext hX2)).mono ?_; rintro e w3 ⟨rfl, hx3⟩; have hX3 := hX2.trans hx3))
      go_ret
      exact ⟨rfl, hX3⟩
    · have hf2 : ((formed l).2 != 0) = true := by simp [hf]
      clear h hf
      go_enter Try.func3, Try.ntmps3
      go_wp2_with (first
        | (go_at_call 30; refine (w09_shown _).mono ?_; rintro e w1 ⟨rfl, hx1⟩)
        | (go_at_call 31; refine (w09_few _ _ _ _).mono ?_; rintro e w2 ⟨rfl, hx2⟩; rw [hd]; have hX2 := hx1.trans hx2)
        | (go_at_call 32; refine (r08_formed _ _ _ _ _ (HE.out.ext hX2)).mono ?_; rintro e w3 ⟨rfl, hx3⟩; have hX3 := hX2.trans hx3))
      go_ret
      exact ⟨rfl, hX3⟩

set_option maxRecDepth 100000 in
set_option maxHeartbeats 8000000 in
theorem w09_shows1 (w : World) (A : Option Addr) (n cap k u : Nat) (l : List Ev) (hE : Evs w A n l) (hn : n ≤ 300) (hf : (formed l).2 = 0) (hb : badAt l k = ⟨1, k, u⟩) (S : Says l k u 1) (g1 : comOf l (nth l u).txn = false) (g2 : (nth l u).val = (nth l k).val) (g3 : (nth l u).txn ≠ (nth l k).txn) :
    Calls Try.prog 3 #[.slice A n cap, .int .i64 k] w fun e w' => e = .returned (.bool true) ∧ Ext w w' := by
  have hX := Ext.refl w
  have hbig := hE.big
  have hl := hid hE.len
  have HE := hid hE
  have hd : decide (n ≤ 300) = true := by simp [hn]
  have hk : k < n := by have := S.hk; have := hl.out; omega
  have hu : u < n := by have := S.hu; have := hl.out; omega
  have s1 := S.read
  have s2 := S.write
  have s3 := S.key
  have HZ : Hid ((badAt l k).kind = 1 ∧ (badAt l k).i = k ∧ (badAt l k).j = u) := hid (by rw [hb]; exact ⟨rfl, rfl, rfl⟩)
  have hf1 : ((formed l).2 == 0) = true := beq_iff_eq.2 hf
  have hf2 : ((formed l).2 != 0) = false := by simp [hf]
  have HF := hid hf
  obtain ⟨f1, f2, f3, f4⟩ := findL_of S.hk
  obtain ⟨e1, e2, e3, e4⟩ := findL_of S.hu
  clear f4 e4
  rw [S.com] at f3
  have HQ := hid f1
  have HQ2 := hid f2
  have HQ3 := hid f3
  rw [g1] at e3
  have HR := hid e1
  have HR2 := hid e2
  have HR3 := hid e3
  have g2' : decide ((nth l u).val = (nth l k).val) = true := by rw [g2]; simp
  have g3' : ((nth l u).txn == (nth l k).txn) = false := beq_eq_false_iff_ne.2 g3
  have g3'' : ((nth l u).txn != (nth l k).txn) = true := by simp [g3]
  obtain ⟨b, o, rfl, h0, h1, h2, h3⟩ := hE.opn (by omega)
  clear hE hf hb S f1 f2 f3 e1 e2 e3 g1
  go_enter Try.func3, Try.ntmps3
  go_wp2_with (first
    | (go_at_call 30; refine (w09_shown _).mono ?_; rintro e w1 ⟨rfl, hx1⟩)
    | (go_at_call 31; refine (w09_few _ _ _ _).mono ?_; rintro e w2 ⟨rfl, hx2⟩; rw [hd]; have hX2 := hx1.trans hx2)
    | (go_at_call 32; refine (r08_formed _ _ _ _ _ (HE.out.ext hX2)).mono ?_; rintro e w3 ⟨rfl, hx3⟩; have hX3 := hX2.trans hx3)
    | (go_at_call 33; refine (t_at _ _ _ _ _ _ (HE.out.ext hX3)).mono ?_; rintro e w4 ⟨rfl, hx4⟩; rw [HZ.out.1, HZ.out.2.1, HZ.out.2.2]; have hX4 := hX3.trans hx4))
  go_quiet (fail)
  have hX5 := fun m : Nat => ((hX4.alloc (.cells #[.int .i64 1, .int .i64 k, .int .i64 u] 28)).drewN m)
  go_wp2_with (go_at_call 34; refine (r08_find _ _ _ _ _ _ (HE.out.ext (hX5 _))).mono ?_; rintro e w6 ⟨rfl, hx6⟩; rw [HQ.out, HQ2.out, HQ3.out]; have hX6 := (hX5 _).trans hx6; have b2 := ((Blk.new w4 28 #[.int .i64 1, .int .i64 k, .int .i64 u]).drewN _).ext hx6; obtain ⟨p0, p1, p2⟩ := b2.cells3; have lt2 := b2.lt)
  go_wp2_with (go_at_call 34; refine (r08_find _ _ _ _ _ _ (HE.out.ext (hX6.alloc _))).mono ?_; rintro e w7 ⟨rfl, hx7⟩; rw [HR.out, HR2.out, HR3.out]; have hX7 := (hX6.alloc _).trans hx7; clear p0 p1 p2; have b3 := (b2.alloc (.cells #[.int .i64 (nth l k).txn, .int .i64 (findL l (nth l k).txn).1.from_, .int .i64 (findL l (nth l k).txn).1.till, .bool true] 33)).ext hx7; obtain ⟨p0, p1, p2⟩ := b3.cells3; have lt3 := b3.lt; have c2 := (Blk.new w6 33 #[.int .i64 (nth l k).txn, .int .i64 (findL l (nth l k).txn).1.from_, .int .i64 (findL l (nth l k).txn).1.till, .bool true]).ext hx7; obtain ⟨r0, r1, r2, r3⟩ := c2.cells4; have lt4 := c2.lt)
  go_quiet (fail)
  go_wp2
  go_ret
  exact ⟨rfl, (hX7.alloc _).drewN _⟩

set_option maxRecDepth 100000 in
set_option maxHeartbeats 8000000 in
theorem w09_shows2 (w : World) (A : Option Addr) (n cap k u : Nat) (l : List Ev) (hE : Evs w A n l) (hn : n ≤ 300) (hf : (formed l).2 = 0) (hb : badAt l k = ⟨2, k, u⟩) (S : Says l k u 2) (g1 : comOf l (nth l u).txn = true) (g2 : (nth l u).val ≠ (nth l k).val) (g3 : (nth l u).txn ≠ (nth l k).txn) :
    Calls Try.prog 3 #[.slice A n cap, .int .i64 k] w fun e w' => e = .returned (.bool true) ∧ Ext w w' := by
  have hX := Ext.refl w
  have hbig := hE.big
  have hl := hid hE.len
  have HE := hid hE
  have hd : decide (n ≤ 300) = true := by simp [hn]
  have hk : k < n := by have := S.hk; have := hl.out; omega
  have hu : u < n := by have := S.hu; have := hl.out; omega
  have s1 := S.read
  have s2 := S.write
  have s3 := S.key
  have HZ : Hid ((badAt l k).kind = 2 ∧ (badAt l k).i = k ∧ (badAt l k).j = u) := hid (by rw [hb]; exact ⟨rfl, rfl, rfl⟩)
  have hf1 : ((formed l).2 == 0) = true := beq_iff_eq.2 hf
  have hf2 : ((formed l).2 != 0) = false := by simp [hf]
  have HF := hid hf
  obtain ⟨f1, f2, f3, f4⟩ := findL_of S.hk
  obtain ⟨e1, e2, e3, e4⟩ := findL_of S.hu
  clear f4 e4
  rw [S.com] at f3
  have HQ := hid f1
  have HQ2 := hid f2
  have HQ3 := hid f3
  rw [g1] at e3
  have HR := hid e1
  have HR2 := hid e2
  have HR3 := hid e3
  have g2' : decide ((nth l u).val = (nth l k).val) = false := decide_eq_false g2
  have g3' : ((nth l u).txn == (nth l k).txn) = false := beq_eq_false_iff_ne.2 g3
  have g3'' : ((nth l u).txn != (nth l k).txn) = true := by simp [g3]
  obtain ⟨b, o, rfl, h0, h1, h2, h3⟩ := hE.opn (by omega)
  clear hE hf hb S f1 f2 f3 e1 e2 e3 g1
  go_enter Try.func3, Try.ntmps3
  go_wp2_with (first
    | (go_at_call 30; refine (w09_shown _).mono ?_; rintro e w1 ⟨rfl, hx1⟩)
    | (go_at_call 31; refine (w09_few _ _ _ _).mono ?_; rintro e w2 ⟨rfl, hx2⟩; rw [hd]; have hX2 := hx1.trans hx2)
    | (go_at_call 32; refine (r08_formed _ _ _ _ _ (HE.out.ext hX2)).mono ?_; rintro e w3 ⟨rfl, hx3⟩; have hX3 := hX2.trans hx3)
    | (go_at_call 33; refine (t_at _ _ _ _ _ _ (HE.out.ext hX3)).mono ?_; rintro e w4 ⟨rfl, hx4⟩; rw [HZ.out.1, HZ.out.2.1, HZ.out.2.2]; have hX4 := hX3.trans hx4))
  go_quiet (fail)
  have hX5 := fun m : Nat => ((hX4.alloc (.cells #[.int .i64 2, .int .i64 k, .int .i64 u] 28)).drewN m)
  go_wp2_with (go_at_call 34; refine (r08_find _ _ _ _ _ _ (HE.out.ext (hX5 _))).mono ?_; rintro e w6 ⟨rfl, hx6⟩; rw [HQ.out, HQ2.out, HQ3.out]; have hX6 := (hX5 _).trans hx6; have b2 := ((Blk.new w4 28 #[.int .i64 2, .int .i64 k, .int .i64 u]).drewN _).ext hx6; obtain ⟨p0, p1, p2⟩ := b2.cells3; have lt2 := b2.lt)
  go_wp2_with (go_at_call 34; refine (r08_find _ _ _ _ _ _ (HE.out.ext (hX6.alloc _))).mono ?_; rintro e w7 ⟨rfl, hx7⟩; rw [HR.out, HR2.out, HR3.out]; have hX7 := (hX6.alloc _).trans hx7; clear p0 p1 p2; have b3 := (b2.alloc (.cells #[.int .i64 (nth l k).txn, .int .i64 (findL l (nth l k).txn).1.from_, .int .i64 (findL l (nth l k).txn).1.till, .bool true] 33)).ext hx7; obtain ⟨p0, p1, p2⟩ := b3.cells3; have lt3 := b3.lt; have c2 := (Blk.new w6 33 #[.int .i64 (nth l k).txn, .int .i64 (findL l (nth l k).txn).1.from_, .int .i64 (findL l (nth l k).txn).1.till, .bool true]).ext hx7; obtain ⟨r0, r1, r2, r3⟩ := c2.cells4; have lt4 := c2.lt)
  go_quiet (fail)
  go_wp2
  go_ret
  exact ⟨rfl, (hX7.alloc _).drewN _⟩

set_option maxRecDepth 100000 in
set_option maxHeartbeats 8000000 in
theorem w09_shows3 (w : World) (A : Option Addr) (n cap k u : Nat) (l : List Ev) (hE : Evs w A n l) (hn : n ≤ 300) (hf : (formed l).2 = 0) (hb : badAt l k = ⟨3, k, u⟩) (S : Says l k u 3) (g1 : (nth l u).txn = (nth l k).txn) (g4 : u < k) (g2 : (nth l u).val ≠ (nth l k).val) :
    Calls Try.prog 3 #[.slice A n cap, .int .i64 k] w fun e w' => e = .returned (.bool true) ∧ Ext w w' := by
  have hX := Ext.refl w
  have hbig := hE.big
  have hl := hid hE.len
  have HE := hid hE
  have hd : decide (n ≤ 300) = true := by simp [hn]
  have hk : k < n := by have := S.hk; have := hl.out; omega
  have hu : u < n := by have := S.hu; have := hl.out; omega
  have s1 := S.read
  have s2 := S.write
  have s3 := S.key
  have HZ : Hid ((badAt l k).kind = 3 ∧ (badAt l k).i = k ∧ (badAt l k).j = u) := hid (by rw [hb]; exact ⟨rfl, rfl, rfl⟩)
  have hf1 : ((formed l).2 == 0) = true := beq_iff_eq.2 hf
  have hf2 : ((formed l).2 != 0) = false := by simp [hf]
  have HF := hid hf
  obtain ⟨f1, f2, f3, f4⟩ := findL_of S.hk
  obtain ⟨e1, e2, e3, e4⟩ := findL_of S.hu
  clear f4 e4
  rw [S.com] at f3
  have HQ := hid f1
  have HQ2 := hid f2
  have HQ3 := hid f3
  rw [g1, S.com] at e3
  rw [g1] at e1 e2
  have HR := hid e1
  have HR2 := hid e2
  have HR3 := hid e3
  have HS := hid g1
  have g2' : decide ((nth l u).val = (nth l k).val) = false := decide_eq_false g2
  obtain ⟨b, o, rfl, h0, h1, h2, h3⟩ := hE.opn (by omega)
  clear hE hf hb S f1 f2 f3 e1 e2 e3
  go_enter Try.func3, Try.ntmps3
  go_wp2_with (first
    | (go_at_call 30; refine (w09_shown _).mono ?_; rintro e w1 ⟨rfl, hx1⟩)
    | (go_at_call 31; refine (w09_few _ _ _ _).mono ?_; rintro e w2 ⟨rfl, hx2⟩; rw [hd]; have hX2 := hx1.trans hx2)
    | (go_at_call 32; refine (r08_formed _ _ _ _ _ (HE.out.ext hX2)).mono ?_; rintro e w3 ⟨rfl, hx3⟩; have hX3 := hX2.trans hx3)
    | (go_at_call 33; refine (t_at _ _ _ _ _ _ (HE.out.ext hX3)).mono ?_; rintro e w4 ⟨rfl, hx4⟩; rw [HZ.out.1, HZ.out.2.1, HZ.out.2.2]; have hX4 := hX3.trans hx4))
  go_quiet (fail)
  have hX5 := fun m : Nat => ((hX4.alloc (.cells #[.int .i64 3, .int .i64 k, .int .i64 u] 28)).drewN m)
  go_wp2_with (go_at_call 34; refine (r08_find _ _ _ _ _ _ (HE.out.ext (hX5 _))).mono ?_; rintro e w6 ⟨rfl, hx6⟩; rw [HQ.out, HQ2.out, HQ3.out]; have hX6 := (hX5 _).trans hx6; have b2 := ((Blk.new w4 28 #[.int .i64 3, .int .i64 k, .int .i64 u]).drewN _).ext hx6; obtain ⟨p0, p1, p2⟩ := b2.cells3; have lt2 := b2.lt)
  go_wp2_with (go_at_call 34; refine (r08_find _ _ _ _ _ _ (HE.out.ext (hX6.alloc _))).mono ?_; rintro e w7 ⟨rfl, hx7⟩; rw [HR.out, HR2.out, HR3.out]; have hX7 := (hX6.alloc _).trans hx7; clear p0 p1 p2; have b3 := (b2.alloc (.cells #[.int .i64 (nth l k).txn, .int .i64 (findL l (nth l k).txn).1.from_, .int .i64 (findL l (nth l k).txn).1.till, .bool true] 33)).ext hx7; obtain ⟨p0, p1, p2⟩ := b3.cells3; have lt3 := b3.lt; have c2 := (Blk.new w6 33 #[.int .i64 (nth l k).txn, .int .i64 (findL l (nth l k).txn).1.from_, .int .i64 (findL l (nth l k).txn).1.till, .bool true]).ext hx7; obtain ⟨r0, r1, r2, r3⟩ := c2.cells4; have lt4 := c2.lt)
  go_quiet (fail)
  go_wp2
  go_ret
  exact ⟨rfl, (hX7.alloc _).drewN _⟩

set_option maxRecDepth 100000 in
set_option maxHeartbeats 8000000 in
theorem w09_shows4 (w : World) (A : Option Addr) (n cap k u : Nat) (l : List Ev) (hE : Evs w A n l) (hn : n ≤ 300) (hf : (formed l).2 = 0) (hb : badAt l k = ⟨4, k, u⟩) (S : Says l k u 4) (g1 : (nth l u).txn = (nth l k).txn) (g4 : k < u) (g2 : (nth l u).val = (nth l k).val) :
    Calls Try.prog 3 #[.slice A n cap, .int .i64 k] w fun e w' => e = .returned (.bool true) ∧ Ext w w' := by
  have hX := Ext.refl w
  have hbig := hE.big
  have hl := hid hE.len
  have HE := hid hE
  have hd : decide (n ≤ 300) = true := by simp [hn]
  have hk : k < n := by have := S.hk; have := hl.out; omega
  have hu : u < n := by have := S.hu; have := hl.out; omega
  have s1 := S.read
  have s2 := S.write
  have s3 := S.key
  have HZ : Hid ((badAt l k).kind = 4 ∧ (badAt l k).i = k ∧ (badAt l k).j = u) := hid (by rw [hb]; exact ⟨rfl, rfl, rfl⟩)
  have hf1 : ((formed l).2 == 0) = true := beq_iff_eq.2 hf
  have hf2 : ((formed l).2 != 0) = false := by simp [hf]
  have HF := hid hf
  obtain ⟨f1, f2, f3, f4⟩ := findL_of S.hk
  obtain ⟨e1, e2, e3, e4⟩ := findL_of S.hu
  clear f4 e4
  rw [S.com] at f3
  have HQ := hid f1
  have HQ2 := hid f2
  have HQ3 := hid f3
  rw [g1, S.com] at e3
  rw [g1] at e1 e2
  have HR := hid e1
  have HR2 := hid e2
  have HR3 := hid e3
  have HS := hid g1
  have g2' : decide ((nth l u).val = (nth l k).val) = true := by rw [g2]; simp
  obtain ⟨b, o, rfl, h0, h1, h2, h3⟩ := hE.opn (by omega)
  clear hE hf hb S f1 f2 f3 e1 e2 e3
  go_enter Try.func3, Try.ntmps3
  go_wp2_with (first
    | (go_at_call 30; refine (w09_shown _).mono ?_; rintro e w1 ⟨rfl, hx1⟩)
    | (go_at_call 31; refine (w09_few _ _ _ _).mono ?_; rintro e w2 ⟨rfl, hx2⟩; rw [hd]; have hX2 := hx1.trans hx2)
    | (go_at_call 32; refine (r08_formed _ _ _ _ _ (HE.out.ext hX2)).mono ?_; rintro e w3 ⟨rfl, hx3⟩; have hX3 := hX2.trans hx3)
    | (go_at_call 33; refine (t_at _ _ _ _ _ _ (HE.out.ext hX3)).mono ?_; rintro e w4 ⟨rfl, hx4⟩; rw [HZ.out.1, HZ.out.2.1, HZ.out.2.2]; have hX4 := hX3.trans hx4))
  go_quiet (fail)
  have hX5 := fun m : Nat => ((hX4.alloc (.cells #[.int .i64 4, .int .i64 k, .int .i64 u] 28)).drewN m)
  go_wp2_with (go_at_call 34; refine (r08_find _ _ _ _ _ _ (HE.out.ext (hX5 _))).mono ?_; rintro e w6 ⟨rfl, hx6⟩; rw [HQ.out, HQ2.out, HQ3.out]; have hX6 := (hX5 _).trans hx6; have b2 := ((Blk.new w4 28 #[.int .i64 4, .int .i64 k, .int .i64 u]).drewN _).ext hx6; obtain ⟨p0, p1, p2⟩ := b2.cells3; have lt2 := b2.lt)
  go_wp2_with (go_at_call 34; refine (r08_find _ _ _ _ _ _ (HE.out.ext (hX6.alloc _))).mono ?_; rintro e w7 ⟨rfl, hx7⟩; rw [HR.out, HR2.out, HR3.out]; have hX7 := (hX6.alloc _).trans hx7; clear p0 p1 p2; have b3 := (b2.alloc (.cells #[.int .i64 (nth l k).txn, .int .i64 (findL l (nth l k).txn).1.from_, .int .i64 (findL l (nth l k).txn).1.till, .bool true] 33)).ext hx7; obtain ⟨p0, p1, p2⟩ := b3.cells3; have lt3 := b3.lt; have c2 := (Blk.new w6 33 #[.int .i64 (nth l k).txn, .int .i64 (findL l (nth l k).txn).1.from_, .int .i64 (findL l (nth l k).txn).1.till, .bool true]).ext hx7; obtain ⟨r0, r1, r2, r3⟩ := c2.cells4; have lt4 := c2.lt)
  go_quiet (fail)
  go_wp2
  go_ret
  exact ⟨rfl, (hX7.alloc _).drewN _⟩

theorem w09_shows (w : World) (A : Option Addr) (n cap : Nat) (l : List Ev) (i : Int) (hE : Evs w A n l) :
    Calls Try.prog 3 #[.slice A n cap, .int .i64 i] w fun e w' => e = .returned (.bool true) ∧ Ext w w' := by
  by_cases h : n ≤ 300 ∧ (formed l).2 = 0 ∧ (badAt l i).kind ≠ 0
  · obtain ⟨hn, hf, hk⟩ := h
    obtain ⟨k, u, rfl, hb, S⟩ := badAt_says (formed_wf hf) hk
    obtain ⟨c, hc⟩ : ∃ c, (badAt l k).kind = c := ⟨_, rfl⟩
    rw [hc] at hb S
    rcases S.why with ⟨rfl, g1, g2, g3⟩ | ⟨rfl, g1, g2, g3⟩ | ⟨rfl, g1, g4, g2⟩ | ⟨rfl, g1, g4, g2⟩
    · exact w09_shows1 w A n cap k u l hE hn hf hb S g1 g2 g3
    · exact w09_shows2 w A n cap k u l hE hn hf hb S g1 g2 g3
    · exact w09_shows3 w A n cap k u l hE hn hf hb S g1 g4 g2
    · exact w09_shows4 w A n cap k u l hE hn hf hb S g1 g4 g2
  · exact w09_shows0 w A n cap l i hE h
end Go.Proofs.Ythjgmccpbcelgaa
