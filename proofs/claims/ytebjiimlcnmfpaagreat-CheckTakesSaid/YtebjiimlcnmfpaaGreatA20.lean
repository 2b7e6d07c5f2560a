/-
  The program's chapter 11: maps with numbers as keys, the closures, ring.back, ring.along, ring.Order, ring.Ring.
-/
import Derived.Maps.Own
import Derived.Maps.OwnOps
import Derived.Maps.OwnSet
import Derived.Lib.SlKeysI
import Derived.Maps.AppendAt
import Derived.WalkMore
import Derived.Test.YtebjiimlcnmfpaaGreatA1
import Derived.Test.YtebjiimlcnmfpaaGreatR1
import Derived.Test.YtebjiimlcnmfpaaGreatWWords
import Derived.Test.YtebjiimlcnmfpaaGreatLays
/-! Maps with numbers as keys, whatever their values; sets of numbers. -/
set_option linter.unusedVariables false
set_option linter.unusedSimpArgs false
namespace Go.Proofs.YtebjiimlcnmfpaaGreat
section
section
open Go Go.RowKit Go.Proofs Go.Shelf Go.Maps Go.Sort Go.ChangeMaps

theorem lawInt : Keyed Tryz.prog 3 := int_keyed Tryz.underlying3
def I64 (x : Int) : Prop := (Lit.int .i64 x).wf = true
theorem key_int {x : Int} (h : I64 x) : keyOf Tryz.prog 3 (.int .i64 x) = some (.int .i64 x) := keyOf_int_mk Tryz.underlying3 h
def RV (v : Value) : Option (DataW Value × List MemPlace) := some (.held v, [])

/-- Block b is a map from numbers, of at most n entries: f. -/
def IMap (W : World) (b n : Nat) (f : Int → Option Value) : Prop :=
  ∃ D : DataW Value, W.ownsMap Tryz.prog 3 RV b n D ∧ ∀ x, has D (.int .i64 x) = (f x).isSome ∧ ∀ z, D.atKey (.int .i64 x) (.held z) = .held ((f x).getD z)
section
variable {W W' : World} {b n : Nat} {f g : Int → Option Value} {T E : TypeId} {x : Int}
theorem IMap.made (w : World) : IMap (w.alloc (.map #[] 0)) w.heap.size 0 (fun _ => none) := ⟨.map [], World.ownsMap_made w _ _ _, fun _ => ⟨rfl, fun _ => rfl⟩⟩
theorem IMap.congr (h : IMap W b n f) (e : ∀ x, f x = g x) : IMap W b n g := by rw [show g = f from funext fun x => (e x).symm]; exact h
theorem IMap.mono (h : IMap W b n f) {m : Nat} (hm : n ≤ m) : IMap W b m f := by obtain ⟨D, h1, h2⟩ := h; exact ⟨D, h1.mono hm, h2⟩
theorem IMap.lt (h : IMap W b n f) : b < W.heap.size := by obtain ⟨D, h1, _⟩ := h; exact h1.lt
theorem IMap.kept {row : Option Nat} (h : IMap W b n f) (hg : W.grownBy W' row) (hne : some b ≠ row) : IMap W' b n f := by obtain ⟨D, h1, h2⟩ := h; exact ⟨D, h1.kept hg hne, h2⟩
theorem IMap.ext (h : IMap W b n f) (x : Ext W W') : IMap W' b n f := by
  obtain ⟨D, ⟨es, clock, hb, r⟩, h2⟩ := h
  exact ⟨D, ⟨es, clock, x.block hb, r⟩, h2⟩
theorem IMap.isMap (h : IMap W b n f) : ∃ es clock, W.heap[b]? = some (.map es clock) := by
  obtain ⟨D, ⟨es, clock, hb, _⟩, _⟩ := h
  exact ⟨es, clock, hb⟩
theorem atHeld {D : DataW Value} {v : Value} {ps : List MemPlace} {u : Value} (h : RV v = some (D, ps)) (e : D = .held u) : v = u := by
  subst e
  unfold RV at h
  simp only [Option.some.injEq, Prod.mk.injEq, DataW.held.injEq] at h
  exact h.1
theorem IMap.look (h : IMap W b n f) (ht : Tryz.prog.underlying T = some (.map 3 E)) {z : Value} (hz : (zeroValue E).run Tryz.prog W = .ok z W) (hx : I64 x) : (Instr.lookup T (.map (some b)) (.int .i64 x) false).run Tryz.prog W = .ok ((f x).getD z) W := by
  obtain ⟨D, h1, h2⟩ := h
  obtain ⟨v, ps, hr, hv⟩ := h1.lookup lawInt ht hz (zd := .held z) (zp := []) rfl (key_int hx)
  rw [hr, atHeld hv ((h2 x).2 z)]
def upd (f : Int → Option Value) (x : Int) (v : Value) : Int → Option Value := fun y => if y = x then some v else f y
theorem IMap.put (h : IMap W b n f) (ht : Tryz.prog.underlying T = some (.map 3 E)) (hn : n < maxLen) (hx : I64 x) (v : Value) : ∃ W', (Instr.mapUpdate T (.map (some b)) (.int .i64 x) v).run Tryz.prog W = .ok () W' ∧ IMap W' b (n + 1) (upd f x v) ∧ W.grownBy W' (some b) := by
  obtain ⟨D, h1, h2⟩ := h
  obtain ⟨W', hr, ho, hg⟩ := h1.update lawInt ht hn (key_int hx) (d := .held v) (ps := []) (val := v) rfl
  refine ⟨W', hr, ⟨_, ho, fun y => ?_⟩, hg⟩
  by_cases e : y = x
  · subst e
    exact ⟨by rw [has_put_same h1.isMap (by trivial)]; simp [upd], fun z => by rw [atKey_put_same h1.isMap (by trivial)]; simp [upd]⟩
  · exact ⟨by rw [has_put_other (by simpa using e), (h2 y).1]; simp [upd, e], fun z => by rw [atKey_put_other (by simpa using e), (h2 y).2]; simp [upd, e]⟩
end

theorem intKeys_spec {H : Type} {k : TypeId} {R : Value → Option (DataW H × List MemPlace)} {w : World} {b n : Nat} {D : DataW H} (h : w.ownsMap Tryz.prog k R b n D) (K : Keyed Tryz.prog k) (hk : Tryz.prog.underlying k = some (.int .i64)) :
    (intKeys D).Nodup ∧ (∀ x, x ∈ intKeys D ↔ has D (.int .i64 x) = true) ∧ (intKeys D).length = Maps.size D := by
  obtain ⟨es, hD, hpw, _⟩ := h.entries K
  obtain ⟨es', hD', hko⟩ := h.keysOf
  obtain rfl : es = es' := by rw [hD] at hD'; simpa using hD'
  subst hD
  have hks : ∀ p ∈ es, ∃ x, p.1 = .int .i64 x := fun p hp => by obtain ⟨v, hv⟩ := hko p hp; obtain ⟨x, _, hx, _⟩ := Maps.keyOf_i64 hk hv; exact ⟨x, hx⟩
  have hm : ∀ (es : List (Lit × DataW H)), (∀ p ∈ es, ∃ x, p.1 = .int .i64 x) → es.Pairwise (fun p q => p.1 ≠ q.1) → (intKeys (.map es)).Nodup ∧ (∀ x, x ∈ intKeys (.map es) ↔ has (.map es) (.int .i64 x) = true) ∧ (intKeys (.map es)).length = es.length := by
    intro es
    induction es with
    | nil => intro _ _; exact ⟨by simp [intKeys], fun x => by simp [intKeys, has], by simp [intKeys]⟩
    | cons p r ih =>
      intro h1 h2
      obtain ⟨a, ha⟩ := h1 p (by simp)
      have h2' := List.pairwise_cons.1 h2
      obtain ⟨i1, i2, i3⟩ := ih (fun q hq => h1 q (by simp [hq])) h2'.2
      obtain ⟨p1, p2⟩ := p
      simp only at ha
      subst ha
      have e : intKeys (.map ((Lit.int .i64 a, p2) :: r)) = a :: intKeys (.map r) := rfl
      rw [e]
      refine ⟨List.nodup_cons.2 ⟨fun hin => ?_, i1⟩, fun x => ?_, by simp [i3]⟩
      · have h3 := (i2 a).1 hin
        rw [has_eq, List.any_eq_true] at h3
        obtain ⟨q, hq, hs⟩ := h3
        obtain ⟨c, hc⟩ := h1 q (by simp [hq])
        have hne := h2'.1 q hq
        rw [hc] at hs hne
        simp [Lit.sameKey] at hs
        exact hne (by rw [hs])
      · have h4 := i2 x
        rw [has_eq] at h4 ⊢
        rw [List.mem_cons, h4, List.any_cons]
        simp only [Lit.sameKey, Bool.or_eq_true]
        constructor
        · rintro (h | h)
          · subst h; simp
          · exact .inr h
        · rintro (h | h)
          · exact .inl (by simpa [eq_comm] using h)
          · exact .inr h
  exact hm es hks hpw
theorem IMap.len {W : World} {b n : Nat} {f : Int → Option Value} {T E : TypeId} (h : IMap W b n f) (ht : Tryz.prog.underlying T = some (.map 3 E)) (ty : TypeId) {ss : List Int} (hs : ss.Pairwise (· < ·)) (hm : ∀ x, x ∈ ss ↔ (f x).isSome = true) :
    (Builtin.len_ #[T] ty #[.map (some b)]).run Tryz.prog W = .ok (.int .i64 ss.length) W ∧ ss.length ≤ n := by
  obtain ⟨D, h1, h2⟩ := h
  obtain ⟨i1, i2, i3⟩ := intKeys_spec h1 lawInt Tryz.underlying3
  have hp : ss.Perm (intKeys D) := (List.perm_ext_iff_of_nodup (Rg.rising_nodup hs) i1).2 fun x => by rw [hm x, i2 x, (h2 x).1]
  have e : Maps.size D = ss.length := by rw [← i3, hp.length_eq]
  have hz := h1.size_le
  rw [h1.len ht ty, e]
  exact ⟨rfl, by omega⟩
theorem IMap.wf {W : World} {b n : Nat} {f : Int → Option Value} (h : IMap W b n f) {x : Int} (hx : (f x).isSome = true) : I64 x := by
  obtain ⟨D, h1, h2⟩ := h
  obtain ⟨i1, i2, i3⟩ := intKeys_spec h1 lawInt Tryz.underlying3
  exact intKeys_wf h1 Tryz.underlying3 x ((i2 x).2 (by rw [(h2 x).1]; exact hx))

/-! ### sets -/
def setF (s : Int → Bool) : Int → Option Value := fun x => if s x = true then some (.bool true) else none
theorem setF_get (s : Int → Bool) (x : Int) : (setF s x).getD (.bool false) = .bool (s x) := by unfold setF; cases s x <;> simp
abbrev ISet (W : World) (b n : Nat) (s : Int → Bool) : Prop := IMap W b n (setF s)
theorem ISet.made (w : World) : ISet (w.alloc (.map #[] 0)) w.heap.size 0 (fun _ => false) := (IMap.made w).congr fun _ => rfl
theorem ISet.same {W : World} {b n : Nat} {s t : Int → Bool} (h : ISet W b n s) (e : ∀ x, s x = t x) : ISet W b n t := h.congr fun x => by unfold setF; rw [e x]

end
end
end Go.Proofs.YtebjiimlcnmfpaaGreat

/-! Steps as they lie in memory (what leads to their edges is left as it is); slices.IndexFunc and slices.ContainsFunc at them, for whatever function value. -/
namespace Go.Proofs.YtebjiimlcnmfpaaGreat
section
section
open Go Go.RowKit Go.Proofs Go.Shelf
set_option linter.unusedSimpArgs false
set_option linter.unusedVariables false
attribute [local go_sem] Ext.alloc Ext.alloc2 Ext.alloc3 Ext.alloc4 Ext.drewN_alloc Ext.drewN_alloc2 Ext.drew_alloc Ext.drew Ext.drewN toList_beq

/-- A step: whence, whither, the slice of its edges as a value. -/
structure Stp where
  fr : Int
  to_ : Int
  ad : Option Addr
  len : Nat
  cap : Nat
def Stp.z : Stp := ⟨0, 0, none, 0, 0⟩
def Stp.cs (x : Stp) : List Value := [.int .i64 x.fr, .int .i64 x.to_, .slice x.ad x.len x.cap]
def kStp : Kd Stp := Kd.flat 3 Stp.z Stp.cs (fun _ => rfl)
def snth (l : List Stp) (i : Nat) : Stp := l.getD i Stp.z
abbrev Stps (w : World) (A : Option Addr) (n : Nat) (l : List Stp) : Prop := Sl kStp w A n l
theorem Stps.opn {w : World} {A : Option Addr} {n : Nat} {l : List Stp} (h : Stps w A n l) (hn : 0 < n) : ∃ b o, A = some ⟨b, o, none⟩ ∧
    (∀ W i, Ext w W → i < n → W.cell? ⟨b, o + i * 3, none⟩ = some (.int .i64 (snth l i).fr)) ∧
    (∀ W i, Ext w W → i < n → W.cell? ⟨b, o + i * 3 + 1, none⟩ = some (.int .i64 (snth l i).to_)) ∧
    (∀ W i, Ext w W → i < n → W.cell? ⟨b, o + i * 3 + 2, none⟩ = some (.slice (snth l i).ad (snth l i).len (snth l i).cap)) := by
  obtain ⟨b, o, e, hg⟩ := h.get hn
  have hh : ∀ W i j u, Ext w W → i < n → (snth l i).cs[j]? = some u → W.cell? ⟨b, o + i * 3 + j, none⟩ = some u := fun W i j u hx hi hu => by
    obtain ⟨cs, hR, hc⟩ := hg i hi
    have hcs : cs = (snth l i).cs := hR
    exact hx.cell (hc j u (by rw [hcs]; exact hu))
  exact ⟨b, o, e, fun W i hx hi => hh W i 0 _ hx hi rfl, fun W i hx hi => hh W i 1 _ hx hi rfl, fun W i hx hi => hh W i 2 _ hx hi rfl⟩
theorem snth_mem {l : List Stp} {i : Nat} (h : i < l.length) : snth l i ∈ l := by
  unfold snth
  rw [List.getD_eq_getElem?_getD, List.getElem?_eq_getElem h]
  exact List.getElem_mem _

set_option maxHeartbeats 1000000 in
theorem idxStp (g : Nat) (caps : Array Value) (p : Stp → Bool) (w : World) (A : Option Addr) (n cap : Nat) (l : List Stp) (hE : Stps w A n l)
    (eg : ∀ args w, (callFunc g args).run Tryz.prog w = .ok (.enter g args) w)
    (hg : ∀ (W : World) (x : Stp), x ∈ l → Ext w W → Calls Tryz.prog g (#[.agg #[.int .i64 x.fr, .int .i64 x.to_, .slice x.ad x.len x.cap]] ++ caps) W fun e w' => e = .returned (.bool (p x)) ∧ Ext W w') :
    Calls Tryz.prog 111 #[.slice A n cap, .func (.func g) #[] caps] w fun e w' => e = .returned (.int .i64 (idx p l 0)) ∧ Ext w w' := by
  have hX := Ext.refl w
  have hl := hid (Sl.len hE)
  have hbig := hE.big
  have HG := hid hg
  clear hg
  go_enter Tryz.func111, Tryz.ntmps111
  go_wp2
  go_loopw [8] (fun i W => Ext w W ∧ ∃ k : Nat, k ≤ n ∧ i = .int .i64 k ∧ Hid (idx p (l.drop k) k = idx p l 0)) (fun i _ => n - (RowKit.intOf i).toNat)
  case atStart => exact ⟨hX, 0, by omega, rfl, hid rfl⟩
  case round =>
    obtain ⟨hW, k, hk1, rfl, hr⟩ := hrel
    by_cases hlt : k < n
    · obtain ⟨b, o, rfl, h0, h1, h2⟩ := hE.opn (by omega)
      have hs := hid (drop_step l Stp.z (k := k) (by rw [hl.out]; omega))
      have hmem := hid (snth_mem (l := l) (i := k) (by rw [hl.out]; exact hlt))
      go_wp2
      refine (HG.out _ (snth l k) hmem.out hW).mono ?_
      rintro e w1 ⟨rfl, hx1⟩
      cases hp : p (snth l k)
      · have hp' := hid hp; clear hp
        go_wp2
        go_roundw
        case rel => exact ⟨hW.trans hx1, k + 1, by omega, by go_num, hid (by rw [← hr.out, hs.out, idx_cons]; exact (if_neg (by rw [show l.getD k Stp.z = snth l k from rfl, hp'.out]; simp)).symm)⟩
        case measure => simp [RowKit.intOf]; omega
      · have hp' := hid hp; clear hp
        go_wp2
        go_ret
        refine ⟨ret_int ?_, hW.trans hx1⟩
        rw [← hr.out, hs.out, idx_cons]
        exact (if_pos hp'.out).symm
    · go_wp2
      go_ret
      refine ⟨ret_int ?_, hW⟩
      rw [← hr.out, drop_end _ (by rw [hl.out]; omega)]
      rfl

theorem containsStp (g : Nat) (caps : Array Value) (p : Stp → Bool) (w : World) (A : Option Addr) (n cap : Nat) (l : List Stp) (hE : Stps w A n l)
    (eg : ∀ args w, (callFunc g args).run Tryz.prog w = .ok (.enter g args) w)
    (hg : ∀ (W : World) (x : Stp), x ∈ l → Ext w W → Calls Tryz.prog g (#[.agg #[.int .i64 x.fr, .int .i64 x.to_, .slice x.ad x.len x.cap]] ++ caps) W fun e w' => e = .returned (.bool (p x)) ∧ Ext W w') :
    Calls Tryz.prog 78 #[.slice A n cap, .func (.func g) #[] caps] w fun e w' => e = .returned (.bool (l.any p)) ∧ Ext w w' := by
  have hX := Ext.refl w
  have HI := hid (idxStp g caps p w A n cap l hE eg hg)
  have hv : Hid (decide (0 ≤ idx p l 0) = l.any p) := hid (by
    rcases idx_spec p l 0 with ⟨h, h2⟩ | ⟨k, hk, h, h2, _⟩
    · rw [show idx p l 0 = -1 from h, show decide (0 ≤ (-1 : Int)) = false by decide]
      symm; rw [List.any_eq_false]; intro x hx; rw [h2 x hx]; simp
    · rw [show idx p l 0 = ((0 + k : Nat) : Int) from h]
      symm; rw [show decide (0 ≤ ((0 + k : Nat) : Int)) = true by simp, List.any_eq_true]
      exact ⟨l[k], List.getElem_mem hk, h2⟩)
  clear hg eg
  go_enter Tryz.func78, Tryz.ntmps78
  go_wp2_with (go_at_call 111; refine HI.out.mono ?_; rintro e w1 ⟨rfl, hx1⟩)
  rw [hv.out]
  go_ret
  exact ⟨rfl, hx1⟩
end
end
end Go.Proofs.YtebjiimlcnmfpaaGreat

/-! Maps with numbers as keys at the operations of a walk; ring's closures, ring.back, ring.along. -/
namespace Go.Proofs.YtebjiimlcnmfpaaGreat
section
section
open Go Go.RowKit Go.Proofs Go.Shelf Go.Maps

section
variable {W : World} {ops : Array Oper} {rest : List Oper} {o : Oper} {a : Act} {Q : Exit → Act → World → Prop} {b n : Nat} {f : Int → Option Value} {s : Int → Bool} {T E : TypeId} {z : Value}
theorem wp_put (hg : o.guard = none) (m x v : Operand) (T E : TypeId) (hop : o.op = Op.mapUpdate T m x v) (ht : Tryz.prog.underlying T = some (.map 3 E)) (hm : a.eval m = .map (some b)) (h : IMap W b n f) (hn : n < maxLen)
    (y : Int) (u : Value) (hx : a.eval x = .int .i64 y) (hv : a.eval v = u) (hy : I64 y) (hK : ∀ w', IMap w' b (n + 1) (upd f y u) → W.grownBy w' (some b) → wpList Tryz.prog ops Q rest (a.put o.dst undef) w') : wpList Tryz.prog ops Q (o :: rest) a W := by
  refine wpList_plain hg fun K' hK' => ?_
  obtain ⟨w', hrun, h1, h2⟩ := h.put ht hn hy u
  unfold Oper.wp
  simp [execOp, hop, hm, hx, hv, hrun, Result.andThen]
  exact hK' _ _ (hK w' h1 h2)
end

attribute [local go_sem] Ext.alloc Ext.alloc2 Ext.alloc3 Ext.alloc4 Ext.drewN_alloc Ext.drewN_alloc2 Ext.drew_alloc Ext.drew Ext.drewN toList_beq

theorem blk_ne_row {w : World} {g : Nat} {t e : TypeId} {cs : Array Value} {base : Nat} {sz : Nat} {u : Value} {n : Nat} {xs : List Value} (hb : Blk w g t cs) (hu : w.ownsRow base e sz u n xs) (hne : t ≠ e) : some g ≠ u.ownBlock := fun he => by
  obtain ⟨cells, hc⟩ := YtebjiimlcnmfpaaGreatW.PrintWords.own_typed hu g he.symm
  have hb' : w.heap[g]? = some (.cells cs t (0, 0)) := hb
  rw [hc] at hb'
  injection hb' with hb'
  injection hb' with _ ht
  exact hne ht.symm
/-- A set that is only read, as the walk's simp takes it. -/
theorem ISet.reads {w : World} {b n : Nat} {s : Int → Bool} (h : ISet w b n s) : ∀ (W : World) (y : Int), Ext w W → I64 y → (Instr.lookup 125 (.map (some b)) (.int .i64 y) false).run Tryz.prog W = .ok (.bool (s y)) W := fun W y hx hy => by
  rw [IMap.look (h.ext hx) Tryz.underlying125 (Tryz.zeroValue4 W) hy, setF_get]

end
end
end Go.Proofs.YtebjiimlcnmfpaaGreat

/-! The program's ring.along. -/
namespace Go.Proofs.YtebjiimlcnmfpaaGreat
section
section
open Go Go.RowKit Go.Proofs Go.Shelf Go.Maps
attribute [local go_sem] Ext.alloc Ext.alloc2 Ext.alloc3 Ext.alloc4 Ext.drewN_alloc Ext.drewN_alloc2 Ext.drew_alloc Ext.drew Ext.drewN toList_beq

abbrev levS (l : List Stp) (t : Int) (n : Nat) (x : Int) : Bool := Rg.lev Stp.fr Stp.to_ l t n x
theorem infoI : (Tryz.prog.info? 3).map (fun i => (i.zero, i.size, i.bytes)) = some (some (.int .i64 0), 1, 8) := by kernel_rfl
theorem infoStp : (Tryz.prog.info? 80).map (fun i => (i.zero, i.size, i.bytes)) = some (some (.agg #[.int .i64 0, .int .i64 0, .slice none 0 0]), 3, 40) := by kernel_rfl

theorem app_one {α : Type} {sz : Nat} (c : α → List Value) (hc : ∀ x, (c x).length = sz) (h1 : ∀ x, ∀ u ∈ c x, u.oneCell' = true) (t ty e : TypeId) (i : TypeInfo) (z : Value) (bytes : Nat) (ht : Tryz.prog.underlying t = some (.slice e)) (hi : Tryz.prog.info? e = some i) (hz : i.zero = some z)
    (hsize : i.size = sz) (hby : i.bytes = bytes) (hzs : z.cells.size = sz) (hsz : 0 < sz) (hb8 : 0 < bytes) {W : World} {base : Nat} {v : Value} {pre : List α} (hown : W.ownsRow base e sz v pre.length (pre.flatMap c)) (hbase : base ≤ W.heap.size) (hbytes : (pre.length + 1) * bytes ≤ 140737488355328) (x : α) :
    ∃ v' w', (Builtin.append_ #[t, t] ty #[v, .slice (some ⟨W.heap.size, 0, none⟩) 1 1]).run Tryz.prog (W.alloc (.cells (c x).toArray e)) = .ok v' w' ∧ w'.ownsRow base e sz v' (pre ++ [x]).length ((pre ++ [x]).flatMap c) ∧ W.grownBy w' v.ownBlock ∧ (v'.ownBlock = v.ownBlock ∨ ∃ b, v'.ownBlock = some b ∧ W.heap.size ≤ b) := by
  have hlen : pre.length + 1 ≤ 140737488355328 := Nat.le_trans (Nat.le_mul_of_pos_right _ hb8) hbytes
  obtain ⟨v', w', hr, h2, h3, _, h5⟩ := run_append_own_at (P := Tryz.prog) (W.alloc (.cells (c x).toArray e)) base t ty e i z sz bytes ht hi hz hsize hby hzs hsz v pre.length _ (hown.alloc _) ⟨W.heap.size, 0, none⟩ 1 1 (c x) (by rw [hc]; omega) (new_cells rfl) (h1 x) (by unfold maxLen; omega) hbytes (by simp; omega)
  refine ⟨v', w', hr, ?_, World.grownBy.trans (World.grownBy_alloc W _ _) h3, ?_⟩
  · have e1 : (pre ++ [x]).flatMap c = pre.flatMap c ++ c x := by simp
    have e2 : (pre ++ [x]).length = pre.length + 1 := by simp
    rw [e1, e2]
    exact h2
  · rcases h5 with h | h
    · exact .inl h
    · exact .inr ⟨_, h, by simp⟩
theorem app_stp {W : World} {base : Nat} {v : Value} {pre : List Stp} (hown : W.ownsRow base 80 3 v pre.length (pre.flatMap Stp.cs)) (hbase : base ≤ W.heap.size) (hb : (pre.length + 1) * 40 ≤ 140737488355328) (ty : TypeId) (x : Stp) :
    ∃ v' w', (Builtin.append_ #[34, 34] ty #[v, .slice (some ⟨W.heap.size, 0, none⟩) 1 1]).run Tryz.prog (W.alloc (.cells #[.int .i64 x.fr, .int .i64 x.to_, .slice x.ad x.len x.cap] 80)) = .ok v' w' ∧ w'.ownsRow base 80 3 v' (pre ++ [x]).length ((pre ++ [x]).flatMap Stp.cs) ∧ W.grownBy w' v.ownBlock ∧ (v'.ownBlock = v.ownBlock ∨ ∃ b, v'.ownBlock = some b ∧ W.heap.size ≤ b) := by
  obtain ⟨i0, hi, hz0, hz1, hz2⟩ := info_parts infoStp
  exact app_one Stp.cs (fun _ => rfl) (fun x u hu => by simp [Stp.cs] at hu; rcases hu with rfl | rfl | rfl <;> rfl) 34 ty 80 i0 _ 40 Tryz.underlying34 hi hz0 hz1 hz2 rfl (by decide) (by decide) hown hbase hb x
theorem app_int {W : World} {base : Nat} {v : Value} {pre : List Int} (hown : W.ownsRow base 3 1 v pre.length (pre.flatMap intCs)) (hbase : base ≤ W.heap.size) (hb : (pre.length + 1) * 8 ≤ 140737488355328) (ty : TypeId) (x : Int) :
    ∃ v' w', (Builtin.append_ #[31, 31] ty #[v, .slice (some ⟨W.heap.size, 0, none⟩) 1 1]).run Tryz.prog (W.alloc (.cells #[.int .i64 x] 3)) = .ok v' w' ∧ w'.ownsRow base 3 1 v' (pre ++ [x]).length ((pre ++ [x]).flatMap intCs) ∧ W.grownBy w' v.ownBlock ∧ (v'.ownBlock = v.ownBlock ∨ ∃ b, v'.ownBlock = some b ∧ W.heap.size ≤ b) := by
  obtain ⟨i0, hi, hz0, hz1, hz2⟩ := info_parts infoI
  exact app_one intCs (fun _ => rfl) (fun x u hu => by simp [intCs] at hu; rcases hu with rfl; rfl) 31 ty 3 i0 _ 8 Tryz.underlying31 hi hz0 hz1 hz2 rfl (by decide) (by decide) hown hbase hb x

attribute [-go_sem] Builtin.append_
end
end
end Go.Proofs.YtebjiimlcnmfpaaGreat

/-! slices.Sorted(maps.Keys(m)) at sets of numbers. -/
namespace Go.Proofs.YtebjiimlcnmfpaaGreat
section
section
open Go Go.RowKit Go.Proofs Go.Shelf Go.Maps Go.Sort Go.ChangeMaps
theorem sortsInt (m : Nat) : AnyZI.SortsIn Tryz.prog sortedInt_ren Fence.wide m :=
  ⟨fun blk off cap ss W hH hblk hsz => callsIn_wide.2 (AnyM.slices_Sort_int sortInt blk off cap ss W hH hblk hsz),
   fun p cap W => callsIn_wide.2 (AnyM.slices_Sort_int_none sortInt p cap W)⟩
end
end
end Go.Proofs.YtebjiimlcnmfpaaGreat

/-! The program's ring.Order. -/
namespace Go.Proofs.YtebjiimlcnmfpaaGreat
section
section
open Go Go.RowKit Go.Proofs Go.Shelf Go.Maps
attribute [local go_sem] Ext.alloc Ext.alloc2 Ext.alloc3 Ext.alloc4 Ext.drewN_alloc Ext.drewN_alloc2 Ext.drew_alloc Ext.drew Ext.drewN toList_beq
attribute [-go_sem] Builtin.append_

theorem encZ_flat (l : List Int) : l.map encZ = l.flatMap intCs := by rw [List.map_eq_flatMap]; rfl
/-- What is left of an order, of the numbers ss behind out. -/
def OrdRest (l : List Stp) (R : Option (List Int)) (ss out : List Int) : Prop := ∃ m, ss.length ≤ m ∧ Rg.ordGo Stp.fr Stp.to_ l m ss out = R
theorem OrdRest.done {l : List Stp} {R : Option (List Int)} {ss out : List Int} (h : OrdRest l R ss out) (he : ss = []) : R = some out := by
  obtain ⟨m, hm, e⟩ := h
  subst he
  cases m <;> simp [Rg.ordGo] at e <;> exact e.symm
theorem OrdRest.none {l : List Stp} {R : Option (List Int)} {ss out : List Int} (h : OrdRest l R ss out) (he : 0 < ss.length) (hf : ss.find? (Rg.free Stp.fr Stp.to_ l ss) = none) : R = none := by
  obtain ⟨m, hm, e⟩ := h
  obtain ⟨m, rfl⟩ : ∃ k, m = k + 1 := ⟨m - 1, by omega⟩
  rw [Rg.ordGo, if_neg (fun e => by rw [e] at he; simp at he), hf] at e
  exact e.symm
theorem OrdRest.step {l : List Stp} {R : Option (List Int)} {ss out : List Int} {n : Int} (h : OrdRest l R ss out) (hs : ss.Nodup) (hf : ss.find? (Rg.free Stp.fr Stp.to_ l ss) = some n) : OrdRest l R (ss.filter (fun y => decide (y ≠ n))) (out ++ [n]) := by
  obtain ⟨m, hm, e⟩ := h
  obtain ⟨hn, _⟩ := Rg.find_spec hf
  have hl := Rg.filter_ne_len hn hs
  obtain ⟨m, rfl⟩ : ∃ k, m = k + 1 := ⟨m - 1, by omega⟩
  rw [Rg.ordGo, if_neg (fun e => by rw [e] at hn; simp at hn), hf] at e
  exact ⟨m, by omega, e⟩
/-- What the walk of ring.Order keeps. -/
structure OInv (w : World) (A : Option Addr) (n cap N : Nat) (ss : List Int) (v : Value) (out : List Int) (W : World) : Prop where
  ext : Ext w W
  bl : Blk W w.heap.size 34 #[.slice A n cap]
  bm : Blk W (w.heap.size + 2) 125 #[.map (some (w.heap.size + 1))]
  set : ISet W (w.heap.size + 1) N (fun x => decide (x ∈ ss))
  out : W.ownsRow (w.heap.size + 3) 3 1 v out.length (out.flatMap intCs)
  rise : ss.Pairwise (· < ·)
  size : w.heap.size + 3 ≤ W.heap.size
theorem OInv.go {w W W' : World} {A : Option Addr} {n cap N : Nat} {ss : List Int} {v : Value} {out : List Int} (h : OInv w A n cap N ss v out W) (x : Ext W W') : OInv w A n cap N ss v out W' :=
  ⟨h.ext.trans x, h.bl.ext x, h.bm.ext x, h.set.ext x, own_ext h.out h.size x, h.rise, Nat.le_trans h.size x.le⟩

end
end
end Go.Proofs.YtebjiimlcnmfpaaGreat

/-! What the walk of ring.Ring keeps: for each number at which steps begin, a row of sets: who reaches it in 0, 1, .. steps. -/
namespace Go.Proofs.YtebjiimlcnmfpaaGreat
section
section
open Go Go.RowKit Go.Proofs Go.Shelf Go.Maps

/-- A map has no more entries than keys. -/
theorem IMap.tight {W : World} {b n : Nat} {f : Int → Option Value} (h : IMap W b n f) {ss : List Int} (hs : ss.Pairwise (· < ·)) (hm : ∀ x, x ∈ ss ↔ (f x).isSome = true) : IMap W b ss.length f := by
  obtain ⟨D, h1, h2⟩ := h
  obtain ⟨i1, i2, i3⟩ := intKeys_spec h1 lawInt Tryz.underlying3
  have hp : ss.Perm (intKeys D) := (List.perm_ext_iff_of_nodup (Rg.rising_nodup hs) i1).2 fun x => by rw [hm x, i2 x, (h2 x).1]
  have e : Maps.size D = ss.length := by rw [← i3, hp.length_eq]
  obtain ⟨es, clock, hb, Ft, hsz, hD⟩ := h1
  refine ⟨D, ⟨es, clock, hb, Ft, ?_, hD⟩, h2⟩
  rw [← e, hD]
  simp [Maps.size, length_sorted]

def mapC (b : Nat) : List Value := [.map (some b)]
/-- A row of sets: who reaches a in 0, 1, .., c - 1 steps. -/
def RRow (l : List Stp) (W : World) (B N : Nat) (a : Int) (c : Nat) (v : Value) : Prop :=
  ∃ bs : List Nat, bs.length = c ∧ W.ownsRow B 125 1 v bs.length (bs.flatMap mapC) ∧ ∀ j, j < c → ISet W (bs.getD j 0) N (levS l a j) ∧ B ≤ bs.getD j 0
section
variable {l : List Stp} {W W' : World} {B N c : Nat} {a : Int} {v : Value}
theorem RRow.ext (h : RRow l W B N a c v) (hB : B ≤ W.heap.size) (x : Ext W W') : RRow l W' B N a c v := by
  obtain ⟨bs, h1, h2, h3⟩ := h
  exact ⟨bs, h1, own_ext h2 hB x, fun j hj => ⟨(h3 j hj).1.ext x, (h3 j hj).2⟩⟩
/-- What is written is another row, or an elder block. -/
theorem RRow.grown {row : Option Nat} (h : RRow l W B N a c v) (hg : W.grownBy W' row) (h1 : v.ownBlock = none ∨ v.ownBlock ≠ row) (h2 : ∀ b es clock, W.heap[b]? = some (.map es clock) → B ≤ b → some b ≠ row) : RRow l W' B N a c v := by
  obtain ⟨bs, e1, e2, e3⟩ := h
  refine ⟨bs, e1, e2.kept hg h1, fun j hj => ⟨(e3 j hj).1.kept hg ?_, (e3 j hj).2⟩⟩
  obtain ⟨es, clock, hb⟩ := (e3 j hj).1.isMap
  exact h2 _ es clock hb (e3 j hj).2
theorem RRow.form (h : RRow l W B N a c v) (hc : 0 < c) : ∃ g cap, v = .slice (some ⟨g, 0, none⟩) c cap ∧ B ≤ g ∧ g < W.heap.size ∧ ∃ bs : Nat → Nat, ∀ j, j < c → W.cell? ⟨g, j, none⟩ = some (.map (some (bs j))) ∧ ISet W (bs j) N (levS l a j) := by
  obtain ⟨bs, h1, h2, h3⟩ := h
  subst h1
  rcases h2.2 with ⟨_, h0⟩ | ⟨g, cap, cur, rfl, hb, hh, _⟩
  · omega
  refine ⟨g, cap, rfl, hb, (Array.getElem?_eq_some_iff.1 hh).1, fun j => bs.getD j 0, fun j hj => ⟨?_, (h3 j hj).1⟩⟩
  have hc := h2.cells (g := g) rfl j (.map (some (bs.getD j 0))) (by
    have := flatMap_get 1 0 mapC (fun _ => rfl) bs j 0 hj (by omega)
    rw [Nat.mul_one, Nat.add_zero] at this
    rw [this]; rfl)
  have ha : (⟨g, 0, none⟩ : Addr).add j = ⟨g, j, none⟩ := by unfold Addr.add; split <;> simp_all
  rwa [ha] at hc
theorem RRow.snoc {bs : List Nat} {g : Nat} (h1 : W.ownsRow B 125 1 v (bs ++ [g]).length ((bs ++ [g]).flatMap mapC)) (h2 : ∀ j, j < bs.length → ISet W (bs.getD j 0) N (levS l a j) ∧ B ≤ bs.getD j 0) (h3 : ISet W g N (levS l a bs.length)) (h4 : B ≤ g) : RRow l W B N a (bs.length + 1) v := by
  refine ⟨bs ++ [g], by simp, h1, fun j hj => ?_⟩
  by_cases e : j < bs.length
  · have : (bs ++ [g]).getD j 0 = bs.getD j 0 := by simp [List.getD_eq_getElem?_getD, List.getElem?_append_left e]
    rw [this]; exact h2 j e
  · have e' : j = bs.length := by omega
    have : (bs ++ [g]).getD j 0 = g := by simp [List.getD_eq_getElem?_getD, e']
    rw [this, e']; exact ⟨h3, h4⟩
end

structure RInv (l : List Stp) (F : List Int) (w : World) (B M N : Nat) (W : World) (f : Int → Option Value) (c : Int → Nat) : Prop where
  ext : Ext w W
  lo : w.heap.size ≤ M
  mid : M < B
  hi : B ≤ W.heap.size
  map : IMap W M F.length f
  row : ∀ a v, f a = some v → a ∈ F ∧ 1 ≤ c a ∧ RRow l W B N a (c a) v
  apart : ∀ a a' v v', f a = some v → f a' = some v' → a ≠ a' → v.ownBlock ≠ v'.ownBlock
section
variable {l : List Stp} {F : List Int} {w W W' : World} {B M N : Nat} {f : Int → Option Value} {c c' : Int → Nat}
theorem RInv.go (h : RInv l F w B M N W f c) (x : Ext W W') : RInv l F w B M N W' f c :=
  ⟨h.ext.trans x, h.lo, h.mid, Nat.le_trans h.hi x.le, h.map.ext x, fun a v e => ⟨(h.row a v e).1, (h.row a v e).2.1, (h.row a v e).2.2.ext h.hi x⟩, h.apart⟩
theorem RInv.own {a : Int} {v : Value} (h : RInv l F w B M N W f c) (hv : f a = some v) : ∃ g cap, v = .slice (some ⟨g, 0, none⟩) (c a) cap ∧ B ≤ g ∧ g < W.heap.size ∧ v.ownBlock = some g := by
  obtain ⟨_, h1, h2⟩ := h.row a v hv
  obtain ⟨g, cap, rfl, h3, h4, _⟩ := h2.form h1
  exact ⟨g, cap, rfl, h3, h4, rfl⟩
/-- A row of one number is put in place of the one that was there: behind an append to that one (or beside it, where there was none). -/
theorem RInv.put {W2 W3 : World} {a : Int} {v' : Value} {row : Option Nat} (h : RInv l F w B M N W f c) (haF : a ∈ F) (hF : F.Pairwise (· < ·)) (hx : Ext W W2) (hg : W2.grownBy W3 row) (hrow : ∀ v, f a = some v → v.ownBlock = row) (hrow0 : f a = none → row = none)
    (hrowM : ∀ b es clock, W2.heap[b]? = some (.map es clock) → B ≤ b → some b ≠ row) (hrowB : ∀ k, row = some k → B ≤ k) (hat : v'.ownBlock = row ∨ ∃ b, v'.ownBlock = some b ∧ W.heap.size ≤ b) (hr : RRow l W3 B N a (c' a) v') (hc1 : 1 ≤ c' a) (hcc : ∀ x, x ≠ a → c' x = c x)
    {W4 : World} {m : Nat} (hm : IMap W4 M m (upd f a v')) (hg4 : W3.grownBy W4 (some M)) {ss : List Int} (hss : ss.Pairwise (· < ·)) (hsm : ∀ x, x ∈ ss ↔ (upd f a v' x).isSome = true) (hsF : ss.length ≤ F.length) (hv' : v'.ownBlock ≠ none) : RInv l F w B M N W4 (upd f a v') c' := by
  have hM4 : ∀ b es clock, W3.heap[b]? = some (.map es clock) → B ≤ b → some b ≠ some M := fun b es clock _ hb e => by injection e with e; have := h.mid; omega
  have hx3 : Ext w W3 := Ext.grown (h.ext.trans hx) hg (fun k hk => by have := hrowB k hk; have := h.lo; have := h.mid; omega)
  have hnew : ∀ x v, f x = some v → x ≠ a → v.ownBlock ≠ v'.ownBlock := fun x v hv hxa he => by
    obtain ⟨g, cap, _, g1, g2, g3⟩ := h.own hv
    rcases hat with hat | ⟨b, hb, hle⟩
    · cases hfa : f a with
      | none => rw [hrow0 hfa] at hat; exact hv' hat
      | some va => exact h.apart x a v va hv hfa hxa (by rw [he, hat, hrow va hfa])
    · rw [g3, hb] at he
      injection he with he
      omega
  refine ⟨Ext.grown hx3 hg4 (fun k hk => by injection hk with hk; have := h.lo; omega), h.lo, h.mid, Nat.le_trans h.hi (Nat.le_trans hx.le (Nat.le_trans hg.size hg4.size)), (hm.tight hss hsm).mono hsF, fun x v hv => ?_, fun x x' v u hv hu hne => ?_⟩
  · unfold upd at hv
    by_cases e : x = a
    · subst e
      rw [if_pos rfl] at hv
      injection hv with hv
      subst hv
      refine ⟨haF, hc1, hr.grown hg4 (.inr fun e => ?_) hM4⟩
      obtain ⟨bs, h1, h2, _⟩ := hr
      have := own_block h2 M e
      have := h.mid
      omega
    · rw [if_neg e] at hv
      obtain ⟨h1, h2, h3⟩ := h.row x v hv
      obtain ⟨g, cap, _, g1, g2, g3⟩ := h.own hv
      refine ⟨h1, by rw [hcc x e]; exact h2, ?_⟩
      rw [hcc x e]
      refine ((h3.ext h.hi hx).grown hg ?_ hrowM).grown hg4 (.inr fun e' => by rw [g3] at e'; injection e' with e'; have := h.mid; omega) hM4
      cases hfa : f a with
      | none => rw [hrow0 hfa, g3]; exact .inr (by simp)
      | some va => exact .inr (by rw [← hrow va hfa]; exact h.apart x a v va hv hfa e)
  · unfold upd at hv hu
    by_cases e : x = a
    · subst e
      rw [if_pos rfl] at hv
      rw [if_neg (Ne.symm hne)] at hu
      injection hv with hv
      subst hv
      exact (hnew x' u hu (Ne.symm hne)).symm
    · rw [if_neg e] at hv
      by_cases e' : x' = a
      · subst e'
        rw [if_pos rfl] at hu
        injection hu with hu
        subst hu
        exact hnew x v hv e
      · rw [if_neg e'] at hu
        exact h.apart x x' v u hv hu hne
end
end
end
end Go.Proofs.YtebjiimlcnmfpaaGreat

/-! The program's ring.Ring. -/
namespace Go.Proofs.YtebjiimlcnmfpaaGreat
section
section
open Go Go.RowKit Go.Proofs Go.Shelf Go.Maps
attribute [local go_sem] Ext.alloc Ext.alloc2 Ext.alloc3 Ext.alloc4 Ext.drewN_alloc Ext.drewN_alloc2 Ext.drew_alloc Ext.drew Ext.drewN toList_beq
attribute [-go_sem] Builtin.append_

abbrev fromsS (l : List Stp) : List Int := Rg.froms Stp.fr l
def FrRest (l : List Stp) (R : Option (Int × Nat)) (n : Nat) : Prop := Rg.ringGo Stp.fr Stp.to_ l (fromsS l) ((fromsS l).length - n) (n + 1) = R
theorem FrRest.hit {l : List Stp} {R : Option (Int × Nat)} {m : Nat} {a : Int} (h : FrRest l R m) (hm : m < (fromsS l).length) (hf : (fromsS l).find? (fun a => levS l a (m + 1) a) = some a) : R = some (a, m + 1) := by
  unfold FrRest at h
  obtain ⟨d, hd⟩ : ∃ d, (fromsS l).length - m = d + 1 := ⟨(fromsS l).length - m - 1, by omega⟩
  rw [hd, Rg.ringGo, show Rg.ringAt Stp.fr Stp.to_ l (fromsS l) (m + 1) = some a from hf] at h
  exact h.symm
theorem FrRest.done {l : List Stp} {R : Option (Int × Nat)} {m : Nat} (h : FrRest l R m) (hm : (fromsS l).length ≤ m) : R = none := by
  unfold FrRest at h
  rw [show (fromsS l).length - m = 0 by omega, Rg.ringGo] at h
  exact h.symm
end
end
end Go.Proofs.YtebjiimlcnmfpaaGreat
