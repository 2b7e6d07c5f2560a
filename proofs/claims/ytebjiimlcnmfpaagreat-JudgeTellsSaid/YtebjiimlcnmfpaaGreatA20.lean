/-
  The program's chapter 11: maps with numbers as keys, the closures, ring.back, ring.along, ring.Order, ring.Ring.
-/
import Derived.Maps.Own
import Derived.Maps.OwnOps
import Derived.Maps.OwnSet
import Derived.Lib.SlKeysI
import Derived.Maps.AppendAt
import Derived.WalkMore
import Derived.Test.YtebjiimlcnmfpaaGreatA1
import Derived.Test.YtebjiimlcnmfpaaGreatR1
import Derived.Test.YtebjiimlcnmfpaaGreatWWords
import Derived.Test.YtebjiimlcnmfpaaGreatLays
/-! Maps with numbers as keys, whatever their values; sets of numbers. -/
set_option linter.unusedVariables false
set_option linter.unusedSimpArgs false
namespace Go.Proofs.YtebjiimlcnmfpaaGreat
section
section
open Go Go.RowKit Go.Proofs Go.Shelf Go.Maps Go.Sort Go.ChangeMaps

theorem lawInt : Keyed Tryz.prog 3 := int_keyed Tryz.underlying3
def I64 (x : Int) : Prop := (Lit.int .i64 x).wf = true
theorem key_int {x : Int} (h : I64 x) : keyOf Tryz.prog 3 (.int .i64 x) = some (.int .i64 x) := keyOf_int_mk Tryz.underlying3 h
def RV (v : Value) : Option (DataW Value × List MemPlace) := some (.held v, [])

/-- Block b is a map from numbers, of at most n entries: f. -/
def IMap (W : World) (b n : Nat) (f : Int → Option Value) : Prop :=
  ∃ D : DataW Value, W.ownsMap Tryz.prog 3 RV b n D ∧ ∀ x, has D (.int .i64 x) = (f x).isSome ∧ ∀ z, D.atKey (.int .i64 x) (.held z) = .held ((f x).getD z)
section
variable {W W' : World} {b n : Nat} {f g : Int → Option Value} {T E : TypeId} {x : Int}
theorem IMap.made (w : World) : IMap (w.alloc (.map #[] 0)) w.heap.size 0 (fun _ => none) := ⟨.map [], World.ownsMap_made w _ _ _, fun _ => ⟨rfl, fun _ => rfl⟩⟩
theorem IMap.congr (h : IMap W b n f) (e : ∀ x, f x = g x) : IMap W b n g := by rw [show g = f from funext fun x => (e x).symm]; exact h
theorem IMap.mono (h : IMap W b n f) {m : Nat} (hm : n ≤ m) : IMap W b m f := by obtain ⟨D, h1, h2⟩ := h; exact ⟨D, h1.mono hm, h2⟩
theorem IMap.lt (h : IMap W b n f) : b < W.heap.size := by obtain ⟨D, h1, _⟩ := h; exact h1.lt
theorem IMap.kept {row : Option Nat} (h : IMap W b n f) (hg : W.grownBy W' row) (hne : some b ≠ row) : IMap W' b n f := by obtain ⟨D, h1, h2⟩ := h; exact ⟨D, h1.kept hg hne, h2⟩
theorem IMap.ext (h : IMap W b n f) (x : Ext W W') : IMap W' b n f := by
  obtain ⟨D, ⟨es, clock, hb, r⟩, h2⟩ := h
  exact ⟨D, ⟨es, clock, x.block hb, r⟩, h2⟩
theorem IMap.isMap (h : IMap W b n f) : ∃ es clock, W.heap[b]? = some (.map es clock) := by
  obtain ⟨D, ⟨es, clock, hb, _⟩, _⟩ := h
  exact ⟨es, clock, hb⟩
/-- A map's block is no row's. -/
theorem IMap.ne_row {base : Nat} {e : TypeId} {sz m : Nat} {v : Value} {xs : List Value} (h : IMap W b n f) (ho : W.ownsRow base e sz v m xs) : some b ≠ v.ownBlock := fun he => by
  obtain ⟨es, clock, hb⟩ := h.isMap
  obtain ⟨cells, hc⟩ := YtebjiimlcnmfpaaGreatW.PrintWords.own_typed ho b he.symm
  rw [hc] at hb
  cases hb
theorem atHeld {D : DataW Value} {v : Value} {ps : List MemPlace} {u : Value} (h : RV v = some (D, ps)) (e : D = .held u) : v = u := by
  subst e
  unfold RV at h
  simp only [Option.some.injEq, Prod.mk.injEq, DataW.held.injEq] at h
  exact h.1
theorem IMap.look (h : IMap W b n f) (ht : Tryz.prog.underlying T = some (.map 3 E)) {z : Value} (hz : (zeroValue E).run Tryz.prog W = .ok z W) (hx : I64 x) : (Instr.lookup T (.map (some b)) (.int .i64 x) false).run Tryz.prog W = .ok ((f x).getD z) W := by
  obtain ⟨D, h1, h2⟩ := h
  obtain ⟨v, ps, hr, hv⟩ := h1.lookup lawInt ht hz (zd := .held z) (zp := []) rfl (key_int hx)
  rw [hr, atHeld hv ((h2 x).2 z)]
def upd (f : Int → Option Value) (x : Int) (v : Value) : Int → Option Value := fun y => if y = x then some v else f y
def dele (f : Int → Option Value) (x : Int) : Int → Option Value := fun y => if y = x then none else f y
theorem IMap.put (h : IMap W b n f) (ht : Tryz.prog.underlying T = some (.map 3 E)) (hn : n < maxLen) (hx : I64 x) (v : Value) : ∃ W', (Instr.mapUpdate T (.map (some b)) (.int .i64 x) v).run Tryz.prog W = .ok () W' ∧ IMap W' b (n + 1) (upd f x v) ∧ W.grownBy W' (some b) := by
  obtain ⟨D, h1, h2⟩ := h
  obtain ⟨W', hr, ho, hg⟩ := h1.update lawInt ht hn (key_int hx) (d := .held v) (ps := []) (val := v) rfl
  refine ⟨W', hr, ⟨_, ho, fun y => ?_⟩, hg⟩
  by_cases e : y = x
  · subst e
    exact ⟨by rw [has_put_same h1.isMap (by trivial)]; simp [upd], fun z => by rw [atKey_put_same h1.isMap (by trivial)]; simp [upd]⟩
  · exact ⟨by rw [has_put_other (by simpa using e), (h2 y).1]; simp [upd, e], fun z => by rw [atKey_put_other (by simpa using e), (h2 y).2]; simp [upd, e]⟩
theorem IMap.del (h : IMap W b n f) (ht : Tryz.prog.underlying T = some (.map 3 E)) (hx : I64 x) (ty : TypeId) : ∃ W', (Builtin.delete_ #[T, 3] ty #[.map (some b), .int .i64 x]).run Tryz.prog W = .ok (.tuple #[]) W' ∧ IMap W' b n (dele f x) ∧ W.grownBy W' (some b) := by
  obtain ⟨D, h1, h2⟩ := h
  obtain ⟨W', hr, ho, hg⟩ := h1.drop lawInt ht (key_int hx) ty
  refine ⟨W', hr, ⟨_, ho, fun y => ?_⟩, hg.grown⟩
  by_cases e : y = x
  · subst e
    exact ⟨by rw [has_del_same]; simp [dele], fun z => by rw [atKey_del_same]; simp [dele]⟩
  · exact ⟨by rw [has_del_other (by simpa using e), (h2 y).1]; simp [dele, e], fun z => by rw [atKey_del_other (by simpa using e), (h2 y).2]; simp [dele, e]⟩
end

theorem intKeys_spec {H : Type} {k : TypeId} {R : Value → Option (DataW H × List MemPlace)} {w : World} {b n : Nat} {D : DataW H} (h : w.ownsMap Tryz.prog k R b n D) (K : Keyed Tryz.prog k) (hk : Tryz.prog.underlying k = some (.int .i64)) :
    (intKeys D).Nodup ∧ (∀ x, x ∈ intKeys D ↔ has D (.int .i64 x) = true) ∧ (intKeys D).length = Maps.size D := by
  obtain ⟨es, hD, hpw, _⟩ := h.entries K
  obtain ⟨es', hD', hko⟩ := h.keysOf
  obtain rfl : es = es' := by rw [hD] at hD'; simpa using hD'
  subst hD
  have hks : ∀ p ∈ es, ∃ x, p.1 = .int .i64 x := fun p hp => by obtain ⟨v, hv⟩ := hko p hp; obtain ⟨x, _, hx, _⟩ := Maps.keyOf_i64 hk hv; exact ⟨x, hx⟩
  have hm : ∀ (es : List (Lit × DataW H)), (∀ p ∈ es, ∃ x, p.1 = .int .i64 x) → es.Pairwise (fun p q => p.1 ≠ q.1) → (intKeys (.map es)).Nodup ∧ (∀ x, x ∈ intKeys (.map es) ↔ has (.map es) (.int .i64 x) = true) ∧ (intKeys (.map es)).length = es.length := by
    intro es
    induction es with
    | nil => intro _ _; exact ⟨by simp [intKeys], fun x => by simp [intKeys, has], by simp [intKeys]⟩
    | cons p r ih =>
      intro h1 h2
      obtain ⟨a, ha⟩ := h1 p (by simp)
      have h2' := List.pairwise_cons.1 h2
      obtain ⟨i1, i2, i3⟩ := ih (fun q hq => h1 q (by simp [hq])) h2'.2
      obtain ⟨p1, p2⟩ := p
      simp only at ha
      subst ha
      have e : intKeys (.map ((Lit.int .i64 a, p2) :: r)) = a :: intKeys (.map r) := rfl
      rw [e]
      refine ⟨List.nodup_cons.2 ⟨fun hin => ?_, i1⟩, fun x => ?_, by simp [i3]⟩
      · have h3 := (i2 a).1 hin
        rw [has_eq, List.any_eq_true] at h3
        obtain ⟨q, hq, hs⟩ := h3
        obtain ⟨c, hc⟩ := h1 q (by simp [hq])
        have hne := h2'.1 q hq
        rw [hc] at hs hne
        simp [Lit.sameKey] at hs
        exact hne (by rw [hs])
      · have h4 := i2 x
        rw [has_eq] at h4 ⊢
        rw [List.mem_cons, h4, List.any_cons]
        simp only [Lit.sameKey, Bool.or_eq_true]
        constructor
        · rintro (h | h)
          · subst h; simp
          · exact .inr h
        · rintro (h | h)
          · exact .inl (by simpa [eq_comm] using h)
          · exact .inr h
  exact hm es hks hpw
theorem IMap.len {W : World} {b n : Nat} {f : Int → Option Value} {T E : TypeId} (h : IMap W b n f) (ht : Tryz.prog.underlying T = some (.map 3 E)) (ty : TypeId) {ss : List Int} (hs : ss.Pairwise (· < ·)) (hm : ∀ x, x ∈ ss ↔ (f x).isSome = true) :
    (Builtin.len_ #[T] ty #[.map (some b)]).run Tryz.prog W = .ok (.int .i64 ss.length) W ∧ ss.length ≤ n := by
  obtain ⟨D, h1, h2⟩ := h
  obtain ⟨i1, i2, i3⟩ := intKeys_spec h1 lawInt Tryz.underlying3
  have hp : ss.Perm (intKeys D) := (List.perm_ext_iff_of_nodup (Rg.rising_nodup hs) i1).2 fun x => by rw [hm x, i2 x, (h2 x).1]
  have e : Maps.size D = ss.length := by rw [← i3, hp.length_eq]
  have hz := h1.size_le
  rw [h1.len ht ty, e]
  exact ⟨rfl, by omega⟩
theorem IMap.wf {W : World} {b n : Nat} {f : Int → Option Value} (h : IMap W b n f) {x : Int} (hx : (f x).isSome = true) : I64 x := by
  obtain ⟨D, h1, h2⟩ := h
  obtain ⟨i1, i2, i3⟩ := intKeys_spec h1 lawInt Tryz.underlying3
  exact intKeys_wf h1 Tryz.underlying3 x ((i2 x).2 (by rw [(h2 x).1]; exact hx))

/-! ### sets -/
def setF (s : Int → Bool) : Int → Option Value := fun x => if s x = true then some (.bool true) else none
theorem setF_isSome (s : Int → Bool) (x : Int) : (setF s x).isSome = s x := by unfold setF; cases s x <;> simp
theorem setF_get (s : Int → Bool) (x : Int) : (setF s x).getD (.bool false) = .bool (s x) := by unfold setF; cases s x <;> simp
theorem setF_upd (s : Int → Bool) (x y : Int) : upd (setF s) x (.bool true) y = setF (fun y => decide (y = x) || s y) y := by unfold upd setF; by_cases h : y = x <;> simp [h]
theorem setF_dele (s : Int → Bool) (x y : Int) : dele (setF s) x y = setF (fun y => !decide (y = x) && s y) y := by unfold dele setF; by_cases h : y = x <;> simp [h]
abbrev ISet (W : World) (b n : Nat) (s : Int → Bool) : Prop := IMap W b n (setF s)
theorem ISet.made (w : World) : ISet (w.alloc (.map #[] 0)) w.heap.size 0 (fun _ => false) := (IMap.made w).congr fun _ => rfl
theorem ISet.same {W : World} {b n : Nat} {s t : Int → Bool} (h : ISet W b n s) (e : ∀ x, s x = t x) : ISet W b n t := h.congr fun x => by unfold setF; rw [e x]

end
end
end Go.Proofs.YtebjiimlcnmfpaaGreat

/-! Steps as they lie in memory (what leads to their edges is left as it is); slices.IndexFunc and slices.ContainsFunc at them, for whatever function value. -/
namespace Go.Proofs.YtebjiimlcnmfpaaGreat
section
section
open Go Go.RowKit Go.Proofs Go.Shelf
set_option linter.unusedSimpArgs false
set_option linter.unusedVariables false
attribute [local go_sem] Ext.alloc Ext.alloc2 Ext.alloc3 Ext.alloc4 Ext.drewN_alloc Ext.drewN_alloc2 Ext.drew_alloc Ext.drew Ext.drewN toList_beq

/-- A step: whence, whither, the slice of its edges as a value. -/
structure Stp where
  fr : Int
  to_ : Int
  ad : Option Addr
  len : Nat
  cap : Nat
def Stp.z : Stp := ⟨0, 0, none, 0, 0⟩
def Stp.cs (x : Stp) : List Value := [.int .i64 x.fr, .int .i64 x.to_, .slice x.ad x.len x.cap]
def kStp : Kd Stp := Kd.flat 3 Stp.z Stp.cs (fun _ => rfl)
def snth (l : List Stp) (i : Nat) : Stp := l.getD i Stp.z
abbrev Stps (w : World) (A : Option Addr) (n : Nat) (l : List Stp) : Prop := Sl kStp w A n l
theorem Stps.opn {w : World} {A : Option Addr} {n : Nat} {l : List Stp} (h : Stps w A n l) (hn : 0 < n) : ∃ b o, A = some ⟨b, o, none⟩ ∧
    (∀ W i, Ext w W → i < n → W.cell? ⟨b, o + i * 3, none⟩ = some (.int .i64 (snth l i).fr)) ∧
    (∀ W i, Ext w W → i < n → W.cell? ⟨b, o + i * 3 + 1, none⟩ = some (.int .i64 (snth l i).to_)) ∧
    (∀ W i, Ext w W → i < n → W.cell? ⟨b, o + i * 3 + 2, none⟩ = some (.slice (snth l i).ad (snth l i).len (snth l i).cap)) := by
  obtain ⟨b, o, e, hg⟩ := h.get hn
  have hh : ∀ W i j u, Ext w W → i < n → (snth l i).cs[j]? = some u → W.cell? ⟨b, o + i * 3 + j, none⟩ = some u := fun W i j u hx hi hu => by
    obtain ⟨cs, hR, hc⟩ := hg i hi
    have hcs : cs = (snth l i).cs := hR
    exact hx.cell (hc j u (by rw [hcs]; exact hu))
  exact ⟨b, o, e, fun W i hx hi => hh W i 0 _ hx hi rfl, fun W i hx hi => hh W i 1 _ hx hi rfl, fun W i hx hi => hh W i 2 _ hx hi rfl⟩
theorem snth_mem {l : List Stp} {i : Nat} (h : i < l.length) : snth l i ∈ l := by
  unfold snth
  rw [List.getD_eq_getElem?_getD, List.getElem?_eq_getElem h]
  exact List.getElem_mem _

set_option maxHeartbeats 1000000 in
theorem idxStp (g : Nat) (caps : Array Value) (p : Stp → Bool) (w : World) (A : Option Addr) (n cap : Nat) (l : List Stp) (hE : Stps w A n l)
    (eg : ∀ args w, (callFunc g args).run Tryz.prog w = .ok (.enter g args) w)
    (hg : ∀ (W : World) (x : Stp), x ∈ l → Ext w W → Calls Tryz.prog g (#[.agg #[.int .i64 x.fr, .int .i64 x.to_, .slice x.ad x.len x.cap]] ++ caps) W fun e w' => e = .returned (.bool (p x)) ∧ Ext W w') :
    Calls Tryz.prog 111 #[.slice A n cap, .func (.func g) #[] caps] w fun e w' => e = .returned (.int .i64 (idx p l 0)) ∧ Ext w w' := by
  have hX := Ext.refl w
  have hl := hid (Sl.len hE)
  have hbig := hE.big
  have HG := hid hg
  clear hg
  go_enter Tryz.func111, Tryz.ntmps111
  go_wp2
  go_loopw [8] (fun i W => Ext w W ∧ ∃ k : Nat, k ≤ n ∧ i = .int .i64 k ∧ Hid (idx p (l.drop k) k = idx p l 0)) (fun i _ => n - (RowKit.intOf i).toNat)
  case atStart => exact ⟨hX, 0, by omega, rfl, hid rfl⟩
  case round =>
    obtain ⟨hW, k, hk1, rfl, hr⟩ := hrel
    by_cases hlt : k < n
    · obtain ⟨b, o, rfl, h0, h1, h2⟩ := hE.opn (by omega)
      have hs := hid (drop_step l Stp.z (k := k) (by rw [hl.out]; omega))
      have hmem := hid (snth_mem (l := l) (i := k) (by rw [hl.out]; exact hlt))
      go_wp2
      refine (HG.out _ (snth l k) hmem.out hW).mono ?_
      rintro e w1 ⟨rfl, hx1⟩
      cases hp : p (snth l k)
      · have hp' := hid hp; clear hp
        go_wp2
        go_roundw
        case rel => exact ⟨hW.trans hx1, k + 1, by omega, by go_num, hid (by rw [← hr.out, hs.out, idx_cons]; exact (if_neg (by rw [show l.getD k Stp.z = snth l k from rfl, hp'.out]; simp)).symm)⟩
        case measure => simp [RowKit.intOf]; omega
      · have hp' := hid hp; clear hp
        go_wp2
        go_ret
        refine ⟨ret_int ?_, hW.trans hx1⟩
        rw [← hr.out, hs.out, idx_cons]
        exact (if_pos hp'.out).symm
    · go_wp2
      go_ret
      refine ⟨ret_int ?_, hW⟩
      rw [← hr.out, drop_end _ (by rw [hl.out]; omega)]
      rfl

theorem containsStp (g : Nat) (caps : Array Value) (p : Stp → Bool) (w : World) (A : Option Addr) (n cap : Nat) (l : List Stp) (hE : Stps w A n l)
    (eg : ∀ args w, (callFunc g args).run Tryz.prog w = .ok (.enter g args) w)
    (hg : ∀ (W : World) (x : Stp), x ∈ l → Ext w W → Calls Tryz.prog g (#[.agg #[.int .i64 x.fr, .int .i64 x.to_, .slice x.ad x.len x.cap]] ++ caps) W fun e w' => e = .returned (.bool (p x)) ∧ Ext W w') :
    Calls Tryz.prog 78 #[.slice A n cap, .func (.func g) #[] caps] w fun e w' => e = .returned (.bool (l.any p)) ∧ Ext w w' := by
  have hX := Ext.refl w
  have HI := hid (idxStp g caps p w A n cap l hE eg hg)
  have hv : Hid (decide (0 ≤ idx p l 0) = l.any p) := hid (by
    rcases idx_spec p l 0 with ⟨h, h2⟩ | ⟨k, hk, h, h2, _⟩
    · rw [show idx p l 0 = -1 from h, show decide (0 ≤ (-1 : Int)) = false by decide]
      symm; rw [List.any_eq_false]; intro x hx; rw [h2 x hx]; simp
    · rw [show idx p l 0 = ((0 + k : Nat) : Int) from h]
      symm; rw [show decide (0 ≤ ((0 + k : Nat) : Int)) = true by simp, List.any_eq_true]
      exact ⟨l[k], List.getElem_mem hk, h2⟩)
  clear hg eg
  go_enter Tryz.func78, Tryz.ntmps78
  go_wp2_with (go_at_call 111; refine HI.out.mono ?_; rintro e w1 ⟨rfl, hx1⟩)
  rw [hv.out]
  go_ret
  exact ⟨rfl, hx1⟩
end
end
end Go.Proofs.YtebjiimlcnmfpaaGreat

/-! Maps with numbers as keys at the operations of a walk; ring's closures, ring.back, ring.along. -/
namespace Go.Proofs.YtebjiimlcnmfpaaGreat
section
section
open Go Go.RowKit Go.Proofs Go.Shelf Go.Maps

section
variable {W : World} {ops : Array Oper} {rest : List Oper} {o : Oper} {a : Act} {Q : Exit → Act → World → Prop} {b n : Nat} {f : Int → Option Value} {s : Int → Bool} {T E : TypeId} {z : Value}
theorem wp_look (hg : o.guard = none) (m x : Operand) (T E : TypeId) (hop : o.op = Op.lookup T m x false) (ht : Tryz.prog.underlying T = some (.map 3 E)) (hz : (zeroValue E).run Tryz.prog W = .ok z W) (hm : a.eval m = .map (some b)) (h : IMap W b n f)
    (y : Int) (hx : a.eval x = .int .i64 y) (hy : I64 y) (v : Value) (hv : (f y).getD z = v) (hK : wpList Tryz.prog ops Q rest (a.put o.dst v) W) : wpList Tryz.prog ops Q (o :: rest) a W := by
  refine wpList_plain hg fun K' hK' => ?_
  have hrun := h.look ht hz hy
  unfold Oper.wp
  simp [execOp, hop, hm, hx, hrun, Result.andThen]
  rw [hv]
  exact hK' _ _ hK
theorem wp_put (hg : o.guard = none) (m x v : Operand) (T E : TypeId) (hop : o.op = Op.mapUpdate T m x v) (ht : Tryz.prog.underlying T = some (.map 3 E)) (hm : a.eval m = .map (some b)) (h : IMap W b n f) (hn : n < maxLen)
    (y : Int) (u : Value) (hx : a.eval x = .int .i64 y) (hv : a.eval v = u) (hy : I64 y) (hK : ∀ w', IMap w' b (n + 1) (upd f y u) → W.grownBy w' (some b) → wpList Tryz.prog ops Q rest (a.put o.dst undef) w') : wpList Tryz.prog ops Q (o :: rest) a W := by
  refine wpList_plain hg fun K' hK' => ?_
  obtain ⟨w', hrun, h1, h2⟩ := h.put ht hn hy u
  unfold Oper.wp
  simp [execOp, hop, hm, hx, hv, hrun, Result.andThen]
  exact hK' _ _ (hK w' h1 h2)
theorem wp_ins (hg : o.guard = none) (m x v : Operand) (T E : TypeId) (hop : o.op = Op.insert T m x v) (ht : Tryz.prog.underlying T = some (.map 3 E)) (hm : a.eval m = .map (some b)) (h : IMap W b n f) (hn : n < maxLen)
    (y : Int) (u : Value) (hx : a.eval x = .int .i64 y) (hv : a.eval v = u) (hy : I64 y) (hK : ∀ w', IMap w' b (n + 1) (upd f y u) → W.grownBy w' (some b) → wpList Tryz.prog ops Q rest (a.put o.dst undef) w') : wpList Tryz.prog ops Q (o :: rest) a W := by
  refine wpList_plain hg fun K' hK' => ?_
  obtain ⟨w', hrun, h1, h2⟩ := h.put ht hn hy u
  unfold Oper.wp
  simp [execOp, hop, hm, hx, hv, hrun, Result.andThen]
  exact hK' _ _ (hK w' h1 h2)
theorem wp_del (hg : o.guard = none) (m x : Operand) (T E : TypeId) (hop : o.op = Op.call { callee := Callee.builtin Builtin.delete, args := #[m, x], argTypes := #[T, 3] }) (ht : Tryz.prog.underlying T = some (.map 3 E)) (hm : a.eval m = .map (some b)) (h : IMap W b n f)
    (y : Int) (hx : a.eval x = .int .i64 y) (hy : I64 y) (hK : ∀ w', IMap w' b n (dele f y) → W.grownBy w' (some b) → wpList Tryz.prog ops Q rest (a.put o.dst (.tuple #[])) w') : wpList Tryz.prog ops Q (o :: rest) a W := by
  refine wpList_plain hg fun K' hK' => ?_
  obtain ⟨w', hrun, h1, h2⟩ := h.del ht hy o.type
  unfold Oper.wp
  simp [execOp, hop, resolve, invoke, builtin, hm, hx, hrun, Result.andThen]
  exact hK' _ _ (hK w' h1 h2)
theorem wp_len (hg : o.guard = none) (m : Operand) (T E : TypeId) (hop : o.op = Op.call { callee := Callee.builtin Builtin.len, args := #[m], argTypes := #[T] }) (ht : Tryz.prog.underlying T = some (.map 3 E)) (hm : a.eval m = .map (some b)) (h : IMap W b n f)
    {ss : List Int} (hs : ss.Pairwise (· < ·)) (hss : ∀ x, x ∈ ss ↔ (f x).isSome = true) (hK : ss.length ≤ n → wpList Tryz.prog ops Q rest (a.put o.dst (.int .i64 ss.length)) W) : wpList Tryz.prog ops Q (o :: rest) a W := by
  refine wpList_plain hg fun K' hK' => ?_
  obtain ⟨hrun, hle⟩ := h.len ht o.type hs hss
  unfold Oper.wp
  simp [execOp, hop, resolve, invoke, builtin, hm, hrun, Result.andThen]
  exact hK' _ _ (hK hle)
end

attribute [local go_sem] Ext.alloc Ext.alloc2 Ext.alloc3 Ext.alloc4 Ext.drewN_alloc Ext.drewN_alloc2 Ext.drew_alloc Ext.drew Ext.drewN toList_beq

theorem own_cell {w : World} {base bo : Nat} {e : TypeId} {sz : Nat} {v : Value} {n : Nat} {xs : List Value} (h : w.ownsRow base e sz v n xs) (hb : bo < base) (j : Nat) (u : Value) : (w.setCell ⟨bo, j, none⟩ u).ownsRow base e sz v n xs :=
  YtebjiimlcnmfpaaGreatW.PrintWords.own_move h fun k hk => Below.heap_setCell w ⟨bo, j, none⟩ u k (fun e => by have := own_block h k hk; simp at e; omega)
theorem blk_ne_row {w : World} {g : Nat} {t e : TypeId} {cs : Array Value} {base : Nat} {sz : Nat} {u : Value} {n : Nat} {xs : List Value} (hb : Blk w g t cs) (hu : w.ownsRow base e sz u n xs) (hne : t ≠ e) : some g ≠ u.ownBlock := fun he => by
  obtain ⟨cells, hc⟩ := YtebjiimlcnmfpaaGreatW.PrintWords.own_typed hu g he.symm
  have hb' : w.heap[g]? = some (.cells cs t (0, 0)) := hb
  rw [hc] at hb'
  injection hb' with hb'
  injection hb' with _ ht
  exact hne ht.symm
/-- A set that is only read, as the walk's simp takes it. -/
theorem ISet.reads {w : World} {b n : Nat} {s : Int → Bool} (h : ISet w b n s) : ∀ (W : World) (y : Int), Ext w W → I64 y → (Instr.lookup 125 (.map (some b)) (.int .i64 y) false).run Tryz.prog W = .ok (.bool (s y)) W := fun W y hx hy => by
  rw [IMap.look (h.ext hx) Tryz.underlying125 (Tryz.zeroValue4 W) hy, setF_get]

set_option maxHeartbeats 1000000 in
theorem r_held0 (W : World) (x : Stp) (bn bl b nn : Nat) (n : Int) (s : Int → Bool) (hx : I64 x.fr) (hn : ∀ V, Ext W V → V.cell? ⟨bn, 0, none⟩ = some (.int .i64 n)) (hl : ∀ V, Ext W V → V.cell? ⟨bl, 0, none⟩ = some (.map (some b))) (hS : ISet W b nn s) :
    Calls Tryz.prog 104 #[.agg #[.int .i64 x.fr, .int .i64 x.to_, .slice x.ad x.len x.cap], .pointer (some ⟨bn, 0, none⟩), .pointer (some ⟨bl, 0, none⟩)] W fun e w' => e = .returned (.bool (decide (x.to_ = n) && s x.fr)) ∧ Ext W w' := by
  have hX := Ext.refl W
  have hlk := hS.reads
  clear hS
  by_cases ht : x.to_ = n
  · have ht1 : (x.to_ == n) = true := beq_iff_eq.2 ht
    have hd : Hid (decide (x.to_ = n) = true) := hid (decide_eq_true ht)
    clear ht
    go_enter Tryz.func104, Tryz.ntmps104
    go_wp2
    go_ret
    exact ⟨ret_bool (by rw [hd.out]; simp), (by repeat (first | assumption | apply Ext.alloc | apply Ext.drewN | apply Ext.drew | (refine Ext.setCell (by simp <;> omega) ?_ _)))⟩
  · have ht1 : (x.to_ == n) = false := beq_eq_false_iff_ne.2 ht
    have hd : Hid (decide (x.to_ = n) = false) := hid (decide_eq_false ht)
    clear ht
    go_enter Tryz.func104, Tryz.ntmps104
    go_wp2
    go_ret
    exact ⟨ret_bool (by rw [hd.out]; simp), (by repeat (first | assumption | apply Ext.alloc | apply Ext.drewN | apply Ext.drew | (refine Ext.setCell (by simp <;> omega) ?_ _)))⟩

/-- Is a number led to from one that is left? -/
def heldB (l : List Stp) (s : Int → Bool) (n : Int) : Bool := l.any fun x => decide (x.to_ = n) && s x.fr
set_option maxHeartbeats 1000000 in
theorem r_held (W : World) (A : Option Addr) (N cap : Nat) (l : List Stp) (bh bl b nn : Nat) (n : Int) (s : Int → Bool) (hE : Stps W A N l) (hI : ∀ x ∈ l, I64 x.fr) (hh : W.cell? ⟨bh, 0, none⟩ = some (.slice A N cap)) (hl : W.cell? ⟨bl, 0, none⟩ = some (.map (some b))) (hS : ISet W b nn s) :
    Calls Tryz.prog 103 #[.int .i64 n, .pointer (some ⟨bh, 0, none⟩), .pointer (some ⟨bl, 0, none⟩)] W fun e w' => e = .returned (.bool (heldB l s n)) ∧ Ext W w' := by
  have hX := Ext.refl W
  have HE := hid hE
  have HS := hid hS
  have HI := hid hI
  have hlt : bh < W.heap.size := by
    rcases Nat.lt_or_ge bh W.heap.size with h | h
    · exact h
    · simp [World.cell?, Array.getElem?_eq_none h] at hh
  have hlt2 : bl < W.heap.size := by
    rcases Nat.lt_or_ge bl W.heap.size with h | h
    · exact h
    · simp [World.cell?, Array.getElem?_eq_none h] at hl
  clear hE hS hI
  go_enter Tryz.func103, Tryz.ntmps103
  go_wp2_with (go_at_call 78; refine (containsStp 104 #[.pointer (some ⟨W.heap.size, 0, none⟩), .pointer (some ⟨bl, 0, none⟩)] (fun x => decide (x.to_ = n) && s x.fr) _ A N cap l (HE.out.ext (hX.alloc _)) (enters_of Tryz.func104 (by kernel_rfl) rfl) (fun V x hx hV => r_held0 V x W.heap.size bl b nn n s (HI.out x hx) (fun U hU => (hV.trans hU).cell (Blk.new W 3 #[.int .i64 n]).cell0) (fun U hU => ((hX.alloc _).trans (hV.trans hU)).cell hl) (HS.out.ext ((hX.alloc _).trans hV)))).mono ?_; rintro e w1 ⟨rfl, hx1⟩)
  go_ret
  exact ⟨rfl, (hX.alloc _).trans hx1⟩

def backB (l : List Stp) (s : Int → Bool) (x : Int) : Bool := l.any fun y => decide (y.fr = x) && s y.to_
theorem backB_step (l : List Stp) (s : Int → Bool) {k : Nat} (h : k < l.length) (x : Int) : backB (l.take (k + 1)) s x = (backB (l.take k) s x || (decide ((snth l k).fr = x) && s (snth l k).to_)) := by
  unfold backB
  rw [List.take_succ_eq_append_getElem h, List.any_append]
  simp [snth, List.getD_eq_getElem?_getD, List.getElem?_eq_getElem h]
set_option maxRecDepth 100000 in
set_option maxHeartbeats 2000000 in
theorem r_back (w : World) (A : Option Addr) (n cap : Nat) (l : List Stp) (b nn : Nat) (s : Int → Bool) (hE : Stps w A n l) (hI : ∀ x ∈ l, I64 x.fr ∧ I64 x.to_) (hS : ISet w b nn s) :
    Calls Tryz.prog 106 #[.slice A n cap, .map (some b)] w fun e w' => ∃ g, e = .returned (.map (some g)) ∧ ISet w' g n (backB l s) ∧ w.heap.size ≤ g ∧ Ext w w' := by
  have hX := Ext.refl w
  have hbig := hE.big
  have hl := hid (Sl.len hE)
  have HE := hid hE
  have HI := hid hI
  have hlk := hS.reads
  have hmm := @run_makeMap Tryz.prog
  clear hE hI hS
  go_enter Tryz.func106, Tryz.ntmps106
  go_wp2
  have hmade := ISet.made w
  go_loopw [11] (fun i W => Ext w W ∧ ∃ k : Nat, k ≤ n ∧ i = .int .i64 k ∧ ISet W w.heap.size k (backB (l.take k) s)) (fun i _ => n - (RowKit.intOf i).toNat)
  case atStart => exact ⟨hX.alloc _, 0, by omega, rfl, hmade.same fun x => by simp [backB]⟩
  case round =>
    obtain ⟨hW, k, hk1, rfl, hr⟩ := hrel
    by_cases hlt : k < n
    · obtain ⟨bb, o, rfl, h0, h1, h2⟩ := HE.out.opn (by omega)
      have hmem := hid (HI.out _ (snth_mem (l := l) (i := k) (by rw [hl.out]; exact hlt)))
      have hst := hid (fun x => backB_step l s (k := k) (by rw [hl.out]; exact hlt) x)
      have hi2 := hmem.out.2
      cases hp : s (snth l k).to_
      · have hnew : Hid (ISet (wr.alloc (.cells #[.int .i64 (snth l k).fr, .int .i64 (snth l k).to_, .slice (snth l k).ad (snth l k).len (snth l k).cap] 80)) w.heap.size (k + 1) (backB (l.take (k + 1)) s)) := hid (((hr.ext ((Ext.refl wr).alloc _)).mono (by omega)).congr (fun x => by unfold setF; rw [hst.out x, hp]; simp))
        go_wp2
        go_roundw
        case rel => exact ⟨hW.alloc _, k + 1, by omega, by go_num, hnew.out⟩
        case measure => simp [RowKit.intOf]; omega
      · have hr1 := hid (hr.ext ((Ext.refl wr).alloc (.cells #[.int .i64 (snth l k).fr, .int .i64 (snth l k).to_, .slice (snth l k).ad (snth l k).len (snth l k).cap] 80)))
        have hp' := hid hp
        go_wp2_with (at_mapUpdate; refine wp_put rfl _ _ _ 125 4 rfl Tryz.underlying125 rfl hr1.out (by unfold maxLen; omega) (snth l k).fr (.bool true) rfl rfl hmem.out.1 ?_; intro w1 hown1 hgrow1)
        have hnew : Hid (ISet w1 w.heap.size (k + 1) (backB (l.take (k + 1)) s)) := hid (hown1.congr (fun x => by rw [setF_upd]; unfold setF; rw [hst.out x, hp'.out, Bool.and_true, Bool.or_comm, show decide ((snth l k).fr = x) = decide (x = (snth l k).fr) from decide_eq_decide.2 eq_comm]))
        go_wp2
        go_roundw
        case rel => exact ⟨Ext.grown (hW.alloc _) hgrow1 (fun j e => by cases e; exact Nat.le_refl _), k + 1, by omega, by go_num, hnew.out⟩
        case measure => simp [RowKit.intOf]; omega
    · have hkn : Hid (l.take k = l) := hid (List.take_of_length_le (by rw [hl.out]; omega))
      go_wp2
      go_ret
      exact ⟨_, rfl, by rw [hkn.out] at hr; exact hr.mono (by omega), Nat.le_refl _, hW⟩
end
end
end Go.Proofs.YtebjiimlcnmfpaaGreat

/-! The program's ring.along. -/
namespace Go.Proofs.YtebjiimlcnmfpaaGreat
section
section
open Go Go.RowKit Go.Proofs Go.Shelf Go.Maps
attribute [local go_sem] Ext.alloc Ext.alloc2 Ext.alloc3 Ext.alloc4 Ext.drewN_alloc Ext.drewN_alloc2 Ext.drew_alloc Ext.drew Ext.drewN toList_beq

theorem find_idx {p : Stp → Bool} {l : List Stp} {s : Stp} (h : l.find? p = some s) : ∃ q : Nat, q < l.length ∧ idx p l 0 = q ∧ snth l q = s := by
  rcases idx_spec p l 0 with ⟨_, h2⟩ | ⟨k, hk, e, h2, h3⟩
  · obtain ⟨h4, h5⟩ := Rg.find_spec h
    rw [h2 s h4] at h5; cases h5
  · refine ⟨k, hk, by simpa using e, ?_⟩
    have hs : snth l k = l[k] := by simp [snth, List.getD_eq_getElem?_getD, hk]
    rw [hs]
    have : l.find? p = some l[k] := by
      rw [List.find?_eq_some_iff_append]
      refine ⟨h2, l.take k, l.drop (k + 1), by simp, fun x hx => ?_⟩
      obtain ⟨j, hj, rfl⟩ := List.getElem_of_mem hx
      rw [List.getElem_take, h3 j (by simp at hj; omega)]
      rfl
    rw [this] at h
    injection h

abbrev levS (l : List Stp) (t : Int) (n : Nat) (x : Int) : Bool := Rg.lev Stp.fr Stp.to_ l t n x
abbrev alongS (l : List Stp) (t : Int) (m : Nat) (x : Int) : List Stp := Rg.along Stp.fr Stp.to_ l t m x

set_option maxHeartbeats 1000000 in
theorem r_along1 (W : World) (x : Stp) (ba br bk g o mr cr k b nn : Nat) (a : Int) (s : Int → Bool) (hx : I64 x.to_) (ha : ∀ V, Ext W V → V.cell? ⟨ba, 0, none⟩ = some (.int .i64 a)) (hr : ∀ V, Ext W V → V.cell? ⟨br, 0, none⟩ = some (.slice (some ⟨g, o, none⟩) mr cr))
    (hk : ∀ V, Ext W V → V.cell? ⟨bk, 0, none⟩ = some (.int .i64 (k : Int))) (hkm : k < mr) (hmr : mr ≤ 140737488351232) (hc : ∀ V, Ext W V → V.cell? ⟨g, o + k, none⟩ = some (.map (some b))) (hS : ISet W b nn s) :
    Calls Tryz.prog 146 #[.agg #[.int .i64 x.fr, .int .i64 x.to_, .slice x.ad x.len x.cap], .pointer (some ⟨ba, 0, none⟩), .pointer (some ⟨br, 0, none⟩), .pointer (some ⟨bk, 0, none⟩)] W fun e w' => e = .returned (.bool (decide (x.fr = a) && s x.to_)) ∧ Ext W w' := by
  have hX := Ext.refl W
  have hlk := hS.reads
  clear hS
  by_cases ht : x.fr = a
  · have ht1 : (x.fr == a) = true := beq_iff_eq.2 ht
    have hd : Hid (decide (x.fr = a) = true) := hid (decide_eq_true ht)
    clear ht
    go_enter Tryz.func146, Tryz.ntmps146
    go_wp2
    go_quiet (fail)
    go_wp2
    go_ret
    exact ⟨ret_bool (by rw [hd.out]; simp), (by repeat (first | assumption | apply Ext.alloc | apply Ext.drewN | apply Ext.drew | (refine Ext.setCell (by simp <;> omega) ?_ _)))⟩
  · have ht1 : (x.fr == a) = false := beq_eq_false_iff_ne.2 ht
    have hd : Hid (decide (x.fr = a) = false) := hid (decide_eq_false ht)
    clear ht
    go_enter Tryz.func146, Tryz.ntmps146
    go_wp2
    go_quiet (fail)
    go_wp2
    go_ret
    exact ⟨ret_bool (by rw [hd.out]; simp), (by repeat (first | assumption | apply Ext.alloc | apply Ext.drewN | apply Ext.drew | (refine Ext.setCell (by simp <;> omega) ?_ _)))⟩

/-- How many rounds more: by the cell that the loop's variable lies in. -/
def downOf (v : Value) (W : World) : Nat := match v with
  | .pointer (some p) => match W.cell? p with
    | some (.int _ k) => (k + 1).toNat
    | _ => 0
  | _ => 0

theorem infoI : (Tryz.prog.info? 3).map (fun i => (i.zero, i.size, i.bytes)) = some (some (.int .i64 0), 1, 8) := by kernel_rfl
theorem infoStp : (Tryz.prog.info? 80).map (fun i => (i.zero, i.size, i.bytes)) = some (some (.agg #[.int .i64 0, .int .i64 0, .slice none 0 0]), 3, 40) := by kernel_rfl

theorem app_one {α : Type} {sz : Nat} (c : α → List Value) (hc : ∀ x, (c x).length = sz) (h1 : ∀ x, ∀ u ∈ c x, u.oneCell' = true) (t ty e : TypeId) (i : TypeInfo) (z : Value) (bytes : Nat) (ht : Tryz.prog.underlying t = some (.slice e)) (hi : Tryz.prog.info? e = some i) (hz : i.zero = some z)
    (hsize : i.size = sz) (hby : i.bytes = bytes) (hzs : z.cells.size = sz) (hsz : 0 < sz) (hb8 : 0 < bytes) {W : World} {base : Nat} {v : Value} {pre : List α} (hown : W.ownsRow base e sz v pre.length (pre.flatMap c)) (hbase : base ≤ W.heap.size) (hbytes : (pre.length + 1) * bytes ≤ 140737488355328) (x : α) :
    ∃ v' w', (Builtin.append_ #[t, t] ty #[v, .slice (some ⟨W.heap.size, 0, none⟩) 1 1]).run Tryz.prog (W.alloc (.cells (c x).toArray e)) = .ok v' w' ∧ w'.ownsRow base e sz v' (pre ++ [x]).length ((pre ++ [x]).flatMap c) ∧ W.grownBy w' v.ownBlock ∧ (v'.ownBlock = v.ownBlock ∨ ∃ b, v'.ownBlock = some b ∧ W.heap.size ≤ b) := by
  have hlen : pre.length + 1 ≤ 140737488355328 := Nat.le_trans (Nat.le_mul_of_pos_right _ hb8) hbytes
  obtain ⟨v', w', hr, h2, h3, _, h5⟩ := run_append_own_at (P := Tryz.prog) (W.alloc (.cells (c x).toArray e)) base t ty e i z sz bytes ht hi hz hsize hby hzs hsz v pre.length _ (hown.alloc _) ⟨W.heap.size, 0, none⟩ 1 1 (c x) (by rw [hc]; omega) (new_cells rfl) (h1 x) (by unfold maxLen; omega) hbytes (by simp; omega)
  refine ⟨v', w', hr, ?_, World.grownBy.trans (World.grownBy_alloc W _ _) h3, ?_⟩
  · have e1 : (pre ++ [x]).flatMap c = pre.flatMap c ++ c x := by simp
    have e2 : (pre ++ [x]).length = pre.length + 1 := by simp
    rw [e1, e2]
    exact h2
  · rcases h5 with h | h
    · exact .inl h
    · exact .inr ⟨_, h, by simp⟩
theorem app_stp {W : World} {base : Nat} {v : Value} {pre : List Stp} (hown : W.ownsRow base 80 3 v pre.length (pre.flatMap Stp.cs)) (hbase : base ≤ W.heap.size) (hb : (pre.length + 1) * 40 ≤ 140737488355328) (ty : TypeId) (x : Stp) :
    ∃ v' w', (Builtin.append_ #[34, 34] ty #[v, .slice (some ⟨W.heap.size, 0, none⟩) 1 1]).run Tryz.prog (W.alloc (.cells #[.int .i64 x.fr, .int .i64 x.to_, .slice x.ad x.len x.cap] 80)) = .ok v' w' ∧ w'.ownsRow base 80 3 v' (pre ++ [x]).length ((pre ++ [x]).flatMap Stp.cs) ∧ W.grownBy w' v.ownBlock ∧ (v'.ownBlock = v.ownBlock ∨ ∃ b, v'.ownBlock = some b ∧ W.heap.size ≤ b) := by
  obtain ⟨i0, hi, hz0, hz1, hz2⟩ := info_parts infoStp
  exact app_one Stp.cs (fun _ => rfl) (fun x u hu => by simp [Stp.cs] at hu; rcases hu with rfl | rfl | rfl <;> rfl) 34 ty 80 i0 _ 40 Tryz.underlying34 hi hz0 hz1 hz2 rfl (by decide) (by decide) hown hbase hb x
theorem app_int {W : World} {base : Nat} {v : Value} {pre : List Int} (hown : W.ownsRow base 3 1 v pre.length (pre.flatMap intCs)) (hbase : base ≤ W.heap.size) (hb : (pre.length + 1) * 8 ≤ 140737488355328) (ty : TypeId) (x : Int) :
    ∃ v' w', (Builtin.append_ #[31, 31] ty #[v, .slice (some ⟨W.heap.size, 0, none⟩) 1 1]).run Tryz.prog (W.alloc (.cells #[.int .i64 x] 3)) = .ok v' w' ∧ w'.ownsRow base 3 1 v' (pre ++ [x]).length ((pre ++ [x]).flatMap intCs) ∧ W.grownBy w' v.ownBlock ∧ (v'.ownBlock = v.ownBlock ∨ ∃ b, v'.ownBlock = some b ∧ W.heap.size ≤ b) := by
  obtain ⟨i0, hi, hz0, hz1, hz2⟩ := info_parts infoI
  exact app_one intCs (fun _ => rfl) (fun x u hu => by simp [intCs] at hu; rcases hu with rfl; rfl) 31 ty 3 i0 _ 8 Tryz.underlying31 hi hz0 hz1 hz2 rfl (by decide) (by decide) hown hbase hb x

attribute [-go_sem] Builtin.append_
set_option maxRecDepth 100000 in
set_option maxHeartbeats 4000000 in
theorem r_along (w : World) (A : Option Addr) (n cap : Nat) (l : List Stp) (t : Int) (g o mr cr nn : Nat) (bs : Nat → Nat) (hE : Stps w A n l) (hI : ∀ x ∈ l, I64 x.fr ∧ I64 x.to_) (hn : n * 40 ≤ 140737488351232) (hm2 : 2 ≤ mr) (hmn : mr ≤ n + 1)
    (hc : ∀ j, j < mr → w.cell? ⟨g, o + j, none⟩ = some (.map (some (bs j)))) (hS : ∀ j, j < mr → ISet w (bs j) nn (levS l t j)) (hlv : levS l t (mr - 1) t = true) :
    Calls Tryz.prog 107 #[.slice A n cap, .int .i64 t, .slice (some ⟨g, o, none⟩) mr cr] w fun e w' => ∃ v, e = .returned v ∧ w'.ownsRow w.heap.size 80 3 v (alongS l t (mr - 1) t).length ((alongS l t (mr - 1) t).flatMap Stp.cs) ∧ Ext w w' := by
  have hX := Ext.refl w
  have hbig := hE.big
  have hl := hid (Sl.len hE)
  have HE := hid hE
  have HI := hid hI
  have HC := hid hc
  have HS := hid hS
  obtain ⟨i0, hi, hz0, hz1, hz2⟩ := info_parts infoStp
  have hw2 : IntKind.i64.wrap ((mr : Int) - 2) = (mr : Int) - 2 := by rw [IntKind.wrap_i64]; omega
  have b0 := ((Blk.new w 128 #[.slice (some ⟨g, o, none⟩) mr cr]).alloc (.cells #[.int .i64 t] 3)).alloc (.cells #[.int .i64 ((mr : Int) - 2)] 3)
  have b1 := (Blk.new (w.alloc (.cells #[.slice (some ⟨g, o, none⟩) mr cr] 128)) 3 #[.int .i64 t]).alloc (.cells #[.int .i64 ((mr : Int) - 2)] 3)
  have b2 := Blk.new ((w.alloc (.cells #[.slice (some ⟨g, o, none⟩) mr cr] 128)).alloc (.cells #[.int .i64 t] 3)) 3 #[.int .i64 ((mr : Int) - 2)]
  simp only [World.size_alloc] at b1 b2
  have HB := hid (And.intro b0 (And.intro b1 b2))
  obtain ⟨R, hR⟩ : ∃ R, alongS l t (mr - 1) t = R := ⟨_, rfl⟩
  have HR := hid hR
  rw [hR]
  have hlv' := hid hlv
  clear hE hI hc hS b0 b1 b2 hR hlv
  go_enter Tryz.func107, Tryz.ntmps107
  go_wp2
  go_loopw [7, 9] (fun out kp W => Ext w W ∧ ∃ (k gk : Nat) (a : Int) (pre : List Stp), k ≤ mr - 1 ∧ kp = .pointer (some ⟨gk, 0, none⟩) ∧ w.heap.size + 2 ≤ gk ∧ Blk W w.heap.size 128 #[.slice (some ⟨g, o, none⟩) mr cr] ∧ Blk W (w.heap.size + 1) 3 #[.int .i64 a] ∧ Blk W gk 3 #[.int .i64 ((k : Int) - 1)] ∧
      W.ownsRow (w.heap.size + 2) 80 3 out pre.length (pre.flatMap Stp.cs) ∧ Hid (levS l t k a = true ∧ pre ++ alongS l t k a = R) ∧ pre.length + k = mr - 1) (fun _ kp W => downOf kp W)
  case atStart => exact ⟨((hX.alloc _).alloc _).alloc _, mr - 1, w.heap.size + 2, t, [], by omega, rfl, by omega, HB.out.1, HB.out.2.1, by rw [show ((mr - 1 : Nat) : Int) - 1 = (mr : Int) - 2 by omega]; exact HB.out.2.2, World.ownsRow_nil _ _ _ _, hid ⟨hlv'.out, by simpa using HR.out⟩, by simp⟩
  case round =>
    obtain ⟨hW, k, gk, a, pre, hk1, rfl, hgk, c0, c1, c2, hown, hr, hpl⟩ := hrel
    have d0 := c0.cell0
    have d1 := c1.cell0
    have d2 := c2.cell0
    have hdn : Hid (downOf (.pointer (some ⟨gk, 0, none⟩)) wr = k) := hid (by unfold downOf; simp only [d2]; omega)
    by_cases hlt : 0 < k
    · obtain ⟨k, rfl⟩ : ∃ m, k = m + 1 := ⟨k - 1, by omega⟩
      have hk0 : (((k + 1 : Nat) : Int) - 1) = (k : Int) := by omega
      rw [hk0] at c2 d2
      obtain ⟨s, hf, hs, he, hl2⟩ := Rg.along_hit Stp.fr Stp.to_ hr.out.1
      obtain ⟨q, hq, hqi, hqs⟩ := find_idx hf
      subst hqs
      rw [hl.out] at hq
      have hal : Hid (alongS l t (k + 1) a = snth l q :: alongS l t k (snth l q).to_) := hid (by unfold alongS; rw [Rg.along, hf])
      have hqi' := hid hqi
      have hl2' := hid hl2
      obtain ⟨b, oo, rfl, h0, h1, h2⟩ := HE.out.opn (by omega)
      clear hf hs he hqi hl2
      go_wp2_with (go_at_call 111; refine (idxStp 146 #[.pointer (some ⟨w.heap.size + 1, 0, none⟩), .pointer (some ⟨w.heap.size, 0, none⟩), .pointer (some ⟨gk, 0, none⟩)] (fun x => decide (x.fr = a) && levS l t k x.to_) _ _ n cap l (HE.out.ext hW) (enters_of Tryz.func146 (by kernel_rfl) rfl) (fun V x hx hV => r_along1 V x (w.heap.size + 1) w.heap.size gk g o mr cr k (bs k) nn a (levS l t k) (HI.out x hx).2 (fun U hU => (hV.trans hU).cell d1) (fun U hU => (hV.trans hU).cell d0) (fun U hU => (hV.trans hU).cell d2) (by omega) (by omega) (fun U hU => (hW.trans (hV.trans hU)).cell (HC.out k (by omega))) ((HS.out k (by omega)).ext (hW.trans hV)))).mono ?_; rintro e w1 ⟨rfl, hx1⟩; rw [hqi'.out]; have hW1 := hW.trans hx1; have e1 := (c1.ext hx1).cell0; have e2 := (c2.ext hx1).cell0; have f1 := (c1.ext hx1).frozen 0)
      have hgl := c2.lt
      have hxl := hx1.le
      have hown1 := own_ext hown (by omega) hx1
      obtain ⟨v', w2, hrun, hown2, hgrow2, hat2⟩ := app_stp hown1 (by omega) (by omega) 34 (snth l q)
      rw [hrun]
      have hW2 : Ext w w2 := Ext.grown hW1 hgrow2 (fun j hj => by have := own_block hown1 j hj; omega)
      have p0 := (c0.ext hx1).grown hgrow2 (fun e => by have := own_block hown1 _ e.symm; omega)
      have p1 := (c1.ext hx1).grown hgrow2 (fun e => by have := own_block hown1 _ e.symm; omega)
      have p2 := (c2.ext hx1).grown hgrow2 (blk_ne_row (c2.ext hx1) hown1 (by decide))
      have g1 := p1.cell0
      have g1f := p1.frozen 0
      have g3 := (p2.far (p := ⟨w.heap.size + 1, 0, none⟩) (by simp; omega) (.int .i64 (snth l q).to_)).cell0
      have hwk : IntKind.i64.wrap ((k : Int) - 1) = (k : Int) - 1 := by rw [IntKind.wrap_i64]; omega
      have hgrow3 := hgrow2.size
      clear hown hown1 hgrow2 hat2
      go_wp2
      clear hwk hw2
      have hnb : Blk ((w2.setCell ⟨w.heap.size + 1, 0, none⟩ (.int .i64 (snth l q).to_)).alloc (.cells #[.int .i64 ((k : Int) - 1)] 3)) w2.heap.size 3 #[.int .i64 ((k : Int) - 1)] := by
        have := Blk.new (w2.setCell ⟨w.heap.size + 1, 0, none⟩ (.int .i64 (snth l q).to_)) 3 #[.int .i64 ((k : Int) - 1)]
        simpa using this
      have hnc := hid hnb.cell0
      have hle2 := hgrow3
      go_roundw
      case rel =>
        refine ⟨Ext.alloc (Ext.setCell (by simp) hW2 _) _, k, w2.heap.size, (snth l q).to_, pre ++ [snth l q], by omega, rfl, by omega, (p0.far (by simp) _).alloc _, (p1.set0 _).alloc _, hnb, (own_cell hown2 (by omega) 0 _).alloc _, hid ⟨hl2'.out, ?_⟩, by simp; omega⟩
        · rw [← hr.out.2, hal.out]; simp
      case measure =>
        rw [hdn.out]
        unfold downOf
        dsimp only
        rw [hnc.out]
        simp only
        omega
    · have hk0 : k = 0 := by omega
      subst hk0
      go_wp2
      go_ret
      have e : pre = R := by have := hr.out.2; simpa [alongS, Rg.along] using this
      rw [← e]
      refine ⟨_, rfl, ?_, hW⟩
      obtain ⟨h1, h2 | ⟨g, cap, cur, h3, h4, h5⟩⟩ := hown
      · exact ⟨h1, .inl h2⟩
      · exact ⟨h1, .inr ⟨g, cap, cur, h3, Nat.le_trans (by omega) h4, h5⟩⟩
end
end
end Go.Proofs.YtebjiimlcnmfpaaGreat

/-! slices.Sorted(maps.Keys(m)) at sets of numbers. -/
namespace Go.Proofs.YtebjiimlcnmfpaaGreat
section
section
open Go Go.RowKit Go.Proofs Go.Shelf Go.Maps Go.Sort Go.ChangeMaps
theorem sortsInt (m : Nat) : AnyZI.SortsIn Tryz.prog sortedInt_ren Fence.wide m :=
  ⟨fun blk off cap ss W hH hblk hsz => callsIn_wide.2 (AnyM.slices_Sort_int sortInt blk off cap ss W hH hblk hsz),
   fun p cap W => callsIn_wide.2 (AnyM.slices_Sort_int_none sortInt p cap W)⟩
theorem keysInt_call (mb : Option Nat) (W : World) : Calls Tryz.prog 105 #[.map mb] W fun e w' => e = .returned (.func (.func 145) #[] #[.pointer (some ⟨W.heap.size, 0, none⟩)]) ∧ w' = W.alloc (.cells #[.map mb] 125) :=
  (callsIn_wide (n := 5)).1 (AnyZI.keys_in keysInt Fence.wide 5 trivial rfl mb W)
/-- The keys of a set, sorted. -/
theorem sortedInt_call (b nn : Nat) (s : Int → Bool) (ss : List Int) (w : World) (h : ISet w b nn s) (hs : ss.Pairwise (· < ·)) (hm : ∀ x, x ∈ ss ↔ s x = true) (hbytes : nn * 8 ≤ 140737488355328) :
    Calls Tryz.prog 74 #[.func (.func 145) #[] #[.pointer (some ⟨w.heap.size, 0, none⟩)]] (w.alloc (.cells #[.map (some b)] 125)) fun e w' => ∃ v : Value, e = .returned v ∧
      w'.ownsRow w.heap.size 3 1 v ss.length (ss.map encZ) ∧ Ext w w' := by
  obtain ⟨D0, hown, h2⟩ := h
  obtain ⟨i1, i2, i3⟩ := intKeys_spec hown lawInt Tryz.underlying3
  have hsz := hown.size_le
  have hbl := hown.lt
  have hseq : SeqGives Fence.wide 2 Tryz.prog 145 #[.pointer (some ⟨w.heap.size, 0, none⟩)] encZ (fun ss => ss.Perm (intKeys D0)) (Maps.size D0) (w.alloc (.cells #[.map (some b)] 125)) :=
    AnyZI.keys_gives (ρ := keysInt_ren) { keysInt with } Fence.wide _ trivial rfl (by omega) w.heap.size b nn D0 _ (by simp) (by simp) (by
      obtain ⟨es, clock, hb, Ft, hs, hD⟩ := hown
      exact ⟨es, clock, (Below.heap_alloc _ _ b hbl).trans hb, Ft, hs, hD⟩)
  have cS := AnyZI.sorted_in sortedInt Fence.wide 5 trivial trivial trivial trivial rfl (by omega) (sortsInt _) (enters_of Tryz.func53 (by kernel_rfl) rfl) 145 #[.pointer (some ⟨w.heap.size, 0, none⟩)] trivial (enters_of Tryz.func145 (by kernel_rfl) rfl) _ _ (by simp only [maxLen]; omega) (by omega) _ hseq
  change CallsIn _ _ Tryz.prog 74 _ _ _ at cS
  refine (callsIn_wide.1 cS).mono ?_
  rintro e w' ⟨v, ls, rfl, hS, hrow, hnil, hb⟩
  have hnd : ls.Nodup := hS.symm.nodup i1
  have hsort : ls.mergeSort (fun x y => decide (x ≤ y)) = ss := by
    have hpm := List.mergeSort_perm ls (fun x y => decide (x ≤ y))
    have hso := List.pairwise_mergeSort (le := fun x y : Int => decide (x ≤ y)) (fun a b c h1 h2 => by simp only [decide_eq_true_eq] at *; omega) (fun a b => by simp only [Bool.or_eq_true, decide_eq_true_eq]; omega) ls
    refine Rg.rising_eq ((hso.and (hpm.symm.nodup hnd)).imp fun {a b} hab => ?_) hs fun x => ?_
    · have h1 : a ≤ b := of_decide_eq_true hab.1
      have h2 := hab.2
      omega
    · rw [(hpm.trans hS).mem_iff, i2 x, (h2 x).1, setF_isSome, hm x]
  have hl : ls.length = ss.length := by rw [← hsort, List.length_mergeSort]
  rw [hsort, hl] at hrow
  exact ⟨v, rfl, ownsRow_base_a hrow (by simp), ((Below.refl _ w).alloc (Nat.le_refl _) _).trans (hb.mono (by simp))⟩
end
end
end Go.Proofs.YtebjiimlcnmfpaaGreat

/-! The program's ring.Order. -/
namespace Go.Proofs.YtebjiimlcnmfpaaGreat
section
section
open Go Go.RowKit Go.Proofs Go.Shelf Go.Maps
attribute [local go_sem] Ext.alloc Ext.alloc2 Ext.alloc3 Ext.alloc4 Ext.drewN_alloc Ext.drewN_alloc2 Ext.drew_alloc Ext.drew Ext.drewN toList_beq
attribute [-go_sem] Builtin.append_

abbrev orderS (l : List Stp) (nodes : List Int) : Option (List Int) := Rg.order Stp.fr Stp.to_ l nodes
theorem held_free {l : List Stp} {ss : List Int} {n : Int} : heldB l (fun x => decide (x ∈ ss)) n = !Rg.free Stp.fr Stp.to_ l ss n := by
  unfold heldB Rg.free
  induction l with
  | nil => rfl
  | cons x r ih => rw [List.any_cons, List.all_cons, ih, Bool.not_and, Bool.not_not]
theorem find_at {p : Int → Bool} {l : List Int} {k : Nat} (hk : k < l.length) (h : p (inth l k) = true) (h0 : ∀ j, j < k → p (inth l j) = false) : l.find? p = some (inth l k) := by
  have e : ∀ (j : Nat) (hj : j < l.length), inth l j = l[j]'hj := fun j hj => by simp [inth, List.getD_eq_getElem?_getD, hj]
  rw [e k hk] at h ⊢
  rw [List.find?_eq_some_iff_append]
  refine ⟨h, l.take k, l.drop (k + 1), by simp, fun x hx => ?_⟩
  obtain ⟨j, hj, rfl⟩ := List.getElem_of_mem hx
  have hj' : j < k := by simp at hj; omega
  have := h0 j hj'
  rw [e j (by omega)] at this
  rw [List.getElem_take, this]
  rfl
theorem find_no {p : Int → Bool} {l : List Int} (h0 : ∀ j, j < l.length → p (inth l j) = false) : l.find? p = none := by
  rw [List.find?_eq_none]
  intro x hx
  obtain ⟨j, hj, rfl⟩ := List.getElem_of_mem hx
  have := h0 j hj
  rw [show inth l j = l[j] by simp [inth, List.getD_eq_getElem?_getD, hj]] at this
  rw [this]; simp
theorem encZ_flat (l : List Int) : l.map encZ = l.flatMap intCs := by rw [List.map_eq_flatMap]; rfl
/-- What is left of an order, of the numbers ss behind out. -/
def OrdRest (l : List Stp) (R : Option (List Int)) (ss out : List Int) : Prop := ∃ m, ss.length ≤ m ∧ Rg.ordGo Stp.fr Stp.to_ l m ss out = R
theorem OrdRest.done {l : List Stp} {R : Option (List Int)} {ss out : List Int} (h : OrdRest l R ss out) (he : ss = []) : R = some out := by
  obtain ⟨m, hm, e⟩ := h
  subst he
  cases m <;> simp [Rg.ordGo] at e <;> exact e.symm
theorem OrdRest.none {l : List Stp} {R : Option (List Int)} {ss out : List Int} (h : OrdRest l R ss out) (he : 0 < ss.length) (hf : ss.find? (Rg.free Stp.fr Stp.to_ l ss) = none) : R = none := by
  obtain ⟨m, hm, e⟩ := h
  obtain ⟨m, rfl⟩ : ∃ k, m = k + 1 := ⟨m - 1, by omega⟩
  rw [Rg.ordGo, if_neg (fun e => by rw [e] at he; simp at he), hf] at e
  exact e.symm
theorem OrdRest.step {l : List Stp} {R : Option (List Int)} {ss out : List Int} {n : Int} (h : OrdRest l R ss out) (hs : ss.Nodup) (hf : ss.find? (Rg.free Stp.fr Stp.to_ l ss) = some n) : OrdRest l R (ss.filter (fun y => decide (y ≠ n))) (out ++ [n]) := by
  obtain ⟨m, hm, e⟩ := h
  obtain ⟨hn, _⟩ := Rg.find_spec hf
  have hl := Rg.filter_ne_len hn hs
  obtain ⟨m, rfl⟩ : ∃ k, m = k + 1 := ⟨m - 1, by omega⟩
  rw [Rg.ordGo, if_neg (fun e => by rw [e] at hn; simp at hn), hf] at e
  exact ⟨m, by omega, e⟩
def lenV : Value → Nat
  | .slice _ n _ => n
  | _ => 0
/-- What the walk of ring.Order keeps. -/
structure OInv (w : World) (A : Option Addr) (n cap N : Nat) (ss : List Int) (v : Value) (out : List Int) (W : World) : Prop where
  ext : Ext w W
  bl : Blk W w.heap.size 34 #[.slice A n cap]
  bm : Blk W (w.heap.size + 2) 125 #[.map (some (w.heap.size + 1))]
  set : ISet W (w.heap.size + 1) N (fun x => decide (x ∈ ss))
  out : W.ownsRow (w.heap.size + 3) 3 1 v out.length (out.flatMap intCs)
  rise : ss.Pairwise (· < ·)
  size : w.heap.size + 3 ≤ W.heap.size
theorem OInv.go {w W W' : World} {A : Option Addr} {n cap N : Nat} {ss : List Int} {v : Value} {out : List Int} (h : OInv w A n cap N ss v out W) (x : Ext W W') : OInv w A n cap N ss v out W' :=
  ⟨h.ext.trans x, h.bl.ext x, h.bm.ext x, h.set.ext x, own_ext h.out h.size x, h.rise, Nat.le_trans h.size x.le⟩

set_option maxRecDepth 100000 in
set_option maxHeartbeats 8000000 in
theorem r_order (w : World) (A B : Option Addr) (m n c cap : Nat) (nodes : List Int) (l : List Stp) (hO : Nums w B m nodes) (ho : ∀ x ∈ nodes, I64 x) (hE : Stps w A n l) (hI : ∀ x ∈ l, I64 x.fr) (hm8 : m * 8 ≤ 140737488351232) :
    Calls Tryz.prog 66 #[.slice B m c, .slice A n cap] w fun e w' => ∃ v, e = .returned (.tuple #[v, .bool (orderS l nodes).isSome]) ∧ w'.ownsRow w.heap.size 3 1 v ((orderS l nodes).getD []).length (((orderS l nodes).getD []).flatMap intCs) ∧ Ext w w' := by
  have hX := Ext.refl w
  have hbig := hE.big
  have hbig2 := hO.big
  have hol := hid (Sl.len hO)
  have HO := hid hO
  have HE := hid hE
  have HI := hid hI
  have HIo := hid ho
  have hmm := @run_makeMap Tryz.prog
  have b0 := ((Blk.new w 34 #[.slice A n cap]).alloc (.map #[] 0)).alloc (.cells #[.map (some (w.heap.size + 1))] 125)
  have b2 := Blk.new ((w.alloc (.cells #[.slice A n cap] 34)).alloc (.map #[] 0)) 125 #[.map (some (w.heap.size + 1))]
  simp only [World.size_alloc] at b2
  have hmade := (ISet.made (w.alloc (.cells #[.slice A n cap] 34))).ext ((Ext.refl _).alloc (.cells #[.map (some (w.heap.size + 1))] 125))
  simp only [World.size_alloc] at hmade
  have HM := hid hmade
  have HB := hid (And.intro b0 b2)
  obtain ⟨R, hR⟩ : ∃ R, orderS l nodes = R := ⟨_, rfl⟩
  have HR : Hid (OrdRest l R (Rg.sortD nodes) []) := hid ⟨_, Nat.le_refl _, hR⟩
  rw [hR]
  clear hE hI hO ho hmade b0 b2 hR
  go_enter Tryz.func66, Tryz.ntmps66
  go_wp2
  apply wp_scope_straight
  go_wp2
  go_loopw [16] (fun i W => Ext w W ∧ ∃ k : Nat, k ≤ m ∧ i = .int .i64 k ∧ Blk W w.heap.size 34 #[.slice A n cap] ∧ Blk W (w.heap.size + 2) 125 #[.map (some (w.heap.size + 1))] ∧ ISet W (w.heap.size + 1) k (fun x => decide (x ∈ nodes.take k))) (fun i _ => m - (RowKit.intOf i).toNat)
  case atStart => exact ⟨((hX.alloc _).alloc _).alloc _, 0, by omega, rfl, HB.out.1, HB.out.2, ISet.same HM.out fun x => by simp⟩
  case round =>
    obtain ⟨hW, k, hk1, rfl, hb, hb2, hr⟩ := hrel
    have hb2c := hb2.cell0
    by_cases hlt : k < m
    · obtain ⟨bb, oo, rfl, h0⟩ := HO.out.opn (by omega)
      have hmem : Hid (I64 (inth nodes k)) := hid (HIo.out _ (by unfold inth; rw [List.getD_eq_getElem?_getD, List.getElem?_eq_getElem (by rw [hol.out]; exact hlt)]; exact List.getElem_mem _))
      have hts : Hid (nodes.take (k + 1) = nodes.take k ++ [inth nodes k]) := hid (by
        rw [List.take_succ_eq_append_getElem (by rw [hol.out]; exact hlt)]
        simp [inth, List.getD_eq_getElem?_getD, hol.out, hlt])
      go_wp2_with (at_mapUpdate; refine wp_put rfl _ _ _ 125 4 rfl Tryz.underlying125 rfl hr (by unfold maxLen; omega) (inth nodes k) (.bool true) rfl rfl hmem.out ?_; intro w1 hown1 hgrow1)
      have hb1 := hb.grown hgrow1 (by simp)
      have hb3 := hb2.grown hgrow1 (by simp)
      have hnew : Hid (ISet w1 (w.heap.size + 1) (k + 1) (fun x => decide (x ∈ nodes.take (k + 1)))) := hid (hown1.congr fun x => by
        rw [setF_upd]
        congr 1
        funext y
        rw [hts.out, ← Bool.decide_or, decide_eq_decide, List.mem_append, List.mem_singleton, or_comm])
      go_wp2
      go_roundw
      case rel => exact ⟨Ext.grown hW hgrow1 (fun j e => by cases e; omega), k + 1, by omega, by go_num, hb1, hb3, hnew.out⟩
      case measure => simp [RowKit.intOf]; omega
    · have hkn : Hid (nodes.take k = nodes) := hid (List.take_of_length_le (by rw [hol.out]; omega))
      obtain rfl : k = m := by omega
      have hsz : w.heap.size + 3 ≤ wr.heap.size := by have := hb2.lt; omega
      have hI0 : OInv w A n cap k (Rg.sortD nodes) (.slice none 0 0) [] wr := ⟨hW, hb, hb2, by
        have := ISet.same (t := fun x => decide (x ∈ Rg.sortD nodes)) hr (fun x => by rw [hkn.out, decide_eq_decide, Rg.mem_sortD])
        exact this, World.ownsRow_nil _ _ _ _, Rg.sortD_rising _, hsz⟩
      have HI0 := hid hI0
      clear hb hb2 hr hI0 hb2c
      go_wp2
      apply wp_label
      go_wp2
      have hsl := Rg.sortD_len nodes
      rw [hol.out] at hsl
      go_loopw [10] (fun v W => ∃ (ss out : List Int), OInv w A n cap k ss v out W ∧ Hid (OrdRest l R ss out) ∧ ss.length + out.length ≤ k) (fun v _ => k + 1 - lenV v)
      case atStart => exact ⟨_, [], HI0.out, HR, by simpa using hsl⟩
      case round =>
        clear HI0 HR hW hsz
        obtain ⟨ss, out, hI, hR, hlen⟩ := hrel
        obtain ⟨A0, c0, rfl⟩ := YtebjiimlcnmfpaaGreatW.PrintWords.own_slice hI.out
        have hbm := hI.bm.cell0
        have hsize := hI.size
        have hmS : Hid (∀ x, x ∈ ss ↔ (setF (fun x => decide (x ∈ ss)) x).isSome = true) := hid (fun x => by rw [setF_isSome]; simp)
        by_cases hss : 0 < ss.length
        · go_wp2_with (first
            | (at_len; refine wp_len rfl _ 125 4 rfl Tryz.underlying125 rfl hI.set hI.rise hmS.out ?_; intro hle)
            | (go_at_call 105; refine (keysInt_call _ _).mono ?_; rintro e w1 ⟨rfl, rfl⟩)
            | (go_at_call 74; refine (sortedInt_call (w.heap.size + 1) k (fun x => decide (x ∈ ss)) ss wr hI.set hI.rise (by simp) (by omega)).mono ?_; rintro e w1 ⟨v2, rfl, hrow, hx1⟩; rw [encZ_flat] at hrow; obtain ⟨A2, c2, rfl⟩ := YtebjiimlcnmfpaaGreatW.PrintWords.own_slice hrow))
          have hI1 := hI.go hx1
          obtain ⟨A2', c2', e2, hN2⟩ := sl_of_own (l := ss) (c := intCs) (z := (0 : Int)) (hc := fun _ => rfl) hrow (by omega)
          cases e2
          have HN2 : Hid (Nums w1 A2 ss.length ss) := hid hN2
          have HI1 := hid hI1
          clear hI hbm hN2 hrow hmS
          go_loopw [10, 31] (fun v i W => v = .slice A0 out.length c0 ∧ OInv w A n cap k ss (.slice A0 out.length c0) out W ∧ Ext w1 W ∧ ∃ k : Nat, k ≤ ss.length ∧ i = .int .i64 k ∧ Hid (∀ j, j < k → Rg.free Stp.fr Stp.to_ l ss (inth ss j) = false)) (fun _ i _ => ss.length - (RowKit.intOf i).toNat)
          case atStart => exact ⟨rfl, HI1.out, Ext.refl _, 0, by omega, rfl, hid (fun j hj => by omega)⟩
          case round =>
            clear HI1 hx1
            obtain ⟨rfl, hI, hx1, q, hq1, rfl, hr⟩ := hrel
            by_cases hq : q < ss.length
            · obtain ⟨bb, oo, rfl, h0⟩ := HN2.out.opn (by omega)
              have hXr := Ext.refl wr
              have hmem : Hid (inth ss q ∈ ss) := hid (by unfold inth; rw [List.getD_eq_getElem?_getD, List.getElem?_eq_getElem hq]; exact List.getElem_mem _)
              have hwf : Hid (I64 (inth ss q)) := hid (hI.set.wf (x := inth ss q) (by rw [setF_isSome]; simpa using hmem.out))
              cases hf : Rg.free Stp.fr Stp.to_ l ss (inth ss q)
              · have hf' := hid hf
                clear hf
                go_wp2_with (go_at_call 103; refine (r_held wr A n cap l w.heap.size (w.heap.size + 2) (w.heap.size + 1) k (inth ss q) (fun x => decide (x ∈ ss)) (HE.out.ext hI.ext) HI.out hI.bl.cell0 hI.bm.cell0 hI.set).mono ?_; rintro e w2 ⟨rfl, hx2⟩; rw [held_free, hf'.out])
                go_roundw
                case rel => exact ⟨rfl, hI.go hx2, hx1.trans hx2, q + 1, by omega, by go_num, hid (fun j hj => by
                  by_cases e : j = q
                  · rw [e]; exact hf'.out
                  · exact hr.out j (by omega))⟩
                case measure => simp [RowKit.intOf]; omega
              · have hf' := hid hf
                clear hf
                go_wp2_with (go_at_call 103; refine (r_held wr A n cap l w.heap.size (w.heap.size + 2) (w.heap.size + 1) k (inth ss q) (fun x => decide (x ∈ ss)) (HE.out.ext hI.ext) HI.out hI.bl.cell0 hI.bm.cell0 hI.set).mono ?_; rintro e w2 ⟨rfl, hx2⟩; rw [held_free, hf'.out])
                have hI2 := hI.go hx2
                have hsz2 := hI2.size
                obtain ⟨v', w3, hrun, hown3, hgrow3, hat3⟩ := app_int hI2.out hI2.size (by omega) 31 (inth ss q)
                rw [hrun]
                have n1 : ∀ j, (Value.slice A0 out.length c0).ownBlock = some j → w.heap.size + 3 ≤ j := own_block hI2.out
                have p1 := hI2.bl.grown hgrow3 (fun e => by have := n1 _ e.symm; omega)
                have p2 := hI2.bm.grown hgrow3 (fun e => by have := n1 _ e.symm; omega)
                have p3 := hI2.set.kept hgrow3 (fun e => by have := n1 _ e.symm; omega)
                have p2c := p2.cell0
                have hx3 : Ext w w3 := Ext.grown hI2.ext hgrow3 (fun j hj => by have := n1 j hj; omega)
                go_wp2_with (at_delete; refine wp_del rfl _ _ 125 4 rfl Tryz.underlying125 rfl p3 (inth ss q) rfl hwf.out ?_; intro w4 hset4 hgrow4)
                have hne4 : v'.ownBlock = none ∨ v'.ownBlock ≠ some (w.heap.size + 1) := by
                  rcases hat3 with h | ⟨b, h, hb⟩
                  · exact .inr (fun e => by have := n1 _ (h.symm.trans e); omega)
                  · exact .inr (fun e => by rw [h] at e; injection e with e; omega)
                have hI4 : OInv w A n cap k (ss.filter (fun y => decide (y ≠ inth ss q))) v' (out ++ [inth ss q]) w4 := ⟨Ext.grown hx3 hgrow4 (fun j e => by cases e; omega), p1.grown hgrow4 (by simp), p2.grown hgrow4 (by simp), hset4.congr (fun x => by
                    rw [setF_dele]
                    congr 1
                    funext y
                    rw [show decide (y ∈ ss.filter (fun y => decide (y ≠ inth ss q))) = (!decide (y = inth ss q) && decide (y ∈ ss)) by
                      rw [Bool.eq_iff_iff]; simp [List.mem_filter, and_comm]]), hown3.kept hgrow4 hne4, hI2.rise.filter _, by have := hgrow4.size; have := hgrow3.size; omega⟩
                have hR4 : Hid (OrdRest l R (ss.filter (fun y => decide (y ≠ inth ss q))) (out ++ [inth ss q])) := hid (hR.out.step (Rg.rising_nodup hI2.rise) (find_at hq hf'.out (fun j hj => hr.out j hj)))
                have hl4 := Rg.filter_ne_len hmem.out (Rg.rising_nodup hI2.rise)
                obtain ⟨A4, c4, rfl⟩ := YtebjiimlcnmfpaaGreatW.PrintWords.own_slice hI4.out
                go_roundw
                case rel =>
                  repeat apply Exists.intro
                  exact ⟨⟨_, _, hI4, hR4, by rw [List.length_append, List.length_singleton]; omega⟩, rfl⟩
                case measure =>
                  show k + 1 - (out ++ [inth ss q]).length < k + 1 - out.length
                  rw [List.length_append, List.length_singleton]
                  omega
            · have hfn : Hid (R = none) := hid (hR.out.none hss (find_no fun j hj => hr.out j (by omega)))
              go_wp2
              rw [Exit.noGoto_ret]
              go_ret2
              refine ⟨_, by rw [hfn.out]; rfl, ?_, hI.ext⟩
              rw [hfn.out]
              exact World.ownsRow_nil _ _ _ _
        · have hnil : ss = [] := List.eq_nil_of_length_eq_zero (by omega)
          have hdone : Hid (R = some out) := hid (hR.out.done hnil)
          have hlz : ss.length = 0 := by omega
          go_wp2_with (at_len; refine wp_len rfl _ 125 4 rfl Tryz.underlying125 rfl hI.set hI.rise hmS.out ?_; intro hle)
          rw [Exit.noGoto_ret]
          go_ret2
          refine ⟨_, by rw [hdone.out]; rfl, ?_, hI.ext⟩
          rw [hdone.out]
          obtain ⟨h1, h2 | ⟨g, cap, cur, h3, h4, h5⟩⟩ := hI.out
          · exact ⟨h1, .inl h2⟩
          · exact ⟨h1, .inr ⟨g, cap, cur, h3, Nat.le_trans (by omega) h4, h5⟩⟩
end
end
end Go.Proofs.YtebjiimlcnmfpaaGreat

/-! What the walk of ring.Ring keeps: for each number at which steps begin, a row of sets: who reaches it in 0, 1, .. steps. -/
namespace Go.Proofs.YtebjiimlcnmfpaaGreat
section
section
open Go Go.RowKit Go.Proofs Go.Shelf Go.Maps

/-- A map has no more entries than keys. -/
theorem IMap.tight {W : World} {b n : Nat} {f : Int → Option Value} (h : IMap W b n f) {ss : List Int} (hs : ss.Pairwise (· < ·)) (hm : ∀ x, x ∈ ss ↔ (f x).isSome = true) : IMap W b ss.length f := by
  obtain ⟨D, h1, h2⟩ := h
  obtain ⟨i1, i2, i3⟩ := intKeys_spec h1 lawInt Tryz.underlying3
  have hp : ss.Perm (intKeys D) := (List.perm_ext_iff_of_nodup (Rg.rising_nodup hs) i1).2 fun x => by rw [hm x, i2 x, (h2 x).1]
  have e : Maps.size D = ss.length := by rw [← i3, hp.length_eq]
  obtain ⟨es, clock, hb, Ft, hsz, hD⟩ := h1
  refine ⟨D, ⟨es, clock, hb, Ft, ?_, hD⟩, h2⟩
  rw [← e, hD]
  simp [Maps.size, length_sorted]

def mapC (b : Nat) : List Value := [.map (some b)]
/-- A row of sets: who reaches a in 0, 1, .., c - 1 steps. -/
def RRow (l : List Stp) (W : World) (B N : Nat) (a : Int) (c : Nat) (v : Value) : Prop :=
  ∃ bs : List Nat, bs.length = c ∧ W.ownsRow B 125 1 v bs.length (bs.flatMap mapC) ∧ ∀ j, j < c → ISet W (bs.getD j 0) N (levS l a j) ∧ B ≤ bs.getD j 0
section
variable {l : List Stp} {W W' : World} {B N c : Nat} {a : Int} {v : Value}
theorem RRow.ext (h : RRow l W B N a c v) (hB : B ≤ W.heap.size) (x : Ext W W') : RRow l W' B N a c v := by
  obtain ⟨bs, h1, h2, h3⟩ := h
  exact ⟨bs, h1, own_ext h2 hB x, fun j hj => ⟨(h3 j hj).1.ext x, (h3 j hj).2⟩⟩
/-- What is written is another row, or an elder block. -/
theorem RRow.grown {row : Option Nat} (h : RRow l W B N a c v) (hg : W.grownBy W' row) (h1 : v.ownBlock = none ∨ v.ownBlock ≠ row) (h2 : ∀ b es clock, W.heap[b]? = some (.map es clock) → B ≤ b → some b ≠ row) : RRow l W' B N a c v := by
  obtain ⟨bs, e1, e2, e3⟩ := h
  refine ⟨bs, e1, e2.kept hg h1, fun j hj => ⟨(e3 j hj).1.kept hg ?_, (e3 j hj).2⟩⟩
  obtain ⟨es, clock, hb⟩ := (e3 j hj).1.isMap
  exact h2 _ es clock hb (e3 j hj).2
theorem row_no_map {base m : Nat} {e : TypeId} {sz : Nat} {xs : List Value} (ho : W.ownsRow base e sz v m xs) : ∀ b es clock, W.heap[b]? = some (.map es clock) → B ≤ b → some b ≠ v.ownBlock := fun b es clock hb _ he => by
  obtain ⟨cells, hc⟩ := YtebjiimlcnmfpaaGreatW.PrintWords.own_typed ho b he.symm
  rw [hc] at hb
  cases hb
theorem RRow.form (h : RRow l W B N a c v) (hc : 0 < c) : ∃ g cap, v = .slice (some ⟨g, 0, none⟩) c cap ∧ B ≤ g ∧ g < W.heap.size ∧ ∃ bs : Nat → Nat, ∀ j, j < c → W.cell? ⟨g, j, none⟩ = some (.map (some (bs j))) ∧ ISet W (bs j) N (levS l a j) := by
  obtain ⟨bs, h1, h2, h3⟩ := h
  subst h1
  rcases h2.2 with ⟨_, h0⟩ | ⟨g, cap, cur, rfl, hb, hh, _⟩
  · omega
  refine ⟨g, cap, rfl, hb, (Array.getElem?_eq_some_iff.1 hh).1, fun j => bs.getD j 0, fun j hj => ⟨?_, (h3 j hj).1⟩⟩
  have hc := h2.cells (g := g) rfl j (.map (some (bs.getD j 0))) (by
    have := flatMap_get 1 0 mapC (fun _ => rfl) bs j 0 hj (by omega)
    rw [Nat.mul_one, Nat.add_zero] at this
    rw [this]; rfl)
  have ha : (⟨g, 0, none⟩ : Addr).add j = ⟨g, j, none⟩ := by unfold Addr.add; split <;> simp_all
  rwa [ha] at hc
theorem RRow.snoc {bs : List Nat} {g : Nat} (h1 : W.ownsRow B 125 1 v (bs ++ [g]).length ((bs ++ [g]).flatMap mapC)) (h2 : ∀ j, j < bs.length → ISet W (bs.getD j 0) N (levS l a j) ∧ B ≤ bs.getD j 0) (h3 : ISet W g N (levS l a bs.length)) (h4 : B ≤ g) : RRow l W B N a (bs.length + 1) v := by
  refine ⟨bs ++ [g], by simp, h1, fun j hj => ?_⟩
  by_cases e : j < bs.length
  · have : (bs ++ [g]).getD j 0 = bs.getD j 0 := by simp [List.getD_eq_getElem?_getD, List.getElem?_append_left e]
    rw [this]; exact h2 j e
  · have e' : j = bs.length := by omega
    have : (bs ++ [g]).getD j 0 = g := by simp [List.getD_eq_getElem?_getD, e']
    rw [this, e']; exact ⟨h3, h4⟩
end

structure RInv (l : List Stp) (F : List Int) (w : World) (B M N : Nat) (W : World) (f : Int → Option Value) (c : Int → Nat) : Prop where
  ext : Ext w W
  lo : w.heap.size ≤ M
  mid : M < B
  hi : B ≤ W.heap.size
  map : IMap W M F.length f
  row : ∀ a v, f a = some v → a ∈ F ∧ 1 ≤ c a ∧ RRow l W B N a (c a) v
  apart : ∀ a a' v v', f a = some v → f a' = some v' → a ≠ a' → v.ownBlock ≠ v'.ownBlock
section
variable {l : List Stp} {F : List Int} {w W W' : World} {B M N : Nat} {f : Int → Option Value} {c c' : Int → Nat}
theorem RInv.go (h : RInv l F w B M N W f c) (x : Ext W W') : RInv l F w B M N W' f c :=
  ⟨h.ext.trans x, h.lo, h.mid, Nat.le_trans h.hi x.le, h.map.ext x, fun a v e => ⟨(h.row a v e).1, (h.row a v e).2.1, (h.row a v e).2.2.ext h.hi x⟩, h.apart⟩
theorem RInv.own {a : Int} {v : Value} (h : RInv l F w B M N W f c) (hv : f a = some v) : ∃ g cap, v = .slice (some ⟨g, 0, none⟩) (c a) cap ∧ B ≤ g ∧ g < W.heap.size ∧ v.ownBlock = some g := by
  obtain ⟨_, h1, h2⟩ := h.row a v hv
  obtain ⟨g, cap, rfl, h3, h4, _⟩ := h2.form h1
  exact ⟨g, cap, rfl, h3, h4, rfl⟩
/-- A row of one number is put in place of the one that was there: behind an append to that one (or beside it, where there was none). -/
theorem RInv.put {W2 W3 : World} {a : Int} {v' : Value} {row : Option Nat} (h : RInv l F w B M N W f c) (haF : a ∈ F) (hF : F.Pairwise (· < ·)) (hx : Ext W W2) (hg : W2.grownBy W3 row) (hrow : ∀ v, f a = some v → v.ownBlock = row) (hrow0 : f a = none → row = none)
    (hrowM : ∀ b es clock, W2.heap[b]? = some (.map es clock) → B ≤ b → some b ≠ row) (hrowB : ∀ k, row = some k → B ≤ k) (hat : v'.ownBlock = row ∨ ∃ b, v'.ownBlock = some b ∧ W.heap.size ≤ b) (hr : RRow l W3 B N a (c' a) v') (hc1 : 1 ≤ c' a) (hcc : ∀ x, x ≠ a → c' x = c x)
    {W4 : World} {m : Nat} (hm : IMap W4 M m (upd f a v')) (hg4 : W3.grownBy W4 (some M)) {ss : List Int} (hss : ss.Pairwise (· < ·)) (hsm : ∀ x, x ∈ ss ↔ (upd f a v' x).isSome = true) (hsF : ss.length ≤ F.length) (hv' : v'.ownBlock ≠ none) : RInv l F w B M N W4 (upd f a v') c' := by
  have hM4 : ∀ b es clock, W3.heap[b]? = some (.map es clock) → B ≤ b → some b ≠ some M := fun b es clock _ hb e => by injection e with e; have := h.mid; omega
  have hx3 : Ext w W3 := Ext.grown (h.ext.trans hx) hg (fun k hk => by have := hrowB k hk; have := h.lo; have := h.mid; omega)
  have hnew : ∀ x v, f x = some v → x ≠ a → v.ownBlock ≠ v'.ownBlock := fun x v hv hxa he => by
    obtain ⟨g, cap, _, g1, g2, g3⟩ := h.own hv
    rcases hat with hat | ⟨b, hb, hle⟩
    · cases hfa : f a with
      | none => rw [hrow0 hfa] at hat; exact hv' hat
      | some va => exact h.apart x a v va hv hfa hxa (by rw [he, hat, hrow va hfa])
    · rw [g3, hb] at he
      injection he with he
      omega
  refine ⟨Ext.grown hx3 hg4 (fun k hk => by injection hk with hk; have := h.lo; omega), h.lo, h.mid, Nat.le_trans h.hi (Nat.le_trans hx.le (Nat.le_trans hg.size hg4.size)), (hm.tight hss hsm).mono hsF, fun x v hv => ?_, fun x x' v u hv hu hne => ?_⟩
  · unfold upd at hv
    by_cases e : x = a
    · subst e
      rw [if_pos rfl] at hv
      injection hv with hv
      subst hv
      refine ⟨haF, hc1, hr.grown hg4 (.inr fun e => ?_) hM4⟩
      obtain ⟨bs, h1, h2, _⟩ := hr
      have := own_block h2 M e
      have := h.mid
      omega
    · rw [if_neg e] at hv
      obtain ⟨h1, h2, h3⟩ := h.row x v hv
      obtain ⟨g, cap, _, g1, g2, g3⟩ := h.own hv
      refine ⟨h1, by rw [hcc x e]; exact h2, ?_⟩
      rw [hcc x e]
      refine ((h3.ext h.hi hx).grown hg ?_ hrowM).grown hg4 (.inr fun e' => by rw [g3] at e'; injection e' with e'; have := h.mid; omega) hM4
      cases hfa : f a with
      | none => rw [hrow0 hfa, g3]; exact .inr (by simp)
      | some va => exact .inr (by rw [← hrow va hfa]; exact h.apart x a v va hv hfa e)
  · unfold upd at hv hu
    by_cases e : x = a
    · subst e
      rw [if_pos rfl] at hv
      rw [if_neg (Ne.symm hne)] at hu
      injection hv with hv
      subst hv
      exact (hnew x' u hu (Ne.symm hne)).symm
    · rw [if_neg e] at hv
      by_cases e' : x' = a
      · subst e'
        rw [if_pos rfl] at hu
        injection hu with hu
        subst hu
        exact hnew x v hv e
      · rw [if_neg e'] at hu
        exact h.apart x x' v u hv hu hne
end
end
end
end Go.Proofs.YtebjiimlcnmfpaaGreat

/-! The program's ring.Ring. -/
namespace Go.Proofs.YtebjiimlcnmfpaaGreat
section
section
open Go Go.RowKit Go.Proofs Go.Shelf Go.Maps
attribute [local go_sem] Ext.alloc Ext.alloc2 Ext.alloc3 Ext.alloc4 Ext.drewN_alloc Ext.drewN_alloc2 Ext.drew_alloc Ext.drew Ext.drewN toList_beq
attribute [-go_sem] Builtin.append_

theorem encZ_flat2 (l : List Int) : l.map encZ = l.flatMap intCs := by rw [List.map_eq_flatMap]; rfl
theorem infoSet : (Tryz.prog.info? 125).map (fun i => (i.zero, i.size, i.bytes)) = some (some (.map none), 1, 8) := by kernel_rfl
theorem app_map {W : World} {base : Nat} {v : Value} {pre : List Nat} (hown : W.ownsRow base 125 1 v pre.length (pre.flatMap mapC)) (hbase : base ≤ W.heap.size) (hb : (pre.length + 1) * 8 ≤ 140737488355328) (ty : TypeId) (x : Nat) :
    ∃ v' w', (Builtin.append_ #[128, 128] ty #[v, .slice (some ⟨W.heap.size, 0, none⟩) 1 1]).run Tryz.prog (W.alloc (.cells #[.map (some x)] 125)) = .ok v' w' ∧ w'.ownsRow base 125 1 v' (pre ++ [x]).length ((pre ++ [x]).flatMap mapC) ∧ W.grownBy w' v.ownBlock ∧ (v'.ownBlock = v.ownBlock ∨ ∃ b, v'.ownBlock = some b ∧ W.heap.size ≤ b) := by
  obtain ⟨i0, hi, hz0, hz1, hz2⟩ := info_parts infoSet
  exact app_one mapC (fun _ => rfl) (fun x u hu => by simp [mapC] at hu; rcases hu with rfl; rfl) 128 ty 125 i0 _ 8 Tryz.underlying128 hi hz0 hz1 hz2 rfl (by decide) (by decide) hown hbase hb x
abbrev fromsS (l : List Stp) : List Int := Rg.froms Stp.fr l
abbrev ringS (l : List Stp) : List Stp × Bool := Rg.ring Stp.fr Stp.to_ l
theorem fromsS_len (l : List Stp) : (fromsS l).length ≤ l.length := by
  have := Rg.sortD_len (l.map Stp.fr)
  rw [List.length_map] at this
  exact this
def FrRest (l : List Stp) (R : Option (Int × Nat)) (n : Nat) : Prop := Rg.ringGo Stp.fr Stp.to_ l (fromsS l) ((fromsS l).length - n) (n + 1) = R
theorem FrRest.hit {l : List Stp} {R : Option (Int × Nat)} {m : Nat} {a : Int} (h : FrRest l R m) (hm : m < (fromsS l).length) (hf : (fromsS l).find? (fun a => levS l a (m + 1) a) = some a) : R = some (a, m + 1) := by
  unfold FrRest at h
  obtain ⟨d, hd⟩ : ∃ d, (fromsS l).length - m = d + 1 := ⟨(fromsS l).length - m - 1, by omega⟩
  rw [hd, Rg.ringGo, show Rg.ringAt Stp.fr Stp.to_ l (fromsS l) (m + 1) = some a from hf] at h
  exact h.symm
theorem FrRest.miss {l : List Stp} {R : Option (Int × Nat)} {m : Nat} (h : FrRest l R m) (hm : m < (fromsS l).length) (hf : (fromsS l).find? (fun a => levS l a (m + 1) a) = none) : FrRest l R (m + 1) := by
  unfold FrRest at h ⊢
  obtain ⟨d, hd⟩ : ∃ d, (fromsS l).length - m = d + 1 := ⟨(fromsS l).length - m - 1, by omega⟩
  rw [hd, Rg.ringGo, show Rg.ringAt Stp.fr Stp.to_ l (fromsS l) (m + 1) = none from hf] at h
  rw [show (fromsS l).length - (m + 1) = d by omega]
  exact h
theorem FrRest.done {l : List Stp} {R : Option (Int × Nat)} {m : Nat} (h : FrRest l R m) (hm : (fromsS l).length ≤ m) : R = none := by
  unfold FrRest at h
  rw [show (fromsS l).length - m = 0 by omega, Rg.ringGo] at h
  exact h.symm
theorem ringS_some {l : List Stp} {a : Int} {n : Nat} (h : Rg.find1 Stp.fr Stp.to_ l = some (a, n)) : ringS l = (alongS l a n a, true) := by unfold ringS Rg.ring; rw [h]
theorem ringS_none {l : List Stp} (h : Rg.find1 Stp.fr Stp.to_ l = none) : ringS l = ([], false) := by unfold ringS Rg.ring; rw [h]
theorem inth_take {F : List Int} {q : Nat} (h : q < F.length) : F.take (q + 1) = F.take q ++ [inth F q] := by
  rw [List.take_succ_eq_append_getElem h]
  simp [inth, List.getD_eq_getElem?_getD, h]
theorem inth_mem' {F : List Int} {q : Nat} (h : q < F.length) : inth F q ∈ F := by
  unfold inth
  rw [List.getD_eq_getElem?_getD, List.getElem?_eq_getElem h]
  exact List.getElem_mem _

set_option maxRecDepth 100000 in
set_option maxHeartbeats 8000000 in
theorem r_ring (w : World) (A : Option Addr) (n cap : Nat) (l : List Stp) (hE : Stps w A n l) (hI : ∀ x ∈ l, I64 x.fr ∧ I64 x.to_) (hn : n * 40 ≤ 140737488351232) :
    Calls Tryz.prog 67 #[.slice A n cap] w fun e w' => ∃ v, e = .returned (.tuple #[v, .bool (ringS l).2]) ∧ w'.ownsRow w.heap.size 80 3 v (ringS l).1.length ((ringS l).1.flatMap Stp.cs) ∧ Ext w w' := by
  have hX := Ext.refl w
  have hbig := hE.big
  have hl := hid (Sl.len hE)
  have HE := hid hE
  have HI := hid hI
  have hmm := @run_makeMap Tryz.prog
  obtain ⟨R, hR⟩ : ∃ R, ringS l = R := ⟨_, rfl⟩
  have HR := hid hR
  rw [hR]
  have hFl := fromsS_len l
  rw [hl.out] at hFl
  clear hE hI hR
  go_enter Tryz.func67, Tryz.ntmps67
  go_wp2
  have hmade := hid (ISet.made w)
  go_loopw [17] (fun i W => Ext w W ∧ ∃ k : Nat, k ≤ n ∧ i = .int .i64 k ∧ ISet W w.heap.size k (fun x => decide (x ∈ (l.take k).map Stp.fr))) (fun i _ => n - (RowKit.intOf i).toNat)
  case atStart => exact ⟨hX.alloc _, 0, by omega, rfl, ISet.same hmade.out fun x => by simp⟩
  case round =>
    obtain ⟨hW, k, hk1, rfl, hr⟩ := hrel
    by_cases hlt : k < n
    · obtain ⟨bb, oo, rfl, h0, h1, h2⟩ := HE.out.opn (by omega)
      have hmem := hid (HI.out _ (snth_mem (l := l) (i := k) (by rw [hl.out]; exact hlt)))
      have hts : Hid ((l.take (k + 1)).map Stp.fr = (l.take k).map Stp.fr ++ [(snth l k).fr]) := hid (by
        rw [List.take_succ_eq_append_getElem (by rw [hl.out]; exact hlt), List.map_append]
        simp [snth, List.getD_eq_getElem?_getD, hl.out, hlt])
      have hr1 := hid (hr.ext ((Ext.refl wr).alloc (.cells #[.int .i64 (snth l k).fr, .int .i64 (snth l k).to_, .slice (snth l k).ad (snth l k).len (snth l k).cap] 80)))
      go_wp2_with (at_mapUpdate; refine wp_put rfl _ _ _ 125 4 rfl Tryz.underlying125 rfl hr1.out (by unfold maxLen; omega) (snth l k).fr (.bool true) rfl rfl hmem.out.1 ?_; intro w1 hown1 hgrow1)
      have hnew : Hid (ISet w1 w.heap.size (k + 1) (fun x => decide (x ∈ (l.take (k + 1)).map Stp.fr))) := hid (hown1.congr fun x => by
        rw [setF_upd]
        congr 1
        funext y
        rw [hts.out, ← Bool.decide_or, decide_eq_decide, List.mem_append, List.mem_singleton, or_comm])
      go_wp2
      go_roundw
      case rel => exact ⟨Ext.grown (hW.alloc _) hgrow1 (fun j e => by cases e; exact Nat.le_refl _), k + 1, by omega, by go_num, hnew.out⟩
      case measure => simp [RowKit.intOf]; omega
    · have hkn : Hid (l.take k = l) := hid (List.take_of_length_le (by rw [hl.out]; omega))
      obtain rfl : k = n := by omega
      have hS0 : Hid (ISet wr w.heap.size k (fun x => decide (x ∈ fromsS l))) := hid (ISet.same hr fun x => by rw [hkn.out, decide_eq_decide]; exact (Rg.mem_sortD x _).symm)
      have hrise : Hid ((fromsS l).Pairwise (· < ·)) := hid (Rg.sortD_rising _)
      have hwr := hW.le
      clear hr hlt
      go_wp2_with (first
        | (go_at_call 105; refine (keysInt_call _ _).mono ?_; rintro e w1 ⟨rfl, rfl⟩)
        | (go_at_call 74; refine (sortedInt_call w.heap.size k (fun x => decide (x ∈ fromsS l)) (fromsS l) wr hS0.out hrise.out (by simp) (by omega)).mono ?_; rintro e w1 ⟨v2, rfl, hrow, hx1⟩; rw [encZ_flat2] at hrow; obtain ⟨A2, c2, rfl⟩ := YtebjiimlcnmfpaaGreatW.PrintWords.own_slice hrow))
      obtain ⟨F, hF⟩ : ∃ F, fromsS l = F := ⟨_, rfl⟩
      have hrise' := hrise.out
      obtain ⟨A2', c2', e2, hN2⟩ := sl_of_own (l := fromsS l) (c := intCs) (z := (0 : Int)) (hc := fun _ => rfl) hrow (by omega)
      cases e2
      have HF := hid hF
      rw [hF] at hFl hrise' hN2 ⊢
      have HN2 : Hid (Nums w1 A2 F.length F) := hid hN2
      have Hrise := hid hrise'
      have hmade2 := hid (IMap.made w1)
      have hw1 : Ext w w1 := hW.trans hx1
      have hw1l := hw1.le
      have HwfF : Hid (∀ q, q < F.length → I64 (inth F q)) := hid (fun q hq => by
        have h1 := inth_mem' hq
        rw [← HF.out] at h1
        obtain ⟨s, hs, he⟩ := List.mem_map.1 ((Rg.mem_sortD _ _).1 h1)
        rw [← HF.out, ← he]
        exact (HI.out s hs).1)
      clear hS0 hrise hrow hF hrise' hN2 hX hW hx1
      go_loopw [31] (fun i W => ∃ (q : Nat) (f : Int → Option Value), q ≤ F.length ∧ i = .int .i64 q ∧ RInv l F w1 (w1.heap.size + 1) w1.heap.size (k + 1) W f (fun _ => 1) ∧ Hid (∀ x, x ∈ F.take q ↔ (f x).isSome = true)) (fun i _ => F.length - (RowKit.intOf i).toNat)
      case atStart => exact ⟨0, fun _ => none, by omega, rfl, ⟨(Ext.refl _).alloc _, Nat.le_refl _, by omega, by simp, hmade2.out.mono (by omega), fun a v e => (by cases e), fun a a' v v' e => (by cases e)⟩, hid (fun x => by simp)⟩
      case round =>
        obtain ⟨q, f, hq1, rfl, hI, hk⟩ := hrel
        by_cases hq : q < F.length
        · obtain ⟨bb, oo, rfl, h0⟩ := HN2.out.opn (by omega)
          have hXr := hI.ext
          have hwf := hid (HwfF.out q hq)
          have hm2 := hid (ISet.made wr)
          go_wp2_with (first
            | (refine wp_ins rfl _ _ _ 125 4 rfl Tryz.underlying125 rfl hm2.out (by unfold maxLen; omega) (inth F q) (.bool true) rfl rfl hwf.out ?_; intro w2 hset2 hgrow2)
            | (at_mapUpdate; refine wp_put rfl _ _ _ 127 128 rfl Tryz.underlying127 rfl ((hI.map.ext ((Ext.refl wr).alloc (.map #[] 0))).kept hgrow2 (by have := hI.map.lt; simp; omega) |>.ext ((Ext.refl w2).alloc (.cells #[.map (some wr.heap.size)] 125))) (by unfold maxLen; omega) (inth F q) (.slice (some ⟨w2.heap.size, 0, none⟩) 1 1) rfl rfl hwf.out ?_; intro w4 hmap4 hgrow4))
          have hnot : f (inth F q) = none := by
            cases hfa : f (inth F q) with
            | none => rfl
            | some v =>
              exfalso
              have h1 := (hk.out (inth F q)).2 (by rw [hfa]; rfl)
              have h2 := (Rg.rising_nodup Hrise.out).sublist (List.take_sublist (q + 1) F)
              rw [inth_take hq] at h2
              exact (List.nodup_append.1 h2).2.2 _ h1 _ (by simp) rfl
          have hsm : ∀ x, x ∈ F.take (q + 1) ↔ (upd f (inth F q) (.slice (some ⟨w2.heap.size, 0, none⟩) 1 1) x).isSome = true := fun x => by
            rw [inth_take hq, List.mem_append, List.mem_singleton, hk.out x]
            unfold upd
            by_cases e : x = inth F q
            · simp [e]
            · simp [e]
          have hx2 : Ext wr w2 := Ext.grown ((Ext.refl wr).alloc (.map #[] 0)) hgrow2 (fun j e => by injection e with e; omega)
          have hset3 : ISet (w2.alloc (.cells #[.map (some wr.heap.size)] 125)) wr.heap.size (k + 1) (levS l (inth F q) 0) := ((hset2.congr (fun x => by rw [setF_upd]; simp [setF, Rg.lev])).ext ((Ext.refl w2).alloc _)).mono (by omega)
          have hrow3 : RRow l (w2.alloc (.cells #[.map (some wr.heap.size)] 125)) (w1.heap.size + 1) (k + 1) (inth F q) 1 (.slice (some ⟨w2.heap.size, 0, none⟩) 1 1) :=
            ⟨[wr.heap.size], rfl, World.ownsRow_lit w2 #[.map (some wr.heap.size)] 1 (by have := hI.hi; have := hx2.le; omega) (by unfold maxLen; omega) rfl, fun j hj => by
              obtain rfl : j = 0 := by omega
              exact ⟨hset3, hI.hi⟩⟩
          have hI4 := hI.put (W2 := w2.alloc (.cells #[.map (some wr.heap.size)] 125)) (row := none) (c' := fun _ => 1) (inth_mem' hq) Hrise.out (hx2.alloc _) (World.grownBy.refl _ none) (fun v hv => by rw [hnot] at hv; cases hv) (fun _ => rfl) (fun b es clock _ _ => by simp) (fun j e => by cases e)
            (.inr ⟨w2.heap.size, rfl, hx2.le⟩) hrow3 (Nat.le_refl _) (fun x _ => rfl) hmap4 hgrow4 (Hrise.out.sublist (List.take_sublist (q + 1) F)) hsm (by simp; omega) (by simp [Value.ownBlock])
          have hsm' := hid hsm
          clear hsm hset3 hrow3 hx2 hnot
          go_roundw
          case rel => exact ⟨q + 1, _, by omega, by go_num, hI4, hsm'⟩
          case measure => simp [RowKit.intOf]; omega
        · obtain rfl : q = F.length := by omega
          have hk' : Hid (∀ x, x ∈ F ↔ (f x).isSome = true) := hid (by have := hk.out; rwa [List.take_length] at this)
          have HI2 := hid hI
          clear hI hk hq
          go_wp2
          have HFr : Hid (FrRest l (Rg.find1 Stp.fr Stp.to_ l) 0) := hid rfl
          clear hmade2 hq1 hk1 hmade
          go_loopw [44] (fun i W => ∃ (m : Nat) (f : Int → Option Value), m ≤ F.length ∧ i = .int .i64 m ∧ RInv l F w1 (w1.heap.size + 1) w1.heap.size (k + 1) W f (fun _ => m + 1) ∧ Hid (∀ x, x ∈ F ↔ (f x).isSome = true) ∧ Hid (FrRest l (Rg.find1 Stp.fr Stp.to_ l) m)) (fun i _ => F.length - (RowKit.intOf i).toNat)
          case atStart => exact ⟨0, f, by omega, rfl, HI2.out, hk', HFr⟩
          case round =>
            clear HI2 hk' HFr
            obtain ⟨m, f, hm1, rfl, hI, hk, hfr⟩ := hrel
            by_cases hm : m < F.length
            · have HI3 := hid hI
              clear hI
              go_wp2
              go_loopw [48] (fun i W => ∃ (q : Nat) (f : Int → Option Value), q ≤ F.length ∧ i = .int .i64 q ∧ RInv l F w1 (w1.heap.size + 1) w1.heap.size (k + 1) W f (fun x => if x ∈ F.take q then m + 2 else m + 1) ∧ Hid (∀ x, x ∈ F ↔ (f x).isSome = true) ∧ Hid (∀ j, j < q → levS l (inth F j) (m + 1) (inth F j) = false)) (fun i _ => F.length - (RowKit.intOf i).toNat)
              case atStart => exact ⟨0, f, by omega, rfl, by simpa using HI3.out, hk, hid (fun j hj => by omega)⟩
              case round =>
                clear HI3 hk
                obtain ⟨q, f, hq1, rfl, hI, hk, hlow⟩ := hrel
                by_cases hq : q < F.length
                · obtain ⟨bb, oo, rfl, h0⟩ := HN2.out.opn (by omega)
                  have hXr := hI.ext
                  have hwf := hid (HwfF.out q hq)
                  have hmem := hid (inth_mem' hq)
                  obtain ⟨a, ha⟩ : ∃ a, inth F q = a := ⟨_, rfl⟩
                  have hnot : ¬ a ∈ F.take q := fun h1 => by
                    have h2 := (Rg.rising_nodup Hrise.out).sublist (List.take_sublist (q + 1) F)
                    rw [inth_take hq] at h2
                    exact (List.nodup_append.1 h2).2.2 _ h1 _ (by simp) ha.symm
                  have hts := hid (inth_take hq)
                  rw [ha] at hwf hmem hts
                  obtain ⟨v, hfa⟩ : ∃ v, f a = some v := by
                    have := (hk.out a).1 hmem.out
                    cases hfa : f a with
                    | none => rw [hfa] at this; cases this
                    | some v => exact ⟨v, rfl⟩
                  obtain ⟨_, _, hrow⟩ := hI.row a v hfa
                  simp only [if_neg hnot] at hrow
                  have HA := hid ha
                  have Hnot := hid hnot
                  have Hrow := hid hrow
                  obtain ⟨g, gcap, rfl, hgB, hgl, bs, hbs⟩ := hrow.form (by omega)
                  obtain ⟨hcm, hsm⟩ := hbs m (by omega)
                  have HSm := hid hsm
                  have h0q := h0 wr q hXr hq
                  rw [ha] at h0q
                  have hfv : Hid ((f a).getD (.slice none 0 0) = .slice (some ⟨g, 0, none⟩) (m + 1) gcap) := hid (by rw [hfa]; rfl)
                  have Hfa := hid hfa
                  clear ha hnot hrow hbs hsm hfa h0
                  go_wp2_with (first
                    | (at_lookup; refine wp_look rfl _ _ 127 128 rfl Tryz.underlying127 (Tryz.zeroValue128 _) rfl hI.map a rfl hwf.out (.slice (some ⟨g, 0, none⟩) (m + 1) gcap) hfv.out ?_)
                    | (go_at_call 106; refine (r_back wr A k cap l (bs m) (k + 1) (levS l a m) (HE.out.ext (hw1.trans hI.ext)) HI.out HSm.out).mono ?_; rintro e w2 ⟨g2, rfl, hset2, hge2, hx2⟩))
                  obtain ⟨bsl, e1, e2, e3⟩ := Hrow.out
                  have hhi := hI.hi
                  have hx2l := hx2.le
                  have hown2 := own_ext e2 hhi hx2
                  obtain ⟨v', w3, hrun, hown3, hgrow3, hat3⟩ := app_map hown2 (by omega) (by omega) 128 g2
                  rw [hrun]
                  have hset3 : ISet w3 g2 (k + 1) (levS l a (m + 1)) := (IMap.mono (show ISet w2 g2 k (levS l a (m + 1)) from hset2) (by omega)).kept hgrow3 (hset2.ne_row hown2)
                  have hrow3 : RRow l w3 (w1.heap.size + 1) (k + 1) a (m + 2) v' := by
                    have := RRow.snoc (l := l) (N := k + 1) (a := a) hown3 (fun j hj => ⟨((e3 j (by omega)).1.ext hx2).kept hgrow3 (((e3 j (by omega)).1.ext hx2).ne_row hown2), (e3 j (by omega)).2⟩) (by rw [e1]; exact hset3) (by omega)
                    rwa [e1] at this
                  have hmap3 : IMap w3 w1.heap.size F.length f := (hI.map.ext hx2).kept hgrow3 (fun e => by have := own_block hown2 _ e.symm; omega)
                  obtain ⟨g3, cap3, rfl, hg3B, hg3l, bs3, hbs3⟩ := hrow3.form (by omega)
                  obtain ⟨hc3, hs3⟩ := hbs3 (m + 1) (by omega)
                  have hx3 : Ext w1 w3 := Ext.grown (hI.ext.trans hx2) hgrow3 (fun j hj => by have := own_block hown2 j hj; omega)
                  have HS3 := hid hs3
                  have HB3 := hid hbs3
                  have Hrow3 := hid hrow3
                  have Hown2 := hid hown2
                  clear e1 e2 e3 hown3 hset3 hrow3 hbs3 hs3 hset2 hcm h0q hown2
                  cases hlv : levS l a (m + 1) a
                  · have hlv' := hid hlv
                    clear hlv
                    go_wp2_with (first
                      | (at_lookup; refine wp_look rfl _ _ 125 4 rfl Tryz.underlying125 (Tryz.zeroValue4 _) rfl HS3.out a rfl hwf.out (.bool false) (by rw [setF_get, hlv'.out]) ?_)
                      | (at_mapUpdate; refine wp_put rfl _ _ _ 127 128 rfl Tryz.underlying127 rfl hmap3 (by unfold maxLen; omega) a (.slice (some ⟨g3, 0, none⟩) (m + 2) cap3) rfl rfl hwf.out ?_; intro w4 hmap4 hgrow4))
                    have hmem2 : ∀ x, x ∈ F.take (q + 1) ↔ x ∈ F.take q ∨ x = a := fun x => by rw [hts.out, List.mem_append, List.mem_singleton]
                    have hsm4 : ∀ x, x ∈ F ↔ (upd f a (.slice (some ⟨g3, 0, none⟩) (m + 2) cap3) x).isSome = true := fun x => by
                      unfold upd
                      by_cases e : x = a
                      · subst e; simp [hmem.out]
                      · rw [if_neg e]; exact hk.out x
                    have hI4 := hI.put (W2 := w2) (c' := fun x => if x ∈ F.take (q + 1) then m + 2 else m + 1) hmem.out Hrise.out hx2 hgrow3 (fun v hv => by rw [Hfa.out] at hv; injection hv with hv; rw [hv]) (fun e => by rw [Hfa.out] at e; cases e) (row_no_map Hown2.out)
                      (fun j hj => own_block Hown2.out j hj) (by
                        rcases hat3 with h | ⟨b, h, hb⟩
                        · exact .inl h
                        · exact .inr ⟨b, h, by omega⟩) (by simp only [(hmem2 a).2 (.inr rfl), if_true]; exact Hrow3.out) (by simp only [(hmem2 a).2 (.inr rfl), if_true]; omega) (fun x hx => by
                        have : (x ∈ F.take (q + 1)) = (x ∈ F.take q) := propext ⟨fun h => ((hmem2 x).1 h).resolve_right hx, fun h => (hmem2 x).2 (.inl h)⟩
                        simp only [this]) hmap4 hgrow4 Hrise.out hsm4 (Nat.le_refl _) (by simp [Value.ownBlock])
                    have hsm4' := hid hsm4
                    have hlow' : Hid (∀ j, j < q + 1 → levS l (inth F j) (m + 1) (inth F j) = false) := hid (fun j hj => by
                      by_cases e : j = q
                      · rw [e, HA.out]; exact hlv'.out
                      · exact hlow.out j (by omega))
                    clear hmem2 hsm4
                    go_roundw
                    case rel => exact ⟨q + 1, _, by omega, by go_num, hI4, hsm4', hlow'⟩
                    case measure => simp [RowKit.intOf]; omega
                  · have hlv' := hid hlv
                    clear hlv
                    go_wp2_with (first
                      | (at_lookup; refine wp_look rfl _ _ 125 4 rfl Tryz.underlying125 (Tryz.zeroValue4 _) rfl HS3.out a rfl hwf.out (.bool true) (by rw [setF_get, hlv'.out]) ?_)
                      | (go_at_call 107; refine (r_along w3 A k cap l a g3 0 (m + 2) cap3 (k + 1) bs3 (HE.out.ext (hw1.trans hx3)) HI.out hn (by omega) (by omega) (fun j hj => by rw [Nat.zero_add]; exact (HB3.out j hj).1) (fun j hj => (HB3.out j hj).2) hlv'.out).mono ?_; rintro e w4 ⟨v4, rfl, hown4, hx4⟩))
                    have hR2 : R = (alongS l a (m + 1) a, true) := by
                      rw [← HR.out]
                      refine ringS_some (hfr.out.hit (by rw [HF.out]; exact hm) ?_)
                      rw [HF.out, ← HA.out]
                      exact find_at hq (by rw [HA.out]; exact hlv'.out) (fun j hj => hlow.out j hj)
                    go_ret2
                    rw [show m + 2 - 1 = m + 1 by omega] at hown4
                    refine ⟨v4, by rw [hR2]; rfl, ?_, (hw1.trans hx3).trans hx4⟩
                    rw [hR2]
                    have hle4 := hx3.le
                    obtain ⟨h1, h2 | ⟨g, cap, cur, h3, h4, h5⟩⟩ := hown4
                    · exact ⟨h1, .inl h2⟩
                    · exact ⟨h1, .inr ⟨g, cap, cur, h3, Nat.le_trans (by omega) h4, h5⟩⟩
                · obtain rfl : q = F.length := by omega
                  have hI' : RInv l F w1 (w1.heap.size + 1) w1.heap.size (k + 1) wr f (fun _ => m + 1 + 1) := ⟨hI.ext, hI.lo, hI.mid, hI.hi, hI.map, fun a v hv => by
                    obtain ⟨h1, h2, h3⟩ := hI.row a v hv
                    rw [List.take_length, if_pos h1] at h2 h3
                    exact ⟨h1, by omega, h3⟩, hI.apart⟩
                  have hfr' : Hid (FrRest l (Rg.find1 Stp.fr Stp.to_ l) (m + 1)) := hid (hfr.out.miss (by rw [HF.out]; exact hm) (by rw [HF.out]; exact find_no fun j hj => hlow.out j hj))
                  clear hI hlow hfr
                  go_wp2
                  go_roundw
                  case rel => exact ⟨m + 1, f, by omega, by go_num, hI', hk, hfr'⟩
                  case measure => simp [RowKit.intOf]; omega
            · have hR2 : Hid (R = ([], false)) := hid (by
                rw [← HR.out]
                exact ringS_none (hfr.out.done (by rw [HF.out]; omega)))
              have hx4 := hI.ext
              go_wp2
              go_ret2
              refine ⟨_, by rw [hR2.out]; rfl, ?_, hw1.trans hx4⟩
              rw [hR2.out]
              exact World.ownsRow_nil _ _ _ _
end
end
end Go.Proofs.YtebjiimlcnmfpaaGreat
