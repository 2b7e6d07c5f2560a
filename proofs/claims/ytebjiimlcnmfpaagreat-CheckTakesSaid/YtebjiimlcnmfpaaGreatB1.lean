/-
  Contracts of functions walked by hand, as the printed ones read them
-/
import Derived.Maps.Own
import Derived.Maps.OwnOps
import Derived.Maps.OwnSet
import Derived.Test.YtebjiimlcnmfpaaGreatLays
import Derived.Test.YtebjiimlcnmfpaaGreatA2
import Derived.Lib.OwnBridge
import Derived.Lib.QuietBelow
import Derived.Test.YtebjiimlcnmfpaaGreatPr0
import Derived.Test.YtebjiimlcnmfpaaGreatA1
import Derived.Test.YtebjiimlcnmfpaaGreatA8
import Derived.Test.YtebjiimlcnmfpaaGreatA3
import Derived.Test.YtebjiimlcnmfpaaGreatA4
import Derived.Test.YtebjiimlcnmfpaaGreatA6
import Derived.Test.YtebjiimlcnmfpaaGreatA12
import Derived.Test.YtebjiimlcnmfpaaGreatA20
import Derived.Test.YtebjiimlcnmfpaaGreatWMore
import Derived.Test.YtebjiimlcnmfpaaGreatA21
section
set_option linter.unusedVariables false
set_option linter.unusedSimpArgs false
namespace Go.Proofs.YtebjiimlcnmfpaaGreat
section
open Go Go.RowKit Go.Proofs Go.Shelf Go.Maps Go.Sort Go.ChangeMaps
attribute [local go_sem] Ext.alloc Ext.alloc2 Ext.alloc3 Ext.alloc4 Ext.drewN_alloc Ext.drewN_alloc2 Ext.drew_alloc Ext.drew Ext.drewN toList_beq

theorem sortsStr (m : Nat) : AnyZ.SortsIn Tryz.prog sortedStr_ren Fence.wide m :=
  ⟨fun blk off cap ss W hH hblk hsz => callsIn_wide.2 (AnyM.slices_Sort_string sortStr blk off cap ss W hH hblk hsz),
   fun p cap W => callsIn_wide.2 (AnyM.slices_Sort_string_none sortStr p cap W)⟩
theorem keysStr_call (mb : Option Nat) (W : World) : Calls Tryz.prog 85 #[.map mb] W fun e w' => e = .returned (.func (.func 118) #[] #[.pointer (some ⟨W.heap.size, 0, none⟩)]) ∧ w' = W.alloc (.cells #[.map mb] 108) :=
  (callsIn_wide (n := 5)).1 (AnyZ.keys_in keysStr Fence.wide 5 trivial rfl mb W)
theorem sortedStr_call {H : Type} (b nn : Nat) (D0 : DataW H) (R : Value → Option (DataW H × List MemPlace)) (w : World) (hown : w.ownsMap Tryz.prog 9 R b nn D0) (hmax : Maps.size D0 ≤ maxLen) (hbytes : Maps.size D0 * 16 ≤ 140737488355328) :
    Calls Tryz.prog 84 #[.func (.func 118) #[] #[.pointer (some ⟨w.heap.size, 0, none⟩)]] (w.alloc (.cells #[.map (some b)] 108)) fun e w' => ∃ (v : Value) (ss : List (List UInt8)), e = .returned v ∧ ss.Perm (strKeys D0) ∧
      w'.ownsRow w.heap.size 9 1 v ss.length ((ss.mergeSort (fun x y => decide (x ≤ y))).map encStr) ∧ Ext w w' := by
  have hbl := hown.lt
  have hseq : SeqGives Fence.wide 2 Tryz.prog 118 #[.pointer (some ⟨w.heap.size, 0, none⟩)] encStr (fun ss => ss.Perm (strKeys D0)) (Maps.size D0) (w.alloc (.cells #[.map (some b)] 108)) :=
    AnyZ.keys_gives (ρ := keysStr_ren) { keysStr with } Fence.wide _ trivial rfl (by omega) w.heap.size b nn D0 _ (by simp) (by simp) (by
      obtain ⟨es, clock, hb, Ft, hs, hD⟩ := hown
      exact ⟨es, clock, (Below.heap_alloc _ _ b hbl).trans hb, Ft, hs, hD⟩)
  have cS := AnyZ.sorted_in sortedStr Fence.wide 5 trivial trivial trivial trivial rfl (by omega) (sortsStr _) (enters_of Tryz.func117 (by kernel_rfl) rfl) 118 #[.pointer (some ⟨w.heap.size, 0, none⟩)] trivial (enters_of Tryz.func118 (by kernel_rfl) rfl) _ _ hmax hbytes _ hseq
  change CallsIn _ _ Tryz.prog 84 _ _ _ at cS
  refine (callsIn_wide.1 cS).mono ?_
  rintro e w' ⟨v, ss, rfl, hS, hrow, hnil, hb⟩
  exact ⟨v, ss, rfl, hS, ownsRow_base_a hrow (by simp), ((Below.refl _ w).alloc (Nat.le_refl _) _).trans (hb.mono (by simp))⟩

theorem strKeys_spec {H : Type} {P : Program} {k : TypeId} {R : Value → Option (DataW H × List MemPlace)} {w : World} {b n : Nat} {D : DataW H} (h : w.ownsMap P k R b n D) (K : Keyed P k) (hk : P.underlying k = some .string) :
    (strKeys D).Nodup ∧ ∀ x, x ∈ strKeys D ↔ has D (.string x) = true := by
  obtain ⟨es, hD, hpw, _⟩ := h.entries K
  obtain ⟨es', hD', hko⟩ := h.keysOf
  obtain rfl : es = es' := by rw [hD] at hD'; simpa using hD'
  subst hD
  have hks : ∀ p ∈ es, ∃ x, p.1 = .string x := fun p hp => by obtain ⟨v, hv⟩ := hko p hp; obtain ⟨x, _, hx, _⟩ := Maps.keyOf_str hk hv; exact ⟨x, hx⟩
  refine ⟨?_, fun x => ?_⟩
  · show (es.map fun p => strOf p.1).Nodup
    refine List.pairwise_map.2 (hpw.imp_of_mem fun {p q} hp' hq' hne e => hne ?_)
    obtain ⟨a, ha⟩ := hks p hp'
    obtain ⟨b, hb⟩ := hks q hq'
    rw [ha, hb] at e ⊢
    exact congrArg _ e
  · rw [has_eq, List.any_eq_true]
    show x ∈ es.map (fun p => strOf p.1) ↔ _
    rw [List.mem_map]
    constructor
    · rintro ⟨p, hp', rfl⟩
      obtain ⟨a, ha⟩ := hks p hp'
      exact ⟨p, hp', by rw [ha]; simp [Lit.sameKey, strOf]⟩
    · rintro ⟨p, hp', hs⟩
      obtain ⟨a, ha⟩ := hks p hp'
      rw [ha] at hs
      exact ⟨p, hp', by rw [ha]; simpa [Lit.sameKey, strOf] using hs⟩

/-- The keys that reads and writes bear, as bytes. -/
def keyed (x : Go.Proofs.YtebjiimlcnmfpaaGreat.Ev) : Bool := x.kind == 2 || x.kind == 3
def keyBytes (l : List Go.Proofs.YtebjiimlcnmfpaaGreat.Ev) : List (List UInt8) := (l.filter keyed).map fun x => x.key.data.toList
/-- r is all keys, each once, rising. -/
def KeysAre (l : List Go.Proofs.YtebjiimlcnmfpaaGreat.Ev) (r : List (List UInt8)) : Prop := r.Pairwise (· < ·) ∧ ∀ x, x ∈ r ↔ x ∈ keyBytes l

theorem lawStr : Keyed Tryz.prog 9 := string_keyed Tryz.underlying9

theorem keyBytes_step {l : List Go.Proofs.YtebjiimlcnmfpaaGreat.Ev} {k : Nat} (h : k < l.length) : keyBytes (l.take (k + 1)) = keyBytes (l.take k) ++ (if keyed (nth l k) = true then [(nth l k).key.data.toList] else []) := by
  unfold keyBytes
  rw [List.take_succ_eq_append_getElem h, ← nth_lt h, List.filter_append, List.map_append]
  congr 1
  by_cases hp : keyed (nth l k) = true <;> simp [hp]
theorem put_keys {w : World} {b n : Nat} {R : Value → Option (DataW Unit × List MemPlace)} {D : DataW Unit} {x0 : List UInt8} {d : DataW Unit} {ks ks' : List (List UInt8)} (hown : w.ownsMap Tryz.prog 9 R b n D) (h : ∀ x, has D (.string x) = true ↔ x ∈ ks) (hs : ks' = ks ++ [x0]) :
    ∀ x, has (D.put (.string x0) d) (.string x) = true ↔ x ∈ ks' := by
  intro x
  by_cases e : x = x0
  · subst e
    rw [has_put_same hown.isMap (by trivial)]
    simp [hs]
  · rw [has_put_other (by simpa using e), h x, hs]
    simp [e]
theorem sorted_keys {w : World} {b n : Nat} {R : Value → Option (DataW Unit × List MemPlace)} {D : DataW Unit} {l : List Go.Proofs.YtebjiimlcnmfpaaGreat.Ev} {ss : List (List UInt8)} (hown : w.ownsMap Tryz.prog 9 R b n D) (h : ∀ x, has D (.string x) = true ↔ x ∈ keyBytes l) (hp : ss.Perm (strKeys D)) :
    KeysAre l (ss.mergeSort (fun x y => decide (x ≤ y))) := by
  obtain ⟨h1, h2⟩ := strKeys_spec hown lawStr Tryz.underlying9
  have tr : ∀ a b c : List UInt8, leB a b = true → leB b c = true → leB a c = true := fun a b c h1 h2 => by simp only [leB, decide_eq_true_eq] at *; exact List.le_trans h1 h2
  have tot : ∀ a b : List UInt8, (leB a b || leB b a) = true := fun a b => by simp only [leB, Bool.or_eq_true, decide_eq_true_eq]; exact List.le_total a b
  have hpm := List.mergeSort_perm ss leB
  have hs := List.pairwise_mergeSort tr tot ss
  have hnd : (ss.mergeSort leB).Nodup := (hpm.trans hp).symm.nodup h1
  refine ⟨?_, fun x => ?_⟩
  · refine (hs.and hnd).imp fun {a b} hab => ?_
    have hle : a ≤ b := by simpa [leB] using hab.1
    exact Std.lt_of_le_of_ne hle hab.2
  · rw [← h x, ← h2 x]
    exact (hpm.trans hp).mem_iff

set_option maxRecDepth 100000 in
set_option maxHeartbeats 2000000 in
theorem h_keys (w : World) (A : Option Addr) (n cap : Nat) (l : List Go.Proofs.YtebjiimlcnmfpaaGreat.Ev) (hE : Evs w A n l) (hn : n ≤ 1000000) (hk : ∀ x ∈ l, x.key.size ≤ maxLen) :
    Calls Tryz.prog 47 #[.slice A n cap] w fun e w' => ∃ v r, e = .returned v ∧ KeysAre l r ∧ w'.ownsRow w.heap.size 9 1 v r.length (r.map encStr) ∧ Ext w w' := by
  have hX := Ext.refl w
  have hbig := hE.big
  have hl := hid hE.len
  have HE := hid hE
  have HK := hid hk
  have hmm := @run_makeMap Tryz.prog
  clear hE hk
  go_enter Tryz.func47, Tryz.ntmps47
  go_wp2
  have hmade := World.ownsMap_made w Tryz.prog 9 (plainElem (H := Unit) Tryz.prog 4)
  go_loopw [9] (fun i W => Ext w W ∧ ∃ (k : Nat) (D : DataW Unit), k ≤ n ∧ i = .int .i64 k ∧ W.ownsMap Tryz.prog 9 (plainElem Tryz.prog 4) w.heap.size k D ∧ Hid (∀ x, has D (.string x) = true ↔ x ∈ keyBytes (l.take k))) (fun i _ => n - (intOf i).toNat)
  case atStart => exact ⟨hX.alloc _, 0, .map [], by omega, rfl, hmade, hid (by intro x; simp [keyBytes, has])⟩
  case round =>
    obtain ⟨hW, k, D, hk1, rfl, hown, hr⟩ := hrel
    by_cases hlt : k < n
    · obtain ⟨b, o, rfl, h0, h1, h2, h3⟩ := HE.out.opn (by omega)
      have hst : Hid (keyBytes (l.take (k + 1)) = keyBytes (l.take k) ++ (if keyed (nth l k) = true then [(nth l k).key.data.toList] else [])) := hid (keyBytes_step (by rw [hl.out]; exact hlt))
      have hkey : Hid (keyOf Tryz.prog 9 (.string (nth l k).key) = some (.string (nth l k).key.data.toList)) := hid (Go.WideMaps.keyOf_string_mk Tryz.underlying9 (HK.out _ (by rw [nth_lt (show k < l.length by rw [hl.out]; exact hlt)]; exact List.getElem_mem _)))
      have hown1 := hown.alloc (.cells #[.int .i64 (nth l k).kind, .int .i64 (nth l k).txn, .string (nth l k).key, .string (nth l k).val] 50)
      by_cases hk2 : (nth l k).kind = 2
      · have kb2 : ((nth l k).kind == 2) = true := by rw [hk2]; rfl
        have kb3 : ((nth l k).kind == 3) = false := by rw [hk2]; rfl
        have hin : Hid (∀ x, has (D.put (.string (nth l k).key.data.toList) (.lit (.bool true))) (.string x) = true ↔ x ∈ keyBytes (l.take (k + 1))) := hid (put_keys hown hr.out (by rw [hst.out, if_pos (by unfold keyed; rw [kb2, kb3]; rfl)]))
        clear hk2
        go_wp2_with (at_mapUpdate; refine wpList_mapUpdate_own _ rfl _ _ _ 108 rfl 9 4 lawStr Tryz.underlying108 _ w.heap.size k D rfl hown1 (by unfold maxLen; omega) _ _ _ rfl rfl hkey.out _ [] (plainElem_bool Tryz.underlying4 true) ?_; intro w1 hown2 hgrow2)
        go_roundw
        case rel => exact ⟨Ext.grown (hW.alloc _) hgrow2 (fun j e => by cases e; exact Nat.le_refl _), k + 1, _, by omega, by go_num, hown2, hin⟩
        case measure => simp [intOf]; omega
      · by_cases hk3 : (nth l k).kind = 3
        · have kb2 : ((nth l k).kind == 2) = false := beq_eq_false_iff_ne.2 hk2
          have kb3 : ((nth l k).kind == 3) = true := by rw [hk3]; rfl
          have hin : Hid (∀ x, has (D.put (.string (nth l k).key.data.toList) (.lit (.bool true))) (.string x) = true ↔ x ∈ keyBytes (l.take (k + 1))) := hid (put_keys hown hr.out (by rw [hst.out, if_pos (by unfold keyed; rw [kb2, kb3]; rfl)]))
          clear hk2 hk3
          go_wp2_with (at_mapUpdate; refine wpList_mapUpdate_own _ rfl _ _ _ 108 rfl 9 4 lawStr Tryz.underlying108 _ w.heap.size k D rfl hown1 (by unfold maxLen; omega) _ _ _ rfl rfl hkey.out _ [] (plainElem_bool Tryz.underlying4 true) ?_; intro w1 hown2 hgrow2)
          go_roundw
          case rel => exact ⟨Ext.grown (hW.alloc _) hgrow2 (fun j e => by cases e; exact Nat.le_refl _), k + 1, _, by omega, by go_num, hown2, hin⟩
          case measure => simp [intOf]; omega
        · have kb2 : ((nth l k).kind == 2) = false := beq_eq_false_iff_ne.2 hk2
          have kb3 : ((nth l k).kind == 3) = false := beq_eq_false_iff_ne.2 hk3
          have hin : Hid (∀ x, has D (.string x) = true ↔ x ∈ keyBytes (l.take (k + 1))) := hid (by rw [hst.out, if_neg (by unfold keyed; rw [kb2, kb3]; simp), List.append_nil]; exact hr.out)
          clear hk2 hk3
          go_wp2
          go_roundw
          case rel => exact ⟨hW.alloc _, k + 1, D, by omega, by go_num, hown1.mono (by omega), hin⟩
          case measure => simp [intOf]; omega
    · have hmem : Hid (∀ x, has D (.string x) = true ↔ x ∈ keyBytes l) := hid (by have := hr.out; rwa [List.take_of_length_le (by rw [hl.out]; omega)] at this)
      have hsz := hown.size_le
      go_wp2_with (first
        | (go_at_call 85; refine (keysStr_call _ _).mono ?_; rintro e w1 ⟨rfl, rfl⟩)
        | (go_at_call 84; refine (sortedStr_call w.heap.size k D _ _ hown (by unfold maxLen; omega) (by omega)).mono ?_; rintro e w1 ⟨v, ss, rfl, hS, hrow, hx1⟩))
      go_ret
      refine ⟨v, _, rfl, sorted_keys hown hmem.out hS, ?_, hW.trans hx1⟩
      rw [List.length_mergeSort]
      exact ownsRow_base_a hrow hW.le
end
end Go.Proofs.YtebjiimlcnmfpaaGreat
end
section
/-! Rows as the printed contracts read them, and as the walks by hand read them. -/
set_option linter.unusedVariables false
set_option linter.unusedSimpArgs false
namespace Go.Proofs.YtebjiimlcnmfpaaGreatPr
open Go.Proofs.YtebjiimlcnmfpaaGreat
section
open Go Go.RowKit

theorem add_flat (b o m : Nat) : (⟨b, o, none⟩ : Addr).add m = ⟨b, o + m, none⟩ := by unfold Addr.add; split <;> simp_all
theorem spot_none {w : World} {ad : Addr} {v : Value} (h : w.cell? ad = some v) : ad.spot = none := by
  unfold World.cell? at h
  split at h
  · split at h
    · cases h
    · rename_i hs
      simpa using hs
  · cases h
/-- A row that is read, in the words of the walks by hand. -/
theorem sl_of {α β : Type} (d : YtebjiimlcnmfpaaGreatW.PrintWords.Kd α) (c : α → List Value) (hK : ∀ {w x cs}, d.K w x cs → cs = c x) (k : Go.Proofs.YtebjiimlcnmfpaaGreat.Kd β) (f : α → β) (hsz : k.sz = d.sz) (hpos : 0 < d.sz) (hR : ∀ w x, k.R w (f x) (c x))
    {w : World} {A : Option Addr} {n : Nat} {xs : List α} (h : YtebjiimlcnmfpaaGreatW.PrintWords.Kd.C d w A n xs) (hn : n ≤ 140737488351232) : Sl k w A n (xs.map f) := by
  obtain ⟨hl, _, hg⟩ := h
  refine ⟨by simpa using hl, hn, fun hp => ?_⟩
  obtain ⟨ad, rfl, hc⟩ := hg hp
  have h0 : ad.spot = none := by
    obtain ⟨cs, h1, h2, h3⟩ := hc 0 _ (List.getElem?_eq_getElem (by omega))
    have h4 := h3 0 _ (List.getElem?_eq_getElem (by omega))
    have h5 : ad.add (0 * d.sz + 0) = ad := by simp [Addr.add]
    rw [h5] at h4
    exact spot_none h4
  obtain ⟨b, o, s⟩ := ad
  obtain rfl : s = none := h0
  refine ⟨b, o, rfl, fun i hi => ?_⟩
  obtain ⟨cs, h1, h2, h3⟩ := hc i _ (List.getElem?_eq_getElem (by omega))
  obtain rfl := hK h2
  refine ⟨c xs[i], ?_, fun j u hu => ?_⟩
  · have e : (xs.map f).getD i k.z = f xs[i] := by simp [List.getD_eq_getElem?_getD, List.getElem?_eq_getElem (show i < xs.length by omega)]
    rw [e]
    exact hR _ _
  · have h4 := h3 j u hu
    rw [add_flat] at h4
    rw [hsz, Nat.add_assoc]
    exact h4

theorem flat_drop {β : Type} {c : β → List Value} {m : Nat} (hlen : ∀ y, (c y).length = m) : ∀ (ys : List β) (j : Nat) (y : β), ys[j]? = some y → ((ys.flatMap c).drop (j * m)).take m = c y
  | [], j, y, h => by simp at h
  | x :: r, 0, y, h => by
    obtain rfl : x = y := by simpa using h
    simp only [List.flatMap_cons, Nat.zero_mul, List.drop_zero]
    rw [List.take_append_of_le_length (by rw [hlen]; omega), List.take_of_length_le (by rw [hlen]; omega)]
  | x :: r, j + 1, y, h => by
    have h' : r[j]? = some y := by simpa using h
    have e : (j + 1) * m = (c x).length + j * m := by rw [hlen, Nat.add_mul]; omega
    simp only [List.flatMap_cons]
    rw [e, List.drop_append, List.drop_of_length_le (by omega), List.nil_append, show (c x).length + j * m - (c x).length = j * m by omega]
    exact flat_drop hlen r j y h'
theorem flat_len {β : Type} {c : β → List Value} {m : Nat} (hlen : ∀ y, (c y).length = m) : ∀ (ys : List β), (ys.flatMap c).length = ys.length * m
  | [] => by simp
  | x :: r => by simp only [List.flatMap_cons, List.length_append, List.length_cons, hlen, flat_len hlen r, Nat.add_mul]; omega
/-- A row of the call's own, in the printed words. -/
theorem r_of {α β : Type} (d : YtebjiimlcnmfpaaGreatW.PrintWords.Kd α) (e : Nat) (c : β → List Value) (g : β → α) (hM : ∀ w base ok (y : β), d.M w base ok (g y) (c y)) (hlen : ∀ y, (c y).length = d.sz)
    {w : World} {base : Nat} {v : Value} {ys : List β} (h : w.ownsRow base e d.sz v ys.length (ys.flatMap c)) : YtebjiimlcnmfpaaGreatW.PrintWords.Kd.R d e w base (fun _ => True) v (ys.map g) := by
  refine ⟨fun _ _ => trivial, ys.flatMap c, by simpa using h, by rw [flat_len hlen, List.length_map], fun j p hj => ?_⟩
  rw [List.getElem?_map] at hj
  obtain ⟨y, hy, rfl⟩ := Option.map_eq_some_iff.1 hj
  rw [flat_drop hlen ys j y hy]
  exact hM _ _ _ _

/-! ### events -/
def toEv (x : S50) : Ev := ⟨x.f0, x.f1, x.f2, x.f3⟩
def evs (l : List S50) : List Ev := l.map toEv
theorem evs_len (l : List S50) : (evs l).length = l.length := by simp [evs]
theorem evs_of {w : World} {A : Option Addr} {n : Nat} {xs : List S50} (h : YtebjiimlcnmfpaaGreatW.PrintWords.Kd.C k50 w A n xs) (hn : n ≤ 140737488351232) : Evs w A n (evs xs) :=
  sl_of k50 (fun x => (toEv x).cs) (fun h => k50_open h) kEv toEv rfl (by decide) (fun _ _ => rfl) h hn

end
end Go.Proofs.YtebjiimlcnmfpaaGreatPr

/-! For the rows: slices among the arguments, read as the printed contracts read them. -/
namespace Go.Proofs.YtebjiimlcnmfpaaGreatPr
open Go.Proofs.YtebjiimlcnmfpaaGreat
section
open Go Go.RowKit Go.Proofs Go.ChangeShapes Go.WideShapes Go.Deep
set_option linter.unusedSimpArgs false
set_option linter.unusedVariables false

section
variable {H : Type} {enc : TypeId × Value → H} {P : Program} {w : World} {base : Nat} {spare : Nat → Bool} {held : Bool}

theorem choose_row {α : Type} (R : Nat → α → Prop) : ∀ n, (∀ i, i < n → ∃ x, R i x) → ∃ l : List α, l.length = n ∧ ∀ i x, l[i]? = some x → R i x
  | 0, _ => ⟨[], rfl, fun i x hi => by simp at hi⟩
  | n + 1, h => by
    obtain ⟨l, hl, hg⟩ := choose_row R n fun i hi => h i (by omega)
    obtain ⟨x, hx⟩ := h n (by omega)
    refine ⟨l ++ [x], by simp [hl], fun i y hy => ?_⟩
    by_cases e : i < n
    · rw [List.getElem?_append_left (by omega)] at hy
      exact hg i y hy
    · have hi : i < (l ++ [x]).length := (List.getElem?_eq_some_iff.1 hy).1
      rw [List.length_append, List.length_singleton] at hi
      obtain rfl : i = n := by omega
      rw [List.getElem?_append_right (by omega), hl] at hy
      obtain rfl : x = y := by simpa using hy
      exact hx

/-- A slice, by its cells, as a list of what its elements are read as. -/
theorem cells_C {α : Type} (d : YtebjiimlcnmfpaaGreatW.PrintWords.Kd α) (Q : α → Prop) {t e : TypeId} {A : Option Addr} {n cap fuel : Nat} {x : DataW H × List MemPlace}
    (ht : P.underlying t = some (.slice e)) (hC : P.cellsOf e = d.sz)
    (hk : ∀ m cs x, DataW.trod enc P w base spare held m e cs = some x → cs.length = d.sz → ∃ v, d.K w v cs ∧ Q v)
    (h : DataW.trod enc P w base spare held fuel t [.slice A n cap] = some x) : ∃ l : List α, l.length = n ∧ n ≤ cap ∧ YtebjiimlcnmfpaaGreatW.PrintWords.Kd.C d w A l.length l ∧ ∀ y ∈ l, Q y := by
  rcases open_slice ht h with ⟨hcs, _⟩ | ⟨a, len, cap', m, f, D, Pl, hcs, hb, hl, hm, hmm, hx, hi⟩
  · simp at hcs
    obtain ⟨rfl, rfl, rfl⟩ := hcs
    exact ⟨[], rfl, Nat.le_refl _, ⟨rfl, by simp, fun hn => by simp at hn⟩, fun y hy => by cases hy⟩
  · simp at hcs
    obtain ⟨rfl, rfl, rfl⟩ := hcs
    have hnm : n ≤ m := by rw [hmm]; split <;> omega
    have hch : ∀ i, i < n → ∃ y, (Q y ∧ ∃ cs, cs.length = d.sz ∧ d.K w y cs ∧ ∀ j u, cs[j]? = some u → w.cell? (a.add (i * d.sz + j)) = some u) := fun i hin => by
      obtain ⟨cs', hc, ht'⟩ := hi i (by omega)
      rw [hC] at hc
      obtain ⟨_, hcl, hat⟩ := World.cells?_some hc
      obtain ⟨v, hR, hQ⟩ := hk f cs' _ ht' hcl
      refine ⟨v, hQ, cs', hcl, hR, fun j u hu => ?_⟩
      have hj : j < d.sz := by rw [← hcl]; exact (List.getElem?_eq_some_iff.1 hu).1
      rw [← Go.Deep.add_add, hat j hj, hu]
    obtain ⟨l, hl', hg⟩ := choose_row _ n hch
    refine ⟨l, hl', hl, ⟨rfl, by simp only [maxLen] at hm; omega, fun hn => ⟨a, rfl, fun j p hp => ?_⟩⟩, fun y hy => ?_⟩
    · obtain ⟨_, cs, h1, h2, h3⟩ := hg j p hp
      exact ⟨cs, h1, h2, h3⟩
    · obtain ⟨i, hi', rfl⟩ := List.getElem_of_mem hy
      exact (hg i _ (List.getElem?_eq_getElem hi')).1

/-- A slice that is an argument; how long it may be. -/
theorem trod_C {α : Type} (d : YtebjiimlcnmfpaaGreatW.PrintWords.Kd α) (Q : α → Prop) {t e : TypeId} {A : Option Addr} {n cap : Nat} {D : DataW H} {ps : List MemPlace} {ts : List TypeId} {ds : List (DataW H)} {j : Nat} {B : Nat}
    (hsz : (DataW.weightsEach P ts ds).all (· ≤ reachBytes) = true) (hts : ts[j]? = some t) (hd : ds[j]? = some D)
    (ht : P.underlying t = some (.slice e)) (hC : P.cellsOf e = d.sz) (hB : P.bytesOf e = B)
    (hk : ∀ m cs x, DataW.trod enc P w base spare held m e cs = some x → cs.length = d.sz → ∃ v, d.K w v cs ∧ Q v)
    (h : DataW.Trod enc P w base spare held t (.slice A n cap) D ps) : ∃ l : List α, l.length = n ∧ n ≤ cap ∧ YtebjiimlcnmfpaaGreatW.PrintWords.Kd.C d w A l.length l ∧ (∀ y ∈ l, Q y) ∧ l.length * B ≤ 140737488351232 := by
  obtain ⟨fuel, hf⟩ := h
  have hbig : n * B ≤ 140737488351232 := by
    rcases open_slice ht hf with ⟨hcs, _⟩ | ⟨a, len, cap', m, f, D', Pl, hcs, hb, hl, hm, hmm, hx, hi⟩
    · simp [Value.cells] at hcs
      obtain ⟨rfl, rfl, rfl⟩ := hcs
      simp
    · simp [Value.cells] at hcs
      obtain ⟨rfl, rfl, rfl⟩ := hcs
      obtain ⟨hx, _⟩ := Prod.mk.inj hx
      subst hx
      have z := sized_slice hsz hts hd ht
      rw [hB] at z
      simp only [List.length_map, List.length_range] at z
      have : n ≤ n + (m - n) := by omega
      exact Nat.le_trans (Nat.mul_le_mul_right _ this) z
  simp only [Value.cells] at hf
  obtain ⟨l, h1, h2, h3, h4⟩ := cells_C d Q ht hC hk hf
  exact ⟨l, h1, h2, h3, h4, by rw [h1]; exact hbig⟩
end

/-- What of an event is sure. -/
def EvS (x : S50) : Prop := (Lit.int .i64 x.f0).wf = true ∧ (Lit.int .i64 x.f1).wf = true ∧ x.f2.size ≤ maxLen ∧ x.f3.size ≤ maxLen
theorem trod_evS {H : Type} {enc : TypeId × Value → H} {base : Nat} {spare : Nat → Bool} {held : Bool} {W : World} (m : Nat) (cs : List Value) (x : DataW H × List MemPlace)
    (h : DataW.trod enc Tryz.prog W base spare held m 50 cs = some x) (hc : cs.length = k50.sz) : ∃ v, k50.K W v cs ∧ EvS v := by
  obtain ⟨v, hv, q1, q2, q3, q4⟩ := trod_ev W m cs x h hc
  have e : cs = v.cs := hv
  rw [e]
  exact ⟨⟨v.kind, v.txn, v.key, v.val⟩, k50_mk W ⟨v.kind, v.txn, v.key, v.val⟩, q1, q2, q3, q4⟩

def IntS (x : Int) : Prop := (Lit.int .i64 x).wf = true
end
end Go.Proofs.YtebjiimlcnmfpaaGreatPr

/-! A row's slice of edges, opened. -/
namespace Go.Proofs.YtebjiimlcnmfpaaGreatPr
section
open Go.Proofs.YtebjiimlcnmfpaaGreat
section
open Go Go.RowKit Go.ChangeShapes Go.WideShapes Go.ChangeAt

end
end
end Go.Proofs.YtebjiimlcnmfpaaGreatPr

/-! A row's slice of steps, opened. -/
namespace Go.Proofs.YtebjiimlcnmfpaaGreatPr
section
open Go.Proofs.YtebjiimlcnmfpaaGreat
section
open Go Go.RowKit Go.ChangeShapes Go.WideShapes Go.ChangeAt

end
end
end Go.Proofs.YtebjiimlcnmfpaaGreatPr

namespace Go.Proofs.YtebjiimlcnmfpaaGreatPr
open Go Go.RowKit Go.Proofs.YtebjiimlcnmfpaaGreat
theorem rd_ev (xs : List S50) (i : Int) : toEv (rd_T50 xs i) = nth (evs xs) i.toNat := by
  unfold rd_T50 nth evs
  rw [List.getD_eq_getElem?_getD, List.getD_eq_getElem?_getD, List.getElem?_map]
  cases xs[i.toNat]? <;> rfl
theorem rd_f0 (xs : List S50) (i : Int) : (rd_T50 xs i).f0 = (nth (evs xs) i.toNat).kind := congrArg Ev.kind (rd_ev xs i)
theorem rd_f1 (xs : List S50) (i : Int) : (rd_T50 xs i).f1 = (nth (evs xs) i.toNat).txn := congrArg Ev.txn (rd_ev xs i)
theorem wrap_id {i : Int} (h0 : -9223372036854775808 ≤ i) (h1 : i ≤ 9223372036854775807) : wrap64 i = i := by unfold wrap64; omega
theorem wrap_succ {i n : Nat} (h : i < n) (hn : n ≤ 140737488351232) : wrap64 ((i : Int) + 1) = ((i + 1 : Nat) : Int) := by unfold wrap64; omega
theorem ba_list {a b : ByteArray} : a.toList = b.toList ↔ a = b := by
  constructor
  · intro h
    have := toList_beq a b
    simp_all
  · intro h; rw [h]
/-- With enough rounds it answers so. -/
def Evt {α : Type} (g : Nat → Option α) (r : α) : Prop := ∃ K, ∀ k, K ≤ k → g k = some r
theorem Evt.step {α : Type} {g f : Nat → Option α} {r : α} (h : ∀ k, g (k + 1) = f k) (k : Evt f r) : Evt g r := YtebjiimlcnmfpaaGreatW.PrintWords.Ev.step h k
theorem Evt.bind {α β : Type} {g : Nat → Option α} {f : Nat → α → Option β} {a : α} {r : β} (h : Evt g a) (k : Evt (fun n => f n a) r) : Evt (fun n => (g n).bind (f n)) r := YtebjiimlcnmfpaaGreatW.PrintWords.Ev.bind h k
theorem Evt.congr {α : Type} {g f : Nat → Option α} {r : α} (h : ∀ k, g k = f k) (k : Evt f r) : Evt g r := YtebjiimlcnmfpaaGreatW.PrintWords.Ev.congr h k
theorem Evt.rounds {α : Type} {g : Nat → Option α} {r : α} (h : Evt g r) : ∃ k, g k = some r := YtebjiimlcnmfpaaGreatW.PrintWords.Ev.rounds h
theorem Evt.now {α : Type} {r : α} {g : Nat → Option α} (h : ∀ k, g k = some r) : Evt g r := ⟨0, fun k _ => h k⟩
theorem Evt.now1 {α : Type} {r : α} {g : Nat → Option α} (h : ∀ k, g (k + 1) = some r) : Evt g r := ⟨1, fun k hk => by
  obtain ⟨k, rfl⟩ : ∃ m, k = m + 1 := ⟨k - 1, by omega⟩
  exact h k⟩
/-- What is bound, with the rounds at hand. -/
theorem Evt.bind' {α β : Type} {h : Nat → Option β} {g : Nat → Option α} {f : Nat → α → Option β} {a : α} {r : β} (e : ∀ k, h k = (g k).bind (f k)) (hg : Evt g a) (k : Evt (fun n => f n a) r) : Evt h r := Evt.congr e (Evt.bind hg k)
end Go.Proofs.YtebjiimlcnmfpaaGreatPr

/-! The contracts of chapter 8's functions, in the words of the printed ones. -/
namespace Go.Proofs.YtebjiimlcnmfpaaGreatPr
open Go.Proofs.YtebjiimlcnmfpaaGreat
section
open Go Go.RowKit

def history_Formed.f (l0 : List S50) : Option (Int × Int) := if l0.length ≤ 140737488351232 then some (formed (evs l0)) else none
theorem history_Formed.calls (A0 : Option Addr) (c0 : Nat) (l0 : List S50) (r1 : Int) (r2 : Int) (w : World) (hr0 : YtebjiimlcnmfpaaGreatW.PrintWords.Kd.C k50 w A0 l0.length l0) (hc0 : l0.length ≤ c0) (h : history_Formed.f l0 = some (r1, r2)) :
    Calls Tryz.prog 63 #[.slice A0 l0.length c0] w fun e w' => e = .returned (.tuple #[.int .i64 r1, .int .i64 r2]) ∧ Below w.heap.size w w' := by
  unfold history_Formed.f at h
  split at h
  · rename_i hn
    have h1 := h_formed w A0 l0.length c0 (evs l0) (evs_of hr0 hn) hc0
    injection h with h
    rw [h] at h1
    exact h1
  · cases h

end
end Go.Proofs.YtebjiimlcnmfpaaGreatPr

/-! The contracts of reference 08's functions, in the words of the printed ones. -/
namespace Go.Proofs.YtebjiimlcnmfpaaGreatPr
open Go.Proofs.YtebjiimlcnmfpaaGreat
section
open Go Go.RowKit

def cartoucheref08_End.f (l0 : List S50) (a1 : Int) (a2 : Int) : Option (Int) := if l0.length ≤ 140737488351232 ∧ 0 ≤ a2 ∧ a2 ≤ (l0.length : Int) then some (endOf ((evs l0).take a2.toNat) a1) else none
theorem cartoucheref08_End.calls (A0 : Option Addr) (c0 : Nat) (l0 : List S50) (a1 : Int) (a2 : Int) (r : Int) (w : World) (hr0 : YtebjiimlcnmfpaaGreatW.PrintWords.Kd.C k50 w A0 l0.length l0) (hc0 : l0.length ≤ c0) (h : cartoucheref08_End.f l0 a1 a2 = some r) :
    Calls Tryz.prog 62 #[.slice A0 l0.length c0, .int .i64 a1, .int .i64 a2] w fun e w' => e = .returned (.int .i64 r) ∧ YtebjiimlcnmfpaaGreatW.PrintWords.Drawn0 w w' := by
  unfold cartoucheref08_End.f at h
  split at h
  · rename_i hn
    have h1 := r08_end w A0 l0.length c0 (evs l0) a1 a2 (evs_of hr0 hn.1) hn.2.1 hn.2.2
    simp only [Option.some.injEq] at h
    obtain rfl := h
    exact h1.mono fun e w' ⟨he, hw⟩ => ⟨he, by rw [hw]; exact YtebjiimlcnmfpaaGreatW.PrintWords.Drawn0.refl _⟩
  · cases h

def cartoucheref08_Last.f (l0 : List S50) (a1 : Int) (a2 : ByteArray) (a3 : Int) : Option (Int) := if l0.length ≤ 140737488351232 then some (lastOf (evs l0) a1 a2 a3) else none
theorem cartoucheref08_Last.calls (A0 : Option Addr) (c0 : Nat) (l0 : List S50) (a1 : Int) (a2 : ByteArray) (a3 : Int) (r : Int) (w : World) (hr0 : YtebjiimlcnmfpaaGreatW.PrintWords.Kd.C k50 w A0 l0.length l0) (hc0 : l0.length ≤ c0) (h : cartoucheref08_Last.f l0 a1 a2 a3 = some r) :
    Calls Tryz.prog 92 #[.slice A0 l0.length c0, .int .i64 a1, .string a2, .int .i64 a3] w fun e w' => e = .returned (.int .i64 r) ∧ YtebjiimlcnmfpaaGreatW.PrintWords.Drawn0 w w' := by
  unfold cartoucheref08_Last.f at h
  split at h
  · rename_i hn
    have h1 := r08_last w A0 l0.length c0 (evs l0) a1 a3 a2 (evs_of hr0 hn)
    simp only [Option.some.injEq] at h
    obtain rfl := h
    exact h1.mono fun e w' ⟨he, hw⟩ => ⟨he, by rw [hw]; exact YtebjiimlcnmfpaaGreatW.PrintWords.Drawn0.refl _⟩
  · cases h

def cartoucheref08_Formed.f (l0 : List S50)  : Option (Int × Int) := if l0.length ≤ 140737488351232 then some ((formed (evs l0)).1, (formed (evs l0)).2) else none
theorem cartoucheref08_Formed.calls (A0 : Option Addr) (c0 : Nat) (l0 : List S50)  (r1 : Int) (r2 : Int) (w : World) (hr0 : YtebjiimlcnmfpaaGreatW.PrintWords.Kd.C k50 w A0 l0.length l0) (hc0 : l0.length ≤ c0) (h : cartoucheref08_Formed.f l0  = some (r1, r2)) :
    Calls Tryz.prog 32 #[.slice A0 l0.length c0] w fun e w' => e = .returned (.tuple #[.int .i64 r1, .int .i64 r2]) ∧ Below w.heap.size w w' := by
  unfold cartoucheref08_Formed.f at h
  split at h
  · rename_i hn
    have h1 := r08_formed w A0 l0.length c0 (evs l0) (evs_of hr0 hn)
    simp only [Option.some.injEq, Prod.mk.injEq] at h
    obtain ⟨rfl, rfl⟩ := h
    exact h1
  · cases h

end
end Go.Proofs.YtebjiimlcnmfpaaGreatPr

/-! The contract of history.Versions, in the words of the printed ones. -/
namespace Go.Proofs.YtebjiimlcnmfpaaGreatPr
open Go.Proofs.YtebjiimlcnmfpaaGreat
section
open Go Go.RowKit

end
end Go.Proofs.YtebjiimlcnmfpaaGreatPr

/-! Plain laws: where the events of a well formed history stand; printed reads as events. -/
namespace Go.Proofs.YtebjiimlcnmfpaaGreat
section
open Go Go.RowKit

/-- Of a well formed history each event stands between its transaction's beginning and its end. -/
theorem Wf.shape {l : List Ev} (h : Wf l) {j : Nat} (hj : j < l.length) : ∃ f e : Nat, firstOf l (nth l j).txn = f ∧ endOf l (nth l j).txn = e ∧ f ≤ j ∧ j ≤ e ∧ e < l.length ∧ ((nth l j).kind = 1 ↔ j = f) ∧ (4 ≤ (nth l j).kind ↔ j = e) ∧ (nth l e).txn = (nth l j).txn ∧ ends (nth l e) = true := by
  rcases idx_nth (isOf (nth l j).txn) l with ⟨_, h2⟩ | ⟨f, hf, hf1, hf2, hf3⟩
  · have := h2 j hj; simp [isOf] at this
  rcases idx_nth (endsOf (nth l j).txn) l with ⟨h1, _⟩ | ⟨e, he, he1, he2, he3⟩
  · have := h.clos j hj; rw [endOf, h1] at this; omega
  have hff : (nth l f).txn = (nth l j).txn := by simpa [isOf] using hf2
  have hfj : f ≤ j := by
    rcases Nat.lt_or_ge j f with hlt | hge
    · have := hf3 j hlt; simp [isOf] at this
    · exact hge
  have hee : (nth l e).txn = (nth l j).txn ∧ ends (nth l e) = true := by simpa [endsOf] using he2
  have hfe : f ≤ e := by
    rcases Nat.lt_or_ge e f with hlt | hge
    · have := hf3 e hlt; simp [isOf, hee.1] at this
    · exact hge
  have k1 : (nth l j).kind = 1 → j = f := fun hk => by
    rcases Nat.lt_or_ge f j with hlt | hge
    · have hs := h.step j hj
      unfold stepErr at hs
      rw [if_neg (by rw [(may_iff _).2 (h.may hj)]; simp), if_pos hk] at hs
      split at hs
      · cases hs
      · rename_i hn
        rcases idx_nth (isOf (nth l j).txn) (l.take j) with ⟨_, h2⟩ | ⟨q, _, hq, _⟩
        · have := h2 f (by simp; omega)
          rw [nth_take hlt] at this
          simp [isOf, hff] at this
        · rw [firstOf, hq] at hn; omega
    · omega
  have k2 : (nth l f).kind = 1 := by
    by_cases hk : (nth l f).kind = 1
    · exact hk
    · have h1 := (h.mid hf hk).1
      rcases idx_nth (isOf (nth l f).txn) (l.take f) with ⟨hq, _⟩ | ⟨q, hq0, hq, hq2, _⟩
      · rw [firstOf, hq] at h1; omega
      · have hqf : q < f := by simp at hq0; omega
        rw [nth_take hqf, hff] at hq2
        have := hf3 q hqf
        rw [this] at hq2; cases hq2
  have hje : j ≤ e := by
    rcases Nat.lt_or_ge e j with hlt | hge
    · have hk : (nth l j).kind ≠ 1 := fun hk => by have := k1 hk; omega
      have := h.noEnd hj hk hlt hee.1
      rw [hee.2] at this; cases this
    · exact hge
  refine ⟨f, e, hf1, he1, hfj, hje, he, ⟨k1, fun e' => by rw [e']; exact k2⟩, ⟨fun hk => ?_, fun e' => ?_⟩, hee.1, hee.2⟩
  · rcases Nat.lt_or_ge j e with hlt | hge
    · have := he3 j hlt
      have hm := h.may hj
      have : ends (nth l j) = true := by
        unfold ends
        have := hm.2.1
        rcases (show (nth l j).kind = 4 ∨ (nth l j).kind = 5 by omega) with h4 | h5
        · simp [h4]
        · simp [h5]
      simp_all [endsOf]
    · omega
  · have := hee.2
    unfold ends at this
    rw [← e'] at this
    simp at this
    omega
end
end Go.Proofs.YtebjiimlcnmfpaaGreat

/-! Plain laws: beginnings of a history, and a history with more behind it. -/
namespace Go.Proofs.YtebjiimlcnmfpaaGreat
section
open Go Go.RowKit

theorem firstOf_neg {l : List Ev} {t : Int} (h : firstOf l t < 0) : ∀ i, i < l.length → (nth l i).txn ≠ t := by
  rcases idx_nth (isOf t) l with ⟨_, h2⟩ | ⟨k, _, h2, _⟩
  · intro i hi e
    have := h2 i hi
    simp [isOf, e] at this
  · rw [firstOf, h2] at h; omega
end
end Go.Proofs.YtebjiimlcnmfpaaGreat

/-! The contracts of chapter 9's functions, in the words of the printed ones. -/
namespace Go.Proofs.YtebjiimlcnmfpaaGreatPr
open Go.Proofs.YtebjiimlcnmfpaaGreat
section
open Go Go.RowKit

def taint_At.f (l0 : List S50) (a1 : Int) : Option (Int × Int × Int) := if l0.length ≤ 140737488351232 then some ((badAt (evs l0) a1).kind, (badAt (evs l0) a1).i, (badAt (evs l0) a1).j) else none
theorem taint_At.calls (A0 : Option Addr) (c0 : Nat) (l0 : List S50) (a1 : Int) (r1 : Int) (r2 : Int) (r3 : Int) (w : World) (hr0 : YtebjiimlcnmfpaaGreatW.PrintWords.Kd.C k50 w A0 l0.length l0) (hc0 : l0.length ≤ c0) (h : taint_At.f l0 a1 = some (r1, r2, r3)) :
    Calls Tryz.prog 108 #[.slice A0 l0.length c0, .int .i64 a1] w fun e w' => e = .returned (.agg #[.int .i64 r1, .int .i64 r2, .int .i64 r3]) ∧ Below w.heap.size w w' := by
  unfold taint_At.f at h
  split at h
  · rename_i hn
    have h1 := t_at w A0 l0.length c0 (evs l0) a1 (evs_of hr0 hn)
    simp only [Option.some.injEq, Prod.mk.injEq] at h
    obtain ⟨rfl, rfl, rfl⟩ := h
    exact h1
  · cases h

end
end Go.Proofs.YtebjiimlcnmfpaaGreatPr

/-! The contracts of reference 09's functions, in the words of the printed ones. -/
namespace Go.Proofs.YtebjiimlcnmfpaaGreatPr
open Go.Proofs.YtebjiimlcnmfpaaGreat
section
open Go Go.RowKit

def cartoucheref09_Outer.f (l0 : List S50) (a1 : Int) : Option (Bool) := if l0.length ≤ 140737488351232 then some (outer (evs l0) a1) else none
theorem cartoucheref09_Outer.calls (A0 : Option Addr) (c0 : Nat) (l0 : List S50) (a1 : Int) (r : Bool) (w : World) (hr0 : YtebjiimlcnmfpaaGreatW.PrintWords.Kd.C k50 w A0 l0.length l0) (hc0 : l0.length ≤ c0) (h : cartoucheref09_Outer.f l0 a1 = some r) :
    Calls Tryz.prog 51 #[.slice A0 l0.length c0, .int .i64 a1] w fun e w' => e = .returned (.bool r) ∧ Below w.heap.size w w' := by
  unfold cartoucheref09_Outer.f at h
  split at h
  · rename_i hn
    have h1 := r09_outer w A0 l0.length c0 (evs l0) a1 (evs_of hr0 hn)
    simp only [Option.some.injEq] at h
    obtain rfl := h
    exact h1
  · cases h

def cartoucheref09_At.f (l0 : List S50) (a1 : Int) : Option (Int × Int × Int) := if l0.length ≤ 140737488351232 then some ((badAt (evs l0) a1).kind, (badAt (evs l0) a1).i, (badAt (evs l0) a1).j) else none
theorem cartoucheref09_At.calls (A0 : Option Addr) (c0 : Nat) (l0 : List S50) (a1 : Int) (r1 : Int) (r2 : Int) (r3 : Int) (w : World) (hr0 : YtebjiimlcnmfpaaGreatW.PrintWords.Kd.C k50 w A0 l0.length l0) (hc0 : l0.length ≤ c0) (h : cartoucheref09_At.f l0 a1 = some (r1, r2, r3)) :
    Calls Tryz.prog 73 #[.slice A0 l0.length c0, .int .i64 a1] w fun e w' => e = .returned (.agg #[.int .i64 r1, .int .i64 r2, .int .i64 r3]) ∧ Below w.heap.size w w' := by
  unfold cartoucheref09_At.f at h
  split at h
  · rename_i hn
    have h1 := r09_at w A0 l0.length c0 (evs l0) a1 (evs_of hr0 hn)
    simp only [Option.some.injEq, Prod.mk.injEq] at h
    obtain ⟨rfl, rfl, rfl⟩ := h
    exact h1
  · cases h

end
end Go.Proofs.YtebjiimlcnmfpaaGreatPr

/-! All keys of a history, as a list; the contract of history.Keys, in the words of the printed ones. -/
namespace Go.Proofs.YtebjiimlcnmfpaaGreat
section
open Go

/-- A key laid into a rising list of keys, if it isn't there. -/
def insKey (x : List UInt8) : List (List UInt8) → List (List UInt8)
  | [] => [x]
  | y :: r => if x < y then x :: y :: r else if x = y then y :: r else y :: insKey x r
def keysFold : List (List UInt8) → List (List UInt8) → List (List UInt8)
  | acc, [] => acc
  | acc, x :: r => keysFold (insKey x acc) r
def keysSpec (l : List Go.Proofs.YtebjiimlcnmfpaaGreat.Ev) : List (List UInt8) := keysFold [] (keyBytes l)
theorem mem_insKey (x y : List UInt8) : ∀ r, y ∈ insKey x r ↔ y = x ∨ y ∈ r
  | [] => by simp [insKey]
  | z :: r => by
    unfold insKey
    split
    · simp
    · split
      · rename_i h; subst h; simp
      · rw [List.mem_cons, mem_insKey x y r, List.mem_cons]
        constructor
        · rintro (h | h | h)
          · exact .inr (.inl h)
          · exact .inl h
          · exact .inr (.inr h)
        · rintro (h | h | h)
          · exact .inr (.inl h)
          · exact .inl h
          · exact .inr (.inr h)
theorem lt_tri {x y : List UInt8} (h1 : ¬ x < y) (h2 : x ≠ y) : y < x := by
  rcases List.le_total x y with h | h
  · exact absurd (Std.lt_of_le_of_ne h h2) h1
  · exact Std.lt_of_le_of_ne h (fun e => h2 e.symm)
theorem insKey_sorted (x : List UInt8) : ∀ r : List (List UInt8), r.Pairwise (· < ·) → (insKey x r).Pairwise (· < ·)
  | [], _ => by simp [insKey]
  | z :: r, h => by
    have h' := List.pairwise_cons.1 h
    unfold insKey
    split
    · rename_i hlt
      refine List.Pairwise.cons (fun y hy => ?_) h
      rcases List.mem_cons.1 hy with rfl | hy
      · exact hlt
      · exact List.lt_trans hlt (h'.1 y hy)
    · rename_i hn
      split
      · exact h
      · rename_i hne
        refine List.Pairwise.cons (fun y hy => ?_) (insKey_sorted x r h'.2)
        rcases (mem_insKey x y r).1 hy with rfl | hy
        · exact lt_tri hn hne
        · exact h'.1 y hy
theorem keysFold_are : ∀ (ks acc : List (List UInt8)), acc.Pairwise (· < ·) → (keysFold acc ks).Pairwise (· < ·) ∧ ∀ y, y ∈ keysFold acc ks ↔ y ∈ acc ∨ y ∈ ks
  | [], acc, h => ⟨h, fun y => by simp [keysFold]⟩
  | x :: r, acc, h => by
    obtain ⟨h1, h2⟩ := keysFold_are r (insKey x acc) (insKey_sorted x acc h)
    refine ⟨h1, fun y => ?_⟩
    rw [show keysFold acc (x :: r) = keysFold (insKey x acc) r from rfl, h2 y, mem_insKey, List.mem_cons]
    constructor
    · rintro ((h | h) | h)
      · exact .inr (.inl h)
      · exact .inl h
      · exact .inr (.inr h)
    · rintro (h | h | h)
      · exact .inl (.inr h)
      · exact .inl (.inl h)
      · exact .inr h
theorem keysSpec_are (l : List Go.Proofs.YtebjiimlcnmfpaaGreat.Ev) : KeysAre l (keysSpec l) := by
  obtain ⟨h1, h2⟩ := keysFold_are (keyBytes l) [] List.Pairwise.nil
  exact ⟨h1, fun x => by rw [keysSpec, h2 x]; simp⟩
theorem rising_unique {a b : List (List UInt8)} (ha : a.Pairwise (· < ·)) (hb : b.Pairwise (· < ·)) (h : ∀ x, x ∈ a ↔ x ∈ b) : a = b := by
  have na : a.Nodup := ha.imp (fun {x y} hxy e => by subst e; exact List.lt_irrefl _ hxy)
  have nb : b.Nodup := hb.imp (fun {x y} hxy e => by subst e; exact List.lt_irrefl _ hxy)
  refine List.Perm.eq_of_pairwise (le := fun x y : List UInt8 => x < y) (fun x y _ _ h1 h2 => ?_) ha hb ((List.perm_ext_iff_of_nodup na nb).2 h)
  exact absurd (List.lt_trans h1 h2) (List.lt_irrefl _)
theorem keysAre_unique {l : List Go.Proofs.YtebjiimlcnmfpaaGreat.Ev} {r : List (List UInt8)} (h : KeysAre l r) : r = keysSpec l :=
  rising_unique h.1 (keysSpec_are l).1 fun x => by rw [h.2 x, (keysSpec_are l).2 x]
def toBA (b : List UInt8) : ByteArray := ⟨b.toArray⟩
theorem toBA_self (x : ByteArray) : toBA x.data.toList = x := rfl
end
end Go.Proofs.YtebjiimlcnmfpaaGreat

namespace Go.Proofs.YtebjiimlcnmfpaaGreatPr
section
open Go Go.RowKit Go.Proofs.YtebjiimlcnmfpaaGreat

def history_Keys.f (l0 : List (S50)) : Option (List ByteArray) := if l0.length ≤ 1000000 ∧ ∀ x ∈ l0, x.f2.size ≤ 9223372036854775807 then some ((keysSpec (evs l0)).map toBA) else none
theorem history_Keys.calls (A0 : Option Addr) (c0 : Nat) (l0 : List (S50)) (r : List ByteArray) (w : World) (hr0 : YtebjiimlcnmfpaaGreatW.PrintWords.Kd.C k50 w A0 l0.length l0) (hc0 : l0.length ≤ c0) (h : history_Keys.f l0 = some r) :
    Calls Tryz.prog 47 #[.slice A0 l0.length c0] w fun e w' => ∃ v0_ : Value, e = .returned (v0_) ∧ YtebjiimlcnmfpaaGreatW.PrintWords.Kd.R YtebjiimlcnmfpaaGreatW.PrintWords.Kd.string 9 w' w.heap.size (fun _ => True) v0_ r ∧ Below w.heap.size w w' := by
  unfold history_Keys.f at h
  split at h
  · rename_i hn
    have h1 := h_keys w A0 l0.length c0 (evs l0) (evs_of hr0 (by omega)) hn.1 (fun x hx => by
      obtain ⟨y, hy, rfl⟩ := List.mem_map.1 hx
      exact hn.2 y hy)
    injection h with h
    refine h1.mono fun e w' ⟨v, r', he, hk, ho, hx⟩ => ⟨v, he, ?_, hx⟩
    rw [← h, ← keysAre_unique hk]
    have e1 : r'.map Go.Proofs.encStr = r'.flatMap (fun b => [Value.string (toBA b)]) := by
      rw [List.map_eq_flatMap]; rfl
    rw [e1] at ho
    exact r_of YtebjiimlcnmfpaaGreatW.PrintWords.Kd.string 9 (fun b => [Value.string (toBA b)]) toBA (fun w base ok y => rfl) (fun _ => rfl) ho
  · cases h
end
end Go.Proofs.YtebjiimlcnmfpaaGreatPr

/-! The contract of edges.of, in the words of the printed ones. -/
namespace Go.Proofs.YtebjiimlcnmfpaaGreatPr
section
section
open Go Go.RowKit Go.Proofs.YtebjiimlcnmfpaaGreat

def ofEdge (x : Go.Proofs.YtebjiimlcnmfpaaGreat.Edge) : S24 := ⟨x.kind, x.from_, x.to_, x.i, x.j⟩
def edges_of.f (l0 : List (S50)) (a1 : ByteArray) : Option ((List (S24))) := if l0.length ≤ 1000 then some ((ofE (evs l0) a1).map ofEdge) else none
theorem edges_of.calls (A0 : Option Addr) (c0 : Nat) (l0 : List (S50)) (a1 : ByteArray) (r : List (S24)) (w : World) (hr0 : YtebjiimlcnmfpaaGreatW.PrintWords.Kd.C k50 w A0 l0.length l0) (hc0 : l0.length ≤ c0) (h : edges_of.f l0 a1 = some r) :
    Calls Tryz.prog 48 #[.slice A0 l0.length c0, .string a1] w fun e w' => ∃ v0_ : Value, e = .returned (v0_) ∧ YtebjiimlcnmfpaaGreatW.PrintWords.Kd.R k24 24 w' w.heap.size (fun _ => True) v0_ r ∧ Below w.heap.size w w' := by
  unfold edges_of.f at h
  split at h
  · rename_i hn
    have h1 := e_of w A0 l0.length c0 (evs l0) a1 (evs_of hr0 (by omega)) hn hc0
    injection h with h
    refine h1.mono fun e w' ⟨v, he, ho, hx⟩ => ⟨v, he, ?_, hx⟩
    rw [← h]
    exact r_of k24 24 Go.Proofs.YtebjiimlcnmfpaaGreat.Edge.cs ofEdge (fun w base ok y => k24_mkM w base ok (ofEdge y)) (fun _ => rfl) ho
  · cases h
end
end
end Go.Proofs.YtebjiimlcnmfpaaGreatPr

/-! The contracts of ring.Ring and ring.Order, in the words of the printed ones. -/
namespace Go.Proofs.YtebjiimlcnmfpaaGreatPr
section
open Go.Proofs.YtebjiimlcnmfpaaGreat
section
open Go Go.RowKit

abbrev fr_ (x : S80) : Int := x.f0
abbrev to_ (x : S80) : Int := x.f1
/-- A step as it lies in memory, and as it is read. -/
structure Bth (Q : S80 → List Value → Prop) where
  s : Stp
  t : S80
  hf : s.fr = t.f0
  ht : s.to_ = t.f1
  hq : Q t s.cs
theorem both {Q : S80 → List Value → Prop} (hQ : ∀ x c, Q x c → ∃ A2 c2, c = [.int .i64 x.f0, .int .i64 x.f1, .slice A2 x.f2.length c2]) {w : World} {A : Option Addr} {n : Nat} {xs : List S80} (h : YtebjiimlcnmfpaaGreatW.PrintWords.ReadsRow Q 3 w A n xs) (hn : n ≤ 140737488351232) :
    ∃ L : List (Bth Q), L.map Bth.t = xs ∧ Stps w A n (L.map Bth.s) := by
  obtain ⟨hl, _, hg⟩ := h
  rcases Nat.eq_zero_or_pos n with h0 | hp
  · subst h0
    obtain rfl : xs = [] := List.eq_nil_of_length_eq_zero hl
    exact ⟨[], rfl, Sl.nil _ _ _⟩
  obtain ⟨ad, rfl, hc⟩ := hg hp
  obtain ⟨L, hL, hr⟩ := choose_row (fun i (b : Bth Q) => xs[i]? = some b.t ∧ ∀ j u, b.s.cs[j]? = some u → w.cell? (ad.add (i * 3 + j)) = some u) n (fun i hi => by
    obtain ⟨cs, h1, h2, h3⟩ := hc i _ (List.getElem?_eq_getElem (by omega))
    obtain ⟨A2, c2, rfl⟩ := hQ _ _ h2
    exact ⟨⟨⟨xs[i].f0, xs[i].f1, A2, xs[i].f2.length, c2⟩, xs[i], rfl, rfl, h2⟩, List.getElem?_eq_getElem (by omega), h3⟩)
  have hmap : L.map Bth.t = xs := by
    apply List.ext_getElem?
    intro i
    rw [List.getElem?_map]
    by_cases hi : i < n
    · rw [(hr i _ (List.getElem?_eq_getElem (by omega))).1, List.getElem?_eq_getElem (by omega)]; rfl
    · rw [List.getElem?_eq_none (by omega), List.getElem?_eq_none (by omega)]; rfl
  have h0 : ad.spot = none := by
    have h4 := (hr 0 _ (List.getElem?_eq_getElem (by omega))).2 0 _ rfl
    have h5 : ad.add (0 * 3 + 0) = ad := by simp [Addr.add]
    rw [h5] at h4
    exact spot_none h4
  obtain ⟨b, o, s⟩ := ad
  obtain rfl : s = none := h0
  refine ⟨L, hmap, ⟨by simp [hL], hn, fun _ => ⟨b, o, rfl, fun i hi => ?_⟩⟩⟩
  have h4 := (hr i _ (List.getElem?_eq_getElem (by omega))).2
  refine ⟨(L[i]'(by omega)).s.cs, ?_, fun j u hu => ?_⟩
  · show _ = Stp.cs _
    simp [List.getD_eq_getElem?_getD, List.getElem?_map, List.getElem?_eq_getElem (show i < L.length by omega)]
  · have h5 := h4 j u hu
    rw [add_flat] at h5
    rw [show kStp.sz = 3 from rfl, Nat.add_assoc]
    exact h5
theorem both_forward {Q : S80 → List Value → Prop} (L : List (Bth Q)) (o : List Int) : Rg.forward Stp.fr Stp.to_ (L.map Bth.s) o = Rg.forward fr_ to_ (L.map Bth.t) o := by
  unfold Rg.forward
  congr 1
  induction L with
  | nil => rfl
  | cons b r ih => rw [List.map_cons, List.map_cons, List.all_cons, List.all_cons, ih, b.hf, b.ht]
theorem both_wf {Q : S80 → List Value → Prop} {L : List (Bth Q)} (h : ∀ x ∈ L.map Bth.t, IntS x.f0 ∧ IntS x.f1) : ∀ x ∈ L.map Bth.s, I64 x.fr ∧ I64 x.to_ := fun x hx => by
  obtain ⟨b, hb, rfl⟩ := List.mem_map.1 hx
  have := h b.t (List.mem_map.2 ⟨b, hb, rfl⟩)
  rw [b.hf, b.ht]
  exact this

def stepsOk (l : List S80) : Bool := l.all fun x => (Lit.int .i64 x.f0).wf && (Lit.int .i64 x.f1).wf
theorem stepsOk_iff {l : List S80} : stepsOk l = true ↔ ∀ x ∈ l, IntS x.f0 ∧ IntS x.f1 := by
  unfold stepsOk IntS
  rw [List.all_eq_true]
  simp only [Bool.and_eq_true]
def intsOk (l : List Int) : Bool := l.all fun x => (Lit.int .i64 x).wf
theorem intsOk_iff {l : List Int} : intsOk l = true ↔ ∀ x ∈ l, IntS x := by
  unfold intsOk IntS
  rw [List.all_eq_true]
theorem nums_of {w : World} {A : Option Addr} {l : List Int} (h : YtebjiimlcnmfpaaGreatW.PrintWords.Kd.C (YtebjiimlcnmfpaaGreatW.PrintWords.Kd.int .i64) w A l.length l) (hn : l.length ≤ 140737488351232) : Nums w A l.length l := by
  have := sl_of (YtebjiimlcnmfpaaGreatW.PrintWords.Kd.int .i64) intCs (fun h => h) kInt (fun x => x) rfl (by decide) (fun _ _ => rfl) h hn
  simpa using this

end
end
end Go.Proofs.YtebjiimlcnmfpaaGreatPr

/-! The contract of edges.Steps, in the words of the printed ones. -/
namespace Go.Proofs.YtebjiimlcnmfpaaGreatPr
section
section
open Go Go.RowKit Go.Proofs.YtebjiimlcnmfpaaGreat

def toEd (x : S24) : Go.Proofs.YtebjiimlcnmfpaaGreat.Edge := ⟨x.f0, x.f1, x.f2, x.f3, x.f4⟩
def ofEd (x : Go.Proofs.YtebjiimlcnmfpaaGreat.Edge) : S24 := ⟨x.kind, x.from_, x.to_, x.i, x.j⟩
def stepOf (t : SE) : S80 := ⟨t.fr, t.to_, t.es.map ofEd⟩
def stepsE (lev : Int) (l : List S24) : List S80 := ((l.map toEd).flatMap (oneE lev (l.map toEd))).map stepOf
def edges_Steps.f (a0 : Int) (l1 : List (S24)) : Option ((List (S80))) := if (l1.length * (l1.length + 1)) * 40 ≤ 140737488351232 then some (stepsE a0 l1) else none
theorem edgs_of {w : World} {A : Option Addr} {l : List S24} (h : YtebjiimlcnmfpaaGreatW.PrintWords.Kd.C k24 w A l.length l) (hn : l.length ≤ 140737488351232) : Edgs w A l.length (l.map toEd) :=
  sl_of k24 (fun x => (toEd x).cs) (fun h => k24_open h) kEdge toEd rfl (by decide) (fun _ _ => rfl) h hn
theorem held_FK {B : Nat} {W : World} {b : BE} (h : Held B W b) {v : Value} {n : Nat} {xs : List Value} (hv : W.ownsRow B 80 3 v n xs) : YtebjiimlcnmfpaaGreatW.PrintWords.Kd.FK k80 W (fun k => B ≤ k ∧ some k ≠ v.ownBlock) (stepOf b.t) b.s.cs := by
  obtain ⟨h1, h2, h3⟩ := h
  have hR := r_of k24 24 Go.Proofs.YtebjiimlcnmfpaaGreat.Edge.cs ofEd (fun w base ok y => k24_mkM w base ok (ofEd y)) (fun _ => rfl) h3
  have hN := YtebjiimlcnmfpaaGreatW.PrintWords.Kd.R_N (YtebjiimlcnmfpaaGreatW.PrintWords.Kd.R_tight rfl hR)
  obtain ⟨e1, e2, _⟩ := YtebjiimlcnmfpaaGreatW.PrintWords.Kd.N_reads' hN
  have hF := YtebjiimlcnmfpaaGreatW.PrintWords.Kd.F_mono (ok' := fun k => B ≤ k ∧ some k ≠ v.ownBlock) (YtebjiimlcnmfpaaGreatW.PrintWords.Kd.N_F hN) (fun k hk => by
    refine ⟨own_block h3 k hk.symm, fun he => ?_⟩
    obtain ⟨_, ⟨e3, _⟩ | ⟨g, cap, cur, e3, _, g4, _⟩⟩ := h3
    · rw [e3] at hk; cases hk
    · rw [e3] at hk
      exact blk_ne_row (w := W) (g := g) (t := 24) (cs := cur) g4 hv (by decide) (hk.symm.trans he))
  have hlen : b.s.len = (stepOf b.t).f2.length := e1
  have hcs : b.s.cs = [.int .i64 (stepOf b.t).f0, .int .i64 (stepOf b.t).f1, .slice b.s.ad (stepOf b.t).f2.length b.s.cap] := by
    rw [← hlen]
    show [Value.int .i64 b.s.fr, Value.int .i64 b.s.to_, _] = _
    rw [h1, h2]
    rfl
  rw [hcs]
  exact k80_mkF W _ (stepOf b.t) (by rw [← hlen]; exact e2) (by rw [← hlen]; exact hF)
theorem edges_Steps.calls (a0 : Int) (A1 : Option Addr) (c1 : Nat) (l1 : List (S24)) (r : List (S80)) (w : World) (hr1 : YtebjiimlcnmfpaaGreatW.PrintWords.Kd.C k24 w A1 l1.length l1) (hc1 : l1.length ≤ c1) (h : edges_Steps.f a0 l1 = some r) :
    Calls Tryz.prog 65 #[.int .i64 a0, .slice A1 l1.length c1] w fun e w' => ∃ v0_ : Value, e = .returned (v0_) ∧ YtebjiimlcnmfpaaGreatW.PrintWords.Kd.N k80 80 w' w.heap.size (fun k_ => (w.heap.size ≤ k_)) v0_ r ∧ Below w.heap.size w w' := by
  unfold edges_Steps.f at h
  split at h
  · rename_i hn
    injection h with h
    have hn2 : l1.length ≤ 140737488351232 := by
      have : l1.length * 1 ≤ l1.length * (l1.length + 1) := Nat.mul_le_mul_left _ (by omega)
      omega
    refine (e_steps w A1 l1.length c1 a0 (l1.map toEd) (edgs_of hr1 hn2) hn).mono fun e w' ⟨v, pre, he, hp, hI⟩ => ⟨v, he, ?_, hI.ext⟩
    have hr : r = pre.map (fun b => stepOf b.t) := by rw [← h]; unfold stepsE; rw [← hp, List.map_map]; rfl
    refine ⟨fun k hk => own_block hI.out k hk, (pre.map BE.s).map Stp.cs, by rw [hr]; simp, ?_, fun j x c hx hc => ?_⟩
    · exact YtebjiimlcnmfpaaGreatW.PrintWords.Kd.raw_tight (r_of (YtebjiimlcnmfpaaGreatW.PrintWords.Kd.raw 3) 80 Stp.cs Stp.cs (fun _ _ _ y => ⟨rfl, rfl, fun u hu => by simp [Stp.cs] at hu; rcases hu with rfl | rfl | rfl <;> rfl⟩) (fun _ => rfl) hI.out)
    · rw [hr, List.getElem?_map] at hx
      obtain ⟨b, hb1, rfl⟩ := Option.map_eq_some_iff.1 hx
      rw [List.map_map, List.getElem?_map, hb1] at hc
      injection hc with hc
      subst hc
      exact held_FK (hI.all b (List.mem_of_getElem? hb1)) hI.out
  · cases h
end
end
end Go.Proofs.YtebjiimlcnmfpaaGreatPr

/-! The program's edges.Nodes: the committed transactions, sorted. -/
namespace Go.Proofs.YtebjiimlcnmfpaaGreat
section
section
open Go Go.RowKit Go.Proofs Go.Shelf Go.Sort
set_option linter.unusedSimpArgs false
set_option linter.unusedVariables false
attribute [local go_sem] Ext.alloc Ext.alloc2 Ext.alloc3 Ext.alloc4 Ext.drewN_alloc Ext.drewN_alloc2 Ext.drew_alloc Ext.drew Ext.drewN toList_beq
attribute [-go_sem] Builtin.append_

theorem ext_grow (w : World) (os : Array Obj) : Ext w (grow w os) := below_regrown w w.drawn os
theorem i_flat (l : List Int) : l.flatMap intCs = l.map (Value.int .i64) := by rw [List.map_eq_flatMap]; rfl
/-- slices.Sort at a row of the call's own. -/
theorem sortInt_own (w W : World) (hw : Ext w W) (v : Value) (zs : List Int) (hsz : zs.length < 4611686018427387904) (h : W.ownsRow w.heap.size 3 1 v zs.length (zs.flatMap intCs)) :
    Calls Tryz.prog 53 #[v] W fun e w' => e = .returned (.tuple #[]) ∧ w'.ownsRow w.heap.size 3 1 v zs.length ((zs.mergeSort fun x y => decide (x ≤ y)).flatMap intCs) ∧ Ext w w' := by
  rw [i_flat] at h
  by_cases hv : v = .slice none 0 0
  · subst hv
    have hz : zs.length = 0 := by
      obtain ⟨_, ⟨_, h0⟩ | ⟨g, cap, cur, he, _⟩⟩ := h
      · exact h0
      · cases he
    obtain rfl : zs = [] := List.length_eq_zero_iff.1 hz
    refine (AnyM.slices_Sort_int_none sortInt none 0 W).mono ?_
    rintro e w' ⟨rfl, rfl⟩
    exact ⟨rfl, by simpa using h, hw⟩
  · obtain ⟨g, cap, rfl, hb, hlt, hn, hm, hl, hH⟩ := Go.Lib.holds_of_ownsRow (enc := Value.int .i64) h hv
    refine (AnyM.slices_Sort_int sortInt g 0 cap zs W hH hlt hsz).mono ?_
    rintro e w' ⟨rfl, n, os, rfl⟩
    have h2 := Go.Lib.ownsRow_putRow (q := n) (k := zs.length) (ys := zs.mergeSort fun x y => decide (x ≤ y)) h (List.length_mergeSort _) (Nat.le_refl _)
    rw [List.take_of_length_le (by rw [List.length_mergeSort]; omega), ← i_flat] at h2
    have h3 : Ext w (putRow (Value.int .i64) (Sort.ahead W n) g 0 (zs.mergeSort fun x y => decide (x ≤ y)).toArray) := Go.Lib.below_putRow hw hb
    exact ⟨rfl, own_ext h2 h3.le (ext_grow _ os), h3.trans (ext_grow _ os)⟩

/-- A sort of numbers that differ. -/
theorem msort_eq {zs : List Int} (h : zs.Nodup) : (zs.mergeSort fun x y => decide (x ≤ y)) = Rg.sortD zs := by
  have hpm := List.mergeSort_perm zs (fun x y => decide (x ≤ y))
  have hso := List.pairwise_mergeSort (le := fun x y : Int => decide (x ≤ y)) (fun a b c h1 h2 => by simp only [decide_eq_true_eq] at *; omega) (fun a b => by simp only [Bool.or_eq_true, decide_eq_true_eq]; omega) zs
  refine Rg.rising_eq ((hso.and (hpm.symm.nodup h)).imp fun {a b} hab => ?_) (Rg.sortD_rising zs) fun x => ?_
  · have h1 : a ≤ b := of_decide_eq_true hab.1
    have h2 := hab.2
    omega
  · rw [hpm.mem_iff, Rg.mem_sortD]
theorem lives_txns (l : List Ev) : ((lives l).map Life.txn).Nodup := by
  refine List.pairwise_map.2 ?_
  have h := List.Pairwise.and_mem.1 (livesFrom_nodup l l.length 0).1
  refine h.imp fun {a b} hab e => ?_
  obtain ⟨ha, hb, hlt⟩ := hab
  have hta : ∀ x ∈ lives l, ∃ j : Nat, firstOf l x.txn = j ∧ x.from_ = j := fun x hx => by
    obtain ⟨j, hj, h1, h2, h3⟩ := mem_lives hx
    obtain ⟨j', _, _, _, hx'⟩ := (mem_livesFrom l _ _ x).1 hx
    have e1 : x.txn = (nth l j').txn := by
      rw [hx']
      unfold lifeOf
      split <;> rfl
    have e2 : x.from_ = (j' : Int) := by
      rw [hx']
      unfold lifeOf
      split <;> rfl
    have : j' = j := by rw [h3] at e2; omega
    subst this
    exact ⟨j', by rw [e1, h1], h3⟩
  obtain ⟨j, h1, h2⟩ := hta a ha
  obtain ⟨k, h3, h4⟩ := hta b hb
  rw [e] at h1
  have : (j : Int) = k := h1.symm.trans h3
  omega
/-- The committed transactions, rising. -/
def nodesS (l : List Ev) : List Int := Rg.sortD (((lives l).filter Life.com).map Life.txn)
theorem coms_nodup (l : List Ev) : (((lives l).filter Life.com).map Life.txn).Nodup :=
  List.Pairwise.sublist (List.Sublist.map _ List.filter_sublist) (lives_txns l)
theorem nodesS_len (l : List Ev) : (nodesS l).length ≤ l.length := by
  unfold nodesS
  have h0 := Rg.sortD_len (((lives l).filter Life.com).map Life.txn)
  rw [List.length_map] at h0
  have := List.length_filter_le Life.com (lives l)
  have := lives_len l
  omega
set_option maxRecDepth 100000 in
set_option maxHeartbeats 4000000 in
theorem e_nodes (w : World) (A : Option Addr) (n cap : Nat) (l : List Ev) (hE : Evs w A n l) (hn : n ≤ 1000) (hc : n ≤ cap) :
    Calls Tryz.prog 24 #[.slice A n cap] w fun e w' => ∃ v, e = .returned v ∧ w'.ownsRow w.heap.size 3 1 v (nodesS l).length ((nodesS l).flatMap intCs) ∧ Ext w w' := by
  have hX := Ext.refl w
  have hl := hid hE.len
  have HE := hid hE
  clear hE
  go_enter Tryz.func24, Tryz.ntmps24
  go_wp2_with (go_at_call 52; refine (h_lives _ _ _ _ l HE.out hn hc).mono ?_; rintro e w1 ⟨A1, c1, rfl, hL1, hx1⟩)
  have hll : (lives l).length ≤ 1000 := by have := lives_len l; have := hl.out; omega
  have HL := hid hL1
  clear hL1
  obtain ⟨ls, hls⟩ : ∃ ls, lives l = ls := ⟨_, rfl⟩
  have hN : nodesS l = ((ls.filter Life.com).map Life.txn).mergeSort fun x y => decide (x ≤ y) := by unfold nodesS; rw [← hls, msort_eq (coms_nodup l)]
  have HN := hid hN
  clear hN
  rw [hls] at HL hll ⊢
  clear hls
  go_loopw [3, 9] (fun out i W => Ext w1 W ∧ ∃ (k : Nat) (pre : List Int), k ≤ ls.length ∧ i = .int .i64 k ∧ W.ownsRow w1.heap.size 3 1 out pre.length (pre.flatMap intCs) ∧ pre.length ≤ k ∧ Hid (pre = ((ls.take k).filter Life.com).map Life.txn)) (fun _ i _ => ls.length - (RowKit.intOf i).toNat)
  case atStart => exact ⟨Ext.refl _, 0, [], by omega, rfl, World.ownsRow_nil _ _ _ _, by simp, hid (by simp)⟩
  case round =>
    obtain ⟨hW, k, pre, hk1, rfl, hown, hpl, hr⟩ := hrel
    by_cases hlt : k < ls.length
    · obtain ⟨b, o, rfl, h0, h1, h2, h3⟩ := HL.out.opn (by omega)
      have hst : Hid (((ls.take (k + 1)).filter Life.com).map Life.txn = ((ls.take k).filter Life.com).map Life.txn ++ (if (lnth ls k).com = true then [(lnth ls k).txn] else [])) := hid (by
        rw [List.take_succ_eq_append_getElem hlt, List.filter_append, List.map_append]
        congr 1
        rw [show ls[k] = lnth ls k by simp [lnth, List.getD_eq_getElem?_getD, hlt]]
        by_cases hcm : (lnth ls k).com = true
        · rw [if_pos hcm]; simp [hcm]
        · rw [if_neg hcm]; simp [hcm])
      have c0 := h0 wr k hW hlt
      have c1' := h1 wr k hW hlt
      have c2 := h2 wr k hW hlt
      have c3 := h3 wr k hW hlt
      clear h0 h1 h2 h3
      obtain ⟨cb, hcb⟩ : ∃ cb, (lnth ls k).com = cb := ⟨_, rfl⟩
      rw [hcb] at hst c3
      clear hcb
      cases cb
      · have hWa := hW.alloc (.cells #[.int .i64 (lnth ls k).txn, .int .i64 (lnth ls k).from_, .int .i64 (lnth ls k).till, .bool false] 52)
        go_wp2
        exact ⟨⟨hWa, k + 1, pre, by omega, by go_num, hown.alloc _, by omega, hid (by rw [hst.out, if_neg (by simp), hr.out, List.append_nil])⟩, by simp [RowKit.intOf]; omega⟩
      · have hWa := hW.alloc (.cells #[.int .i64 (lnth ls k).txn, .int .i64 (lnth ls k).from_, .int .i64 (lnth ls k).till, .bool true] 52)
        obtain ⟨v', w5, hrun, hown5, hgrow, _⟩ := app_int (hown.alloc (.cells #[.int .i64 (lnth ls k).txn, .int .i64 (lnth ls k).from_, .int .i64 (lnth ls k).till, .bool true] 52)) hWa.le (by omega) 31 (lnth ls k).txn
        rw [World.size_alloc] at hrun
        have hW5 : Ext w1 w5 := Ext.grown hWa hgrow (own_block hown)
        go_wp2
        exact ⟨⟨hW5, k + 1, _, by omega, by go_num, hown5, by simp; omega, hid (by rw [hst.out, if_pos rfl, hr.out])⟩, by simp [RowKit.intOf]; omega⟩
    · have hpre : pre = (ls.filter Life.com).map Life.txn := by rw [hr.out, List.take_of_length_le (by omega)]
      have HS := hid (sortInt_own w1 wr hW _ pre (by omega) hown)
      go_wp2_with (go_at_call 53; (with_reducible refine HS.out.mono ?_); rintro e w6 ⟨rfl, hown6, hx6⟩)
      go_ret
      refine ⟨_, rfl, ?_, hx1.trans hx6⟩
      rw [HN.out, ← hpre, List.length_mergeSort]
      exact own_base hown6 hx1.le
end
end
end Go.Proofs.YtebjiimlcnmfpaaGreat

/-! The contract of edges.Nodes, in the words of the printed ones. -/
namespace Go.Proofs.YtebjiimlcnmfpaaGreatPr
section
section
open Go Go.RowKit Go.Proofs.YtebjiimlcnmfpaaGreat

end
end
end Go.Proofs.YtebjiimlcnmfpaaGreatPr
end
