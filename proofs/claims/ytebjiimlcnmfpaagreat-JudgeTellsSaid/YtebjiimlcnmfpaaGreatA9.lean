/-
  slices.Sorted(maps.Keys(m)) at this program; the program's history.Keys.
-/
import Derived.Maps.Own
import Derived.Maps.OwnOps
import Derived.Maps.OwnSet
import Derived.Test.YtebjiimlcnmfpaaGreatLays
import Derived.Test.YtebjiimlcnmfpaaGreatA2
set_option linter.unusedVariables false
set_option linter.unusedSimpArgs false
namespace Go.Proofs.YtebjiimlcnmfpaaGreat
section
open Go Go.RowKit Go.Proofs Go.Shelf Go.Maps Go.Sort Go.ChangeMaps
attribute [local go_sem] Ext.alloc Ext.alloc2 Ext.alloc3 Ext.alloc4 Ext.drewN_alloc Ext.drewN_alloc2 Ext.drew_alloc Ext.drew Ext.drewN toList_beq

theorem sortsStr (m : Nat) : AnyZ.SortsIn Tryz.prog sortedStr_ren Fence.wide m :=
  ⟨fun blk off cap ss W hH hblk hsz => callsIn_wide.2 (AnyM.slices_Sort_string sortStr blk off cap ss W hH hblk hsz),
   fun p cap W => callsIn_wide.2 (AnyM.slices_Sort_string_none sortStr p cap W)⟩
theorem keysStr_call (mb : Option Nat) (W : World) : Calls Tryz.prog 85 #[.map mb] W fun e w' => e = .returned (.func (.func 118) #[] #[.pointer (some ⟨W.heap.size, 0, none⟩)]) ∧ w' = W.alloc (.cells #[.map mb] 108) :=
  (callsIn_wide (n := 5)).1 (AnyZ.keys_in keysStr Fence.wide 5 trivial rfl mb W)
theorem sortedStr_call {H : Type} (b nn : Nat) (D0 : DataW H) (R : Value → Option (DataW H × List MemPlace)) (w : World) (hown : w.ownsMap Tryz.prog 9 R b nn D0) (hmax : Maps.size D0 ≤ maxLen) (hbytes : Maps.size D0 * 16 ≤ 140737488355328) :
    Calls Tryz.prog 84 #[.func (.func 118) #[] #[.pointer (some ⟨w.heap.size, 0, none⟩)]] (w.alloc (.cells #[.map (some b)] 108)) fun e w' => ∃ (v : Value) (ss : List (List UInt8)), e = .returned v ∧ ss.Perm (strKeys D0) ∧
      w'.ownsRow w.heap.size 9 1 v ss.length ((ss.mergeSort (fun x y => decide (x ≤ y))).map encStr) ∧ Ext w w' := by
  have hbl := hown.lt
  have hseq : SeqGives Fence.wide 2 Tryz.prog 118 #[.pointer (some ⟨w.heap.size, 0, none⟩)] encStr (fun ss => ss.Perm (strKeys D0)) (Maps.size D0) (w.alloc (.cells #[.map (some b)] 108)) :=
    AnyZ.keys_gives (ρ := keysStr_ren) { keysStr with } Fence.wide _ trivial rfl (by omega) w.heap.size b nn D0 _ (by simp) (by simp) (by
      obtain ⟨es, clock, hb, Ft, hs, hD⟩ := hown
      exact ⟨es, clock, (Below.heap_alloc _ _ b hbl).trans hb, Ft, hs, hD⟩)
  have cS := AnyZ.sorted_in sortedStr Fence.wide 5 trivial trivial trivial trivial rfl (by omega) (sortsStr _) (enters_of Tryz.func117 (by kernel_rfl) rfl) 118 #[.pointer (some ⟨w.heap.size, 0, none⟩)] trivial (enters_of Tryz.func118 (by kernel_rfl) rfl) _ _ hmax hbytes _ hseq
  change CallsIn _ _ Tryz.prog 84 _ _ _ at cS
  refine (callsIn_wide.1 cS).mono ?_
  rintro e w' ⟨v, ss, rfl, hS, hrow, hnil, hb⟩
  exact ⟨v, ss, rfl, hS, ownsRow_base_a hrow (by simp), ((Below.refl _ w).alloc (Nat.le_refl _) _).trans (hb.mono (by simp))⟩

theorem strKeys_spec {H : Type} {P : Program} {k : TypeId} {R : Value → Option (DataW H × List MemPlace)} {w : World} {b n : Nat} {D : DataW H} (h : w.ownsMap P k R b n D) (K : Keyed P k) (hk : P.underlying k = some .string) :
    (strKeys D).Nodup ∧ ∀ x, x ∈ strKeys D ↔ has D (.string x) = true := by
  obtain ⟨es, hD, hpw, _⟩ := h.entries K
  obtain ⟨es', hD', hko⟩ := h.keysOf
  obtain rfl : es = es' := by rw [hD] at hD'; simpa using hD'
  subst hD
  have hks : ∀ p ∈ es, ∃ x, p.1 = .string x := fun p hp => by obtain ⟨v, hv⟩ := hko p hp; obtain ⟨x, _, hx, _⟩ := Maps.keyOf_str hk hv; exact ⟨x, hx⟩
  refine ⟨?_, fun x => ?_⟩
  · show (es.map fun p => strOf p.1).Nodup
    refine List.pairwise_map.2 (hpw.imp_of_mem fun {p q} hp' hq' hne e => hne ?_)
    obtain ⟨a, ha⟩ := hks p hp'
    obtain ⟨b, hb⟩ := hks q hq'
    rw [ha, hb] at e ⊢
    exact congrArg _ e
  · rw [has_eq, List.any_eq_true]
    show x ∈ es.map (fun p => strOf p.1) ↔ _
    rw [List.mem_map]
    constructor
    · rintro ⟨p, hp', rfl⟩
      obtain ⟨a, ha⟩ := hks p hp'
      exact ⟨p, hp', by rw [ha]; simp [Lit.sameKey, strOf]⟩
    · rintro ⟨p, hp', hs⟩
      obtain ⟨a, ha⟩ := hks p hp'
      rw [ha] at hs
      exact ⟨p, hp', by rw [ha]; simpa [Lit.sameKey, strOf] using hs⟩

/-- The keys that reads and writes bear, as bytes. -/
def keyed (x : Go.Proofs.YtebjiimlcnmfpaaGreat.Ev) : Bool := x.kind == 2 || x.kind == 3
def keyBytes (l : List Go.Proofs.YtebjiimlcnmfpaaGreat.Ev) : List (List UInt8) := (l.filter keyed).map fun x => x.key.data.toList
/-- r is all keys, each once, rising. -/
def KeysAre (l : List Go.Proofs.YtebjiimlcnmfpaaGreat.Ev) (r : List (List UInt8)) : Prop := r.Pairwise (· < ·) ∧ ∀ x, x ∈ r ↔ x ∈ keyBytes l

theorem lawStr : Keyed Tryz.prog 9 := string_keyed Tryz.underlying9

theorem keyBytes_step {l : List Go.Proofs.YtebjiimlcnmfpaaGreat.Ev} {k : Nat} (h : k < l.length) : keyBytes (l.take (k + 1)) = keyBytes (l.take k) ++ (if keyed (nth l k) = true then [(nth l k).key.data.toList] else []) := by
  unfold keyBytes
  rw [List.take_succ_eq_append_getElem h, ← nth_lt h, List.filter_append, List.map_append]
  congr 1
  by_cases hp : keyed (nth l k) = true <;> simp [hp]
theorem put_keys {w : World} {b n : Nat} {R : Value → Option (DataW Unit × List MemPlace)} {D : DataW Unit} {x0 : List UInt8} {d : DataW Unit} {ks ks' : List (List UInt8)} (hown : w.ownsMap Tryz.prog 9 R b n D) (h : ∀ x, has D (.string x) = true ↔ x ∈ ks) (hs : ks' = ks ++ [x0]) :
    ∀ x, has (D.put (.string x0) d) (.string x) = true ↔ x ∈ ks' := by
  intro x
  by_cases e : x = x0
  · subst e
    rw [has_put_same hown.isMap (by trivial)]
    simp [hs]
  · rw [has_put_other (by simpa using e), h x, hs]
    simp [e]
theorem sorted_keys {w : World} {b n : Nat} {R : Value → Option (DataW Unit × List MemPlace)} {D : DataW Unit} {l : List Go.Proofs.YtebjiimlcnmfpaaGreat.Ev} {ss : List (List UInt8)} (hown : w.ownsMap Tryz.prog 9 R b n D) (h : ∀ x, has D (.string x) = true ↔ x ∈ keyBytes l) (hp : ss.Perm (strKeys D)) :
    KeysAre l (ss.mergeSort (fun x y => decide (x ≤ y))) := by
  obtain ⟨h1, h2⟩ := strKeys_spec hown lawStr Tryz.underlying9
  have tr : ∀ a b c : List UInt8, leB a b = true → leB b c = true → leB a c = true := fun a b c h1 h2 => by simp only [leB, decide_eq_true_eq] at *; exact List.le_trans h1 h2
  have tot : ∀ a b : List UInt8, (leB a b || leB b a) = true := fun a b => by simp only [leB, Bool.or_eq_true, decide_eq_true_eq]; exact List.le_total a b
  have hpm := List.mergeSort_perm ss leB
  have hs := List.pairwise_mergeSort tr tot ss
  have hnd : (ss.mergeSort leB).Nodup := (hpm.trans hp).symm.nodup h1
  refine ⟨?_, fun x => ?_⟩
  · refine (hs.and hnd).imp fun {a b} hab => ?_
    have hle : a ≤ b := by simpa [leB] using hab.1
    exact Std.lt_of_le_of_ne hle hab.2
  · rw [← h x, ← h2 x]
    exact (hpm.trans hp).mem_iff

set_option maxRecDepth 100000 in
set_option maxHeartbeats 2000000 in
theorem h_keys (w : World) (A : Option Addr) (n cap : Nat) (l : List Go.Proofs.YtebjiimlcnmfpaaGreat.Ev) (hE : Evs w A n l) (hn : n ≤ 1000000) (hk : ∀ x ∈ l, x.key.size ≤ maxLen) :
    Calls Tryz.prog 47 #[.slice A n cap] w fun e w' => ∃ v r, e = .returned v ∧ KeysAre l r ∧ w'.ownsRow w.heap.size 9 1 v r.length (r.map encStr) ∧ Ext w w' := by
  have hX := Ext.refl w
  have hbig := hE.big
  have hl := hid hE.len
  have HE := hid hE
  have HK := hid hk
  have hmm := @run_makeMap Tryz.prog
  clear hE hk
  go_enter Tryz.func47, Tryz.ntmps47
  go_wp2
  have hmade := World.ownsMap_made w Tryz.prog 9 (plainElem (H := Unit) Tryz.prog 4)
  go_loopw [9] (fun i W => Ext w W ∧ ∃ (k : Nat) (D : DataW Unit), k ≤ n ∧ i = .int .i64 k ∧ W.ownsMap Tryz.prog 9 (plainElem Tryz.prog 4) w.heap.size k D ∧ Hid (∀ x, has D (.string x) = true ↔ x ∈ keyBytes (l.take k))) (fun i _ => n - (intOf i).toNat)
  case atStart => exact ⟨hX.alloc _, 0, .map [], by omega, rfl, hmade, hid (by intro x; simp [keyBytes, has])⟩
  case round =>
    obtain ⟨hW, k, D, hk1, rfl, hown, hr⟩ := hrel
    by_cases hlt : k < n
    · obtain ⟨b, o, rfl, h0, h1, h2, h3⟩ := HE.out.opn (by omega)
      have hst : Hid (keyBytes (l.take (k + 1)) = keyBytes (l.take k) ++ (if keyed (nth l k) = true then [(nth l k).key.data.toList] else [])) := hid (keyBytes_step (by rw [hl.out]; exact hlt))
      have hkey : Hid (keyOf Tryz.prog 9 (.string (nth l k).key) = some (.string (nth l k).key.data.toList)) := hid (Go.WideMaps.keyOf_string_mk Tryz.underlying9 (HK.out _ (by rw [nth_lt (show k < l.length by rw [hl.out]; exact hlt)]; exact List.getElem_mem _)))
      have hown1 := hown.alloc (.cells #[.int .i64 (nth l k).kind, .int .i64 (nth l k).txn, .string (nth l k).key, .string (nth l k).val] 50)
      by_cases hk2 : (nth l k).kind = 2
      · have kb2 : ((nth l k).kind == 2) = true := by rw [hk2]; rfl
        have kb3 : ((nth l k).kind == 3) = false := by rw [hk2]; rfl
        have hin : Hid (∀ x, has (D.put (.string (nth l k).key.data.toList) (.lit (.bool true))) (.string x) = true ↔ x ∈ keyBytes (l.take (k + 1))) := hid (put_keys hown hr.out (by rw [hst.out, if_pos (by unfold keyed; rw [kb2, kb3]; rfl)]))
        clear hk2
        go_wp2_with (at_mapUpdate; refine wpList_mapUpdate_own _ rfl _ _ _ 108 rfl 9 4 lawStr Tryz.underlying108 _ w.heap.size k D rfl hown1 (by unfold maxLen; omega) _ _ _ rfl rfl hkey.out _ [] (plainElem_bool Tryz.underlying4 true) ?_; intro w1 hown2 hgrow2)
        go_roundw
        case rel => exact ⟨Ext.grown (hW.alloc _) hgrow2 (fun j e => by cases e; exact Nat.le_refl _), k + 1, _, by omega, by go_num, hown2, hin⟩
        case measure => simp [intOf]; omega
      · by_cases hk3 : (nth l k).kind = 3
        · have kb2 : ((nth l k).kind == 2) = false := beq_eq_false_iff_ne.2 hk2
          have kb3 : ((nth l k).kind == 3) = true := by rw [hk3]; rfl
          have hin : Hid (∀ x, has (D.put (.string (nth l k).key.data.toList) (.lit (.bool true))) (.string x) = true ↔ x ∈ keyBytes (l.take (k + 1))) := hid (put_keys hown hr.out (by rw [hst.out, if_pos (by unfold keyed; rw [kb2, kb3]; rfl)]))
          clear hk2 hk3
          go_wp2_with (at_mapUpdate; refine wpList_mapUpdate_own _ rfl _ _ _ 108 rfl 9 4 lawStr Tryz.underlying108 _ w.heap.size k D rfl hown1 (by unfold maxLen; omega) _ _ _ rfl rfl hkey.out _ [] (plainElem_bool Tryz.underlying4 true) ?_; intro w1 hown2 hgrow2)
          go_roundw
          case rel => exact ⟨Ext.grown (hW.alloc _) hgrow2 (fun j e => by cases e; exact Nat.le_refl _), k + 1, _, by omega, by go_num, hown2, hin⟩
          case measure => simp [intOf]; omega
        · have kb2 : ((nth l k).kind == 2) = false := beq_eq_false_iff_ne.2 hk2
          have kb3 : ((nth l k).kind == 3) = false := beq_eq_false_iff_ne.2 hk3
          have hin : Hid (∀ x, has D (.string x) = true ↔ x ∈ keyBytes (l.take (k + 1))) := hid (by rw [hst.out, if_neg (by unfold keyed; rw [kb2, kb3]; simp), List.append_nil]; exact hr.out)
          clear hk2 hk3
          go_wp2
          go_roundw
          case rel => exact ⟨hW.alloc _, k + 1, D, by omega, by go_num, hown1.mono (by omega), hin⟩
          case measure => simp [intOf]; omega
    · have hmem : Hid (∀ x, has D (.string x) = true ↔ x ∈ keyBytes l) := hid (by have := hr.out; rwa [List.take_of_length_le (by rw [hl.out]; omega)] at this)
      have hsz := hown.size_le
      go_wp2_with (first
        | (go_at_call 85; refine (keysStr_call _ _).mono ?_; rintro e w1 ⟨rfl, rfl⟩)
        | (go_at_call 84; refine (sortedStr_call w.heap.size k D _ _ hown (by unfold maxLen; omega) (by omega)).mono ?_; rintro e w1 ⟨v, ss, rfl, hS, hrow, hx1⟩))
      go_ret
      refine ⟨v, _, rfl, sorted_keys hown hmem.out hS, ?_, hW.trans hx1⟩
      rw [List.length_mergeSort]
      exact ownsRow_base_a hrow hW.le
end
end Go.Proofs.YtebjiimlcnmfpaaGreat
