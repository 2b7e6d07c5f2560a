/-
  The contracts of ring.Ring and ring.Order, in the words of the printed ones.
-/
import Derived.Test.YtebjiimlcnmfpaaGreatA20
import Derived.Test.YtebjiimlcnmfpaaGreatB0
import Derived.Test.YtebjiimlcnmfpaaGreatWMore
set_option linter.unusedVariables false
set_option linter.unusedSimpArgs false
namespace Go.Proofs.YtebjiimlcnmfpaaGreatPr
open Go.Proofs.YtebjiimlcnmfpaaGreat
section
open Go Go.RowKit

abbrev fr_ (x : S80) : Int := x.f0
abbrev to_ (x : S80) : Int := x.f1
/-- A step as it lies in memory, and as it is read. -/
structure Bth (Q : S80 → List Value → Prop) where
  s : Stp
  t : S80
  hf : s.fr = t.f0
  ht : s.to_ = t.f1
  hq : Q t s.cs
theorem both {Q : S80 → List Value → Prop} (hQ : ∀ x c, Q x c → ∃ A2 c2, c = [.int .i64 x.f0, .int .i64 x.f1, .slice A2 x.f2.length c2]) {w : World} {A : Option Addr} {n : Nat} {xs : List S80} (h : YtebjiimlcnmfpaaGreatW.PrintWords.ReadsRow Q 3 w A n xs) (hn : n ≤ 140737488351232) :
    ∃ L : List (Bth Q), L.map Bth.t = xs ∧ Stps w A n (L.map Bth.s) := by
  obtain ⟨hl, _, hg⟩ := h
  rcases Nat.eq_zero_or_pos n with h0 | hp
  · subst h0
    obtain rfl : xs = [] := List.eq_nil_of_length_eq_zero hl
    exact ⟨[], rfl, Sl.nil _ _ _⟩
  obtain ⟨ad, rfl, hc⟩ := hg hp
  obtain ⟨L, hL, hr⟩ := choose_row (fun i (b : Bth Q) => xs[i]? = some b.t ∧ ∀ j u, b.s.cs[j]? = some u → w.cell? (ad.add (i * 3 + j)) = some u) n (fun i hi => by
    obtain ⟨cs, h1, h2, h3⟩ := hc i _ (List.getElem?_eq_getElem (by omega))
    obtain ⟨A2, c2, rfl⟩ := hQ _ _ h2
    exact ⟨⟨⟨xs[i].f0, xs[i].f1, A2, xs[i].f2.length, c2⟩, xs[i], rfl, rfl, h2⟩, List.getElem?_eq_getElem (by omega), h3⟩)
  have hmap : L.map Bth.t = xs := by
    apply List.ext_getElem?
    intro i
    rw [List.getElem?_map]
    by_cases hi : i < n
    · rw [(hr i _ (List.getElem?_eq_getElem (by omega))).1, List.getElem?_eq_getElem (by omega)]; rfl
    · rw [List.getElem?_eq_none (by omega), List.getElem?_eq_none (by omega)]; rfl
  have h0 : ad.spot = none := by
    have h4 := (hr 0 _ (List.getElem?_eq_getElem (by omega))).2 0 _ rfl
    have h5 : ad.add (0 * 3 + 0) = ad := by simp [Addr.add]
    rw [h5] at h4
    exact spot_none h4
  obtain ⟨b, o, s⟩ := ad
  obtain rfl : s = none := h0
  refine ⟨L, hmap, ⟨by simp [hL], hn, fun _ => ⟨b, o, rfl, fun i hi => ?_⟩⟩⟩
  have h4 := (hr i _ (List.getElem?_eq_getElem (by omega))).2
  refine ⟨(L[i]'(by omega)).s.cs, ?_, fun j u hu => ?_⟩
  · show _ = Stp.cs _
    simp [List.getD_eq_getElem?_getD, List.getElem?_map, List.getElem?_eq_getElem (show i < L.length by omega)]
  · have h5 := h4 j u hu
    rw [add_flat] at h5
    rw [show kStp.sz = 3 from rfl, Nat.add_assoc]
    exact h5
theorem both_ring {Q : S80 → List Value → Prop} (L : List (Bth Q)) : Rg.ring Stp.fr Stp.to_ (L.map Bth.s) = ((Rg.ring (fun b : Bth Q => b.s.fr) (fun b => b.s.to_) L).1.map Bth.s, (Rg.ring (fun b : Bth Q => b.s.fr) (fun b => b.s.to_) L).2) ∧
    Rg.ring fr_ to_ (L.map Bth.t) = ((Rg.ring (fun b : Bth Q => b.s.fr) (fun b => b.s.to_) L).1.map Bth.t, (Rg.ring (fun b : Bth Q => b.s.fr) (fun b => b.s.to_) L).2) := by
  refine ⟨Rg.ring_map Stp.fr Stp.to_ Bth.s L, ?_⟩
  have e1 : (fun b : Bth Q => fr_ b.t) = (fun b => b.s.fr) := funext fun b => b.hf.symm
  have e2 : (fun b : Bth Q => to_ b.t) = (fun b => b.s.to_) := funext fun b => b.ht.symm
  have := Rg.ring_map fr_ to_ Bth.t L
  rwa [e1, e2] at this
theorem both_order {Q : S80 → List Value → Prop} (L : List (Bth Q)) (nodes : List Int) : Rg.order Stp.fr Stp.to_ (L.map Bth.s) nodes = Rg.order fr_ to_ (L.map Bth.t) nodes := by
  have e1 : (fun b : Bth Q => fr_ b.t) = (fun b => b.s.fr) := funext fun b => b.hf.symm
  have e2 : (fun b : Bth Q => to_ b.t) = (fun b => b.s.to_) := funext fun b => b.ht.symm
  rw [Rg.order_map Stp.fr Stp.to_ Bth.s L nodes, Rg.order_map fr_ to_ Bth.t L nodes, e1, e2]
theorem both_forward {Q : S80 → List Value → Prop} (L : List (Bth Q)) (o : List Int) : Rg.forward Stp.fr Stp.to_ (L.map Bth.s) o = Rg.forward fr_ to_ (L.map Bth.t) o := by
  unfold Rg.forward
  congr 1
  induction L with
  | nil => rfl
  | cons b r ih => rw [List.map_cons, List.map_cons, List.all_cons, List.all_cons, ih, b.hf, b.ht]
theorem both_wf {Q : S80 → List Value → Prop} {L : List (Bth Q)} (h : ∀ x ∈ L.map Bth.t, IntS x.f0 ∧ IntS x.f1) : ∀ x ∈ L.map Bth.s, I64 x.fr ∧ I64 x.to_ := fun x hx => by
  obtain ⟨b, hb, rfl⟩ := List.mem_map.1 hx
  have := h b.t (List.mem_map.2 ⟨b, hb, rfl⟩)
  rw [b.hf, b.ht]
  exact this

def stepsOk (l : List S80) : Bool := l.all fun x => (Lit.int .i64 x.f0).wf && (Lit.int .i64 x.f1).wf
theorem stepsOk_iff {l : List S80} : stepsOk l = true ↔ ∀ x ∈ l, IntS x.f0 ∧ IntS x.f1 := by
  unfold stepsOk IntS
  rw [List.all_eq_true]
  simp only [Bool.and_eq_true]
def intsOk (l : List Int) : Bool := l.all fun x => (Lit.int .i64 x).wf
theorem intsOk_iff {l : List Int} : intsOk l = true ↔ ∀ x ∈ l, IntS x := by
  unfold intsOk IntS
  rw [List.all_eq_true]
theorem nums_of {w : World} {A : Option Addr} {l : List Int} (h : YtebjiimlcnmfpaaGreatW.PrintWords.Kd.C (YtebjiimlcnmfpaaGreatW.PrintWords.Kd.int .i64) w A l.length l) (hn : l.length ≤ 140737488351232) : Nums w A l.length l := by
  have := sl_of (YtebjiimlcnmfpaaGreatW.PrintWords.Kd.int .i64) intCs (fun h => h) kInt (fun x => x) rfl (by decide) (fun _ _ => rfl) h hn
  simpa using this

def ring_Ring.f (l0 : List (S80)) : Option ((List (S80)) × Bool) := if l0.length * 40 ≤ 140737488351232 ∧ stepsOk l0 = true then some (Rg.ring fr_ to_ l0) else none
theorem ring_Ring.calls (P0_ : Nat → Prop) (A0 : Option Addr) (c0 : Nat) (l0 : List (S80)) (r1 : List (S80)) (r2 : Bool) (w : World) (hs0 : YtebjiimlcnmfpaaGreatW.PrintWords.Kd.V k80 80 w w.heap.size (fun k_ => P0_ k_) (.slice A0 l0.length c0) l0) (h : ring_Ring.f l0 = some (r1, r2)) :
    Calls Tryz.prog 67 #[.slice A0 l0.length c0] w fun e w' => ∃ v0_ : Value, e = .returned (.tuple #[v0_, .bool r2]) ∧ YtebjiimlcnmfpaaGreatW.PrintWords.Kd.N k80 80 w' w.heap.size (fun k_ => (P0_ k_ ∨ w.heap.size ≤ k_)) v0_ r1 ∧ Below w.heap.size w w' := by
  unfold ring_Ring.f at h
  split at h
  · rename_i hn
    injection h with h
    obtain ⟨A1, c1, hv, _, hF⟩ := hs0
    injection hv with hA _ hcc
    subst hA; subst hcc
    have hrows := YtebjiimlcnmfpaaGreatW.PrintWords.Kd.F_rows hF
    obtain ⟨L, hL, hS⟩ := both (fun x c hx => by
      obtain ⟨A2, c2, hc, _, _⟩ := k80_openF hx
      exact ⟨A2, c2, hc⟩) hrows (by omega)
    obtain ⟨e1, e2⟩ := both_ring L
    rw [hL, h] at e2
    refine (r_ring w A0 l0.length c0 (L.map Bth.s) hS (both_wf (by rw [hL]; exact stepsOk_iff.1 hn.2)) hn.1).mono fun e w' ⟨v, he, ho, hx⟩ => ⟨v, ?_, ?_, hx⟩
    · rw [he, show ringS (L.map Bth.s) = _ from e1]
      injection e2 with _ e2
      rw [e2]
    · injection e2 with e2 _
      rw [show ringS (L.map Bth.s) = _ from e1] at ho
      obtain ⟨r, hr⟩ : ∃ r, (Rg.ring (fun b : Bth _ => b.s.fr) (fun b => b.s.to_) L).1 = r := ⟨_, rfl⟩
      rw [hr] at ho e2
      have hb := own_block ho
      have hlo : w.heap.size ≤ w'.heap.size := hx.size
      refine ⟨fun k hk => .inr (hb k hk), (r.map Bth.s).map Stp.cs, by rw [e2]; simp, ?_, fun j x c hx2 hc2 => ?_⟩
      · refine YtebjiimlcnmfpaaGreatW.PrintWords.Kd.raw_tight (r_of (YtebjiimlcnmfpaaGreatW.PrintWords.Kd.raw 3) 80 Stp.cs Stp.cs (fun _ _ _ y => ⟨rfl, rfl, fun u hu => by simp [Stp.cs] at hu; rcases hu with rfl | rfl | rfl <;> rfl⟩) (fun _ => rfl) ho)
      · rw [e2, List.getElem?_map] at hx2
        rw [List.map_map, List.getElem?_map] at hc2
        obtain ⟨b, hb1, rfl⟩ := Option.map_eq_some_iff.1 hx2
        rw [hb1] at hc2
        injection hc2 with hc2
        rw [← hc2]
        refine YtebjiimlcnmfpaaGreatW.PrintWords.Kd.FK_mono (YtebjiimlcnmfpaaGreatW.PrintWords.Kd.FK_below (YtebjiimlcnmfpaaGreatW.PrintWords.Kd.FK_bound b.hq) hx) (fun k hk => ⟨.inl hk.1, fun he => ?_⟩)
        have := hb k he.symm
        have := hk.2
        omega
  · cases h

def ring_Order.f (l0 : List Int) (l1 : List (S80)) : Option (List Int × Bool) := if (l0.length * 8 ≤ 140737488351232 ∧ l1.length ≤ 140737488351232) ∧ intsOk l0 = true ∧ stepsOk l1 = true then some ((Rg.order fr_ to_ l1 l0).getD [], (Rg.order fr_ to_ l1 l0).isSome) else none
theorem ring_Order.calls (A0 : Option Addr) (c0 : Nat) (l0 : List Int) (A1 : Option Addr) (c1 : Nat) (l1 : List (S80)) (r1 : List Int) (r2 : Bool) (w : World) (hr0 : YtebjiimlcnmfpaaGreatW.PrintWords.Kd.C (YtebjiimlcnmfpaaGreatW.PrintWords.Kd.int .i64) w A0 l0.length l0) (hc0 : l0.length ≤ c0) (hr1 : YtebjiimlcnmfpaaGreatW.PrintWords.Kd.C k80 w A1 l1.length l1) (hc1 : l1.length ≤ c1) (h : ring_Order.f l0 l1 = some (r1, r2)) :
    Calls Tryz.prog 66 #[.slice A0 l0.length c0, .slice A1 l1.length c1] w fun e w' => ∃ v0_ : Value, e = .returned (.tuple #[v0_, .bool r2]) ∧ YtebjiimlcnmfpaaGreatW.PrintWords.Kd.R (YtebjiimlcnmfpaaGreatW.PrintWords.Kd.int .i64) 3 w' w.heap.size (fun _ => True) v0_ r1 ∧ Below w.heap.size w w' := by
  unfold ring_Order.f at h
  split at h
  · rename_i hn
    obtain ⟨L, hL, hS⟩ := both (Q := k80.K w) (fun x c hx => by
      obtain ⟨A2, c2, hc, _, _⟩ := k80_open hx
      exact ⟨A2, c2, hc⟩) hr1 hn.1.2
    have e1 := both_order L l0
    rw [hL] at e1
    simp only [Option.some.injEq, Prod.mk.injEq] at h
    obtain ⟨h1, h2⟩ := h
    refine (r_order w A1 A0 l0.length l1.length c0 c1 l0 (L.map Bth.s) (nums_of hr0 (by omega)) (intsOk_iff.1 hn.2.1) hS (fun x hx => (both_wf (by rw [hL]; exact stepsOk_iff.1 hn.2.2) x hx).1) hn.1.1).mono fun e w' ⟨v, he, ho, hx⟩ => ⟨v, ?_, ?_, hx⟩
    · rw [he, show orderS (L.map Bth.s) l0 = _ from e1, h2]
    · rw [show orderS (L.map Bth.s) l0 = _ from e1, h1] at ho
      have := r_of (YtebjiimlcnmfpaaGreatW.PrintWords.Kd.int .i64) 3 intCs (fun x => x) (fun _ _ _ _ => rfl) (fun _ => rfl) ho
      simpa using this
  · cases h

end
end Go.Proofs.YtebjiimlcnmfpaaGreatPr
