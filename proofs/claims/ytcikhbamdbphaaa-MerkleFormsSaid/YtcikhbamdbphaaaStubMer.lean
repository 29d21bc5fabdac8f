/- The contracts of package merkle in the printed form: '.f' is what the function computes, '.calls' that the machine's call does. -/
import Derived.Test.YtcikhbamdbphaaaPAllx0
import Derived.Test.YtcikhbamdbphaaaMerH
import Derived.Test.YtcikhbamdbphaaaMerX
set_option linter.unusedVariables false
namespace Go.Proofs.Ytcikhbamdbphaaa.Stub
open Go.RowKit Go.Proofs.Ytcikhbamdbphaaa Go.Proofs.Ytcikhbamdbphaaa.PAll Go.Proofs.YtcikhbamdbphaaaW.PrintWords Go.Proofs.YtcikhbamdbphaaaW.PrintLast
def small (s : ByteArray) : Bool := decide (s.size ≤ 140737488351232)
def toP (x : S42) : Int × Bool := (x.f0, x.f1)
def ofP (x : Int × Bool) : S42 := ⟨x.1, x.2⟩
def okP (l : List S42) : Bool := l.all fun x => u64ok x.f0
theorem leaves_of {w : World} {A : Option Addr} {n : Nat} {l : List ByteArray} (h : Kd.C Kd.string w A n l) (h0 : 0 < l.length) : MerB.LeavesAt w A l := by
  have hn := h.1
  obtain ⟨ad, hA, hc⟩ := h.2.2 (by omega)
  have hcell : ∀ (i : Nat) s, l[i]? = some s → w.cell? (ad.add i) = some (.string s) := fun i s hi => by
    obtain ⟨c, h1, h2, h3⟩ := hc i s hi
    have h4 : c = [.string s] := h2
    subst h4
    have := h3 0 (.string s) rfl
    simpa [Kd.string, Kd.scalar] using this
  refine ⟨ad, hA, ?_, hcell⟩
  have := World.block_lt_of_cell? w _ (hcell 0 _ (List.getElem?_eq_getElem h0))
  rwa [MerA.add_block] at this
theorem path_of {w : World} {A : Option Addr} {n c : Nat} {l : List S42} (h : Kd.C k42 w A n l) (hc : n ≤ c) (hok : okP l = true) : MerW.PathArg w A n c (l.map toP) := by
  have hn := h.1
  have hlen : (l.map toP).length = n := by rw [List.length_map, hn]
  refine ⟨⟨A, c, by rw [hlen], by rw [hlen]; exact hc, trivial, fun h0 => ?_⟩, ?_⟩
  · obtain ⟨ad, hA, hcl⟩ := h.2.2 (by omega)
    have hcell : ∀ (j : Nat) p, (l.map toP)[j]? = some p → w.cell? (ad.add (j * 2)) = some (.int .u64 p.1) ∧ w.cell? ⟨(ad.add (j * 2)).block, (ad.add (j * 2)).off + 1, none⟩ = some (.bool p.2) := fun j p hj => by
      rw [List.getElem?_map] at hj
      obtain ⟨x, hx, rfl⟩ := Option.map_eq_some_iff.1 hj
      obtain ⟨cs, h1, h2, h3⟩ := hcl j x hx
      obtain rfl := k42_open h2
      have e0 : w.cell? (ad.add (j * 2)) = some (.int .u64 x.f0) := h3 0 _ rfl
      refine ⟨e0, ?_⟩
      rw [← add_field _ _ 1 (by omega)]
      exact h3 1 _ rfl
    refine ⟨ad, hA, ?_, hcell⟩
    have h1 : 0 < (l.map toP).length := h0
    have := World.block_lt_of_cell? w _ (hcell 0 _ (List.getElem?_eq_getElem h1)).1
    rwa [MerA.add_block] at this
  · intro p hp
    obtain ⟨x, hx, rfl⟩ := List.mem_map.1 hp
    unfold okP at hok
    rw [List.all_eq_true] at hok
    exact u64ok_of (hok x hx)

def merkle_Root.f (l0 : List ByteArray) : Option (Int × Int) := if l0.all small = true then some (Mer.rootF l0) else none
theorem merkle_Root.calls (A0 : Option Addr) (c0 : Nat) (l0 : List ByteArray) (r1 r2 : Int) (w : World) (hr0 : Kd.C Kd.string w A0 l0.length l0) (hc0 : l0.length ≤ c0) (h : merkle_Root.f l0 = some (r1, r2)) :
    Calls Try.prog 13 #[.slice A0 l0.length c0] w fun e w' => e = .returned (.tuple #[.int .u64 r1, .int .i64 r2]) ∧ Below w.heap.size w w' := by
  unfold merkle_Root.f at h
  split at h
  · rename_i hs
    have h := Option.some.inj h
    unfold Mer.rootF at h
    by_cases h0 : l0.length = 0
    · rw [if_pos h0] at h
      cases h
      rw [h0]
      exact MerB.root_none _ _ _
    · rw [if_neg h0] at h
      by_cases h1 : 1024 < l0.length
      · rw [if_pos h1] at h
        cases h
        exact MerB.root_many _ _ _ h1 _
      · rw [if_neg h1] at h
        cases h
        refine (MerB.root_ok A0 l0 c0 w (leaves_of hr0 (by omega)) (fun s hm => by rw [List.all_eq_true] at hs; simpa [small] using hs s hm) (by omega) (by omega)).mono ?_
        rintro e w' ⟨⟨i, h1, h2, rfl⟩, hb⟩
        refine ⟨?_, hb⟩
        rw [Mer.top, Mer.hgt_eq h1 h2]
  · cases h
def merkle_Path.f (l0 : List ByteArray) (a1 : Int) : Option (List S42 × Int) := if l0.all small = true then some ((Mer.pathF l0 a1).1.map ofP, (Mer.pathF l0 a1).2) else none
theorem reps_of (w : World) (base : Nat) (ok : Nat → Prop) : ∀ m : List (Int × Bool), Reps (k42.M w base ok) 2 (m.reverse.map ofP) (m.reverse.flatMap MerC.enc)
  | [] => Reps.none _ _
  | p :: m => by
    rw [List.reverse_cons, List.map_append, List.flatMap_append]
    exact (reps_of w base ok m).snoc (k42_mkM w base ok (ofP p)) rfl
theorem merkle_Path.calls (A0 : Option Addr) (c0 : Nat) (l0 : List ByteArray) (a1 : Int) (r1 : List S42) (r2 : Int) (w : World) (hr0 : Kd.C Kd.string w A0 l0.length l0) (hc0 : l0.length ≤ c0) (h : merkle_Path.f l0 a1 = some (r1, r2)) :
    Calls Try.prog 15 #[.slice A0 l0.length c0, .int .i64 a1] w fun e w' => ∃ v0_ : Value, e = .returned (.tuple #[v0_, .int .i64 r2]) ∧ Kd.R k42 42 w' w.heap.size (fun _ => True) v0_ r1 ∧ Below w.heap.size w w' := by
  unfold merkle_Path.f at h
  split at h
  · rename_i hs
    have h := Option.some.inj h
    unfold Mer.pathF at h
    by_cases h0 : l0.length = 0
    · rw [if_pos h0] at h
      cases h
      rw [h0]
      refine (MerC.path_none _ _ _ _).mono ?_
      rintro e w' ⟨rfl, hb⟩
      exact ⟨_, rfl, Kd.R_nil _ _ _ _ _, hb⟩
    · rw [if_neg h0] at h
      by_cases h1 : 1024 < l0.length
      · rw [if_pos h1] at h
        cases h
        refine (MerC.path_many _ _ _ h1 _ _).mono ?_
        rintro e w' ⟨rfl, hb⟩
        exact ⟨_, rfl, Kd.R_nil _ _ _ _ _, hb⟩
      · rw [if_neg h1] at h
        by_cases h2 : a1 < 0 ∨ (l0.length : Int) ≤ a1
        · rw [if_pos h2] at h
          cases h
          refine (MerC.path_out _ _ _ (by omega) (by omega) _ h2 _).mono ?_
          rintro e w' ⟨rfl, hb⟩
          exact ⟨_, rfl, Kd.R_nil _ _ _ _ _, hb⟩
        · rw [if_neg h2] at h
          cases h
          obtain ⟨q, rfl⟩ : ∃ q : Nat, a1 = q := ⟨a1.toNat, by omega⟩
          refine (MerC.path_ok A0 l0 c0 q w (leaves_of hr0 (by omega)) (fun s hm => by rw [List.all_eq_true] at hs; simpa [small] using hs s hm) (by omega) (by omega)).mono ?_
          rintro e w' ⟨⟨i, v, h1, h2, rfl, hown⟩, hb⟩
          refine ⟨v, rfl, ⟨fun _ _ => trivial, ?_⟩, hb⟩
          rw [Int.toNat_natCast, Mer.path, Mer.hgt_eq h1 h2]
          have hr := reps_of w' w.heap.size (fun k => True ∧ some k ≠ v.ownBlock) (Mer.pathN (l0.map Mer.leaf) q (i + 1)).reverse
          rw [List.reverse_reverse] at hr
          exact ⟨_, by rw [List.length_map]; exact hown, hr⟩
  · cases h
def merkle_Verify.f (a0 a1 a2 : Int) (a3 : ByteArray) (l4 : List S42) : Option Bool := if small a3 = true ∧ okP l4 = true then some (Mer.verifyB a0 a1 a2 a3 (l4.map toP)) else none
theorem merkle_Verify.calls (a0 a1 a2 : Int) (a3 : ByteArray) (A4 : Option Addr) (c4 : Nat) (l4 : List S42) (r : Bool) (w : World) (hr4 : Kd.C k42 w A4 l4.length l4) (hc4 : l4.length ≤ c4) (h : merkle_Verify.f a0 a1 a2 a3 l4 = some r) :
    Calls Try.prog 18 #[.int .u64 a0, .int .i64 a1, .int .i64 a2, .string a3, .slice A4 l4.length c4] w fun e w' => e = .returned (.bool r) ∧ Below w.heap.size w w' := by
  unfold merkle_Verify.f at h
  split at h
  · rename_i hs
    cases h
    exact MerW.verify_any a0 a1 a2 a3 (by simpa [small] using hs.1) A4 l4.length c4 _ w (path_of hr4 hc4 hs.2)
  · cases h
def merkle_Collision.f (a0 a1 : Int) (a2 : ByteArray) (l3 : List S42) (a4 : ByteArray) (l5 : List S42) : Option (ByteArray × ByteArray × Bool) :=
  if (small a2 = true ∧ okP l3 = true) ∧ small a4 = true ∧ okP l5 = true then some (Mer.collF a0 a1 a2 (l3.map toP) a4 (l5.map toP)) else none
theorem merkle_Collision.calls (a0 a1 : Int) (a2 : ByteArray) (A3 : Option Addr) (c3 : Nat) (l3 : List S42) (a4 : ByteArray) (A5 : Option Addr) (c5 : Nat) (l5 : List S42) (r1 r2 : ByteArray) (r3 : Bool) (w : World)
    (hr3 : Kd.C k42 w A3 l3.length l3) (hc3 : l3.length ≤ c3) (hr5 : Kd.C k42 w A5 l5.length l5) (hc5 : l5.length ≤ c5) (h : merkle_Collision.f a0 a1 a2 l3 a4 l5 = some (r1, r2, r3)) :
    Calls Try.prog 20 #[.int .i64 a0, .int .i64 a1, .string a2, .slice A3 l3.length c3, .string a4, .slice A5 l5.length c5] w fun e w' => e = .returned (.tuple #[.string r1, .string r2, .bool r3]) ∧ Below w.heap.size w w' := by
  unfold merkle_Collision.f at h
  split at h
  · rename_i hs
    have h := Option.some.inj h
    refine (MerX.collision_any a0 a1 a2 (by simpa [small] using hs.1.1) A3 l3.length c3 _ a4 (by simpa [small] using hs.2.1) A5 l5.length c5 _ w (path_of hr3 hc3 hs.1.2) (path_of hr5 hc5 hs.2.2)).mono ?_
    rintro e w' ⟨hr, hb⟩
    refine ⟨?_, hb⟩
    unfold MerX.Res at hr
    rw [h] at hr
    exact hr
  · cases h
end Go.Proofs.Ytcikhbamdbphaaa.Stub
