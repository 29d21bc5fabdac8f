/- The closure of merkle.texts walked over any loop that keeps its boxes. -/
import Derived.Test.YtcikhbamdbphaaaMerC
import Derived.Test.YtcikhbamdbphaaaMerN
import Derived.DataElems
set_option linter.unusedSimpArgs false
set_option linter.unusedVariables false
namespace Go.Proofs.Ytcikhbamdbphaaa.MerT
open Go.RowKit Go.Shelf Go.Proofs.Ytcikhbamdbphaaa.MerA Go.Proofs.Ytcikhbamdbphaaa.Mer Go.Proofs.Ytcikhbamdbphaaa.MerC
attribute [local go_sem] Oper.semAt_some
/-- A slice of steps that lies below block B. -/
def PathAt (B : Nat) (W : World) (v : Value) (r : List (Int × Bool)) : Prop := ∃ A c, v = .slice A r.length c ∧ r.length ≤ c ∧ True ∧ (0 < r.length → ∃ ad, A = some ad ∧ ad.block < B ∧
  ∀ (j : Nat) p, r[j]? = some p → W.cell? (ad.add (j * 2)) = some (.int .u64 p.1) ∧ W.cell? ⟨(ad.add (j * 2)).block, (ad.add (j * 2)).off + 1, none⟩ = some (.bool p.2))
/-- The closure's boxes. -/
def St (B : Nat) (W : World) (s i : Nat) (leaf : ByteArray) (v : Value) : Prop := Boxed W B 3 (.int .i64 (s : Int)) ∧ Boxed W (B + 1) 3 (.int .i64 (i : Int)) ∧ Boxed W (B + 2) 9 (.string leaf) ∧ Boxed W (B + 3) 25 v
def sizeOf (B : Nat) (W : World) : Nat := match W.cell? ⟨B, 0, none⟩ with | some (.int _ n) => n.toNat | _ => 0
/-- Between two rounds: the strings of pre have come. -/
def Rel (B n1 : Nat) (J : List ByteArray → World → Prop) (N : Nat) (res : Option (List ByteArray)) (leaf : ByteArray) (v6 : Value) (W : World) : Prop :=
  ∃ (pre : List ByteArray) (text : ByteArray) (s i : Nat) (v : Value) (r : List (Int × Bool)), v6 = .string text ∧ res = (T s i text r).map (pre ++ ·) ∧ 1 ≤ s ∧ i < s ∧ pre.length + s ≤ N ∧ text.size ≤ 140737488355328 ∧
    St B W s i leaf v ∧ PathAt B W v r ∧ (∀ p ∈ r, 0 ≤ p.1 ∧ p.1 ≤ 18446744073709551615) ∧ J pre W ∧ n1 ≤ W.heap.size
/-- Within a round: rows without a step are passed. -/
def Rel2 (B n1 : Nat) (J : List ByteArray → World → Prop) (s0 : Nat) (res : Option (List ByteArray)) (leaf : ByteArray) (pre : List ByteArray) (text : ByteArray) (v : Value) (r : List (Int × Bool)) (W : World) : Prop :=
  ∃ (s i : Nat), res = T s i text r ∧ 1 ≤ s ∧ i < s ∧ s ≤ s0 ∧ St B W s i leaf v ∧ PathAt B W v r ∧ J (pre ++ [text]) W ∧ n1 ≤ W.heap.size
def two (B : Nat) (W : World) (a b : Int) : World := (W.setCell ⟨B, 0, none⟩ (.int .i64 a)).setCell ⟨B + 1, 0, none⟩ (.int .i64 b)
theorem two_size (B : Nat) (W : World) (a b : Int) : (two B W a b).heap.size = W.heap.size := by rw [two, Rf.size_set, Rf.size_set]
theorem two_below (B : Nat) (W : World) (a b : Int) : Below B W (two B W a b) := ((Below.refl B W).setCell (p := ⟨B, 0, none⟩) (Nat.le_refl _) _).setCell (p := ⟨B + 1, 0, none⟩) (by simp) _
theorem set_block (W : World) (b k : Nat) (v : Value) (hne : k ≠ b) : (W.setCell ⟨b, 0, none⟩ v).heap[k]? = W.heap[k]? := Below.heap_setCell W ⟨b, 0, none⟩ v k hne
theorem two_block (B : Nat) (W : World) (a b : Int) (k : Nat) (h : B + 2 ≤ k) : (two B W a b).heap[k]? = W.heap[k]? := by
  rw [two, set_block _ _ _ _ (by omega), set_block _ _ _ _ (by omega)]
theorem St.two {B : Nat} {W : World} {s i : Nat} {leaf : ByteArray} {v : Value} (h : St B W s i leaf v) (a b : Nat) : St B (two B W a b) a b leaf v := by
  obtain ⟨h1, h2, h3, h4⟩ := h
  refine ⟨?_, ?_, ?_, ?_⟩
  · exact ((h1.set (.int .i64 (a : Int))).other (by omega) _)
  · exact (h2.other (by omega) _).set _
  · exact (two_block B W a b _ (by omega)).trans h3
  · exact (two_block B W a b _ (by omega)).trans h4
theorem St.below {B n1 : Nat} {W W' : World} {s i : Nat} {leaf : ByteArray} {v : Value} (h : St B W s i leaf v) (hb : Below n1 W W') (hn : B + 4 ≤ n1) : St B W' s i leaf v :=
  ⟨(hb.block _ (by omega)).trans h.1, (hb.block _ (by omega)).trans h.2.1, (hb.block _ (by omega)).trans h.2.2.1, (hb.block _ (by omega)).trans h.2.2.2⟩
theorem PathAt.below {B n1 : Nat} {W W' : World} {v : Value} {r : List (Int × Bool)} (h : PathAt B W v r) (hb : Below n1 W W') (hn : B ≤ n1) : PathAt B W' v r := by
  obtain ⟨A, c, h1, h2, h3, h4⟩ := h
  refine ⟨A, c, h1, h2, h3, fun h => ?_⟩
  obtain ⟨ad, h5, h6, h7⟩ := h4 h
  refine ⟨ad, h5, h6, fun j p hj => ?_⟩
  obtain ⟨h8, h9⟩ := h7 j p hj
  have hbk : (ad.add (j * 2)).block < n1 := by rw [add_block]; omega
  exact ⟨(hb.cell hbk).trans h8, (hb.cell (p := ⟨(ad.add (j * 2)).block, (ad.add (j * 2)).off + 1, none⟩) hbk).trans h9⟩
theorem addr_zero (a : Addr) : a.add 0 = a := by unfold Addr.add; split <;> simp_all
theorem sizeOf_st {B : Nat} {W : World} {s i : Nat} {leaf : ByteArray} {v : Value} (h : St B W s i leaf v) : sizeOf B W = s := by simp [sizeOf, h.1.cell]
theorem halved {B n1 : Nat} {J : List ByteArray → World → Prop} (hJ : ∀ pre W W', J pre W → Below B W W' → (∀ k, n1 ≤ k → k < W.heap.size → W'.heap[k]? = W.heap[k]?) → J pre W') (hBn : B + 4 ≤ n1)
    {W : World} {s i : Nat} {leaf : ByteArray} {v : Value} {r : List (Int × Bool)} {pre : List ByteArray} (h : St B W s i leaf v) (hp : PathAt B W v r) (hj : J pre W) :
    ∃ W', ((W.setCell ⟨B, 0, none⟩ (.int .i64 (((s : Int) + 1) / 2))).setCell ⟨B + 1, 0, none⟩ (.int .i64 ((i : Int) / 2))).drew = W' ∧ St B W' ((s + 1) / 2) (i / 2) leaf v ∧ PathAt B W' v r ∧ J pre W' ∧ W'.heap.size = W.heap.size := by
  have ea : (((s + 1) / 2 : Nat) : Int) = ((s : Int) + 1) / 2 := by omega
  have eb : ((i / 2 : Nat) : Int) = (i : Int) / 2 := by omega
  rw [← ea, ← eb]
  have hb : Below B W (two B W (((s + 1) / 2 : Nat) : Int) ((i / 2 : Nat) : Int)).drew := (two_below B W _ _).drew
  exact ⟨_, rfl, h.two _ _, hp.below hb (Nat.le_refl _), hJ _ _ _ hj hb (fun k h1 _ => two_block B W _ _ k (by omega)), two_size B W _ _⟩
theorem kept {B n1 : Nat} {J : List ByteArray → World → Prop} (hJ : ∀ pre W W', J pre W → Below B W W' → (∀ k, n1 ≤ k → k < W.heap.size → W'.heap[k]? = W.heap[k]?) → J pre W') (hBn : B + 4 ≤ n1)
    {W W' : World} {s i : Nat} {leaf : ByteArray} {v : Value} {r : List (Int × Bool)} {pre : List ByteArray} (hn : n1 ≤ W.heap.size) (hb : Below W.heap.size W W') (h : St B W s i leaf v) (hp : PathAt B W v r) (hj : J pre W) :
    St B W' s i leaf v ∧ PathAt B W' v r ∧ J pre W' ∧ n1 ≤ W'.heap.size :=
  ⟨h.below (hb.mono hn) hBn, hp.below (hb.mono hn) (by omega), hJ _ _ _ hj (hb.mono (by omega)) (fun k _ h2 => hb.block k h2), Nat.le_trans hn hb.size⟩
/-- The first step of a path that is not empty. -/
theorem PathAt.head {B : Nat} {W : World} {A : Option Addr} {m c : Nat} {p : Int × Bool} {r : List (Int × Bool)} (h : PathAt B W (.slice A m c) (p :: r)) :
    ∃ ad, A = some ad ∧ m = r.length + 1 ∧ m ≤ c ∧ True ∧ W.cell? ad = some (.int .u64 p.1) ∧ W.cell? ⟨ad.block, ad.off + 1, none⟩ = some (.bool p.2) := by
  obtain ⟨A', c', h1, h2, h3, h4⟩ := h
  injection h1 with e1 hm' e3
  subst e1 e3
  obtain ⟨ad, h5, h6, h7⟩ := h4 (by simp)
  obtain ⟨e1, e2⟩ := h7 0 p rfl
  rw [Nat.zero_mul, addr_zero] at e1 e2
  exact ⟨ad, h5, by simpa using hm', by rw [hm']; exact h2, h3, e1, e2⟩
theorem PathAt.tail {B : Nat} {W : World} {ad : Addr} {m c : Nat} {p : Int × Bool} {r : List (Int × Bool)} (h : PathAt B W (.slice (some ad) m c) (p :: r)) (A : Option Addr) (hA : A = some (if c = 1 then ad else ad.add 2)) :
    PathAt B W (.slice A (m - 1) (c - 1)) r := by
  obtain ⟨A', c', h1, h2, h3, h4⟩ := h
  injection h1 with e1 e2 e3
  subst e3 e1
  obtain ⟨ad', h5, h6, h7⟩ := h4 (by simp)
  injection h5 with h5
  subst h5
  refine ⟨A, c - 1, by rw [e2]; rfl, by simp at h2; omega, trivial, fun h => ⟨_, hA, ?_, fun j q hj => ?_⟩⟩
  · split
    · exact h6
    · rw [add_block]; exact h6
  · have hc : ¬ c = 1 := by simp at h2; omega
    rw [if_neg hc]
    have := h7 (j + 1) q (by simpa using hj)
    have e : (ad.add 2).add (j * 2) = ad.add ((j + 1) * 2) := by rw [Addr.add_add]; congr 1; omega
    rw [e]; exact this
theorem cut {B n1 : Nat} {J : List ByteArray → World → Prop} (hJ : ∀ pre W W', J pre W → Below B W W' → (∀ k, n1 ≤ k → k < W.heap.size → W'.heap[k]? = W.heap[k]?) → J pre W') (hBn : B + 4 ≤ n1)
    {W : World} {s i : Nat} {leaf : ByteArray} {v v' : Value} {r' : List (Int × Bool)} {pre : List ByteArray} (hn : n1 ≤ W.heap.size) (h : St B W s i leaf v) (hp : PathAt B W v' r') (hj : J pre W) :
    ∃ W', W.setCell ⟨B + 3, 0, none⟩ v' = W' ∧ St B W' s i leaf v' ∧ PathAt B W' v' r' ∧ J pre W' ∧ n1 ≤ W'.heap.size := by
  have hb : Below B W (W.setCell ⟨B + 3, 0, none⟩ v') := (Below.refl B W).setCell (p := ⟨B + 3, 0, none⟩) (by simp) _
  refine ⟨_, rfl, ⟨(set_block _ _ _ _ (by omega)).trans h.1, (set_block _ _ _ _ (by omega)).trans h.2.1, (set_block _ _ _ _ (by omega)).trans h.2.2.1, h.2.2.2.set _⟩, hp.below hb (Nat.le_refl _), hJ _ _ _ hj hb (fun k h1 _ => set_block _ _ _ _ (by omega)), by rw [Rf.size_set]; exact hn⟩
set_option maxHeartbeats 4000000 in
theorem texts1_any (l B n1 n : Nat) (hn : 5 ≤ n) (w : World) (hBn : B + 4 ≤ n1) (hnw : n1 ≤ w.heap.size) (J : List ByteArray → World → Prop) (JX : World → Prop)
    (hJ : ∀ pre W W', J pre W → Below B W W' → (∀ k, n1 ≤ k → k < W.heap.size → W'.heap[k]? = W.heap[k]?) → J pre W') (h0 : J [] w)
    (hY1 : ∀ pre text W, J pre W → pre.length ≤ 1024 → YieldAt Fence.wide (n - 1) Try.prog l #[.string text, .bool true] W fun e W' => e = .returned (.bool true) ∧ J (pre ++ [text]) W' ∧ Below n1 W W')
    (hY0 : ∀ pre W, J pre W → YieldAt Fence.wide (n - 1) Try.prog l #[.string ⟨#[]⟩, .bool false] W fun e W' => e = .returned (.bool false) ∧ JX W')
    (s i : Nat) (hs1 : 1 ≤ s) (hs2 : s ≤ 1024) (hi : i < s) (leaf : ByteArray) (hlf : leaf.size ≤ 140737488351232) (v : Value) (hst : St B w s i leaf v) (r : List (Int × Bool)) (hp : PathAt B w v r) (hok : ∀ p ∈ r, 0 ≤ p.1 ∧ p.1 ≤ 18446744073709551615) :
    CallsIn Fence.wide n Try.prog 41 #[.func (.yield l) #[] #[], .pointer (some ⟨B, 0, none⟩), .pointer (some ⟨B + 1, 0, none⟩), .pointer (some ⟨B + 2, 0, none⟩), .pointer (some ⟨B + 3, 0, none⟩)] w
      fun e w' => (∃ v, e = .returned v) ∧ ((∃ ts, T s i (leafText leaf) r = some ts ∧ J ts w') ∨ (T s i (leafText leaf) r = none ∧ JX w')) := by
  obtain ⟨b1, b2, b3, b4⟩ := hst
  have c1 := b1.cell; have c2 := b2.cell; have c3 := b3.cell; have c4 := b4.cell
  have g1 : ¬ ((s : Int) < 1) := by omega
  have g2 : ¬ ((s : Int) > 1024) := by omega
  have g3 : ¬ ((i : Int) < 0) := by omega
  have g4 : ¬ ((i : Int) ≥ (s : Int)) := by omega
  refine callsIn_of_wp Try.func41 rfl trivial ?_ rfl
  simp only [Try.ntmps41, List.size_toArray, List.length_cons, List.length_nil, Nat.reduceAdd, Nat.reduceSub, Array.replicate_succ, Array.replicate_zero, List.push_toArray, List.append_toArray, List.nil_append, List.cons_append]
  gi_wp2_with (refine ⟨trivial, fun _ => by omega, ?_⟩; gi_at_call 38; refine (callsIn_wide.2 (leafText_any leaf hlf _)).mono ?_; rintro e w' ⟨rfl, rfl⟩)
  gi_loopw [6] (fun v6 wr => Rel B n1 J s (T s i (leafText leaf) r) leaf v6 wr) (fun _ wr => sizeOf B wr)
  case atStart =>
    refine ⟨[], leafText leaf, s, i, v, r, rfl, by simp, hs1, hi, by simp, by rw [leafText_size]; omega, ⟨b1, b2, b3, b4⟩, hp, hok, h0, hnw⟩
  case round =>
    obtain ⟨pre, text, s2, i2, v2, r2, rfl, hres, hs3, hi3, hpl, htx, hst2, hp2, hok2, hJ2, hnw2⟩ := hrel
    obtain ⟨fn, tmps, assign, body, hy, hR⟩ := hY1 pre text wr hJ2 (by omega)
    have HRES := Lib.hid hres
    clear hres b1 b2 b3 b4 c1 c2 c3 c4 g1 g2 g3 g4
    gi_wp2
    refine ⟨fun _ => by omega, hR.mono ?_⟩
    rintro e W1 ⟨rfl, hJ1, hb1⟩
    have hst3 := hst2.below hb1 hBn
    have hp3 := hp2.below hb1 (by omega)
    have hnw3 := Nat.le_trans hnw2 hb1.size
    have hsz0 : sizeOf B wr = s2 := by simp [sizeOf, hst2.1.cell]
    have HSZ := Lib.hid hsz0
    clear hY1 hy hR hst2 hp2 hsz0 hb1
    gi_wp2
    gi_loopw [] (fun wr2 => Rel2 B n1 J s2 (T s2 i2 text r2) leaf pre text v2 r2 wr2) (fun wr2 => sizeOf B wr2)
    case atStart => exact ⟨s2, i2, rfl, hs3, hi3, Nat.le_refl _, hst3, hp3, hJ1, hnw3⟩
    case round =>
      obtain ⟨s4, i4, hres4, hs4, hi4, hss, hst4, hp4, hJ4, hnw4⟩ := hrel
      have HR4 := Lib.hid hres4
      clear hres4 hst3 hp3 hJ1 hnw3 hJ2 hnw2
      have d1 := hst4.1.cell; have d2 := hst4.2.1.cell; have f1 := hst4.1.frozen; have f2 := hst4.2.1.frozen
      have hx := bits_sib i4 (by omega)
      by_cases hq1 : 1 < s4
      · have hq1i : (s4 : Int) > 1 := by omega
        by_cases hq2 : s4 ≤ sib i4
        · have hq2i : (sib i4 : Int) ≥ (s4 : Int) := by omega
          gi_wp2
          refine wpIn_wide.2 ?_
          have q5 : IntKind.i64.wrap ((s4 : Int) + 1) = (s4 : Int) + 1 := IntWalk.i64_in _ (by omega)
          go_region
          gi_wp2
          clear q5
          obtain ⟨W5, hW5, k1, k2, k3, k4⟩ := halved hJ hBn hst4 hp4 hJ4
          rw [hW5]
          have H4 := hst4.1.cell
          rw [sizeOf_st k1, sizeOf_st hst4]
          exact ⟨⟨(s4 + 1) / 2, i4 / 2, by rw [HR4.out, T_skip hq1 hq2], by omega, by omega, by omega, k1, k2, k3, by omega⟩, by omega⟩
        · have hq2i : ¬ ((sib i4 : Int) ≥ (s4 : Int)) := by omega
          have hq3 : ((s4 : Int) == 1) = false := by simp; omega
          cases r2 with
          | nil =>
            obtain ⟨A, c, rfl, hrc, hcm, hat⟩ := hp4
            have d4 := hst4.2.2.2.cell
            gi_wp2
            refine wpIn_wide.2 ?_
            go_region
            have hJd : J (pre ++ [text]) wr.drew := hJ _ _ _ hJ4 (Below.refl _ _).drew (fun _ _ _ => rfl)
            obtain ⟨fn, tmps, assign, body, hy, hR⟩ := hY0 _ _ hJd
            gi_wp2
            refine ⟨fun _ => by omega, hR.mono ?_⟩
            rintro e W6 ⟨rfl, hJ6⟩
            gi_wp2
            refine bodyPost_ret (results_none rfl _ _ _) rfl ?_
            exact ⟨⟨_, rfl⟩, .inr ⟨by rw [HRES.out, HR4.out, T_short hq1 (by omega)]; rfl, hJ6⟩⟩
          | cons p r3 =>
            obtain ⟨A, m, c, rfl⟩ : ∃ A m c, v2 = .slice A m c := by obtain ⟨A, c, h, _⟩ := hp4; exact ⟨A, _, c, h⟩
            obtain ⟨ad, rfl, hm, hrc, hcm, e1, e2⟩ := hp4.head
            have hm0 : 0 < m := by omega
            have hm1 : ((m : Int) == 0) = false := by simp; omega
            have HM := Lib.hid hm
            clear hm
            have d4 := hst4.2.2.2.cell
            obtain ⟨x, lf⟩ := p
            have hxr := hok2 _ (List.mem_cons_self ..)
            simp only at e1 e2 hxr
            cases lf
            · by_cases hpar : i4 % 2 = 1
              · have hpar2 : ((i4 : Int) % 2 == 1) = true := by simp; omega
                gi_wp2
                refine wpIn_wide.2 ?_
                go_region
                have hJd : J (pre ++ [text]) wr.drew := hJ _ _ _ hJ4 (Below.refl _ _).drew (fun _ _ _ => rfl)
                obtain ⟨fn, tmps, assign, body, hy, hR⟩ := hY0 _ _ hJd
                gi_wp2
                refine ⟨fun _ => by omega, hR.mono ?_⟩
                rintro e W6 ⟨rfl, hJ6⟩
                gi_wp2
                refine bodyPost_ret (results_none rfl _ _ _) rfl ?_
                exact ⟨⟨_, rfl⟩, .inr ⟨by rw [HRES.out, HR4.out, T_side hq1 (by omega) (by simp [hpar])]; rfl, hJ6⟩⟩
              · have hpar2 : ((i4 : Int) % 2 == 1) = false := by simp; omega
                gi_wp2
                refine wpIn_wide.2 ?_
                go_region
                have K0 := kept hJ hBn hnw4 (Below.refl wr.heap.size wr).drew hst4 hp4 hJ4
                clear e1 e2 d1 d2 f1 f2 d4 hst4 hp4 hJ4 hnw4
                generalize wr.drew = Wd at *
                obtain ⟨k1, k2, k3, k4⟩ := K0
                gi_wp2
                refine ⟨trivial, fun _ => by omega, callsIn_wide.2 ((DigB.sum_any text _ (by omega)).mono ?_)⟩
                rintro e W7 ⟨rfl, hb7⟩
                obtain ⟨k1, k2, k3, k4⟩ := kept hJ hBn k4 hb7 k1 k2 k3
                obtain ⟨_, hA, -, -, -, e1, e2⟩ := k2.head
                injection hA with hA
                subst hA
                have d4 := k1.2.2.2.cell
                simp only at e1 e2
                gi_wp2
                refine ⟨trivial, fun _ => by omega, callsIn_wide.2 ((MerN.node_any (Dig.sum text) x (sum_range text) hxr _).mono ?_)⟩
                rintro e W8 ⟨rfl, hb8⟩
                obtain ⟨k1, k2, k3, k4⟩ := kept hJ hBn k4 hb8 k1 k2 k3
                clear e1 e2 d4 hb7 hb8
                have d4 := k1.2.2.2.cell
                have f4 := k1.2.2.2.frozen
                by_cases hc1 : c = 1
                · subst hc1
                  obtain rfl : m = 1 := by omega
                  gi_wp2
                  have tl : PathAt B W8 (.slice (some ad) 0 0) r3 := k2.tail (some ad) (by simp)
                  obtain ⟨W9, hW9, k1, k2, k3, k4⟩ := cut hJ hBn k4 k1 tl k3
                  rw [hW9]
                  clear hW9 d4 f4
                  have d1 := k1.1.cell; have d2 := k1.2.1.cell; have f1 := k1.1.frozen; have f2 := k1.2.1.frozen
                  have q5 : IntKind.i64.wrap ((s4 : Int) + 1) = (s4 : Int) + 1 := IntWalk.i64_in _ (by omega)
                  refine wpIn_wide.2 ?_
                  go_region
                  clear q5 d1 d2 f1 f2
                  gi_wp2
                  obtain ⟨W5, hW5, j1, j2, j3, j4⟩ := halved hJ hBn k1 k2 k3
                  rw [hW5]
                  have hres : T s i (leafText leaf) r = (T ((s4 + 1) / 2) (i4 / 2) (nodeT x (Dig.sum text) false) r3).map ((pre ++ [text]) ++ ·) := by
                    rw [HRES.out, HR4.out, T_step hq1 (by omega) (by simp [hpar]), Option.map_map]
                    congr 1
                    funext l
                    simp
                  refine ⟨⟨pre ++ [text], nodeT x (Dig.sum text) false, (s4 + 1) / 2, i4 / 2, _, r3, rfl, hres, by omega, by omega, by rw [List.length_append]; simp; omega, ?_, j1, j2, fun p hp => hok2 p (List.mem_cons_of_mem _ hp), j3, by omega⟩, ?_⟩
                  · show (Dig.pairS _ _).size ≤ _
                    rw [Dig.pairS_size]; decide
                  · rw [sizeOf_st j1, HSZ.out]; omega
                · have hc2 : ¬ ((1 : Int) = (c : Int)) := by omega
                  gi_wp2
                  have tl : PathAt B W8 (.slice (some ⟨ad.block, ad.off + 2, none⟩) (m - 1) (c - 1)) r3 := k2.tail _ (by rw [if_neg hc1]; rfl)
                  obtain ⟨W9, hW9, k1, k2, k3, k4⟩ := cut hJ hBn k4 k1 tl k3
                  rw [hW9]
                  clear hW9 d4 f4
                  have d1 := k1.1.cell; have d2 := k1.2.1.cell; have f1 := k1.1.frozen; have f2 := k1.2.1.frozen
                  have q5 : IntKind.i64.wrap ((s4 : Int) + 1) = (s4 : Int) + 1 := IntWalk.i64_in _ (by omega)
                  refine wpIn_wide.2 ?_
                  go_region
                  clear q5 d1 d2 f1 f2
                  gi_wp2
                  obtain ⟨W5, hW5, j1, j2, j3, j4⟩ := halved hJ hBn k1 k2 k3
                  rw [hW5]
                  have hres : T s i (leafText leaf) r = (T ((s4 + 1) / 2) (i4 / 2) (nodeT x (Dig.sum text) false) r3).map ((pre ++ [text]) ++ ·) := by
                    rw [HRES.out, HR4.out, T_step hq1 (by omega) (by simp [hpar]), Option.map_map]
                    congr 1
                    funext l
                    simp
                  refine ⟨⟨pre ++ [text], nodeT x (Dig.sum text) false, (s4 + 1) / 2, i4 / 2, _, r3, rfl, hres, by omega, by omega, by rw [List.length_append]; simp; omega, ?_, j1, j2, fun p hp => hok2 p (List.mem_cons_of_mem _ hp), j3, by omega⟩, ?_⟩
                  · show (Dig.pairS _ _).size ≤ _
                    rw [Dig.pairS_size]; decide
                  · rw [sizeOf_st j1, HSZ.out]; omega
            · by_cases hpar : i4 % 2 = 1
              · have hpar2 : ((i4 : Int) % 2 == 1) = true := by simp; omega
                gi_wp2
                refine wpIn_wide.2 ?_
                go_region
                have K0 := kept hJ hBn hnw4 (Below.refl wr.heap.size wr).drew hst4 hp4 hJ4
                clear e1 e2 d1 d2 f1 f2 d4 hst4 hp4 hJ4 hnw4
                generalize wr.drew = Wd at *
                obtain ⟨k1, k2, k3, k4⟩ := K0
                gi_wp2
                refine ⟨trivial, fun _ => by omega, callsIn_wide.2 ((DigB.sum_any text _ (by omega)).mono ?_)⟩
                rintro e W7 ⟨rfl, hb7⟩
                obtain ⟨k1, k2, k3, k4⟩ := kept hJ hBn k4 hb7 k1 k2 k3
                obtain ⟨_, hA, -, -, -, e1, e2⟩ := k2.head
                injection hA with hA
                subst hA
                have d4 := k1.2.2.2.cell
                simp only at e1 e2
                gi_wp2
                refine ⟨trivial, fun _ => by omega, callsIn_wide.2 ((MerN.node_any x (Dig.sum text) hxr (sum_range text) _).mono ?_)⟩
                rintro e W8 ⟨rfl, hb8⟩
                obtain ⟨k1, k2, k3, k4⟩ := kept hJ hBn k4 hb8 k1 k2 k3
                clear e1 e2 d4 hb7 hb8
                have d4 := k1.2.2.2.cell
                have f4 := k1.2.2.2.frozen
                by_cases hc1 : c = 1
                · subst hc1
                  obtain rfl : m = 1 := by omega
                  gi_wp2
                  have tl : PathAt B W8 (.slice (some ad) 0 0) r3 := k2.tail (some ad) (by simp)
                  obtain ⟨W9, hW9, k1, k2, k3, k4⟩ := cut hJ hBn k4 k1 tl k3
                  rw [hW9]
                  clear hW9 d4 f4
                  have d1 := k1.1.cell; have d2 := k1.2.1.cell; have f1 := k1.1.frozen; have f2 := k1.2.1.frozen
                  have q5 : IntKind.i64.wrap ((s4 : Int) + 1) = (s4 : Int) + 1 := IntWalk.i64_in _ (by omega)
                  refine wpIn_wide.2 ?_
                  go_region
                  clear q5 d1 d2 f1 f2
                  gi_wp2
                  obtain ⟨W5, hW5, j1, j2, j3, j4⟩ := halved hJ hBn k1 k2 k3
                  rw [hW5]
                  have hres : T s i (leafText leaf) r = (T ((s4 + 1) / 2) (i4 / 2) (nodeT x (Dig.sum text) true) r3).map ((pre ++ [text]) ++ ·) := by
                    rw [HRES.out, HR4.out, T_step hq1 (by omega) (by simp [hpar]), Option.map_map]
                    congr 1
                    funext l
                    simp
                  refine ⟨⟨pre ++ [text], nodeT x (Dig.sum text) true, (s4 + 1) / 2, i4 / 2, _, r3, rfl, hres, by omega, by omega, by rw [List.length_append]; simp; omega, ?_, j1, j2, fun p hp => hok2 p (List.mem_cons_of_mem _ hp), j3, by omega⟩, ?_⟩
                  · show (Dig.pairS _ _).size ≤ _
                    rw [Dig.pairS_size]; decide
                  · rw [sizeOf_st j1, HSZ.out]; omega
                · have hc2 : ¬ ((1 : Int) = (c : Int)) := by omega
                  gi_wp2
                  have tl : PathAt B W8 (.slice (some ⟨ad.block, ad.off + 2, none⟩) (m - 1) (c - 1)) r3 := k2.tail _ (by rw [if_neg hc1]; rfl)
                  obtain ⟨W9, hW9, k1, k2, k3, k4⟩ := cut hJ hBn k4 k1 tl k3
                  rw [hW9]
                  clear hW9 d4 f4
                  have d1 := k1.1.cell; have d2 := k1.2.1.cell; have f1 := k1.1.frozen; have f2 := k1.2.1.frozen
                  have q5 : IntKind.i64.wrap ((s4 : Int) + 1) = (s4 : Int) + 1 := IntWalk.i64_in _ (by omega)
                  refine wpIn_wide.2 ?_
                  go_region
                  clear q5 d1 d2 f1 f2
                  gi_wp2
                  obtain ⟨W5, hW5, j1, j2, j3, j4⟩ := halved hJ hBn k1 k2 k3
                  rw [hW5]
                  have hres : T s i (leafText leaf) r = (T ((s4 + 1) / 2) (i4 / 2) (nodeT x (Dig.sum text) true) r3).map ((pre ++ [text]) ++ ·) := by
                    rw [HRES.out, HR4.out, T_step hq1 (by omega) (by simp [hpar]), Option.map_map]
                    congr 1
                    funext l
                    simp
                  refine ⟨⟨pre ++ [text], nodeT x (Dig.sum text) true, (s4 + 1) / 2, i4 / 2, _, r3, rfl, hres, by omega, by omega, by rw [List.length_append]; simp; omega, ?_, j1, j2, fun p hp => hok2 p (List.mem_cons_of_mem _ hp), j3, by omega⟩, ?_⟩
                  · show (Dig.pairS _ _).size ≤ _
                    rw [Dig.pairS_size]; decide
                  · rw [sizeOf_st j1, HSZ.out]; omega
              · have hpar2 : ((i4 : Int) % 2 == 1) = false := by simp; omega
                gi_wp2
                refine wpIn_wide.2 ?_
                go_region
                have hJd : J (pre ++ [text]) wr.drew := hJ _ _ _ hJ4 (Below.refl _ _).drew (fun _ _ _ => rfl)
                obtain ⟨fn, tmps, assign, body, hy, hR⟩ := hY0 _ _ hJd
                gi_wp2
                refine ⟨fun _ => by omega, hR.mono ?_⟩
                rintro e W6 ⟨rfl, hJ6⟩
                gi_wp2
                refine bodyPost_ret (results_none rfl _ _ _) rfl ?_
                exact ⟨⟨_, rfl⟩, .inr ⟨by rw [HRES.out, HR4.out, T_side hq1 (by omega) (by simp [hpar])]; rfl, hJ6⟩⟩
      · obtain rfl : s4 = 1 := by omega
        obtain ⟨A, c, rfl, hrc, hcm, hat⟩ := hp4
        have d4 := hst4.2.2.2.cell
        by_cases hr : r2 = []
        · subst hr
          gi_wp2
          refine bodyPost_ret (results_none rfl _ _ _) rfl ?_
          exact ⟨⟨_, rfl⟩, .inl ⟨pre ++ [text], by rw [HRES.out, HR4.out, T_end]; rfl, hJ4⟩⟩
        · have hrp : 0 < r2.length := by cases r2 with | nil => exact absurd rfl hr | cons => simp
          obtain ⟨fn, tmps, assign, body, hy, hR⟩ := hY0 _ _ hJ4
          gi_wp2
          refine ⟨fun _ => by omega, hR.mono ?_⟩
          rintro e W6 ⟨rfl, hJ6⟩
          gi_wp2
          refine bodyPost_ret (results_none rfl _ _ _) rfl ?_
          refine ⟨⟨_, rfl⟩, .inr ⟨?_, hJ6⟩⟩
          rw [HRES.out, HR4.out]
          cases r2 with
          | nil => exact absurd rfl hr
          | cons p r3 => rw [T_long]; rfl
end Go.Proofs.Ytcikhbamdbphaaa.MerT
