/- The law's head: fixed examples; its contract in the printed form. -/
import Derived.Test.YtcikhbamdbphaaaPAllx2
import Derived.Test.YtcikhbamdbphaaaStubMer
import Derived.Test.YtcikhbamdbphaaaMerM
set_option linter.unusedVariables false
set_option linter.unusedSimpArgs false
namespace Go.Proofs.Ytcikhbamdbphaaa.Stub
open Go.RowKit Go.Proofs.Ytcikhbamdbphaaa Go.Proofs.Ytcikhbamdbphaaa.PAll Go.Proofs.YtcikhbamdbphaaaW.PrintWords Go.Proofs.YtcikhbamdbphaaaW.PrintLast
namespace Head
def sa : ByteArray := ⟨#[97]⟩
def sb : ByteArray := ⟨#[98]⟩
def sc : ByteArray := ⟨#[99]⟩
theorem leaf_any (s : ByteArray) (hs : small s = true) : wageofficelaw24_leaf.f s = some (Mer.leaf s) := by
  have hs' : s.size ≤ 140737488351232 := by simpa [small] using hs
  unfold wageofficelaw24_leaf.f digest_Sum.f
  rw [if_pos (by omega), if_pos (by rw [ByteArray.size_append]; show 1 + _ ≤ _; omega)]
  rfl
theorem root1 : merkle_Root.f [sa] = some (Mer.leaf sa, 0) := by
  unfold merkle_Root.f Mer.rootF
  rw [if_pos (by decide), if_neg (by decide), if_neg (by decide)]
  rw [Mer.top_one (by simp)]; rfl
theorem path1 : merkle_Path.f [sa] 0 = some ([], 0) := by
  unfold merkle_Path.f Mer.pathF
  rw [if_pos (by decide), if_neg (by decide), if_neg (by decide), if_neg (by decide)]
  show some (List.map ofP (Mer.path _ 0), _) = _
  rw [Mer.path_one (by simp)]; rfl
theorem T1 : Mer.T 1 0 (Mer.leafText sa) [] = some [Mer.leafText sa] := Mer.T_end _ _
theorem ver1 : merkle_Verify.f (Mer.leaf sa) 1 0 sa [] = some true := by
  unfold merkle_Verify.f Mer.verifyB Mer.texts
  rw [if_pos (by decide), if_pos (by decide)]
  rw [show Mer.T (Int.toNat 1) (Int.toNat 0) (Mer.leafText sa) (List.map toP []) = some [Mer.leafText sa] from T1]
  simp [Mer.leaf]
theorem ver2 : merkle_Verify.f (Mer.leaf sa) 2 0 sa [] = some false := by
  unfold merkle_Verify.f Mer.verifyB Mer.texts
  rw [if_pos (by decide), if_pos (by decide)]
  rw [show Mer.T (Int.toNat 2) (Int.toNat 0) (Mer.leafText sa) (List.map toP []) = none from Mer.T_short (by decide) (by decide)]
def ab : Int := Mer.pair (Mer.leaf sa) (Mer.leaf sb)
def top3 : Int := Mer.pair ab (Mer.leaf sc)
theorem up3 : Mer.up [Mer.leaf sa, Mer.leaf sb, Mer.leaf sc] = [ab, Mer.leaf sc] := rfl
theorem up2 : Mer.up [ab, Mer.leaf sc] = [top3] := rfl
theorem root3 : merkle_Root.f [sa, sb, sc] = some (top3, 0) := by
  unfold merkle_Root.f Mer.rootF
  rw [if_pos (by decide), if_neg (by decide), if_neg (by decide)]
  show some (Mer.top [Mer.leaf sa, Mer.leaf sb, Mer.leaf sc], _) = _
  rw [Mer.top_up (by simp), up3, Mer.top_up (by simp), up2, Mer.top_one (by simp)]; rfl
theorem path3 (q : Nat) (hq : q < 3) : merkle_Path.f [sa, sb, sc] q = some ((Mer.steps [Mer.leaf sa, Mer.leaf sb, Mer.leaf sc] q ++ (Mer.steps [ab, Mer.leaf sc] (q / 2) ++ [])).map ofP, 0) := by
  unfold merkle_Path.f Mer.pathF
  rw [if_pos (by decide), if_neg (by decide), if_neg (by decide), if_neg (by simp; omega)]
  show some (List.map ofP (Mer.path [Mer.leaf sa, Mer.leaf sb, Mer.leaf sc] _), _) = _
  rw [Int.toNat_natCast, Mer.path_up (by simp), up3, Mer.path_up (by simp), up2]
  obtain h : q / 2 / 2 = 0 := by omega
  rw [h, Mer.path_one (by simp)]
theorem lit_strs {W : World} {b n : Nat} {l : List ByteArray} {t : TypeId} {fr : Nat × Nat} (h : W.heap[b]? = some (.cells (l.map Value.string).toArray t fr)) (hn : l.length = n) (hm : n ≤ 1000) : Kd.C Kd.string W (some ⟨b, 0, none⟩) n l := by
  refine ⟨hn, by omega, fun _ => ⟨_, rfl, fun j s hj => ⟨[.string s], rfl, rfl, fun i u hi => ?_⟩⟩⟩
  have hi0 : i = 0 := by have := (List.getElem?_eq_some_iff.1 hi).1; simp at this; omega
  subst hi0
  obtain rfl : Value.string s = u := by simpa using hi
  have e : ((⟨b, 0, none⟩ : Addr).add (j * Kd.string.sz + 0)) = ⟨b, j, none⟩ := by unfold Addr.add; simp [Kd.string, Kd.scalar]; intro h; exact h.symm
  rw [e, Tool.cell_blk h]
  simp [hj]
theorem sums_ok (a b : Int) : u64ok (Mer.pair a b) = true := by
  have := Mer.sum_range (Dig.pairS a b)
  exact decide_eq_true this
theorem leaf_ok (s : ByteArray) : u64ok (Mer.leaf s) = true := by
  have := Mer.sum_range (Mer.leafText s)
  exact decide_eq_true this
theorem pair1 : digest_Pair.f (Mer.leaf sa) (Mer.leaf sb) = some ab := by
  unfold digest_Pair.f
  rw [if_pos ⟨leaf_ok _, leaf_ok _⟩]; rfl
theorem pair2 : digest_Pair.f ab (Mer.leaf sc) = some top3 := by
  unfold digest_Pair.f
  rw [if_pos ⟨sums_ok _ _, leaf_ok _⟩]; rfl
theorem path32 : merkle_Path.f [sa, sb, sc] 2 = some ([⟨ab, true⟩], 0) := by
  have := path3 2 (by decide)
  rw [show ((2 : Nat) : Int) = 2 from rfl] at this
  rw [this]; rfl
theorem path31 : merkle_Path.f [sa, sb, sc] 1 = some ([⟨Mer.leaf sa, true⟩, ⟨Mer.leaf sc, false⟩], 0) := by
  have := path3 1 (by decide)
  rw [show ((1 : Nat) : Int) = 1 from rfl] at this
  rw [this]; rfl
theorem root0 : merkle_Root.f [] = some (0, 1) := rfl
theorem acc3 : Mer.verifyB top3 3 2 sc [(ab, true)] = true := by
  have h := Mer.accepted [sa, sb, sc] 2 (by decide) (by decide)
  have e1 : Mer.top ([sa, sb, sc].map Mer.leaf) = top3 := by
    show Mer.top [Mer.leaf sa, Mer.leaf sb, Mer.leaf sc] = _
    rw [Mer.top_up (by simp), up3, Mer.top_up (by simp), up2, Mer.top_one (by simp)]; rfl
  have e2 : Mer.path ([sa, sb, sc].map Mer.leaf) 2 = [(ab, true)] := by
    show Mer.path [Mer.leaf sa, Mer.leaf sb, Mer.leaf sc] 2 = _
    rw [Mer.path_up (by simp), up3, Mer.path_up (by simp), up2]
    rw [show 2 / 2 / 2 = 0 from rfl, Mer.path_one (by simp)]; rfl
  rw [e1, e2] at h
  exact h
theorem ver3 : merkle_Verify.f top3 3 2 sc [⟨ab, true⟩] = some true := by
  unfold merkle_Verify.f
  rw [if_pos ⟨rfl, by simp [okP]; exact sums_ok _ _⟩]
  exact congrArg some acc3
theorem coll3 : merkle_Collision.f 3 2 sc [⟨ab, true⟩] sc [⟨ab, true⟩] = some (⟨#[]⟩, ⟨#[]⟩, false) := by
  unfold merkle_Collision.f
  have ho : okP [⟨ab, true⟩] = true := by simp [okP]; exact sums_ok _ _
  rw [if_pos ⟨⟨rfl, ho⟩, rfl, ho⟩]
  obtain ⟨l, h1, _⟩ := Mer.verify_texts acc3
  have h2 := Mer.collF_some h1 h1
  rw [if_pos rfl, Mer.FC, List.drop_zero, Mer.findC_self] at h2
  exact congrArg some h2
theorem same1 (x : Int) : wageofficeref24_Same.f 5 [⟨x, true⟩] [⟨x, true⟩] = some true := by
  simp [wageofficeref24_Same.f, wageofficeref24_Same.l0, rd_T42, wrap64]
theorem same2 (x y : Int) : wageofficeref24_Same.f 5 [⟨x, true⟩, ⟨y, false⟩] [⟨x, true⟩, ⟨y, false⟩] = some true := by
  simp [wageofficeref24_Same.f, wageofficeref24_Same.l0, rd_T42, wrap64]
theorem ne_ab : (Mer.leaf sa != Mer.leaf sb) = true := by decide +kernel
theorem lit_forks {W : World} {b n : Nat} {l : List S42} {t : TypeId} {fr : Nat × Nat} (h : W.heap[b]? = some (.cells (l.flatMap fun x => [.int .u64 x.f0, .bool x.f1]).toArray t fr)) (hn : l.length = n) (hm : n ≤ 2)
    (hc : ∀ j x, l[j]? = some x → (l.flatMap fun x => [Value.int .u64 x.f0, Value.bool x.f1])[j * 2]? = some (.int .u64 x.f0) ∧ (l.flatMap fun x => [Value.int .u64 x.f0, Value.bool x.f1])[j * 2 + 1]? = some (.bool x.f1)) : Kd.C k42 W (some ⟨b, 0, none⟩) n l := by
  refine ⟨hn, by omega, fun _ => ⟨_, rfl, fun j x hj => ⟨[.int .u64 x.f0, .bool x.f1], rfl, k42_mk W x, fun i u hi => ?_⟩⟩⟩
  obtain ⟨e0, e1⟩ := hc j x hj
  have e : ∀ i, ((⟨b, 0, none⟩ : Addr).add (j * 2 + i)) = ⟨b, j * 2 + i, none⟩ := fun i => by unfold Addr.add; split <;> simp_all
  show W.cell? ((⟨b, 0, none⟩ : Addr).add (j * 2 + i)) = _
  rw [e, Tool.cell_blk h, List.getElem?_toArray]
  have hi2 : i = 0 ∨ i = 1 := by have := (List.getElem?_eq_some_iff.1 hi).1; simp at this; omega
  rcases hi2 with rfl | rfl
  · rw [← hi]; exact e0
  · rw [← hi]; exact e1
set_option maxRecDepth 100000 in
set_option maxHeartbeats 16000000 in
theorem head_walk (w : World) (xa xb xc xab t3 : Int) (L1 : Hid (wageofficelaw24_leaf.f sa = some xa)) (L2 : Hid (wageofficelaw24_leaf.f sb = some xb)) (L3 : Hid (wageofficelaw24_leaf.f sc = some xc)) (R1 : Hid (merkle_Root.f [sa] = some (xa, 0)))
    (P1 : Hid (merkle_Path.f [sa] 0 = some ([], 0))) (V1 : Hid (merkle_Verify.f xa 1 0 sa [] = some true)) (V2 : Hid (merkle_Verify.f xa 2 0 sa [] = some false)) (R3 : Hid (merkle_Root.f [sa, sb, sc] = some (t3, 0)))
    (P3 : Hid (merkle_Path.f [sa, sb, sc] 2 = some ([⟨xab, true⟩], 0))) (P2 : Hid (merkle_Path.f [sa, sb, sc] 1 = some ([⟨xa, true⟩, ⟨xc, false⟩], 0))) (Q1 : Hid (digest_Pair.f xa xb = some xab)) (Q2 : Hid (digest_Pair.f xab xc = some t3))
    (V3 : Hid (merkle_Verify.f t3 3 2 sc [⟨xab, true⟩] = some true)) (C3 : Hid (merkle_Collision.f 3 2 sc [⟨xab, true⟩] sc [⟨xab, true⟩] = some (⟨#[]⟩, ⟨#[]⟩, false))) (hne : (xa != xb) = true) :
    Calls Try.prog 11 #[] w fun e w' => e = .returned (.bool true) ∧ Below w.heap.size w w' := by
  go_enter Try.func11, Try.ntmps11
  go_wp2_with fail
  refine (wageofficelaw24_leaf.calls sa _ _ L1.out).mono ?_
  rintro e w1 ⟨rfl, b1⟩
  go_wp2_with fail
  refine (wageofficelaw24_leaf.calls sb _ _ L2.out).mono ?_
  rintro e w2 ⟨rfl, b2⟩
  replace b2 := b1.trans (b2.mono b1.size)
  go_wp2_with fail
  refine (wageofficelaw24_leaf.calls sc _ _ L3.out).mono ?_
  rintro e w3 ⟨rfl, b3⟩
  replace b3 := b2.trans (b3.mono b2.size)
  clear b1 b2
  go_wp2_with fail
  refine (merkle_Root.calls _ 1 [sa] _ _ _ (lit_strs (W := w3.alloc (.cells #[.string sa] 9)) (World.alloc_heap_new _ _) rfl (by decide)) (Nat.le_refl _) R1.out).mono ?_
  rintro e w4 ⟨rfl, b4⟩
  replace b4 := (b3.alloc b3.size _).trans (b4.mono (by simp; have := b3.size; omega))
  clear b3
  go_wp2_with fail
  refine (merkle_Path.calls _ 1 [sa] 0 _ _ _ (lit_strs (W := w4.alloc (.cells #[.string sa] 9)) (World.alloc_heap_new _ _) rfl (by decide)) (Nat.le_refl _) P1.out).mono ?_
  rintro e w5 ⟨v5, rfl, h5, b5⟩
  obtain ⟨A5, c5, rfl, _, _⟩ := Kd.R_reads h5
  replace b5 := (b4.alloc b4.size _).trans (b5.mono (by simp; have := b4.size; omega))
  clear b4 h5
  simp only [List.length_nil]
  go_wp2_with fail
  refine (merkle_Verify.calls xa 1 0 sa none 0 [] _ _ (Kd.C_nil _ _) (Nat.le_refl _) V1.out).mono ?_
  rintro e w6 ⟨rfl, b6⟩
  replace b6 := b5.trans (b6.mono b5.size)
  clear b5
  go_wp2_with fail
  refine (merkle_Verify.calls xa 2 0 sa none 0 [] _ _ (Kd.C_nil _ _) (Nat.le_refl _) V2.out).mono ?_
  rintro e w7 ⟨rfl, b7⟩
  replace b7 := b6.trans (b7.mono b6.size)
  clear b6
  go_wp2_with fail
  have HL := lit_strs (W := w7.alloc (.cells #[.string sa, .string sb, .string sc] 9)) (l := [sa, sb, sc]) (World.alloc_heap_new _ _) rfl (by decide)
  have b7' := b7.alloc b7.size (.cells #[.string sa, .string sb, .string sc] 9)
  refine (merkle_Root.calls _ 3 [sa, sb, sc] _ _ _ HL (Nat.le_refl _) R3.out).mono ?_
  rintro e w8 ⟨rfl, b8⟩
  replace HL := Kd.C_below HL b8
  replace b8 := b7'.trans (b8.mono b7'.size)
  clear b7 b7'
  go_wp2_with fail
  refine (merkle_Path.calls _ 3 [sa, sb, sc] 2 _ _ _ HL (Nat.le_refl _) P3.out).mono ?_
  rintro e w9 ⟨v9, rfl, h9, b9⟩
  obtain ⟨A9, c9, rfl, l9, q9⟩ := Kd.R_reads h9
  replace HL := Kd.C_below HL b9
  replace b9 := b8.trans (b9.mono b8.size)
  clear b8 h9
  go_wp2_with fail
  refine (merkle_Path.calls _ 3 [sa, sb, sc] 1 _ _ _ HL (Nat.le_refl _) P2.out).mono ?_
  rintro e w10 ⟨v10, rfl, h10, b10⟩
  obtain ⟨A10, c10, rfl, l10, q10⟩ := Kd.R_reads h10
  replace q9 := Kd.C_below q9 b10
  replace b10 := b9.trans (b10.mono b9.size)
  clear b9 h10 HL
  go_wp2_with fail
  refine (digest_Pair.calls xa xb _ _ Q1.out).mono ?_
  rintro e w11 ⟨rfl, b11⟩
  replace q9 := Kd.C_below q9 b11
  replace q10 := Kd.C_below q10 b11
  replace b11 := b10.trans (b11.mono b10.size)
  clear b10
  go_wp2_with fail
  refine (digest_Pair.calls xab xc _ _ Q2.out).mono ?_
  rintro e w12 ⟨rfl, b12⟩
  replace q9 := Kd.C_below q9 b12
  replace q10 := Kd.C_below q10 b12
  replace b12 := b11.trans (b12.mono b11.size)
  clear b11
  go_wp2_with fail
  have F1 := lit_forks (W := w12.alloc (.cells #[.int .u64 xab, .bool true] 42)) (l := [⟨xab, true⟩]) (n := 1) (World.alloc_heap_new _ _) rfl (by decide) (by intro j x hj; match j, hj with | 0, hj => cases hj; exact ⟨rfl, rfl⟩)
  have b12' := b12.alloc b12.size (.cells #[.int .u64 xab, .bool true] 42)
  refine (wageofficeref24_Same.calls 5 A9 c9 [⟨xab, true⟩] _ 1 [⟨xab, true⟩] _ _ (Kd.C_below q9 ((Below.refl _ _).alloc (Nat.le_refl _) _)) l9 F1 (Nat.le_refl _) (same1 xab)).mono ?_
  rintro e w13 ⟨rfl, d13⟩
  have b13 := d13.below
  replace q9 := Kd.C_below q9 (((Below.refl _ _).alloc (Nat.le_refl _) _).trans (b13.mono (by simp)))
  replace q10 := Kd.C_below q10 (((Below.refl _ _).alloc (Nat.le_refl _) _).trans (b13.mono (by simp)))
  replace b13 := b12'.trans (b13.mono b12'.size)
  clear b12 b12' F1 d13
  go_wp2_with fail
  have F2 := lit_forks (W := w13.alloc (.cells #[.int .u64 xa, .bool true, .int .u64 xc, .bool false] 42)) (l := [⟨xa, true⟩, ⟨xc, false⟩]) (n := 2) (World.alloc_heap_new _ _) rfl (by decide) (by intro j x hj; match j, hj with | 0, hj => cases hj; exact ⟨rfl, rfl⟩ | 1, hj => cases hj; exact ⟨rfl, rfl⟩)
  have b13' := b13.alloc b13.size (.cells #[.int .u64 xa, .bool true, .int .u64 xc, .bool false] 42)
  refine (wageofficeref24_Same.calls 5 A10 c10 [⟨xa, true⟩, ⟨xc, false⟩] _ 2 [⟨xa, true⟩, ⟨xc, false⟩] _ _ (Kd.C_below q10 ((Below.refl _ _).alloc (Nat.le_refl _) _)) l10 F2 (Nat.le_refl _) (same2 xa xc)).mono ?_
  rintro e w14 ⟨rfl, d14⟩
  have b14 := d14.below
  replace q9 := Kd.C_below q9 (((Below.refl _ _).alloc (Nat.le_refl _) _).trans (b14.mono (by simp)))
  replace b14 := b13'.trans (b14.mono b13'.size)
  clear b13 b13' F2 d14 q10
  go_wp2_with fail
  refine (merkle_Root.calls none 0 [] 0 1 _ (Kd.C_nil _ _) (Nat.le_refl _) root0).mono ?_
  rintro e w15 ⟨rfl, b15⟩
  replace q9 := Kd.C_below q9 b15
  replace b15 := b14.trans (b15.mono b14.size)
  clear b14
  go_wp2_with fail
  refine (merkle_Collision.calls 3 2 sc A9 c9 [⟨xab, true⟩] sc A9 c9 [⟨xab, true⟩] _ _ _ _ q9 l9 q9 l9 C3.out).mono ?_
  rintro e w16 ⟨rfl, b16⟩
  replace q9 := Kd.C_below q9 b16
  replace b16 := b15.trans (b16.mono b15.size)
  clear b15
  go_wp2_with fail
  refine (merkle_Verify.calls t3 3 2 sc A9 c9 [⟨xab, true⟩] _ _ q9 l9 V3.out).mono ?_
  rintro e w17 ⟨rfl, b17⟩
  replace b17 := b16.trans (b17.mono b16.size)
  clear b16
  go_wp2
  go_ret
  exact ⟨rfl, b17⟩
theorem head_any (w : World) : Calls Try.prog 11 #[] w fun e w' => e = .returned (.bool true) ∧ Below w.heap.size w w' :=
  head_walk w _ _ _ _ _ (Lib.hid (leaf_any sa rfl)) (Lib.hid (leaf_any sb rfl)) (Lib.hid (leaf_any sc rfl)) (Lib.hid root1) (Lib.hid path1) (Lib.hid ver1) (Lib.hid ver2) (Lib.hid root3) (Lib.hid path32) (Lib.hid path31) (Lib.hid pair1) (Lib.hid pair2) (Lib.hid ver3) (Lib.hid coll3) ne_ab
end Head
def wageofficelaw24_head.f : Option Bool := some true
theorem wageofficelaw24_head.calls (r : Bool) (w : World) (h : wageofficelaw24_head.f = some r) : Calls Try.prog 11 #[] w fun e w' => e = .returned (.bool r) ∧ Below w.heap.size w w' := by
  cases h
  exact Head.head_any w
end Go.Proofs.Ytcikhbamdbphaaa.Stub
