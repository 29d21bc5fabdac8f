/- merkle.Collision walked. -/
import Derived.Test.YtcikhbamdbphaaaMerW
import Derived.WalkMore
import Derived.Deep.LoopGhost
set_option linter.unusedSimpArgs false
set_option linter.unusedVariables false
namespace Go.Proofs.Ytcikhbamdbphaaa.MerX
open Go.RowKit Go.Shelf Go.Proofs.Ytcikhbamdbphaaa.MerA Go.Proofs.Ytcikhbamdbphaaa.Mer Go.Proofs.Ytcikhbamdbphaaa.MerC Go.Proofs.Ytcikhbamdbphaaa.MerT Go.Proofs.Ytcikhbamdbphaaa.MerU Go.Proofs.Ytcikhbamdbphaaa.MerV Go.Proofs.Ytcikhbamdbphaaa.MerW
theorem Coll.le {n1 n2 : Nat} {res : Option (List ByteArray)} {e : Ending} {w' : World} (h : Coll n2 res e w') (hn : n1 ≤ n2) : Coll n1 res e w' := by
  rcases h with ⟨ts, v, h1, h2, h3⟩ | h
  · refine .inl ⟨ts, v, h1, h2, h3.1, ?_⟩
    rcases h3.2 with h4 | ⟨g, cap, cur, e1, e2, e3⟩
    · exact .inl h4
    · exact .inr ⟨g, cap, cur, e1, by omega, e3⟩
  · exact .inr h
def Res (s i : Int) (a : ByteArray) (r : List (Int × Bool)) (b : ByteArray) (r' : List (Int × Bool)) (e : Ending) : Prop :=
  e = .returned (.tuple #[.string (collF s i a r b r').1, .string (collF s i a r b r').2.1, .bool (collF s i a r b r').2.2])
set_option maxRecDepth 100000 in
set_option maxHeartbeats 8000000 in
theorem collision_any (s i : Int) (a : ByteArray) (ha : a.size ≤ 140737488351232) (A : Option Addr) (m c : Nat) (r : List (Int × Bool)) (b : ByteArray) (hb : b.size ≤ 140737488351232) (A' : Option Addr) (m' c' : Nat) (r' : List (Int × Bool)) (w : World) (hp : PathArg w A m c r) (hp' : PathArg w A' m' c' r') :
    Calls Try.prog 20 #[.int .i64 s, .int .i64 i, .string a, .slice A m c, .string b, .slice A' m' c'] w fun e w' => Res s i a r b r' e ∧ Below w.heap.size w w' := by
  go_enter Try.func20, Try.ntmps20
  go_wp2_with fail
  try go_step3
  go_wp2_with fail
  refine (texts_any s i a A m c w).mono ?_
  rintro e w1 ⟨rfl, hst, hb1, hz⟩
  have HZ := Lib.hid hz
  clear hz
  go_wp2_with fail
  refine (coll_any s i a ha A m c r w w1 hp hst hb1 HZ.out).mono ?_
  rintro e w2 ⟨hc, hb2⟩
  clear HZ hst hb1
  have h1 : ∃ v ok, e = .returned (.tuple #[v, .bool ok]) := by rcases hc with ⟨ts, v, _, h, _⟩ | ⟨_, h⟩ <;> exact ⟨_, _, h⟩
  obtain ⟨v1, ok1, rfl⟩ := h1
  have HC := Lib.hid hc
  clear hc
  have hp2 := hp'.below hb2
  go_wp2_with fail
  refine (texts_any s i b A' m' c' w2).mono ?_
  rintro e w3 ⟨rfl, hst, hb3, hz⟩
  have HZ := Lib.hid hz
  clear hz
  go_wp2_with fail
  refine (coll_any s i b hb A' m' c' r' w2 w3 hp2 hst hb3 HZ.out).mono ?_
  rintro e w4 ⟨hc, hb4⟩
  clear HZ hst hb3
  rcases HC.out with ⟨ts, v, ht, he, hown⟩ | ⟨ht, he⟩
  · cases he
    obtain ⟨hpos, hsz⟩ := texts_props ht ha
    obtain ⟨g, cap, rfl, hg, hgs, hcap, hmx, hcell⟩ := owns_strs hpos hown
    rcases hc with ⟨ts', v', ht', rfl, hown'⟩ | ⟨ht', rfl⟩
    · obtain ⟨hpos', hsz'⟩ := texts_props ht' hb
      obtain ⟨g', cap', rfl, hg', hgs', hcap', hmx', hcell'⟩ := owns_strs hpos' hown'
      have hlen := texts_length ht ht'
      obtain ⟨N, hN⟩ : ∃ N, ts.length = N := ⟨_, rfl⟩
      have hN' : ts'.length = N := by rw [← hlen, hN]
      have hc1 : ∀ j, j < N → w4.cell? ⟨g, j, none⟩ = some (.string (ts.getD j ByteArray.empty)) := fun j hj => by
        rw [List.getD_eq_getElem?_getD, List.getElem?_eq_getElem (by omega)]
        exact (hb4.cell (p := ⟨g, j, none⟩) hgs).trans (hcell j (by omega))
      have hc2 : ∀ j, j < N → w4.cell? ⟨g', j, none⟩ = some (.string (ts'.getD j ByteArray.empty)) := fun j hj => by
        rw [List.getD_eq_getElem?_getD, List.getElem?_eq_getElem (by omega)]
        exact hcell' j (by omega)
      have hz1 : ∀ j, j < N → (ts.getD j ByteArray.empty).size ≤ 140737488355328 := fun j hj => by
        rw [List.getD_eq_getElem?_getD, List.getElem?_eq_getElem (by omega)]
        exact hsz _ (List.getElem_mem _)
      have hz2 : ∀ j, j < N → (ts'.getD j ByteArray.empty).size ≤ 140737488355328 := fun j hj => by
        rw [List.getD_eq_getElem?_getD, List.getElem?_eq_getElem (by omega)]
        exact hsz' _ (List.getElem_mem _)
      have hg4 := Nat.lt_of_lt_of_le hgs hb4.size
      have HRes := collF_some ht ht'
      rw [hN, hN'] at HRes
      rw [hN, hN']
      rw [hN] at hmx
      have hN0 : 0 < N := by omega
      have hB : Below w.heap.size w w4 := hb2.trans (hb4.mono hb2.size)
      have HN := Lib.hid hN
      have HN' := Lib.hid hN'
      have HH1 := Lib.hid hc1
      have HH2 := Lib.hid hc2
      have HR := Lib.hid HRes
      clear hN hN' hlen hcell hcell' hown hown' ht ht' HC hsz hsz' hcap hcap' hmx' hpos hpos' hc1 hc2 HRes hb2 hb4 hgs
      have d1 := HH1.out (N - 1) (by omega)
      have d2 := HH2.out (N - 1) (by omega)
      obtain ⟨lx, hlx⟩ : ∃ lx, ts.getD (N - 1) ByteArray.empty = lx := ⟨_, rfl⟩
      obtain ⟨ly, hly⟩ : ∃ ly, ts'.getD (N - 1) ByteArray.empty = ly := ⟨_, rfl⟩
      have zx := hz1 (N - 1) (by omega)
      have zy := hz2 (N - 1) (by omega)
      rw [hlx] at d1 zx
      rw [hly] at d2 zy
      have HR2 := HR.out
      rw [hlx, hly] at HR2
      have HRR := Lib.hid HR2
      clear hlx hly HR HR2
      have q1 : IntKind.i64.wrap ((N : Int) - 1) = (N : Int) - 1 := IntWalk.i64_in _ (by omega)
      have q2 : (0 : Int) ≤ (N : Int) - 1 := by omega
      have q3 : (N : Int) - 1 < (N : Int) := by omega
      have q4 : ((N : Int) - 1).toNat = N - 1 := by omega
      have q6 : (1 : Int) ≤ (N : Int) := by omega
      have hg6 : g < w4.drew.heap.size := hg4
      have hg6' : g' < w4.drew.heap.size := hgs'
      have hB6 : Below w.heap.size w w4.drew := hB.drew
      have hB5 : Below w4.heap.size w4 w4.drew := (Below.refl _ _).drew
      go_wp2
      go_region_held3 (fun W' => W'.cell? ⟨g, N - 1, none⟩ = some (.string lx) ∧ W'.cell? ⟨g', N - 1, none⟩ = some (.string ly)) (first | go_keep | (exact ⟨hk0, hk1⟩))
        (first | (go_at_call 22; refine (DigB.sum_any _ _ (by first | (exact Nat.le_trans zx (by decide)) | (exact Nat.le_trans zy (by decide)))).mono ?_; rintro e w5 ⟨rfl, hb5⟩; first | (have hk0 := (hb5.cell (p := ⟨g, N - 1, none⟩) (by exact hg6)).trans hk0; have hk1 := (hb5.cell (p := ⟨g', N - 1, none⟩) (by exact hg6')).trans hk1; replace hg6 := Nat.lt_of_lt_of_le hg6 hb5.size; replace hg6' := Nat.lt_of_lt_of_le hg6' hb5.size; replace hB6 := hB6.trans (hb5.mono hB6.size); replace hB5 := hB5.trans (hb5.mono hB5.size)) | (have hk0 := (hb5.cell (p := ⟨g, N - 1, none⟩) (by exact hg6)).trans d1; have hk1 := (hb5.cell (p := ⟨g', N - 1, none⟩) (by exact hg6')).trans d2; replace hg6 := Nat.lt_of_lt_of_le hg6 hb5.size; replace hg6' := Nat.lt_of_lt_of_le hg6' hb5.size; replace hB6 := hB6.trans (hb5.mono hB6.size); replace hB5 := hB5.trans (hb5.mono hB5.size))))
      clear q1 q2 q3 q4 q6
      generalize Dig.sum lx = X0 at *
      generalize Dig.sum ly = Y0 at *
      by_cases hs : X0 = Y0
      · subst hs
        have hs : True := trivial
        have hsb : True := trivial
        go_wp2
        go_step3
        go_wp2
        have hb2' := hB
        go_loopw [19, 20, 21, 67] (fun v19 v20 v21 v67 wr => ∃ k : Nat, k ≤ N ∧ v67 = .int .i64 (k : Int) ∧ v19 = .string ⟨#[]⟩ ∧ v20 = .string ⟨#[]⟩ ∧ v21 = .bool false ∧ FC ts ts' 0 = FC ts ts' k ∧ Below w4.heap.size w4 wr) (fun _ _ _ v67 _ => N - (intOf v67).toNat)
        case atStart => exact ⟨0, by omega, rfl, rfl, rfl, rfl, rfl, hB5⟩
        case round =>
          obtain ⟨k, hk, rfl, rfl, rfl, rfl, hfc, hBr⟩ := hrel
          have HF := Lib.hid hfc
          clear hfc hk0 hk1 hsb
          by_cases hkN : k < N
          · have e1 := (hBr.cell (p := ⟨g, k, none⟩) hg4).trans (HH1.out k hkN)
            have e2 := (hBr.cell (p := ⟨g', k, none⟩) hgs').trans (HH2.out k hkN)
            have z1 := hz1 k hkN
            have z2 := hz2 k hkN
            have hat := FC_at (l := ts) (m := ts') (k := k) (by rw [HN.out]; exact hkN) (by rw [HN'.out]; exact hkN)
            generalize ts.getD k ByteArray.empty = x at *
            generalize ts'.getD k ByteArray.empty = y at *
            have HAT := Lib.hid hat
            clear hat
            by_cases hxy : x = y
            · have hb1 : (x.toList == y.toList) = true := by rw [hxy]; simp
              go_wp2
              exact ⟨⟨k + 1, by omega, by go_num, rfl, rfl, rfl, by rw [HF.out, HAT.out, if_pos hxy], hBr⟩, by simp [intOf]; omega⟩
            · have hb1 : (x.toList == y.toList) = false := by
                rw [beq_eq_false_iff_ne]
                intro h
                rw [ByteArray.toList_eq, ByteArray.toList_eq] at h
                exact hxy (ByteArray.ext (Array.toList_inj.mp h))
              go_wp2
              have hg5 : g' < wr.heap.size := Nat.lt_of_lt_of_le hgs' hBr.size
              have hB7 : Below w4.heap.size w4 wr.drew := hBr.drew
              go_region_held3 (fun W' => W'.cell? ⟨g', k, none⟩ = some (.string y)) (first | go_keep | exact hk1)
                (first | (go_at_call 22; refine (DigB.sum_any _ _ (by first | (exact Nat.le_trans z1 (by decide)) | (exact Nat.le_trans z2 (by decide)))).mono ?_; rintro e w6 ⟨rfl, hb6⟩; first | (have hk1 := (hb6.cell (p := ⟨g', k, none⟩) (by exact hg5)).trans hk1; replace hg5 := Nat.lt_of_lt_of_le hg5 hb6.size; replace hB7 := hB7.trans (hb6.mono hB7.size)) | (have hk1 := (hb6.cell (p := ⟨g', k, none⟩) (by exact hg5)).trans e2; replace hg5 := Nat.lt_of_lt_of_le hg5 hb6.size; replace hB7 := hB7.trans (hb6.mono hB7.size))))
              generalize Dig.sum x = X at *
              generalize Dig.sum y = Y at *
              by_cases hsu : X = Y
              · have hsub : (X == Y) = true := by simpa using hsu
                have HSU := Lib.hid hsu
                clear hsu
                go_wp2
                have q2 : (k : Int) < (N : Int) := by omega
                go_region
                go_wp2
                try rw [Exit.noGoto_ret]
                go_ret3
                refine ⟨?_, (hb2'.trans (hB7.mono hb2'.size)).drew⟩
                have hfin : collF s i a r b r' = (x, y, true) := by rw [HRR.out, if_pos trivial, HF.out, HAT.out, if_neg hxy, if_pos HSU.out]
                unfold Res
                rw [hfin]
                rfl
              · have hsub : (X == Y) = false := by simpa using hsu
                have HSU := Lib.hid hsu
                have HXY := Lib.hid hxy
                clear hsu hs hxy hb1 hk1
                go_wp2_with fail
                clear hsub
                go_wp2
                exact ⟨⟨k + 1, by omega, by go_num, rfl, rfl, rfl, by rw [HF.out, HAT.out, if_neg HXY.out, if_neg HSU.out], hB7⟩, by simp [intOf]; omega⟩
          · go_wp2
            try rw [Exit.noGoto_ret]
            go_ret3
            obtain rfl : k = N := by omega
            refine ⟨?_, hb2'.trans (hBr.mono hb2'.size)⟩
            have hfin : collF s i a r b r' = (⟨#[]⟩, ⟨#[]⟩, false) := by rw [HRR.out, if_pos trivial, HF.out, ← HN.out, FC_end]
            unfold Res
            rw [hfin]
            rfl
      · have hsb : (X0 == Y0) = false := by simpa using hs
        have hsb2 : (X0 != Y0) = true := by simpa using hs
        clear hs hk0 hk1
        have hs : True := trivial
        go_wp2
        try rw [Exit.noGoto_ret]
        go_ret3
        refine ⟨?_, hB6⟩
        unfold Res
        rw [HRR.out, if_neg (by simpa using hsb)]
        rfl
    · have HT := Lib.hid ht
      have HT' := Lib.hid ht'
      clear ht ht' HC
      go_wp2
      go_region
      go_wp2
      try rw [Exit.noGoto_ret]
      go_ret3
      refine ⟨?_, (hb2.trans (hb4.mono hb2.size)).drew⟩
      unfold Res
      rw [collF_none (.inr HT'.out)]
      rfl
  · cases he
    obtain ⟨v2, ok2, rfl⟩ : ∃ v ok, e = .returned (.tuple #[v, .bool ok]) := by rcases hc with ⟨ts, v, _, h, _⟩ | ⟨_, h⟩ <;> exact ⟨_, _, h⟩
    have HT := Lib.hid ht
    clear ht hc HC
    go_wp2
    go_region
    go_wp2
    try rw [Exit.noGoto_ret]
    go_ret3
    refine ⟨?_, (hb2.trans (hb4.mono hb2.size)).drew⟩
    unfold Res
    rw [collF_none (.inl HT.out)]
    rfl
end Go.Proofs.Ytcikhbamdbphaaa.MerX
