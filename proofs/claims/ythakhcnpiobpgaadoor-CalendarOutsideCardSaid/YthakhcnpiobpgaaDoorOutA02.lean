/- Facts for the law CalendarOutside: its callees' contracts with the plain functions, and what Parse answers. -/
import Derived.Test.YthakhcnpiobpgaaDoorPureInv02
import Derived.Test.YthakhcnpiobpgaaDoorTool
import Derived.Lib.ConvBytes
import Derived.Laws.BytesArg
namespace Go.Proofs.YthakhcnpiobpgaaDoor.OutA02
open Go.RowKit Go.Proofs.YthakhcnpiobpgaaDoor Go.Proofs.YthakhcnpiobpgaaDoor.PAll Go.Proofs.YthakhcnpiobpgaaDoorW.PrintWords Go.Proofs.YthakhcnpiobpgaaDoorW.PrintMore
open Go.Proofs.YthakhcnpiobpgaaDoor.Cal Go.Proofs.YthakhcnpiobpgaaDoor.CalA Go.Proofs.YthakhcnpiobpgaaDoor.Stub Go.Proofs.YthakhcnpiobpgaaDoor.PureRef02 Go.Proofs.YthakhcnpiobpgaaDoor.PureText02 Go.Proofs.YthakhcnpiobpgaaDoor.PureParseT02 Go.Proofs.YthakhcnpiobpgaaDoor.PureInv02

theorem head_c (w : World) (hT : TabBefore w) : Calls Tryd.prog 9 #[] w fun e w' => e = .returned (.bool true) ∧ Below w.heap.size w w' :=
  wageofficelaw02_head.calls 8 true w (head_eq 8 (by decide)) hT
theorem pick_c (c n : Int) (w : World) (h0 : -9223372036854775808 ≤ c) (h1 : c ≤ 9223372036854775807) (hn : 0 < n) : Calls Tryd.prog 10 #[.int .i64 c, .int .i64 n] w fun e w' => e = .returned (.int .i64 (pk c n)) ∧ Below w.heap.size w w' :=
  (wageofficelaw02_pick.calls c n _ w (pick_f c n h0 h1 hn)).mono fun _ _ h => ⟨h.1, h.2.below⟩
theorem date_no {n : Int} (h : okD n = false) : date n = (0, 0, 0) := by unfold date; rw [h]; rfl
theorem date_c (n : Int) (w : World) (hT : TabBefore w) (h : okD n = false) : Calls Tryd.prog 11 #[.int .i64 n] w fun e w' => e = .returned (.tuple #[.int .i64 0, .int .i64 0, .int .i64 0]) ∧ Below w.heap.size w w' :=
  calendar_Date.calls n 0 0 0 w (by rw [date_f, date_no h]) hT
theorem later_c (n : Int) (w : World) (hT : TabBefore w) (h : okD n = false) : Calls Tryd.prog 13 #[.int .i64 n, .int .i64 0] w fun e w' => e = .returned (.tuple #[.int .i64 0, .int .i64 21]) ∧ Below w.heap.size w w' :=
  calendar_Later.calls 1 n 0 0 21 w (by rw [later_f]; unfold later; rw [if_neg (fun e => by rw [h] at e; cases e.1)]) hT
theorem wd_c (n : Int) (w : World) (h : okD n = false) : Calls Tryd.prog 15 #[.int .i64 n] w fun e w' => e = .returned (.int .i64 0) ∧ Below w.heap.size w w' :=
  (calendar_Weekday.calls n 0 w (by rw [wd_f]; unfold wd; rw [h]; rfl)).mono fun _ _ h => ⟨h.1, h.2.below⟩
theorem month_c (n : Int) (w : World) (hT : TabBefore w) (h : okD n = false) : Calls Tryd.prog 17 #[.int .i64 n] w fun e w' => e = .returned (.int .i64 (-1)) ∧ Below w.heap.size w w' := by
  have := month_any n w hT
  rw [show month n = -1 by unfold month; rw [h]; rfl] at this
  exact this
theorem first_c (n : Int) (w : World) (hT : TabBefore w) (h : okM n = false) : Calls Tryd.prog 21 #[.int .i64 n] w fun e w' => e = .returned (.int .i64 (-1)) ∧ Below w.heap.size w w' := by
  have := first_any n w hT
  rw [show first n = -1 by unfold first; rw [h]; rfl] at this
  exact this
theorem length_c (n : Int) (w : World) (hT : TabBefore w) (h : okM n = false) : Calls Tryd.prog 23 #[.int .i64 n] w fun e w' => e = .returned (.int .i64 0) ∧ Below w.heap.size w w' := by
  have := length_any n w hT
  rw [show len n = 0 by unfold len; rw [h]; rfl] at this
  exact this
theorem text_c (n : Int) (w : World) (hT : TabBefore w) : Calls Tryd.prog 19 #[.int .i64 n] w fun e w' => e = .returned (.string (text n)) ∧ Below w.heap.size w w' :=
  calendar_Text.calls 5 n _ w (Text_f 0 n) hT
theorem text0_c (n : Int) (w : World) (hT : TabBefore w) (h : okD n = false) : Calls Tryd.prog 19 #[.int .i64 n] w fun e w' => e = .returned (.string ⟨#[]⟩) ∧ Below w.heap.size w w' := by
  have := text_c n w hT
  rw [show text n = ⟨#[]⟩ by unfold text; rw [h]; rfl] at this
  exact this
/-- What Parse answers: a day, or nought with one of two errors. -/
theorem parse_no (s : ByteArray) : (parse s).2 = 0 ∨ ((parse s).1 = 0 ∧ ((parse s).2 = 12 ∨ (parse s).2 = 21)) := by
  unfold parse
  split
  · cases parts s.data.toList 0 0 [0, 0, 0] with
    | none => exact .inr ⟨rfl, .inl rfl⟩
    | some ps =>
      rcases date_day (ps.getD 0 0) (ps.getD 1 0) (ps.getD 2 0) with h | h
      · dsimp only; rw [h]; exact .inr ⟨rfl, .inr rfl⟩
      · exact .inl h.1
  · exact .inr ⟨rfl, .inl rfl⟩
theorem numL_two (a b : UInt8) (h : (numL 0 [a, b]).2 = true) : a = UInt8.ofNat (48 + (numL 0 [a, b]).1 / 10).toNat ∧ b = UInt8.ofNat (48 + (numL 0 [a, b]).1 % 10).toNat ∧ 0 ≤ (numL 0 [a, b]).1 ∧ (numL 0 [a, b]).1 ≤ 99 := by
  rw [numL] at h ⊢
  split at h
  · rename_i ha
    rw [if_pos ha, numL] at *
    split at h
    · rename_i hb
      rw [if_pos hb, numL] at *
      refine ⟨UInt8.toNat_inj.1 ?_, UInt8.toNat_inj.1 ?_, by dsimp only; omega, by dsimp only; omega⟩
      · dsimp only; rw [byte_nat (by omega) (by omega)]; omega
      · dsimp only; rw [byte_nat (by omega) (by omega)]; omega
    · cases h
  · cases h
theorem numL_four (a b c d : UInt8) (h : (numL 0 [a, b, c, d]).2 = true) : a = UInt8.ofNat (48 + (numL 0 [a, b, c, d]).1 / 100 / 10).toNat ∧ b = UInt8.ofNat (48 + (numL 0 [a, b, c, d]).1 / 100 % 10).toNat ∧
    c = UInt8.ofNat (48 + (numL 0 [a, b, c, d]).1 % 100 / 10).toNat ∧ d = UInt8.ofNat (48 + (numL 0 [a, b, c, d]).1 % 100 % 10).toNat := by
  rw [numL] at h ⊢
  split at h
  · rename_i ha
    rw [if_pos ha, numL] at *
    split at h
    · rename_i hb
      rw [if_pos hb, numL] at *
      split at h
      · rename_i hc
        rw [if_pos hc, numL] at *
        split at h
        · rename_i hd
          rw [if_pos hd, numL] at *
          refine ⟨UInt8.toNat_inj.1 ?_, UInt8.toNat_inj.1 ?_, UInt8.toNat_inj.1 ?_, UInt8.toNat_inj.1 ?_⟩
          · dsimp only; rw [byte_nat (by omega) (by omega)]; omega
          · dsimp only; rw [byte_nat (by omega) (by omega)]; omega
          · dsimp only; rw [byte_nat (by omega) (by omega)]; omega
          · dsimp only; rw [byte_nat (by omega) (by omega)]; omega
        · cases h
      · cases h
    · cases h
  · cases h
/-- A text that Parse accepts is the text of its day. -/
theorem text_parse (s : ByteArray) (hs : s.size = 10) (h : (parse s).2 = 0) : 0 ≤ (parse s).1 ∧ (parse s).1 ≤ 36524 ∧ text (parse s).1 = s := by
  obtain ⟨c0, c1, c2, c3, c4, c5, c6, c7, c8, c9, rfl⟩ := ten s hs
  rw [parse_ten] at h ⊢
  split at h
  · rename_i hp
    obtain ⟨h4, h7, hy, hm, hd⟩ := hp
    rw [if_pos ⟨h4, h7, hy, hm, hd⟩]
    obtain ⟨y0, y1, y2, y3⟩ := numL_four c0 c1 c2 c3 hy
    obtain ⟨m0, m1, _, _⟩ := numL_two c5 c6 hm
    obtain ⟨d0, d1, _, _⟩ := numL_two c8 c9 hd
    rcases date_day (numL 0 [c0, c1, c2, c3]).1 (numL 0 [c5, c6]).1 (numL 0 [c8, c9]).1 with e | ⟨_, e1, e2, e3⟩
    · rw [e] at h; cases h
    · refine ⟨e1, e2, ?_⟩
      rw [text_ok e1 e2, e3]
      have e4 : c4 = UInt8.ofNat 45 := UInt8.toNat_inj.1 h4
      have e7 : c7 = UInt8.ofNat 45 := UInt8.toNat_inj.1 h7
      generalize (numL 0 [c0, c1, c2, c3]).1 = y at *
      generalize (numL 0 [c5, c6]).1 = m at *
      generalize (numL 0 [c8, c9]).1 = d at *
      rw [y0, y1, y2, y3, e4, m0, m1, e7, d0, d1]
      rfl
  · cases h
/-- The bytes of a string as numbers, one of them changed. -/
def chg (s : ByteArray) (j : Nat) (c : Int) : List Int := (s.data.toList.map fun b => (b.toNat : Int)).set j c
theorem chg_size (s : ByteArray) (j : Nat) (c : Int) : (strOfNums (chg s j c)).size = s.size := by
  rw [strOfNums_size]; simp [chg]
/-- A block's first cells are these bytes. -/
def Cells (W : World) (b : Nat) (xs : List Int) : Prop := ∀ i v, xs[i]? = some v → W.cell? ⟨b, i, none⟩ = some (.int .u8 v)
theorem cells_below {W W' : World} {b : Nat} {xs : List Int} (h : Cells W b xs) (hb : Below W.heap.size W W') (hlt : b < W.heap.size) : Cells W' b xs := fun i v hv => by
  rw [hb.cell (show (⟨b, i, none⟩ : Addr).block < W.heap.size from hlt)]
  exact h i v hv
theorem bytes_below (w : World) (s : ByteArray) (e : TypeId) : Below w.heap.size w (Lib.bytesWorld w e s) := ⟨rfl, rfl, rfl, by rw [Lib.bytesWorld_size]; omega, fun k hk => Lib.bytesWorld_at_old w e s k hk⟩
theorem conv_c {P : Program} {W : World} {src e dst : TypeId} (hs : P.underlying src = some (.slice e)) (he : P.underlying e = some (.int .u8)) (hd : P.underlying dst = some .string) {b : Nat} {xs : List Int} (n cap : Nat) (hn : xs.length = n) (h : Cells W b xs) :
    (convert src dst (.slice (some ⟨b, 0, none⟩) n cap)).run P W = .ok (.string (strOfNums xs)) W := by
  refine run_convert_bytes_arg W src e hs he b 0 n cap xs hn (fun i hi => ?_) dst hd
  rw [Nat.zero_add]
  have hi' : i < xs.length := by omega
  rw [h i xs[i] (List.getElem?_eq_getElem hi')]
  simp [List.getD_eq_getElem?_getD, hi']
/-- Behind []byte(s) and a store of one byte. -/
theorem store_c {w w5 : World} {s : ByteArray} {e : TypeId} (hb : Below (Lib.bytesWorld w e s).heap.size (Lib.bytesWorld w e s) w5) (j : Nat) (hj : j < s.size) (c : Int) :
    (∃ v, w5.cell? ⟨w.heap.size, j, none⟩ = some v) ∧ w5.frozen? ⟨w.heap.size, j, none⟩ = false ∧ Cells (w5.setCell ⟨w.heap.size, j, none⟩ (.int .u8 c)) w.heap.size (chg s j c) ∧ w.heap.size < w5.heap.size := by
  have hl : w.heap.size < (Lib.bytesWorld w e s).heap.size := by rw [Lib.bytesWorld_size]; omega
  have hbl : w5.heap[w.heap.size]? = some (.cells (Lib.bytesCells w e s) e ((Lib.bytesCells w e s).size, (Lib.bytesCells w e s).size + 1)) := by
    rw [hb.block _ hl]; exact Lib.bytesWorld_at_new w e s
  have hcs : s.size ≤ (Lib.bytesCells w e s).size := by
    unfold Lib.bytesCells
    rw [Array.size_append, Array.size_map]
    show s.data.size ≤ _
    omega
  have hget : ∀ i (h : i < s.size), (Lib.bytesCells w e s)[i]? = some (.int .u8 (s[i].toNat : Int)) := by
    intro i h
    unfold Lib.bytesCells
    rw [Array.getElem?_append_left (by simpa using h)]
    have hi2 : i < s.data.size := h
    rw [Array.getElem?_map, Array.getElem?_eq_getElem hi2]
    rfl
  refine ⟨⟨_, (Tool.cell_blk hbl j).trans (hget j hj)⟩, ?_, ?_, Nat.lt_of_lt_of_le hl hb.size⟩
  · simp [World.frozen?, hbl]; omega
  · intro i v hv
    rw [Tool.cell_blk (Tool.set_blk hbl j _), Array.getElem?_setIfInBounds]
    unfold chg at hv
    rw [List.getElem?_set] at hv
    by_cases hij : j = i
    · subst hij
      rw [if_pos rfl] at hv ⊢
      split at hv
      · rw [if_pos (by omega)]; cases hv; rfl
      · cases hv
    · rw [if_neg hij] at hv ⊢
      have hi : i < s.size := by
        have := (List.getElem?_eq_some_iff.1 hv).1
        simpa using this
      rw [hget i hi]
      have hi2 : i < s.data.size := hi
      rw [List.getElem?_map, Array.getElem?_toList, Array.getElem?_eq_getElem hi2] at hv
      cases hv
      rfl
end Go.Proofs.YthakhcnpiobpgaaDoor.OutA02
