import Derived.Test.YtannjakcnnefhaaDoorCWParse
import Derived.Test.YtannjakcnnefhaaDoorCPParts
import Derived.Lib.SplitLaws
set_option linter.unusedVariables false
set_option linter.unusedSimpArgs false
set_option linter.unusedVariables false
namespace Go.Proofs.YtannjakcnnefhaaDoor
open Go Go.RowKit Go.Proofs.YtannjakcnnefhaaDoorW.PrintWords Go.Proofs.YtannjakcnnefhaaDoorW.PrintLast Go.Proofs.YtannjakcnnefhaaDoorW.PrintMore
set_option maxHeartbeats 4000000 in
theorem strings_Split_dot (s : ByteArray) (w : World) (hs : s.size < 4294967281) :
    Calls Tryd.prog 39 #[.string s, .string ⟨#[46]⟩] w fun e w' => e = .returned (.slice (some ⟨w.heap.size, 0, none⟩) (dots s).length (dots s).length) ∧ w' = w.alloc (.cells ((dots s).map Value.string).toArray 9) := by
  have c := Tryd.strings_genSplit_one s 46 w hs
  have hl := dots_length s
  rw [Nat.add_sub_cancel] at c
  have hd : Lib.splitB ⟨#[46]⟩ 0 (Lib.countB s ⟨#[46]⟩) s = dots s := rfl
  rw [hd, ← hl, Lib.cellsOf_full] at c
  have C := Lib.hid c
  clear c hl hd
  go_enter Tryd.func39, Tryd.ntmps39
  go_wp2_with fail
  refine C.out.mono ?_
  rintro e w1 ⟨rfl, rfl⟩
  go_wp2_with fail
  go_ret
  exact ⟨rfl, rfl⟩
/-- What value.parts hands back. -/
def partsV : Option (Int × Int × Int) → Value
  | some (x, y, z) => .tuple #[.agg #[.int .i64 x, .int .i64 y, .int .i64 z], .bool true]
  | none => .tuple #[.agg #[.int .i64 0, .int .i64 0, .int .i64 0], .bool false]
def arr3 (ns : List Int) : Array Value := #[.int .i64 (ns.getD 0 0), .int .i64 (ns.getD 1 0), .int .i64 (ns.getD 2 0)]
set_option maxHeartbeats 4000000 in
set_option maxRecDepth 1000000 in
theorem value_parts_len (s : ByteArray) (w : World) (hs : s.size < 4294967281) (hl : (dots s).length ≠ 3) :
    Calls Tryd.prog 24 #[.string s] w fun e w' => e = .returned (.tuple #[.agg #[.int .i64 0, .int .i64 0, .int .i64 0], .bool false]) ∧ Below w.heap.size w w' := by
  go_enter Tryd.func24, Tryd.ntmps24
  go_wp2_with fail
  refine (strings_Split_dot s _ hs).mono ?_
  rintro e w1 ⟨rfl, rfl⟩
  have hd : (((dots s).length : Int) != 3) = true := by simp; omega
  go_wp2_with fail
  exact bodyPost_ret (v := .tuple #[.agg #[.int .i64 0, .int .i64 0, .int .i64 0], .bool false]) (by simp [results, Tryd.results24, go_sem]) rfl ⟨rfl, below_alloc (below_alloc (below_alloc (Below.refl _ _) _) _) _⟩
/-- Where value.parts stands behind its first rounds. -/
structure PIn (w wr : World) (a b c : ByteArray) (k : Nat) (ns : List Int) : Prop where
  below : Below w.heap.size w wr
  res : wr.heap[w.heap.size]? = some (.cells #[.int .i64 0, .int .i64 0, .int .i64 0] 22 (0, 0))
  out : wr.heap[w.heap.size + 1]? = some (.cells (arr3 ns) 22 (0, 0))
  row : wr.heap[w.heap.size + 1 + 1]? = some (.cells #[.string a, .string b, .string c] 9 (0, 0))
  len : ns.length = k
  fit : ∀ j, j < k → okPart ([a, b, c].getD j ByteArray.empty) ∧ ns.getD j 0 = (pnum ([a, b, c].getD j ByteArray.empty).data.toList).1
theorem PIn.next {w wr w1 : World} {a b c : ByteArray} {k : Nat} {ns : List Int} (h : PIn w wr a b c k ns) (hb : Below wr.heap.size wr w1) : PIn w w1 a b c k ns :=
  ⟨below_step h.below hb, blk_below h.res hb, blk_below h.out hb, blk_below h.row hb, h.len, h.fit⟩
theorem arr3_set (ns : List Int) (k : Nat) (n : Int) (hk : k < 3) (hl : ns.length = k) : (arr3 ns).setIfInBounds k (.int .i64 n) = arr3 (ns ++ [n]) := by
  rcases (show k = 0 ∨ k = 1 ∨ k = 2 by omega) with rfl | rfl | rfl
  · obtain rfl := List.eq_nil_of_length_eq_zero hl
    rfl
  · rcases ns with _ | ⟨x, _ | ⟨y, r⟩⟩ <;> simp at hl
    rfl
  · rcases ns with _ | ⟨x, _ | ⟨y, _ | ⟨z, r⟩⟩⟩ <;> simp at hl
    rfl
theorem PIn.put {w wr : World} {a b c : ByteArray} {k : Nat} {ns : List Int} (h : PIn w wr a b c k ns) (hk : k < 3) (n : Int)
    (hf : okPart ([a, b, c].getD k ByteArray.empty) ∧ n = (pnum ([a, b, c].getD k ByteArray.empty).data.toList).1) : PIn w (wr.setCell ⟨w.heap.size + 1, k, none⟩ (.int .i64 n)) a b c (k + 1) (ns ++ [n]) := by
  refine ⟨h.below.setCell (by simp) _, blk_far h.res (by simp) _, ?_, blk_far h.row (by simp) _, by simp [h.len], fun j hj => ?_⟩
  · rw [← arr3_set ns k n hk h.len]
    exact blk_set h.out k _
  · by_cases e : j = k
    · subst e
      refine ⟨hf.1, ?_⟩
      rw [← hf.2, List.getD_eq_getElem?_getD, ← h.len]
      simp
    · have := h.fit j (by omega)
      refine ⟨this.1, ?_⟩
      rw [← this.2, List.getD_eq_getElem?_getD, List.getD_eq_getElem?_getD, List.getElem?_append_left (by have := h.len; omega)]
set_option maxHeartbeats 16000000 in
set_option maxRecDepth 1000000 in
theorem value_parts_three (s a b c : ByteArray) (w : World) (hs : s.size < 4294967281) (hl : dots s = [a, b, c]) (hE : AnErr w 8) (ha : a.size ≤ 281474976710656 ∧ b.size ≤ 281474976710656 ∧ c.size ≤ 281474976710656) :
    Calls Tryd.prog 24 #[.string s] w fun e w' => e = .returned (partsV (parts3 (dots s))) ∧ Below w.heap.size w w' := by
  have HE := Aside0.mk hE
  have HL := Aside0.mk hl
  have HA := Aside0.mk ha
  clear hE ha
  go_enter Tryd.func24, Tryd.ntmps24
  go_wp2_with fail
  refine (strings_Split_dot s _ hs).mono ?_
  rintro e w1 ⟨rfl, rfl⟩
  rw [hl]
  clear hl hs
  go_wp2_with fail
  go_loopw [18] (fun v wr => ∃ (k : Nat) (ns : List Int), v = .int .i64 (k : Int) ∧ k ≤ 3 ∧ Aside0 (PIn w wr a b c k ns)) (fun v _ => 3 - (intOf v).toNat)
  case atStart =>
    refine ⟨0, [], rfl, by omega, ⟨?_⟩⟩
    refine ⟨below_alloc (below_alloc (below_alloc (Below.refl _ _) _) _) _, ?_, ?_, ?_, rfl, fun j hj => absurd hj (by omega)⟩
    · exact blk_alloc (blk_alloc (blk_new _ _) _) _
    · rw [show arr3 [] = #[.int .i64 0, .int .i64 0, .int .i64 0] from rfl]
      simpa using blk_alloc (blk_new (w.alloc (.cells #[.int .i64 0, .int .i64 0, .int .i64 0] 22)) _) _
    · simpa using blk_new ((w.alloc (.cells #[.int .i64 0, .int .i64 0, .int .i64 0] 22)).alloc (.cells #[.int .i64 0, .int .i64 0, .int .i64 0] 22)) _
  case round =>
    obtain ⟨k, ns, rfl, hk, HI⟩ := hrel
    by_cases hlt : k < 3
    · obtain ⟨x, hx⟩ : ∃ x, x = [a, b, c].getD k ByteArray.empty := ⟨_, rfl⟩
      have hcx : wr.cell? ⟨w.heap.size + 1 + 1, k, none⟩ = some (.string x) := by
        rw [blk_cell HI.out.row k, hx]
        rcases (show k = 0 ∨ k = 1 ∨ k = 2 by omega) with rfl | rfl | rfl <;> rfl
      have hxs : x.size ≤ 281474976710656 := by
        have := HA.out
        rw [hx]
        rcases (show k = 0 ∨ k = 1 ∨ k = 2 by omega) with rfl | rfl | rfl
        · exact this.1
        · exact this.2.1
        · exact this.2.2
      have HX := Aside0.mk hx
      have HXS := Aside0.mk hxs
      have HEr := Aside0.mk (HE.out.below HI.out.below)
      clear hx hxs
      go_wp2_with fail
      refine (text_ParseNumber_any x _ HXS.out HEr.out).mono ?_
      rintro e w1 ⟨rfl, hb⟩
      have HI1 := Aside0.mk (HI.out.next hb)
      clear hb HI hcx
      obtain ⟨⟨n, er⟩, hn⟩ : ∃ p, p = pnum x.data.toList := ⟨_, rfl⟩
      rw [← hn]
      have HN := Aside0.mk hn
      clear hn
      by_cases hok : er = 0 ∧ 0 ≤ n ∧ n ≤ 999999
      · obtain ⟨rfl, h2, h3⟩ := hok
        have hcell : w1.cell? ⟨w.heap.size + 1, k, none⟩ = some (.int .i64 (([ns.getD 0 0, ns.getD 1 0, ns.getD 2 0] : List Int).getD k 0)) := by
          rw [blk_cell HI1.out.out k]
          rcases (show k = 0 ∨ k = 1 ∨ k = 2 by omega) with rfl | rfl | rfl <;> rfl
        have hfro := blk_frozen HI1.out.out k
        have HF := Aside0.mk (show okPart x ∧ n = (pnum x.data.toList).1 from ⟨by unfold okPart; rw [← HN.out]; exact ⟨rfl, h2, h3⟩, by rw [← HN.out]⟩)
        go_wp2_with fail
        go_roundw
        case rel => exact ⟨k + 1, ns ++ [n], by go_num, by omega, ⟨HI1.out.put hlt n (by rw [← HX.out]; exact HF.out)⟩⟩
        case measure => simp [intOf]; omega
      · have hbad : Aside0 (parts3 (dots s) = none) := ⟨by
          have hx : ¬ okPart x := by unfold okPart; rw [← HN.out]; exact hok
          rw [HL.out]
          apply parts3_bad
          rw [HX.out] at hx
          rcases (show k = 0 ∨ k = 1 ∨ k = 2 by omega) with rfl | rfl | rfl
          · exact .inl hx
          · exact .inr (.inl hx)
          · exact .inr (.inr hx)⟩
        have z0 : w1.cell? ⟨w.heap.size, 0, none⟩ = some (.int .i64 0) := blk_cell HI1.out.res 0
        have z1 : w1.cell? ⟨w.heap.size, 1, none⟩ = some (.int .i64 0) := blk_cell HI1.out.res 1
        have z2 : w1.cell? ⟨w.heap.size, 2, none⟩ = some (.int .i64 0) := blk_cell HI1.out.res 2
        have f0 := blk_frozen HI1.out.res 0
        have f1 := blk_frozen HI1.out.res 1
        have f2 := blk_frozen HI1.out.res 2
        by_cases he : er = 0
        · subst he
          by_cases h2 : n < 0
          · clear hok
            go_wp2_with fail
            refine bodyPost_ret (results_ct rfl _ _ w.heap.size 22 #[.int .i64 0, .int .i64 0, .int .i64 0] (0, 0) _ rfl (blk_set (blk_set (blk_set HI1.out.res 0 _) 1 _) 2 _) Tryd.underlying22 rfl (by kernel_rfl)) rfl ?_
            exact ⟨by rw [hbad.out]; rfl, ((HI1.out.below.setCell (by simp) _).setCell (by simp) _).setCell (by simp) _⟩
          · have h3 : 999999 < n := by omega
            clear hok
            go_wp2_with fail
            refine bodyPost_ret (results_ct rfl _ _ w.heap.size 22 #[.int .i64 0, .int .i64 0, .int .i64 0] (0, 0) _ rfl (blk_set (blk_set (blk_set HI1.out.res 0 _) 1 _) 2 _) Tryd.underlying22 rfl (by kernel_rfl)) rfl ?_
            exact ⟨by rw [hbad.out]; rfl, ((HI1.out.below.setCell (by simp) _).setCell (by simp) _).setCell (by simp) _⟩
        · have he' : (er != 0) = true := by simpa using he
          clear he hok
          go_wp2_with fail
          refine bodyPost_ret (results_ct rfl _ _ w.heap.size 22 #[.int .i64 0, .int .i64 0, .int .i64 0] (0, 0) _ rfl (blk_set (blk_set (blk_set HI1.out.res 0 _) 1 _) 2 _) Tryd.underlying22 rfl (by kernel_rfl)) rfl ?_
          exact ⟨by rw [hbad.out]; rfl, ((HI1.out.below.setCell (by simp) _).setCell (by simp) _).setCell (by simp) _⟩
    · obtain rfl : k = 3 := by omega
      obtain ⟨x, y, z, hns⟩ : ∃ x y z, ns = [x, y, z] := by
        have := HI.out.len
        rcases ns with _ | ⟨x, _ | ⟨y, _ | ⟨z, _ | ⟨u, r⟩⟩⟩⟩ <;> simp at this
        exact ⟨x, y, z, rfl⟩
      subst hns
      have hgood : Aside0 (parts3 (dots s) = some (x, y, z)) := ⟨by
        have f0 : okPart a ∧ x = (pnum a.data.toList).1 := HI.out.fit 0 (by omega)
        have f1 : okPart b ∧ y = (pnum b.data.toList).1 := HI.out.fit 1 (by omega)
        have f2 : okPart c ∧ z = (pnum c.data.toList).1 := HI.out.fit 2 (by omega)
        rw [HL.out, parts3_good f0.1 f1.1 f2.1]
        rw [← f0.2, ← f1.2, ← f2.2]⟩
      have z0 : wr.cell? ⟨w.heap.size, 0, none⟩ = some (.int .i64 0) := blk_cell HI.out.res 0
      have z1 : wr.cell? ⟨w.heap.size, 1, none⟩ = some (.int .i64 0) := blk_cell HI.out.res 1
      have z2 : wr.cell? ⟨w.heap.size, 2, none⟩ = some (.int .i64 0) := blk_cell HI.out.res 2
      have f0 := blk_frozen HI.out.res 0
      have f1 := blk_frozen HI.out.res 1
      have f2 := blk_frozen HI.out.res 2
      have o0 : wr.cell? ⟨w.heap.size + 1, 0, none⟩ = some (.int .i64 x) := blk_cell HI.out.out 0
      have o1 : wr.cell? ⟨w.heap.size + 1, 1, none⟩ = some (.int .i64 y) := blk_cell HI.out.out 1
      have o2 : wr.cell? ⟨w.heap.size + 1, 2, none⟩ = some (.int .i64 z) := blk_cell HI.out.out 2
      go_wp2_with fail
      refine bodyPost_ret (results_ct rfl _ _ w.heap.size 22 #[.int .i64 x, .int .i64 y, .int .i64 z] (0, 0) _ rfl (blk_set (blk_set (blk_set HI.out.res 0 _) 1 _) 2 _) Tryd.underlying22 rfl (by kernel_rfl)) rfl ?_
      exact ⟨by rw [hgood.out]; rfl, ((HI.out.below.setCell (by simp) _).setCell (by simp) _).setCell (by simp) _⟩
theorem three_of {α : Type} : ∀ {l : List α}, l.length = 3 → ∃ a b c, l = [a, b, c]
  | [a, b, c], _ => ⟨a, b, c, rfl⟩
  | [], h => by simp at h
  | [_], h => by simp at h
  | [_, _], h => by simp at h
  | _ :: _ :: _ :: _ :: _, h => by simp at h
theorem value_parts_any (s : ByteArray) (w : World) (hs : s.size < 4294967281) (hE : AnErr w 8) :
    Calls Tryd.prog 24 #[.string s] w fun e w' => e = .returned (partsV (parts3 (dots s))) ∧ Below w.heap.size w w' := by
  by_cases hl : (dots s).length = 3
  · obtain ⟨a, b, c, h⟩ := three_of hl
    have hz : ∀ p ∈ dots s, p.size ≤ 281474976710656 := fun p hp => by
      have := dots_size s p hp
      omega
    rw [h] at hz
    exact value_parts_three s a b c w hs h hE ⟨hz a (by simp), hz b (by simp), hz c (by simp)⟩
  · rw [parts3_len hl]
    exact value_parts_len s w hs hl
end Go.Proofs.YtannjakcnnefhaaDoor
