import Derived.Test.YtannjakcnnefhaaGreatDoorCWRefParse
import Derived.Test.YtannjakcnnefhaaGreatDoorCWParts
import Derived.Test.YtannjakcnnefhaaGreatDoorCPDots
import Derived.Laws.Strings3
set_option linter.unusedVariables false
set_option linter.unusedSimpArgs false
set_option linter.unusedVariables false
namespace Go.Proofs.YtannjakcnnefhaaGreatDoor
open Go Go.RowKit Go.Proofs.YtannjakcnnefhaaGreatDoorW.PrintWords Go.Proofs.YtannjakcnnefhaaGreatDoorW.PrintLast Go.Proofs.YtannjakcnnefhaaGreatDoorW.PrintMore
/-- Where flagstoneref3.parts stands behind its first rounds. -/
structure QIn (w wr : World) (s : ByteArray) (i at_ : Nat) (ns : List Int) : Prop where
  below : Below w.heap.size w wr
  res : wr.heap[w.heap.size]? = some (.cells #[.int .i64 0, .int .i64 0, .int .i64 0] 54 (0, 0))
  out : wr.heap[w.heap.size + 1]? = some (.cells (arr3 ns) 54 (0, 0))
  len : ns.length = i
  fit : ∃ P : List (List UInt8), P.length = i ∧ (∀ j, j < i → okL (P.getD j []) ∧ ns.getD j 0 = (pnum (P.getD j [])).1) ∧ dotsL s.data.toList = P ++ (if i < 3 then dotsL (s.data.toList.drop at_) else [])
theorem QIn.next {w wr w1 : World} {s : ByteArray} {i a : Nat} {ns : List Int} (h : QIn w wr s i a ns) (hb : Below wr.heap.size wr w1) : QIn w w1 s i a ns :=
  ⟨below_step h.below hb, blk_below h.res hb, blk_below h.out hb, h.len, h.fit⟩
/-- A piece is good: the next round. -/
theorem QIn.put {w wr : World} {s : ByteArray} {i a e : Nat} {ns : List Int} (h : QIn w wr s i a ns) (hi : i < 3) (n : Int) (p : List UInt8) (hok : okL p ∧ n = (pnum p).1)
    (hs : dotsL (s.data.toList.drop a) = p :: (if i + 1 < 3 then dotsL (s.data.toList.drop e) else [])) : QIn w (wr.setCell ⟨w.heap.size + 1, i, none⟩ (.int .i64 n)) s (i + 1) e (ns ++ [n]) := by
  obtain ⟨P, p1, p2, p3⟩ := h.fit
  refine ⟨h.below.setCell (by simp) _, blk_far h.res (by simp) _, ?_, by simp [h.len], P ++ [p], by simp [p1], fun j hj => ?_, ?_⟩
  · rw [← arr3_set ns i n hi h.len]
    exact blk_set h.out i _
  · by_cases e1 : j = i
    · subst e1
      have e2 : (P ++ [p]).getD j [] = p := by rw [List.getD_eq_getElem?_getD, ← p1]; simp
      have e3 : (ns ++ [n]).getD j 0 = n := by rw [List.getD_eq_getElem?_getD, ← h.len]; simp
      rw [e2, e3]
      exact hok
    · have := p2 j (by omega)
      rw [List.getD_eq_getElem?_getD, List.getD_eq_getElem?_getD, List.getElem?_append_left (by omega), List.getElem?_append_left (by have := h.len; omega), ← List.getD_eq_getElem?_getD, ← List.getD_eq_getElem?_getD]
      exact this
  · rw [p3, if_pos hi, hs, List.append_assoc]
    rfl
theorem QIn.bad {w wr : World} {s : ByteArray} {i a : Nat} {ns : List Int} (h : QIn w wr s i a ns) (hi : i < 3) (p : List UInt8) (r : List (List UInt8)) (hs : dotsL (s.data.toList.drop a) = p :: r) (hp : ¬ okL p ∨ (r.length + i ≠ 2)) : parts3 (dots s) = none := by
  obtain ⟨P, p1, p2, p3⟩ := h.fit
  rw [parts3_dots, p3, if_pos hi, hs]
  rcases hp with hp | hp
  · exact parts3L_bad (j := i) (p := p) (by rw [← p1]; simp) hp
  · exact parts3L_len (by simp [p1]; omega)
theorem QIn.good {w wr : World} {s : ByteArray} {a : Nat} {x y z : Int} (h : QIn w wr s 3 a [x, y, z]) : parts3 (dots s) = some (x, y, z) := by
  obtain ⟨P, p1, p2, p3⟩ := h.fit
  obtain ⟨p, q, r, rfl⟩ := three_of p1
  rw [parts3_dots, p3, if_neg (by omega)]
  have f0 : okL p ∧ x = (pnum p).1 := p2 0 (by omega)
  have f1 : okL q ∧ y = (pnum q).1 := p2 1 (by omega)
  have f2 : okL r ∧ z = (pnum r).1 := p2 2 (by omega)
  show (if okL p ∧ okL q ∧ okL r then some ((pnum p).1, (pnum q).1, (pnum r).1) else none) = _
  rw [if_pos ⟨f0.1, f1.1, f2.1⟩, f0.2, f1.2, f2.2]
theorem piece_list (s : ByteArray) (a e : Nat) (h1 : a ≤ e) (h2 : e ≤ s.size) : (s.extract a e).data.toList = (s.data.toList.drop a).take (e - a) := by
  simp
set_option maxHeartbeats 16000000 in
set_option maxRecDepth 1000000 in
theorem ref_parts_any (s : ByteArray) (w : World) (hs : s.size ≤ 9223372036854775800) :
    Calls Tryz.prog 32 #[.string s] w fun e w' => e = .returned (partsV (parts3 (dots s))) ∧ Below w.heap.size w w' := by
  go_enter Tryz.func32, Tryz.ntmps32
  go_wp2_with fail
  go_loopw [5, 6] (fun v5 v6 wr => ∃ (i a : Nat) (ns : List Int), v6 = .int .i64 (i : Int) ∧ v5 = .int .i64 (a : Int) ∧ i ≤ 3 ∧ (i < 3 → a ≤ s.size) ∧ Aside0 (QIn w wr s i a ns)) (fun _ v6 _ => 3 - (intOf v6).toNat)
  case atStart =>
    refine ⟨0, 0, [], rfl, rfl, by omega, fun _ => by omega, ⟨below_alloc (below_alloc (Below.refl _ _) _) _, ?_, ?_, rfl, [], rfl, fun j hj => absurd hj (by omega), by simp⟩⟩
    · exact blk_alloc (blk_new _ _) _
    · rw [show arr3 [] = #[.int .i64 0, .int .i64 0, .int .i64 0] from rfl]
      simpa using blk_new (w.alloc (.cells #[.int .i64 0, .int .i64 0, .int .i64 0] 54)) (.cells #[.int .i64 0, .int .i64 0, .int .i64 0] 54)
  case round =>
    obtain ⟨i, a, ns, rfl, rfl, hi, ha, HI⟩ := hrel
    by_cases hlt : i < 3
    · have hal := ha hlt
      clear ha
      go_wp2_with fail
      go_loop [5] (fun v => ∃ e : Nat, v = .int .i64 (e : Int) ∧ a ≤ e ∧ e ≤ s.size ∧ Aside0 (∀ (j : Nat) (h : j < s.size), a ≤ j → j < e → (s[j]'h) ≠ 46)) (fun v => s.size - (intOf v).toNat)
      case atStart => exact ⟨a, rfl, by omega, hal, ⟨fun j _ h1 h2 => absurd h2 (by omega)⟩⟩
      case round =>
        obtain ⟨e, rfl, hae, hes, HD⟩ := hrel
        by_cases hle : e < s.size
        · by_cases hdot : ((s[e]'hle).toNat : Int) = 46
          · have hdb : (((s[e]'hle).toNat : Int) != 46) = false := by simpa using hdot
            have HDOT := Aside0.mk hdot
            clear hdot
            have HS := Aside0.mk (show dotsL (s.data.toList.drop a) = (s.extract a e).data.toList :: dotsL (s.data.toList.drop (e + 1)) by
              have h1 := dotsL_hit (s.data.toList.drop a) (e - a) (fun j hj hx => by
                rw [List.getElem?_drop] at hx
                obtain ⟨h5, h6⟩ := List.getElem?_eq_some_iff.1 hx
                rw [data_length] at h5
                exact HD.out (a + j) h5 (by omega) (by omega) h6) (by
                rw [List.getElem?_drop, show a + (e - a) = e by omega, List.getElem?_eq_getElem (by rw [data_length]; exact hle)]
                exact congrArg some (UInt8.toNat_inj.1 (show (s[e]'hle).toNat = 46 by have := HDOT.out; omega)))
              rw [h1, List.drop_drop, show a + (e - a + 1) = e + 1 by omega, piece_list s a e hae hes])
            clear HD
            go_wp2_with fail
            refine (ref_ParseNumber_any _ _ (by rw [ByteArray.size_extract]; omega)).mono ?_
            rintro e' w1 ⟨rfl, hd⟩
            have HI1 := Aside0.mk (HI.out.next hd.below)
            clear hd HI
            obtain ⟨⟨n, er⟩, hn⟩ : ∃ p, p = pnum (s.extract a e).data.toList := ⟨_, rfl⟩
            rw [← hn]
            have HN := Aside0.mk hn
            clear hn
            have z0 : w1.cell? ⟨w.heap.size, 0, none⟩ = some (.int .i64 0) := blk_cell HI1.out.res 0
            have z1 : w1.cell? ⟨w.heap.size, 1, none⟩ = some (.int .i64 0) := blk_cell HI1.out.res 1
            have z2 : w1.cell? ⟨w.heap.size, 2, none⟩ = some (.int .i64 0) := blk_cell HI1.out.res 2
            have f0 := blk_frozen HI1.out.res 0
            have f1 := blk_frozen HI1.out.res 1
            have f2 := blk_frozen HI1.out.res 2
            by_cases hok : er = 0 ∧ 0 ≤ n ∧ n ≤ 999999
            · have HOK := Aside0.mk (show okL (s.extract a e).data.toList ∧ n = (pnum (s.extract a e).data.toList).1 from ⟨by unfold okL; rw [← HN.out]; exact hok, by rw [← HN.out]⟩)
              obtain ⟨rfl, h2, h3⟩ := hok
              by_cases hi2 : i < 2
              · have hi2b : decide ((i : Int) < 2) = true := decide_eq_true (by omega)
                have hcell : w1.cell? ⟨w.heap.size + 1, i, none⟩ = some (.int .i64 (([ns.getD 0 0, ns.getD 1 0, ns.getD 2 0] : List Int).getD i 0)) := by
                  rw [blk_cell HI1.out.out i]
                  rcases (show i = 0 ∨ i = 1 ∨ i = 2 by omega) with rfl | rfl | rfl <;> rfl
                have hfro := blk_frozen HI1.out.out i
                go_wp2_with fail
                go_roundw
                case rel => exact ⟨i + 1, e + 1, ns ++ [n], by go_num, by go_num, by omega, fun _ => by omega, ⟨HI1.out.put hlt n _ HOK.out (by rw [HS.out, if_pos (by omega)])⟩⟩
                case measure => simp [intOf]; omega
              · have hi2b : decide ((i : Int) < 2) = false := decide_eq_false (by omega)
                have HB := Aside0.mk (show parts3 (dots s) = none from HI1.out.bad hlt _ _ HS.out (.inr (by have := dotsL_ne (s.data.toList.drop (e + 1)); omega)))
                go_wp2_with fail
                refine bodyPost_ret (results_ct rfl _ _ w.heap.size 54 #[.int .i64 0, .int .i64 0, .int .i64 0] (0, 0) _ rfl (blk_set (blk_set (blk_set HI1.out.res 0 _) 1 _) 2 _) Tryz.underlying54 rfl (by kernel_rfl)) rfl ?_
                exact ⟨by rw [HB.out]; rfl, ((HI1.out.below.setCell (by simp) _).setCell (by simp) _).setCell (by simp) _⟩
            · have HB := Aside0.mk (show parts3 (dots s) = none from HI1.out.bad hlt _ _ HS.out (.inl (by unfold okL; rw [← HN.out]; exact hok)))
              by_cases he : er = 0
              · subst he
                by_cases h2 : n < 0
                · clear hok
                  go_wp2_with fail
                  refine bodyPost_ret (results_ct rfl _ _ w.heap.size 54 #[.int .i64 0, .int .i64 0, .int .i64 0] (0, 0) _ rfl (blk_set (blk_set (blk_set HI1.out.res 0 _) 1 _) 2 _) Tryz.underlying54 rfl (by kernel_rfl)) rfl ?_
                  exact ⟨by rw [HB.out]; rfl, ((HI1.out.below.setCell (by simp) _).setCell (by simp) _).setCell (by simp) _⟩
                · have h3 : 999999 < n := by omega
                  clear hok
                  go_wp2_with fail
                  refine bodyPost_ret (results_ct rfl _ _ w.heap.size 54 #[.int .i64 0, .int .i64 0, .int .i64 0] (0, 0) _ rfl (blk_set (blk_set (blk_set HI1.out.res 0 _) 1 _) 2 _) Tryz.underlying54 rfl (by kernel_rfl)) rfl ?_
                  exact ⟨by rw [HB.out]; rfl, ((HI1.out.below.setCell (by simp) _).setCell (by simp) _).setCell (by simp) _⟩
              · have he' : (er != 0) = true := by simpa using he
                clear he hok
                go_wp2_with fail
                refine bodyPost_ret (results_ct rfl _ _ w.heap.size 54 #[.int .i64 0, .int .i64 0, .int .i64 0] (0, 0) _ rfl (blk_set (blk_set (blk_set HI1.out.res 0 _) 1 _) 2 _) Tryz.underlying54 rfl (by kernel_rfl)) rfl ?_
                exact ⟨by rw [HB.out]; rfl, ((HI1.out.below.setCell (by simp) _).setCell (by simp) _).setCell (by simp) _⟩
          · have hdb : (((s[e]'hle).toNat : Int) != 46) = true := by simpa using hdot
            have HD2 : Aside0 (∀ (j : Nat) (h : j < s.size), a ≤ j → j < e + 1 → (s[j]'h) ≠ 46) := ⟨fun j h h1 h2 => by
              by_cases ej : j = e
              · subst ej
                intro hx
                exact hdot (by rw [hx]; rfl)
              · exact HD.out j h h1 (by omega)⟩
            clear hdot HD
            go_wp2_with fail
            go_round
            case rel => exact ⟨e + 1, by go_num, by omega, by omega, HD2⟩
            case measure => simp [intOf]; omega
        · obtain rfl : e = s.size := by omega
          have HS := Aside0.mk (show dotsL (s.data.toList.drop a) = (s.extract a s.size).data.toList :: [] by
            have h1 := dotsL_miss (s.data.toList.drop a) (fun j hj hx => by
              rw [List.getElem?_drop] at hx
              obtain ⟨h5, h6⟩ := List.getElem?_eq_some_iff.1 hx
              rw [data_length] at h5
              exact HD.out (a + j) h5 (by omega) (by omega) h6)
            rw [h1, piece_list s a s.size hae (Nat.le_refl _), List.take_of_length_le (by rw [List.length_drop, data_length]; exact Nat.le_refl _)])
          clear HD
          go_wp2_with fail
          refine (ref_ParseNumber_any _ _ (by rw [ByteArray.size_extract]; omega)).mono ?_
          rintro e' w1 ⟨rfl, hd⟩
          have HI1 := Aside0.mk (HI.out.next hd.below)
          clear hd HI
          obtain ⟨⟨n, er⟩, hn⟩ : ∃ p, p = pnum (s.extract a s.size).data.toList := ⟨_, rfl⟩
          rw [← hn]
          have HN := Aside0.mk hn
          clear hn
          have z0 : w1.cell? ⟨w.heap.size, 0, none⟩ = some (.int .i64 0) := blk_cell HI1.out.res 0
          have z1 : w1.cell? ⟨w.heap.size, 1, none⟩ = some (.int .i64 0) := blk_cell HI1.out.res 1
          have z2 : w1.cell? ⟨w.heap.size, 2, none⟩ = some (.int .i64 0) := blk_cell HI1.out.res 2
          have f0 := blk_frozen HI1.out.res 0
          have f1 := blk_frozen HI1.out.res 1
          have f2 := blk_frozen HI1.out.res 2
          by_cases hok : er = 0 ∧ 0 ≤ n ∧ n ≤ 999999
          · have HOK := Aside0.mk (show okL (s.extract a s.size).data.toList ∧ n = (pnum (s.extract a s.size).data.toList).1 from ⟨by unfold okL; rw [← HN.out]; exact hok, by rw [← HN.out]⟩)
            obtain ⟨rfl, h2, h3⟩ := hok
            by_cases hi2 : i < 2
            · have hi2b : decide ((i : Int) < 2) = true := decide_eq_true (by omega)
              have HB := Aside0.mk (show parts3 (dots s) = none from HI1.out.bad hlt _ _ HS.out (.inr (by simp; omega)))
              go_wp2_with fail
              refine bodyPost_ret (results_ct rfl _ _ w.heap.size 54 #[.int .i64 0, .int .i64 0, .int .i64 0] (0, 0) _ rfl (blk_set (blk_set (blk_set HI1.out.res 0 _) 1 _) 2 _) Tryz.underlying54 rfl (by kernel_rfl)) rfl ?_
              exact ⟨by rw [HB.out]; rfl, ((HI1.out.below.setCell (by simp) _).setCell (by simp) _).setCell (by simp) _⟩
            · have hi2b : decide ((i : Int) < 2) = false := decide_eq_false (by omega)
              have hcell : w1.cell? ⟨w.heap.size + 1, i, none⟩ = some (.int .i64 (([ns.getD 0 0, ns.getD 1 0, ns.getD 2 0] : List Int).getD i 0)) := by
                rw [blk_cell HI1.out.out i]
                rcases (show i = 0 ∨ i = 1 ∨ i = 2 by omega) with rfl | rfl | rfl <;> rfl
              have hfro := blk_frozen HI1.out.out i
              go_wp2_with fail
              go_roundw
              case rel => exact ⟨i + 1, s.size + 1, ns ++ [n], by go_num, by go_num, by omega, fun _ => by omega, ⟨HI1.out.put hlt n _ HOK.out (by rw [HS.out, if_neg (by omega)])⟩⟩
              case measure => simp [intOf]; omega
          · have HB := Aside0.mk (show parts3 (dots s) = none from HI1.out.bad hlt _ _ HS.out (.inl (by unfold okL; rw [← HN.out]; exact hok)))
            by_cases he : er = 0
            · subst he
              by_cases h2 : n < 0
              · clear hok
                go_wp2_with fail
                refine bodyPost_ret (results_ct rfl _ _ w.heap.size 54 #[.int .i64 0, .int .i64 0, .int .i64 0] (0, 0) _ rfl (blk_set (blk_set (blk_set HI1.out.res 0 _) 1 _) 2 _) Tryz.underlying54 rfl (by kernel_rfl)) rfl ?_
                exact ⟨by rw [HB.out]; rfl, ((HI1.out.below.setCell (by simp) _).setCell (by simp) _).setCell (by simp) _⟩
              · have h3 : 999999 < n := by omega
                clear hok
                go_wp2_with fail
                refine bodyPost_ret (results_ct rfl _ _ w.heap.size 54 #[.int .i64 0, .int .i64 0, .int .i64 0] (0, 0) _ rfl (blk_set (blk_set (blk_set HI1.out.res 0 _) 1 _) 2 _) Tryz.underlying54 rfl (by kernel_rfl)) rfl ?_
                exact ⟨by rw [HB.out]; rfl, ((HI1.out.below.setCell (by simp) _).setCell (by simp) _).setCell (by simp) _⟩
            · have he' : (er != 0) = true := by simpa using he
              clear he hok
              go_wp2_with fail
              refine bodyPost_ret (results_ct rfl _ _ w.heap.size 54 #[.int .i64 0, .int .i64 0, .int .i64 0] (0, 0) _ rfl (blk_set (blk_set (blk_set HI1.out.res 0 _) 1 _) 2 _) Tryz.underlying54 rfl (by kernel_rfl)) rfl ?_
              exact ⟨by rw [HB.out]; rfl, ((HI1.out.below.setCell (by simp) _).setCell (by simp) _).setCell (by simp) _⟩
    · obtain rfl : i = 3 := by omega
      obtain ⟨x, y, z, rfl⟩ := three_of HI.out.len
      have HG := Aside0.mk HI.out.good
      have z0 : wr.cell? ⟨w.heap.size, 0, none⟩ = some (.int .i64 0) := blk_cell HI.out.res 0
      have z1 : wr.cell? ⟨w.heap.size, 1, none⟩ = some (.int .i64 0) := blk_cell HI.out.res 1
      have z2 : wr.cell? ⟨w.heap.size, 2, none⟩ = some (.int .i64 0) := blk_cell HI.out.res 2
      have f0 := blk_frozen HI.out.res 0
      have f1 := blk_frozen HI.out.res 1
      have f2 := blk_frozen HI.out.res 2
      have o0 : wr.cell? ⟨w.heap.size + 1, 0, none⟩ = some (.int .i64 x) := blk_cell HI.out.out 0
      have o1 : wr.cell? ⟨w.heap.size + 1, 1, none⟩ = some (.int .i64 y) := blk_cell HI.out.out 1
      have o2 : wr.cell? ⟨w.heap.size + 1, 2, none⟩ = some (.int .i64 z) := blk_cell HI.out.out 2
      clear ha
      go_wp2_with fail
      refine bodyPost_ret (results_ct rfl _ _ w.heap.size 54 #[.int .i64 x, .int .i64 y, .int .i64 z] (0, 0) _ rfl (blk_set (blk_set (blk_set HI.out.res 0 _) 1 _) 2 _) Tryz.underlying54 rfl (by kernel_rfl)) rfl ?_
      exact ⟨by rw [HG.out]; rfl, ((HI.out.below.setCell (by simp) _).setCell (by simp) _).setCell (by simp) _⟩
end Go.Proofs.YtannjakcnnefhaaGreatDoor
