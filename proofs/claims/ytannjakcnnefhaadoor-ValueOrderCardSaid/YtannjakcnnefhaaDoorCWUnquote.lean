import Derived.Test.YtannjakcnnefhaaDoorCWQuote
import Derived.WalkMore
import Derived.Laws.Strings3
set_option linter.unusedVariables false
set_option linter.unusedSimpArgs false
set_option linter.unusedVariables false
namespace Go.Proofs.YtannjakcnnefhaaDoor
open Go Go.RowKit Go.Proofs.YtannjakcnnefhaaDoorW.PrintWords Go.Proofs.YtannjakcnnefhaaDoorW.PrintLast Go.Proofs.YtannjakcnnefhaaDoorW.PrintMore
/-- A text begins and ends with quotation marks. -/
def marks (s : ByteArray) : Prop := ∃ h : 2 ≤ s.size, (s[0]'(by omega)).toNat = 34 ∧ (s[s.size - 1]'(by omega)).toNat = 34
instance (s : ByteArray) : Decidable (marks s) := by unfold marks; infer_instance
/-- What stands inside of the marks. -/
def inside (s : ByteArray) : ByteArray := s.extract 1 (s.size - 1)
/-- The text of a quotation, or the error. -/
def unquoteR (s : ByteArray) : ByteArray × Int :=
  if marks s then (match unqA [] false (inside s).data.toList with | some l => if validB (ba l) then (ba l, 0) else (ba [], 2) | none => (ba [], 1)) else (ba [], 1)
theorem drop_at (s : ByteArray) (k : Nat) (h : k < s.size) : s.data.toList.drop k = s[k] :: s.data.toList.drop (k + 1) := List.drop_eq_getElem_cons (by rw [data_length]; exact h)
theorem builder_later {T e : TypeId} {B b : Nat} {bs : List Value} {W W' : World} (h : Lib.IsBuilderF T e B b bs W) (hb : Below W.heap.size W W') : Lib.IsBuilderF T e B b bs W' := by
  rcases h with h | h
  · have hlt := h.lt
    obtain ⟨h1, v, h2, h3, h4⟩ := h
    exact .inl ⟨h1, v, (hb.block b hlt).trans h2, h3.kept (row := none) (grown_of_below hb none) (Classical.em _), h4⟩
  · have hlt := h.lt
    obtain ⟨h1, v, h2, h3, h4⟩ := h
    exact .inr ⟨h1, v, (hb.block b hlt).trans h2, h3.kept (row := none) (grown_of_below hb none) (Classical.em _), h4⟩
set_option maxHeartbeats 16000000 in
set_option maxRecDepth 1000000 in
theorem text_Unquote_any (s : ByteArray) (w : World) (hs : s.size ≤ 140737488355328) (hT : Lib.Utf8Tabs 4 5 w) :
    Calls Tryd.prog 49 #[.string s] w fun e w' => e = .returned (.tuple #[.string (unquoteR s).1, .int .i64 (unquoteR s).2]) ∧ Below w.heap.size w w' := by
  have HT := Aside0.mk hT
  clear hT
  by_cases h2 : 2 ≤ s.size
  · have hm : marks s ↔ ((s[0]'(by omega)).toNat = 34 ∧ (s[s.size - 1]'(by omega)).toNat = 34) := ⟨fun ⟨_, h⟩ => h, fun h => ⟨h2, h⟩⟩
    by_cases h0 : ((s[0]'(by omega)).toNat : Int) = 34
    · by_cases h1 : ((s[s.size - 1]'(by omega)).toNat : Int) = 34
      · have HM := Aside0.mk (show marks s from hm.2 ⟨by omega, by omega⟩)
        have I0 := Lib.IsBuilderF.of (Lib.fresh_isBuilder 74 5 w)
        have HI0 := Aside0.mk I0
        have e3 : (1 : Int) ≤ (s.size : Int) - 1 := by omega
        have e4 : (s.size : Int) - 1 ≤ (s.size : Int) := by omega
        have b2 : decide ((s.size : Int) < 2) = false := decide_eq_false (by omega)
        have b3 : (((s[s.size - 1]'(by omega)).toNat : Int) != 34) = false := by simpa using h1
        have HS := Aside0.mk hs
        clear hm I0
        go_enter Tryd.func49, Tryd.ntmps49
        go_wp2_with fail
        go_step3
        go_wp2_with fail
        go_step3
        obtain ⟨T, hT⟩ : ∃ T, T = s.extract 1 (s.size - 1) := ⟨_, rfl⟩
        rw [← hT]
        have hTs : T.size ≤ 140737488355326 := by
          rw [hT, ByteArray.size_extract]
          omega
        have HTE := Aside0.mk hT
        clear hT h0 h1 e3 e4 b2 b3 hs h2
        go_wp2_with fail
        go_loopw [6, 7] (fun v6 v7 wr => ∃ (k : Nat) (b : Bool) (acc : List UInt8), v6 = .bool b ∧ v7 = .int .i64 (k : Int) ∧ k ≤ T.size ∧ Aside0 (Lib.IsBuilderF 74 5 w.heap.size w.heap.size (Lib.byteCells acc) wr ∧ Below w.heap.size w wr ∧ w.heap.size < wr.heap.size ∧ acc.length ≤ k ∧ unqA [] false T.data.toList = unqA acc b (T.data.toList.drop k))) (fun _ v7 _ => T.size - (intOf v7).toNat)
        case atStart => exact ⟨0, false, [], rfl, rfl, by omega, ⟨HI0.out, (Below.refl w.heap.size w).alloc (Nat.le_refl _) _, by simp, by simp, by simp⟩⟩
        case round =>
          obtain ⟨k, b, acc, rfl, rfl, hk, HJ⟩ := hrel
          by_cases hlt : k < T.size
          · have HS := Aside0.mk (drop_at T k hlt)
            by_cases q34 : (T[k].toNat : Int) = 34
            · have HC := Aside0.mk (show T[k] = 34 from UInt8.toNat_inj.1 (show T[k].toNat = 34 by omega))
              cases b with
              | true =>
                have HN := Aside0.mk (show unqA [] false T.data.toList = unqA (acc ++ [T[k]]) false (T.data.toList.drop (k + 1)) by
                  rw [HJ.out.2.2.2.2, HS.out, unqA, if_pos rfl, if_pos (.inl HC.out)])
                go_wp2_with fail
                refine (Tryd.WriteByte_k w.heap.size w.heap.size _ _ _ HJ.out.1 (by rw [Lib.byteCells_length]; have := HJ.out.2.2.2.1; omega) (Nat.le_of_lt HJ.out.2.2.1)).mono ?_
                rintro e w3 ⟨rfl, i3, b3, -⟩
                have HI3 := Aside0.mk (show Lib.BuilderAtF 74 5 w.heap.size w.heap.size (.pointer (some ⟨w.heap.size, 0, none⟩)) (Lib.byteCells (acc ++ [T[k]])) w3 by
                  rw [Lib.byteCells_append]
                  have e2 : Lib.byteCells [T[k]] = [Value.int .u8 34] := by rw [HC.out]; rfl
                  rw [e2]
                  exact i3)
                have HB3 := Aside0.mk b3
                have HZ := Aside0.mk (show w.heap.size < w3.heap.size from (Array.getElem?_eq_some_iff.1 i3.2.choose_spec.1).1)
                clear i3 b3
                go_wp2_with fail
                go_roundw
                case rel => exact ⟨k + 1, false, acc ++ [T[k]], rfl, by go_num, by omega, ⟨.inr HI3.out, HJ.out.2.1.trans HB3.out, HZ.out, by have := HJ.out.2.2.2.1; simp; omega, HN.out⟩⟩
                case measure => simp [intOf]; omega
              | false =>
                have HN := Aside0.mk (show unqA [] false T.data.toList = none by
                  rw [HJ.out.2.2.2.2, HS.out, unqA, if_neg (by decide), if_pos HC.out])
                go_wp2_with fail
                rw [Exit.noGoto_ret]
                go_ret2
                exact ⟨by unfold unquoteR inside; rw [if_pos HM.out, ← HTE.out, HN.out]; rfl, HJ.out.2.1⟩
            · have HC1 := Aside0.mk (show T[k] ≠ 34 from fun h => q34 (by rw [h]; rfl))
              have b34 : ((T[k].toNat : Int) == 34) = false := by simpa using q34
              by_cases q92 : (T[k].toNat : Int) = 92
              · have HC := Aside0.mk (show T[k] = 92 from UInt8.toNat_inj.1 (show T[k].toNat = 92 by omega))
                clear q34
                cases b with
                | true =>
                  have HN := Aside0.mk (show unqA [] false T.data.toList = unqA (acc ++ [T[k]]) false (T.data.toList.drop (k + 1)) by
                    rw [HJ.out.2.2.2.2, HS.out, unqA, if_pos rfl, if_pos (.inr HC.out)])
                  go_wp2_with fail
                  refine (Tryd.WriteByte_k w.heap.size w.heap.size _ _ _ HJ.out.1 (by rw [Lib.byteCells_length]; have := HJ.out.2.2.2.1; omega) (Nat.le_of_lt HJ.out.2.2.1)).mono ?_
                  rintro e w3 ⟨rfl, i3, b3, -⟩
                  have HI3 := Aside0.mk (show Lib.BuilderAtF 74 5 w.heap.size w.heap.size (.pointer (some ⟨w.heap.size, 0, none⟩)) (Lib.byteCells (acc ++ [T[k]])) w3 by
                    rw [Lib.byteCells_append]
                    have e2 : Lib.byteCells [T[k]] = [Value.int .u8 92] := by rw [HC.out]; rfl
                    rw [e2]
                    exact i3)
                  have HB3 := Aside0.mk b3
                  have HZ := Aside0.mk (show w.heap.size < w3.heap.size from (Array.getElem?_eq_some_iff.1 i3.2.choose_spec.1).1)
                  clear i3 b3
                  go_wp2_with fail
                  go_roundw
                  case rel => exact ⟨k + 1, false, acc ++ [T[k]], rfl, by go_num, by omega, ⟨.inr HI3.out, HJ.out.2.1.trans HB3.out, HZ.out, by have := HJ.out.2.2.2.1; simp; omega, HN.out⟩⟩
                  case measure => simp [intOf]; omega
                | false =>
                  have HN := Aside0.mk (show unqA [] false T.data.toList = unqA acc true (T.data.toList.drop (k + 1)) by
                    rw [HJ.out.2.2.2.2, HS.out, unqA, if_neg (by decide), if_neg HC1.out, if_pos HC.out])
                  go_wp2_with fail
                  go_roundw
                  case rel => exact ⟨k + 1, true, acc, rfl, by go_num, by omega, ⟨HJ.out.1, HJ.out.2.1, HJ.out.2.2.1, by have := HJ.out.2.2.2.1; omega, HN.out⟩⟩
                  case measure => simp [intOf]; omega
              · have HC2 := Aside0.mk (show T[k] ≠ 92 from fun h => q92 (by rw [h]; rfl))
                have b92 : ((T[k].toNat : Int) == 92) = false := by simpa using q92
                clear q34 q92
                cases b with
                | true =>
                  have HN := Aside0.mk (show unqA [] false T.data.toList = none by
                    rw [HJ.out.2.2.2.2, HS.out, unqA, if_pos rfl, if_neg (fun h => h.elim HC1.out HC2.out)])
                  go_wp2_with fail
                  rw [Exit.noGoto_ret]
                  go_ret2
                  exact ⟨by unfold unquoteR inside; rw [if_pos HM.out, ← HTE.out, HN.out]; rfl, HJ.out.2.1⟩
                | false =>
                  have HN := Aside0.mk (show unqA [] false T.data.toList = unqA (acc ++ [T[k]]) false (T.data.toList.drop (k + 1)) by
                    rw [HJ.out.2.2.2.2, HS.out, unqA, if_neg (by decide), if_neg HC1.out, if_neg HC2.out])
                  go_wp2_with fail
                  refine (Tryd.WriteByte_k w.heap.size w.heap.size _ _ _ HJ.out.1 (by rw [Lib.byteCells_length]; have := HJ.out.2.2.2.1; omega) (Nat.le_of_lt HJ.out.2.2.1)).mono ?_
                  rintro e w3 ⟨rfl, i3, b3, -⟩
                  have HI3 := Aside0.mk (show Lib.BuilderAtF 74 5 w.heap.size w.heap.size (.pointer (some ⟨w.heap.size, 0, none⟩)) (Lib.byteCells (acc ++ [T[k]])) w3 by
                    rw [Lib.byteCells_append]
                    have e2 : Lib.byteCells [T[k]] = [Value.int .u8 T[k].toNat] := rfl
                    rw [e2]
                    exact i3)
                  have HB3 := Aside0.mk b3
                  have HZ := Aside0.mk (show w.heap.size < w3.heap.size from (Array.getElem?_eq_some_iff.1 i3.2.choose_spec.1).1)
                  clear i3 b3
                  go_wp2_with fail
                  go_roundw
                  case rel => exact ⟨k + 1, false, acc ++ [T[k]], rfl, by go_num, by omega, ⟨.inr HI3.out, HJ.out.2.1.trans HB3.out, HZ.out, by have := HJ.out.2.2.2.1; simp; omega, HN.out⟩⟩
                  case measure => simp [intOf]; omega
          · have HD := Aside0.mk (show T.data.toList.drop k = [] from List.drop_of_length_le (by rw [data_length]; omega))
            cases b with
            | true =>
              have HN := Aside0.mk (show unqA [] false T.data.toList = none by
                rw [HJ.out.2.2.2.2, HD.out, unqA, if_pos rfl])
              go_wp2_with fail
              rw [Exit.noGoto_ret]
              go_ret2
              exact ⟨by unfold unquoteR inside; rw [if_pos HM.out, ← HTE.out, HN.out]; rfl, HJ.out.2.1⟩
            | false =>
              have HN := Aside0.mk (show unqA [] false T.data.toList = some acc by
                rw [HJ.out.2.2.2.2, HD.out, unqA, if_neg (by decide)])
              go_wp2_with fail
              refine (Tryd.Builder_String_any_k w.heap.size w.heap.size acc _ HJ.out.1 (Nat.le_of_lt HJ.out.2.2.1)).mono ?_
              rintro e w3 ⟨rfl, i3, b3, -⟩
              have HI3 := Aside0.mk i3
              have HB3 := Aside0.mk (HJ.out.2.1.trans b3)
              clear i3 b3
              go_wp2_with fail
              refine (text_Valid_any _ _ (by have := HJ.out.2.2.2.1; rw [show ((⟨acc.toArray⟩ : ByteArray)).size = acc.length by simp [ByteArray.size]]; omega) (utf8_below HT.out HB3.out)).mono ?_
              rintro e w4 ⟨rfl, hb4'⟩
              have HB4 := Aside0.mk (below_step HB3.out hb4')
              have HJ4 := Aside0.mk (builder_later HI3.out hb4')
              clear hb4'
              cases hv : validB (⟨acc.toArray⟩ : ByteArray) with
              | false =>
                have HV := Aside0.mk (show validB (ba acc) = false from hv)
                clear hv
                go_wp2_with fail
                rw [Exit.noGoto_ret]
                go_ret2
                exact ⟨by unfold unquoteR inside; rw [if_pos HM.out, ← HTE.out, HN.out]; show _ = Ending.returned (.tuple #[.string (if validB (ba acc) = true then (ba acc, 0) else (ba [], 2)).1, .int .i64 (if validB (ba acc) = true then (ba acc, (0 : Int)) else (ba [], 2)).2]); rw [HV.out]; rfl, HB4.out⟩
              | true =>
                have HV := Aside0.mk (show validB (ba acc) = true from hv)
                clear hv
                go_wp2_with fail
                refine (Tryd.Builder_String_any_k w.heap.size w.heap.size acc _ HJ4.out HB4.out.size).mono ?_
                rintro e w5 ⟨rfl, -, b5, -⟩
                have HB5 := Aside0.mk (HB4.out.trans b5)
                clear b5
                go_wp2_with fail
                rw [Exit.noGoto_ret]
                go_ret2
                exact ⟨by unfold unquoteR inside; rw [if_pos HM.out, ← HTE.out, HN.out]; show _ = Ending.returned (.tuple #[.string (if validB (ba acc) = true then (ba acc, 0) else (ba [], 2)).1, .int .i64 (if validB (ba acc) = true then (ba acc, (0 : Int)) else (ba [], 2)).2]); rw [HV.out]; rfl, HB5.out⟩
      · have HM := Aside0.mk (show ¬ marks s from fun h => h1 (by have := (hm.1 h).2; omega))
        have b2 : ¬ (s.size : Int) < 2 := by omega
        have b3 : (((s[s.size - 1]'(by omega)).toNat : Int) != 34) = true := by simpa using h1
        clear hm h1
        go_enter Tryd.func49, Tryd.ntmps49
        go_wp2_with fail
        go_step3
        go_wp2_with fail

        all_goals (rw [Exit.noGoto_ret]; go_ret2)
        all_goals exact ⟨by unfold unquoteR; rw [if_neg HM.out]; rfl, Below.refl _ _⟩
    · have HM := Aside0.mk (show ¬ marks s from fun h => h0 (by have := (hm.1 h).1; omega))
      clear hm
      go_enter Tryd.func49, Tryd.ntmps49
      go_wp2_with fail
      go_step3
      go_wp2_with fail
      rw [Exit.noGoto_ret]
      go_ret2
      exact ⟨by unfold unquoteR; rw [if_neg HM.out]; rfl, Below.refl _ _⟩
  · have HM := Aside0.mk (show ¬ marks s from fun ⟨h, _⟩ => h2 h)
    have h2' : (s.size : Int) < 2 := by omega
    go_enter Tryd.func49, Tryd.ntmps49
    go_wp2_with fail
    go_step3
    go_wp2_with fail
    rw [Exit.noGoto_ret]
    go_ret2
    exact ⟨by unfold unquoteR; rw [if_neg HM.out]; rfl, Below.refl _ _⟩
end Go.Proofs.YtannjakcnnefhaaDoor
