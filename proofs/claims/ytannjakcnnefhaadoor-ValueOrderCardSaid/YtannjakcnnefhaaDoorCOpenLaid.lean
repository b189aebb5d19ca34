import Derived.Lib.LaidTab
import Derived.SliceStrings
import Derived.ProofKit
import Derived.OpenShut
import Derived.LaidMore
import Derived.Test.YtannjakcnnefhaaDoorCLaidAt
set_option linter.unusedVariables false
set_option linter.unusedSimpArgs false
set_option linter.unusedVariables false
namespace Go.Proofs.YtannjakcnnefhaaDoor.Laid
open Go Go.Lib Go.ChangeShapes Go.WideShapes Go.RowKit Go.Proofs.YtannjakcnnefhaaDoorW.PrintWords
section
variable {H : Type} {enc : TypeId × Value → H} {P : Program} {w : World} {base : Nat} {sp : Nat → Bool} {held : Bool}
theorem at_of_take {cs : List Value} {i : Nat} {v : Value} (h : (cs.drop i).take 1 = [v]) : cs[i]? = some v := by
  have := congrArg (·[0]?) h
  simpa [List.getElem?_take, List.getElem?_drop] using this
/-- The elements of an array of one cell each. -/
theorem array_at {t e : TypeId} {n fuel : Nat} {cs : List Value} {ds : List (DataW H)} {p : List MemPlace} (ht : P.underlying t = some (.array n e)) (hce : P.cellsOf e = 1)
    (h : DataW.trod enc P w base sp held fuel t cs = some (.agg ds, p)) : ds.length = n ∧ ∀ i d, ds[i]? = some d → ∃ q f, DataW.trod enc P w base sp held f e ((cs.drop i).take 1) = some (d, q) := by
  cases fuel with
  | zero => simp [DataW.trod] at h
  | succ fuel =>
    simp only [DataW.trod, ht, hce, Nat.mul_one] at h
    split at h
    · rename_i hl
      obtain ⟨xs, hm, hx⟩ := Option.map_eq_some_iff.1 h
      have hxs : xs.map (·.1) = ds := by
        have := congrArg Prod.fst hx
        simpa using this
      have hxl : xs.length = n := by simpa using mapM_length hm
      refine ⟨by rw [← hxs]; simpa using hxl, fun i d hd => ?_⟩
      rw [← hxs, List.getElem?_map] at hd
      obtain ⟨y, hy, rfl⟩ := Option.map_eq_some_iff.1 hd
      have hi : i < n := by have := (List.getElem?_eq_some_iff.1 hy).1; omega
      obtain ⟨b, hb, hf⟩ := mapM_at hm i i (by simp [hi])
      rw [hb] at hy
      obtain rfl := Option.some.inj hy
      exact ⟨b.2, fuel, hf⟩
    · cases h
theorem strs_of_agg {t e : TypeId} {n fuel : Nat} {cs : List Value} {l : List ByteArray} {p : List MemPlace} (ht : P.underlying t = some (.array n e)) (he : P.underlying e = some .string) (hce : P.cellsOf e = 1)
    (h : DataW.trod enc P w base sp held fuel t cs = some (.agg (l.map fun s => .lit (.string s.data.toList)), p)) : ∀ i, i < l.length → cs[i]? = some (.string (l.getD i ⟨#[]⟩)) := by
  intro i hi
  obtain ⟨q, f, hf⟩ := (array_at ht hce h).2 i (.lit (.string (l[i]).data.toList)) (by simp [hi])
  obtain ⟨s, hs, hx, _⟩ := DataW.trod_string he hf
  have h2 : (l[i]).data.toList = s.data.toList := by
    have := congrArg Prod.fst hx
    simpa using this
  have h3 : l[i] = s := by
    apply ByteArray.ext
    exact Array.toList_inj.1 h2
  rw [at_of_take hs, ← h3]
  simp [hi]
theorem lists_of_agg {t e u : TypeId} {n fuel : Nat} {cs : List Value} {l : List (List ByteArray)} {p : List MemPlace} (ht : P.underlying t = some (.array n e)) (he : P.underlying e = some (.slice u)) (hu : P.underlying u = some .string) (hce : P.cellsOf e = 1) (hcu : P.cellsOf u = 1)
    (h : DataW.trod enc P w base sp held fuel t cs = some (.agg (l.map fun ss => .slice (ss.map fun s => .lit (.string s.data.toList)) []), p)) :
    ∀ i, i < l.length → ∃ A c, cs[i]? = some (.slice A (l.getD i []).length c) ∧ (l.getD i []).length ≤ c ∧ Kd.C Kd.string w A (l.getD i []).length (l.getD i []) := by
  intro i hi
  obtain ⟨q, f, hf⟩ := (array_at ht hce h).2 i (.slice ((l[i]).map fun s => .lit (.string s.data.toList)) []) (by simp [hi])
  have hg : l.getD i [] = l[i] := by simp [hi]
  rw [hg]
  rcases open_strings he hu hcu hf with ⟨_, hx⟩ | ⟨a, len, cap, ss, hcs, _, hl, hmx, hss, hx, hcell, _⟩
  · cases hx
  · have hx1 := congrArg Prod.fst hx
    simp only [DataW.slice.injEq] at hx1
    obtain ⟨e1, e2⟩ := hx1
    have hle : len ≤ ss.length := by rw [hss]; split <;> omega
    have hlen : (l[i]).length = len := by
      have := congrArg List.length e1
      simp [strs] at this
      omega
    refine ⟨some a, cap, by rw [at_of_take hcs, hlen], by omega, rfl, by unfold maxLen at hmx; omega, fun _ => ⟨a, rfl, fun j s hj => ?_⟩⟩
    have hjl : j < (l[i]).length := (List.getElem?_eq_some_iff.1 hj).1
    refine ⟨[.string s], rfl, rfl, fun k u hk => ?_⟩
    rcases k with _ | k
    · obtain rfl := Option.some.inj hk
      have h1 := hcell j (by omega)
      have h2 : ss.getD j ByteArray.empty = s := by
        have h3 : ((l[i]).map fun s => (DataW.lit (.string s.data.toList) : DataW H))[j]? = (strs (ss.take len) : List (DataW H))[j]? := by rw [e1]
        have h4 : j < ss.length := by omega
        simp only [strs, List.getElem?_map, hj, Option.map_some, List.getElem?_take, if_pos (show j < len by omega), List.getElem?_eq_getElem h4, Option.some.injEq, DataW.lit.injEq, Lit.string.injEq] at h3
        have h5 : s = ss[j] := by
          apply ByteArray.ext
          exact Array.toList_inj.1 h3
        simp [h4, h5]
      rw [h2] at h1
      show w.cell? (a.add (j * 1 + 0)) = _
      rw [Nat.mul_one, Nat.add_zero]
      exact h1
    · simp at hk
end
end Go.Proofs.YtannjakcnnefhaaDoor.Laid
