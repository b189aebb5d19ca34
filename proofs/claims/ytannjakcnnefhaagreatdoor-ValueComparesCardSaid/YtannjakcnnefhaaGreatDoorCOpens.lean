import Derived.Lib.SmallJoins
import Derived.SliceStrings
import Derived.OpenShut
import Derived.ProofKit
import Derived.DataElems
import Derived.Test.YtannjakcnnefhaaGreatDoorCW
set_option linter.unusedVariables false
set_option linter.unusedSimpArgs false
set_option linter.unusedVariables false
namespace Go.Proofs.YtannjakcnnefhaaGreatDoor.Laid
open Go Go.ChangeShapes Go.WideShapes Go.RowKit Go.Joins Go.Deep Go.Proofs.YtannjakcnnefhaaGreatDoorW.PrintWords
section
variable {H : Type} (enc : TypeId × Value → H) (P : Program) (w : World) (base : Nat) (sp : Nat → Bool) (held : Bool)
/-- What is read at a type is a value of a kind, and what is known of it. -/
def Opens (t : TypeId) {α : Type} (d : Kd α) (G : α → Prop) : Prop :=
  ∀ (fuel : Nat) (cs : List Value) (x : DataW H × List MemPlace), DataW.trod enc P w base sp held fuel t cs = some x → (∀ n ∈ x.1.weights P t, n ≤ reachBytes) → ∃ y, d.K w y cs ∧ G y
/-- The fields from a place on. -/
def OpensF (fs : List Field) (off : Nat) {α : Type} (d : Kd α) (G : α → Prop) : Prop :=
  ∀ (fuel : Nat) (cs : List Value) (xs : List (DataW H × List MemPlace)), cs.length = off + d.sz → xs.length = fs.length →
    (∀ (i : Nat) (f : Field), fs[i]? = some f → DataW.trod enc P w base sp held fuel f.type ((cs.drop f.offset).take (P.cellsOf f.type)) = xs[i]?) →
    (∀ n ∈ DataW.weightsEach P (fs.map (·.type)) (xs.map (·.1)), n ≤ reachBytes) → ∃ y, d.K w y (cs.drop off) ∧ G y
end
section
variable {H : Type} {enc : TypeId × Value → H} {P : Program} {w : World} {base : Nat} {sp : Nat → Bool} {held : Bool}
theorem opens_int {t : TypeId} {k : IntKind} (ht : P.underlying t = some (.int k)) : Opens enc P w base sp held t (Kd.int k) (fun n => (Lit.int k n).wf = true) := by
  intro fuel cs x h _
  obtain ⟨n, rfl, _, hw⟩ := DataW.trod_int ht h
  exact ⟨n, rfl, hw⟩
theorem opens_string {t : TypeId} (ht : P.underlying t = some .string) : Opens enc P w base sp held t Kd.string (fun s => s.size ≤ 140737488351232) := by
  intro fuel cs x h hz
  obtain ⟨s, rfl, rfl, hw⟩ := DataW.trod_string ht h
  refine ⟨s, rfl, ?_⟩
  have := hz s.data.toList.length (by simp [DataW.weights])
  rw [Array.length_toList] at this
  exact this
theorem weightsAll_mem {e : TypeId} : ∀ {l : List (DataW H)} {i : Nat} {d : DataW H}, l[i]? = some d → ∀ n ∈ d.weights P e, n ∈ DataW.weightsAll P e l
  | [], i, d, h, n, hn => by simp at h
  | x :: r, 0, d, h, n, hn => by
    obtain rfl : x = d := by simpa using h
    rw [DataW.weightsAll, List.mem_append]
    exact .inl hn
  | x :: r, i + 1, d, h, n, hn => by
    rw [DataW.weightsAll, List.mem_append]
    exact .inr (weightsAll_mem (by simpa using h) n hn)
theorem opens_slice {t e : TypeId} (e' : Nat) {α : Type} {d : Kd α} {G : α → Prop} (ht : P.underlying t = some (.slice e)) (hc : P.cellsOf e = d.sz) (E : Opens enc P w base sp held e d G) :
    Opens enc P w base sp held t (Kd.slice e' d) (fun l => l.length * P.bytesOf e ≤ 140737488351232 ∧ ∀ y ∈ l, G y) := by
  intro fuel cs x h hz
  rcases DataW.trod_slice ht h with ⟨rfl, rfl⟩ | ⟨a, len, cap, elems, rest, n, _, rfl, rfl, hb, hl, hm, hlen, hel, hsp, hns⟩
  · exact ⟨[], ⟨none, 0, rfl, Nat.le_refl _, Kd.C_nil _ _⟩, by simp, by simp⟩
  have hz2 : ∀ n ∈ (DataW.slice (elems.map (·.1)) (rest.map (·.1)) : DataW H).weights P t, n ≤ reachBytes := hz
  simp only [DataW.weights, ht, List.mem_cons, List.mem_append, List.length_map] at hz2
  have each : ∀ i : Fin len, ∃ z : α, (∃ cs', w.cells? base (a.add (i.val * P.cellsOf e)) (P.cellsOf e) = some cs' ∧ d.K w z cs') ∧ G z := by
    intro ⟨i, hi⟩
    have h1 := hel i hi
    obtain ⟨y, hy⟩ : ∃ y, elems[i]? = some y := ⟨elems[i], List.getElem?_eq_getElem (by omega)⟩
    rw [hy, Option.bind_eq_some_iff] at h1
    obtain ⟨cs', hcs, hy'⟩ := h1
    obtain ⟨z, hK, hG⟩ := E n cs' y hy' (fun m hm' => hz2 m (.inr (.inl (weightsAll_mem (i := i) (d := y.1) (by rw [List.getElem?_map, hy]; rfl) m hm'))))
    exact ⟨z, ⟨cs', hcs, hK⟩, hG⟩
  obtain ⟨f, hf⟩ : ∃ f : Fin len → α, ∀ i, (∃ cs', w.cells? base (a.add (i.val * P.cellsOf e)) (P.cellsOf e) = some cs' ∧ d.K w (f i) cs') ∧ G (f i) := ⟨fun i => Classical.choose (each i), fun i => Classical.choose_spec (each i)⟩
  have hll : (List.ofFn f).length = len := List.length_ofFn
  refine ⟨List.ofFn f, ⟨some a, cap, by rw [hll], by omega, rfl, by unfold maxLen at hm; omega, fun _ => ⟨a, rfl, fun j p hj => ?_⟩⟩, ?_, fun y hy => ?_⟩
  · have hjl : j < len := by have := (List.getElem?_eq_some_iff.1 hj).1; omega
    obtain ⟨⟨cs', hcs, hK⟩, -⟩ := hf ⟨j, hjl⟩
    obtain rfl : f ⟨j, hjl⟩ = p := by
      obtain ⟨_, hj⟩ := List.getElem?_eq_some_iff.1 hj
      rw [← hj]
      simp
    obtain ⟨_, hcl, hcell⟩ := World.cells?_some hcs
    refine ⟨cs', d.K_len hK, hK, fun i u hu => ?_⟩
    have hi : i < P.cellsOf e := by have := (List.getElem?_eq_some_iff.1 hu).1; omega
    have := hcell i hi
    rw [Addr.add_add, hu, hc] at this
    exact this
  · have := hz2 ((elems.length + rest.length) * P.bytesOf e) (.inl rfl)
    rw [hll, ← hlen]
    have h2 : elems.length * P.bytesOf e ≤ (elems.length + rest.length) * P.bytesOf e := Nat.mul_le_mul_right _ (by omega)
    exact Nat.le_trans h2 this
  · obtain ⟨i, rfl⟩ := List.mem_ofFn.1 hy
    exact (hf i).2
theorem opensF_last {f : Field} {off : Nat} {α : Type} {d : Kd α} {G : α → Prop} (ho : f.offset = off) (hc : P.cellsOf f.type = d.sz) (E : Opens enc P w base sp held f.type d G) : OpensF enc P w base sp held [f] off d G := by
  intro fuel cs xs hcl hxl hx hz
  match xs, hxl with
  | [x], _ =>
    have h1 := hx 0 f rfl
    rw [ho, hc, List.take_of_length_le (by rw [List.length_drop]; omega)] at h1
    exact E fuel _ x h1 (fun n hn => hz n (by simp only [List.map_cons, DataW.weightsEach, List.mem_append]; exact .inl hn))
theorem opensF_cons {f : Field} {fs : List Field} {off : Nat} {α β : Type} {a : Kd α} {b : Kd β} {G : α → Prop} {G' : β → Prop} (ho : f.offset = off) (hc : P.cellsOf f.type = a.sz) (E : Opens enc P w base sp held f.type a G) (r : OpensF enc P w base sp held fs (off + a.sz) b G') :
    OpensF enc P w base sp held (f :: fs) off (Kd.pair a b) (fun y => G y.1 ∧ G' y.2) := by
  intro fuel cs xs hcl hxl hx hz
  have hsz : (Kd.pair a b).sz = a.sz + b.sz := rfl
  rw [hsz] at hcl
  match xs, hxl with
  | x :: xs, hxl =>
    have h1 := hx 0 f rfl
    rw [ho, hc] at h1
    simp only [List.map_cons, DataW.weightsEach, List.mem_append] at hz
    obtain ⟨y, hK, hG⟩ := E fuel _ x h1 (fun n hn => hz n (.inl hn))
    obtain ⟨z, hK2, hG2⟩ := r fuel cs xs (by omega) (by simpa using hxl) (fun i g hg => hx (i + 1) g hg) (fun n hn => hz n (.inr hn))
    refine ⟨(y, z), ⟨_, _, ?_, hK, hK2⟩, hG, hG2⟩
    rw [← List.drop_drop, List.take_append_drop]
theorem opens_struct {t : TypeId} {fs : Array Field} {α : Type} {d : Kd α} {G : α → Prop} (ht : P.underlying t = some (.struct fs)) (hC : P.cellsOf t = d.sz) (E : OpensF enc P w base sp held fs.toList 0 d G) : Opens enc P w base sp held t d G := by
  intro fuel cs x h hz
  obtain ⟨xs, n, _, rfl, hl, hlen, hf⟩ := DataW.trod_struct ht h
  have hz2 : ∀ n ∈ (DataW.agg (xs.map (·.1)) : DataW H).weights P t, n ≤ reachBytes := hz
  simp only [DataW.weights, ht] at hz2
  have := E n cs xs (by omega) (by simpa using hlen) (fun i f hg => by first | exact hf i f hg | exact hf i f (by simpa using hg)) hz2
  rwa [List.drop_zero] at this
theorem opens_iso {t : TypeId} {α β : Type} {d : Kd α} {G : α → Prop} (f : β → α) (g : α → β) (hfg : ∀ x, f (g x) = x) (E : Opens enc P w base sp held t d G) : Opens enc P w base sp held t (Kd.iso d f) (fun y => G (f y)) := by
  intro fuel cs x h hz
  obtain ⟨y, hK, hG⟩ := E fuel cs x h hz
  refine ⟨g y, ?_, ?_⟩
  · show d.K w (f (g y)) cs
    rw [hfg]; exact hK
  · show G (f (g y))
    rw [hfg]; exact hG
theorem opens_mono {t : TypeId} {α : Type} {d : Kd α} {G G' : α → Prop} (E : Opens enc P w base sp held t d G) (h : ∀ y, G y → G' y) : Opens enc P w base sp held t d G' := by
  intro fuel cs x h1 hz
  obtain ⟨y, hK, hG⟩ := E fuel cs x h1 hz
  exact ⟨y, hK, h y hG⟩
end
end Go.Proofs.YtannjakcnnefhaaGreatDoor.Laid
