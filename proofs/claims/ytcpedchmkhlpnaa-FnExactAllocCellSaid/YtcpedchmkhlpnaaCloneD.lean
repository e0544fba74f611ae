/- A row whose first elements own what lies under them; the others do not. -/
import Derived.Test.YtcpedchmkhlpnaaGEncCToEncD

namespace RC
open Go Go.Abs

def mixD (ti k : Nat) (l : List Cell) : List (List AV) := (l.take k).map (eCellD ti) ++ (l.drop k).map eCell

theorem mixD_len {ti k : Nat} {l : List Cell} : (mixD ti k l).length = l.length := by simp [mixD]; omega
theorem mixD_zero {ti : Nat} {l : List Cell} : mixD ti 0 l = l.map eCell := by simp [mixD]
theorem mixD_full {ti k : Nat} {l : List Cell} (h : l.length ≤ k) : mixD ti k l = l.map (eCellD ti) := by
  simp [mixD, List.take_of_length_le h, List.drop_eq_nil_of_le h]
theorem mixD_get {ti k : Nat} {l : List Cell} {c : Cell} (h : l[k]? = some c) : (mixD ti k l)[k]? = some (eCell c) := by
  obtain ⟨hk, rfl⟩ := List.getElem?_eq_some_iff.1 h
  unfold mixD
  rw [List.getElem?_append_right (by simp; omega)]
  simp only [List.length_map, List.length_take, Nat.min_eq_left (Nat.le_of_lt hk), Nat.sub_self, List.getElem?_map, List.getElem?_drop, Nat.add_zero, List.getElem?_eq_getElem hk, Option.map_some]
theorem mixD_set {ti k : Nat} {l : List Cell} {c d : Cell} (h : l[k]? = some c) : (mixD ti k l).set k (eCellD ti d) = mixD ti (k + 1) (l.set k d) := by
  obtain ⟨hk, rfl⟩ := List.getElem?_eq_some_iff.1 h
  unfold mixD
  rw [List.set_append_right _ _ (by simp; omega)]
  simp only [List.length_map, List.length_take, Nat.min_eq_left (Nat.le_of_lt hk), Nat.sub_self]
  rw [List.drop_eq_getElem_cons hk, List.map_cons, List.set_cons_zero]
  rw [List.take_add_one, List.take_set_of_le (Nat.le_refl k), List.drop_set_of_lt (by omega)]
  simp [hk]

theorem mixD_pure {ti k : Nat} {l : List Cell} : pureRow' (mixD ti k l) := fun x hx c hc => by
  unfold mixD at hx
  rcases List.mem_append.1 hx with h | h
  · obtain ⟨y, _, rfl⟩ := List.mem_map.1 h
    exact List.all_eq_true.1 (rfl : (eCellD ti y).all simple' = true) c hc
  · obtain ⟨y, _, rfl⟩ := List.mem_map.1 h
    exact List.all_eq_true.1 (rfl : (eCell y).all simple' = true) c hc
theorem deepR_map {α : Type} {l : List α} {enc : α → List AV} (h : ∀ y, (enc y).all deepC = true) : deepR (l.map enc) := fun y hy c hc => by
  obtain ⟨z, _, rfl⟩ := List.mem_map.1 hy
  exact List.all_eq_true.1 (h z) c hc

section
variable {P : Program} {s : St} {x y : Operand} {t el : TypeId} {size bytes id g m : Nat} {zz : List AV} {xs : List (List AV)} {n : Int} {kk : IntKind}
theorem aq_ixx (he : einfo P t = some ⟨el, size, bytes, zz⟩) (hx : s.ev x = .own id g m) (hy : s.ev y = .int kk n) (hr : s.st[id]? = some ⟨g, el, size, xs⟩) (h0 : 0 ≤ n) (h1 : n < m) :
    AQ P s (.indexAddr t x y) (.ptr id g n.toNat 0) := fun K hk => by
  show aIndexAddr P s.st t (s.ev x) (s.ev y) K
  rw [hx, hy]; exact optK_intro _ he ⟨h0, h1, optK_intro _ hr ⟨rfl, rfl, hk⟩⟩
end
end RC
