/- Plain: strings in which one byte differs have different digests. -/
import Derived.Test.YtncdnopnjdbleaaDa
namespace Hach
open Go Go.RowKit

theorem stpX_inj {x y : Nat} (c : UInt8) (hx : x < 2147483647) (hy : y < 2147483647) (h : stp 48271 2147483647 x c = stp 48271 2147483647 y c) : x = y := by
  unfold stp at h
  omega
theorem stpY_inj {x y : Nat} (c : UInt8) (hx : x < 2147483629) (hy : y < 2147483629) (h : stp 40692 2147483629 x c = stp 40692 2147483629 y c) : x = y := by
  unfold stp at h
  omega
theorem stpX_c {x : Nat} {c d : UInt8} (h : stp 48271 2147483647 x c = stp 48271 2147483647 x d) : c = d := by
  unfold stp at h
  have := c.toNat_lt
  have := d.toNat_lt
  exact UInt8.toNat_inj.1 (by omega)
theorem foldX_ne : ∀ (l : List UInt8) (x y : Nat), x < 2147483647 → y < 2147483647 → x ≠ y → l.foldl (stp 48271 2147483647) x ≠ l.foldl (stp 48271 2147483647) y
  | [], _, _, _, _, h => h
  | c :: l, x, y, hx, hy, h => foldX_ne l _ _ (Nat.mod_lt _ (by omega)) (Nat.mod_lt _ (by omega)) fun e => h (stpX_inj c hx hy e)
theorem rX_ne (P Q : List UInt8) {c d : UInt8} (h : c ≠ d) : rX (P ++ c :: Q) ≠ rX (P ++ d :: Q) := by
  unfold rX
  rw [List.foldl_append, List.foldl_append, List.foldl_cons, List.foldl_cons]
  exact foldX_ne Q _ _ (Nat.mod_lt _ (by omega)) (Nat.mod_lt _ (by omega)) fun e => h (stpX_c e)
theorem b4l_inj {n m : Nat} (hn : n < 4294967296) (hm : m < 4294967296) (h : b4l n = b4l m) : n = m := by
  unfold b4l at h
  simp only [List.cons.injEq, and_true] at h
  obtain ⟨h1, h2, h3, h4⟩ := h
  have e : ∀ {a b : Nat}, UInt8.ofNat a = UInt8.ofNat b → a % 256 = b % 256 := fun {a b} h => by
    have := congrArg UInt8.toNat h
    simpa using this
  have := e h1
  have := e h2
  have := e h3
  have := e h4
  omega
theorem dgl_ne (P Q : List UInt8) {c d : UInt8} (h : c ≠ d) : dgl (P ++ c :: Q) ≠ dgl (P ++ d :: Q) := by
  intro e
  unfold dgl at e
  have := (List.append_inj e (by simp [b4l])).1
  exact rX_ne P Q h (b4l_inj (Nat.lt_trans (rX_lt _) (by omega)) (Nat.lt_trans (rX_lt _) (by omega)) this)
/- of strings: s and t differ in just one byte -/
def Differs (s t : ByteArray) : Prop := ∃ (P Q : List UInt8) (c d : UInt8), c ≠ d ∧ s.data.toList = P ++ c :: Q ∧ t.data.toList = P ++ d :: Q
theorem Differs.size {s t : ByteArray} (h : Differs s t) : s.size = t.size := by
  obtain ⟨P, Q, c, d, _, h1, h2⟩ := h
  have e : ∀ u : ByteArray, u.size = u.data.toList.length := fun u => by rw [Array.length_toList]; rfl
  rw [e, e, h1, h2]; simp
theorem Differs.pre {s t : ByteArray} (h : Differs s t) (a : ByteArray) : Differs (a ++ s) (a ++ t) := by
  obtain ⟨P, Q, c, d, hcd, h1, h2⟩ := h
  refine ⟨a.data.toList ++ P, Q, c, d, hcd, ?_, ?_⟩
  · rw [data_append, h1]; simp
  · rw [data_append, h2]; simp
theorem Differs.post {s t : ByteArray} (h : Differs s t) (a : ByteArray) : Differs (s ++ a) (t ++ a) := by
  obtain ⟨P, Q, c, d, hcd, h1, h2⟩ := h
  refine ⟨P, Q ++ a.data.toList, c, d, hcd, ?_, ?_⟩
  · rw [data_append, h1]; simp
  · rw [data_append, h2]; simp
theorem Differs.dg {s t : ByteArray} (h : Differs s t) : dg s ≠ dg t := by
  obtain ⟨P, Q, c, d, hcd, h1, h2⟩ := h
  intro e
  unfold Hach.dg at e
  rw [h1, h2] at e
  have e2 := congrArg (fun x : ByteArray => x.data.toList) e
  exact dgl_ne P Q hcd (by simpa using e2)
theorem Differs.ne {s t : ByteArray} (h : Differs s t) : s ≠ t := fun e => h.dg (by rw [e])
theorem Differs.chn {s t : ByteArray} (h : Differs s t) (b : ByteArray) : chn b s ≠ chn b t := (h.pre _).dg
theorem Differs.mrk {s t : ByteArray} (h : Differs s t) (k : ByteArray) : mrk k s ≠ mrk k t := ((h.pre _).post k).dg
theorem Differs.lf {s t : ByteArray} (h : Differs s t) : lf s ≠ lf t := (h.pre _).dg
theorem ex_data (s : ByteArray) (a b : Nat) : (s.extract a b).data.toList = (s.data.toList.take b).drop a := by
  rw [ByteArray.data_extract, Array.toList_extract, List.extract_eq_take_drop]
  rw [List.take_drop]
  rcases Nat.le_total a b with h | h
  · rw [show a + (b - a) = b by omega]
  · rw [List.drop_eq_nil_of_le (by simp; omega), List.drop_eq_nil_of_le (by simp; omega)]
/- one byte of a string is another one -/
def set1 (s : ByteArray) (k : Nat) (c : UInt8) : ByteArray := s.extract 0 k ++ ⟨#[c]⟩ ++ s.extract (k + 1) s.size
theorem set1_differs {s : ByteArray} {k : Nat} {c : UInt8} (hk : k < s.size) (h : s.data.toList.getD k 0 ≠ c) : Differs s (set1 s k c) := by
  have hl : k < s.data.toList.length := by rw [Array.length_toList]; exact hk
  refine ⟨s.data.toList.take k, s.data.toList.drop (k + 1), s.data.toList.getD k 0, c, h, ?_, ?_⟩
  · have := List.take_append_drop k s.data.toList
    rw [List.drop_eq_getElem_cons hl] at this
    rw [List.getD, List.getElem?_eq_getElem hl]
    exact this.symm
  · unfold set1
    rw [data_append, data_append, ex_data, ex_data, List.drop_zero]
    have e : s.data.toList.take s.size = s.data.toList := List.take_of_length_le (by rw [Array.length_toList]; exact Nat.le_refl _)
    rw [e]
    simp
theorem set1_size {s : ByteArray} {k : Nat} {c : UInt8} (hk : k < s.size) : (set1 s k c).size = s.size := by
  unfold set1
  rw [ByteArray.size_append, ByteArray.size_append, ByteArray.size_extract, ByteArray.size_extract]
  have : (⟨#[c]⟩ : ByteArray).size = 1 := rfl
  omega
end Hach
