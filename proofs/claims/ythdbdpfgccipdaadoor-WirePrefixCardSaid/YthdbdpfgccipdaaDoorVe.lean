/- Contracts of the writers: integers, texts, lists; of the given program, and of the reference. -/
import Derived.Test.YthdbdpfgccipdaaDoorVd
namespace Go.Proofs.YthdbdpfgccipdaaDoor
open Go.RowKit Hach Num

theorem bytes_length (l : List UInt8) : (Lib.byteCells l).length = l.length := by simp [Lib.byteCells]
theorem builder_ext {T e : TypeId} {B b : Nat} {p : Value} {bs : List Value} {w w' : World} (h : Lib.BuilderAt T e B b p bs w) (hE : Ext w w') : Lib.BuilderAt T e B b p bs w' := by
  obtain ⟨hB, v, hb, ho, hn⟩ := h
  exact ⟨hB, v, (hE.below.block b (Array.getElem?_eq_some_iff.1 hb).1).trans hb, World.ownsRow.kept ho (grown_ext hE none) (by cases v.ownBlock <;> simp), hn⟩
theorem toArr_size (l : List UInt8) : (⟨l.toArray⟩ : ByteArray).size = l.length := by show l.toArray.size = _; simp

theorem wInt_any (n : Int) (hn : InI n) (w : World) (hT : Tabs w) :
    Calls Tryd.prog 12 #[.int .i64 n] w fun e w' => e = .returned (.string ⟨(wrInt n).toArray⟩) ∧ Ext w w' := by
  obtain ⟨l1, l2⟩ := itoa_size hn
  go_enter Tryd.func12, Tryd.ntmps12
  go_wp2_with fail
  refine (itoa_any n hn w hT).mono ?_
  rintro e w' ⟨rfl, hE⟩
  go_wp2_with fail
  go_ret
  refine ⟨?_, hE⟩
  show Ending.returned (Value.string (_ ++ ⟨[59].toArray⟩)) = _
  rw [ba_append]; rfl
theorem wText_any (s : List UInt8) (hs : s.length < 4294967296) (w : World) (hT : Tabs w) :
    Calls Tryd.prog 14 #[.string ⟨s.toArray⟩] w fun e w' => e = .returned (.string ⟨(wrText s).toArray⟩) ∧ Ext w w' := by
  have hn : InI (s.length : Int) := ⟨by omega, by omega⟩
  obtain ⟨l1, l2⟩ := itoa_size hn
  have hz := toArr_size s
  have hz2 := toArr_size (Lib.itoa (s.length : Int) ++ [58])
  rw [← ba_append] at hz2
  simp only [List.length_append, List.length_singleton] at hz2
  go_enter Tryd.func14, Tryd.ntmps14
  go_wp2_with fail
  refine (itoa_any _ hn w hT).mono ?_
  rintro e w' ⟨rfl, hE⟩
  go_wp2_with fail
  go_ret
  refine ⟨?_, hE⟩
  show Ending.returned (Value.string (_ ++ ⟨[58].toArray⟩ ++ _)) = _
  rw [ba_append, ba_append, List.append_assoc]; rfl

theorem rInt_any (n : Int) (hn : InI n) (w : World) (_hT : Tabs w) :
    Calls Tryd.prog 13 #[.int .i64 n] w fun e w' => e = .returned (.string ⟨(wrInt n).toArray⟩) ∧ Ext w w' := by
  obtain ⟨l1, l2⟩ := itoa_size hn
  go_enter Tryd.func13, Tryd.ntmps13
  go_wp2_with fail
  refine (dec_any _ n (Nat.le_refl _) hn w).mono ?_
  rintro e w' ⟨rfl, hE⟩
  go_wp2_with fail
  go_ret
  refine ⟨?_, hE⟩
  show Ending.returned (Value.string (_ ++ ⟨[59].toArray⟩)) = _
  rw [ba_append]; rfl
theorem rText_any (s : List UInt8) (hs : s.length < 4294967296) (w : World) (_hT : Tabs w) :
    Calls Tryd.prog 15 #[.string ⟨s.toArray⟩] w fun e w' => e = .returned (.string ⟨(wrText s).toArray⟩) ∧ Ext w w' := by
  have hn : InI (s.length : Int) := ⟨by omega, by omega⟩
  obtain ⟨l1, l2⟩ := itoa_size hn
  have hz := toArr_size s
  have hz2 := toArr_size (Lib.itoa (s.length : Int) ++ [58])
  rw [← ba_append] at hz2
  simp only [List.length_append, List.length_singleton] at hz2
  go_enter Tryd.func15, Tryd.ntmps15
  go_wp2_with fail
  refine (dec_any _ _ (Nat.le_refl _) hn w).mono ?_
  rintro e w' ⟨rfl, hE⟩
  go_wp2_with fail
  go_ret
  refine ⟨?_, hE⟩
  show Ending.returned (Value.string (_ ++ ⟨[58].toArray⟩ ++ _)) = _
  rw [ba_append, ba_append, List.append_assoc]; rfl

/- an argument's row -/
def RowI (w : World) (B : Nat) (A : Option Addr) (n : Nat) (xs : List Int) : Prop :=
  xs.length = n ∧ (0 < n → ∃ b o : Nat, A = some ⟨b, o, none⟩ ∧ b < B ∧ ∀ j, j < n → w.cell? ⟨b, o + j, none⟩ = some (itv (xs.getD j 0)))
theorem RowI.ext {w w' : World} {A : Option Addr} {n : Nat} {xs : List Int} (h : RowI w w.heap.size A n xs) (hE : Ext w w') : RowI w' w'.heap.size A n xs :=
  ⟨h.1, fun h0 => by
    obtain ⟨b, o, e, hb, hc⟩ := h.2 h0
    exact ⟨b, o, e, Nat.lt_of_lt_of_le hb hE.sz, fun j hj => (hE.old (p := ⟨b, o + j, none⟩) hb).trans (hc j hj)⟩⟩
theorem OwnI.form {w : World} {base : Nat} {v : Value} {xs : List Int} (h : OwnI w base v xs) : ∃ A c, v = .slice A xs.length c ∧ RowI w w.heap.size A xs.length xs := by
  rcases h.2 with ⟨rfl, hn⟩ | ⟨g, cap, cur, rfl, hb, hg, r⟩
  · refine ⟨none, 0, by rw [hn], ?_⟩
    rw [hn]
    exact ⟨hn, fun h => absurd h (by omega)⟩
  · refine ⟨_, _, rfl, rfl, fun _ => ⟨g, 0, rfl, (Array.getElem?_eq_some_iff.1 hg).1, fun j hj => ?_⟩⟩
    have := World.ownsRow.cells h (g := g) rfl j (itv (xs.getD j 0)) (by simp [List.getD, List.getElem?_eq_getElem hj])
    simpa [Addr.add_lit] using this
theorem take_flat_I (xs : List Int) (k : Nat) (hk : k < xs.length) : ((xs.take (k + 1)).map wrInt).flatten = ((xs.take k).map wrInt).flatten ++ wrInt (xs.getD k 0) := by
  have e : xs.getD k 0 = xs[k] := by simp [List.getD, List.getElem?_eq_getElem hk]
  rw [e, List.take_succ_eq_append_getElem hk, List.map_append, List.flatten_append]
  simp only [List.map_cons, List.map_nil, List.flatten_cons, List.flatten_nil, List.append_nil]
theorem flat_le_I (xs : List Int) (k : Nat) : ((xs.take k).map wrInt).flatten.length ≤ (xs.map wrInt).flatten.length := by
  have : (xs.map wrInt).flatten = ((xs.take k).map wrInt).flatten ++ ((xs.drop k).map wrInt).flatten := by rw [← List.flatten_append, ← List.map_append, List.take_append_drop]
  rw [this, List.length_append]; omega

set_option maxHeartbeats 400000 in
theorem rlist_I (A : Option Addr) (n c : Nat) (xs : List Int) (w : World) (hX : RowI w w.heap.size A n xs) (hn : n < 4294967296) (hV : ∀ x ∈ xs, InI x) (hlen : (xs.map wrInt).flatten.length < 4294967296) (hT : Tabs w) :
    Calls Tryd.prog 17 #[.slice A n c] w fun e w' => e = .returned (.string ⟨(wrList wrInt xs).toArray⟩) ∧ Ext w w' := by
  have hxl := hX.1
  go_enter Tryd.func17, Tryd.ntmps17
  go_wp2_with fail
  go_loopw [3, 4] (fun v i wr => ∃ k : Nat, k ≤ n ∧ i = .int .i64 k ∧ v = .string ⟨(91 :: ((xs.take k).map wrInt).flatten).toArray⟩ ∧ Ext w wr) (fun _ i _ => n - (intOf i).toNat)
  case atStart => exact ⟨0, Nat.zero_le _, rfl, rfl, Ext.refl _⟩
  case round =>
    obtain ⟨k, hk, rfl, rfl, hE⟩ := hrel
    have hsz := toArr_size (91 :: ((xs.take k).map wrInt).flatten)
    have hle := flat_le_I xs k
    simp only [List.length_cons] at hsz
    obtain ⟨sv, hsv⟩ : ∃ sv : ByteArray, (⟨(91 :: ((xs.take k).map wrInt).flatten).toArray⟩ : ByteArray) = sv := ⟨_, rfl⟩
    rw [hsv] at hsz
    rw [hsv]
    have HSV := Lib.hid hsv
    have hsv2 : sv.size < 4294967298 := by omega
    clear hsv
    by_cases hlt : k < n
    · obtain ⟨b, o, rfl, hbl, hc0⟩ := hX.2 (by omega)
      have hc : wr.cell? ⟨b, o + k, none⟩ = some (itv (xs.getD k 0)) := (hE.old (p := ⟨b, o + k, none⟩) hbl).trans (hc0 k hlt)
      have hkx : k < xs.length := by omega
      have hv := hV (xs.getD k 0) (by simp [List.getD, List.getElem?_eq_getElem hkx])
      have HF := Lib.hid (take_flat_I xs k hkx)
      have hle2 := flat_le_I xs (k + 1)
      rw [HF.out, List.length_append] at hle2
      clear hc0
      generalize xs.getD k 0 = x at hc hv HF hle2
      unfold itv at hc
      have hszx := toArr_size (wrInt x)
      go_wp2_with fail
      refine (rInt_any x hv wr (hT.ext hE)).mono ?_
      rintro e w1 ⟨rfl, hE1⟩
      obtain ⟨iv, hiv⟩ : ∃ iv : ByteArray, (⟨(wrInt x).toArray⟩ : ByteArray) = iv := ⟨_, rfl⟩
      rw [hiv] at hszx
      rw [hiv]
      have HIV := Lib.hid hiv
      clear hiv
      go_wp2_with fail
      go_roundw
      case rel =>
        refine ⟨k + 1, by omega, by go_num, ?_, hE.trans hE1⟩
        rw [← HSV.out, ← HIV.out, HF.out, ba_append]; rfl
      case measure => simp [intOf]; omega
    · obtain rfl : k = n := by omega
      have e : xs.take k = xs := List.take_of_length_le (by omega)
      have HE := Lib.hid e
      clear e hle hsz
      go_wp2_with fail
      go_ret
      refine ⟨?_, hE⟩
      show Ending.returned (Value.string (sv ++ ⟨[93].toArray⟩)) = _
      rw [← HSV.out, HE.out, ba_append]; rfl

set_option maxHeartbeats 400000 in
theorem wlist_I (A : Option Addr) (n c : Nat) (xs : List Int) (w : World) (hX : RowI w w.heap.size A n xs) (hn : n < 4294967296) (hV : ∀ x ∈ xs, InI x) (hlen : (xs.map wrInt).flatten.length < 4294967296) (hT : Tabs w) :
    Calls Tryd.prog 16 #[.slice A n c] w fun e w' => e = .returned (.string ⟨(wrList wrInt xs).toArray⟩) ∧ Ext w w' := by
  have hxl := hX.1
  have key : Calls Tryd.prog 40 #[.slice A n c, .func (Fn.func 12) #[] #[]] w fun e w' => e = .returned (.string ⟨(wrList wrInt xs).toArray⟩) ∧ Ext w w' := by
    go_enter Tryd.func40, Tryd.ntmps40
    go_wp2_with fail
    refine (writeByte w.heap.size w.heap.size [] 91 _ (.inl ⟨Nat.le_refl _, .slice none 0 0, heap_alloc_new _ _, World.ownsRow_nil _ _ _ 1, by simp [Value.ownBlock]⟩) (by simp) (by simp)).mono ?_
    rintro e w1 ⟨rfl, hB1, hb1⟩
    have hE1 : Ext w w1 := Below.trans (Ext.alloc w _) hb1
    have hB1' : Lib.BuilderAt 67 5 w.heap.size w.heap.size (.pointer (some ⟨w.heap.size, 0, none⟩)) (Lib.byteCells (91 :: ((xs.take 0).map wrInt).flatten)) w1 := hB1
    go_wp2_with fail
    go_loopw [11] (fun i wr => ∃ k : Nat, k ≤ n ∧ i = .int .i64 k ∧ Lib.BuilderAt 67 5 w.heap.size w.heap.size (.pointer (some ⟨w.heap.size, 0, none⟩)) (Lib.byteCells (91 :: ((xs.take k).map wrInt).flatten)) wr ∧ Ext w wr) (fun i _ => n - (intOf i).toNat)
    case atStart => exact ⟨0, Nat.zero_le _, rfl, hB1', hE1⟩
    case round =>
      obtain ⟨k, hk, rfl, hBd, hE⟩ := hrel
      have hle := flat_le_I xs k
      by_cases hlt : k < n
      · obtain ⟨b, o, rfl, hbl, hc0⟩ := hX.2 (by omega)
        have hc : wr.cell? ⟨b, o + k, none⟩ = some (itv (xs.getD k 0)) := (hE.old (p := ⟨b, o + k, none⟩) hbl).trans (hc0 k hlt)
        have hkx : k < xs.length := by omega
        have hv := hV (xs.getD k 0) (by simp [List.getD, List.getElem?_eq_getElem hkx])
        have HF := Lib.hid (take_flat_I xs k hkx)
        have hle2 := flat_le_I xs (k + 1)
        rw [HF.out, List.length_append] at hle2
        clear hc0
        generalize xs.getD k 0 = x at hc hv HF hle2
        unfold itv at hc
        go_wp2_with fail
        refine (wInt_any x hv wr (hT.ext hE)).mono ?_
        rintro e w2 ⟨rfl, hE2⟩
        have hBd2 := builder_ext hBd hE2
        have hE02 := hE.trans hE2
        go_wp2_with fail
        refine (writeString w.heap.size w.heap.size _ ⟨(wrInt x).toArray⟩ w2 (.inr hBd2) (by rw [toArr_size, bytes_length]; simp only [List.length_cons]; omega) hE02.sz).mono ?_
        rintro e w3 ⟨rfl, hB3, hb3⟩
        go_wp2_with fail
        go_roundw
        case rel =>
          refine ⟨k + 1, by omega, by go_num, ?_, Below.trans hE02 hb3⟩
          rw [HF.out]
          rw [Lib.strCells_toArray] at hB3
          simpa [Lib.byteCells] using hB3
        case measure => simp [intOf]; omega
      · obtain rfl : k = n := by omega
        have e : xs.take k = xs := List.take_of_length_le (by omega)
        rw [e] at hBd hle
        clear e
        go_wp2_with fail
        refine (writeByte w.heap.size w.heap.size _ 93 wr (.inr hBd) (by rw [bytes_length]; simp only [List.length_cons]; omega) hE.sz).mono ?_
        rintro e w2 ⟨rfl, hB2, hb2⟩
        have hE2 : Ext w w2 := Below.trans hE hb2
        have hB3 : Lib.IsBuilder 67 5 w.heap.size w.heap.size (Lib.byteCells (wrList wrInt xs)) w2 := .inr (by
          unfold wrList
          simpa [Lib.byteCells] using hB2)
        go_wp2_with fail
        refine (Tryd.Builder_String_any w.heap.size w.heap.size _ w2 hB3 hE2.sz).mono ?_
        rintro e w3 ⟨rfl, hb3⟩
        go_wp2_with fail
        go_ret
        exact ⟨rfl, Below.trans hE2 hb3⟩
  go_enter Tryd.func16, Tryd.ntmps16
  go_wp2_with fail
  refine key.mono ?_
  rintro e w' ⟨rfl, hE⟩
  go_wp2_with fail
  go_ret
  exact ⟨rfl, hE⟩

def ShortT (s : List UInt8) : Prop := s.length < 4294967296

/- an argument's row -/
def RowT (w : World) (B : Nat) (A : Option Addr) (n : Nat) (xs : List (List UInt8)) : Prop :=
  xs.length = n ∧ (0 < n → ∃ b o : Nat, A = some ⟨b, o, none⟩ ∧ b < B ∧ ∀ j, j < n → w.cell? ⟨b, o + j, none⟩ = some (txv (xs.getD j [])))
theorem RowT.ext {w w' : World} {A : Option Addr} {n : Nat} {xs : List (List UInt8)} (h : RowT w w.heap.size A n xs) (hE : Ext w w') : RowT w' w'.heap.size A n xs :=
  ⟨h.1, fun h0 => by
    obtain ⟨b, o, e, hb, hc⟩ := h.2 h0
    exact ⟨b, o, e, Nat.lt_of_lt_of_le hb hE.sz, fun j hj => (hE.old (p := ⟨b, o + j, none⟩) hb).trans (hc j hj)⟩⟩
theorem OwnT.form {w : World} {base : Nat} {v : Value} {xs : List (List UInt8)} (h : OwnT w base v xs) : ∃ A c, v = .slice A xs.length c ∧ RowT w w.heap.size A xs.length xs := by
  rcases h.2 with ⟨rfl, hn⟩ | ⟨g, cap, cur, rfl, hb, hg, r⟩
  · refine ⟨none, 0, by rw [hn], ?_⟩
    rw [hn]
    exact ⟨hn, fun h => absurd h (by omega)⟩
  · refine ⟨_, _, rfl, rfl, fun _ => ⟨g, 0, rfl, (Array.getElem?_eq_some_iff.1 hg).1, fun j hj => ?_⟩⟩
    have := World.ownsRow.cells h (g := g) rfl j (txv (xs.getD j [])) (by simp [List.getD, List.getElem?_eq_getElem hj])
    simpa [Addr.add_lit] using this
theorem take_flat_T (xs : List (List UInt8)) (k : Nat) (hk : k < xs.length) : ((xs.take (k + 1)).map wrText).flatten = ((xs.take k).map wrText).flatten ++ wrText (xs.getD k []) := by
  have e : xs.getD k [] = xs[k] := by simp [List.getD, List.getElem?_eq_getElem hk]
  rw [e, List.take_succ_eq_append_getElem hk, List.map_append, List.flatten_append]
  simp only [List.map_cons, List.map_nil, List.flatten_cons, List.flatten_nil, List.append_nil]
theorem flat_le_T (xs : List (List UInt8)) (k : Nat) : ((xs.take k).map wrText).flatten.length ≤ (xs.map wrText).flatten.length := by
  have : (xs.map wrText).flatten = ((xs.take k).map wrText).flatten ++ ((xs.drop k).map wrText).flatten := by rw [← List.flatten_append, ← List.map_append, List.take_append_drop]
  rw [this, List.length_append]; omega

set_option maxHeartbeats 400000 in
theorem rlist_T (A : Option Addr) (n c : Nat) (xs : List (List UInt8)) (w : World) (hX : RowT w w.heap.size A n xs) (hn : n < 4294967296) (hV : ∀ x ∈ xs, ShortT x) (hlen : (xs.map wrText).flatten.length < 4294967296) (hT : Tabs w) :
    Calls Tryd.prog 19 #[.slice A n c] w fun e w' => e = .returned (.string ⟨(wrList wrText xs).toArray⟩) ∧ Ext w w' := by
  have hxl := hX.1
  go_enter Tryd.func19, Tryd.ntmps19
  go_wp2_with fail
  go_loopw [3, 4] (fun v i wr => ∃ k : Nat, k ≤ n ∧ i = .int .i64 k ∧ v = .string ⟨(91 :: ((xs.take k).map wrText).flatten).toArray⟩ ∧ Ext w wr) (fun _ i _ => n - (intOf i).toNat)
  case atStart => exact ⟨0, Nat.zero_le _, rfl, rfl, Ext.refl _⟩
  case round =>
    obtain ⟨k, hk, rfl, rfl, hE⟩ := hrel
    have hsz := toArr_size (91 :: ((xs.take k).map wrText).flatten)
    have hle := flat_le_T xs k
    simp only [List.length_cons] at hsz
    obtain ⟨sv, hsv⟩ : ∃ sv : ByteArray, (⟨(91 :: ((xs.take k).map wrText).flatten).toArray⟩ : ByteArray) = sv := ⟨_, rfl⟩
    rw [hsv] at hsz
    rw [hsv]
    have HSV := Lib.hid hsv
    have hsv2 : sv.size < 4294967298 := by omega
    clear hsv
    by_cases hlt : k < n
    · obtain ⟨b, o, rfl, hbl, hc0⟩ := hX.2 (by omega)
      have hc : wr.cell? ⟨b, o + k, none⟩ = some (txv (xs.getD k [])) := (hE.old (p := ⟨b, o + k, none⟩) hbl).trans (hc0 k hlt)
      have hkx : k < xs.length := by omega
      have hv := hV (xs.getD k []) (by simp [List.getD, List.getElem?_eq_getElem hkx])
      have HF := Lib.hid (take_flat_T xs k hkx)
      have hle2 := flat_le_T xs (k + 1)
      rw [HF.out, List.length_append] at hle2
      clear hc0
      generalize xs.getD k [] = x at hc hv HF hle2
      unfold txv at hc
      have hszx := toArr_size (wrText x)
      go_wp2_with fail
      refine (rText_any x hv wr (hT.ext hE)).mono ?_
      rintro e w1 ⟨rfl, hE1⟩
      obtain ⟨iv, hiv⟩ : ∃ iv : ByteArray, (⟨(wrText x).toArray⟩ : ByteArray) = iv := ⟨_, rfl⟩
      rw [hiv] at hszx
      rw [hiv]
      have HIV := Lib.hid hiv
      clear hiv
      go_wp2_with fail
      go_roundw
      case rel =>
        refine ⟨k + 1, by omega, by go_num, ?_, hE.trans hE1⟩
        rw [← HSV.out, ← HIV.out, HF.out, ba_append]; rfl
      case measure => simp [intOf]; omega
    · obtain rfl : k = n := by omega
      have e : xs.take k = xs := List.take_of_length_le (by omega)
      have HE := Lib.hid e
      clear e hle hsz
      go_wp2_with fail
      go_ret
      refine ⟨?_, hE⟩
      show Ending.returned (Value.string (sv ++ ⟨[93].toArray⟩)) = _
      rw [← HSV.out, HE.out, ba_append]; rfl

set_option maxHeartbeats 400000 in
theorem wlist_T (A : Option Addr) (n c : Nat) (xs : List (List UInt8)) (w : World) (hX : RowT w w.heap.size A n xs) (hn : n < 4294967296) (hV : ∀ x ∈ xs, ShortT x) (hlen : (xs.map wrText).flatten.length < 4294967296) (hT : Tabs w) :
    Calls Tryd.prog 18 #[.slice A n c] w fun e w' => e = .returned (.string ⟨(wrList wrText xs).toArray⟩) ∧ Ext w w' := by
  have hxl := hX.1
  have key : Calls Tryd.prog 41 #[.slice A n c, .func (Fn.func 14) #[] #[]] w fun e w' => e = .returned (.string ⟨(wrList wrText xs).toArray⟩) ∧ Ext w w' := by
    go_enter Tryd.func41, Tryd.ntmps41
    go_wp2_with fail
    refine (writeByte w.heap.size w.heap.size [] 91 _ (.inl ⟨Nat.le_refl _, .slice none 0 0, heap_alloc_new _ _, World.ownsRow_nil _ _ _ 1, by simp [Value.ownBlock]⟩) (by simp) (by simp)).mono ?_
    rintro e w1 ⟨rfl, hB1, hb1⟩
    have hE1 : Ext w w1 := Below.trans (Ext.alloc w _) hb1
    have hB1' : Lib.BuilderAt 67 5 w.heap.size w.heap.size (.pointer (some ⟨w.heap.size, 0, none⟩)) (Lib.byteCells (91 :: ((xs.take 0).map wrText).flatten)) w1 := hB1
    go_wp2_with fail
    go_loopw [11] (fun i wr => ∃ k : Nat, k ≤ n ∧ i = .int .i64 k ∧ Lib.BuilderAt 67 5 w.heap.size w.heap.size (.pointer (some ⟨w.heap.size, 0, none⟩)) (Lib.byteCells (91 :: ((xs.take k).map wrText).flatten)) wr ∧ Ext w wr) (fun i _ => n - (intOf i).toNat)
    case atStart => exact ⟨0, Nat.zero_le _, rfl, hB1', hE1⟩
    case round =>
      obtain ⟨k, hk, rfl, hBd, hE⟩ := hrel
      have hle := flat_le_T xs k
      by_cases hlt : k < n
      · obtain ⟨b, o, rfl, hbl, hc0⟩ := hX.2 (by omega)
        have hc : wr.cell? ⟨b, o + k, none⟩ = some (txv (xs.getD k [])) := (hE.old (p := ⟨b, o + k, none⟩) hbl).trans (hc0 k hlt)
        have hkx : k < xs.length := by omega
        have hv := hV (xs.getD k []) (by simp [List.getD, List.getElem?_eq_getElem hkx])
        have HF := Lib.hid (take_flat_T xs k hkx)
        have hle2 := flat_le_T xs (k + 1)
        rw [HF.out, List.length_append] at hle2
        clear hc0
        generalize xs.getD k [] = x at hc hv HF hle2
        unfold txv at hc
        go_wp2_with fail
        refine (wText_any x hv wr (hT.ext hE)).mono ?_
        rintro e w2 ⟨rfl, hE2⟩
        have hBd2 := builder_ext hBd hE2
        have hE02 := hE.trans hE2
        go_wp2_with fail
        refine (writeString w.heap.size w.heap.size _ ⟨(wrText x).toArray⟩ w2 (.inr hBd2) (by rw [toArr_size, bytes_length]; simp only [List.length_cons]; omega) hE02.sz).mono ?_
        rintro e w3 ⟨rfl, hB3, hb3⟩
        go_wp2_with fail
        go_roundw
        case rel =>
          refine ⟨k + 1, by omega, by go_num, ?_, Below.trans hE02 hb3⟩
          rw [HF.out]
          rw [Lib.strCells_toArray] at hB3
          simpa [Lib.byteCells] using hB3
        case measure => simp [intOf]; omega
      · obtain rfl : k = n := by omega
        have e : xs.take k = xs := List.take_of_length_le (by omega)
        rw [e] at hBd hle
        clear e
        go_wp2_with fail
        refine (writeByte w.heap.size w.heap.size _ 93 wr (.inr hBd) (by rw [bytes_length]; simp only [List.length_cons]; omega) hE.sz).mono ?_
        rintro e w2 ⟨rfl, hB2, hb2⟩
        have hE2 : Ext w w2 := Below.trans hE hb2
        have hB3 : Lib.IsBuilder 67 5 w.heap.size w.heap.size (Lib.byteCells (wrList wrText xs)) w2 := .inr (by
          unfold wrList
          simpa [Lib.byteCells] using hB2)
        go_wp2_with fail
        refine (Tryd.Builder_String_any w.heap.size w.heap.size _ w2 hB3 hE2.sz).mono ?_
        rintro e w3 ⟨rfl, hb3⟩
        go_wp2_with fail
        go_ret
        exact ⟨rfl, Below.trans hE2 hb3⟩
  go_enter Tryd.func18, Tryd.ntmps18
  go_wp2_with fail
  refine key.mono ?_
  rintro e w' ⟨rfl, hE⟩
  go_wp2_with fail
  go_ret
  exact ⟨rfl, hE⟩
end Go.Proofs.YthdbdpfgccipdaaDoor
