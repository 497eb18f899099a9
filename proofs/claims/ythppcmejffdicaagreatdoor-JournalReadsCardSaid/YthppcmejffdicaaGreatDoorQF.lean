/- The contract of the iterator behind strings.SplitAfterSeq at the end of a line: each piece is handed over, in order. -/
import Derived.Test.YthppcmejffdicaaGreatDoorQE
import Derived.Test.YthppcmejffdicaaGreatDoorQFeed
import Derived.RangeFuncNested
import Derived.RangeFuncBound
import Derived.RangeFuncCalls
import Derived.RangeFuncLeaves
import Derived.Shelf.Abstract
import Derived.Shelf.RegionOpen
import Derived.WalkKit
import Derived.OwnWalkIn
import Derived.TacticsInMore
import Derived.LoopNIn
import Derived.LoopIn

set_option linter.unusedSimpArgs false
set_option linter.unusedVariables false
namespace Go.Proofs.YthppcmejffdicaaGreatDoor
open Go.RowKit Hach Num Jn Go.Shelf
attribute [local go_sem] Oper.semAt_some

theorem index_nl (r : List UInt8) (w : World) : Calls Tryz.prog 72 #[.string ⟨r.toArray⟩, .string ⟨#[10]⟩] w fun e w' => e = .returned (.int .i64 (Lib.indexByte r 10)) ∧ w' = w :=
  (Tryz.strings_Index_one ⟨r.toArray⟩ 10 w).mono fun e w' h => by
    have e1 : (⟨r.toArray⟩ : ByteArray).data.toList = r := by simp
    rw [e1] at h; exact h
/- cuts at the end of a line -/
theorem cut_head (a b : List UInt8) : (⟨(a ++ 10 :: b).toArray⟩ : ByteArray).extract 0 (a.length + 1) = ⟨(a ++ [10]).toArray⟩ := by
  apply ba_ext
  rw [ByteArray.data_extract]
  simp only [List.extract_toArray, List.extract_eq_take_drop]
  simp [List.take_append, List.take_of_length_le]
theorem cut_tail (a b : List UInt8) : (⟨(a ++ 10 :: b).toArray⟩ : ByteArray).extract (a.length + 1) (a.length + b.length + 1) = ⟨b.toArray⟩ := by
  apply ba_ext
  rw [ByteArray.data_extract]
  simp only [List.extract_toArray, List.extract_eq_take_drop]
  rw [List.drop_append, List.drop_eq_nil_of_le (by omega), List.nil_append, show a.length + 1 - a.length = 1 by omega, List.drop_one, List.tail_cons, List.take_of_length_le (by omega)]
/- how much is left -/
def boxLen (w : World) (b : Nat) : Nat := match w.cell? ⟨b, 0, none⟩ with
  | some (.string x) => x.size
  | _ => 0
theorem boxLen_of {w : World} {b : Nat} {x : ByteArray} (h : w.cell? ⟨b, 0, none⟩ = some (.string x)) : boxLen w b = x.size := by unfold boxLen; rw [h]
/- a string in a box -/
def Box (w : World) (b : Nat) (v : Value) : Prop := w.cell? ⟨b, 0, none⟩ = some v ∧ w.frozen? ⟨b, 0, none⟩ = false
theorem Box.lt {w : World} {b : Nat} {v : Value} (h : Box w b v) : b < w.heap.size := World.block_lt_of_cell? w _ h.1
theorem Box.block {w w' : World} {b : Nat} {v : Value} (h : Box w b v) (e : w'.heap[b]? = w.heap[b]?) : Box w' b v :=
  ⟨(World.cell?_of_block (a := ⟨b, 0, none⟩) e).trans h.1, (World.frozen?_of_block (a := ⟨b, 0, none⟩) e).trans h.2⟩
theorem Box.set {w : World} {b : Nat} {v : Value} (h : Box w b v) (u : Value) : Box (w.setCell ⟨b, 0, none⟩ u) b u :=
  ⟨World.cell?_setCell_same w _ _ h.1, by rw [World.frozen?_setCell]; exact h.2⟩

set_option maxRecDepth 100000 in
set_option maxHeartbeats 4000000 in
theorem split_feeds (n0 bs bp bv : Nat) (s : List UInt8) (w : World) (keep : Nat → Prop) (hbs : Box w bs (.string ⟨s.toArray⟩)) (hbp : Box w bp (.string ⟨#[10]⟩)) (hbv : Box w bv (.int .i64 1)) (hd1 : bp ≠ bs) (hd2 : bv ≠ bs) (hs : s.length < 1073741824)
    (hk1 : keep bs) (hk2 : keep bp) (hk3 : keep bv) :
    Feeds Fence.wide n0 Tryz.prog 70 #[.pointer (some ⟨bp, 0, none⟩), .pointer (some ⟨bs, 0, none⟩), .pointer (some ⟨bv, 0, none⟩)] (fun x : List UInt8 => #[.string ⟨x.toArray⟩]) (fun k => k = bs) keep (pieces s) w := by
  intro l J W hW hJ hY h0
  have Bs := hbs.block (hW.block _ hbs.lt)
  have Bp := hbp.block (hW.block _ hbp.lt)
  have Bv := hbv.block (hW.block _ hbv.lt)
  have J0 := h0 W.heap.size (Nat.le_refl _)
  clear hbs hbp hbv h0
  refine callsIn_of_wp Tryz.func70 rfl trivial ?_ rfl
  simp only [Tryz.ntmps70, List.size_toArray, List.length_cons, List.length_nil, Nat.reduceAdd, Nat.reduceSub, Array.replicate_succ, Array.replicate_zero, List.push_toArray, List.append_toArray, List.nil_append, List.cons_append]
  have p1 := Bp.1
  gi_wp2
  gi_loopw [7, 8] (fun i fr wr => ∃ (pre : List (List UInt8)) (rest : List UInt8), pieces s = pre ++ pieces rest ∧ rest.length ≤ s.length ∧ Box wr bs (.string ⟨rest.toArray⟩) ∧ Box wr bp (.string ⟨#[10]⟩) ∧ Box wr bv (.int .i64 1) ∧ J W.heap.size pre wr ∧ W.heap.size ≤ wr.heap.size) (fun _ _ wr => boxLen wr bs)
  case atStart => exact ⟨[], s, rfl, Nat.le_refl _, Bs, Bp, Bv, J0, Nat.le_refl _⟩
  case round =>
    rename World => wo
    obtain ⟨pre, rest, hp, hrl, Cs, Cp, Cv, hJo, hz⟩ := hrel
    have hsz := toArr_size rest
    have q1 := Cs.1
    have q2 := Cp.1
    have q3 := Cv.1
    have q4 := Cs.2
    have HIX := Lib.hid (index_nl rest wo)
    rcases first_nl rest with ⟨hn, hix, hpc⟩ | ⟨a, b, rfl, hn, hix, hpc⟩
    · rw [hix] at HIX
      have hpr : pieces rest = [rest] := by unfold pieces; rw [hpc]; rfl
      rw [hpr] at hp
      obtain ⟨fn, tmps, assign, body, hy, hR⟩ := hY W.heap.size pre rest [] wo hp (Nat.le_refl _) hz hJo
      clear hn hix hpc hpr
      gi_wp2
      refine ⟨trivial, fun h => (by cases h), (callsIn_wide.2 HIX.out).mono ?_⟩
      rintro e w1 ⟨rfl, rfl⟩
      gi_wp2
      refine ⟨fun h => (by cases h), hR.mono ?_⟩
      rintro e W3 ⟨rfl, hJ3, hk⟩
      gi_wp2
      go_end0
      exact ⟨⟨_, rfl⟩, W.heap.size, Nat.le_refl _, by rw [hp]; exact hJ3⟩
    · rw [hix] at HIX
      have hpr : pieces (a ++ 10 :: b) = (a ++ [10]) :: pieces b := by unfold pieces; rw [hpc]; rfl
      rw [hpr] at hp
      have hz0 : (a ++ 10 :: b).length = a.length + b.length + 1 := by rw [List.length_append, List.length_cons]; omega
      obtain ⟨fn, tmps, assign, body, hy, hR⟩ := hY W.heap.size pre (a ++ [10]) (pieces b) wo hp (Nat.le_refl _) hz hJo
      have x1 := cut_head a b
      have x2 := cut_tail a b
      rw [hz0] at hrl hsz
      have BL := Lib.hid ((boxLen_of q1).trans hsz)
      clear hn hix hpc hpr hz0
      generalize (⟨(a ++ 10 :: b).toArray⟩ : ByteArray) = S at *
      have HP := Lib.hid hp
      clear hp
      have HX : Hid (a ++ [10] = a ++ [10]) := rfl
      generalize a ++ [10] = X at *
      gi_wp2
      refine ⟨trivial, fun h => (by cases h), (callsIn_wide.2 HIX.out).mono ?_⟩
      rintro e w1 ⟨rfl, rfl⟩
      gi_wp2
      refine ⟨fun h => (by cases h), hR.mono ?_⟩
      rintro e W3 ⟨rfl, hJ3, hk⟩
      have D1 := Cs.block (hk.block bs Cs.lt (.inr hk1))
      have D2 := Cp.block (hk.block bp Cp.lt (.inr hk2))
      have D3 := Cv.block (hk.block bv Cv.lt (.inr hk3))
      have y1 := D1.1
      have y2 := D2.1
      have y3 := D3.1
      have y4 := D1.2
      clear q1 q2 q3 q4
      gi_wp2
      go_roundw
      case rel =>
        refine ⟨pre ++ [X], b, by rw [HP.out]; simp, by omega, D1.set _, D2.block (Below.heap_setCell _ _ _ _ hd1), D3.block (Below.heap_setCell _ _ _ _ hd2), hJ _ _ _ _ (Nat.le_refl _) hJ3 ⟨rfl, rfl, rfl, Nat.le_of_eq (setCell_size _ _ _).symm, fun k _ _ hk => Below.heap_setCell _ _ _ _ hk⟩, ?_⟩
        rw [setCell_size]; exact Nat.le_trans hz hk.size
      case measure =>
        rw [BL.out, boxLen_of (D1.set _).1, toArr_size]; omega
end Go.Proofs.YthppcmejffdicaaGreatDoor

/- What a piece says, by its words; the contracts of the words. -/
namespace Go.Proofs.YthppcmejffdicaaGreatDoor
open Go.RowKit Hach Num Jn

/- a piece: a line with its end, or what is left -/
def Pc (x : List UInt8) : Prop := (∃ a, x = a ++ [10] ∧ (10 : UInt8) ∉ a) ∨ (10 : UInt8) ∉ x
theorem pcs_pc : ∀ (s x : List UInt8), x ∈ (pcs s).1 → ∃ a, x = a ++ [10] ∧ (10 : UInt8) ∉ a
  | [], x, h => by simp [pcs] at h
  | c :: r, x, h => by
    unfold pcs at h
    split at h
    · rename_i hc
      rcases List.mem_cons.1 h with h | h
      · exact ⟨[], by rw [h]; rfl, by simp⟩
      · exact pcs_pc r x h
    · rename_i hc
      split at h
      · cases h
      · rename_i p ps hp
        rcases List.mem_cons.1 h with h | h
        · obtain ⟨a, ha, hn⟩ := pcs_pc r p (by rw [hp]; exact List.mem_cons_self)
          exact ⟨c :: a, by rw [h, ha]; rfl, by simp only [List.mem_cons, not_or]; exact ⟨fun e => hc e.symm, hn⟩⟩
        · exact pcs_pc r x (by rw [hp]; exact List.mem_cons_of_mem _ h)
theorem pieces_pc {s x : List UInt8} (h : x ∈ pieces s) : Pc x := by
  unfold pieces at h
  rcases List.mem_append.1 h with h | h
  · exact .inl (pcs_pc s x h)
  · rw [List.mem_singleton.1 h]; exact .inr (pcs_rest s)
theorem flat_le : ∀ {L : List (List UInt8)} {x : List UInt8}, x ∈ L → x.length ≤ L.flatten.length
  | y :: L, x, h => by
    rw [List.flatten_cons, List.length_append]
    rcases List.mem_cons.1 h with h | h
    · rw [h]; omega
    · have := flat_le h; omega
theorem pieces_le {s x : List UInt8} (h : x ∈ pieces s) : x.length ≤ s.length := by
  have h1 := flat_le h
  unfold pieces at h1
  rw [List.flatten_append, List.length_append] at h1
  have h2 := congrArg List.length (pcs_flat s)
  rw [List.length_append] at h2
  simp at h1
  simp at h2
  omega
/- what is left of a piece without its end -/
def trm (x : List UInt8) : List UInt8 := Lib.trimSuffix x [10]
theorem trm_nl (a : List UInt8) : trm (a ++ [10]) = a := trim_nl a
def third (y : List UInt8) : Option (List UInt8) := (cut32 y).bind fun p => (cut32 p.2).map (·.2)
theorem recOf_words {x : List UInt8} (h : Pc x) : recOf x = match third (trm x) with
    | none => none
    | some b => if line (une b) = x then some (une b) else none := by
  rcases h with ⟨a, rfl, hn⟩ | hn
  · rw [trm_nl]
    unfold recOf body
    rw [List.dropLast_concat]
    rfl
  · rw [recOf_rest hn]
    cases third (trm x) with
    | none => rfl
    | some b =>
      simp only
      rw [if_neg]
      intro e
      exact hn (by rw [← e, line_front]; simp)
end Go.Proofs.YthppcmejffdicaaGreatDoor

/- The contract of the iterator behind the program's lines: each record is handed over, in order. -/
namespace Go.Proofs.YthppcmejffdicaaGreatDoor
open Go.RowKit Hach Num Jn Go.Shelf
attribute [local go_sem] Oper.semAt_some

theorem trim_any (x : List UInt8) (hx : x.length < 16777216) (w : World) : Calls Tryz.prog 54 #[.string ⟨x.toArray⟩, .string ⟨#[10]⟩] w fun e w' => e = .returned (.string ⟨(trm x).toArray⟩) ∧ w' = w :=
  (Tryz.strings_TrimSuffix ⟨x.toArray⟩ ⟨#[10]⟩ w (by rw [toArr_size]; omega)).mono fun e w' h => by
    have e1 : Lib.trimSuffix (⟨x.toArray⟩ : ByteArray).data.toList (⟨#[10]⟩ : ByteArray).data.toList = trm x := by unfold trm; simp
    rw [e1] at h; exact h
theorem trm_le (x : List UInt8) : (trm x).length ≤ x.length := by
  unfold trm Lib.trimSuffix
  split
  · rw [List.length_take]; omega
  · exact Nat.le_refl _
/- the words of a line: the third, or fewer than three -/
theorem words_any (y : List UInt8) (hy : y.length < 16777216) (w : World) (hT : Tabs w) : Calls Tryz.prog 53 #[.string ⟨y.toArray⟩, .string ⟨#[32]⟩, .int .i64 3] w fun e w' =>
    (∃ g n c, e = .returned (.slice (some ⟨g, 0, none⟩) n c) ∧ (match third y with | none => n < 3 | some b => n = 3 ∧ g < w'.heap.size ∧ w'.cell? ⟨g, 2, none⟩ = some (.string ⟨b.toArray⟩))) ∧ Ext w w' := by
  obtain ⟨_, _, m, hm⟩ := hT
  refine (Tryz.strings_SplitN ⟨y.toArray⟩ ⟨#[32]⟩ 3 m w (by rw [toArr_size]; omega) hm (by decide) (by omega) (by omega)).mono ?_
  rintro e w' ⟨rfl, rfl⟩
  rw [toArr_size, splitB_lists]
  refine ⟨⟨_, _, _, rfl, ?_⟩, Ext.alloc _ _⟩
  have h3 := words3 y
  unfold third
  cases h1 : cut32 y with
  | none =>
    rw [h1] at h3
    simp only [Option.bind_none] at h3 ⊢
    rw [List.length_map]; exact h3
  | some p =>
    rw [h1] at h3
    simp only [Option.bind_some] at h3 ⊢
    cases h2 : cut32 p.2 with
    | none =>
      rw [h2] at h3
      simp only [Option.map_none] at h3 ⊢
      rw [List.length_map]; exact h3
    | some q =>
      rw [h2] at h3
      simp only [Option.map_some] at h3 ⊢
      obtain ⟨a, b, h3⟩ := h3
      rw [h3]
      refine ⟨rfl, by rw [show (World.alloc w _).heap.size = _ from Array.size_push _]; omega, ?_⟩
      rw [World.cell?_alloc_mark]
      simp [Lib.cellsOf]

theorem Box.new (w : World) (v : Value) (t : TypeId) : Box (w.alloc (.cells #[v] t)) w.heap.size v :=
  ⟨by rw [World.cell?_alloc_mark]; rfl, by unfold World.frozen?; rw [show (w.alloc (.cells #[v] t)).heap[(⟨w.heap.size, 0, none⟩ : Addr).block]? = some (.cells #[v] t) from Array.getElem?_push_size]; rfl⟩
theorem Box.ext {w w' : World} {b : Nat} {v : Value} (h : Box w b v) (hE : Ext w w') : Box w' b v := h.block (Below.block hE _ h.lt)
theorem sas_any (s : List UInt8) (w : World) : Calls Tryz.prog 52 #[.string ⟨s.toArray⟩, .string ⟨#[10]⟩] w fun e w' => ∃ bs bp bv, e = .returned (.func (.func 70) #[] #[.pointer (some ⟨bp, 0, none⟩), .pointer (some ⟨bs, 0, none⟩), .pointer (some ⟨bv, 0, none⟩)]) ∧ Ext w w' ∧ (w.heap.size ≤ bs ∧ w.heap.size ≤ bp ∧ w.heap.size ≤ bv) ∧ bp ≠ bs ∧ bv ≠ bs ∧
    Box w' bs (.string ⟨s.toArray⟩) ∧ Box w' bp (.string ⟨#[10]⟩) ∧ Box w' bv (.int .i64 1) := by
  have hmf : ∀ (fn : Fn) (first cap : Array Value) (w : World), (Instr.makeFunc fn first cap).run Tryz.prog w = .ok (.func fn first cap) w := fun _ _ _ _ => rfl
  go_enter Tryz.func52, Tryz.ntmps52
  go_wp2_with (go_at_call 61; go_in)
  go_ret
  refine ⟨w.heap.size, w.heap.size + 1, w.heap.size + 2, rfl, ?_, by omega, by omega, by omega, ?_, ?_, ?_⟩
  · exact ((Ext.alloc _ _).trans (Ext.alloc _ _)).trans (Ext.alloc _ _)
  · exact (Box.new w _ _).ext ((Ext.alloc _ _).trans (Ext.alloc _ _))
  · have h := (Box.new (w.alloc (.cells #[.string ⟨s.toArray⟩] 9)) (.string ⟨#[10]⟩) 9).ext (Ext.alloc _ (.cells #[.int .i64 1] 3))
    rw [show (World.alloc w (.cells #[.string ⟨s.toArray⟩] 9)).heap.size = _ from Array.size_push _] at h
    exact h
  · have h := Box.new ((w.alloc (.cells #[.string ⟨s.toArray⟩] 9)).alloc (.cells #[.string ⟨#[10]⟩] 9)) (.int .i64 1) 3
    rw [show (World.alloc (World.alloc w (.cells #[.string ⟨s.toArray⟩] 9)) (.cells #[.string ⟨#[10]⟩] 9)).heap.size = _ from Array.size_push _, show (World.alloc w (.cells #[.string ⟨s.toArray⟩] 9)).heap.size = _ from Array.size_push _] at h
    exact h

theorem third_le {y b : List UInt8} (h : third y = some b) : b.length ≤ y.length := by
  unfold third at h
  cases h1 : cut32 y with
  | none => rw [h1] at h; cases h
  | some p =>
    rw [h1] at h
    simp only [Option.bind_some] at h
    cases h2 : cut32 p.2 with
    | none => rw [h2] at h; cases h
    | some q =>
      rw [h2] at h
      simp only [Option.map_some, Option.some.injEq] at h
      have e1 := congrArg List.length (cut32_some (a := p.1) (b := p.2) h1).1
      have e2 := congrArg List.length (cut32_some (a := q.1) (b := q.2) h2).1
      simp only [List.length_append, List.length_cons] at e1 e2
      rw [← h]; omega
theorem round_any {l2 m m' : Nat} {P : Program} {l : Nat} {f : FuncId} {tmps : Array Value} {assign body : Code} {w : World} {R : Ending → World → Prop} (h : RoundIn Fence.wide m P l f tmps assign body w R) : RoundIn (Fence.wide.inRound l2) m' P l f tmps assign body w R :=
  ⟨h.1, fun c cs _ => h.2 c cs (fun d hd => by cases hd)⟩
theorem pieces_mem {s : List UInt8} {pre post : List (List UInt8)} {x : List UInt8} (h : pieces s = pre ++ x :: post) : x ∈ pieces s := by rw [h]; simp

set_option maxRecDepth 100000 in
set_option maxHeartbeats 4000000 in
theorem lines_feeds (n0 bx : Nat) (hn0 : 6 ≤ n0) (s : List UInt8) (w : World) (keep : Nat → Prop) (hbx : Box w bx (.string ⟨s.toArray⟩)) (hT : Tabs w) (hs : s.length < 16777216) (hk6 : ∀ k, k < 6 → keep k) :
    Feeds Fence.wide n0 Tryz.prog 51 #[.pointer (some ⟨bx, 0, none⟩)] (fun x : List UInt8 => #[.string ⟨x.toArray⟩]) (fun _ => False) keep (recs s) w := by
  intro l J W hW hJ hY h0
  have Bx := hbx.block (hW.block _ hbx.lt)
  have hTW := hT.below hW hT.sz
  have b1 := Bx.1
  refine callsIn_of_wp_marks Tryz.func51 rfl trivial ?_ rfl
  simp only [Tryz.ntmps51, List.size_toArray, List.length_cons, List.length_nil, Nat.reduceAdd, Nat.reduceSub, Array.replicate_succ, Array.replicate_zero, List.push_toArray, List.append_toArray, List.nil_append, List.cons_append]
  have hlt := Bx.lt
  gi_wp2
  have hY0 := Box.new W (.func (.yield l) #[] #[]) 34
  have hEY := Ext.alloc W (.cells #[.func (.yield l) #[] #[]] 34)
  have hszY : (W.alloc (.cells #[.func (.yield l) #[] #[]] 34)).heap.size = W.heap.size + 1 := Array.size_push _
  refine ⟨trivial, fun h => (by cases h), (callsIn_wide.2 (sas_any s _)).mono ?_⟩
  rintro e w1 ⟨bs, bp, bv, rfl, hE1, hbs, hd1, hd2, B1, B2, B3⟩
  have hY1 := hY0.ext hE1
  have hEW := hEY.trans hE1
  have hz1 : W.heap.size + 1 ≤ w1.heap.size := by have := hE1.sz; omega
  have hbsl := B1.lt
  rw [hszY] at hbs
  have hW6 := hTW.sz
  clear hY0 hEY hE1 hszY b1
  gi_wp2
  refine wpIn_feed (F := Fence.wide) rfl (by omega) (gf := 70) (lb := #[.pointer (some ⟨bp, 0, none⟩), .pointer (some ⟨bs, 0, none⟩), .pointer (some ⟨bv, 0, none⟩)]) rfl trivial (enters_of Tryz.func70 (by kernel_rfl) rfl)
    (fun x : List UInt8 => #[.string ⟨x.toArray⟩]) (fun k => k = bs) (fun k => k < 6 ∨ k = bs ∨ k = bp ∨ k = bv) (pieces s) (split_feeds _ bs bp bv s w1 _ B1 B2 B3 hd1 hd2 (by omega) (.inr (.inl rfl)) (.inr (.inr (.inl rfl))) (.inr (.inr (.inr rfl)))) (fun _ => rfl)
    (fun k hk => by rw [hk]; exact hbsl) (fun k hk => by have := B2.lt; have := B3.lt; omega)
    (fun hi pre A => J hi (pre.filterMap recOf) A ∧ Box A W.heap.size (.func (.yield l) #[] #[]) ∧ Tabs A) ?stays ?start ?a1 ?assign ?body ?done
  case stays =>
    rintro hi pre A B hh ⟨h1, h2, h3⟩ hs
    have hla := h2.lt
    exact ⟨hJ hi _ A B (by omega) h1 (hs.more (by omega) (Nat.le_refl _) fun k hk => .inr ⟨by omega, by omega⟩), h2.block (hs.block _ hla (by omega) (by omega)), h3.keep hs.size fun k hk => hs.block k (by have := h3.sz; omega) (by omega) (by omega)⟩
  case start =>
    exact fun hi hh => ⟨hJ hi _ W w1 (by omega) (h0 hi (by omega)) (Step.ext _ _ _ hEW), hY1, hTW.ext hEW⟩
  case assign =>
    intro l2 x W2 K hK
    gi_wp2
    exact hK
  case body =>
    rintro l2 hi pre x post A hS hh hA ⟨h1, h2, h3⟩
    have hm := pieces_mem hS
    have hxl := pieces_le hm
    have HREC := Lib.hid (recOf_words (pieces_pc hm))
    have hxs := toArr_size x
    have HTR := Lib.hid (trim_any x (by omega) A)
    have htl := trm_le x
    have HWD := Lib.hid (words_any (trm x) (by omega) A h3)
    have hFM : (pre ++ [x]).filterMap recOf = pre.filterMap recOf ++ (recOf x).toList := by rw [List.filterMap_append]; cases h : recOf x <;> simp [h]
    have HFM := Lib.hid hFM
    clear hFM
    gi_wp2
    refine ⟨trivial, fun h => (by cases h), (CallsIn.inRound l2 (callsIn_wide.2 HTR.out)).mono ?_⟩
    rintro e A1 ⟨rfl, rfl⟩
    rename World => A
    gi_wp2
    refine ⟨trivial, fun h => (by cases h), (CallsIn.inRound l2 (callsIn_wide.2 HWD.out)).mono ?_⟩
    rintro e A2 ⟨⟨g, n, c, rfl, hw⟩, hE2⟩
    have hzA := hE2.sz
    have hJ2 := hJ hi _ A A2 (by omega) h1 (Step.ext _ _ _ hE2)
    have hY2 := h2.ext hE2
    have hT2 := h3.ext hE2
    cases h3w : third (trm x) with
    | none =>
      rw [h3w] at hw HREC
      have hn : decide ((n : Int) < 3) = true := by rw [decide_eq_true_iff]; exact_mod_cast hw
      clear h3w hw
      gi_wp2
      refine ⟨Keeps.ext _ _ _ hE2, ?_, hY2, hT2⟩
      rw [HFM.out, HREC.out]
      simpa using hJ2
    | some b =>
      rw [h3w] at hw HREC
      obtain ⟨rfl, hgl, hc2⟩ := hw
      have hbl : b.length ≤ x.length := Nat.le_trans (third_le h3w) htl
      clear h3w
      have hul := une_len b.length b (Nat.le_refl _)
      gi_wp2
      refine ⟨trivial, fun h => (by cases h), (CallsIn.inRound l2 (callsIn_wide.2 (show_any b (by omega) A2))).mono ?_⟩
      rintro e A3 ⟨rfl, hE3⟩
      have hLN := lineP_any (une b) (by omega) A3 (hT2.ext hE3)
      gi_wp2
      refine ⟨trivial, fun h => (by cases h), (CallsIn.inRound l2 (callsIn_wide.2 hLN)).mono ?_⟩
      rintro e A4 ⟨rfl, hE4⟩
      have hE34 := hE3.trans hE4
      have hE24 := hE2.trans hE34
      have hJ4 := hJ hi _ A2 A4 (by omega) hJ2 (Step.ext _ _ _ hE34)
      have hY4 := hY2.ext hE34
      have hT4 := hT2.ext hE34
      have hz4 := hE24.sz
      by_cases hq : line (une b) = x
      · rw [if_pos hq] at HREC
        obtain ⟨lv, hlv⟩ : ∃ lv : ByteArray, (⟨(line (une b)).toArray⟩ : ByteArray) = lv := ⟨_, rfl⟩
        obtain ⟨xv, hxv⟩ : ∃ xv : ByteArray, (⟨x.toArray⟩ : ByteArray) = xv := ⟨_, rfl⟩
        have te : (lv.toList == xv.toList) = true := by rw [← hlv, ← hxv, hq]; simp
        have hrs : recs s = pre.filterMap recOf ++ une b :: post.filterMap recOf := by
          rw [recs_pieces, hS, List.filterMap_append, List.filterMap_cons, HREC.out]
        obtain ⟨fn, tmps, assign, body, hy, hR⟩ := hY hi (pre.filterMap recOf) (une b) (post.filterMap recOf) A4 hrs (by omega) (by omega) hJ4
        have yv := hY4.1
        rw [hlv]
        rw [hxv]
        have HXV := Lib.hid hxv
        clear hlv hxv hq hrs
        gi_wp2
        refine ⟨fun h => (by cases h), (round_any hR).mono ?_⟩
        rintro e A5 ⟨rfl, hJ5, hk5⟩
        have hbp := B2.lt
        have hbv := B3.lt
        gi_wp2
        refine ⟨(Keeps.ext _ _ _ hE24).trans ⟨hk5.size, fun k hk h => hk5.block k hk ?_⟩, ?_, hY4.block (hk5.block _ hY4.lt (.inl ⟨Nat.le_refl _, by omega⟩)), hT4.keep hk5.size fun k hk => hk5.block k (by have := hT4.sz; omega) (.inr (hk6 k hk))⟩
        · rcases h with h | h | h | h | h
          · exact .inl ⟨by omega, h.2⟩
          · exact .inr (hk6 k h)
          · exact .inl ⟨by omega, by omega⟩
          · exact .inl ⟨by omega, by omega⟩
          · exact .inl ⟨by omega, by omega⟩
        · rw [HFM.out, HREC.out]; exact hJ5
      · rw [if_neg hq] at HREC
        obtain ⟨lv, hlv⟩ : ∃ lv : ByteArray, (⟨(line (une b)).toArray⟩ : ByteArray) = lv := ⟨_, rfl⟩
        obtain ⟨xv, hxv⟩ : ∃ xv : ByteArray, (⟨x.toArray⟩ : ByteArray) = xv := ⟨_, rfl⟩
        have te : (lv.toList == xv.toList) = false := by
          rw [beq_eq_false_iff_ne, ← hlv, ← hxv]
          intro e
          exact hq (txt_eq (eq_of_toList e))
        rw [hlv]
        rw [hxv]
        have HXV := Lib.hid hxv
        clear hlv hxv hq
        gi_wp2
        refine ⟨fun _ h => (by cases h), ?_⟩
        gi_wp2
        refine ⟨Keeps.ext _ _ _ hE24, ?_, hY4, hT4⟩
        rw [HFM.out, HREC.out]
        simpa using hJ4
  case done =>
    rintro D hi A hD hDh ⟨h1, h2, h3⟩ hK
    gi_wp2
    refine ⟨by simp, .inl ⟨_, _, rfl, run_takeDeferred hK, ?_⟩⟩
    refine ⟨_, results_none rfl _ _ _, ⟨_, rfl⟩, hi, by omega, ?_⟩
    rw [recs_pieces]
    exact hJ hi _ _ _ (by omega) h1 (Step.putObj A _ (by omega) hDh)
end Go.Proofs.YthppcmejffdicaaGreatDoor
