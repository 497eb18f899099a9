/- event.Text (printed by gen_gk.py). -/
import Derived.Test.YtompfgofaplffaaGreatDoorQGh
import Derived.Test.YtompfgofaplffaaGreatDoorQGj
set_option linter.unusedSimpArgs false
set_option linter.unusedVariables false
namespace Go.Proofs.YtompfgofaplffaaGreatDoor
open Go.RowKit Hach Num

theorem ownS_two (w : World) (x y : List UInt8) {B : Nat} (hB : B ≤ w.heap.size) : OwnS (w.alloc (.cells #[strV x, strV y] 9)) B (.slice (some ⟨w.heap.size, 0, none⟩) 2 2) [x, y] :=
  ⟨rfl, .inr ⟨w.heap.size, 2, _, rfl, hB, Go.heap_alloc_new _ _, Nat.le_refl _, by decide, rfl, rfl⟩⟩
theorem strRow_one (w : World) (x : List UInt8) : StrRow (w.alloc (.cells #[strV x] 9)) w.heap.size [x] := fun i hi => by
  obtain rfl : i = 0 := by simpa using hi
  exact cells_of (Go.heap_alloc_new _ _) 0 _ rfl
theorem strRow_two (w : World) (x y : List UInt8) : StrRow (w.alloc (.cells #[strV x, strV y] 9)) w.heap.size [x, y] := fun i hi => by
  have hi2 : i < 2 := hi
  obtain rfl | rfl : i = 0 ∨ i = 1 := by omega
  · exact cells_of (Go.heap_alloc_new _ _) 0 _ rfl
  · exact cells_of (Go.heap_alloc_new _ _) 1 _ rfl
theorem glue_len : ∀ l : List (List UInt8), (∀ a ∈ l, a.length ≤ 30) → (glue l).length ≤ 31 * l.length
  | [], _ => Nat.le_refl _
  | [a], h => by have := h a (by simp); simp [glue]; omega
  | a :: b :: l, h => by
    have h1 := h a (by simp)
    have h2 := glue_len (b :: l) (fun x hx => h x (List.mem_cons_of_mem _ hx))
    show (a ++ 32 :: glue (b :: l)).length ≤ _
    simp only [List.length_append, List.length_cons] at *
    omega
theorem word_len (k : Int) : (wordK k).length ≤ 30 := by
  unfold wordK
  split
  · decide
  · split
    · decide
    · split <;> decide
theorem wordsE_len (e : Ev) (he : InEv e) : (wordsE e).length ≤ 5 ∧ ∀ a ∈ wordsE e, a.length ≤ 30 := by
  have h0 := word_len e.kind
  have h1 := (itoa_size he.2.2.1).1
  have h2 := (itoa_size he.2.1).1
  have h3 := (itoa_size (secE_in he)).1
  have h4 : wAt.length ≤ 30 := by decide
  unfold wordsE
  split
  · refine ⟨by simp, fun a h => ?_⟩
    simp only [List.mem_cons, List.not_mem_nil, or_false] at h
    rcases h with rfl | rfl | rfl | rfl <;> omega
  · refine ⟨by simp, fun a h => ?_⟩
    simp only [List.mem_cons, List.not_mem_nil, or_false] at h
    rcases h with rfl | rfl | rfl | rfl | rfl <;> omega
theorem text_words {e : Ev} (he : InEv e) (hk : 1 ≤ e.kind ∧ e.kind ≤ 4) (g c : Nat) (w : World) (hr : StrRow w g (wordsE e)) (hg : g < w.heap.size) (hc : (wordsE e).length ≤ c) :
    Calls Tryz.prog 19 #[.slice (some ⟨g, 0, none⟩) (wordsE e).length c, .string ⟨#[32]⟩] w fun r w' => r = .returned (.string ⟨(textE e).toArray⟩) ∧ Ext w w' := by
  obtain ⟨h1, h2⟩ := wordsE_len e he
  have h3 := glue_len _ h2
  have e1 : textE e = glue (wordsE e) := by unfold textE; rw [if_pos hk]
  rw [e1]
  exact join_any g c (wordsE e) w hr hg hc (by omega) (by omega)
set_option maxRecDepth 100000 in
set_option maxHeartbeats 1000000 in
theorem text_bad (e : Ev) (h : ¬ (1 ≤ e.kind ∧ e.kind ≤ 4)) (w : World) : Calls Tryz.prog 7 #[.agg #[.int .i64 e.kind, .int .i64 e.at_, .int .i64 e.id, .int .i64 e.other, .int .i64 e.n]] w fun r w' => r = .returned (.string ⟨(textE e).toArray⟩) ∧ Ext w w' := by
  have ht : textE e = [] := by unfold textE; rw [if_neg h]
  rw [ht]
  by_cases h1 : e.kind < 1
  · have t1 : decide (e.kind < 1) = true := by simpa using h1
    go_enter Tryz.func7, Tryz.ntmps7
    go_wp2_with fail
    go_ret
    exact ⟨rfl, Ext.alloc _ _⟩
  · have t1 : decide (e.kind < 1) = false := by simpa using h1
    have t2 : decide (4 < e.kind) = true := by simp; omega
    go_enter Tryz.func7, Tryz.ntmps7
    go_wp2_with fail
    go_ret
    exact ⟨rfl, Ext.alloc _ _⟩
def x1K : Array Value := #[.string ⟨#[100, 114, 111, 112]⟩, .func (.func 34) #[] #[], .func (.func 35) #[] #[], .func (.func 36) #[] #[], .func (.func 37) #[] #[], .func (.func 38) #[] #[]]
theorem x1K_one : ∀ v ∈ x1K.toList, v.oneCell' = true := by
  intro v hv
  simp [x1K] at hv
  rcases hv with rfl | rfl | rfl | rfl | rfl | rfl <;> rfl
set_option maxRecDepth 100000 in
set_option maxHeartbeats 8000000 in
theorem text_k1 (t i u n : Int) (he : InEv ⟨1, t, i, u, n⟩) (w : World) (ht : Tabs w) : Calls Tryz.prog 7 #[.agg #[.int .i64 1, .int .i64 t, .int .i64 i, .int .i64 u, .int .i64 n]] w fun r w' => r = .returned (.string ⟨(textE ⟨1, t, i, u, n⟩).toArray⟩) ∧ Ext w w' := by
  have HT := Lib.hid (fun W (h : Ext w W) => itoa_any t he.2.1 W (ht.ext h))
  have HI := Lib.hid (fun W (h : Ext w W) => itoa_any i he.2.2.1 W (ht.ext h))
  have HN := Lib.hid (fun W (h : Ext w W) => itoa_any n (show InI n from he.2.2.2.2) W (ht.ext h))
  have HS := Lib.hid (fun W => index_any ⟨1, t, i, u, n⟩ W)
  have hwd : wordsE ⟨1, t, i, u, n⟩ = [[100, 114, 111, 112], Lib.itoa i, Lib.itoa n, [97, 116], Lib.itoa t] := rfl
  have HJ := Lib.hid (fun g c W h1 h2 h3 => text_words he (show (1 : Int) ≤ 1 ∧ (1 : Int) ≤ 4 from by decide) g c W h1 h2 h3)
  rw [hwd] at HJ
  have HK := Lib.hid (fun W => kinds_any W)
  have hE0 : EvBlk (w.alloc (.cells #[.int .i64 1, .int .i64 t, .int .i64 i, .int .i64 u, .int .i64 n] 23)) w.heap.size ⟨1, t, i, u, n⟩ := Go.heap_alloc_new w _
  have hX0 := Ext.alloc w (.cells #[.int .i64 1, .int .i64 t, .int .i64 i, .int .i64 u, .int .i64 n] 23)
  have hS0 : (w.alloc (.cells #[.int .i64 1, .int .i64 t, .int .i64 i, .int .i64 u, .int .i64 n] 23)).heap.size = w.heap.size + 1 := World.size_alloc _ _
  obtain ⟨V, hV⟩ : ∃ V, w.alloc (.cells #[.int .i64 1, .int .i64 t, .int .i64 i, .int .i64 u, .int .i64 n] 23) = V := ⟨_, rfl⟩
  rw [hV] at hE0 hX0 hS0
  have HV := Lib.hid hV
  have HE0 := Lib.hid hE0
  have HX0 := Lib.hid hX0
  have HS0 := Lib.hid hS0
  clear hE0 hX0 hS0 hV ht he hwd
  go_enter Tryz.func7, Tryz.ntmps7
  go_wp2_with fail
  rw [HV.out]
  have HQ := Lib.hid (fun W (h : Ext V.drew W) => (HE0.out.ext (Ext.trans (Ext.drew V) h)).get)
  apply wp_region_seq (l := [_, _, _, _, _, _, _]) (t := [_]) [some 13, some 14, some 15, some 16, some 17, some 18, some 3, none] [[], [], [1], [2], [0, 3], [4], [], [5, 6]] [7, 7, 7, 7, 7, 7, 7] [(kdS 0), eqv _, eqv _, (eqv (.int .i64 0)), (kpS 0), (eqv (.agg x1K)), (nwB (w.heap.size + 1) 53 zK)] (by kernel_rfl) (by kernel_rfl) ⟨?o0, ?o1, ?o2, ?o3, ?o4, ?o5, ?o6, trivial⟩ ?last
  case o0 => -- Op.call { callee := Callee.value (Operand.func 17), args := #[], argTypes := #[]
    intro xv W hE _
    simp only [putD, List.foldl_nil, List.getD_cons_zero]
    refine OpGoal.plain ?_
    go_wp2_with fail
    refine (HK.out W).mono ?_
    rintro r W' ⟨rfl, hW'⟩
    go_wp2_with fail
    exact ⟨rfl, Ext.alloc _ _, W.heap.size, rfl, Nat.zero_le _, Go.heap_alloc_new _ _⟩
  case o1 => -- Op.fieldAddr 23 (Operand.tmp 1) 0
    intro xv W hE _
    simp only [putD, List.foldl_nil, List.getD_cons_zero, List.getD_cons_succ]
    refine OpGoal.plain ?_
    go_wp2_with fail
    exact ⟨rfl, Ext.refl _, rfl⟩
  case o2 => -- Op.load 3 (Operand.tmp 14)
    intro xv W hE hp
    have r1 : xv 1 = _ := hp.1
    clear hp
    obtain ⟨c0, _⟩ := HQ.out W hE
    simp only [putD, List.foldl_nil, List.foldl_cons, List.getD_cons_zero, List.getD_cons_succ, Act.put, List.setIfInBounds_toArray, List.set_cons_zero, List.set_cons_succ]
    refine OpGoal.plain ?_
    go_wp2_with fail
    exact ⟨rfl, Ext.refl _, rfl⟩
  case o3 => -- Op.binOp BinOp.sub 3 (Operand.tmp 15) (Operand.const (Value.int IntKind.i64 1)) 
    intro xv W hE hp
    have r2 : xv 2 = _ := hp.1
    clear hp
    simp only [putD, List.foldl_nil, List.foldl_cons, List.getD_cons_zero, List.getD_cons_succ, Act.put, List.setIfInBounds_toArray, List.set_cons_zero, List.set_cons_succ]
    refine OpGoal.plain ?_
    go_wp2_with fail
    exact ⟨rfl, Ext.refl _, rfl⟩
  case o4 => -- Op.indexAddr 54 (Operand.tmp 13) (Operand.tmp 16)
    intro xv W hE hp
    obtain ⟨g0, r0, lo0, h0⟩ := hp.1
    have r3 : xv 3 = _ := hp.2.1
    clear hp
    simp only [putD, List.foldl_nil, List.foldl_cons, List.getD_cons_zero, List.getD_cons_succ, Act.put, List.setIfInBounds_toArray, List.set_cons_zero, List.set_cons_succ]
    refine OpGoal.plain ?_
    go_wp2_with fail
    exact ⟨rfl, Ext.refl _, g0, rfl, h0⟩
  case o5 => -- Op.load 53 (Operand.tmp 17)
    intro xv W hE hp
    obtain ⟨g4, r4, h4⟩ := hp.1
    clear hp
    obtain ⟨c0, _⟩ := HQ.out W hE
    have q0 := kinds_cell h4 0 0 (by decide) (by decide)
    have q1 := kinds_cell h4 0 1 (by decide) (by decide)
    have q2 := kinds_cell h4 0 2 (by decide) (by decide)
    have q3 := kinds_cell h4 0 3 (by decide) (by decide)
    have q4 := kinds_cell h4 0 4 (by decide) (by decide)
    have q5 := kinds_cell h4 0 5 (by decide) (by decide)
    simp only [kindC, List.getD_cons_zero, List.getD_cons_succ, List.getElem?_cons_zero, List.getElem?_cons_succ, fnV, Nat.one_mul, Nat.zero_mul, Nat.zero_add, Nat.reduceMul, Nat.reduceAdd] at q0 q1 q2 q3 q4 q5
    simp only [putD, List.foldl_nil, List.foldl_cons, List.getD_cons_zero, List.getD_cons_succ, Act.put, List.setIfInBounds_toArray, List.set_cons_zero, List.set_cons_succ]
    refine OpGoal.plain ?_
    go_wp2_with fail
    exact ⟨rfl, Ext.refl _, rfl⟩
  case o6 => -- Op.alloc 53
    intro xv W hE _
    simp only [putD, List.foldl_nil, List.getD_cons_zero, List.getD_cons_succ]
    refine OpGoal.plain ?_
    go_wp2_with fail
    exact ⟨rfl, Ext.alloc _ _, W.heap.size, rfl, by have := HS0.out; have := (Ext.trans (Ext.drew V) hE).sz; omega, Go.heap_alloc_new _ _⟩
  case last =>
    intro xv W hE hp
    obtain ⟨g0, r0, lo0, h0⟩ := hp.1
    have r1 : xv 1 = _ := hp.2.1
    have r2 : xv 2 = _ := hp.2.2.1
    have r3 : xv 3 = _ := hp.2.2.2.1
    obtain ⟨g4, r4, h4⟩ := hp.2.2.2.2.1
    have r5 : xv 5 = _ := hp.2.2.2.2.2.1
    obtain ⟨g6, r6, lo6, h6⟩ := hp.2.2.2.2.2.2.1
    clear hp
    simp only [putD, List.foldl_nil, List.foldl_cons, List.getD_cons_zero, List.getD_cons_succ, Act.put, List.length_cons, List.length_nil, List.range_succ, List.range_zero, List.nil_append, List.cons_append, List.setIfInBounds_toArray, List.set_cons_zero, List.set_cons_succ]
    simp only [r5, r6]
    have HX := Lib.hid (Ext.trans (Ext.drew V) hE)
    clear hE r0 r1 r2 r3 r4 r5 r6 lo0 h0 h4
    go_wp2_with (refine store_TE 53 53 g6 zK.toList x1K.toList h6 rfl (by kernel_rfl) x1K_one rfl (.tmp 3) (.tmp 18) rfl rfl rfl ?_; intro V2 h2 hg2)
    have hX2 : Ext V V2 := Ext.grow_ge HX.out hg2 (fun b e => by simp only [Option.some.injEq] at e; have := HS0.out; omega)
    have HX2 := Lib.hid hX2
    have HW2 := Lib.hid (Ext.trans HX0.out hX2)
    have h2' : V2.heap[g6]? = some (.cells #[.string ⟨#[100, 114, 111, 112]⟩, .func (.func 34) #[] #[], .func (.func 35) #[] #[], .func (.func 36) #[] #[], .func (.func 37) #[] #[], .func (.func 38) #[] #[]] 53 (0, 0)) := h2
    have HQ4 := Lib.hid (fun W (h : Ext V2 W) => And.intro ((HE0.out.ext hX2).ext h).get (And.intro (cells_of (blk_ext h2' h) 0 _ rfl) (cells_of (blk_ext h2' h) 1 _ rfl)))
    clear h2 h2' hX2 hg2 h6 lo6 HQ
    apply wp_region_seq (l := [_, _, _, _, _]) (t := [_, _]) [some 19, some 20, some 21, some 22, some 23, some 24, some 4] [[], [0], [], [2], [3], [1, 4], [5]] [1, 5, 3, 4, 5] [eqv _, (eqv (.string ⟨#[100, 114, 111, 112]⟩)), eqv _, eqv _, (eqv (.string ⟨(Lib.itoa i).toArray⟩))] (by kernel_rfl) (by kernel_rfl) ⟨?o0, ?o1, ?o2, ?o3, ?o4, trivial⟩ ?last
    case o0 => -- Op.fieldAddr 53 (Operand.tmp 3) 0
      intro xv W4 hE _
      simp only [putD, List.foldl_nil, List.getD_cons_zero]
      refine OpGoal.plain ?_
      go_wp2_with fail
      exact ⟨rfl, Ext.refl _, rfl⟩
    case o1 => -- Op.load 9 (Operand.tmp 19)
      intro xv W4 hE hp
      have r0 : xv 0 = _ := hp.1
      clear hp
      obtain ⟨⟨c0, c1, c2, c3, c4⟩, f0, f1⟩ := HQ4.out W4 (Ext.trans (Ext.drew V2) hE)
      simp only [putD, List.foldl_nil, List.foldl_cons, List.getD_cons_zero, List.getD_cons_succ, Act.put, List.setIfInBounds_toArray, List.set_cons_zero, List.set_cons_succ]
      refine OpGoal.plain ?_
      go_wp2_with fail
      exact ⟨rfl, Ext.refl _, rfl⟩
    case o2 => -- Op.fieldAddr 23 (Operand.tmp 1) 2
      intro xv W4 hE _
      simp only [putD, List.foldl_nil, List.getD_cons_zero, List.getD_cons_succ]
      refine OpGoal.plain ?_
      go_wp2_with fail
      exact ⟨rfl, Ext.refl _, rfl⟩
    case o3 => -- Op.load 3 (Operand.tmp 21)
      intro xv W4 hE hp
      have r2 : xv 2 = _ := hp.1
      clear hp
      obtain ⟨⟨c0, c1, c2, c3, c4⟩, f0, f1⟩ := HQ4.out W4 (Ext.trans (Ext.drew V2) hE)
      simp only [putD, List.foldl_nil, List.foldl_cons, List.getD_cons_zero, List.getD_cons_succ, Act.put, List.setIfInBounds_toArray, List.set_cons_zero, List.set_cons_succ]
      refine OpGoal.plain ?_
      go_wp2_with fail
      exact ⟨rfl, Ext.refl _, rfl⟩
    case o4 => -- Op.call { callee := Callee.value (Operand.func 18), args := #[Operand.tmp 22], a
      intro xv W4 hE hp
      have r3 : xv 3 = _ := hp.1
      clear hp
      simp only [putD, List.foldl_nil, List.foldl_cons, List.getD_cons_zero, List.getD_cons_succ, Act.put, List.setIfInBounds_toArray, List.set_cons_zero, List.set_cons_succ]
      refine OpGoal.plain ?_
      go_wp2_with fail
      refine (HI.out W4 (Ext.trans HW2.out (Ext.trans (Ext.drew V2) hE))).mono ?_
      rintro r W' ⟨rfl, hE'⟩
      go_wp2_with fail
      exact ⟨rfl, hE', rfl⟩
    case last =>
      intro xv W4 hE hp
      have r0 : xv 0 = _ := hp.1
      have r1 : xv 1 = _ := hp.2.1
      have r2 : xv 2 = _ := hp.2.2.1
      have r3 : xv 3 = _ := hp.2.2.2.1
      have r4 : xv 4 = _ := hp.2.2.2.2.1
      clear hp
      simp only [putD, List.foldl_nil, List.foldl_cons, List.getD_cons_zero, List.getD_cons_succ, Act.put, List.length_cons, List.length_nil, List.range_succ, List.range_zero, List.nil_append, List.cons_append, List.setIfInBounds_toArray, List.set_cons_zero, List.set_cons_succ]
      simp only [r1, r4]
      have HX4 := Lib.hid (Ext.trans (Ext.drew V2) hE)
      clear hE r0 r1 r2 r3 r4
      have hE5 := Ext.trans HX4.out (Ext.alloc W4 (.cells #[strV [100, 114, 111, 112], strV (Lib.itoa i)] 9))
      obtain ⟨⟨c0, c1, c2, c3, c4⟩, f0, f1⟩ := HQ4.out W4 HX4.out
      obtain ⟨⟨c0', c1', c2', c3', c4'⟩, f0', f1'⟩ := HQ4.out _ hE5
      have HE5 := Lib.hid hE5
      have HO5 := Lib.hid (ownS_two W4 [100, 114, 111, 112] (Lib.itoa i) (Nat.le_refl W4.heap.size))
      clear hE5
      unfold strV at c0' c1' c2' c3' c4' f0' f1'
      go_wp2_with fail
      refine (HS.out _).mono ?_
      rintro r w6 ⟨rfl, hE6⟩
      have HX6 := Lib.hid (Ext.trans HE5.out (show Ext (W4.alloc (.cells #[strV [100, 114, 111, 112], strV (Lib.itoa i)] 9)) w6 from hE6))
      have HO6 := Lib.hid (HO5.out.ext hE6)
      clear hE6 c0 c1 c2 c3 c4 f0 f1 c0' c1' c2' c3' c4' f0' f1'
      go_wp2_with fail
      refine (HN.out w6 (Ext.trans HW2.out HX6.out)).mono ?_
      rintro r w7 ⟨rfl, hE7⟩
      have HX7 := Lib.hid (Ext.trans HX6.out (Ext.trans hE7 (Ext.alloc w7 (.cells #[strV (Lib.itoa n)] 9))))
      have HO7 := Lib.hid (HO6.out.ext (Ext.trans hE7 (Ext.alloc w7 (.cells #[strV (Lib.itoa n)] 9))))
      have HR7 := Lib.hid (strRow_one w7 (Lib.itoa n))
      have HZ7 : Hid (W4.heap.size ≤ (w7.alloc (.cells #[strV (Lib.itoa n)] 9)).heap.size) := Lib.hid (by have h := HO7.out.lt _ rfl; exact Nat.le_trans h.1 (Nat.le_of_lt h.2))
      have HB7 : Hid (∀ b, (Value.slice (some ⟨W4.heap.size, 0, none⟩) 2 2).ownBlock = some b → V2.heap.size ≤ b) := Lib.hid (fun b e => Nat.le_trans HX4.out.sz (HO7.out.lt b e).1)
      have HL7 : Hid (([[100, 114, 111, 112], Lib.itoa i] : List (List UInt8)).length + [Lib.itoa n].length < 4294967296) := Lib.hid (by simp)
      clear hE7
      go_wp2_with (refine app_S rfl 28 35 rfl W4.heap.size _ ([[100, 114, 111, 112], Lib.itoa i] : List (List UInt8)) rfl HO7.out w7.heap.size 1 1 [Lib.itoa n] rfl rfl HR7.out HL7.out HZ7.out ?_; intro v8 w8 hO8 hg8; obtain ⟨⟨c0, c1, c2, c3, c4⟩, f0, f1⟩ := HQ4.out w8 (Ext.grow_ge HX7.out hg8 HB7.out))
      have HX8 := Lib.hid (Ext.grow_ge HX7.out hg8 HB7.out)
      rcases (show OwnS w8 W4.heap.size v8 [[100, 114, 111, 112], Lib.itoa i, Lib.itoa n] from hO8).form with ⟨h0, _⟩ | ⟨g8, cp8, rfl, _⟩
      · cases h0
      have HO8 := Lib.hid (show OwnS w8 W4.heap.size (.slice (some ⟨g8, 0, none⟩) 3 cp8) [[100, 114, 111, 112], Lib.itoa i, Lib.itoa n] from hO8)
      clear hO8 hg8
      refine (HT.out w8 (Ext.trans HW2.out HX8.out)).mono ?_
      rintro r w9 ⟨rfl, hE9⟩
      have HX9 := Lib.hid (Ext.trans HX8.out (Ext.trans hE9 (Ext.alloc w9 (.cells #[strV [97, 116], strV (Lib.itoa t)] 9))))
      have HO9 := Lib.hid (HO8.out.ext (Ext.trans hE9 (Ext.alloc w9 (.cells #[strV [97, 116], strV (Lib.itoa t)] 9))))
      have HR9 := Lib.hid (strRow_two w9 [97, 116] (Lib.itoa t))
      have HZ9 : Hid (W4.heap.size ≤ (w9.alloc (.cells #[strV [97, 116], strV (Lib.itoa t)] 9)).heap.size) := Lib.hid (by have h := HO9.out.lt _ rfl; exact Nat.le_trans h.1 (Nat.le_of_lt h.2))
      have HL9 : Hid (([[100, 114, 111, 112], Lib.itoa i, Lib.itoa n] : List (List UInt8)).length + ([[97, 116], Lib.itoa t] : List (List UInt8)).length < 4294967296) := Lib.hid (by simp)
      clear hE9 c0 c1 c2 c3 c4 f0 f1
      go_wp2_with (refine app_S rfl 37 41 rfl W4.heap.size _ [[100, 114, 111, 112], Lib.itoa i, Lib.itoa n] rfl HO9.out w9.heap.size 2 2 [[97, 116], Lib.itoa t] rfl rfl HR9.out HL9.out HZ9.out ?_; intro v10 w10 hO10 hg10)
      have HX10 := Lib.hid (Ext.grow_ge HX9.out hg10 (fun b e => by have := (HO9.out.lt b e).1; have := HX4.out.sz; omega))
      rcases (show OwnS w10 W4.heap.size v10 [[100, 114, 111, 112], Lib.itoa i, Lib.itoa n, [97, 116], Lib.itoa t] from hO10).form with ⟨h0, _⟩ | ⟨g10, cp10, rfl, _, hl10, hc10, _, hr10, _⟩
      · cases h0
      have HJ2 := Lib.hid (HJ.out g10 cp10 w10 hr10 hl10 hc10)
      clear hO10 hg10 hl10 hc10 hr10
      go_wp2_with fail
      refine HJ2.out.mono ?_
      rintro r w11 ⟨rfl, hE11⟩
      go_wp2_with fail
      go_ret
      exact ⟨rfl, Ext.trans HW2.out (Ext.trans HX10.out hE11)⟩
def x2K : Array Value := #[.string ⟨#[102, 117, 115, 101]⟩, .func (.func 39) #[] #[], .func (.func 40) #[] #[], .func (.func 41) #[] #[], .func (.func 42) #[] #[], .func (.func 43) #[] #[]]
theorem x2K_one : ∀ v ∈ x2K.toList, v.oneCell' = true := by
  intro v hv
  simp [x2K] at hv
  rcases hv with rfl | rfl | rfl | rfl | rfl | rfl <;> rfl
set_option maxRecDepth 100000 in
set_option maxHeartbeats 8000000 in
theorem text_k2 (t i u n : Int) (he : InEv ⟨2, t, i, u, n⟩) (w : World) (ht : Tabs w) : Calls Tryz.prog 7 #[.agg #[.int .i64 2, .int .i64 t, .int .i64 i, .int .i64 u, .int .i64 n]] w fun r w' => r = .returned (.string ⟨(textE ⟨2, t, i, u, n⟩).toArray⟩) ∧ Ext w w' := by
  have HT := Lib.hid (fun W (h : Ext w W) => itoa_any t he.2.1 W (ht.ext h))
  have HI := Lib.hid (fun W (h : Ext w W) => itoa_any i he.2.2.1 W (ht.ext h))
  have HN := Lib.hid (fun W (h : Ext w W) => itoa_any u (show InI u from he.2.2.2.1) W (ht.ext h))
  have HS := Lib.hid (fun W => other_any ⟨2, t, i, u, n⟩ W)
  have hwd : wordsE ⟨2, t, i, u, n⟩ = [[102, 117, 115, 101], Lib.itoa i, Lib.itoa u, [97, 116], Lib.itoa t] := rfl
  have HJ := Lib.hid (fun g c W h1 h2 h3 => text_words he (show (1 : Int) ≤ 2 ∧ (2 : Int) ≤ 4 from by decide) g c W h1 h2 h3)
  rw [hwd] at HJ
  have HK := Lib.hid (fun W => kinds_any W)
  have hE0 : EvBlk (w.alloc (.cells #[.int .i64 2, .int .i64 t, .int .i64 i, .int .i64 u, .int .i64 n] 23)) w.heap.size ⟨2, t, i, u, n⟩ := Go.heap_alloc_new w _
  have hX0 := Ext.alloc w (.cells #[.int .i64 2, .int .i64 t, .int .i64 i, .int .i64 u, .int .i64 n] 23)
  have hS0 : (w.alloc (.cells #[.int .i64 2, .int .i64 t, .int .i64 i, .int .i64 u, .int .i64 n] 23)).heap.size = w.heap.size + 1 := World.size_alloc _ _
  obtain ⟨V, hV⟩ : ∃ V, w.alloc (.cells #[.int .i64 2, .int .i64 t, .int .i64 i, .int .i64 u, .int .i64 n] 23) = V := ⟨_, rfl⟩
  rw [hV] at hE0 hX0 hS0
  have HV := Lib.hid hV
  have HE0 := Lib.hid hE0
  have HX0 := Lib.hid hX0
  have HS0 := Lib.hid hS0
  clear hE0 hX0 hS0 hV ht he hwd
  go_enter Tryz.func7, Tryz.ntmps7
  go_wp2_with fail
  rw [HV.out]
  have HQ := Lib.hid (fun W (h : Ext V.drew W) => (HE0.out.ext (Ext.trans (Ext.drew V) h)).get)
  apply wp_region_seq (l := [_, _, _, _, _, _, _]) (t := [_]) [some 13, some 14, some 15, some 16, some 17, some 18, some 3, none] [[], [], [1], [2], [0, 3], [4], [], [5, 6]] [7, 7, 7, 7, 7, 7, 7] [(kdS 0), eqv _, eqv _, (eqv (.int .i64 1)), (kpS 6), (eqv (.agg x2K)), (nwB (w.heap.size + 1) 53 zK)] (by kernel_rfl) (by kernel_rfl) ⟨?o0, ?o1, ?o2, ?o3, ?o4, ?o5, ?o6, trivial⟩ ?last
  case o0 => -- Op.call { callee := Callee.value (Operand.func 17), args := #[], argTypes := #[]
    intro xv W hE _
    simp only [putD, List.foldl_nil, List.getD_cons_zero]
    refine OpGoal.plain ?_
    go_wp2_with fail
    refine (HK.out W).mono ?_
    rintro r W' ⟨rfl, hW'⟩
    go_wp2_with fail
    exact ⟨rfl, Ext.alloc _ _, W.heap.size, rfl, Nat.zero_le _, Go.heap_alloc_new _ _⟩
  case o1 => -- Op.fieldAddr 23 (Operand.tmp 1) 0
    intro xv W hE _
    simp only [putD, List.foldl_nil, List.getD_cons_zero, List.getD_cons_succ]
    refine OpGoal.plain ?_
    go_wp2_with fail
    exact ⟨rfl, Ext.refl _, rfl⟩
  case o2 => -- Op.load 3 (Operand.tmp 14)
    intro xv W hE hp
    have r1 : xv 1 = _ := hp.1
    clear hp
    obtain ⟨c0, _⟩ := HQ.out W hE
    simp only [putD, List.foldl_nil, List.foldl_cons, List.getD_cons_zero, List.getD_cons_succ, Act.put, List.setIfInBounds_toArray, List.set_cons_zero, List.set_cons_succ]
    refine OpGoal.plain ?_
    go_wp2_with fail
    exact ⟨rfl, Ext.refl _, rfl⟩
  case o3 => -- Op.binOp BinOp.sub 3 (Operand.tmp 15) (Operand.const (Value.int IntKind.i64 1)) 
    intro xv W hE hp
    have r2 : xv 2 = _ := hp.1
    clear hp
    simp only [putD, List.foldl_nil, List.foldl_cons, List.getD_cons_zero, List.getD_cons_succ, Act.put, List.setIfInBounds_toArray, List.set_cons_zero, List.set_cons_succ]
    refine OpGoal.plain ?_
    go_wp2_with fail
    exact ⟨rfl, Ext.refl _, rfl⟩
  case o4 => -- Op.indexAddr 54 (Operand.tmp 13) (Operand.tmp 16)
    intro xv W hE hp
    obtain ⟨g0, r0, lo0, h0⟩ := hp.1
    have r3 : xv 3 = _ := hp.2.1
    clear hp
    simp only [putD, List.foldl_nil, List.foldl_cons, List.getD_cons_zero, List.getD_cons_succ, Act.put, List.setIfInBounds_toArray, List.set_cons_zero, List.set_cons_succ]
    refine OpGoal.plain ?_
    go_wp2_with fail
    exact ⟨rfl, Ext.refl _, g0, rfl, h0⟩
  case o5 => -- Op.load 53 (Operand.tmp 17)
    intro xv W hE hp
    obtain ⟨g4, r4, h4⟩ := hp.1
    clear hp
    obtain ⟨c0, _⟩ := HQ.out W hE
    have q0 := kinds_cell h4 1 0 (by decide) (by decide)
    have q1 := kinds_cell h4 1 1 (by decide) (by decide)
    have q2 := kinds_cell h4 1 2 (by decide) (by decide)
    have q3 := kinds_cell h4 1 3 (by decide) (by decide)
    have q4 := kinds_cell h4 1 4 (by decide) (by decide)
    have q5 := kinds_cell h4 1 5 (by decide) (by decide)
    simp only [kindC, List.getD_cons_zero, List.getD_cons_succ, List.getElem?_cons_zero, List.getElem?_cons_succ, fnV, Nat.one_mul, Nat.zero_mul, Nat.zero_add, Nat.reduceMul, Nat.reduceAdd] at q0 q1 q2 q3 q4 q5
    simp only [putD, List.foldl_nil, List.foldl_cons, List.getD_cons_zero, List.getD_cons_succ, Act.put, List.setIfInBounds_toArray, List.set_cons_zero, List.set_cons_succ]
    refine OpGoal.plain ?_
    go_wp2_with fail
    exact ⟨rfl, Ext.refl _, rfl⟩
  case o6 => -- Op.alloc 53
    intro xv W hE _
    simp only [putD, List.foldl_nil, List.getD_cons_zero, List.getD_cons_succ]
    refine OpGoal.plain ?_
    go_wp2_with fail
    exact ⟨rfl, Ext.alloc _ _, W.heap.size, rfl, by have := HS0.out; have := (Ext.trans (Ext.drew V) hE).sz; omega, Go.heap_alloc_new _ _⟩
  case last =>
    intro xv W hE hp
    obtain ⟨g0, r0, lo0, h0⟩ := hp.1
    have r1 : xv 1 = _ := hp.2.1
    have r2 : xv 2 = _ := hp.2.2.1
    have r3 : xv 3 = _ := hp.2.2.2.1
    obtain ⟨g4, r4, h4⟩ := hp.2.2.2.2.1
    have r5 : xv 5 = _ := hp.2.2.2.2.2.1
    obtain ⟨g6, r6, lo6, h6⟩ := hp.2.2.2.2.2.2.1
    clear hp
    simp only [putD, List.foldl_nil, List.foldl_cons, List.getD_cons_zero, List.getD_cons_succ, Act.put, List.length_cons, List.length_nil, List.range_succ, List.range_zero, List.nil_append, List.cons_append, List.setIfInBounds_toArray, List.set_cons_zero, List.set_cons_succ]
    simp only [r5, r6]
    have HX := Lib.hid (Ext.trans (Ext.drew V) hE)
    clear hE r0 r1 r2 r3 r4 r5 r6 lo0 h0 h4
    go_wp2_with (refine store_TE 53 53 g6 zK.toList x2K.toList h6 rfl (by kernel_rfl) x2K_one rfl (.tmp 3) (.tmp 18) rfl rfl rfl ?_; intro V2 h2 hg2)
    have hX2 : Ext V V2 := Ext.grow_ge HX.out hg2 (fun b e => by simp only [Option.some.injEq] at e; have := HS0.out; omega)
    have HX2 := Lib.hid hX2
    have HW2 := Lib.hid (Ext.trans HX0.out hX2)
    have h2' : V2.heap[g6]? = some (.cells #[.string ⟨#[102, 117, 115, 101]⟩, .func (.func 39) #[] #[], .func (.func 40) #[] #[], .func (.func 41) #[] #[], .func (.func 42) #[] #[], .func (.func 43) #[] #[]] 53 (0, 0)) := h2
    have HQ4 := Lib.hid (fun W (h : Ext V2 W) => And.intro ((HE0.out.ext hX2).ext h).get (And.intro (cells_of (blk_ext h2' h) 0 _ rfl) (cells_of (blk_ext h2' h) 1 _ rfl)))
    clear h2 h2' hX2 hg2 h6 lo6 HQ
    apply wp_region_seq (l := [_, _, _, _, _]) (t := [_, _]) [some 19, some 20, some 21, some 22, some 23, some 24, some 4] [[], [0], [], [2], [3], [1, 4], [5]] [1, 5, 3, 4, 5] [eqv _, (eqv (.string ⟨#[102, 117, 115, 101]⟩)), eqv _, eqv _, (eqv (.string ⟨(Lib.itoa i).toArray⟩))] (by kernel_rfl) (by kernel_rfl) ⟨?o0, ?o1, ?o2, ?o3, ?o4, trivial⟩ ?last
    case o0 => -- Op.fieldAddr 53 (Operand.tmp 3) 0
      intro xv W4 hE _
      simp only [putD, List.foldl_nil, List.getD_cons_zero]
      refine OpGoal.plain ?_
      go_wp2_with fail
      exact ⟨rfl, Ext.refl _, rfl⟩
    case o1 => -- Op.load 9 (Operand.tmp 19)
      intro xv W4 hE hp
      have r0 : xv 0 = _ := hp.1
      clear hp
      obtain ⟨⟨c0, c1, c2, c3, c4⟩, f0, f1⟩ := HQ4.out W4 (Ext.trans (Ext.drew V2) hE)
      simp only [putD, List.foldl_nil, List.foldl_cons, List.getD_cons_zero, List.getD_cons_succ, Act.put, List.setIfInBounds_toArray, List.set_cons_zero, List.set_cons_succ]
      refine OpGoal.plain ?_
      go_wp2_with fail
      exact ⟨rfl, Ext.refl _, rfl⟩
    case o2 => -- Op.fieldAddr 23 (Operand.tmp 1) 2
      intro xv W4 hE _
      simp only [putD, List.foldl_nil, List.getD_cons_zero, List.getD_cons_succ]
      refine OpGoal.plain ?_
      go_wp2_with fail
      exact ⟨rfl, Ext.refl _, rfl⟩
    case o3 => -- Op.load 3 (Operand.tmp 21)
      intro xv W4 hE hp
      have r2 : xv 2 = _ := hp.1
      clear hp
      obtain ⟨⟨c0, c1, c2, c3, c4⟩, f0, f1⟩ := HQ4.out W4 (Ext.trans (Ext.drew V2) hE)
      simp only [putD, List.foldl_nil, List.foldl_cons, List.getD_cons_zero, List.getD_cons_succ, Act.put, List.setIfInBounds_toArray, List.set_cons_zero, List.set_cons_succ]
      refine OpGoal.plain ?_
      go_wp2_with fail
      exact ⟨rfl, Ext.refl _, rfl⟩
    case o4 => -- Op.call { callee := Callee.value (Operand.func 18), args := #[Operand.tmp 22], a
      intro xv W4 hE hp
      have r3 : xv 3 = _ := hp.1
      clear hp
      simp only [putD, List.foldl_nil, List.foldl_cons, List.getD_cons_zero, List.getD_cons_succ, Act.put, List.setIfInBounds_toArray, List.set_cons_zero, List.set_cons_succ]
      refine OpGoal.plain ?_
      go_wp2_with fail
      refine (HI.out W4 (Ext.trans HW2.out (Ext.trans (Ext.drew V2) hE))).mono ?_
      rintro r W' ⟨rfl, hE'⟩
      go_wp2_with fail
      exact ⟨rfl, hE', rfl⟩
    case last =>
      intro xv W4 hE hp
      have r0 : xv 0 = _ := hp.1
      have r1 : xv 1 = _ := hp.2.1
      have r2 : xv 2 = _ := hp.2.2.1
      have r3 : xv 3 = _ := hp.2.2.2.1
      have r4 : xv 4 = _ := hp.2.2.2.2.1
      clear hp
      simp only [putD, List.foldl_nil, List.foldl_cons, List.getD_cons_zero, List.getD_cons_succ, Act.put, List.length_cons, List.length_nil, List.range_succ, List.range_zero, List.nil_append, List.cons_append, List.setIfInBounds_toArray, List.set_cons_zero, List.set_cons_succ]
      simp only [r1, r4]
      have HX4 := Lib.hid (Ext.trans (Ext.drew V2) hE)
      clear hE r0 r1 r2 r3 r4
      have hE5 := Ext.trans HX4.out (Ext.alloc W4 (.cells #[strV [102, 117, 115, 101], strV (Lib.itoa i)] 9))
      obtain ⟨⟨c0, c1, c2, c3, c4⟩, f0, f1⟩ := HQ4.out W4 HX4.out
      obtain ⟨⟨c0', c1', c2', c3', c4'⟩, f0', f1'⟩ := HQ4.out _ hE5
      have HE5 := Lib.hid hE5
      have HO5 := Lib.hid (ownS_two W4 [102, 117, 115, 101] (Lib.itoa i) (Nat.le_refl W4.heap.size))
      clear hE5
      unfold strV at c0' c1' c2' c3' c4' f0' f1'
      go_wp2_with fail
      refine (HS.out _).mono ?_
      rintro r w6 ⟨rfl, hE6⟩
      have HX6 := Lib.hid (Ext.trans HE5.out (show Ext (W4.alloc (.cells #[strV [102, 117, 115, 101], strV (Lib.itoa i)] 9)) w6 from hE6))
      have HO6 := Lib.hid (HO5.out.ext hE6)
      clear hE6 c0 c1 c2 c3 c4 f0 f1 c0' c1' c2' c3' c4' f0' f1'
      go_wp2_with fail
      refine (HN.out w6 (Ext.trans HW2.out HX6.out)).mono ?_
      rintro r w7 ⟨rfl, hE7⟩
      have HX7 := Lib.hid (Ext.trans HX6.out (Ext.trans hE7 (Ext.alloc w7 (.cells #[strV (Lib.itoa u)] 9))))
      have HO7 := Lib.hid (HO6.out.ext (Ext.trans hE7 (Ext.alloc w7 (.cells #[strV (Lib.itoa u)] 9))))
      have HR7 := Lib.hid (strRow_one w7 (Lib.itoa u))
      have HZ7 : Hid (W4.heap.size ≤ (w7.alloc (.cells #[strV (Lib.itoa u)] 9)).heap.size) := Lib.hid (by have h := HO7.out.lt _ rfl; exact Nat.le_trans h.1 (Nat.le_of_lt h.2))
      have HB7 : Hid (∀ b, (Value.slice (some ⟨W4.heap.size, 0, none⟩) 2 2).ownBlock = some b → V2.heap.size ≤ b) := Lib.hid (fun b e => Nat.le_trans HX4.out.sz (HO7.out.lt b e).1)
      have HL7 : Hid (([[102, 117, 115, 101], Lib.itoa i] : List (List UInt8)).length + [Lib.itoa u].length < 4294967296) := Lib.hid (by simp)
      clear hE7
      go_wp2_with (refine app_S rfl 28 35 rfl W4.heap.size _ ([[102, 117, 115, 101], Lib.itoa i] : List (List UInt8)) rfl HO7.out w7.heap.size 1 1 [Lib.itoa u] rfl rfl HR7.out HL7.out HZ7.out ?_; intro v8 w8 hO8 hg8; obtain ⟨⟨c0, c1, c2, c3, c4⟩, f0, f1⟩ := HQ4.out w8 (Ext.grow_ge HX7.out hg8 HB7.out))
      have HX8 := Lib.hid (Ext.grow_ge HX7.out hg8 HB7.out)
      rcases (show OwnS w8 W4.heap.size v8 [[102, 117, 115, 101], Lib.itoa i, Lib.itoa u] from hO8).form with ⟨h0, _⟩ | ⟨g8, cp8, rfl, _⟩
      · cases h0
      have HO8 := Lib.hid (show OwnS w8 W4.heap.size (.slice (some ⟨g8, 0, none⟩) 3 cp8) [[102, 117, 115, 101], Lib.itoa i, Lib.itoa u] from hO8)
      clear hO8 hg8
      refine (HT.out w8 (Ext.trans HW2.out HX8.out)).mono ?_
      rintro r w9 ⟨rfl, hE9⟩
      have HX9 := Lib.hid (Ext.trans HX8.out (Ext.trans hE9 (Ext.alloc w9 (.cells #[strV [97, 116], strV (Lib.itoa t)] 9))))
      have HO9 := Lib.hid (HO8.out.ext (Ext.trans hE9 (Ext.alloc w9 (.cells #[strV [97, 116], strV (Lib.itoa t)] 9))))
      have HR9 := Lib.hid (strRow_two w9 [97, 116] (Lib.itoa t))
      have HZ9 : Hid (W4.heap.size ≤ (w9.alloc (.cells #[strV [97, 116], strV (Lib.itoa t)] 9)).heap.size) := Lib.hid (by have h := HO9.out.lt _ rfl; exact Nat.le_trans h.1 (Nat.le_of_lt h.2))
      have HL9 : Hid (([[102, 117, 115, 101], Lib.itoa i, Lib.itoa u] : List (List UInt8)).length + ([[97, 116], Lib.itoa t] : List (List UInt8)).length < 4294967296) := Lib.hid (by simp)
      clear hE9 c0 c1 c2 c3 c4 f0 f1
      go_wp2_with (refine app_S rfl 37 41 rfl W4.heap.size _ [[102, 117, 115, 101], Lib.itoa i, Lib.itoa u] rfl HO9.out w9.heap.size 2 2 [[97, 116], Lib.itoa t] rfl rfl HR9.out HL9.out HZ9.out ?_; intro v10 w10 hO10 hg10)
      have HX10 := Lib.hid (Ext.grow_ge HX9.out hg10 (fun b e => by have := (HO9.out.lt b e).1; have := HX4.out.sz; omega))
      rcases (show OwnS w10 W4.heap.size v10 [[102, 117, 115, 101], Lib.itoa i, Lib.itoa u, [97, 116], Lib.itoa t] from hO10).form with ⟨h0, _⟩ | ⟨g10, cp10, rfl, _, hl10, hc10, _, hr10, _⟩
      · cases h0
      have HJ2 := Lib.hid (HJ.out g10 cp10 w10 hr10 hl10 hc10)
      clear hO10 hg10 hl10 hc10 hr10
      go_wp2_with fail
      refine HJ2.out.mono ?_
      rintro r w11 ⟨rfl, hE11⟩
      go_wp2_with fail
      go_ret
      exact ⟨rfl, Ext.trans HW2.out (Ext.trans HX10.out hE11)⟩
def x3K : Array Value := #[.string ⟨#[116, 104, 105, 110]⟩, .func (.func 44) #[] #[], .func (.func 45) #[] #[], .func (.func 47) #[] #[], .func (.func 49) #[] #[], .func (.func 51) #[] #[]]
theorem x3K_one : ∀ v ∈ x3K.toList, v.oneCell' = true := by
  intro v hv
  simp [x3K] at hv
  rcases hv with rfl | rfl | rfl | rfl | rfl | rfl <;> rfl
set_option maxRecDepth 100000 in
set_option maxHeartbeats 8000000 in
theorem text_k3 (t i u n : Int) (he : InEv ⟨3, t, i, u, n⟩) (w : World) (ht : Tabs w) : Calls Tryz.prog 7 #[.agg #[.int .i64 3, .int .i64 t, .int .i64 i, .int .i64 u, .int .i64 n]] w fun r w' => r = .returned (.string ⟨(textE ⟨3, t, i, u, n⟩).toArray⟩) ∧ Ext w w' := by
  have HT := Lib.hid (fun W (h : Ext w W) => itoa_any t he.2.1 W (ht.ext h))
  have HI := Lib.hid (fun W (h : Ext w W) => itoa_any i he.2.2.1 W (ht.ext h))
  have hwd : wordsE ⟨3, t, i, u, n⟩ = [[116, 104, 105, 110], Lib.itoa i, [97, 116], Lib.itoa t] := rfl
  have HJ := Lib.hid (fun g c W h1 h2 h3 => text_words he (show (1 : Int) ≤ 3 ∧ (3 : Int) ≤ 4 from by decide) g c W h1 h2 h3)
  rw [hwd] at HJ
  have HK := Lib.hid (fun W => kinds_any W)
  have hE0 : EvBlk (w.alloc (.cells #[.int .i64 3, .int .i64 t, .int .i64 i, .int .i64 u, .int .i64 n] 23)) w.heap.size ⟨3, t, i, u, n⟩ := Go.heap_alloc_new w _
  have hX0 := Ext.alloc w (.cells #[.int .i64 3, .int .i64 t, .int .i64 i, .int .i64 u, .int .i64 n] 23)
  have hS0 : (w.alloc (.cells #[.int .i64 3, .int .i64 t, .int .i64 i, .int .i64 u, .int .i64 n] 23)).heap.size = w.heap.size + 1 := World.size_alloc _ _
  obtain ⟨V, hV⟩ : ∃ V, w.alloc (.cells #[.int .i64 3, .int .i64 t, .int .i64 i, .int .i64 u, .int .i64 n] 23) = V := ⟨_, rfl⟩
  rw [hV] at hE0 hX0 hS0
  have HV := Lib.hid hV
  have HE0 := Lib.hid hE0
  have HX0 := Lib.hid hX0
  have HS0 := Lib.hid hS0
  clear hE0 hX0 hS0 hV ht he hwd
  go_enter Tryz.func7, Tryz.ntmps7
  go_wp2_with fail
  rw [HV.out]
  have HQ := Lib.hid (fun W (h : Ext V.drew W) => (HE0.out.ext (Ext.trans (Ext.drew V) h)).get)
  apply wp_region_seq (l := [_, _, _, _, _, _, _]) (t := [_]) [some 13, some 14, some 15, some 16, some 17, some 18, some 3, none] [[], [], [1], [2], [0, 3], [4], [], [5, 6]] [7, 7, 7, 7, 7, 7, 7] [(kdS 0), eqv _, eqv _, (eqv (.int .i64 2)), (kpS 12), (eqv (.agg x3K)), (nwB (w.heap.size + 1) 53 zK)] (by kernel_rfl) (by kernel_rfl) ⟨?o0, ?o1, ?o2, ?o3, ?o4, ?o5, ?o6, trivial⟩ ?last
  case o0 => -- Op.call { callee := Callee.value (Operand.func 17), args := #[], argTypes := #[]
    intro xv W hE _
    simp only [putD, List.foldl_nil, List.getD_cons_zero]
    refine OpGoal.plain ?_
    go_wp2_with fail
    refine (HK.out W).mono ?_
    rintro r W' ⟨rfl, hW'⟩
    go_wp2_with fail
    exact ⟨rfl, Ext.alloc _ _, W.heap.size, rfl, Nat.zero_le _, Go.heap_alloc_new _ _⟩
  case o1 => -- Op.fieldAddr 23 (Operand.tmp 1) 0
    intro xv W hE _
    simp only [putD, List.foldl_nil, List.getD_cons_zero, List.getD_cons_succ]
    refine OpGoal.plain ?_
    go_wp2_with fail
    exact ⟨rfl, Ext.refl _, rfl⟩
  case o2 => -- Op.load 3 (Operand.tmp 14)
    intro xv W hE hp
    have r1 : xv 1 = _ := hp.1
    clear hp
    obtain ⟨c0, _⟩ := HQ.out W hE
    simp only [putD, List.foldl_nil, List.foldl_cons, List.getD_cons_zero, List.getD_cons_succ, Act.put, List.setIfInBounds_toArray, List.set_cons_zero, List.set_cons_succ]
    refine OpGoal.plain ?_
    go_wp2_with fail
    exact ⟨rfl, Ext.refl _, rfl⟩
  case o3 => -- Op.binOp BinOp.sub 3 (Operand.tmp 15) (Operand.const (Value.int IntKind.i64 1)) 
    intro xv W hE hp
    have r2 : xv 2 = _ := hp.1
    clear hp
    simp only [putD, List.foldl_nil, List.foldl_cons, List.getD_cons_zero, List.getD_cons_succ, Act.put, List.setIfInBounds_toArray, List.set_cons_zero, List.set_cons_succ]
    refine OpGoal.plain ?_
    go_wp2_with fail
    exact ⟨rfl, Ext.refl _, rfl⟩
  case o4 => -- Op.indexAddr 54 (Operand.tmp 13) (Operand.tmp 16)
    intro xv W hE hp
    obtain ⟨g0, r0, lo0, h0⟩ := hp.1
    have r3 : xv 3 = _ := hp.2.1
    clear hp
    simp only [putD, List.foldl_nil, List.foldl_cons, List.getD_cons_zero, List.getD_cons_succ, Act.put, List.setIfInBounds_toArray, List.set_cons_zero, List.set_cons_succ]
    refine OpGoal.plain ?_
    go_wp2_with fail
    exact ⟨rfl, Ext.refl _, g0, rfl, h0⟩
  case o5 => -- Op.load 53 (Operand.tmp 17)
    intro xv W hE hp
    obtain ⟨g4, r4, h4⟩ := hp.1
    clear hp
    obtain ⟨c0, _⟩ := HQ.out W hE
    have q0 := kinds_cell h4 2 0 (by decide) (by decide)
    have q1 := kinds_cell h4 2 1 (by decide) (by decide)
    have q2 := kinds_cell h4 2 2 (by decide) (by decide)
    have q3 := kinds_cell h4 2 3 (by decide) (by decide)
    have q4 := kinds_cell h4 2 4 (by decide) (by decide)
    have q5 := kinds_cell h4 2 5 (by decide) (by decide)
    simp only [kindC, List.getD_cons_zero, List.getD_cons_succ, List.getElem?_cons_zero, List.getElem?_cons_succ, fnV, Nat.one_mul, Nat.zero_mul, Nat.zero_add, Nat.reduceMul, Nat.reduceAdd] at q0 q1 q2 q3 q4 q5
    simp only [putD, List.foldl_nil, List.foldl_cons, List.getD_cons_zero, List.getD_cons_succ, Act.put, List.setIfInBounds_toArray, List.set_cons_zero, List.set_cons_succ]
    refine OpGoal.plain ?_
    go_wp2_with fail
    exact ⟨rfl, Ext.refl _, rfl⟩
  case o6 => -- Op.alloc 53
    intro xv W hE _
    simp only [putD, List.foldl_nil, List.getD_cons_zero, List.getD_cons_succ]
    refine OpGoal.plain ?_
    go_wp2_with fail
    exact ⟨rfl, Ext.alloc _ _, W.heap.size, rfl, by have := HS0.out; have := (Ext.trans (Ext.drew V) hE).sz; omega, Go.heap_alloc_new _ _⟩
  case last =>
    intro xv W hE hp
    obtain ⟨g0, r0, lo0, h0⟩ := hp.1
    have r1 : xv 1 = _ := hp.2.1
    have r2 : xv 2 = _ := hp.2.2.1
    have r3 : xv 3 = _ := hp.2.2.2.1
    obtain ⟨g4, r4, h4⟩ := hp.2.2.2.2.1
    have r5 : xv 5 = _ := hp.2.2.2.2.2.1
    obtain ⟨g6, r6, lo6, h6⟩ := hp.2.2.2.2.2.2.1
    clear hp
    simp only [putD, List.foldl_nil, List.foldl_cons, List.getD_cons_zero, List.getD_cons_succ, Act.put, List.length_cons, List.length_nil, List.range_succ, List.range_zero, List.nil_append, List.cons_append, List.setIfInBounds_toArray, List.set_cons_zero, List.set_cons_succ]
    simp only [r5, r6]
    have HX := Lib.hid (Ext.trans (Ext.drew V) hE)
    clear hE r0 r1 r2 r3 r4 r5 r6 lo0 h0 h4
    go_wp2_with (refine store_TE 53 53 g6 zK.toList x3K.toList h6 rfl (by kernel_rfl) x3K_one rfl (.tmp 3) (.tmp 18) rfl rfl rfl ?_; intro V2 h2 hg2)
    have hX2 : Ext V V2 := Ext.grow_ge HX.out hg2 (fun b e => by simp only [Option.some.injEq] at e; have := HS0.out; omega)
    have HX2 := Lib.hid hX2
    have HW2 := Lib.hid (Ext.trans HX0.out hX2)
    have h2' : V2.heap[g6]? = some (.cells #[.string ⟨#[116, 104, 105, 110]⟩, .func (.func 44) #[] #[], .func (.func 45) #[] #[], .func (.func 47) #[] #[], .func (.func 49) #[] #[], .func (.func 51) #[] #[]] 53 (0, 0)) := h2
    have HQ4 := Lib.hid (fun W (h : Ext V2 W) => And.intro ((HE0.out.ext hX2).ext h).get (And.intro (cells_of (blk_ext h2' h) 0 _ rfl) (cells_of (blk_ext h2' h) 1 _ rfl)))
    clear h2 h2' hX2 hg2 h6 lo6 HQ
    apply wp_region_seq (l := [_, _, _, _, _]) (t := [_, _]) [some 19, some 20, some 21, some 22, some 23, some 24, some 4] [[], [0], [], [2], [3], [1, 4], [5]] [1, 5, 3, 4, 5] [eqv _, (eqv (.string ⟨#[116, 104, 105, 110]⟩)), eqv _, eqv _, (eqv (.string ⟨(Lib.itoa i).toArray⟩))] (by kernel_rfl) (by kernel_rfl) ⟨?o0, ?o1, ?o2, ?o3, ?o4, trivial⟩ ?last
    case o0 => -- Op.fieldAddr 53 (Operand.tmp 3) 0
      intro xv W4 hE _
      simp only [putD, List.foldl_nil, List.getD_cons_zero]
      refine OpGoal.plain ?_
      go_wp2_with fail
      exact ⟨rfl, Ext.refl _, rfl⟩
    case o1 => -- Op.load 9 (Operand.tmp 19)
      intro xv W4 hE hp
      have r0 : xv 0 = _ := hp.1
      clear hp
      obtain ⟨⟨c0, c1, c2, c3, c4⟩, f0, f1⟩ := HQ4.out W4 (Ext.trans (Ext.drew V2) hE)
      simp only [putD, List.foldl_nil, List.foldl_cons, List.getD_cons_zero, List.getD_cons_succ, Act.put, List.setIfInBounds_toArray, List.set_cons_zero, List.set_cons_succ]
      refine OpGoal.plain ?_
      go_wp2_with fail
      exact ⟨rfl, Ext.refl _, rfl⟩
    case o2 => -- Op.fieldAddr 23 (Operand.tmp 1) 2
      intro xv W4 hE _
      simp only [putD, List.foldl_nil, List.getD_cons_zero, List.getD_cons_succ]
      refine OpGoal.plain ?_
      go_wp2_with fail
      exact ⟨rfl, Ext.refl _, rfl⟩
    case o3 => -- Op.load 3 (Operand.tmp 21)
      intro xv W4 hE hp
      have r2 : xv 2 = _ := hp.1
      clear hp
      obtain ⟨⟨c0, c1, c2, c3, c4⟩, f0, f1⟩ := HQ4.out W4 (Ext.trans (Ext.drew V2) hE)
      simp only [putD, List.foldl_nil, List.foldl_cons, List.getD_cons_zero, List.getD_cons_succ, Act.put, List.setIfInBounds_toArray, List.set_cons_zero, List.set_cons_succ]
      refine OpGoal.plain ?_
      go_wp2_with fail
      exact ⟨rfl, Ext.refl _, rfl⟩
    case o4 => -- Op.call { callee := Callee.value (Operand.func 18), args := #[Operand.tmp 22], a
      intro xv W4 hE hp
      have r3 : xv 3 = _ := hp.1
      clear hp
      simp only [putD, List.foldl_nil, List.foldl_cons, List.getD_cons_zero, List.getD_cons_succ, Act.put, List.setIfInBounds_toArray, List.set_cons_zero, List.set_cons_succ]
      refine OpGoal.plain ?_
      go_wp2_with fail
      refine (HI.out W4 (Ext.trans HW2.out (Ext.trans (Ext.drew V2) hE))).mono ?_
      rintro r W' ⟨rfl, hE'⟩
      go_wp2_with fail
      exact ⟨rfl, hE', rfl⟩
    case last =>
      intro xv W4 hE hp
      have r0 : xv 0 = _ := hp.1
      have r1 : xv 1 = _ := hp.2.1
      have r2 : xv 2 = _ := hp.2.2.1
      have r3 : xv 3 = _ := hp.2.2.2.1
      have r4 : xv 4 = _ := hp.2.2.2.2.1
      clear hp
      simp only [putD, List.foldl_nil, List.foldl_cons, List.getD_cons_zero, List.getD_cons_succ, Act.put, List.length_cons, List.length_nil, List.range_succ, List.range_zero, List.nil_append, List.cons_append, List.setIfInBounds_toArray, List.set_cons_zero, List.set_cons_succ]
      simp only [r1, r4]
      have HX4 := Lib.hid (Ext.trans (Ext.drew V2) hE)
      clear hE r0 r1 r2 r3 r4
      have hE5 := Ext.trans HX4.out (Ext.alloc W4 (.cells #[strV [116, 104, 105, 110], strV (Lib.itoa i)] 9))
      obtain ⟨⟨c0, c1, c2, c3, c4⟩, f0, f1⟩ := HQ4.out W4 HX4.out
      obtain ⟨⟨c0', c1', c2', c3', c4'⟩, f0', f1'⟩ := HQ4.out _ hE5
      have HE5 := Lib.hid hE5
      have HO5 := Lib.hid (ownS_two W4 [116, 104, 105, 110] (Lib.itoa i) (Nat.le_refl W4.heap.size))
      clear hE5
      unfold strV at c0' c1' c2' c3' c4' f0' f1'
      go_wp2_with fail
      have HX8 := Lib.hid HE5.out
      have HO8 := Lib.hid HO5.out
      refine (HT.out _ (Ext.trans HW2.out HE5.out)).mono ?_
      rintro r w9 ⟨rfl, hE9⟩
      clear c0' c1' c2' c3' c4' f0' f1'
      have HX9 := Lib.hid (Ext.trans HX8.out (Ext.trans hE9 (Ext.alloc w9 (.cells #[strV [97, 116], strV (Lib.itoa t)] 9))))
      have HO9 := Lib.hid (HO8.out.ext (Ext.trans hE9 (Ext.alloc w9 (.cells #[strV [97, 116], strV (Lib.itoa t)] 9))))
      have HR9 := Lib.hid (strRow_two w9 [97, 116] (Lib.itoa t))
      have HZ9 : Hid (W4.heap.size ≤ (w9.alloc (.cells #[strV [97, 116], strV (Lib.itoa t)] 9)).heap.size) := Lib.hid (by have h := HO9.out.lt _ rfl; exact Nat.le_trans h.1 (Nat.le_of_lt h.2))
      have HL9 : Hid (([[116, 104, 105, 110], Lib.itoa i] : List (List UInt8)).length + ([[97, 116], Lib.itoa t] : List (List UInt8)).length < 4294967296) := Lib.hid (by simp)
      clear hE9 c0 c1 c2 c3 c4 f0 f1
      go_wp2_with (refine app_S rfl 37 41 rfl W4.heap.size _ [[116, 104, 105, 110], Lib.itoa i] rfl HO9.out w9.heap.size 2 2 [[97, 116], Lib.itoa t] rfl rfl HR9.out HL9.out HZ9.out ?_; intro v10 w10 hO10 hg10)
      have HX10 := Lib.hid (Ext.grow_ge HX9.out hg10 (fun b e => by have := (HO9.out.lt b e).1; have := HX4.out.sz; omega))
      rcases (show OwnS w10 W4.heap.size v10 [[116, 104, 105, 110], Lib.itoa i, [97, 116], Lib.itoa t] from hO10).form with ⟨h0, _⟩ | ⟨g10, cp10, rfl, _, hl10, hc10, _, hr10, _⟩
      · cases h0
      have HJ2 := Lib.hid (HJ.out g10 cp10 w10 hr10 hl10 hc10)
      clear hO10 hg10 hl10 hc10 hr10
      go_wp2_with fail
      refine HJ2.out.mono ?_
      rintro r w11 ⟨rfl, hE11⟩
      go_wp2_with fail
      go_ret
      exact ⟨rfl, Ext.trans HW2.out (Ext.trans HX10.out hE11)⟩
def x4K : Array Value := #[.string ⟨#[103, 97, 116, 104, 101, 114]⟩, .func (.func 39) #[] #[], .func (.func 52) #[] #[], .func (.func 53) #[] #[], .func (.func 54) #[] #[], .func (.func 55) #[] #[]]
theorem x4K_one : ∀ v ∈ x4K.toList, v.oneCell' = true := by
  intro v hv
  simp [x4K] at hv
  rcases hv with rfl | rfl | rfl | rfl | rfl | rfl <;> rfl
set_option maxRecDepth 100000 in
set_option maxHeartbeats 8000000 in
theorem text_k4 (t i u n : Int) (he : InEv ⟨4, t, i, u, n⟩) (w : World) (ht : Tabs w) : Calls Tryz.prog 7 #[.agg #[.int .i64 4, .int .i64 t, .int .i64 i, .int .i64 u, .int .i64 n]] w fun r w' => r = .returned (.string ⟨(textE ⟨4, t, i, u, n⟩).toArray⟩) ∧ Ext w w' := by
  have HT := Lib.hid (fun W (h : Ext w W) => itoa_any t he.2.1 W (ht.ext h))
  have HI := Lib.hid (fun W (h : Ext w W) => itoa_any i he.2.2.1 W (ht.ext h))
  have HN := Lib.hid (fun W (h : Ext w W) => itoa_any u (show InI u from he.2.2.2.1) W (ht.ext h))
  have HS := Lib.hid (fun W => other_any ⟨4, t, i, u, n⟩ W)
  have hwd : wordsE ⟨4, t, i, u, n⟩ = [[103, 97, 116, 104, 101, 114], Lib.itoa i, Lib.itoa u, [97, 116], Lib.itoa t] := rfl
  have HJ := Lib.hid (fun g c W h1 h2 h3 => text_words he (show (1 : Int) ≤ 4 ∧ (4 : Int) ≤ 4 from by decide) g c W h1 h2 h3)
  rw [hwd] at HJ
  have HK := Lib.hid (fun W => kinds_any W)
  have hE0 : EvBlk (w.alloc (.cells #[.int .i64 4, .int .i64 t, .int .i64 i, .int .i64 u, .int .i64 n] 23)) w.heap.size ⟨4, t, i, u, n⟩ := Go.heap_alloc_new w _
  have hX0 := Ext.alloc w (.cells #[.int .i64 4, .int .i64 t, .int .i64 i, .int .i64 u, .int .i64 n] 23)
  have hS0 : (w.alloc (.cells #[.int .i64 4, .int .i64 t, .int .i64 i, .int .i64 u, .int .i64 n] 23)).heap.size = w.heap.size + 1 := World.size_alloc _ _
  obtain ⟨V, hV⟩ : ∃ V, w.alloc (.cells #[.int .i64 4, .int .i64 t, .int .i64 i, .int .i64 u, .int .i64 n] 23) = V := ⟨_, rfl⟩
  rw [hV] at hE0 hX0 hS0
  have HV := Lib.hid hV
  have HE0 := Lib.hid hE0
  have HX0 := Lib.hid hX0
  have HS0 := Lib.hid hS0
  clear hE0 hX0 hS0 hV ht he hwd
  go_enter Tryz.func7, Tryz.ntmps7
  go_wp2_with fail
  rw [HV.out]
  have HQ := Lib.hid (fun W (h : Ext V.drew W) => (HE0.out.ext (Ext.trans (Ext.drew V) h)).get)
  apply wp_region_seq (l := [_, _, _, _, _, _, _]) (t := [_]) [some 13, some 14, some 15, some 16, some 17, some 18, some 3, none] [[], [], [1], [2], [0, 3], [4], [], [5, 6]] [7, 7, 7, 7, 7, 7, 7] [(kdS 0), eqv _, eqv _, (eqv (.int .i64 3)), (kpS 18), (eqv (.agg x4K)), (nwB (w.heap.size + 1) 53 zK)] (by kernel_rfl) (by kernel_rfl) ⟨?o0, ?o1, ?o2, ?o3, ?o4, ?o5, ?o6, trivial⟩ ?last
  case o0 => -- Op.call { callee := Callee.value (Operand.func 17), args := #[], argTypes := #[]
    intro xv W hE _
    simp only [putD, List.foldl_nil, List.getD_cons_zero]
    refine OpGoal.plain ?_
    go_wp2_with fail
    refine (HK.out W).mono ?_
    rintro r W' ⟨rfl, hW'⟩
    go_wp2_with fail
    exact ⟨rfl, Ext.alloc _ _, W.heap.size, rfl, Nat.zero_le _, Go.heap_alloc_new _ _⟩
  case o1 => -- Op.fieldAddr 23 (Operand.tmp 1) 0
    intro xv W hE _
    simp only [putD, List.foldl_nil, List.getD_cons_zero, List.getD_cons_succ]
    refine OpGoal.plain ?_
    go_wp2_with fail
    exact ⟨rfl, Ext.refl _, rfl⟩
  case o2 => -- Op.load 3 (Operand.tmp 14)
    intro xv W hE hp
    have r1 : xv 1 = _ := hp.1
    clear hp
    obtain ⟨c0, _⟩ := HQ.out W hE
    simp only [putD, List.foldl_nil, List.foldl_cons, List.getD_cons_zero, List.getD_cons_succ, Act.put, List.setIfInBounds_toArray, List.set_cons_zero, List.set_cons_succ]
    refine OpGoal.plain ?_
    go_wp2_with fail
    exact ⟨rfl, Ext.refl _, rfl⟩
  case o3 => -- Op.binOp BinOp.sub 3 (Operand.tmp 15) (Operand.const (Value.int IntKind.i64 1)) 
    intro xv W hE hp
    have r2 : xv 2 = _ := hp.1
    clear hp
    simp only [putD, List.foldl_nil, List.foldl_cons, List.getD_cons_zero, List.getD_cons_succ, Act.put, List.setIfInBounds_toArray, List.set_cons_zero, List.set_cons_succ]
    refine OpGoal.plain ?_
    go_wp2_with fail
    exact ⟨rfl, Ext.refl _, rfl⟩
  case o4 => -- Op.indexAddr 54 (Operand.tmp 13) (Operand.tmp 16)
    intro xv W hE hp
    obtain ⟨g0, r0, lo0, h0⟩ := hp.1
    have r3 : xv 3 = _ := hp.2.1
    clear hp
    simp only [putD, List.foldl_nil, List.foldl_cons, List.getD_cons_zero, List.getD_cons_succ, Act.put, List.setIfInBounds_toArray, List.set_cons_zero, List.set_cons_succ]
    refine OpGoal.plain ?_
    go_wp2_with fail
    exact ⟨rfl, Ext.refl _, g0, rfl, h0⟩
  case o5 => -- Op.load 53 (Operand.tmp 17)
    intro xv W hE hp
    obtain ⟨g4, r4, h4⟩ := hp.1
    clear hp
    obtain ⟨c0, _⟩ := HQ.out W hE
    have q0 := kinds_cell h4 3 0 (by decide) (by decide)
    have q1 := kinds_cell h4 3 1 (by decide) (by decide)
    have q2 := kinds_cell h4 3 2 (by decide) (by decide)
    have q3 := kinds_cell h4 3 3 (by decide) (by decide)
    have q4 := kinds_cell h4 3 4 (by decide) (by decide)
    have q5 := kinds_cell h4 3 5 (by decide) (by decide)
    simp only [kindC, List.getD_cons_zero, List.getD_cons_succ, List.getElem?_cons_zero, List.getElem?_cons_succ, fnV, Nat.one_mul, Nat.zero_mul, Nat.zero_add, Nat.reduceMul, Nat.reduceAdd] at q0 q1 q2 q3 q4 q5
    simp only [putD, List.foldl_nil, List.foldl_cons, List.getD_cons_zero, List.getD_cons_succ, Act.put, List.setIfInBounds_toArray, List.set_cons_zero, List.set_cons_succ]
    refine OpGoal.plain ?_
    go_wp2_with fail
    exact ⟨rfl, Ext.refl _, rfl⟩
  case o6 => -- Op.alloc 53
    intro xv W hE _
    simp only [putD, List.foldl_nil, List.getD_cons_zero, List.getD_cons_succ]
    refine OpGoal.plain ?_
    go_wp2_with fail
    exact ⟨rfl, Ext.alloc _ _, W.heap.size, rfl, by have := HS0.out; have := (Ext.trans (Ext.drew V) hE).sz; omega, Go.heap_alloc_new _ _⟩
  case last =>
    intro xv W hE hp
    obtain ⟨g0, r0, lo0, h0⟩ := hp.1
    have r1 : xv 1 = _ := hp.2.1
    have r2 : xv 2 = _ := hp.2.2.1
    have r3 : xv 3 = _ := hp.2.2.2.1
    obtain ⟨g4, r4, h4⟩ := hp.2.2.2.2.1
    have r5 : xv 5 = _ := hp.2.2.2.2.2.1
    obtain ⟨g6, r6, lo6, h6⟩ := hp.2.2.2.2.2.2.1
    clear hp
    simp only [putD, List.foldl_nil, List.foldl_cons, List.getD_cons_zero, List.getD_cons_succ, Act.put, List.length_cons, List.length_nil, List.range_succ, List.range_zero, List.nil_append, List.cons_append, List.setIfInBounds_toArray, List.set_cons_zero, List.set_cons_succ]
    simp only [r5, r6]
    have HX := Lib.hid (Ext.trans (Ext.drew V) hE)
    clear hE r0 r1 r2 r3 r4 r5 r6 lo0 h0 h4
    go_wp2_with (refine store_TE 53 53 g6 zK.toList x4K.toList h6 rfl (by kernel_rfl) x4K_one rfl (.tmp 3) (.tmp 18) rfl rfl rfl ?_; intro V2 h2 hg2)
    have hX2 : Ext V V2 := Ext.grow_ge HX.out hg2 (fun b e => by simp only [Option.some.injEq] at e; have := HS0.out; omega)
    have HX2 := Lib.hid hX2
    have HW2 := Lib.hid (Ext.trans HX0.out hX2)
    have h2' : V2.heap[g6]? = some (.cells #[.string ⟨#[103, 97, 116, 104, 101, 114]⟩, .func (.func 39) #[] #[], .func (.func 52) #[] #[], .func (.func 53) #[] #[], .func (.func 54) #[] #[], .func (.func 55) #[] #[]] 53 (0, 0)) := h2
    have HQ4 := Lib.hid (fun W (h : Ext V2 W) => And.intro ((HE0.out.ext hX2).ext h).get (And.intro (cells_of (blk_ext h2' h) 0 _ rfl) (cells_of (blk_ext h2' h) 1 _ rfl)))
    clear h2 h2' hX2 hg2 h6 lo6 HQ
    apply wp_region_seq (l := [_, _, _, _, _]) (t := [_, _]) [some 19, some 20, some 21, some 22, some 23, some 24, some 4] [[], [0], [], [2], [3], [1, 4], [5]] [1, 5, 3, 4, 5] [eqv _, (eqv (.string ⟨#[103, 97, 116, 104, 101, 114]⟩)), eqv _, eqv _, (eqv (.string ⟨(Lib.itoa i).toArray⟩))] (by kernel_rfl) (by kernel_rfl) ⟨?o0, ?o1, ?o2, ?o3, ?o4, trivial⟩ ?last
    case o0 => -- Op.fieldAddr 53 (Operand.tmp 3) 0
      intro xv W4 hE _
      simp only [putD, List.foldl_nil, List.getD_cons_zero]
      refine OpGoal.plain ?_
      go_wp2_with fail
      exact ⟨rfl, Ext.refl _, rfl⟩
    case o1 => -- Op.load 9 (Operand.tmp 19)
      intro xv W4 hE hp
      have r0 : xv 0 = _ := hp.1
      clear hp
      obtain ⟨⟨c0, c1, c2, c3, c4⟩, f0, f1⟩ := HQ4.out W4 (Ext.trans (Ext.drew V2) hE)
      simp only [putD, List.foldl_nil, List.foldl_cons, List.getD_cons_zero, List.getD_cons_succ, Act.put, List.setIfInBounds_toArray, List.set_cons_zero, List.set_cons_succ]
      refine OpGoal.plain ?_
      go_wp2_with fail
      exact ⟨rfl, Ext.refl _, rfl⟩
    case o2 => -- Op.fieldAddr 23 (Operand.tmp 1) 2
      intro xv W4 hE _
      simp only [putD, List.foldl_nil, List.getD_cons_zero, List.getD_cons_succ]
      refine OpGoal.plain ?_
      go_wp2_with fail
      exact ⟨rfl, Ext.refl _, rfl⟩
    case o3 => -- Op.load 3 (Operand.tmp 21)
      intro xv W4 hE hp
      have r2 : xv 2 = _ := hp.1
      clear hp
      obtain ⟨⟨c0, c1, c2, c3, c4⟩, f0, f1⟩ := HQ4.out W4 (Ext.trans (Ext.drew V2) hE)
      simp only [putD, List.foldl_nil, List.foldl_cons, List.getD_cons_zero, List.getD_cons_succ, Act.put, List.setIfInBounds_toArray, List.set_cons_zero, List.set_cons_succ]
      refine OpGoal.plain ?_
      go_wp2_with fail
      exact ⟨rfl, Ext.refl _, rfl⟩
    case o4 => -- Op.call { callee := Callee.value (Operand.func 18), args := #[Operand.tmp 22], a
      intro xv W4 hE hp
      have r3 : xv 3 = _ := hp.1
      clear hp
      simp only [putD, List.foldl_nil, List.foldl_cons, List.getD_cons_zero, List.getD_cons_succ, Act.put, List.setIfInBounds_toArray, List.set_cons_zero, List.set_cons_succ]
      refine OpGoal.plain ?_
      go_wp2_with fail
      refine (HI.out W4 (Ext.trans HW2.out (Ext.trans (Ext.drew V2) hE))).mono ?_
      rintro r W' ⟨rfl, hE'⟩
      go_wp2_with fail
      exact ⟨rfl, hE', rfl⟩
    case last =>
      intro xv W4 hE hp
      have r0 : xv 0 = _ := hp.1
      have r1 : xv 1 = _ := hp.2.1
      have r2 : xv 2 = _ := hp.2.2.1
      have r3 : xv 3 = _ := hp.2.2.2.1
      have r4 : xv 4 = _ := hp.2.2.2.2.1
      clear hp
      simp only [putD, List.foldl_nil, List.foldl_cons, List.getD_cons_zero, List.getD_cons_succ, Act.put, List.length_cons, List.length_nil, List.range_succ, List.range_zero, List.nil_append, List.cons_append, List.setIfInBounds_toArray, List.set_cons_zero, List.set_cons_succ]
      simp only [r1, r4]
      have HX4 := Lib.hid (Ext.trans (Ext.drew V2) hE)
      clear hE r0 r1 r2 r3 r4
      have hE5 := Ext.trans HX4.out (Ext.alloc W4 (.cells #[strV [103, 97, 116, 104, 101, 114], strV (Lib.itoa i)] 9))
      obtain ⟨⟨c0, c1, c2, c3, c4⟩, f0, f1⟩ := HQ4.out W4 HX4.out
      obtain ⟨⟨c0', c1', c2', c3', c4'⟩, f0', f1'⟩ := HQ4.out _ hE5
      have HE5 := Lib.hid hE5
      have HO5 := Lib.hid (ownS_two W4 [103, 97, 116, 104, 101, 114] (Lib.itoa i) (Nat.le_refl W4.heap.size))
      clear hE5
      unfold strV at c0' c1' c2' c3' c4' f0' f1'
      go_wp2_with fail
      refine (HS.out _).mono ?_
      rintro r w6 ⟨rfl, hE6⟩
      have HX6 := Lib.hid (Ext.trans HE5.out (show Ext (W4.alloc (.cells #[strV [103, 97, 116, 104, 101, 114], strV (Lib.itoa i)] 9)) w6 from hE6))
      have HO6 := Lib.hid (HO5.out.ext hE6)
      clear hE6 c0 c1 c2 c3 c4 f0 f1 c0' c1' c2' c3' c4' f0' f1'
      go_wp2_with fail
      refine (HN.out w6 (Ext.trans HW2.out HX6.out)).mono ?_
      rintro r w7 ⟨rfl, hE7⟩
      have HX7 := Lib.hid (Ext.trans HX6.out (Ext.trans hE7 (Ext.alloc w7 (.cells #[strV (Lib.itoa u)] 9))))
      have HO7 := Lib.hid (HO6.out.ext (Ext.trans hE7 (Ext.alloc w7 (.cells #[strV (Lib.itoa u)] 9))))
      have HR7 := Lib.hid (strRow_one w7 (Lib.itoa u))
      have HZ7 : Hid (W4.heap.size ≤ (w7.alloc (.cells #[strV (Lib.itoa u)] 9)).heap.size) := Lib.hid (by have h := HO7.out.lt _ rfl; exact Nat.le_trans h.1 (Nat.le_of_lt h.2))
      have HB7 : Hid (∀ b, (Value.slice (some ⟨W4.heap.size, 0, none⟩) 2 2).ownBlock = some b → V2.heap.size ≤ b) := Lib.hid (fun b e => Nat.le_trans HX4.out.sz (HO7.out.lt b e).1)
      have HL7 : Hid (([[103, 97, 116, 104, 101, 114], Lib.itoa i] : List (List UInt8)).length + [Lib.itoa u].length < 4294967296) := Lib.hid (by simp)
      clear hE7
      go_wp2_with (refine app_S rfl 28 35 rfl W4.heap.size _ ([[103, 97, 116, 104, 101, 114], Lib.itoa i] : List (List UInt8)) rfl HO7.out w7.heap.size 1 1 [Lib.itoa u] rfl rfl HR7.out HL7.out HZ7.out ?_; intro v8 w8 hO8 hg8; obtain ⟨⟨c0, c1, c2, c3, c4⟩, f0, f1⟩ := HQ4.out w8 (Ext.grow_ge HX7.out hg8 HB7.out))
      have HX8 := Lib.hid (Ext.grow_ge HX7.out hg8 HB7.out)
      rcases (show OwnS w8 W4.heap.size v8 [[103, 97, 116, 104, 101, 114], Lib.itoa i, Lib.itoa u] from hO8).form with ⟨h0, _⟩ | ⟨g8, cp8, rfl, _⟩
      · cases h0
      have HO8 := Lib.hid (show OwnS w8 W4.heap.size (.slice (some ⟨g8, 0, none⟩) 3 cp8) [[103, 97, 116, 104, 101, 114], Lib.itoa i, Lib.itoa u] from hO8)
      clear hO8 hg8
      refine (HT.out w8 (Ext.trans HW2.out HX8.out)).mono ?_
      rintro r w9 ⟨rfl, hE9⟩
      have HX9 := Lib.hid (Ext.trans HX8.out (Ext.trans hE9 (Ext.alloc w9 (.cells #[strV [97, 116], strV (Lib.itoa t)] 9))))
      have HO9 := Lib.hid (HO8.out.ext (Ext.trans hE9 (Ext.alloc w9 (.cells #[strV [97, 116], strV (Lib.itoa t)] 9))))
      have HR9 := Lib.hid (strRow_two w9 [97, 116] (Lib.itoa t))
      have HZ9 : Hid (W4.heap.size ≤ (w9.alloc (.cells #[strV [97, 116], strV (Lib.itoa t)] 9)).heap.size) := Lib.hid (by have h := HO9.out.lt _ rfl; exact Nat.le_trans h.1 (Nat.le_of_lt h.2))
      have HL9 : Hid (([[103, 97, 116, 104, 101, 114], Lib.itoa i, Lib.itoa u] : List (List UInt8)).length + ([[97, 116], Lib.itoa t] : List (List UInt8)).length < 4294967296) := Lib.hid (by simp)
      clear hE9 c0 c1 c2 c3 c4 f0 f1
      go_wp2_with (refine app_S rfl 37 41 rfl W4.heap.size _ [[103, 97, 116, 104, 101, 114], Lib.itoa i, Lib.itoa u] rfl HO9.out w9.heap.size 2 2 [[97, 116], Lib.itoa t] rfl rfl HR9.out HL9.out HZ9.out ?_; intro v10 w10 hO10 hg10)
      have HX10 := Lib.hid (Ext.grow_ge HX9.out hg10 (fun b e => by have := (HO9.out.lt b e).1; have := HX4.out.sz; omega))
      rcases (show OwnS w10 W4.heap.size v10 [[103, 97, 116, 104, 101, 114], Lib.itoa i, Lib.itoa u, [97, 116], Lib.itoa t] from hO10).form with ⟨h0, _⟩ | ⟨g10, cp10, rfl, _, hl10, hc10, _, hr10, _⟩
      · cases h0
      have HJ2 := Lib.hid (HJ.out g10 cp10 w10 hr10 hl10 hc10)
      clear hO10 hg10 hl10 hc10 hr10
      go_wp2_with fail
      refine HJ2.out.mono ?_
      rintro r w11 ⟨rfl, hE11⟩
      go_wp2_with fail
      go_ret
      exact ⟨rfl, Ext.trans HW2.out (Ext.trans HX10.out hE11)⟩
theorem text_any (e : Ev) (he : InEv e) (w : World) (ht : Tabs w) : Calls Tryz.prog 7 #[.agg #[.int .i64 e.kind, .int .i64 e.at_, .int .i64 e.id, .int .i64 e.other, .int .i64 e.n]] w fun r w' => r = .returned (.string ⟨(textE e).toArray⟩) ∧ Ext w w' := by
  by_cases h : 1 ≤ e.kind ∧ e.kind ≤ 4
  · obtain ⟨k, t, i, u, n⟩ := e
    obtain rfl | rfl | rfl | rfl : k = 1 ∨ k = 2 ∨ k = 3 ∨ k = 4 := by have h1 : 1 ≤ k := h.1; have h2 : k ≤ 4 := h.2; omega
    · exact text_k1 t i u n he w ht
    · exact text_k2 t i u n he w ht
    · exact text_k3 t i u n he w ht
    · exact text_k4 t i u n he w ht
  · exact text_bad e h w
end Go.Proofs.YtompfgofaplffaaGreatDoor
