/- The contract of line.Check. -/
import Derived.Test.YtompfgofaplffaaGreatDoorQEg
import Derived.Test.YtompfgofaplffaaGreatDoorQEh
import Derived.WalkMore
import Derived.Test.YtompfgofaplffaaGreatDoorQMonq
set_option linter.unusedSimpArgs false
set_option linter.unusedVariables false
namespace Go.Proofs.YtompfgofaplffaaGreatDoor
open Go.RowKit Hach Go.Shelf
attribute [local go_sem] Oper.semAt_some

/-- The segments of a line, of which the places are bounded. -/
theorem segs_stopsC (n : Nat) (hn : 1 ≤ n) (Bs b c : Nat) (A : Option Addr) (l : List Pt) (hreach : l.length < 4611686018427387904) (w : World) (hBs : w.cell? ⟨Bs, 0, none⟩ = some (.slice A l.length c)) (hA : Pts w A l) (hb : ∀ b' o, A = some ⟨b', o, none⟩ → b' = b) :
    SeqStopsK Fence.wide n Tryz.prog 176 #[.pointer (some ⟨Bs, 0, none⟩)] (fun x => sgV l (min x (l.length - 2))) (KpB Bs b) (fun ys => ys = List.range (l.length - 1)) (fun pre => ∃ k, k ≤ l.length - 1 ∧ pre = List.range k) (l.length - 1) w := fun y J Jx W hW hJ _ hY h0 => by
  have hlt : Bs < w.heap.size := by
    rcases Nat.lt_or_ge Bs w.heap.size with h | h
    · exact h
    · simp [World.cell?, Array.getElem?_eq_none h] at hBs
  have hc' := (hW.cell (p := ⟨Bs, 0, none⟩) hlt).trans hBs
  cases l with
  | nil => exact (seg0_in n y Bs c A J W hc' h0).mono fun e W' ⟨he, hj⟩ => ⟨he, .inl ⟨_, rfl, hj⟩⟩
  | cons p l =>
    obtain ⟨b', o, rfl, hlb⟩ := hA.some_ (by simp)
    obtain rfl := hb b' o rfl
    exact seg1_in n hn y Bs b' o c (p :: l) hreach J Jx W hJ (fun pre x W1 h1 h2 h3 => by
      have h := hY pre x W1 h1 h2
      simp only [Nat.min_eq_left (show x ≤ (p :: l).length - 2 by omega)] at h
      exact h) hc' (fun j hj i v hv => (hW.cell (p := ⟨b', o + j * 2 + i, none⟩) hlb).trans (hA.at_ hj i v hv)) h0
theorem gp_take {l : List Pt} {n k : Nat} (h : k < n) : gp (l.take n) k = gp l k := by
  unfold gp; rw [List.getD_eq_getElem?_getD, List.getD_eq_getElem?_getD, List.getElem?_take_of_lt h]
theorem Pts.take {W : World} {A : Option Addr} {l : List Pt} {n : Nat} (h : Pts W A l) (hn : n ≤ l.length) : Pts W A (l.take n) := fun j hj => by
  have hj' : j < n := by rw [List.length_take] at hj; omega
  obtain ⟨b, o, e, hb, hr⟩ := h j (by omega)
  exact ⟨b, o, e, hb, by show W.rangeAt b (o + j * 2) (ptC (gp (l.take n) j)); rw [gp_take hj']; exact hr⟩
theorem kpb_own {β : Type} (b1 b2 : Nat) (w : World) : Own (fun (_ : β) W => KpB b1 b2 w W) := fun s X Y row hs hg hr b hb o ho hc => by
  have hX := hs b hb o ho hc
  refine (hg.block b (Array.getElem?_eq_some_iff.1 hX).1 (fun e => ?_)).trans hX
  obtain ⟨o', h1, h2⟩ := hr b e.symm
  rw [hX] at h1; cases h1; rw [hc] at h2; cases h2
theorem undef_not_bool (b : Bool) : ¬ (some undef = some (Value.bool b)) := fun h => by cases h
theorem wpIn_scope_wide {n : Nat} {P : Program} {c : Code} {Q : Exit → Act → World → Prop} {a : Act} {w : World} (h : c.wpIn Fence.wide n P (Exit.noGoto Q) a w) : (Code.scope c).wpIn Fence.wide n P Q a w := wpIn_wide.2 (wp_scope_straight (wpIn_wide.1 h))
/-- A new variable, beside one that is written once with what it holds. -/
def nwZ (B : Nat) (T : TypeId) (Z : Array Value) (T' : TypeId) (C : Array Value) : SPl (OnceS B T Z Z) := ⟨[], fun _ v W => ∃ g, v = .pointer (some ⟨g, 0, none⟩) ∧ B ≤ g ∧ W.heap[g]? = some (.cells C T' (0, 0)), fun h hE => by
  obtain ⟨g, e, h1, h2⟩ := h
  refine ⟨g, e, h1, ?_⟩
  rcases hE.2 g h1 (Array.getElem?_eq_some_iff.1 h2).1 with h | ⟨h, h'⟩
  · rw [h]; exact h2
  · rw [h', ← h]; exact h2, fun _ h => h⟩
def ptW (B : Nat) (T : TypeId) (Z : Array Value) (i : Nat) : SPl (OnceS B T Z Z) := ⟨[i], fun _ _ _ => True, fun h _ => h, fun _ h => h⟩
set_option maxRecDepth 100000 in
set_option maxHeartbeats 4000000 in
theorem check_any (A : Option Addr) (c : Nat) (l : List Pt) (hreach : l.length < 4611686018427387904) (hcap : l.length ≤ c) (w : World) (hA : Pts w A l) :
    Calls Tryz.prog 68 #[.slice A l.length c] w fun e W' => e = .returned (.int .i64 (chkLn l)) ∧ Ext w W' := by
  refine (callsIn_wide (n := 10)).1 ?_
  refine callsIn_of_wp_marks Tryz.func68 rfl trivial ?_ rfl
  simp only [Tryz.ntmps68, List.size_toArray, List.length_cons, List.length_nil, Nat.reduceAdd, Nat.reduceSub, Array.replicate_succ, Array.replicate_zero, List.push_toArray, List.append_toArray, List.nil_append, List.cons_append]
  have HR := Lib.hid (lright_any l A c)
  gi_wp2
  refine wpIn_scope_wide ?_
  by_cases h1 : l.length < 2
  · have t1 : decide (l.length < 2) = true := by simpa using h1
    have HC : Hid (chkLn l = 2) := Lib.hid (by unfold chkLn; rw [if_pos (.inl h1)])
    gi_wp2
    exact ⟨.int .i64 2, by simp [results, Tryz.f68, go_sem], congrArg (fun x : Int => Ending.returned (.int .i64 x)) HC.out.symm, Ext.alloc _ _⟩
  have t1 : decide (l.length < 2) = false := by simpa using h1
  by_cases h2 : 40 < l.length
  · have t2 : decide (40 < l.length) = true := by simpa using h2
    have HC : Hid (chkLn l = 2) := Lib.hid (by unfold chkLn; rw [if_pos (.inr h2)])
    gi_wp2
    exact ⟨.int .i64 2, by simp [results, Tryz.f68, go_sem], congrArg (fun x : Int => Ending.returned (.int .i64 x)) HC.out.symm, Ext.alloc _ _⟩
  have t2 : decide (40 < l.length) = false := by simpa using h2
  have HC : Hid (chkLn l = if l.all rightP = false then 10 else if (List.range (l.length - 1)).all (segOk l) = true then 0 else 11) := Lib.hid (by unfold chkLn; rw [if_neg (by omega)])
  have HA := Lib.hid hA
  clear hA
  generalize hr : l.all rightP = r at *
  cases r with
  | false =>
    gi_wp2_with (refine ⟨trivial, ?_⟩; gi_at_call 128; refine (callsIn_wide.2 (HR.out _ (by omega) (HA.out.keep (Ext.alloc _ _)))).mono ?_; rintro e w' ⟨rfl, hE⟩)
    exact ⟨.int .i64 10, by simp [results, Tryz.f68, go_sem], congrArg (fun x : Int => Ending.returned (.int .i64 x)) HC.out.symm, Ext.trans (Ext.alloc _ _) hE⟩
  | true =>
    gi_wp2_with (refine ⟨trivial, ?_⟩; gi_at_call 128; refine (callsIn_wide.2 (HR.out _ (by omega) (HA.out.keep (Ext.alloc _ _)))).mono ?_; rintro e w' ⟨rfl, hE⟩)
    obtain ⟨b, hb⟩ : ∃ b, ∀ b' o, A = some ⟨b', o, none⟩ → b' = b := by
      cases A with
      | none => exact ⟨0, fun _ _ e => by cases e⟩
      | some a => exact ⟨a.block, fun b' o e => by cases e; rfl⟩
    have hbl : 0 < l.length → b < w.heap.size := fun h0 => by
      obtain ⟨b', o, e, hlt⟩ := HA.out.some_ h0
      rw [← hb b' o e]; exact hlt
    have hEw := Ext.trans (Ext.alloc w (.cells #[.slice A l.length c] 75)) hE
    have hAv := HA.out.keep hEw
    have bL : w'.heap[w.heap.size]? = some (.cells #[.slice A l.length c] 75 (0, 0)) := blk_ext (Go.heap_alloc_new w _) hE
    have HAw := HA
    clear hE HA
    generalize hsl0 : w.heap.size = sl at *
    have e2 : IntKind.i64.wrap ((l.length : Int) - 2) = ((l.length - 2 : Nat) : Int) := by rw [IntWalk.i64_in _ (by omega)]; omega
    have HL := Lib.hid (fun (W : World) (h : OnceS w'.heap.size 46 #[.int .i64 0] #[.int .i64 0] w'.drew W) => cells_of (blk_ext bL (Ext.trans (Ext.drew w') (show Ext w'.drew W from h.1))) 0 _ rfl)
    have HSZ := Lib.hid (fun (W : World) (h : OnceS w'.heap.size 46 #[.int .i64 0] #[.int .i64 0] w'.drew W) => (show w'.heap.size ≤ W.heap.size from h.1.size))
    apply wpIn_region_new (E := OnceS w'.heap.size 46 #[.int .i64 0] #[.int .i64 0]) [3, 4] (fun h => OnceS.sz h) (OnceS.refl w'.heap.size 46 #[.int .i64 0] #[.int .i64 0]) (@OnceS.trans w'.heap.size 46 #[.int .i64 0] #[.int .i64 0]) (l := [_, _, _, _, _, _]) (t := [_]) [some 21, some 22, some 23, some 3, some 4, none, none] [[], [0], [1], [], [], [3], [2, 4]] [6, 6, 6, 6, 6, 6] [eql _, eql _, (eql (.int .i64 ((l.length - 2 : Nat) : Int))), (nwZ w'.heap.size 46 #[.int .i64 0] 46 #[.int .i64 0]), (nwZ w'.heap.size 46 #[.int .i64 0] 3 #[.int .i64 0]), (ptW w'.heap.size 46 #[.int .i64 0] 3)] (by kernel_rfl) (by kernel_rfl) (by kernel_rfl) ⟨?o0, ?o1, ?o2, ?o3, ?o4, ?o5, trivial⟩ ?last
    case o0 => -- Op.load 75 (Operand.tmp 1)
      intro xv W hE _
      have cL := HL.out W hE
      simp only [putD, List.foldl_nil, List.getD_cons_zero]
      refine OpGoal.plain ?_
      go_wp2_with fail
      exact ⟨rfl, (OnceS.refl w'.heap.size 46 #[.int .i64 0] #[.int .i64 0]) _, rfl⟩
    case o1 => -- Op.call { callee := Callee.builtin Builtin.len, args := #[Operand.tmp 21], argTy
      intro xv W hE hp
      have r0 : xv 0 = _ := hp.1
      clear hp
      simp only [putD, List.foldl_nil, List.foldl_cons, List.getD_cons_zero, List.getD_cons_succ, Act.put, List.setIfInBounds_toArray, List.set_cons_zero, List.set_cons_succ]
      refine OpGoal.plain ?_
      go_wp2_with fail
      exact ⟨rfl, (OnceS.refl w'.heap.size 46 #[.int .i64 0] #[.int .i64 0]) _, rfl⟩
    case o2 => -- Op.binOp BinOp.sub 3 (Operand.tmp 22) (Operand.const (Value.int IntKind.i64 2)) 
      intro xv W hE hp
      have r1 : xv 1 = _ := hp.1
      clear hp
      simp only [putD, List.foldl_nil, List.foldl_cons, List.getD_cons_zero, List.getD_cons_succ, Act.put, List.setIfInBounds_toArray, List.set_cons_zero, List.set_cons_succ]
      refine OpGoal.plain ?_
      go_wp2_with fail
      exact ⟨rfl, OnceS.refl w'.heap.size 46 #[.int .i64 0] #[.int .i64 0] _, rfl⟩
    case o3 => -- Op.alloc 46
      intro xv W hE _
      simp only [putD, List.foldl_nil, List.getD_cons_zero, List.getD_cons_succ]
      refine OpGoal.plain ?_
      go_wp2_with fail
      exact ⟨rfl, ⟨OnceS.ext (Ext.alloc _ _) (HSZ.out W hE), W.heap.size, rfl, HSZ.out W hE, Go.heap_alloc_new _ _⟩, ⟨W.heap.size, rfl, Nat.le_refl _, by simp⟩⟩
    case o4 => -- Op.alloc 3
      intro xv W hE _
      simp only [putD, List.foldl_nil, List.getD_cons_zero, List.getD_cons_succ]
      refine OpGoal.plain ?_
      go_wp2_with fail
      exact ⟨rfl, ⟨OnceS.ext (Ext.alloc _ _) (HSZ.out W hE), W.heap.size, rfl, HSZ.out W hE, Go.heap_alloc_new _ _⟩, ⟨W.heap.size, rfl, Nat.le_refl _, by simp⟩⟩
    case o5 => -- Op.store 46 (Operand.tmp 3) (Operand.const (Value.int IntKind.i64 0))
      intro xv W hE hp
      obtain ⟨g3, r3, lo3, hz3⟩ := hp.1
      clear hp
      simp only [putD, List.foldl_nil, List.foldl_cons, List.getD_cons_zero, List.getD_cons_succ, Act.put, List.setIfInBounds_toArray, List.set_cons_zero, List.set_cons_succ]
      refine OpGoal.plain ?_
      have b3 : Boxed W g3 46 (.int .i64 0) := hz3
      have c3 := b3.cell
      have f3 := b3.frozen
      go_wp2_with fail
      exact ⟨rfl, fun _ => ⟨OnceS.put (HSZ.out W hE) lo3 (.inl hz3) (b3.set (.int .i64 0)) (grownE_set W g3 0 _), trivial⟩⟩
    case last =>
      intro xv W hE hp hpr
      have r0 : xv 0 = _ := hp.1
      have r1 : xv 1 = _ := hp.2.1
      have r2 : xv 2 = _ := hp.2.2.1
      obtain ⟨g3, r3, lo3, hz3⟩ := hp.2.2.2.1
      obtain ⟨g4, r4, lo4, hz4⟩ := hp.2.2.2.2.1
      have r5 := hp.2.2.2.2.2.1
      clear hp
      simp only [putD, List.foldl_nil, List.foldl_cons, List.getD_cons_zero, List.getD_cons_succ, Act.put, List.length_cons, List.length_nil, List.range_succ, List.range_zero, List.nil_append, List.cons_append, List.setIfInBounds_toArray, List.set_cons_zero, List.set_cons_succ]
      have hne : g3 ≠ g4 := fun e => hpr 3 (by simp) 4 (by simp) (by simp) (by simp) (by decide) (by rw [r3, r4, e])
      clear hpr
      have b3 : Boxed W g3 46 (.int .i64 0) := hz3
      have b4 : Boxed W g4 3 (.int .i64 0) := hz4
      have c4 := b4.cell
      have f4 := b4.frozen
      simp only [r3, r4, r2]
      gi_wp2
      refine wpIn_label ?_
      have hX : Ext w' W := Ext.trans (Ext.drew w') (show Ext w'.drew W from hE.1)
      have hb3' := b3.other hne (.int .i64 ((l.length - 2 : Nat) : Int))
      have hb4' := b4.set (.int .i64 ((l.length - 2 : Nat) : Int))
      have hXV : Ext w' (W.setCell ⟨g4, 0, none⟩ (.int .i64 ((l.length - 2 : Nat) : Int))) := (Below.setCell (p := ⟨g4, 0, none⟩) hX lo4 _)
      clear b3 b4 c4 f4 hX hE hz3 hz4 HL HSZ r0 r1 r2 r3 r4 r5
      generalize W.setCell ⟨g4, 0, none⟩ (.int .i64 ((l.length - 2 : Nat) : Int)) = V at *
      have HA := Lib.hid (hAv.keep hXV)
      have bL' := blk_ext bL hXV
      have hEV := Ext.trans hEw hXV
      have hsl := (Array.getElem?_eq_some_iff.1 bL).1
      clear hXV hEw hAv bL xv W
      have cL := cells_of bL' 0 _ rfl
      have HG := Lib.hid (segs_any A l.length c)
      gi_wp2_with (refine ⟨trivial, ?_⟩; gi_at_call 129; refine (callsIn_wide.2 (HG.out _)).mono ?_; rintro e w' ⟨rfl, rfl⟩)
      -- LOOPS
      have hcs : (V.alloc (.cells #[.slice A l.length c] 75)).cell? ⟨V.heap.size, 0, none⟩ = some (.slice A l.length c) := cells_of (Go.heap_alloc_new V _) 0 _ rfl
      have hE1 : Ext V (V.alloc (.cells #[.slice A l.length c] 75)) := Ext.alloc _ _
      have hsz1 : (V.alloc (.cells #[.slice A l.length c] 75)).heap.size = V.heap.size + 1 := by simp
      have b3 := hb3'.alloc (.cells #[.slice A l.length c] 75)
      have b4 := hb4'.alloc (.cells #[.slice A l.length c] 75)
      have bL := blk_ext bL' hE1
      have hB1 : Below sl w (V.alloc (.cells #[.slice A l.length c] 75)) := hsl0 ▸ Ext.trans hEV hE1
      have HA1 := Lib.hid (HA.out.keep hE1)
      have hg3 := (Array.getElem?_eq_some_iff.1 (show V.heap[g3]? = _ from hb3')).1
      have hg4 := (Array.getElem?_eq_some_iff.1 (show V.heap[g4]? = _ from hb4')).1
      clear hb3' hb4' bL' cL HA
      generalize V.alloc (.cells #[.slice A l.length c] 75) = V1 at *
      generalize V.heap.size = n0 at *
      have HB := Lib.hid hb
      have HC2 := Lib.hid hcap
      have h3sl : sl ≠ g3 := by omega
      have hslV1 : sl < V1.heap.size := by omega
      have hb_lt := hbl (by omega)
      refine wpIn_rangeFunc_ownH (F := Fence.wide) rfl (by omega) (gf := 176) (lb := #[.pointer (some ⟨n0, 0, none⟩)]) rfl trivial (enters_of Tryz.func176 (by kernel_rfl) rfl)
        (segs_stopsC (10 - 1) (by omega) n0 b c A l (by omega) V1 hcs HA1.out hb) KpB.trans (fun W y o o' _ h hc _ => KpB.put W y o o' h hc) (Below.refl _ _) (fun _ => rfl)
        (fun pre W => (((Boxed W g3 46 (.int .i64 0) ∧ Boxed W g4 3 (.int .i64 ((l.length - 2 : Nat) : Int))) ∧ W.heap[sl]? = some (.cells #[.slice A l.length c] 75 (0, 0))) ∧ Hid (pre = List.range pre.length → (List.range pre.length).all (segOk l) = true)) ∧ Below sl w W)
        (fun co pre W => ((co = Code.exit 0 ∧ Hid (pre = List.range pre.length → (List.range pre.length).all (segOk l) = false)) ∧ Boxed W g3 46 (.int .i64 11)) ∧ Below sl w W)
        (OwnFrom.and (OwnFrom.and (OwnFrom.and (OwnFrom.and (Own.from (boxed_own g3 46 (fun _ : List Nat => Value.int .i64 0)) _) (Own.from (boxed_own g4 3 (fun _ : List Nat => Value.int .i64 ((l.length - 2 : Nat) : Int))) _)) (Own.from (cells_own sl (fun _ : List Nat => #[.slice A l.length c]) 75) _)) (ownFrom_pure _ _)) (ownFrom_below (Nat.le_of_eq hsl0.symm) (by omega)))
        (fun co => OwnFrom.and (OwnFrom.and (ownFrom_pure _ _) (Own.from (boxed_own g3 46 (fun _ : List Nat => Value.int .i64 11)) _)) (ownFrom_below (Nat.le_of_eq hsl0.symm) (by omega)))
        ⟨⟨⟨⟨b3, b4⟩, bL⟩, Lib.hid (fun _ => rfl)⟩, hB1⟩
        (fun x a' W => ∃ B5 B6, (Boxed W B5 3 (.int .i64 ((min x (l.length - 2)) : Nat)) ∧ W.heap[B6]? = some (.cells #[.int .i64 (gp l (min x (l.length - 2))).x, .int .i64 (gp l (min x (l.length - 2))).y, .int .i64 (gp l ((min x (l.length - 2)) + 1)).x, .int .i64 (gp l ((min x (l.length - 2)) + 1)).y] 175 (0, 0))) ∧ a' = { tmps := #[.slice A l.length c, .pointer (some ⟨sl, 0, none⟩), .int .i64 0, .pointer (some ⟨g3, 0, none⟩), .pointer (some ⟨g4, 0, none⟩), .pointer (some ⟨B5, 0, none⟩), .pointer (some ⟨B6, 0, none⟩), undef, undef, undef, .slice A l.length c, .int .i64 (l.length : Int), .bool (decide ((l.length : Int) < 2)), .bool (decide ((l.length : Int) < 2)), .slice A l.length c, .int .i64 (l.length : Int), .bool (decide (40 < (l.length : Int))), .bool (decide ((l.length : Int) < 2) || decide (40 < (l.length : Int))), .slice A l.length c, .bool true, .bool false, .slice A l.length c, .int .i64 (l.length : Int), .int .i64 ((l.length - 2 : Nat) : Int), .slice A l.length c, .func (.func 176) #[] #[.pointer (some ⟨n0, 0, none⟩)], .int .i64 ((min x (l.length - 2)) : Nat), .agg #[.int .i64 (gp l (min x (l.length - 2))).x, .int .i64 (gp l (min x (l.length - 2))).y, .int .i64 (gp l ((min x (l.length - 2)) + 1)).x, .int .i64 (gp l ((min x (l.length - 2)) + 1)).y], undef, undef, undef, undef, undef, undef, undef, undef, undef, undef, undef, undef, undef, undef, undef, undef, undef, undef, undef, undef, undef, undef, undef, undef, undef, undef, undef, undef, undef, undef, undef, undef, undef, undef, undef], defers := [] })
        (fun x a' s X Y row hs hg hr => by
          obtain ⟨B5, B6, ⟨e2, e3⟩, e4⟩ := hs
          exact ⟨B5, B6, ⟨boxed_own B5 3 (fun (_ : Unit) => Value.int .i64 ((min x (l.length - 2)) : Nat)) () X Y row e2 hg (fun r e => (hr r e).2), cells_own B6 (fun (_ : Unit) => #[.int .i64 (gp l (min x (l.length - 2))).x, .int .i64 (gp l (min x (l.length - 2))).y, .int .i64 (gp l ((min x (l.length - 2)) + 1)).x, .int .i64 (gp l ((min x (l.length - 2)) + 1)).y]) 175 () X Y row e3 hg (fun r e => (hr r e).2)⟩, e4⟩)
        ?assign ?body ?done ?stop
      case assign =>
        rintro y pre x W K ⟨⟨⟨⟨b3, b4⟩, bL⟩, hs⟩, hB⟩ hK
        unfold sgV
        gi_wp2
        have hn0 : sl ≤ W.heap.size := hsl0 ▸ hB.size
        refine hK _ _ (((KeepsOthers.alloc _ _).trans (KeepsOthers.alloc _ _)).from _) (KpB.ext (Ext.trans (Ext.alloc _ _) (Ext.alloc _ _))) ⟨⟨⟨⟨(b3.alloc _).alloc _, (b4.alloc _).alloc _⟩, blk_ext bL (Ext.trans (Ext.alloc _ _) (Ext.alloc _ _))⟩, hs⟩, (hB.alloc hn0 _).alloc (by simp; omega) _⟩ ⟨W.heap.size, W.heap.size + 1, ⟨(Boxed.new W 3 _).alloc _, ?_⟩, rfl⟩
        have h := Go.heap_alloc_new (W.alloc (.cells #[.int .i64 (((min x (l.length - 2)) : Nat) : Int)] 3)) (.cells #[.int .i64 (gp l (min x (l.length - 2))).x, .int .i64 (gp l (min x (l.length - 2))).y, .int .i64 (gp l ((min x (l.length - 2)) + 1)).x, .int .i64 (gp l ((min x (l.length - 2)) + 1)).y] 175)
        simpa only [World.size_alloc] using h
      case body =>
        rintro y pre x a' W hl hr' ⟨⟨⟨⟨b3, b4⟩, bL⟩, hs⟩, hB⟩ ⟨B5, B6, ⟨b5, b6⟩, rfl⟩ hlt
        have hi : min x (l.length - 2) ≤ l.length - 2 := Nat.min_le_right _ _
        have hix : pre ++ [x] = List.range (pre ++ [x]).length → x = min x (l.length - 2) ∧ x = pre.length ∧ pre = List.range pre.length := fun h => by
          rw [List.length_append, List.length_singleton, List.range_succ] at h
          obtain ⟨h1, h2⟩ := List.append_inj' h rfl
          have hx : x = pre.length := by simpa using h2
          exact ⟨by omega, hx, h1⟩
        generalize min x (l.length - 2) = i at *
        have q0 := cells_of b6 0 _ rfl
        have q1 := cells_of b6 1 _ rfl
        have q2 := cells_of b6 2 _ rfl
        have q3 := cells_of b6 3 _ rfl
        have q5 := b5.cell
        have cL := cells_of bL 0 _ rfl
        have c3 := b3.cell
        have f3 := b3.frozen
        have hq : ∀ w, (binOp .eql 73 (.agg #[.int .i64 (gp l i).x, .int .i64 (gp l i).y]) (.agg #[.int .i64 (gp l (i + 1)).x, .int .i64 (gp l (i + 1)).y])).run Tryz.prog w = .ok (.bool (decide (gp l i = gp l (i + 1)))) w := pt_eql (gp l i) (gp l (i + 1))
        have hall : pre ++ [x] = List.range (pre ++ [x]).length → ((List.range (pre ++ [x]).length).all (segOk l) = segOk l i) := fun h => by
          obtain ⟨e1, e2, e3⟩ := hix h
          rw [List.length_append, List.length_singleton, all_range_succ, hs.out e3, ← e2, e1, Bool.true_and]
        cases hqv : decide (gp l i = gp l (i + 1)) with
        | true =>
          have hno : segOk l i = false := by unfold segOk; rw [hqv]; rfl
          rw [hqv] at hq
          gi_wp2
          exact ⟨(KeepsOthers.setCell _ _ _).from _, ⟨⟨rfl, Lib.hid (fun h => (hall h).trans hno)⟩, b3.set _⟩, hB.setCell (p := ⟨g3, 0, none⟩) (by show sl ≤ g3; omega) _⟩
        | false =>
          have hno : segOk l i = (List.range i).all (pairOk l i) := by unfold segOk; rw [hqv]; rfl
          rw [hqv] at hq
          have e1 : IntKind.i64.wrap ((i : Int) + 1) = ((i + 1 : Nat) : Int) := by rw [IntWalk.i64_in _ (by omega)]; omega
          have hcap := HC2.out
          have HG2 := Lib.hid (segs_any A (i + 1) c)
          gi_wp2_with (refine ⟨trivial, ?_⟩; gi_at_call 129; refine (CallsIn.inRound y (callsIn_wide.2 (HG2.out _))).mono ?_; rintro e w' ⟨rfl, rfl⟩)
          have hi1 : i + 1 ≤ l.length := by omega
          have hlt' : (l.take (i + 1)).length = i + 1 := by rw [List.length_take]; omega
          have hgp : ∀ k, k ≤ i → gp (l.take (i + 1)) k = gp l k := fun k hk => gp_take (by omega)
          have hAW : Pts W A (l.take (i + 1)) := Pts.take (RowAt.below HAw.out (fun b' o e => (hb b' o e) ▸ hb_lt) hB) hi1
          generalize l.take (i + 1) = l' at *
          obtain ⟨r, hr2⟩ := hr'
          have hn0 : sl ≤ W.heap.size := hsl0 ▸ hB.size
          have hyW := (Array.getElem?_eq_some_iff.1 hr2).1
          have hr3 : (W.alloc (.cells #[.slice A (i + 1 : Nat) c] 75)).heap[y]? = some (.loop r) := (Below.heap_alloc W _ y hyW).trans hr2
          have hcs2 : (W.alloc (.cells #[.slice A (i + 1 : Nat) c] 75)).cell? ⟨W.heap.size, 0, none⟩ = some (.slice A l'.length c) := (cells_of (Go.heap_alloc_new W _) 0 _ rfl).trans (by rw [hlt']; rfl)
          have hE2 : Ext W (W.alloc (.cells #[.slice A (i + 1 : Nat) c] 75)) := Ext.alloc _ _
          have hsz2 : (W.alloc (.cells #[.slice A (i + 1 : Nat) c] 75)).heap.size = W.heap.size + 1 := by simp
          have b3' := b3.alloc (.cells #[.slice A (i + 1 : Nat) c] 75)
          have b4' := b4.alloc (.cells #[.slice A (i + 1 : Nat) c] 75)
          have b5' := b5.alloc (.cells #[.slice A (i + 1 : Nat) c] 75)
          have b6' := blk_ext b6 hE2
          have bL' := blk_ext bL hE2
          have hB2 : Below sl w (W.alloc (.cells #[.slice A (i + 1 : Nat) c] 75)) := hB.alloc hn0 _
          have hK2 : KeepsFrom V1.heap.size W (W.alloc (.cells #[.slice A (i + 1 : Nat) c] 75)) := (KeepsOthers.alloc _ _).from _
          have hA2 := hAW.keep hE2
          have hg3W := (Array.getElem?_eq_some_iff.1 (show W.heap[g3]? = _ from b3)).1
          clear cL q0 q1 q2 q3 q5 c3 f3
          generalize W.alloc (.cells #[.slice A (i + 1 : Nat) c] 75) = W1 at *
          have HLT := Lib.hid hlt'
          have HL2 : l'.length < 4611686018427387904 := by omega
          clear hlt'
          refine wpIn_rangeFunc_ownN (F := Fence.wide.inRound y) (l₀ := y) (r₀ := r) rfl hr3 (by omega) (gf := 176) (lb := #[.pointer (some ⟨W.heap.size, 0, none⟩)]) rfl trivial (enters_of Tryz.func176 (by kernel_rfl) rfl)
            ((segs_stopsC (10 - 1 - 1 - 1) (by omega) W.heap.size b c A l' HL2 W1 hcs2 hA2 hb).inRound y) KpB.trans (fun W y o o' _ h hc _ => KpB.put W y o o' h hc) (Below.refl _ _) (fun _ => rfl)
            (fun pre W' => ((((((Boxed W' g3 46 (.int .i64 0) ∧ Boxed W' g4 3 (.int .i64 ((l.length - 2 : Nat) : Int))) ∧ W'.heap[sl]? = some (.cells #[.slice A l.length c] 75 (0, 0))) ∧ W'.heap[B6]? = some (.cells #[.int .i64 (gp l i).x, .int .i64 (gp l i).y, .int .i64 (gp l (i + 1)).x, .int .i64 (gp l (i + 1)).y] 175 (0, 0))) ∧ Boxed W' B5 3 (.int .i64 (i : Nat))) ∧ Hid (pre = List.range pre.length → (List.range pre.length).all (pairOk l i) = true)) ∧ (Below sl w W' ∧ KeepsFrom V1.heap.size W W')) ∧ KpB n0 b W W')
            (fun co pre W' => ((co = Code.exit 0 ∧ Hid (pre = List.range pre.length → (List.range pre.length).all (pairOk l i) = false)) ∧ Boxed W' g3 46 (.int .i64 11)) ∧ (Below sl w W' ∧ KeepsFrom V1.heap.size W W'))
            (OwnFrom.and (OwnFrom.and (OwnFrom.and (OwnFrom.and (OwnFrom.and (OwnFrom.and (OwnFrom.and (Own.from (boxed_own g3 46 (fun _ : List Nat => Value.int .i64 0)) _) (Own.from (boxed_own g4 3 (fun _ : List Nat => Value.int .i64 ((l.length - 2 : Nat) : Int))) _)) (Own.from (cells_own sl (fun _ : List Nat => #[.slice A l.length c]) 75) _)) (Own.from (cells_own B6 (fun _ : List Nat => #[.int .i64 (gp l i).x, .int .i64 (gp l i).y, .int .i64 (gp l (i + 1)).x, .int .i64 (gp l (i + 1)).y]) 175) _)) (Own.from (boxed_own B5 3 (fun _ : List Nat => Value.int .i64 (i : Nat))) _)) (ownFrom_pure _ _)) (OwnFrom.and (ownFrom_below (Nat.le_of_eq hsl0.symm) (by omega)) (ownFrom_keepsFrom (by omega)))) (Own.from (kpb_own n0 b W) _))
            (fun co => OwnFrom.and (OwnFrom.and (ownFrom_pure _ _) (Own.from (boxed_own g3 46 (fun _ : List Nat => Value.int .i64 11)) _)) (OwnFrom.and (ownFrom_below (Nat.le_of_eq hsl0.symm) (by omega)) (ownFrom_keepsFrom (by omega))))
            ⟨⟨⟨⟨⟨⟨⟨b3', b4'⟩, bL'⟩, b6'⟩, b5'⟩, Lib.hid (fun _ => rfl)⟩, hB2, hK2⟩, KpB.ext hE2⟩
            (fun x a' W' => ∃ B8, W'.heap[B8]? = some (.cells #[.int .i64 (gp l' (min x (l'.length - 2))).x, .int .i64 (gp l' (min x (l'.length - 2))).y, .int .i64 (gp l' ((min x (l'.length - 2)) + 1)).x, .int .i64 (gp l' ((min x (l'.length - 2)) + 1)).y] 175 (0, 0)) ∧ a' = { tmps := #[.slice A l.length c, .pointer (some ⟨sl, 0, none⟩), .int .i64 0, .pointer (some ⟨g3, 0, none⟩), .pointer (some ⟨g4, 0, none⟩), .pointer (some ⟨B5, 0, none⟩), .pointer (some ⟨B6, 0, none⟩), .int .i64 (((min x (l'.length - 2)) : Nat) : Int), .pointer (some ⟨B8, 0, none⟩), undef, .slice A l.length c, .int .i64 (l.length : Int), .bool (decide ((l.length : Int) < 2)), .bool (decide ((l.length : Int) < 2)), .slice A l.length c, .int .i64 (l.length : Int), .bool (decide (40 < (l.length : Int))), .bool (decide ((l.length : Int) < 2) || decide (40 < (l.length : Int))), .slice A l.length c, .bool true, .bool false, .slice A l.length c, .int .i64 (l.length : Int), .int .i64 ((l.length - 2 : Nat) : Int), .slice A l.length c, .func (.func 176) #[] #[.pointer (some ⟨n0, 0, none⟩)], .int .i64 (i : Nat), .agg #[.int .i64 (gp l i).x, .int .i64 (gp l i).y, .int .i64 (gp l (i + 1)).x, .int .i64 (gp l (i + 1)).y], .pointer (some ⟨B6, 0, none⟩), .agg #[.int .i64 (gp l i).x, .int .i64 (gp l i).y], .pointer (some ⟨B6, 2, none⟩), .agg #[.int .i64 (gp l (i + 1)).x, .int .i64 (gp l (i + 1)).y], .bool false, .slice A l.length c, .int .i64 (i : Nat), .int .i64 ((i : Int) + 1), .slice A (i + 1) c, .func (.func 176) #[] #[.pointer (some ⟨W.heap.size, 0, none⟩)], .int .i64 (((min x (l'.length - 2)) : Nat) : Int), .agg #[.int .i64 (gp l' (min x (l'.length - 2))).x, .int .i64 (gp l' (min x (l'.length - 2))).y, .int .i64 (gp l' ((min x (l'.length - 2)) + 1)).x, .int .i64 (gp l' ((min x (l'.length - 2)) + 1)).y], undef, undef, undef, undef, undef, undef, undef, undef, undef, undef, undef, undef, undef, undef, undef, undef, undef, undef, undef, undef, undef, undef, undef], defers := [] })
            (fun x a' s X Y row hs hg hr => by
              obtain ⟨B8, e3, e4⟩ := hs
              exact ⟨B8, cells_own B8 (fun (_ : Unit) => #[.int .i64 (gp l' (min x (l'.length - 2))).x, .int .i64 (gp l' (min x (l'.length - 2))).y, .int .i64 (gp l' ((min x (l'.length - 2)) + 1)).x, .int .i64 (gp l' ((min x (l'.length - 2)) + 1)).y]) 175 () X Y row e3 hg (fun r e => (hr r e).2), e4⟩)
            ?assign2 ?body2 ?done2 ?stop2
          case assign2 =>
            rintro y2 pre2 x2 W2 K ⟨⟨⟨⟨⟨⟨⟨b3, b4⟩, bL⟩, b6⟩, b5⟩, hs2⟩, hB, hK2⟩, hKp⟩ hK
            unfold sgV
            gi_wp2
            have hn0 : sl ≤ W2.heap.size := hsl0 ▸ hB.size
            refine hK _ _ ((KeepsOthers.alloc _ _).from _) (KpB.ext (Ext.alloc _ _)) ⟨⟨⟨⟨⟨⟨⟨b3.alloc _, b4.alloc _⟩, blk_ext bL (Ext.alloc _ _)⟩, blk_ext b6 (Ext.alloc _ _)⟩, b5.alloc _⟩, hs2⟩, hB.alloc hn0 _, hK2.trans ((KeepsOthers.alloc _ _).from _)⟩, hKp.trans (KpB.ext (Ext.alloc _ _))⟩ ⟨W2.heap.size, Go.heap_alloc_new _ _, rfl⟩
          case body2 =>
            rintro y2 pre2 x2 a'' W2 hl2 hr2' ⟨⟨⟨⟨⟨⟨⟨b3, b4⟩, bL⟩, b6⟩, b5⟩, hs2⟩, hB, hK2⟩, hKp⟩ ⟨B8, b8, rfl⟩ hlt2
            have hk1 : min x2 (l'.length - 2) ≤ l'.length - 2 := Nat.min_le_right _ _
            have hix2 : pre2 ++ [x2] = List.range (pre2 ++ [x2]).length → x2 = min x2 (l'.length - 2) ∧ x2 = pre2.length ∧ pre2 = List.range pre2.length := fun h => by
              rw [List.length_append, List.length_singleton, List.range_succ] at h
              obtain ⟨h1, h2⟩ := List.append_inj' h rfl
              have hx : x2 = pre2.length := by simpa using h2
              exact ⟨by omega, hx, h1⟩
            generalize min x2 (l'.length - 2) = k at *
            have hki : k + 1 ≤ i := by have := HLT.out; omega
            rw [hgp k (by omega), hgp (k + 1) hki] at b8 ⊢
            have hall2 : pre2 ++ [x2] = List.range (pre2 ++ [x2]).length → ((List.range (pre2 ++ [x2]).length).all (pairOk l i) = pairOk l i k) := fun h => by
              obtain ⟨e1, e2, e3⟩ := hix2 h
              rw [List.length_append, List.length_singleton, all_range_succ, hs2.out e3, ← e2, e1, Bool.true_and]
            have HM := Lib.hid (smeet_any (gp l i) (gp l (i + 1)) (gp l k) (gp l (k + 1)))
            have hm : pairOk l i k = decide (meet (gp l i) (gp l (i + 1)) (gp l k) (gp l (k + 1)) = wantL l i k) := by unfold pairOk; rw [meet_comm]
            have HCl := Lib.hid (closed_any l A c)
            have hAW2 : Hid (Pts W2 A l) := Lib.hid (RowAt.below HAw.out (fun b' o e => (hb b' o e) ▸ hb_lt) hB)
            generalize meet (gp l i) (gp l (i + 1)) (gp l k) (gp l (k + 1)) = M at *
            have HMM := Lib.hid hm
            have HL2 := Lib.hid hall2
            have HGE := Lib.hid hall
            have e3 : IntKind.i64.wrap ((k : Int) + 1) = ((k + 1 : Nat) : Int) := by rw [IntWalk.i64_in _ (by omega)]; omega
            clear hm hall2 hall hs hs2 hix hix2 hr2 hr2' hr3 hq hcs hcs2 hl hl2 hAW hA2 hE2 hgp
            have q0 := cells_of b6 0 _ rfl
            have q1 := cells_of b6 1 _ rfl
            have q2 := cells_of b6 2 _ rfl
            have q3 := cells_of b6 3 _ rfl
            have u0 := cells_of b8 0 _ rfl
            have u1 := cells_of b8 1 _ rfl
            have u2 := cells_of b8 2 _ rfl
            have u3 := cells_of b8 3 _ rfl
            have q5 := b5.cell
            have cL := cells_of bL 0 _ rfl
            have c3 := b3.cell
            have c4 := b4.cell
            have f3 := b3.frozen
            have hslg : sl ≤ g3 := by omega
            clear HR HC hEV hE1 hB1 HA1 HB HC2 HG HG2 lo3 lo4 h1 t1 h2 t2 hr b3' b4' b5' b6' bL' hB2 hsz2 hbl hb hslV1 h3sl hsl hqv hno hi1 hk1 HLT hyW hn0 e1 e2 hcap
            rename_i i2 i3 i4 i5 i6 i7 i8 i9 i10 i11 i12 i13 i14 i15 i16 i17 i18
            clear i18 i17 i16 i15 i14 i13 i12 i11 i10 i9 i8 i7 i6 i5 i4 i3 i2
            clear q0 q1 q2 q3 u0 u1 u2 u3
            generalize gp l i = P1 at *
            generalize gp l (i + 1) = P2 at *
            generalize gp l k = P3 at *
            generalize gp l (k + 1) = P4 at *
            have q0 := cells_of b6 0 _ rfl
            have q1 := cells_of b6 1 _ rfl
            have q2 := cells_of b6 2 _ rfl
            have q3 := cells_of b6 3 _ rfl
            have u0 := cells_of b8 0 _ rfl
            have u1 := cells_of b8 1 _ rfl
            have u2 := cells_of b8 2 _ rfl
            have u3 := cells_of b8 3 _ rfl
            by_cases hA : k + 1 = i
            · have hw : Hid (wantL l i k = 1) := Lib.hid (by unfold wantL; rw [if_pos (.inl hA)])
              have hA' : (k : Int) + 1 = (i : Int) := by omega
              clear hA
              gi_wp2_with (refine ⟨trivial, ?_⟩; gi_at_call 131; refine (CallsIn.inRound y2 (callsIn_wide.2 (HM.out _))).mono ?_; rintro e w' ⟨rfl, hE'⟩; have b3 := b3.kept (grownE hE' none) (by simp); have c3 := b3.cell; have f3 := b3.frozen)
              case h_1.isTrue => rename_i hu _; exact absurd hu (undef_not_bool _)
              case h_1.isFalse => rename_i hu _; exact absurd hu (undef_not_bool _)
              refine ⟨trivial, ?_⟩
              gi_wp2_with (refine ⟨trivial, ?_⟩; gi_at_call 131; refine (CallsIn.inRound y2 (callsIn_wide.2 (HM.out _))).mono ?_; rintro e w' ⟨rfl, hE'⟩; have b3 := b3.kept (grownE hE' none) (by simp); have c3 := b3.cell; have f3 := b3.frozen)
              · rename_i hne
                have hx := hE'
                have hn : decide (M = 1) = false := by simpa using hne
                have hKO := KeepsOthers.of_grownBy (grownE hx none) (fun j o e _ => by cases e)
                exact ⟨(hKO.trans (KeepsOthers.setCell _ _ _)).from _, ⟨⟨rfl, Lib.hid (fun h => (HL2.out h).trans (by rw [HMM.out, hw.out]; exact hn))⟩, b3.set _⟩, (hB.trans (Below.mono hx (hsl0 ▸ hB.size))).setCell (p := ⟨g3, 0, none⟩) hslg _, hK2.trans ((hKO.trans (KeepsOthers.setCell _ _ _)).from _)⟩
              · rename_i hne
                have hx := hE'
                have hn : decide (M = 1) = true := by simpa using hne
                have hKO := KeepsOthers.of_grownBy (grownE hx none) (fun j o e _ => by cases e)
                exact ⟨hKO.from _, KpB.ext hx, ⟨⟨⟨⟨⟨⟨b3, b4.kept (grownE hx none) (by simp)⟩, blk_ext bL hx⟩, blk_ext b6 hx⟩, b5.kept (grownE hx none) (by simp)⟩, Lib.hid (fun h => (HL2.out h).trans (by rw [HMM.out, hw.out]; exact hn))⟩, hB.trans (Below.mono hx (hsl0 ▸ hB.size)), hK2.trans (hKO.from _)⟩, hKp.trans (KpB.ext hx)⟩
            by_cases hk0 : k = 0
            · subst hk0
              by_cases hC : i = l.length - 2
              · cases hcl : closedL l with
                | true =>
                  have hw : Hid (wantL l i 0 = 1) := Lib.hid (by unfold wantL; rw [if_pos (.inr ⟨hcl, rfl, hC⟩)])
                  rw [hcl] at HCl
                  have hA' : ¬ (i : Int) = 1 := by omega
                  have hC' : ((l.length - 2 : Nat) : Int) = (i : Int) := by omega
                  gi_wp2_with (first | (refine ⟨trivial, ?_⟩; gi_at_call 130; refine (CallsIn.inRound y2 (callsIn_wide.2 (HCl.out W2 hreach hAW2.out))).mono ?_; rintro e wc ⟨rfl, hEc⟩; have b3 := b3.kept (grownE hEc none) (by simp); have q0 := cell_ext hEc q0; have q1 := cell_ext hEc q1; have q2 := cell_ext hEc q2; have q3 := cell_ext hEc q3; have u0 := cell_ext hEc u0; have u1 := cell_ext hEc u1; have u2 := cell_ext hEc u2; have u3 := cell_ext hEc u3) | (refine ⟨trivial, ?_⟩; gi_at_call 131; refine (CallsIn.inRound y2 (callsIn_wide.2 (HM.out _))).mono ?_; rintro e w' ⟨rfl, hE'⟩; have b3 := b3.kept (grownE hE' none) (by simp); have c3 := b3.cell; have f3 := b3.frozen))
                  · rename_i hne
                    have hx := Ext.trans hEc hE'
                    have hn : decide (M = 1) = false := by simpa using hne
                    have hKO := KeepsOthers.of_grownBy (grownE hx none) (fun j o e _ => by cases e)
                    exact ⟨(hKO.trans (KeepsOthers.setCell _ _ _)).from _, ⟨⟨rfl, Lib.hid (fun h => (HL2.out h).trans (by rw [HMM.out, hw.out]; exact hn))⟩, b3.set _⟩, (hB.trans (Below.mono hx (hsl0 ▸ hB.size))).setCell (p := ⟨g3, 0, none⟩) hslg _, hK2.trans ((hKO.trans (KeepsOthers.setCell _ _ _)).from _)⟩
                  · rename_i hne
                    have hx := Ext.trans hEc hE'
                    have hn : decide (M = 1) = true := by simpa using hne
                    have hKO := KeepsOthers.of_grownBy (grownE hx none) (fun j o e _ => by cases e)
                    exact ⟨hKO.from _, KpB.ext hx, ⟨⟨⟨⟨⟨⟨b3, b4.kept (grownE hx none) (by simp)⟩, blk_ext bL hx⟩, blk_ext b6 hx⟩, b5.kept (grownE hx none) (by simp)⟩, Lib.hid (fun h => (HL2.out h).trans (by rw [HMM.out, hw.out]; exact hn))⟩, hB.trans (Below.mono hx (hsl0 ▸ hB.size)), hK2.trans (hKO.from _)⟩, hKp.trans (KpB.ext hx)⟩
                | false =>
                  have hw : Hid (wantL l i 0 = 0) := Lib.hid (by unfold wantL; rw [if_neg (fun h => h.elim hA (fun h => by rw [hcl] at h; exact absurd h.1 (by decide)))])
                  rw [hcl] at HCl
                  have hA' : ¬ (i : Int) = 1 := by omega
                  have hC' : ((l.length - 2 : Nat) : Int) = (i : Int) := by omega
                  gi_wp2_with (first | (refine ⟨trivial, ?_⟩; gi_at_call 130; refine (CallsIn.inRound y2 (callsIn_wide.2 (HCl.out W2 hreach hAW2.out))).mono ?_; rintro e wc ⟨rfl, hEc⟩; have b3 := b3.kept (grownE hEc none) (by simp); have q0 := cell_ext hEc q0; have q1 := cell_ext hEc q1; have q2 := cell_ext hEc q2; have q3 := cell_ext hEc q3; have u0 := cell_ext hEc u0; have u1 := cell_ext hEc u1; have u2 := cell_ext hEc u2; have u3 := cell_ext hEc u3) | (refine ⟨trivial, ?_⟩; gi_at_call 131; refine (CallsIn.inRound y2 (callsIn_wide.2 (HM.out _))).mono ?_; rintro e w' ⟨rfl, hE'⟩; have b3 := b3.kept (grownE hE' none) (by simp); have c3 := b3.cell; have f3 := b3.frozen))
                  · rename_i hne
                    have hx := Ext.trans hEc hE'
                    have hn : decide (M = 0) = false := by simpa using hne
                    have hKO := KeepsOthers.of_grownBy (grownE hx none) (fun j o e _ => by cases e)
                    exact ⟨(hKO.trans (KeepsOthers.setCell _ _ _)).from _, ⟨⟨rfl, Lib.hid (fun h => (HL2.out h).trans (by rw [HMM.out, hw.out]; exact hn))⟩, b3.set _⟩, (hB.trans (Below.mono hx (hsl0 ▸ hB.size))).setCell (p := ⟨g3, 0, none⟩) hslg _, hK2.trans ((hKO.trans (KeepsOthers.setCell _ _ _)).from _)⟩
                  · rename_i hne
                    have hx := Ext.trans hEc hE'
                    have hn : decide (M = 0) = true := by simpa using hne
                    have hKO := KeepsOthers.of_grownBy (grownE hx none) (fun j o e _ => by cases e)
                    exact ⟨hKO.from _, KpB.ext hx, ⟨⟨⟨⟨⟨⟨b3, b4.kept (grownE hx none) (by simp)⟩, blk_ext bL hx⟩, blk_ext b6 hx⟩, b5.kept (grownE hx none) (by simp)⟩, Lib.hid (fun h => (HL2.out h).trans (by rw [HMM.out, hw.out]; exact hn))⟩, hB.trans (Below.mono hx (hsl0 ▸ hB.size)), hK2.trans (hKO.from _)⟩, hKp.trans (KpB.ext hx)⟩
              · have hw : Hid (wantL l i 0 = 0) := Lib.hid (by unfold wantL; rw [if_neg (fun h => h.elim hA (fun h => hC h.2.2))])
                have hA' : ¬ (i : Int) = 1 := by omega
                have hC' : ¬ (i : Int) = ((l.length - 2 : Nat) : Int) := by omega
                gi_wp2_with (refine ⟨trivial, ?_⟩; gi_at_call 131; refine (CallsIn.inRound y2 (callsIn_wide.2 (HM.out _))).mono ?_; rintro e w' ⟨rfl, hE'⟩; have b3 := b3.kept (grownE hE' none) (by simp); have c3 := b3.cell; have f3 := b3.frozen)
                refine ⟨trivial, ?_⟩
                gi_wp2_with (refine ⟨trivial, ?_⟩; gi_at_call 131; refine (CallsIn.inRound y2 (callsIn_wide.2 (HM.out _))).mono ?_; rintro e w' ⟨rfl, hE'⟩; have b3 := b3.kept (grownE hE' none) (by simp); have c3 := b3.cell; have f3 := b3.frozen)
                · rename_i hne
                  have hx := hE'
                  have hn : decide (M = 0) = false := by simpa using hne
                  have hKO := KeepsOthers.of_grownBy (grownE hx none) (fun j o e _ => by cases e)
                  exact ⟨(hKO.trans (KeepsOthers.setCell _ _ _)).from _, ⟨⟨rfl, Lib.hid (fun h => (HL2.out h).trans (by rw [HMM.out, hw.out]; exact hn))⟩, b3.set _⟩, (hB.trans (Below.mono hx (hsl0 ▸ hB.size))).setCell (p := ⟨g3, 0, none⟩) hslg _, hK2.trans ((hKO.trans (KeepsOthers.setCell _ _ _)).from _)⟩
                · rename_i hne
                  have hx := hE'
                  have hn : decide (M = 0) = true := by simpa using hne
                  have hKO := KeepsOthers.of_grownBy (grownE hx none) (fun j o e _ => by cases e)
                  exact ⟨hKO.from _, KpB.ext hx, ⟨⟨⟨⟨⟨⟨b3, b4.kept (grownE hx none) (by simp)⟩, blk_ext bL hx⟩, blk_ext b6 hx⟩, b5.kept (grownE hx none) (by simp)⟩, Lib.hid (fun h => (HL2.out h).trans (by rw [HMM.out, hw.out]; exact hn))⟩, hB.trans (Below.mono hx (hsl0 ▸ hB.size)), hK2.trans (hKO.from _)⟩, hKp.trans (KpB.ext hx)⟩
            · have hw : Hid (wantL l i k = 0) := Lib.hid (by unfold wantL; rw [if_neg (fun h => h.elim hA (fun h => hk0 h.2.1))])
              have hA' : ¬ (i : Int) = (k : Int) + 1 := by omega
              have hk0' : ¬ (k : Int) = 0 := by omega
              gi_wp2_with (refine ⟨trivial, ?_⟩; gi_at_call 131; refine (CallsIn.inRound y2 (callsIn_wide.2 (HM.out _))).mono ?_; rintro e w' ⟨rfl, hE'⟩; have b3 := b3.kept (grownE hE' none) (by simp); have c3 := b3.cell; have f3 := b3.frozen)
              refine ⟨trivial, ?_⟩
              gi_wp2_with (refine ⟨trivial, ?_⟩; gi_at_call 131; refine (CallsIn.inRound y2 (callsIn_wide.2 (HM.out _))).mono ?_; rintro e w' ⟨rfl, hE'⟩; have b3 := b3.kept (grownE hE' none) (by simp); have c3 := b3.cell; have f3 := b3.frozen)
              · rename_i hne
                have hx := hE'
                have hn : decide (M = 0) = false := by simpa using hne
                have hKO := KeepsOthers.of_grownBy (grownE hx none) (fun j o e _ => by cases e)
                exact ⟨(hKO.trans (KeepsOthers.setCell _ _ _)).from _, ⟨⟨rfl, Lib.hid (fun h => (HL2.out h).trans (by rw [HMM.out, hw.out]; exact hn))⟩, b3.set _⟩, (hB.trans (Below.mono hx (hsl0 ▸ hB.size))).setCell (p := ⟨g3, 0, none⟩) hslg _, hK2.trans ((hKO.trans (KeepsOthers.setCell _ _ _)).from _)⟩
              · rename_i hne
                have hx := hE'
                have hn : decide (M = 0) = true := by simpa using hne
                have hKO := KeepsOthers.of_grownBy (grownE hx none) (fun j o e _ => by cases e)
                exact ⟨hKO.from _, KpB.ext hx, ⟨⟨⟨⟨⟨⟨b3, b4.kept (grownE hx none) (by simp)⟩, blk_ext bL hx⟩, blk_ext b6 hx⟩, b5.kept (grownE hx none) (by simp)⟩, Lib.hid (fun h => (HL2.out h).trans (by rw [HMM.out, hw.out]; exact hn))⟩, hB.trans (Below.mono hx (hsl0 ▸ hB.size)), hK2.trans (hKO.from _)⟩, hKp.trans (KpB.ext hx)⟩
          case done2 =>
            rintro ys W2 rfl ⟨⟨⟨⟨⟨⟨⟨b3, b4⟩, bL⟩, b6⟩, b5⟩, hs2⟩, hB, hK2⟩, hKp⟩
            gi_wp2
            have h2 := hs2.out (by rw [List.length_range])
            rw [List.length_range, HLT.out, Nat.add_sub_cancel] at h2
            exact ⟨hK2, hKp, ⟨⟨⟨b3, b4⟩, bL⟩, Lib.hid (fun h => (hall h).trans (hno.trans h2))⟩, hB⟩
          case stop2 =>
            rintro co pre2 W2 hp2 ⟨⟨⟨rfl, hs2⟩, b3⟩, hB, hK2⟩
            gi_wp2
            have h2 : (List.range i).all (pairOk l i) = false := by
              obtain ⟨k, hk, rfl⟩ := hp2
              have h2 := hs2.out (by rw [List.length_range])
              rw [List.length_range] at h2
              obtain ⟨j, hj, hf⟩ := List.all_eq_false.1 h2
              exact List.all_eq_false.2 ⟨j, List.mem_range.2 (by have := List.mem_range.1 hj; have := HLT.out; omega), hf⟩
            exact ⟨hK2, ⟨⟨rfl, Lib.hid (fun h => (hall h).trans (hno.trans h2))⟩, b3⟩, hB⟩
      case done =>
        rintro D ys W hD rfl ⟨⟨⟨⟨b3, b4⟩, bL⟩, hs⟩, hB⟩ hK
        have c3 := b3.cell
        have f3 := b3.frozen
        have hv : chkLn l = 0 := by
          rw [HC.out, if_neg (by decide)]
          have := hs.out (by rw [List.length_range])
          rw [List.length_range] at this
          rw [if_pos this]
        gi_wp2
        refine ⟨by simp, .inl ⟨_, _, rfl, run_takeDeferred hK, ?_⟩⟩
        refine ⟨.int .i64 0, by simp [results, Tryz.f68, go_sem], congrArg (fun x : Int => Ending.returned (.int .i64 x)) hv.symm, ?_⟩
        subst hsl0
        exact hB.trans (belowK_b (w := w) (Nat.le_refl _) _ D _ _ (by omega) hK rfl rfl)
      case stop =>
        rintro D co pre W hD hp ⟨⟨⟨rfl, hs⟩, b3⟩, hB⟩ hK
        have c3 := b3.cell
        have f3 := b3.frozen
        have hv : chkLn l = 11 := by
          obtain ⟨k, hk, rfl⟩ := hp
          rw [HC.out, if_neg (by decide)]
          have := hs.out (by rw [List.length_range])
          rw [List.length_range] at this
          obtain ⟨j, hj, hf⟩ := List.all_eq_false.1 this
          rw [if_neg (fun h => hf (List.all_eq_true.1 h j (List.mem_range.2 (by have := List.mem_range.1 hj; omega))))]
        gi_wp2
        refine ⟨by simp, .inl ⟨_, _, rfl, run_takeDeferred hK, ?_⟩⟩
        refine ⟨.int .i64 11, by simp [results, Tryz.f68, go_sem], congrArg (fun x : Int => Ending.returned (.int .i64 x)) hv.symm, ?_⟩
        subst hsl0
        exact hB.trans (belowK_b (w := w) (Nat.le_refl _) _ D _ _ (by omega) hK rfl rfl)
end Go.Proofs.YtompfgofaplffaaGreatDoor

namespace Go.Proofs.YtompfgofaplffaaGreatDoor
open Go.RowKit Hach

theorem find1_any (x id : Int) (r1 r2 r3 : Value) (B : Nat) (w : World) (hB : w.cell? ⟨B, 0, none⟩ = some (.int .i64 id)) :
    Calls Tryz.prog 140 #[.agg #[.int .i64 x, r1, r2, r3], .pointer (some ⟨B, 0, none⟩)] w fun e w' => e = .returned (.bool (decide (x = id))) ∧ Ext w w' := by
  have hB' := cell_ext (Ext.alloc w (.cells #[.int .i64 x, r1, r2, r3] 77)) hB
  have z0 := cells_of (Go.heap_alloc_new w (.cells #[.int .i64 x, r1, r2, r3] 77)) 0 _ rfl
  go_enter Tryz.func140, Tryz.ntmps140
  go_wp2_with fail
  go_ret
  exact ⟨rfl, Ext.alloc _ _⟩
/-- The first edge with a number. -/
def edAt (es : List Ed) (id : Int) : Int := idxF (fun j => decide ((ed es j).id = id)) es.length
theorem find_any (m : Mp) (a : Ma) (id : Int) (w : World) (hm : MpAt w a m) :
    Calls Tryz.prog 79 #[.agg (a.cells m).toArray, .int .i64 id] w fun e w' => e = .returned (.int .i64 (edAt m.edges id)) ∧ Ext w w' := by
  have hE := Ext.trans (Ext.alloc w (.cells (a.cells m).toArray 41)) (Ext.alloc (w.alloc (.cells (a.cells m).toArray 41)) (.cells #[.int .i64 id] 3))
  have hB : ((w.alloc (.cells (a.cells m).toArray 41)).alloc (.cells #[.int .i64 id] 3)).cell? ⟨w.heap.size + 1, 0, none⟩ = some (.int .i64 id) := by
    have := cells_of (Go.heap_alloc_new (w.alloc (.cells (a.cells m).toArray 41)) (.cells #[.int .i64 id] 3)) 0 _ rfl
    rw [World.size_alloc] at this; exact this
  have HC := Lib.hid (ixEd_any 140 #[.pointer (some ⟨w.heap.size + 1, 0, none⟩)] (enters_of Tryz.func140 (by kernel_rfl) rfl) a.ea m.edges.length a.ec (edC a.el m.edges) (fun j => decide ((ed m.edges j).id = id))
    ((w.alloc (.cells (a.cells m).toArray 41)).alloc (.cells #[.int .i64 id] 3)) (by have := hm.small.1; omega) (fun _ _ => rfl)
    (fun W h j hj => by obtain ⟨b, o, e, _, hr⟩ := (hm.edges.keep (Ext.trans hE h)).1 j hj; exact ⟨b, o, e, hr⟩)
    (fun W h j hj => find1_any _ id _ _ _ _ W (cell_ext h hB)))
  unfold Ma.cells at *
  have z0 := cells_of (Go.heap_alloc_new w (.cells #[.slice a.ea m.edges.length a.ec, .slice a.fa m.faces.length a.fc, .slice a.wa m.ways.length a.wc, .slice a.pa m.places.length a.pc] 41)) 0 _ rfl
  clear hm hE hB
  go_enter Tryz.func79, Tryz.ntmps79
  go_wp2_with fail
  refine HC.out.mono ?_
  rintro e w' ⟨rfl, hE'⟩
  go_wp2_with fail
  go_ret
  exact ⟨rfl, Ext.trans (Ext.trans (Ext.alloc _ _) (Ext.alloc _ _)) hE'⟩
theorem dis11_any (x id : Int) (r1 r2 r3 r4 : Value) (B : Nat) (w : World) (hB : w.cell? ⟨B, 0, none⟩ = some (.int .i64 id)) :
    Calls Tryz.prog 127 #[.agg #[.int .i64 x, r1, r2, r3, r4], .pointer (some ⟨B, 0, none⟩)] w fun e w' => e = .returned (.bool (decide (x = id))) ∧ Ext w w' := by
  have hB' := cell_ext (Ext.alloc w (.cells #[.int .i64 x, r1, r2, r3, r4] 79)) hB
  have z0 := cells_of (Go.heap_alloc_new w (.cells #[.int .i64 x, r1, r2, r3, r4] 79)) 0 _ rfl
  go_enter Tryz.func127, Tryz.ntmps127
  go_wp2_with fail
  go_ret
  exact ⟨rfl, Ext.alloc _ _⟩
/-- The district of the first face with a number. -/
def faAt (fs : List Fa) (id : Int) : Int := idxF (fun j => decide ((fa fs j).id = id)) fs.length
def disOf (fs : List Fa) (id : Int) : Int := if faAt fs id < 0 then 0 else (fa fs (faAt fs id).toNat).district
theorem idxF_range (p : Nat → Bool) (n : Nat) : idxF p n = -1 ∨ ∃ k : Nat, k < n ∧ idxF p n = k ∧ p k = true := by
  unfold idxF
  cases e : (List.range n).find? p with
  | none => exact .inl rfl
  | some k => exact .inr ⟨k, List.mem_range.1 (List.mem_of_find?_eq_some e), rfl, List.find?_some e⟩
theorem dis1_any (m : Mp) (a : Ma) (id : Int) (B : Nat) (w : World) (hm : MpAt w a m) (hB : w.heap[B]? = some (.cells (a.cells m).toArray 41 (0, 0))) :
    Calls Tryz.prog 125 #[.int .i64 id, .pointer (some ⟨B, 0, none⟩)] w fun e w' => e = .returned (.int .i64 (disOf m.faces id)) ∧ Ext w w' := by
  have hE := Ext.alloc w (.cells #[.int .i64 id] 3)
  have hI := cells_of (Go.heap_alloc_new w (.cells #[.int .i64 id] 3)) 0 _ rfl
  have HC := Lib.hid (ixFa_any 127 #[.pointer (some ⟨w.heap.size, 0, none⟩)] (enters_of Tryz.func127 (by kernel_rfl) rfl) a.fa m.faces.length a.fc (fun j => faC (fa m.faces j))
    (fun j => decide ((fa m.faces j).id = id)) (w.alloc (.cells #[.int .i64 id] 3)) (by have := hm.small.2.1; omega) (fun _ _ => rfl)
    (fun W h j hj => by obtain ⟨b, o, e, _, hr⟩ := (RowAt.keep hm.faces (Ext.trans hE h)) j hj; exact ⟨b, o, e, hr⟩)
    (fun W h j hj => dis11_any _ id _ _ _ _ _ W (cell_ext h hI)))
  have hBn := fun W (h : Ext w W) => cells_of (blk_ext hB h) 1 (.slice a.fa m.faces.length a.fc) rfl
  have HBN := Lib.hid hBn
  have z1 := hBn _ hE
  have HF := Lib.hid (fun W (h : Ext w W) => RowAt.keep hm.faces h)
  clear hB hm hBn hI
  rcases idxF_range (fun j => decide ((fa m.faces j).id = id)) m.faces.length with hk | ⟨k, hk, hi, _⟩
  · have hd : disOf m.faces id = 0 := by unfold disOf faAt; rw [hk]; rfl
    rw [hd]
    rw [hk] at HC
    clear hk hd
    go_enter Tryz.func125, Tryz.ntmps125
    go_wp2_with fail
    refine HC.out.mono ?_
    rintro e w' ⟨rfl, hE'⟩
    go_wp2_with fail
    go_ret
    exact ⟨rfl, Ext.trans (Ext.alloc _ _) hE'⟩
  · have hd : disOf m.faces id = (fa m.faces k).district := by unfold disOf faAt; rw [hi, if_neg (by omega)]; rfl
    rw [hd]
    rw [hi] at HC
    clear hi hd
    obtain ⟨b, o, e, hb, hr⟩ := HF.out w (Ext.refl _) k hk
    have HK := Lib.hid (fun W (h : Ext w W) => (HF.out W h))
    have HA := Lib.hid e
    have HH := Lib.hid hk
    clear e hr hb
    go_enter Tryz.func125, Tryz.ntmps125
    go_wp2_with fail
    refine HC.out.mono ?_
    rintro e w' ⟨rfl, hE'⟩
    have z2 := HBN.out w' (Ext.trans hE hE')
    have HR := HK.out w' (Ext.trans hE hE')
    rw [HA.out] at HR z2 ⊢
    have q4 := RowAt.cell HR (j := k) (i := 4) hk rfl
    have t : decide ((k : Int) < 0) = false := by simp
    clear HR
    go_wp2_with fail
    go_ret
    exact ⟨rfl, Ext.trans (Ext.alloc _ _) hE'⟩
def disE (fs : List Fa) (l r : Int) : Int := if disOf fs l = disOf fs r then disOf fs l else 0
theorem dis_any (m : Mp) (a : Ma) (x l r : Int) (v : Value) (w : World) (hm : MpAt w a m) :
    Calls Tryz.prog 67 #[.agg (a.cells m).toArray, .agg #[.int .i64 x, v, .int .i64 l, .int .i64 r]] w fun e w' => e = .returned (.int .i64 (disE m.faces l r)) ∧ Ext w w' := by
  have hE := Ext.alloc w (.cells (a.cells m).toArray 41)
  have hE2 := Ext.trans hE (Ext.alloc (w.alloc (.cells (a.cells m).toArray 41)) (.cells #[.int .i64 x, v, .int .i64 l, .int .i64 r] 77))
  have HB := Lib.hid (fun W h => blk_ext (Go.heap_alloc_new w (.cells (a.cells m).toArray 41)) (Ext.trans (Ext.alloc (w.alloc (.cells (a.cells m).toArray 41)) (.cells #[.int .i64 x, v, .int .i64 l, .int .i64 r] 77)) (show Ext _ W from h)))
  have hB2 := Go.heap_alloc_new (w.alloc (.cells (a.cells m).toArray 41)) (.cells #[.int .i64 x, v, .int .i64 l, .int .i64 r] 77)
  rw [World.size_alloc] at hB2
  have y2 := cells_of hB2 2 _ rfl
  have y3 := cells_of hB2 3 _ rfl
  have HY := Lib.hid (fun W h => cell_ext (show Ext _ W from h) y3)
  have HD := Lib.hid (fun id W h => dis1_any m a id w.heap.size W (hm.keep (Ext.trans hE2 h)) (HB.out W h))
  have e1 : disE m.faces l r = if disOf m.faces l = disOf m.faces r then disOf m.faces l else 0 := rfl
  rw [e1]
  have HL := Lib.hid (HD.out l _ (Ext.refl _))
  have HR := Lib.hid (HD.out r)
  clear hm hE hE2 hB2 HB e1 HD y3
  generalize disOf m.faces l = p at *
  generalize disOf m.faces r = q at *
  by_cases h : p = q
  · subst h
    rw [if_pos rfl]
    go_enter Tryz.func67, Tryz.ntmps67
    go_wp2_with fail
    refine HL.out.mono ?_
    rintro e w' ⟨rfl, hE⟩
    have y3 := HY.out w' hE
    go_wp2_with fail
    refine (HR.out w' hE).mono ?_
    rintro e w2 ⟨rfl, hE'⟩
    go_wp2_with fail
    go_ret
    exact ⟨rfl, Ext.trans (Ext.trans (Ext.trans (Ext.alloc _ _) (Ext.alloc _ _)) hE) hE'⟩
  · rw [if_neg h]
    go_enter Tryz.func67, Tryz.ntmps67
    go_wp2_with fail
    refine HL.out.mono ?_
    rintro e w' ⟨rfl, hE⟩
    have y3 := HY.out w' hE
    go_wp2_with fail
    refine (HR.out w' hE).mono ?_
    rintro e w2 ⟨rfl, hE'⟩
    have t : (p == q) = false := by simpa using h
    go_wp2_with fail
    go_ret
    exact ⟨rfl, Ext.trans (Ext.trans (Ext.trans (Ext.alloc _ _) (Ext.alloc _ _)) hE) hE'⟩
end Go.Proofs.YtompfgofaplffaaGreatDoor
