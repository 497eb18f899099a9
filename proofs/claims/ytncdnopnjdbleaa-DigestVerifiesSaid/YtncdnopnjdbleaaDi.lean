/- The statement DigestGrows: at every input the call returns true and its arguments read as they did. No condition. -/
import Derived.Test.YtncdnopnjdbleaaDx
import Derived.Test.YtncdnopnjdbleaaDn
namespace Go.Proofs.Ytncdnopnjdbleaa
open Go.RowKit Hach
open Go.ChangeShapes Go.WideShapes Go.ChangeAt

def slEmpty : SP := ⟨fun v _ => ∃ g : Nat, v = .slice (some ⟨g, 0, none⟩) 0 0, fun h _ => h⟩
def ownSP (base : Nat) (l : List ByteArray) : SP := ⟨fun v W => OwnS W base v l, fun h hE => h.ext hE⟩

/- append onto an empty slice of strings: a new row -/
theorem app_empty {ops : Array Oper} {rest : List Oper} {o : Oper} {a : Act} {w : World} {Q : Exit → Act → World → Prop} (hgd : o.guard = none) (s x : Tmp)
    (ho : o.op = .call { callee := .builtin .append, args := #[.tmp s, .tmp x], argTypes := #[28, 28] }) (base g0 b oo m c : Nat) (l : List ByteArray) (hs : a.eval (.tmp s) = .slice (some ⟨g0, 0, none⟩) 0 0) (hx : a.eval (.tmp x) = .slice (some ⟨b, oo, none⟩) m c)
    (hl : l.length = m) (hc : ∀ j v, (l.map Value.string)[j]? = some v → w.cell? ⟨b, oo + j, none⟩ = some v) (h0 : 0 < m) (hm : m < 4294967296) (hbase : base ≤ w.heap.size)
    (h : ∀ v' w', OwnS w' base v' l → Ext w w' → wpList Try.prog ops Q rest (a.put o.dst v') w') : wpList Try.prog ops Q (o :: rest) a w := by
  obtain ⟨i0, hi, hz0, hz1, hz2⟩ := info_parts infoS
  have hap := run_append_grow (P := Try.prog) w 28 o.type 9 i0 _ Try.underlying28 hi hz0 ⟨g0, 0, none⟩ 0 0 [] (by simp) (fun j v hv => by simp at hv) ⟨b, oo, none⟩ m c (l.map Value.string) (by rw [List.length_map, hl, hz1]; omega)
    (fun j v hv => by rw [Addr.add_lit]; exact hc j v hv) (by omega) (by omega) (growslice_fits (by omega) (by rw [hz2]; omega))
  simp only [Nat.zero_add, List.nil_append] at hap
  refine wpList_plain hgd fun K hK' => ?_
  unfold Oper.wp
  simp [execOp, ho, resolve, invoke, builtin, hs, hx, hap, Result.andThen]
  refine hK' _ _ (h _ _ ?_ ((Ext.drew w).trans (Ext.alloc _ _)))
  have hge := grownCap_ge w m 0 9
  have hcm := grownCap_le_maxLen w m 0 9 (by simp only [maxLen]; omega)
  refine ⟨by simp, .inr ⟨w.heap.size, grownCap w m 0 9, _, by rw [hl], hbase, heap_alloc_new w.drew _, by rw [hl]; exact hge, hcm, ?_, ?_⟩⟩
  · simp only [Array.size_append, List.size_toArray, List.length_map, size_zeroCells, hl]
    show m + (grownCap w m 0 9 - m) * 1 = _
    omega
  · simp

set_option maxHeartbeats 400000 in
theorem DigestGrows_none (A : Option Addr) (n c : Nat) (ss : List ByteArray) (s : ByteArray) (p : Int) (w : World) (hS : Strs w w.heap.size A n ss) (hn : n < 9223372036854775808) (hsm : ∀ k, (ss.getD k ByteArray.empty).size < 9223372036854775808) (h : (lst ss).length = 0) :
    Calls Try.prog 9 #[.slice A n c, .string s, .int .u8 p] w fun e w' => e = .returned (.bool true) ∧ Below w.heap.size w w' := by
  go_enter Try.func9, Try.ntmps9
  go_wp2_with fail
  refine (sanity_any _).mono ?_
  rintro e w1 ⟨rfl, hb1⟩
  have hE1 : Ext w w1 := hb1
  go_wp2_with fail
  refine (list_any A n c ss w1 ((hS.below hE1 (Nat.le_refl _)).more hE1.sz) hn hsm).mono ?_
  rintro e w2 ⟨v, rfl, hO, hb2⟩
  obtain ⟨A2, c2, rfl, hS2⟩ := hO.form
  rw [h]
  go_wp2_with fail
  go_ret
  exact ⟨rfl, hE1.trans hb2⟩

set_option maxRecDepth 100000 in
set_option maxHeartbeats 1000000 in
theorem DigestGrows_some (A : Option Addr) (n c : Nat) (ss : List ByteArray) (s : ByteArray) (p : Nat) (w : World) (hS : Strs w w.heap.size A n ss) (hn : n < 9223372036854775808) (hsm : ∀ k, (ss.getD k ByteArray.empty).size < 9223372036854775808) (hs : s.size ≤ maxLen) (hp : p < 256) (h : 0 < (lst ss).length) :
    Calls Try.prog 9 #[.slice A n c, .string s, .int .u8 (p : Nat)] w fun e w' => e = .returned (.bool true) ∧ Below w.heap.size w w' := by
  obtain ⟨i0, hi, hz0, hz1, hz2⟩ := info_parts infoS
  have hs' : s.size < 9223372036854775808 := by simp only [maxLen] at hs; omega
  clear hs
  have hcut : s.extract 0 (min (s.size : Int) 30).toNat = cut30 s := by
    unfold cut30
    rw [show (min (s.size : Int) 30).toNat = min s.size 30 by omega]
  have hc30 := cut30_size s
  generalize cut30 s = u at hcut hc30
  go_enter Try.func9, Try.ntmps9
  go_wp2_with fail
  refine (sanity_any _).mono ?_
  rintro e w1 ⟨rfl, hb1⟩
  have hE1 : Ext w w1 := hb1
  go_wp2_with fail
  refine (list_any A n c ss w1 ((hS.below hE1 (Nat.le_refl _)).more hE1.sz) hn hsm).mono ?_
  rintro e w2 ⟨v, rfl, hO, hb2⟩
  have hE2 : Ext w w2 := hE1.trans hb2
  have hl := lst_length ss
  have hls := lst_small ss
  generalize lst ss = l at hO hl hls h
  obtain ⟨A2, c2, rfl, hS2⟩ := hO.form
  obtain ⟨m, hm⟩ : ∃ m, l.length = m := ⟨_, rfl⟩
  have HM := Lib.hid hm
  rw [hm] at hS2 hl h ⊢
  obtain ⟨b2, o2, rfl, hbl2, hc2⟩ := hS2.at_ (k := 0) h
  have hnews : ∀ j v, (l.map Value.string)[j]? = some v → w2.cell? ⟨b2, o2 + j, none⟩ = some v := by
    intro j v hv
    have hj : j < m := by
      have := (List.getElem?_eq_some_iff.1 hv).1
      rw [List.length_map, hm] at this
      exact this
    rw [hc2 j hj, ← hv]
    simp [List.getD, hm, hj]
  clear hm
  have tm : ((m : Int) == 0) = false := by rw [beq_eq_false_iff_ne]; omega
  obtain ⟨i, hi'⟩ : ∃ i, p % m = i := ⟨_, rfl⟩
  have him : i < m := by rw [← hi']; exact Nat.mod_lt _ h
  have e1 : (p : Int) % (m : Int) = i := by rw [← hi']; rfl
  have e2 : (p : Int).tmod (m : Int) = i := by rw [← hi']; rfl
  clear hi' hc2
  go_wp2_with fail
  apply wp_region_seq (l := [_, _, _, _, _, _, _, _, _]) (t := [_, _]) [some 29, some 30, some 31, some 32, some 33, some 34, some 35, some 36, some 37, some 38, some 9] [[], [], [0, 1], [], [], [4], [5], [3, 6], [7], [2, 8], [9]] [2, 2, 9, 7, 5, 6, 7, 8, 9] [(slEmpty), eqv _, (ownSP w2.heap.size l), eqv _, eqv _, eqv _, eqv _, (eqv (.string u)), (slOne u)] (by kernel_rfl) (by kernel_rfl) ⟨?o0, ?o1, ?o2, ?o3, ?o4, ?o5, ?o6, ?o7, ?o8, trivial⟩ ?last
  case o0 => -- Op.buildSlice 28 0 #[]
    intro xv W hE _
    simp only [putD, List.foldl_nil, List.getD_cons_zero]
    refine OpGoal.plain ?_
    go_wp2_with fail
    exact ⟨rfl, Ext.alloc _ _, W.heap.size, rfl⟩
  case o1 => -- Op.move (Operand.tmp 0)
    intro xv W hE _
    simp only [putD, List.foldl_nil, List.getD_cons_zero, List.getD_cons_succ]
    refine OpGoal.plain ?_
    go_wp2_with fail
    exact ⟨rfl, Ext.refl _, rfl⟩
  case o2 => -- Op.call { callee := Callee.builtin Builtin.append, args := #[Operand.tmp 29, Ope
    intro xv W hE hp
    obtain ⟨g0, r0⟩ := hp.1
    have r1 : xv 1 = _ := hp.2.1
    clear hp
    simp only [putD, List.foldl_nil, List.foldl_cons, List.getD_cons_zero, List.getD_cons_succ, Act.put, List.setIfInBounds_toArray, List.set_cons_zero, List.set_cons_succ]
    refine OpGoal.plain ?_
    refine app_empty rfl 29 30 rfl w2.heap.size g0 b2 o2 m c2 l r0 r1 HM.out (fun j v hv => (hE.old (p := ⟨b2, o2 + j, none⟩) hbl2).trans (hnews j v hv)) h (by omega) (by have := hE.sz; simp at this; omega) ?_
    intro v' w' ho hEw
    go_wp2_with fail
    exact ⟨rfl, hEw, ho⟩
  case o3 => -- Op.move (Operand.tmp 1)
    intro xv W hE _
    simp only [putD, List.foldl_nil, List.getD_cons_zero, List.getD_cons_succ]
    refine OpGoal.plain ?_
    go_wp2_with fail
    exact ⟨rfl, Ext.refl _, rfl⟩
  case o4 => -- Op.move (Operand.tmp 1)
    intro xv W hE _
    simp only [putD, List.foldl_nil, List.getD_cons_zero, List.getD_cons_succ]
    refine OpGoal.plain ?_
    go_wp2_with fail
    exact ⟨rfl, Ext.refl _, rfl⟩
  case o5 => -- Op.call { callee := Callee.builtin Builtin.len, args := #[Operand.tmp 33], argTy
    intro xv W hE hp
    have r4 : xv 4 = _ := hp.1
    clear hp
    simp only [putD, List.foldl_nil, List.foldl_cons, List.getD_cons_zero, List.getD_cons_succ, Act.put, List.setIfInBounds_toArray, List.set_cons_zero, List.set_cons_succ]
    refine OpGoal.plain ?_
    go_wp2_with fail
    exact ⟨rfl, Ext.refl _, rfl⟩
  case o6 => -- Op.call { callee := Callee.builtin Builtin.min, args := #[Operand.tmp 34, Operan
    intro xv W hE hp
    have r5 : xv 5 = _ := hp.1
    clear hp
    simp only [putD, List.foldl_nil, List.foldl_cons, List.getD_cons_zero, List.getD_cons_succ, Act.put, List.setIfInBounds_toArray, List.set_cons_zero, List.set_cons_succ]
    refine OpGoal.plain ?_
    go_wp2_with fail
    exact ⟨rfl, Ext.refl _, rfl⟩
  case o7 => -- Op.slice 9 (Operand.tmp 32) none (some (Operand.tmp 35)) none
    intro xv W hE hp
    have r3 : xv 3 = _ := hp.1
    have r6 : xv 6 = _ := hp.2.1
    clear hp
    simp only [putD, List.foldl_nil, List.foldl_cons, List.getD_cons_zero, List.getD_cons_succ, Act.put, List.setIfInBounds_toArray, List.set_cons_zero, List.set_cons_succ]
    refine OpGoal.plain ?_
    go_wp2_with fail
    exact ⟨rfl, Ext.refl _, rfl⟩
  case o8 => -- Op.buildSlice 28 1 #[(0, Operand.tmp 36)]
    intro xv W hE hp
    have r7 : xv 7 = _ := hp.1
    clear hp
    simp only [putD, List.foldl_nil, List.foldl_cons, List.getD_cons_zero, List.getD_cons_succ, Act.put, List.setIfInBounds_toArray, List.set_cons_zero, List.set_cons_succ]
    refine OpGoal.plain ?_
    go_wp2_with fail
    exact ⟨rfl, Ext.alloc _ _, W.heap.size, rfl, by simp, by simp⟩
  case last =>
    intro xv W hE hp
    obtain ⟨g0, r0⟩ := hp.1
    have r1 : xv 1 = _ := hp.2.1
    have r2 := hp.2.2.1
    have r3 : xv 3 = _ := hp.2.2.2.1
    have r4 : xv 4 = _ := hp.2.2.2.2.1
    have r5 : xv 5 = _ := hp.2.2.2.2.2.1
    have r6 : xv 6 = _ := hp.2.2.2.2.2.2.1
    have r7 : xv 7 = _ := hp.2.2.2.2.2.2.2.1
    obtain ⟨g, r8, hg, hcg⟩ := hp.2.2.2.2.2.2.2.2.1
    clear hp
    simp only [putD, List.foldl_nil, List.foldl_cons, List.getD_cons_zero, List.getD_cons_succ, Act.put, List.length_cons, List.length_nil, List.range_succ, List.range_zero, List.nil_append, List.cons_append, List.setIfInBounds_toArray, List.set_cons_zero, List.set_cons_succ]
    have hEW : Ext w2 W := (Ext.drew w2).trans hE
    refine app_s rfl 31 37 rfl w2.heap.size (xv 2) l rfl r2 g u r8 hcg (by rw [HM.out]; omega) hEW.sz ?_
    intro v' w' hO' hg'
    have hEw' : Ext w2 w' := below_of_grown hEW.below r2 hg' hEW.sz
    have hSw := (hS2.below hEw' (Nat.le_refl _)).more hEw'.sz
    clear r0 r1 r3 r4 r5 r6 r7
    go_wp2_with fail
    refine (Prove_yes (some ⟨b2, o2, none⟩) m c2 i l w' hSw (by omega) (fun k => Nat.lt_trans (hls k) (by decide)) him).mono ?_
    rintro e x1 ⟨v1, rfl, o1, kb1⟩
    obtain ⟨B1, d1, rfl, s1⟩ := o1.form
    have oM := hO'.ext (show Ext w' x1 from kb1)
    obtain ⟨B3, d3, rfl, s3⟩ := oM.form
    have hml : (l ++ [u]).length = m + 1 := by rw [List.length_append, HM.out]; rfl
    rw [hml] at s3 ⊢
    go_wp2_with fail
    refine (Prove_yes B3 (m + 1) d3 i (l ++ [u]) x1 s3 (by omega) (getD_small (by decide) (fun z hz => by
      rcases List.mem_append.1 hz with hz | hz
      · obtain ⟨k, hk, rfl⟩ := List.getElem_of_mem hz
        have := hls k
        simp only [List.getD, List.getElem?_eq_getElem hk, Option.getD_some] at this
        omega
      · simp only [List.mem_singleton] at hz
        subst hz; omega)) (by omega)).mono ?_
    rintro e x2 ⟨v2, rfl, o2', kb2⟩
    obtain ⟨B2, d2, rfl, s2⟩ := o2'.form
    have s1' := (s1.below kb2 (Nat.le_refl _)).more (Below.size kb2)
    have hEx2 : Ext w x2 := ((hE2.trans hEw').trans kb1).trans kb2
    have hb5 := (prvS_ok l i (by rw [HM.out]; exact him) (by rw [HM.out]; omega)).2
    have hfacts : ((prvS (l ++ [u]) i).length = (prvS l i).length + 1 ∧ m &&& (m - 1) = 0 ∧ dif ((prvS l i).take (prvS l i).length) ((prvS (l ++ [u]) i).take (prvS l i).length) = 0) ∨ ((prvS (l ++ [u]) i).length = (prvS l i).length ∧ ¬ m &&& (m - 1) = 0 ∧ dif ((prvS l i).take (prvS l i).length) ((prvS (l ++ [u]) i).take (prvS l i).length) ≤ 1) := by
      by_cases hf : m &&& (m - 1) = 0
      · obtain ⟨x, hx⟩ := grow_full l u i (by rw [HM.out]; exact him) (by rw [HM.out]; exact hf)
        refine .inl ⟨by rw [hx]; simp, hf, ?_⟩
        rw [hx, List.take_length]
        exact dif_more _ _
      · obtain ⟨h1, h2⟩ := grow_not l u i (by rw [HM.out]; exact him) (by rw [HM.out]; exact hf)
        refine .inr ⟨h1.symm, hf, ?_⟩
        rw [List.take_length, h1, List.take_length]
        exact h2
    generalize prvS (l ++ [u]) i = b at s2 o2' hfacts
    generalize prvS l i = a at s1' o1 s1 hb5 hfacts
    obtain ⟨la, hla⟩ : ∃ k, a.length = k := ⟨_, rfl⟩
    obtain ⟨lb, hlb⟩ : ∃ k, b.length = k := ⟨_, rfl⟩
    have HLA := Lib.hid hla
    have HLB := Lib.hid hlb
    rw [hla] at s1' hb5 hfacts ⊢
    rw [hlb] at s2 hfacts ⊢
    clear hla hlb
    have hlab : la ≤ lb ∧ lb ≤ la + 1 := by rcases hfacts with ⟨h1, _⟩ | ⟨h1, _⟩ <;> omega
    obtain ⟨hlab1, hlab2⟩ := hlab
    have HF := Lib.hid hfacts
    clear hfacts
    have t1 : decide ((lb : Int) < (la : Int)) = false := by simp; omega
    have t2 : decide ((la : Int) + 1 < (lb : Int)) = false := by simp; omega
    go_wp2_with fail
    have t3 : decide (lb < la) = false := by simp; omega
    try simp only [t1, t2, t3]
    clear t1 t2 t3
    go_loopw [14, 74] (fun vm vk wr => ∃ k : Nat, k ≤ la ∧ vk = .int .i64 k ∧ vm = .int .i64 (dif (a.take k) (b.take k) : Nat) ∧ dif (a.take k) (b.take k) ≤ k ∧ Ext x2 wr) (fun _ vk _ => la - (intOf vk).toNat)
    case atStart => exact ⟨0, Nat.zero_le _, rfl, by simp [dif], by simp [dif], Ext.refl _⟩
    case round =>
      obtain ⟨k, hk, rfl, rfl, hdk, hEr⟩ := hrel
      by_cases hka : k < la
      · have hkb : k < lb := by omega
        obtain ⟨b6, o6, rfl, hbl6, hc6⟩ := s1'.at_ hka
        obtain ⟨b7, o7, rfl, hbl7, hc7⟩ := s2.at_ hkb
        have ca : wr.cell? ⟨b6, o6 + k, none⟩ = some (.string (a.getD k ByteArray.empty)) := (hEr.old (p := ⟨b6, o6 + k, none⟩) hbl6).trans (hc6 k hka)
        have cb : wr.cell? ⟨b7, o7 + k, none⟩ = some (.string (b.getD k ByteArray.empty)) := (hEr.old (p := ⟨b7, o7 + k, none⟩) hbl7).trans (hc7 k hkb)
        have hdt := dif_take a b k (by rw [HLA.out]; exact hka) (by rw [HLB.out]; exact hkb)
        have hl6 : b6 < wr.heap.size := by have := hEr.sz; omega
        have hl7 : b7 < wr.heap.size := by have := hEr.sz; omega
        generalize a.getD k ByteArray.empty = xa at ca hdt
        generalize b.getD k ByteArray.empty = xb at cb hdt
        have HDT := Lib.hid hdt
        clear hc6 hc7 hdt
        by_cases hxe : xa = xb
        · have tq : (xa.toList == xb.toList) = true := by rw [hxe]; exact beq_self_eq_true _
          have HDE := Lib.hid hxe
          clear hxe
          go_wp2_with fail
          apply wp_region_seq (l := [_, _, _, _, _, _, _, _, _]) (t := []) [some 77, some 78, some 79, some 80, some 81, some 82, some 83, some 84, some 85] [[], [], [0, 1], [2], [], [], [4, 5], [6], [3, 7]] [] [eqv _, eqv _, eqv _, eqv _, eqv _, eqv _, eqv _, eqv _, eqv _] (by kernel_rfl) (by kernel_rfl) ⟨?o0, ?o1, ?o2, ?o3, ?o4, ?o5, ?o6, ?o7, ?o8, trivial⟩ ?last
          case o0 => -- Op.move (Operand.tmp 10)
            intro xv W hE _
            simp only [putD, List.foldl_nil, List.getD_cons_zero]
            refine OpGoal.plain ?_
            go_wp2_with fail
            exact ⟨rfl, Ext.refl _, rfl⟩
          case o1 => -- Op.move (Operand.tmp 15)
            intro xv W hE _
            simp only [putD, List.foldl_nil, List.getD_cons_zero, List.getD_cons_succ]
            refine OpGoal.plain ?_
            go_wp2_with fail
            exact ⟨rfl, Ext.refl _, rfl⟩
          case o2 => -- Op.indexAddr 28 (Operand.tmp 77) (Operand.tmp 78)
            intro xv W hE hp
            have r0 : xv 0 = _ := hp.1
            have r1 : xv 1 = _ := hp.2.1
            clear hp
            simp only [putD, List.foldl_nil, List.foldl_cons, List.getD_cons_zero, List.getD_cons_succ, Act.put, List.setIfInBounds_toArray, List.set_cons_zero, List.set_cons_succ]
            refine OpGoal.plain ?_
            go_wp2_with fail
            exact ⟨rfl, Ext.refl _, rfl⟩
          case o3 => -- Op.load 9 (Operand.tmp 79)
            intro xv W hE hp
            have r2 : xv 2 = _ := hp.1
            clear hp
            have caW : W.cell? ⟨b6, o6 + k, none⟩ = some (.string xa) := (hE.old (p := ⟨b6, o6 + k, none⟩) hl6).trans ca
            have cbW : W.cell? ⟨b7, o7 + k, none⟩ = some (.string xb) := (hE.old (p := ⟨b7, o7 + k, none⟩) hl7).trans cb
            simp only [putD, List.foldl_nil, List.foldl_cons, List.getD_cons_zero, List.getD_cons_succ, Act.put, List.setIfInBounds_toArray, List.set_cons_zero, List.set_cons_succ]
            refine OpGoal.plain ?_
            go_wp2_with fail
            exact ⟨rfl, Ext.refl _, rfl⟩
          case o4 => -- Op.move (Operand.tmp 12)
            intro xv W hE _
            simp only [putD, List.foldl_nil, List.getD_cons_zero, List.getD_cons_succ]
            refine OpGoal.plain ?_
            go_wp2_with fail
            exact ⟨rfl, Ext.refl _, rfl⟩
          case o5 => -- Op.move (Operand.tmp 15)
            intro xv W hE _
            simp only [putD, List.foldl_nil, List.getD_cons_zero, List.getD_cons_succ]
            refine OpGoal.plain ?_
            go_wp2_with fail
            exact ⟨rfl, Ext.refl _, rfl⟩
          case o6 => -- Op.indexAddr 28 (Operand.tmp 81) (Operand.tmp 82)
            intro xv W hE hp
            have r4 : xv 4 = _ := hp.1
            have r5 : xv 5 = _ := hp.2.1
            clear hp
            simp only [putD, List.foldl_nil, List.foldl_cons, List.getD_cons_zero, List.getD_cons_succ, Act.put, List.setIfInBounds_toArray, List.set_cons_zero, List.set_cons_succ]
            refine OpGoal.plain ?_
            go_wp2_with fail
            exact ⟨rfl, Ext.refl _, rfl⟩
          case o7 => -- Op.load 9 (Operand.tmp 83)
            intro xv W hE hp
            have r6 : xv 6 = _ := hp.1
            clear hp
            have caW : W.cell? ⟨b6, o6 + k, none⟩ = some (.string xa) := (hE.old (p := ⟨b6, o6 + k, none⟩) hl6).trans ca
            have cbW : W.cell? ⟨b7, o7 + k, none⟩ = some (.string xb) := (hE.old (p := ⟨b7, o7 + k, none⟩) hl7).trans cb
            simp only [putD, List.foldl_nil, List.foldl_cons, List.getD_cons_zero, List.getD_cons_succ, Act.put, List.setIfInBounds_toArray, List.set_cons_zero, List.set_cons_succ]
            refine OpGoal.plain ?_
            go_wp2_with fail
            exact ⟨rfl, Ext.refl _, rfl⟩
          case o8 => -- Op.binOp BinOp.neq 9 (Operand.tmp 80) (Operand.tmp 84) 9
            intro xv W hE hp
            have r3 : xv 3 = _ := hp.1
            have r7 : xv 7 = _ := hp.2.1
            clear hp
            simp only [putD, List.foldl_nil, List.foldl_cons, List.getD_cons_zero, List.getD_cons_succ, Act.put, List.setIfInBounds_toArray, List.set_cons_zero, List.set_cons_succ]
            refine OpGoal.plain ?_
            go_wp2_with fail
            exact ⟨rfl, Ext.refl _, rfl⟩
          case last =>
            intro xv W hE hp
            have r0 : xv 0 = _ := hp.1
            have r1 : xv 1 = _ := hp.2.1
            have r2 : xv 2 = _ := hp.2.2.1
            have r3 : xv 3 = _ := hp.2.2.2.1
            have r4 : xv 4 = _ := hp.2.2.2.2.1
            have r5 : xv 5 = _ := hp.2.2.2.2.2.1
            have r6 : xv 6 = _ := hp.2.2.2.2.2.2.1
            have r7 : xv 7 = _ := hp.2.2.2.2.2.2.2.1
            have r8 : xv 8 = _ := hp.2.2.2.2.2.2.2.2.1
            clear hp
            simp only [putD, List.foldl_nil, List.foldl_cons, List.getD_cons_zero, List.getD_cons_succ, Act.put, List.length_cons, List.length_nil, List.range_succ, List.range_zero, List.nil_append, List.cons_append, List.setIfInBounds_toArray, List.set_cons_zero, List.set_cons_succ]
            go_wp2_with fail
            go_roundw
            case rel =>
              refine ⟨k + 1, by omega, by go_num, ?_, ?_, (hEr.trans (Ext.drew wr)).trans hE⟩
              · rw [HDT.out, if_pos HDE.out]; go_num
              · rw [HDT.out, if_pos HDE.out]; omega
            case measure => simp [intOf]; omega
        · have tq : (xa.toList == xb.toList) = false := beq_eq_false_iff_ne.2 fun e => hxe (eq_of_toList e)
          have HDE := Lib.hid hxe
          clear hxe
          go_wp2_with fail
          apply wp_region_seq (l := [_, _, _, _, _, _, _, _, _]) (t := []) [some 77, some 78, some 79, some 80, some 81, some 82, some 83, some 84, some 85] [[], [], [0, 1], [2], [], [], [4, 5], [6], [3, 7]] [] [eqv _, eqv _, eqv _, eqv _, eqv _, eqv _, eqv _, eqv _, eqv _] (by kernel_rfl) (by kernel_rfl) ⟨?o0, ?o1, ?o2, ?o3, ?o4, ?o5, ?o6, ?o7, ?o8, trivial⟩ ?last
          case o0 => -- Op.move (Operand.tmp 10)
            intro xv W hE _
            simp only [putD, List.foldl_nil, List.getD_cons_zero]
            refine OpGoal.plain ?_
            go_wp2_with fail
            exact ⟨rfl, Ext.refl _, rfl⟩
          case o1 => -- Op.move (Operand.tmp 15)
            intro xv W hE _
            simp only [putD, List.foldl_nil, List.getD_cons_zero, List.getD_cons_succ]
            refine OpGoal.plain ?_
            go_wp2_with fail
            exact ⟨rfl, Ext.refl _, rfl⟩
          case o2 => -- Op.indexAddr 28 (Operand.tmp 77) (Operand.tmp 78)
            intro xv W hE hp
            have r0 : xv 0 = _ := hp.1
            have r1 : xv 1 = _ := hp.2.1
            clear hp
            simp only [putD, List.foldl_nil, List.foldl_cons, List.getD_cons_zero, List.getD_cons_succ, Act.put, List.setIfInBounds_toArray, List.set_cons_zero, List.set_cons_succ]
            refine OpGoal.plain ?_
            go_wp2_with fail
            exact ⟨rfl, Ext.refl _, rfl⟩
          case o3 => -- Op.load 9 (Operand.tmp 79)
            intro xv W hE hp
            have r2 : xv 2 = _ := hp.1
            clear hp
            have caW : W.cell? ⟨b6, o6 + k, none⟩ = some (.string xa) := (hE.old (p := ⟨b6, o6 + k, none⟩) hl6).trans ca
            have cbW : W.cell? ⟨b7, o7 + k, none⟩ = some (.string xb) := (hE.old (p := ⟨b7, o7 + k, none⟩) hl7).trans cb
            simp only [putD, List.foldl_nil, List.foldl_cons, List.getD_cons_zero, List.getD_cons_succ, Act.put, List.setIfInBounds_toArray, List.set_cons_zero, List.set_cons_succ]
            refine OpGoal.plain ?_
            go_wp2_with fail
            exact ⟨rfl, Ext.refl _, rfl⟩
          case o4 => -- Op.move (Operand.tmp 12)
            intro xv W hE _
            simp only [putD, List.foldl_nil, List.getD_cons_zero, List.getD_cons_succ]
            refine OpGoal.plain ?_
            go_wp2_with fail
            exact ⟨rfl, Ext.refl _, rfl⟩
          case o5 => -- Op.move (Operand.tmp 15)
            intro xv W hE _
            simp only [putD, List.foldl_nil, List.getD_cons_zero, List.getD_cons_succ]
            refine OpGoal.plain ?_
            go_wp2_with fail
            exact ⟨rfl, Ext.refl _, rfl⟩
          case o6 => -- Op.indexAddr 28 (Operand.tmp 81) (Operand.tmp 82)
            intro xv W hE hp
            have r4 : xv 4 = _ := hp.1
            have r5 : xv 5 = _ := hp.2.1
            clear hp
            simp only [putD, List.foldl_nil, List.foldl_cons, List.getD_cons_zero, List.getD_cons_succ, Act.put, List.setIfInBounds_toArray, List.set_cons_zero, List.set_cons_succ]
            refine OpGoal.plain ?_
            go_wp2_with fail
            exact ⟨rfl, Ext.refl _, rfl⟩
          case o7 => -- Op.load 9 (Operand.tmp 83)
            intro xv W hE hp
            have r6 : xv 6 = _ := hp.1
            clear hp
            have caW : W.cell? ⟨b6, o6 + k, none⟩ = some (.string xa) := (hE.old (p := ⟨b6, o6 + k, none⟩) hl6).trans ca
            have cbW : W.cell? ⟨b7, o7 + k, none⟩ = some (.string xb) := (hE.old (p := ⟨b7, o7 + k, none⟩) hl7).trans cb
            simp only [putD, List.foldl_nil, List.foldl_cons, List.getD_cons_zero, List.getD_cons_succ, Act.put, List.setIfInBounds_toArray, List.set_cons_zero, List.set_cons_succ]
            refine OpGoal.plain ?_
            go_wp2_with fail
            exact ⟨rfl, Ext.refl _, rfl⟩
          case o8 => -- Op.binOp BinOp.neq 9 (Operand.tmp 80) (Operand.tmp 84) 9
            intro xv W hE hp
            have r3 : xv 3 = _ := hp.1
            have r7 : xv 7 = _ := hp.2.1
            clear hp
            simp only [putD, List.foldl_nil, List.foldl_cons, List.getD_cons_zero, List.getD_cons_succ, Act.put, List.setIfInBounds_toArray, List.set_cons_zero, List.set_cons_succ]
            refine OpGoal.plain ?_
            go_wp2_with fail
            exact ⟨rfl, Ext.refl _, rfl⟩
          case last =>
            intro xv W hE hp
            have r0 : xv 0 = _ := hp.1
            have r1 : xv 1 = _ := hp.2.1
            have r2 : xv 2 = _ := hp.2.2.1
            have r3 : xv 3 = _ := hp.2.2.2.1
            have r4 : xv 4 = _ := hp.2.2.2.2.1
            have r5 : xv 5 = _ := hp.2.2.2.2.2.1
            have r6 : xv 6 = _ := hp.2.2.2.2.2.2.1
            have r7 : xv 7 = _ := hp.2.2.2.2.2.2.2.1
            have r8 : xv 8 = _ := hp.2.2.2.2.2.2.2.2.1
            clear hp
            simp only [putD, List.foldl_nil, List.foldl_cons, List.getD_cons_zero, List.getD_cons_succ, Act.put, List.length_cons, List.length_nil, List.range_succ, List.range_zero, List.nil_append, List.cons_append, List.setIfInBounds_toArray, List.set_cons_zero, List.set_cons_succ]
            go_wp2_with fail
            go_roundw
            case rel =>
              refine ⟨k + 1, by omega, by go_num, ?_, ?_, (hEr.trans (Ext.drew wr)).trans hE⟩
              · rw [HDT.out, if_neg HDE.out]; go_num
              · rw [HDT.out, if_neg HDE.out]; omega
            case measure => simp [intOf]; omega
      · obtain rfl : k = la := by omega
        have hb : bits .and .i64 (m : Int) ((m : Int) - 1) = ((m &&& (m - 1) : Nat) : Int) := by
          rw [show ((m : Int) - 1) = ((m - 1 : Nat) : Int) by omega]; exact bits_and_i64 _ _ (by omega) (by omega)
        have hf := HF.out
        clear HF
        generalize dif (a.take k) (b.take k) = d at hf hdk ⊢
        generalize m &&& (m - 1) = z at hf hb
        by_cases hz : z = 0
        · obtain ⟨h1, _, rfl⟩ : lb = k + 1 ∧ z = 0 ∧ d = 0 := by
            rcases hf with hf | hf
            · exact hf
            · exact absurd hz hf.2.1
          subst hz
          have t1 : decide ((k : Int) < (lb : Int)) = true := by simp; omega
          have t2 : decide (k < lb) = true := by simp; omega
          clear hf
          go_wp2_with fail
          go_ret
          exact ⟨rfl, hEx2.trans hEr⟩
        · obtain ⟨h1, _, hd⟩ : lb = k ∧ ¬ z = 0 ∧ d ≤ 1 := by
            rcases hf with hf | hf
            · exact absurd hf.2.1 hz
            · exact hf
          have t1 : decide ((k : Int) < (lb : Int)) = false := by simp; omega
          have t2 : decide (k < lb) = false := by simp; omega
          have t3 : ((z : Int) == 0) = false := by rw [beq_eq_false_iff_ne]; omega
          have hd' : d = 0 ∨ d = 1 := by omega
          clear hf hd
          rcases hd' with rfl | rfl
          · go_wp2_with fail
            go_ret
            exact ⟨rfl, hEx2.trans hEr⟩
          · go_wp2_with fail
            go_ret
            exact ⟨rfl, hEx2.trans hEr⟩

theorem DigestGrows_any (A : Option Addr) (n c : Nat) (ss : List ByteArray) (s : ByteArray) (p : Nat) (w : World) (hS : Strs w w.heap.size A n ss) (hn : n < 9223372036854775808) (hsm : ∀ k, (ss.getD k ByteArray.empty).size < 9223372036854775808) (hs : s.size ≤ maxLen) (hp : p < 256) :
    Calls Try.prog 9 #[.slice A n c, .string s, .int .u8 (p : Nat)] w fun e w' => e = .returned (.bool true) ∧ Below w.heap.size w w' := by
  by_cases h : (lst ss).length = 0
  · exact DigestGrows_none A n c ss s p w hS hn hsm h
  · exact DigestGrows_some A n c ss s p w hS hn hsm hs hp (by omega)

open Go.ChangeMaps (open_string shut_string)
open Go.WideMaps Go.WideElems
set_option maxRecDepth 100000 in
theorem digestGrows_lifted (os : Os) (started : os.Started) (H : Type) (enc : TypeId × Value → H) :
    ReturnsInHanded {} Try.checked os 9 .any (Rows.digestGrowsSpec.pre6 enc Try.prog Try.f9 Rows.digestGrowsRow.domain false) (Rows.digestGrowsSpec.post enc Try.prog Try.f9 false true false false) := by
  refine returnsInHanded_of_change (C := Try.checked) knob started (by kernel_rfl) Try.func9
    (ChangeSpec.witness6 (enc := enc) (C := Try.checked) false ⟨#[], #[.slice none 0 0, .string ByteArray.empty, .int .u8 0], []⟩ 8 (by kernel_rfl) (by kernel_rfl) (by kernel_rfl) (by kernel_rfl)) ?_
  intro W base args ds gs before hval0 hW hcnd _
  have hval : ∀ (j : Nat) t v, Try.f9.params[j]? = some t → args[j]? = some v → Value.okWide Try.prog W .any base t v := hval0
  have hW' := hW
  obtain ⟨p, q, hA0, hV, rfl, hfz, hnd⟩ := hW
  have hA : DataW.TrodAll enc Try.prog W 0 (fun _ => true) true Try.f9.params.toList args.toList ds p := hA0
  rw [Try.params9] at hA hval
  have hAk := hA
  obtain ⟨v0, vs0, d0, ds0, p0, q0, hargs, rfl, hp0, h0, r0⟩ := trodAll_cons hA
  obtain ⟨v1, vs1, d1, ds1, p1, q1, rfl, rfl, hp1, h1, r1⟩ := trodAll_cons r0
  obtain ⟨v2, vs2, d2, ds2, p2, q2, rfl, rfl, hp2, h2, r2⟩ := trodAll_cons r1
  obtain ⟨rfl, rfl, hpn⟩ := trodAll_nil r2
  obtain rfl : args = #[v0, v1, v2] := by cases args; simp_all
  obtain ⟨rfl, rfl⟩ := trodVars_none hV
  obtain ⟨A0, n0, c0, rfl⟩ := okWide_slice Try.underlying28 (hval 0 28 v0 rfl rfl)
  obtain ⟨fuel0, hf0⟩ := h0
  obtain ⟨ss0, hS0, hn0, hs0⟩ := strs_open hf0
  obtain ⟨a1, rfl, rfl, _, w1⟩ := open_string Try.underlying9 (hval 1 9 v1 rfl rfl) h1
  obtain ⟨a2z, rfl, rfl, _, w2⟩ := open_int Try.underlying5 (hval 2 5 v2 rfl rfl) h2
  have b2z := bounds_u8 w2
  obtain ⟨a2, rfl⟩ : ∃ k : Nat, a2z = k := ⟨a2z.toNat, by omega⟩
  have b2 : a2 < 256 := by omega
  clear hA0 hval0
  simp only [List.append_nil] at hW'
  refine (DigestGrows_any A0 n0 c0 ss0 a1 a2 W hS0 hn0 hs0 w1 b2).mono fun e W' ⟨he, hg⟩ => ?_
  subst he
  exact ⟨_, rfl, _, _, _, [], p, [], hW', trodAll_cons_mk (shut_bool Try.underlying4 _) trodAll_mk0, args_back laid hg _ _ _ _ (by rw [Try.params9]; kernel_rfl) hAk (fun x hx => by simpa using hW'.lt x (by simpa using hx)), rfl, hg.frame _, fun h => by cases h⟩

theorem digestGrows_holds : Rows.DigestGrowsSaid :=
  OpenClaim.holds_of_wide 9 Try.f9 rfl rfl rfl rfl rfl rfl rfl ⟨rfl, rfl, rfl, rfl, rfl⟩ rfl rfl rfl rfl rfl (by kernel_rfl) Try.func9 (by kernel_rfl)
    (of_decide_eq_true (by kernel_rfl)) (by unfold Func.isWrapper; first | (rw [if_pos (by decide +kernel)]; kernel_rfl) | (rw [if_neg (by decide +kernel)]; exact ⟨rfl, rfl⟩))
    (fun os started H enc _ => digestGrows_lifted os started H enc)
#print axioms digestGrows_holds
end Go.Proofs.Ytncdnopnjdbleaa
