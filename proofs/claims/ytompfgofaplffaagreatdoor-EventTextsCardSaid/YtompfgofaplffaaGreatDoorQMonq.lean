/- slices.IndexFunc and ContainsFunc at the types that occur, with whatever predicate that may lay blocks of its own (printed by gen_af.py). -/
import Derived.Deep.MidRow
import Derived.Test.YtompfgofaplffaaGreatDoorQAe
import Derived.Test.YtompfgofaplffaaGreatDoorQVc
set_option linter.unusedSimpArgs false
set_option linter.unusedVariables false
namespace Go.Proofs.YtompfgofaplffaaGreatDoor
open Go.RowKit Hach

/-- The first index for which something holds; -1, if there is none. -/
def idxF (p : Nat → Bool) (n : Nat) : Int := match (List.range n).find? p with
  | some j => (j : Int)
  | none => -1
theorem idxF_none {p : Nat → Bool} {n : Nat} (h : ∀ j, j < n → p j = false) : idxF p n = -1 := by
  unfold idxF
  rw [List.find?_eq_none.2 (fun j hj => by rw [h j (List.mem_range.1 hj)]; simp)]
theorem idxF_some {p : Nat → Bool} {n k : Nat} (hk : k < n) (hp : p k = true) (h : ∀ j, j < k → p j = false) : idxF p n = k := by
  unfold idxF
  have e : List.range n = List.range k ++ List.range' k (n - k) := by
    rw [List.range_eq_range', List.range_eq_range']
    have := @List.range'_append 0 k (n - k) 1
    rw [Nat.one_mul, Nat.zero_add, show k + (n - k) = n by omega] at this
    exact this.symm
  rw [e, List.find?_append, List.find?_eq_none.2 (fun j hj => by rw [h j (List.mem_range.1 hj)]; simp), show n - k = (n - k - 1) + 1 by omega, List.range'_succ, List.find?_cons, hp]
  rfl
theorem idxF_any (p : Nat → Bool) (n : Nat) : decide (0 ≤ idxF p n) = (List.range n).any p := by
  unfold idxF
  cases e : (List.range n).find? p with
  | none => rw [show (List.range n).any p = false by rw [List.any_eq_false]; exact List.find?_eq_none.1 e]; rfl
  | some j => rw [show (List.range n).any p = true by rw [List.any_eq_true]; exact ⟨j, List.mem_of_find?_eq_some e, List.find?_some e⟩]; simp
theorem infoPt : (Tryz.prog.info? 73).map (·.size) = some 2 := by kernel_rfl
theorem info_siz {P : Program} {T : TypeId} {n : Nat} (h : (P.info? T).map (·.size) = some n) : ∃ i, P.info? T = some i ∧ i.size = n := by
  cases e : P.info? T with
  | none => rw [e] at h; cases h
  | some i => rw [e] at h; exact ⟨i, rfl, by simpa using h⟩
theorem load_Pt {ops : Array Oper} {rest : List Oper} {op : Oper} {a : Act} {w : World} {Q : Exit → Act → World → Prop} (hgd : op.guard = none) (x : Operand) (ho : op.op = .load 73 x) (b o : Nat) (cs : List Value) (hr : w.rangeAt b o cs) (h7 : cs.length = 2)
    (hx : a.eval x = .pointer (some ⟨b, o, none⟩)) (h : wpList Tryz.prog ops Q rest (a.put op.dst (.agg cs.toArray)) w) : wpList Tryz.prog ops Q (op :: rest) a w := by
  obtain ⟨i0, hi, hz1⟩ := info_siz infoPt
  exact wpList_load_mid hgd _ x ho b o hx cs _ hr Tryz.underlying73 rfl (by rw [hi]; simp [hz1, h7]) h
set_option maxHeartbeats 1000000 in
theorem ixPt_any (g : Nat) (lb : Array Value) (eg : ∀ args w, (callFunc g args).run Tryz.prog w = .ok (.enter g args) w) (A : Option Addr) (n c : Nat) (E : Nat → List Value) (p : Nat → Bool) (w : World) (hn : n < 9223372036854775808)
    (hE : ∀ j, j < n → (E j).length = 2) (hr : ∀ W, Ext w W → ∀ j, j < n → ∃ b o, A = some ⟨b, o, none⟩ ∧ W.rangeAt b (o + j * 2) (E j))
    (hp : ∀ W, Ext w W → ∀ j, j < n → Calls Tryz.prog g (#[.agg (E j).toArray] ++ lb) W fun e w' => e = .returned (.bool (p j)) ∧ Ext W w') :
    Calls Tryz.prog 226 #[.slice A n c, .func (.func g) #[] lb] w fun e w' => e = .returned (.int .i64 (idxF p n)) ∧ Ext w w' := by
  have HR := Lib.hid hr
  have HP := Lib.hid hp
  have HE := Lib.hid hE
  have HN := Lib.hid hn
  clear hr hp hE
  go_enter Tryz.func226, Tryz.ntmps226
  go_wp2_with fail
  go_loopw [8] (fun kv wr => ∃ k : Nat, k ≤ n ∧ kv = .int .i64 k ∧ Hid (∀ j, j < k → p j = false) ∧ Ext w wr) (fun kv _ => n - (intOf kv).toNat)
  case atStart => exact ⟨0, Nat.zero_le _, rfl, Lib.hid (fun j h => absurd h (Nat.not_lt_zero _)), Ext.refl _⟩
  case round =>
    obtain ⟨k, hk, rfl, HK, hE⟩ := hrel
    by_cases hlt : k < n
    · have t : decide (k < n) = true := by simpa using hlt
      obtain ⟨b, o, rfl, hr⟩ := HR.out wr hE k hlt
      have hcall := HP.out wr hE k hlt
      have hlen := HE.out k hlt
      cases hq : p k
      · rw [hq] at hcall
        have hk' : ∀ j, j < k + 1 → p j = false := fun j hj => by
          rcases Nat.lt_or_ge j k with h | h
          · exact HK.out j h
          · rw [show j = k by omega]; exact hq
        have HK' := Lib.hid hk'
        clear hq hk'
        go_wp2_with (first
          | (refine load_Pt rfl _ rfl b (o + k * 2) _ hr hlen rfl ?_)
          | (go_at_fn g; refine hcall.mono ?_; rintro e w' ⟨rfl, hE'⟩))
        go_roundw
        case rel => exact ⟨k + 1, by omega, by go_num, HK', Ext.trans hE hE'⟩
        case measure => simp [intOf]; omega
      · rw [hq] at hcall
        have HI := Lib.hid (idxF_some hlt hq HK.out)
        clear hq
        go_wp2_with (first
          | (refine load_Pt rfl _ rfl b (o + k * 2) _ hr hlen rfl ?_)
          | (go_at_fn g; refine hcall.mono ?_; rintro e w' ⟨rfl, hE'⟩))
        go_ret
        exact ⟨ret_i HI.out.symm, Ext.trans hE hE'⟩
    · have t : decide (k < n) = false := by simp; omega
      have HI := Lib.hid (idxF_none (p := p) (n := n) (fun j hj => HK.out j (by omega)))
      go_wp2_with fail
      go_ret
      exact ⟨ret_i HI.out.symm, hE⟩
theorem cfPt_any (g : Nat) (lb : Array Value) (eg : ∀ args w, (callFunc g args).run Tryz.prog w = .ok (.enter g args) w) (A : Option Addr) (n c : Nat) (E : Nat → List Value) (p : Nat → Bool) (w : World) (hn : n < 9223372036854775808)
    (hE : ∀ j, j < n → (E j).length = 2) (hr : ∀ W, Ext w W → ∀ j, j < n → ∃ b o, A = some ⟨b, o, none⟩ ∧ W.rangeAt b (o + j * 2) (E j))
    (hp : ∀ W, Ext w W → ∀ j, j < n → Calls Tryz.prog g (#[.agg (E j).toArray] ++ lb) W fun e w' => e = .returned (.bool (p j)) ∧ Ext W w') :
    Calls Tryz.prog 173 #[.slice A n c, .func (.func g) #[] lb] w fun e w' => e = .returned (.bool ((List.range n).any p)) ∧ Ext w w' := by
  have HC := Lib.hid (ixPt_any g lb eg A n c E p w hn hE hr hp)
  have HA := Lib.hid (idxF_any p n)
  clear hr hp hE eg
  generalize idxF p n = r at *
  go_enter Tryz.func173, Tryz.ntmps173
  go_wp2_with fail
  refine HC.out.mono ?_
  rintro e w' ⟨rfl, hE⟩
  go_wp2_with fail
  go_ret
  exact ⟨ret_b HA.out, hE⟩
-- MORE
theorem infoPl : (Tryz.prog.info? 118).map (·.size) = some 7 := by kernel_rfl
theorem load_Pl {ops : Array Oper} {rest : List Oper} {op : Oper} {a : Act} {w : World} {Q : Exit → Act → World → Prop} (hgd : op.guard = none) (x : Operand) (ho : op.op = .load 118 x) (b o : Nat) (cs : List Value) (hr : w.rangeAt b o cs) (h7 : cs.length = 7)
    (hx : a.eval x = .pointer (some ⟨b, o, none⟩)) (h : wpList Tryz.prog ops Q rest (a.put op.dst (.agg cs.toArray)) w) : wpList Tryz.prog ops Q (op :: rest) a w := by
  obtain ⟨i0, hi, hz1⟩ := info_siz infoPl
  exact wpList_load_mid hgd _ x ho b o hx cs _ hr Tryz.underlying118 rfl (by rw [hi]; simp [hz1, h7]) h
set_option maxHeartbeats 1000000 in
theorem ixPl_any (g : Nat) (lb : Array Value) (eg : ∀ args w, (callFunc g args).run Tryz.prog w = .ok (.enter g args) w) (A : Option Addr) (n c : Nat) (E : Nat → List Value) (p : Nat → Bool) (w : World) (hn : n < 9223372036854775808)
    (hE : ∀ j, j < n → (E j).length = 7) (hr : ∀ W, Ext w W → ∀ j, j < n → ∃ b o, A = some ⟨b, o, none⟩ ∧ W.rangeAt b (o + j * 7) (E j))
    (hp : ∀ W, Ext w W → ∀ j, j < n → Calls Tryz.prog g (#[.agg (E j).toArray] ++ lb) W fun e w' => e = .returned (.bool (p j)) ∧ Ext W w') :
    Calls Tryz.prog 155 #[.slice A n c, .func (.func g) #[] lb] w fun e w' => e = .returned (.int .i64 (idxF p n)) ∧ Ext w w' := by
  have HR := Lib.hid hr
  have HP := Lib.hid hp
  have HE := Lib.hid hE
  have HN := Lib.hid hn
  clear hr hp hE
  go_enter Tryz.func155, Tryz.ntmps155
  go_wp2_with fail
  go_loopw [8] (fun kv wr => ∃ k : Nat, k ≤ n ∧ kv = .int .i64 k ∧ Hid (∀ j, j < k → p j = false) ∧ Ext w wr) (fun kv _ => n - (intOf kv).toNat)
  case atStart => exact ⟨0, Nat.zero_le _, rfl, Lib.hid (fun j h => absurd h (Nat.not_lt_zero _)), Ext.refl _⟩
  case round =>
    obtain ⟨k, hk, rfl, HK, hE⟩ := hrel
    by_cases hlt : k < n
    · have t : decide (k < n) = true := by simpa using hlt
      obtain ⟨b, o, rfl, hr⟩ := HR.out wr hE k hlt
      have hcall := HP.out wr hE k hlt
      have hlen := HE.out k hlt
      cases hq : p k
      · rw [hq] at hcall
        have hk' : ∀ j, j < k + 1 → p j = false := fun j hj => by
          rcases Nat.lt_or_ge j k with h | h
          · exact HK.out j h
          · rw [show j = k by omega]; exact hq
        have HK' := Lib.hid hk'
        clear hq hk'
        go_wp2_with (first
          | (refine load_Pl rfl _ rfl b (o + k * 7) _ hr hlen rfl ?_)
          | (go_at_fn g; refine hcall.mono ?_; rintro e w' ⟨rfl, hE'⟩))
        go_roundw
        case rel => exact ⟨k + 1, by omega, by go_num, HK', Ext.trans hE hE'⟩
        case measure => simp [intOf]; omega
      · rw [hq] at hcall
        have HI := Lib.hid (idxF_some hlt hq HK.out)
        clear hq
        go_wp2_with (first
          | (refine load_Pl rfl _ rfl b (o + k * 7) _ hr hlen rfl ?_)
          | (go_at_fn g; refine hcall.mono ?_; rintro e w' ⟨rfl, hE'⟩))
        go_ret
        exact ⟨ret_i HI.out.symm, Ext.trans hE hE'⟩
    · have t : decide (k < n) = false := by simp; omega
      have HI := Lib.hid (idxF_none (p := p) (n := n) (fun j hj => HK.out j (by omega)))
      go_wp2_with fail
      go_ret
      exact ⟨ret_i HI.out.symm, hE⟩
theorem cfPl_any (g : Nat) (lb : Array Value) (eg : ∀ args w, (callFunc g args).run Tryz.prog w = .ok (.enter g args) w) (A : Option Addr) (n c : Nat) (E : Nat → List Value) (p : Nat → Bool) (w : World) (hn : n < 9223372036854775808)
    (hE : ∀ j, j < n → (E j).length = 7) (hr : ∀ W, Ext w W → ∀ j, j < n → ∃ b o, A = some ⟨b, o, none⟩ ∧ W.rangeAt b (o + j * 7) (E j))
    (hp : ∀ W, Ext w W → ∀ j, j < n → Calls Tryz.prog g (#[.agg (E j).toArray] ++ lb) W fun e w' => e = .returned (.bool (p j)) ∧ Ext W w') :
    Calls Tryz.prog 135 #[.slice A n c, .func (.func g) #[] lb] w fun e w' => e = .returned (.bool ((List.range n).any p)) ∧ Ext w w' := by
  have HC := Lib.hid (ixPl_any g lb eg A n c E p w hn hE hr hp)
  have HA := Lib.hid (idxF_any p n)
  clear hr hp hE eg
  generalize idxF p n = r at *
  go_enter Tryz.func135, Tryz.ntmps135
  go_wp2_with fail
  refine HC.out.mono ?_
  rintro e w' ⟨rfl, hE⟩
  go_wp2_with fail
  go_ret
  exact ⟨ret_b HA.out, hE⟩
theorem infoFa : (Tryz.prog.info? 79).map (·.size) = some 5 := by kernel_rfl
theorem load_Fa {ops : Array Oper} {rest : List Oper} {op : Oper} {a : Act} {w : World} {Q : Exit → Act → World → Prop} (hgd : op.guard = none) (x : Operand) (ho : op.op = .load 79 x) (b o : Nat) (cs : List Value) (hr : w.rangeAt b o cs) (h7 : cs.length = 5)
    (hx : a.eval x = .pointer (some ⟨b, o, none⟩)) (h : wpList Tryz.prog ops Q rest (a.put op.dst (.agg cs.toArray)) w) : wpList Tryz.prog ops Q (op :: rest) a w := by
  obtain ⟨i0, hi, hz1⟩ := info_siz infoFa
  exact wpList_load_mid hgd _ x ho b o hx cs _ hr Tryz.underlying79 rfl (by rw [hi]; simp [hz1, h7]) h
set_option maxHeartbeats 1000000 in
theorem ixFa_any (g : Nat) (lb : Array Value) (eg : ∀ args w, (callFunc g args).run Tryz.prog w = .ok (.enter g args) w) (A : Option Addr) (n c : Nat) (E : Nat → List Value) (p : Nat → Bool) (w : World) (hn : n < 9223372036854775808)
    (hE : ∀ j, j < n → (E j).length = 5) (hr : ∀ W, Ext w W → ∀ j, j < n → ∃ b o, A = some ⟨b, o, none⟩ ∧ W.rangeAt b (o + j * 5) (E j))
    (hp : ∀ W, Ext w W → ∀ j, j < n → Calls Tryz.prog g (#[.agg (E j).toArray] ++ lb) W fun e w' => e = .returned (.bool (p j)) ∧ Ext W w') :
    Calls Tryz.prog 126 #[.slice A n c, .func (.func g) #[] lb] w fun e w' => e = .returned (.int .i64 (idxF p n)) ∧ Ext w w' := by
  have HR := Lib.hid hr
  have HP := Lib.hid hp
  have HE := Lib.hid hE
  have HN := Lib.hid hn
  clear hr hp hE
  go_enter Tryz.func126, Tryz.ntmps126
  go_wp2_with fail
  go_loopw [8] (fun kv wr => ∃ k : Nat, k ≤ n ∧ kv = .int .i64 k ∧ Hid (∀ j, j < k → p j = false) ∧ Ext w wr) (fun kv _ => n - (intOf kv).toNat)
  case atStart => exact ⟨0, Nat.zero_le _, rfl, Lib.hid (fun j h => absurd h (Nat.not_lt_zero _)), Ext.refl _⟩
  case round =>
    obtain ⟨k, hk, rfl, HK, hE⟩ := hrel
    by_cases hlt : k < n
    · have t : decide (k < n) = true := by simpa using hlt
      obtain ⟨b, o, rfl, hr⟩ := HR.out wr hE k hlt
      have hcall := HP.out wr hE k hlt
      have hlen := HE.out k hlt
      cases hq : p k
      · rw [hq] at hcall
        have hk' : ∀ j, j < k + 1 → p j = false := fun j hj => by
          rcases Nat.lt_or_ge j k with h | h
          · exact HK.out j h
          · rw [show j = k by omega]; exact hq
        have HK' := Lib.hid hk'
        clear hq hk'
        go_wp2_with (first
          | (refine load_Fa rfl _ rfl b (o + k * 5) _ hr hlen rfl ?_)
          | (go_at_fn g; refine hcall.mono ?_; rintro e w' ⟨rfl, hE'⟩))
        go_roundw
        case rel => exact ⟨k + 1, by omega, by go_num, HK', Ext.trans hE hE'⟩
        case measure => simp [intOf]; omega
      · rw [hq] at hcall
        have HI := Lib.hid (idxF_some hlt hq HK.out)
        clear hq
        go_wp2_with (first
          | (refine load_Fa rfl _ rfl b (o + k * 5) _ hr hlen rfl ?_)
          | (go_at_fn g; refine hcall.mono ?_; rintro e w' ⟨rfl, hE'⟩))
        go_ret
        exact ⟨ret_i HI.out.symm, Ext.trans hE hE'⟩
    · have t : decide (k < n) = false := by simp; omega
      have HI := Lib.hid (idxF_none (p := p) (n := n) (fun j hj => HK.out j (by omega)))
      go_wp2_with fail
      go_ret
      exact ⟨ret_i HI.out.symm, hE⟩
theorem infoWy : (Tryz.prog.info? 115).map (·.size) = some 8 := by kernel_rfl
theorem load_Wy {ops : Array Oper} {rest : List Oper} {op : Oper} {a : Act} {w : World} {Q : Exit → Act → World → Prop} (hgd : op.guard = none) (x : Operand) (ho : op.op = .load 115 x) (b o : Nat) (cs : List Value) (hr : w.rangeAt b o cs) (h7 : cs.length = 8)
    (hx : a.eval x = .pointer (some ⟨b, o, none⟩)) (h : wpList Tryz.prog ops Q rest (a.put op.dst (.agg cs.toArray)) w) : wpList Tryz.prog ops Q (op :: rest) a w := by
  obtain ⟨i0, hi, hz1⟩ := info_siz infoWy
  exact wpList_load_mid hgd _ x ho b o hx cs _ hr Tryz.underlying115 rfl (by rw [hi]; simp [hz1, h7]) h
set_option maxHeartbeats 1000000 in
theorem ixWy_any (g : Nat) (lb : Array Value) (eg : ∀ args w, (callFunc g args).run Tryz.prog w = .ok (.enter g args) w) (A : Option Addr) (n c : Nat) (E : Nat → List Value) (p : Nat → Bool) (w : World) (hn : n < 9223372036854775808)
    (hE : ∀ j, j < n → (E j).length = 8) (hr : ∀ W, Ext w W → ∀ j, j < n → ∃ b o, A = some ⟨b, o, none⟩ ∧ W.rangeAt b (o + j * 8) (E j))
    (hp : ∀ W, Ext w W → ∀ j, j < n → Calls Tryz.prog g (#[.agg (E j).toArray] ++ lb) W fun e w' => e = .returned (.bool (p j)) ∧ Ext W w') :
    Calls Tryz.prog 147 #[.slice A n c, .func (.func g) #[] lb] w fun e w' => e = .returned (.int .i64 (idxF p n)) ∧ Ext w w' := by
  have HR := Lib.hid hr
  have HP := Lib.hid hp
  have HE := Lib.hid hE
  have HN := Lib.hid hn
  clear hr hp hE
  go_enter Tryz.func147, Tryz.ntmps147
  go_wp2_with fail
  go_loopw [8] (fun kv wr => ∃ k : Nat, k ≤ n ∧ kv = .int .i64 k ∧ Hid (∀ j, j < k → p j = false) ∧ Ext w wr) (fun kv _ => n - (intOf kv).toNat)
  case atStart => exact ⟨0, Nat.zero_le _, rfl, Lib.hid (fun j h => absurd h (Nat.not_lt_zero _)), Ext.refl _⟩
  case round =>
    obtain ⟨k, hk, rfl, HK, hE⟩ := hrel
    by_cases hlt : k < n
    · have t : decide (k < n) = true := by simpa using hlt
      obtain ⟨b, o, rfl, hr⟩ := HR.out wr hE k hlt
      have hcall := HP.out wr hE k hlt
      have hlen := HE.out k hlt
      cases hq : p k
      · rw [hq] at hcall
        have hk' : ∀ j, j < k + 1 → p j = false := fun j hj => by
          rcases Nat.lt_or_ge j k with h | h
          · exact HK.out j h
          · rw [show j = k by omega]; exact hq
        have HK' := Lib.hid hk'
        clear hq hk'
        go_wp2_with (first
          | (refine load_Wy rfl _ rfl b (o + k * 8) _ hr hlen rfl ?_)
          | (go_at_fn g; refine hcall.mono ?_; rintro e w' ⟨rfl, hE'⟩))
        go_roundw
        case rel => exact ⟨k + 1, by omega, by go_num, HK', Ext.trans hE hE'⟩
        case measure => simp [intOf]; omega
      · rw [hq] at hcall
        have HI := Lib.hid (idxF_some hlt hq HK.out)
        clear hq
        go_wp2_with (first
          | (refine load_Wy rfl _ rfl b (o + k * 8) _ hr hlen rfl ?_)
          | (go_at_fn g; refine hcall.mono ?_; rintro e w' ⟨rfl, hE'⟩))
        go_ret
        exact ⟨ret_i HI.out.symm, Ext.trans hE hE'⟩
    · have t : decide (k < n) = false := by simp; omega
      have HI := Lib.hid (idxF_none (p := p) (n := n) (fun j hj => HK.out j (by omega)))
      go_wp2_with fail
      go_ret
      exact ⟨ret_i HI.out.symm, hE⟩
theorem infoEd : (Tryz.prog.info? 77).map (·.size) = some 4 := by kernel_rfl
theorem load_Ed {ops : Array Oper} {rest : List Oper} {op : Oper} {a : Act} {w : World} {Q : Exit → Act → World → Prop} (hgd : op.guard = none) (x : Operand) (ho : op.op = .load 77 x) (b o : Nat) (cs : List Value) (hr : w.rangeAt b o cs) (h7 : cs.length = 4)
    (hx : a.eval x = .pointer (some ⟨b, o, none⟩)) (h : wpList Tryz.prog ops Q rest (a.put op.dst (.agg cs.toArray)) w) : wpList Tryz.prog ops Q (op :: rest) a w := by
  obtain ⟨i0, hi, hz1⟩ := info_siz infoEd
  exact wpList_load_mid hgd _ x ho b o hx cs _ hr Tryz.underlying77 rfl (by rw [hi]; simp [hz1, h7]) h
set_option maxHeartbeats 1000000 in
theorem ixEd_any (g : Nat) (lb : Array Value) (eg : ∀ args w, (callFunc g args).run Tryz.prog w = .ok (.enter g args) w) (A : Option Addr) (n c : Nat) (E : Nat → List Value) (p : Nat → Bool) (w : World) (hn : n < 9223372036854775808)
    (hE : ∀ j, j < n → (E j).length = 4) (hr : ∀ W, Ext w W → ∀ j, j < n → ∃ b o, A = some ⟨b, o, none⟩ ∧ W.rangeAt b (o + j * 4) (E j))
    (hp : ∀ W, Ext w W → ∀ j, j < n → Calls Tryz.prog g (#[.agg (E j).toArray] ++ lb) W fun e w' => e = .returned (.bool (p j)) ∧ Ext W w') :
    Calls Tryz.prog 139 #[.slice A n c, .func (.func g) #[] lb] w fun e w' => e = .returned (.int .i64 (idxF p n)) ∧ Ext w w' := by
  have HR := Lib.hid hr
  have HP := Lib.hid hp
  have HE := Lib.hid hE
  have HN := Lib.hid hn
  clear hr hp hE
  go_enter Tryz.func139, Tryz.ntmps139
  go_wp2_with fail
  go_loopw [8] (fun kv wr => ∃ k : Nat, k ≤ n ∧ kv = .int .i64 k ∧ Hid (∀ j, j < k → p j = false) ∧ Ext w wr) (fun kv _ => n - (intOf kv).toNat)
  case atStart => exact ⟨0, Nat.zero_le _, rfl, Lib.hid (fun j h => absurd h (Nat.not_lt_zero _)), Ext.refl _⟩
  case round =>
    obtain ⟨k, hk, rfl, HK, hE⟩ := hrel
    by_cases hlt : k < n
    · have t : decide (k < n) = true := by simpa using hlt
      obtain ⟨b, o, rfl, hr⟩ := HR.out wr hE k hlt
      have hcall := HP.out wr hE k hlt
      have hlen := HE.out k hlt
      cases hq : p k
      · rw [hq] at hcall
        have hk' : ∀ j, j < k + 1 → p j = false := fun j hj => by
          rcases Nat.lt_or_ge j k with h | h
          · exact HK.out j h
          · rw [show j = k by omega]; exact hq
        have HK' := Lib.hid hk'
        clear hq hk'
        go_wp2_with (first
          | (refine load_Ed rfl _ rfl b (o + k * 4) _ hr hlen rfl ?_)
          | (go_at_fn g; refine hcall.mono ?_; rintro e w' ⟨rfl, hE'⟩))
        go_roundw
        case rel => exact ⟨k + 1, by omega, by go_num, HK', Ext.trans hE hE'⟩
        case measure => simp [intOf]; omega
      · rw [hq] at hcall
        have HI := Lib.hid (idxF_some hlt hq HK.out)
        clear hq
        go_wp2_with (first
          | (refine load_Ed rfl _ rfl b (o + k * 4) _ hr hlen rfl ?_)
          | (go_at_fn g; refine hcall.mono ?_; rintro e w' ⟨rfl, hE'⟩))
        go_ret
        exact ⟨ret_i HI.out.symm, Ext.trans hE hE'⟩
    · have t : decide (k < n) = false := by simp; omega
      have HI := Lib.hid (idxF_none (p := p) (n := n) (fun j hj => HK.out j (by omega)))
      go_wp2_with fail
      go_ret
      exact ⟨ret_i HI.out.symm, hE⟩
set_option maxHeartbeats 1000000 in
theorem ixI_any (g : Nat) (lb : Array Value) (eg : ∀ args w, (callFunc g args).run Tryz.prog w = .ok (.enter g args) w) (A : Option Addr) (n c : Nat) (E : Nat → Value) (p : Nat → Bool) (w : World) (hn : n < 9223372036854775808)
    (hr : ∀ W, Ext w W → ∀ j, j < n → ∃ b o, A = some ⟨b, o, none⟩ ∧ W.cell? ⟨b, o + j, none⟩ = some (E j))
    (hp : ∀ W, Ext w W → ∀ j, j < n → Calls Tryz.prog g (#[E j] ++ lb) W fun e w' => e = .returned (.bool (p j)) ∧ Ext W w') :
    Calls Tryz.prog 145 #[.slice A n c, .func (.func g) #[] lb] w fun e w' => e = .returned (.int .i64 (idxF p n)) ∧ Ext w w' := by
  have HR := Lib.hid hr
  have HP := Lib.hid hp
  have HN := Lib.hid hn
  clear hr hp
  go_enter Tryz.func145, Tryz.ntmps145
  go_wp2_with fail
  go_loopw [8] (fun kv wr => ∃ k : Nat, k ≤ n ∧ kv = .int .i64 k ∧ Hid (∀ j, j < k → p j = false) ∧ Ext w wr) (fun kv _ => n - (intOf kv).toNat)
  case atStart => exact ⟨0, Nat.zero_le _, rfl, Lib.hid (fun j h => absurd h (Nat.not_lt_zero _)), Ext.refl _⟩
  case round =>
    obtain ⟨k, hk, rfl, HK, hE⟩ := hrel
    by_cases hlt : k < n
    · have t : decide (k < n) = true := by simpa using hlt
      obtain ⟨b, o, rfl, hr⟩ := HR.out wr hE k hlt
      have hcall := HP.out wr hE k hlt
      cases hq : p k
      · rw [hq] at hcall
        have hk' : ∀ j, j < k + 1 → p j = false := fun j hj => by
          rcases Nat.lt_or_ge j k with h | h
          · exact HK.out j h
          · rw [show j = k by omega]; exact hq
        have HK' := Lib.hid hk'
        clear hq hk'
        go_wp2_with (go_at_fn g; refine hcall.mono ?_; rintro e w' ⟨rfl, hE'⟩)
        go_roundw
        case rel => exact ⟨k + 1, by omega, by go_num, HK', Ext.trans hE hE'⟩
        case measure => simp [intOf]; omega
      · rw [hq] at hcall
        have HI := Lib.hid (idxF_some hlt hq HK.out)
        clear hq
        go_wp2_with (go_at_fn g; refine hcall.mono ?_; rintro e w' ⟨rfl, hE'⟩)
        go_ret
        exact ⟨ret_i HI.out.symm, Ext.trans hE hE'⟩
    · have t : decide (k < n) = false := by simp; omega
      have HI := Lib.hid (idxF_none (p := p) (n := n) (fun j hj => HK.out j (by omega)))
      go_wp2_with fail
      go_ret
      exact ⟨ret_i HI.out.symm, hE⟩
theorem cfI_any (g : Nat) (lb : Array Value) (eg : ∀ args w, (callFunc g args).run Tryz.prog w = .ok (.enter g args) w) (A : Option Addr) (n c : Nat) (E : Nat → Value) (p : Nat → Bool) (w : World) (hn : n < 9223372036854775808)
    (hr : ∀ W, Ext w W → ∀ j, j < n → ∃ b o, A = some ⟨b, o, none⟩ ∧ W.cell? ⟨b, o + j, none⟩ = some (E j))
    (hp : ∀ W, Ext w W → ∀ j, j < n → Calls Tryz.prog g (#[E j] ++ lb) W fun e w' => e = .returned (.bool (p j)) ∧ Ext W w') :
    Calls Tryz.prog 257 #[.slice A n c, .func (.func g) #[] lb] w fun e w' => e = .returned (.bool ((List.range n).any p)) ∧ Ext w w' := by
  have HC := Lib.hid (ixI_any g lb eg A n c E p w hn hr hp)
  have HA := Lib.hid (idxF_any p n)
  clear hr hp eg
  generalize idxF p n = r at *
  go_enter Tryz.func257, Tryz.ntmps257
  go_wp2_with fail
  refine HC.out.mono ?_
  rintro e w' ⟨rfl, hE⟩
  go_wp2_with fail
  go_ret
  exact ⟨ret_b HA.out, hE⟩
end Go.Proofs.YtompfgofaplffaaGreatDoor

namespace Go.Proofs.YtompfgofaplffaaGreatDoor
open Go.RowKit Hach

theorem within1_any (x n : Int) (g : Nat) (w : World) (hc : w.cell? ⟨g, 0, none⟩ = some (.int .i64 n)) (hn : 0 ≤ n ∧ n ≤ 9223372036854775807) :
    Calls Tryz.prog 258 #[.int .i64 x, .pointer (some ⟨g, 0, none⟩)] w fun e w' => e = .returned (.bool (decide (x < -n) || decide (n < x))) ∧ Ext w w' := by
  have e1 : wrap64 (-n) = -n := by unfold wrap64; omega
  cases h1 : decide (x < -n) <;> cases h2 : decide (n < x)
  all_goals
    go_enter Tryz.func258, Tryz.ntmps258
    go_wp2_with fail
    go_ret
    exact ⟨rfl, Ext.refl w⟩
def inN (n : Int) (l : List Int) : Bool := !(List.range l.length).any fun j => decide (l.getD j 0 < -n) || decide (n < l.getD j 0)
theorem within_any (n : Int) (l : List Int) (A : Option Addr) (c : Nat) (w : World) (hn : 0 ≤ n ∧ n ≤ 9223372036854775807) (hl : l.length < 9223372036854775808)
    (hr : ∀ W, Ext w W → ∀ j, j < l.length → ∃ b o, A = some ⟨b, o, none⟩ ∧ W.cell? ⟨b, o + j, none⟩ = some (.int .i64 (l.getD j 0))) :
    Calls Tryz.prog 227 #[.int .i64 n, .slice A l.length c] w fun e w' => e = .returned (.bool (inN n l)) ∧ Ext w w' := by
  have hE1 : Ext w (w.alloc (.cells #[.int .i64 n] 3)) := Ext.alloc _ _
  have HC := Lib.hid (cfI_any 258 #[.pointer (some ⟨w.heap.size, 0, none⟩)] (enters_of Tryz.func258 (by kernel_rfl) rfl) A l.length c (fun j => .int .i64 (l.getD j 0))
    (fun j => decide (l.getD j 0 < -n) || decide (n < l.getD j 0)) (w.alloc (.cells #[.int .i64 n] 3)) hl (fun W h j hj => hr W (Ext.trans hE1 h) j hj)
    (fun W h j hj => within1_any _ n _ W (cell_ext h (cells_of (Go.heap_alloc_new w (.cells #[.int .i64 n] 3)) 0 _ rfl)) hn))
  have HI : Hid (inN n l = !(List.range l.length).any fun j => decide (l.getD j 0 < -n) || decide (n < l.getD j 0)) := Lib.hid rfl
  generalize ((List.range l.length).any fun j => decide (l.getD j 0 < -n) || decide (n < l.getD j 0)) = r at *
  clear hr hn hE1
  go_enter Tryz.func227, Tryz.ntmps227
  go_wp2_with fail
  refine HC.out.mono ?_
  rintro e w' ⟨rfl, hE⟩
  go_wp2_with fail
  go_ret
  exact ⟨ret_b HI.out.symm, Ext.trans (Ext.alloc w _) hE⟩
theorem inN_two (n x y : Int) : inN n [x, y] = ((decide (-n ≤ x) && decide (x ≤ n)) && (decide (-n ≤ y) && decide (y ≤ n))) := by
  unfold inN
  rw [Bool.eq_iff_iff]
  simp [List.range_succ]
/-- Two numbers in a new block. -/
theorem two_new {w W : World} {x y : Int} {T : TypeId} (hE : Ext (w.alloc (.cells #[.int .i64 x, .int .i64 y] T)) W) (j : Nat) (hj : j < 2) : ∃ b o, some (⟨w.heap.size, 0, none⟩ : Addr) = some ⟨b, o, none⟩ ∧ W.cell? ⟨b, o + j, none⟩ = some (.int .i64 ([x, y].getD j 0)) := by
  refine ⟨_, _, rfl, ?_⟩
  rw [Nat.zero_add]
  match j, hj with
  | 0, _ => exact cell_ext hE (cells_of (Go.heap_alloc_new _ _) 0 _ rfl)
  | 1, _ => exact cell_ext hE (cells_of (Go.heap_alloc_new _ _) 1 _ rfl)
theorem within2_any (n x y : Int) (hn : 0 ≤ n ∧ n ≤ 9223372036854775807) (w : World) (g : Nat) (hg : w.heap.size = g) :
    Calls Tryz.prog 227 #[.int .i64 n, .slice (some ⟨g, 0, none⟩) 2 2] (w.alloc (.cells #[.int .i64 x, .int .i64 y] 3)) fun e w' => e = .returned (.bool ((decide (-n ≤ x) && decide (x ≤ n)) && (decide (-n ≤ y) && decide (y ≤ n)))) ∧ Ext (w.alloc (.cells #[.int .i64 x, .int .i64 y] 3)) w' := by
  subst hg
  rw [← inN_two]
  exact within_any n [x, y] _ 2 _ hn (by simp) (fun W h j hj => two_new h j hj)
theorem right_any (p : Pt) (w : World) : Calls Tryz.prog 175 #[.agg #[.int .i64 p.x, .int .i64 p.y]] w fun e w' => e = .returned (.bool (rightP p)) ∧ Ext w w' := by
  have HI : Hid (((decide (-16384 ≤ p.x) && decide (p.x ≤ 16384)) && (decide (-16384 ≤ p.y) && decide (p.y ≤ 16384))) = rightP p) := Lib.hid rfl
  have HW := Lib.hid (within2_any 16384 p.x p.y ⟨by decide, by decide⟩ (w.alloc (.cells #[.int .i64 p.x, .int .i64 p.y] 73)) (w.heap.size + 1) (by simp))
  go_enter Tryz.func175, Tryz.ntmps175
  go_wp2_with fail
  refine HW.out.mono ?_
  rintro e w' ⟨rfl, hE⟩
  go_wp2_with fail
  go_ret
  exact ⟨ret_b HI.out, Ext.trans (exa (exa (Ext.refl w))) hE⟩
theorem bnd1_any (p : Pt) (w : World) : Calls Tryz.prog 259 #[.agg #[.int .i64 p.x, .int .i64 p.y]] w fun e w' => e = .returned (.bool (!bnd p)) ∧ Ext w w' := by
  have HI : Hid (((decide (-1152921504606846976 ≤ p.x) && decide (p.x ≤ 1152921504606846976)) && (decide (-1152921504606846976 ≤ p.y) && decide (p.y ≤ 1152921504606846976))) = bnd p) := Lib.hid rfl
  have HW := Lib.hid (within2_any 1152921504606846976 p.x p.y ⟨by decide, by decide⟩ (w.alloc (.cells #[.int .i64 p.x, .int .i64 p.y] 73)) (w.heap.size + 1) (by simp))
  go_enter Tryz.func259, Tryz.ntmps259
  go_wp2_with fail
  refine HW.out.mono ?_
  rintro e w' ⟨rfl, hE⟩
  rw [HI.out]
  go_wp2_with fail
  go_ret
  exact ⟨rfl, Ext.trans (exa (exa (Ext.refl w))) hE⟩
theorem sub_any (a b : Pt) (w : World) : Calls Tryz.prog 72 #[.agg #[.int .i64 a.x, .int .i64 a.y], .agg #[.int .i64 b.x, .int .i64 b.y]] w
    fun e w' => e = .returned (.agg #[.int .i64 (wrap64 (a.x - b.x)), .int .i64 (wrap64 (a.y - b.y))]) ∧ Ext w w' := by
  go_enter Tryz.func72, Tryz.ntmps72
  go_wp2_with fail
  refine bodyPost_ret (v := _) (by simp only [results, Tryz.results72]; go_simp) rfl ⟨rfl, exa (exa (exa (Ext.refl _)))⟩
theorem dot_any (a b : Pt) (w : World) : Calls Tryz.prog 146 #[.agg #[.int .i64 a.x, .int .i64 a.y], .agg #[.int .i64 b.x, .int .i64 b.y]] w
    fun e w' => e = .returned (.int .i64 (wrap64 (wrap64 (a.x * b.x) + wrap64 (a.y * b.y)))) ∧ Ext w w' := by
  go_enter Tryz.func146, Tryz.ntmps146
  go_wp2_with fail
  go_ret
  exact ⟨rfl, exa (exa (Ext.refl _))⟩
theorem cross_any (a b : Pt) (w : World) : Calls Tryz.prog 71 #[.agg #[.int .i64 a.x, .int .i64 a.y], .agg #[.int .i64 b.x, .int .i64 b.y]] w
    fun e w' => e = .returned (.int .i64 (wrap64 (wrap64 (a.x * b.y) - wrap64 (a.y * b.x)))) ∧ Ext w w' := by
  go_enter Tryz.func71, Tryz.ntmps71
  go_wp2_with fail
  go_ret
  exact ⟨rfl, exa (exa (Ext.refl _))⟩
end Go.Proofs.YtompfgofaplffaaGreatDoor

namespace Hach
open Go Go.RowKit
section
variable {P : Program}
structure SPr (E : World → World → Prop) where
  p : Value → World → Prop
  st : ∀ {v W W'}, p v W → E W W' → p v W'
variable {E : World → World → Prop}
def eqr (c : Value) : SPr E := ⟨fun v _ => v = c, fun h _ => h⟩
def anyr : SPr E := ⟨fun _ _ => True, fun _ _ => trivial⟩
def FofR (F : List (SPr E)) (k : Nat) (v : Value) (W : World) : Prop := (F.getD k anyr).p v W
def KnownR (F : List (SPr E)) (x : Nat → Value) (W : World) : List Nat → Prop
  | [] => True
  | k :: ks => (F.getD k anyr).p (x k) W ∧ KnownR F x W ks
theorem knownR_of {F : List (SPr E)} {x : Nat → Value} {W : World} : ∀ {ks : List Nat}, (∀ k ∈ ks, (F.getD k anyr).p (x k) W) → KnownR F x W ks
  | [], _ => trivial
  | k :: _, h => ⟨h k (List.mem_cons_self ..), knownR_of fun j hj => h j (List.mem_cons_of_mem _ hj)⟩
def OpsOkR (P : Program) (ds : List (Option Tmp)) (a : Act) (w : World) (F : List (SPr E)) (D : List (List Nat)) : Nat → List Oper → Prop
  | _, [] => True
  | i, o :: l => (∀ (x : Nat → Value) (W : World), E w W → KnownR F x W (D.getD i []) → OpGoal P ds o (fun v W' => E W W' ∧ (F.getD i anyr).p v W') (putD ds x (D.getD i []) a) W) ∧ OpsOkR P ds a w F D (i + 1) l
theorem OpsOkR.at_ {ds : List (Option Tmp)} {a : Act} {w : World} {F : List (SPr E)} {D : List (List Nat)} : ∀ {l : List Oper} {i : Nat}, OpsOkR P ds a w F D i l → ∀ (j : Nat) (o : Oper), l[j]? = some o → ∀ (x : Nat → Value) (W : World), E w W → KnownR F x W (D.getD (i + j) []) →
      OpGoal P ds o (fun v W' => E W W' ∧ (F.getD (i + j) anyr).p v W') (putD ds x (D.getD (i + j) []) a) W
  | [], _, _, j, o, h => by simp at h
  | o' :: l, i, hk, j, o, h => by
    cases j with
    | zero =>
      simp only [List.getElem?_cons_zero, Option.some.injEq] at h
      subst h
      exact hk.1
    | succ j =>
      have := OpsOkR.at_ hk.2 j o (by simpa using h)
      rw [show i + 1 + j = i + (j + 1) by omega] at this
      exact this
theorem wpAny_rel (refl : ∀ w, E w w) (trans : ∀ {u v w : World}, E u v → E v w → E u w) {l t : List Oper} {Q : Exit → Act → World → Prop} {a : Act} {w : World} (ds : List (Option Tmp)) (D : List (List Nat)) (X : List Nat) (F : List (SPr E))
    (hck : (monoOk (l ++ t).toArray a.tmps.size && depsOk (l ++ t).toArray D && ((l ++ t).map (·.dst) == ds) && tailOk (l ++ t).toArray l.length X) = true) (hops : OpsOkR P ds a w.drew F D 0 l)
    (hfin : ∀ (x : Nat → Value) (W : World), E w.drew W → KnownR F x W (List.range l.length) → wpList P (l ++ t).toArray Q t (putD ds x (List.range l.length) a) W) :
    wpAny P .any (l ++ t).toArray Q (l ++ t).toArray.size (Array.replicate (l ++ t).toArray.size false) a w.drew := by
  simp only [Bool.and_eq_true] at hck
  obtain ⟨⟨⟨hc1, hc2⟩, hc3⟩, hc4⟩ := hck
  have m := mono_of hc1
  refine wpAny_mono l.length X hc1 (by simp) hc4 E refl (@trans) (FofR F) (fun h hE => (F.getD _ anyr).st h hE) ?_ ?_
  · intro i o ho hi x W hE hp
    obtain ⟨hs, hlk⟩ := look_same m hc2 (Nat.le_refl _) x ho
    have hg := hops.at_ i o (by simpa [List.getElem?_append_left hi] using ho) x W hE (knownR_of fun k hk => by rw [Nat.zero_add] at hk; exact hp k (hs k hk))
    rw [Nat.zero_add] at hg
    have hg := hg.use hc3 (fun d hd => by rw [← putD_eq hc3, (putAll_size _ _ _ _).1]; exact (m.one i d (lt_of_some ho) (by simp only [dstOf, ho, Option.bind_some]; exact hd)).2)
    rw [← putD_eq hc3] at hg
    rw [← wanted_of_look hlk, ← exec_of_look (m.sel i o ho) hlk] at hg
    split
    · rename_i hw; rw [if_pos hw] at hg; exact hg
    · rename_i hw; rw [if_neg hw] at hg; exact hg.2
  · intro x W hE h
    have hf := hfin x W hE (knownR_of fun k hk => h k (List.mem_range.1 hk))
    rw [← putD_eq hc3] at hf
    have e : (l ++ t).toArray.size - l.length = t.length := by simp
    rw [e, wpOps_eq_wpList t l.length (fun j => by simp [List.getElem?_append_right])]
    exact hf
theorem wp_region_rel (refl : ∀ w, E w w) (trans : ∀ {u v w : World}, E u v → E v w → E u w) {l t : List Oper} {Q : Exit → Act → World → Prop} {id : Nat} {a : Act} {w : World} (ds : List (Option Tmp)) (D : List (List Nat)) (X : List Nat) (F : List (SPr E)) (hm : P.follows .mixedOrders = true)
    (hck : (monoOk (l ++ t).toArray a.tmps.size && depsOk (l ++ t).toArray D && ((l ++ t).map (·.dst) == ds) && tailOk (l ++ t).toArray l.length X) = true) (hops : OpsOkR P ds a w.drew F D 0 l)
    (hfin : ∀ (x : Nat → Value) (W : World), E w.drew W → KnownR F x W (List.range l.length) → wpList P (l ++ t).toArray Q t (putD ds x (List.range l.length) a) W) :
    (Code.region id (l ++ t).toArray true).wp P Q a w := wp_region_any hm (wpAny_rel refl trans ds D X F hck hops hfin)
end
end Hach

namespace Hach
open Go Go.RowKit
section
variable {P : Program}
/- what is known when the operations l have come -/
structure ComeL (ops : Array Oper) (a : Act) (E : World → World → Prop) (F : Nat → (Nat → Value) → Value → World → Prop) (w : World) (l : Array Bool) (a' : Act) (W : World) (x : Nat → Value) : Prop where
  ext : E w W
  lsz : l.size = ops.size
  dfs : a'.defers = a.defers
  asz : a'.tmps.size = a.tmps.size
  shut : ∀ k o, ops[k]? = some o → l.getD k true = true → ∀ p ∈ preds o, l.getD p true = true
  val : ∀ k, k < ops.size → l.getD k true = true → F k x (x k) W
  get : ∀ t, a'.tmps[t]? = match wr ops t with
    | some k => if l.getD k true then some (x k) else a.tmps[t]?
    | none => a.tmps[t]?

theorem ComeL.first {ops : Array Oper} {N : Nat} (m : Mono ops N) {a : Act} (hN : N ≤ a.tmps.size) {E : World → World → Prop} {F : Nat → (Nat → Value) → Value → World → Prop} {w : World} {l : Array Bool} {a' : Act} {W : World} {x : Nat → Value}
    (c : ComeL ops a E F w l a' W x) {i : Nat} (hi : i ≤ ops.size) (h : ∀ k, k < i → l.getD k true = true) (h2 : ∀ k, i ≤ k → k < ops.size → l.getD k true = false) : a' = putAll ops x (List.range i) a := by
  refine act_ext (c.asz.trans (putAll_size ops x _ a).1.symm) (c.dfs.trans (putAll_size ops x _ a).2.symm) fun t => ?_
  rw [c.get t, putAll_get m x t _ a hN (fun k hk => Nat.lt_of_lt_of_le (List.mem_range.1 hk) hi)]
  cases hw : wr ops t with
  | none => rfl
  | some k =>
    have hk := (wr_some hw).1
    by_cases e : k < i
    · simp [h k e, e]
    · simp [h2 k (by omega) hk, e]

theorem wpAny_link {ops : Array Oper} {Q : Exit → Act → World → Prop} {a : Act} {w : World} (M : Nat) (X : List Nat) (hck : monoOk ops a.tmps.size = true) (hM : M ≤ ops.size) (htl : tailOk ops M X = true)
    (E : World → World → Prop) (hr : ∀ w, E w w) (ht : ∀ {u v w}, E u v → E v w → E u w) (F : Nat → (Nat → Value) → Value → World → Prop) (hF : ∀ {i x v W W'}, F i x v W → E W W' → F i x v W') (hL : ∀ {i : Nat} {o : Oper} {x x' : Nat → Value} {v : Value} {W : World}, ops[i]? = some o → (∀ j ∈ preds o, x' j = x j) → F i x v W → F i x' v W)
    (hops : ∀ (i : Nat) (o : Oper), ops[i]? = some o → i < M → ∀ (x : Nat → Value) W, E w.drew W → (∀ k ∈ preds o, F k x (x k) W) →
      if Region.wanted o (yielded ops (putAll ops x (preds o) a).tmps) then Gives P (fun v W' => E W W' ∧ F i x v W') ((execOp (putAll ops x (preds o) a).eval o).run P W) else F i x undef W)
    (hfin : ∀ (x : Nat → Value) W, E w.drew W → (∀ k, k < M → F k x (x k) W) → wpOps P ops Q (List.range' M (ops.size - M)) (putAll ops x (List.range M) a) W) :
    wpAny P .any ops Q ops.size (Array.replicate ops.size false) a w.drew := by
  have m := mono_of hck
  refine wpAny_inv
    (fun l a' W => (∃ x, ComeL ops a E F w.drew l a' W x ∧ ∀ k, M ≤ k → k < ops.size → l.getD k true = false) ∨
      (l.size = ops.size ∧ ∃ i, M ≤ i ∧ i ≤ ops.size ∧ (∀ k, k < i → l.getD k true = true) ∧ (∀ k, i ≤ k → k < ops.size → l.getD k true = false) ∧ wpOps P ops Q (List.range' i (ops.size - i)) a' W))
    ?_ ?_ ?_ _ _ _ _ (Nat.le_trans (List.countP_le_length) (by simp)) ?_
  · rintro l a' W (⟨x, c, _⟩ | ⟨h, _⟩)
    · exact c.lsz
    · exact h
  · -- a tail operation, walked
    have htail : ∀ (l : Array Bool) (a' : Act) (W : World) (i : Nat), l.size = ops.size → M ≤ i → i < ops.size → (∀ k, k < i → l.getD k true = true) → (∀ k, i ≤ k → k < ops.size → l.getD k true = false) →
        wpOps P ops Q (List.range' i (ops.size - i)) a' W →
        wpOp P ops Q i (fun a'' W' => (∃ x, ComeL ops a E F w.drew (l.setIfInBounds i true) a'' W' x ∧ ∀ k, M ≤ k → k < ops.size → (l.setIfInBounds i true).getD k true = false) ∨
      ((l.setIfInBounds i true).size = ops.size ∧ ∃ i', M ≤ i' ∧ i' ≤ ops.size ∧ (∀ k, k < i' → (l.setIfInBounds i true).getD k true = true) ∧ (∀ k, i' ≤ k → k < ops.size → (l.setIfInBounds i true).getD k true = false) ∧ wpOps P ops Q (List.range' i' (ops.size - i')) a'' W')) a' W := by
      intro l a' W i hsz hMi hin h1 h2 hw
      rw [show ops.size - i = (ops.size - (i + 1)) + 1 by omega, List.range'_succ, wpOps_cons] at hw
      refine wpOp_mono (fun a'' W' h => .inr ⟨by simp [hsz], i + 1, by omega, by omega, fun k hk => ?_, fun k hk hk2 => ?_, h⟩) hw
      · by_cases e : i = k
        · subst e; simp [Array.getD_eq_getD_getElem?, hsz, hin]
        · rw [Array.getD_eq_getD_getElem?, Array.getElem?_setIfInBounds_ne e, ← Array.getD_eq_getD_getElem?]; exact h1 k (by omega)
      · rw [Array.getD_eq_getD_getElem?, Array.getElem?_setIfInBounds_ne (by omega), ← Array.getD_eq_getD_getElem?]; exact h2 k (by omega) hk2
    rintro l a' W i (⟨x, c, hno⟩ | ⟨hsz, i', hMi, hi', h1, h2, hw⟩) hi
    · obtain ⟨o, ho, hli, hp⟩ := ready_iff.1 hi
      have hin := lt_of_some ho
      have hpl : ∀ p ∈ preds o, p < ops.size := fun p hp' => Nat.lt_trans (m.lt i o ho p hp') hin
      have hpt : ∀ p ∈ preds o, l.getD p true = true := fun p hp' => by rw [getD_lt (by rw [c.lsz]; exact hpl p hp') true false]; exact hp p hp'
      by_cases hiM : i < M
      · have hlook : ∀ t ∈ o.looksAt ops, a'.tmps[t]? = (putAll ops x (preds o) a).tmps[t]? := fun t ht' => by
          rw [c.get t, putAll_get m x t _ a (Nat.le_refl _) hpl]
          cases hw : wr ops t with
          | none => rfl
          | some k =>
            rcases m.look i o ho t ht' k hw with h | h | ⟨ok, hok, h⟩
            · simp [h, hpt k h]
            · subst h
              have hni : ¬ k ∈ preds o := fun h => absurd (m.lt k o ho k h) (Nat.lt_irrefl _)
              simp [hni, hli]
            · have hkl : l.getD k true = false := by
                cases hc : l.getD k true with
                | false => rfl
                | true => have := c.shut k ok hok hc i h; rw [hli] at this; cases this
              have hnk : ¬ k ∈ preds o := fun h' => by have := hpt k h'; rw [hkl] at this; cases this
              simp [hnk, hkl]
        have hex := exec_of_look (m.sel i o ho) hlook
        have hwa := wanted_of_look hlook
        have hval : ∀ k ∈ preds o, F k x (x k) W := fun k hk => c.val k (hpl k hk) (hpt k hk)
        have hshut : ∀ (k : Nat) (o' : Oper), ops[k]? = some o' → (l.setIfInBounds i true).getD k true = true → ∀ p ∈ preds o', (l.setIfInBounds i true).getD p true = true := fun k o' ho' hk p hp' => by
          by_cases e : i = p
          · subst e; simp [Array.getD_eq_getD_getElem?, c.lsz, hin]
          · rw [Array.getD_eq_getD_getElem?, Array.getElem?_setIfInBounds_ne e, ← Array.getD_eq_getD_getElem?]
            by_cases e2 : i = k
            · subst e2; rw [ho] at ho'; cases ho'; exact hpt p hp'
            · rw [Array.getD_eq_getD_getElem?, Array.getElem?_setIfInBounds_ne e2, ← Array.getD_eq_getD_getElem?] at hk
              exact c.shut k o' ho' hk p hp'
        have hg := hops i o ho hiM x W c.ext hval
        have hnext : ∀ v W', E W W' → F i x v W' → ComeL ops a E F w.drew (l.setIfInBounds i true) (a'.put o.dst v) W' (fun k => if k = i then v else x k) := fun v W' hE hv => by
          have hdi : o.dst = dstOf ops i := by simp [dstOf, ho]
          refine ⟨ht c.ext hE, by simp [c.lsz], ?_, ?_, hshut, fun k hk hlk => ?_, fun t => ?_⟩
          · rw [← c.dfs]; cases o.dst <;> rfl
          · rw [← c.asz]; cases o.dst <;> simp [Act.put]
          · by_cases e : k = i
            · subst e
              simp only [if_true]
              exact hL ho (fun j hj => if_neg (fun e => by rw [e] at hj; exact absurd (m.lt k o ho k hj) (Nat.lt_irrefl _))) hv
            · simp only [e, if_false]
              rw [Array.getD_eq_getD_getElem?, Array.getElem?_setIfInBounds_ne (Ne.symm e), ← Array.getD_eq_getD_getElem?] at hlk
              obtain ⟨ok, hok⟩ : ∃ ok, ops[k]? = some ok := ⟨ops[k], Array.getElem?_eq_getElem hk⟩
              refine hL hok (fun j hj => if_neg (fun e => ?_)) (hF (c.val k hk hlk) hE)
              have := c.shut k ok hok hlk j hj
              rw [e, hli] at this; cases this
          · rw [hdi, put_get m (by rw [c.asz]; exact Nat.le_refl _) hin v t, c.get t]
            cases hw : wr ops t with
            | none => simp
            | some k =>
              by_cases e : k = i
              · subst e; simp [Array.getD_eq_getD_getElem?, c.lsz, hin]
              · simp only [Option.some.injEq, e, if_false]
                rw [Array.getD_eq_getD_getElem? (i := k) (xs := l.setIfInBounds i true), Array.getElem?_setIfInBounds_ne (Ne.symm e), ← Array.getD_eq_getD_getElem?]
        have hno' : ∀ k, M ≤ k → k < ops.size → (l.setIfInBounds i true).getD k true = false := fun k hk hk2 => by
          rw [Array.getD_eq_getD_getElem?, Array.getElem?_setIfInBounds_ne (by omega), ← Array.getD_eq_getD_getElem?]; exact hno k hk hk2
        unfold wpOp
        rw [ho]
        simp only []
        rw [hwa]
        split
        · rename_i hw
          rw [if_pos hw] at hg
          rw [← hex] at hg
          exact .inl (hg.upon fun v W' hv => .inl ⟨_, hnext v W' hv.1 hv.2, hno'⟩)
        · rename_i hw
          rw [if_neg hw] at hg
          exact .inl ⟨_, hnext undef W (hr W) hg, hno'⟩
      · -- the first of the tail
        have hall := tail_all htl c.shut ho (Nat.le_of_not_lt hiM) hpt
        have hiM2 : i = M := by
          by_cases e : i = M
          · exact e
          · have := hall M (by omega); rw [hno M (Nat.le_refl _) (by omega)] at this; cases this
        subst hiM2
        have ha := c.first m (Nat.le_refl _) hM hall hno
        have hf := hfin x W c.ext (fun k hk => c.val k (by omega) (hall k hk))
        rw [← ha] at hf
        exact htail l a' W i c.lsz (Nat.le_refl _) hin hall hno hf
    · obtain ⟨o, ho, hli, hp⟩ := ready_iff.1 hi
      have hin := lt_of_some ho
      have hge : i' ≤ i := by
        rcases Nat.lt_or_ge i i' with h | h
        · rw [h1 i h] at hli; cases hli
        · exact h
      have hii : i = i' := by
        by_cases e : i = i'
        · exact e
        · exfalso
          have h3 := List.all_eq_true.1 htl (i - 1) (List.mem_range.2 (by omega))
          rw [if_neg (by omega), show i - 1 + 1 = i by omega, ho] at h3
          have := hp (i - 1) (by simpa using h3)
          rw [getD_lt (by omega) false true, h2 (i - 1) (by omega) (by omega)] at this
          cases this
      subst hii
      exact htail l a' W i hsz hMi hin h1 h2 hw
  · rintro l a' W (⟨x, c, hno⟩ | ⟨hsz, i', hMi, hi', h1, h2, hw⟩) hn
    · have hall := all_of_none m c.lsz hn
      have hMe : M = ops.size := by
        by_cases e : M = ops.size
        · exact e
        · have := hno M (Nat.le_refl _) (by omega); rw [hall M (by omega)] at this; cases this
      have ha := c.first m (Nat.le_refl _) hM (fun k hk => hall k (by omega)) hno
      have hf := hfin x W c.ext (fun k hk => c.val k (by omega) (hall k (by omega)))
      rw [← ha, hMe, Nat.sub_self] at hf
      exact hf
    · have hall := all_of_none m hsz hn
      have hie : i' = ops.size := by
        by_cases e : i' = ops.size
        · exact e
        · have := h2 i' (Nat.le_refl _) (by omega); rw [hall i' (by omega)] at this; cases this
      subst hie
      rw [Nat.sub_self] at hw
      exact hw
  · refine .inl ⟨fun _ => undef, ⟨hr _, by simp, rfl, rfl, fun k o ho hk => ?_, fun k hk hlk => ?_, fun t => ?_⟩, fun k _ hk => ?_⟩
    · simp [Array.getD_eq_getD_getElem?, lt_of_some ho] at hk
    · simp [Array.getD_eq_getD_getElem?, hk] at hlk
    · cases hw : wr ops t with
      | none => rfl
      | some k => simp [Array.getD_eq_getD_getElem?, (wr_some hw).1]
    · simp [Array.getD_eq_getD_getElem?, hk]

structure SPl (E : World → World → Prop) where
  on : List Nat
  p : (Nat → Value) → Value → World → Prop
  st : ∀ {x v W W'}, p x v W → E W W' → p x v W'
  loc : ∀ {x x' v W}, (∀ j ∈ on, x' j = x j) → p x v W → p x' v W
variable {E : World → World → Prop}
def eql (c : Value) : SPl E := ⟨[], fun _ v _ => v = c, fun h _ => h, fun _ h => h⟩
def anyl : SPl E := ⟨[], fun _ _ _ => True, fun _ _ => trivial, fun _ h => h⟩
def SPr.l (s : SPr E) : SPl E := ⟨[], fun _ v W => s.p v W, fun h hE => s.st h hE, fun _ h => h⟩
def FofL (F : List (SPl E)) (k : Nat) (x : Nat → Value) (v : Value) (W : World) : Prop := (F.getD k anyl).p x v W
def linkOk (ops : Array Oper) (F : List (SPl E)) : Bool := (List.range F.length).all fun i => match ops[i]? with | some o => (F.getD i anyl).on.all fun j => decide (j ∈ preds o) | none => true
def KnownL (F : List (SPl E)) (x : Nat → Value) (W : World) : List Nat → Prop
  | [] => True
  | k :: ks => (F.getD k anyl).p x (x k) W ∧ KnownL F x W ks
theorem knownL_of {F : List (SPl E)} {x : Nat → Value} {W : World} : ∀ {ks : List Nat}, (∀ k ∈ ks, (F.getD k anyl).p x (x k) W) → KnownL F x W ks
  | [], _ => trivial
  | k :: _, h => ⟨h k (List.mem_cons_self ..), knownL_of fun j hj => h j (List.mem_cons_of_mem _ hj)⟩
def OpsOkL (P : Program) (ds : List (Option Tmp)) (a : Act) (w : World) (F : List (SPl E)) (D : List (List Nat)) : Nat → List Oper → Prop
  | _, [] => True
  | i, o :: l => (∀ (x : Nat → Value) (W : World), E w W → KnownL F x W (D.getD i []) → OpGoal P ds o (fun v W' => E W W' ∧ (F.getD i anyl).p x v W') (putD ds x (D.getD i []) a) W) ∧ OpsOkL P ds a w F D (i + 1) l
theorem OpsOkL.at_ {ds : List (Option Tmp)} {a : Act} {w : World} {F : List (SPl E)} {D : List (List Nat)} : ∀ {l : List Oper} {i : Nat}, OpsOkL P ds a w F D i l → ∀ (j : Nat) (o : Oper), l[j]? = some o → ∀ (x : Nat → Value) (W : World), E w W → KnownL F x W (D.getD (i + j) []) →
      OpGoal P ds o (fun v W' => E W W' ∧ (F.getD (i + j) anyl).p x v W') (putD ds x (D.getD (i + j) []) a) W
  | [], _, _, j, o, h => by simp at h
  | o' :: l, i, hk, j, o, h => by
    cases j with
    | zero =>
      simp only [List.getElem?_cons_zero, Option.some.injEq] at h
      subst h
      exact hk.1
    | succ j =>
      have := OpsOkL.at_ hk.2 j o (by simpa using h)
      rw [show i + 1 + j = i + (j + 1) by omega] at this
      exact this
theorem wpAny_rell (refl : ∀ w, E w w) (trans : ∀ {u v w : World}, E u v → E v w → E u w) {l t : List Oper} {Q : Exit → Act → World → Prop} {a : Act} {w : World} (ds : List (Option Tmp)) (D : List (List Nat)) (X : List Nat) (F : List (SPl E))
    (hck : (monoOk (l ++ t).toArray a.tmps.size && depsOk (l ++ t).toArray D && ((l ++ t).map (·.dst) == ds) && tailOk (l ++ t).toArray l.length X) = true) (hlk : linkOk (l ++ t).toArray F = true) (hops : OpsOkL P ds a w.drew F D 0 l)
    (hfin : ∀ (x : Nat → Value) (W : World), E w.drew W → KnownL F x W (List.range l.length) → wpList P (l ++ t).toArray Q t (putD ds x (List.range l.length) a) W) :
    wpAny P .any (l ++ t).toArray Q (l ++ t).toArray.size (Array.replicate (l ++ t).toArray.size false) a w.drew := by
  simp only [Bool.and_eq_true] at hck
  obtain ⟨⟨⟨hc1, hc2⟩, hc3⟩, hc4⟩ := hck
  have m := mono_of hc1
  refine wpAny_link l.length X hc1 (by simp) hc4 E refl (@trans) (FofL F) (fun h hE => (F.getD _ anyl).st h hE) (fun {i o x x' v W} ho hx h => ?_) ?_ ?_
  · by_cases hi : i < F.length
    · have h1 := List.all_eq_true.1 hlk i (List.mem_range.2 hi)
      rw [ho] at h1
      exact (F.getD i anyl).loc (fun j hj => hx j (of_decide_eq_true (List.all_eq_true.1 h1 j hj))) h
    · have e : F.getD i anyl = anyl := by rw [List.getD_eq_getElem?_getD, List.getElem?_eq_none (by omega)]; rfl
      show (F.getD i anyl).p x' v W
      rw [e]; trivial
  · intro i o ho hi x W hE hp
    obtain ⟨hs, hlk⟩ := look_same m hc2 (Nat.le_refl _) x ho
    have hg := hops.at_ i o (by simpa [List.getElem?_append_left hi] using ho) x W hE (knownL_of fun k hk => by rw [Nat.zero_add] at hk; exact hp k (hs k hk))
    rw [Nat.zero_add] at hg
    have hg := hg.use hc3 (fun d hd => by rw [← putD_eq hc3, (putAll_size _ _ _ _).1]; exact (m.one i d (lt_of_some ho) (by simp only [dstOf, ho, Option.bind_some]; exact hd)).2)
    rw [← putD_eq hc3] at hg
    rw [← wanted_of_look hlk, ← exec_of_look (m.sel i o ho) hlk] at hg
    split
    · rename_i hw; rw [if_pos hw] at hg; exact hg
    · rename_i hw; rw [if_neg hw] at hg; exact hg.2
  · intro x W hE h
    have hf := hfin x W hE (knownL_of fun k hk => h k (List.mem_range.1 hk))
    rw [← putD_eq hc3] at hf
    have e : (l ++ t).toArray.size - l.length = t.length := by simp
    rw [e, wpOps_eq_wpList t l.length (fun j => by simp [List.getElem?_append_right])]
    exact hf
theorem wp_region_link (refl : ∀ w, E w w) (trans : ∀ {u v w : World}, E u v → E v w → E u w) {l t : List Oper} {Q : Exit → Act → World → Prop} {id : Nat} {a : Act} {w : World} (ds : List (Option Tmp)) (D : List (List Nat)) (X : List Nat) (F : List (SPl E)) (hm : P.follows .mixedOrders = true)
    (hck : (monoOk (l ++ t).toArray a.tmps.size && depsOk (l ++ t).toArray D && ((l ++ t).map (·.dst) == ds) && tailOk (l ++ t).toArray l.length X) = true) (hlk : linkOk (l ++ t).toArray F = true) (hops : OpsOkL P ds a w.drew F D 0 l)
    (hfin : ∀ (x : Nat → Value) (W : World), E w.drew W → KnownL F x W (List.range l.length) → wpList P (l ++ t).toArray Q t (putD ds x (List.range l.length) a) W) :
    (Code.region id (l ++ t).toArray true).wp P Q a w := wp_region_any hm (wpAny_rell refl trans ds D X F hck hlk hops hfin)
end
end Hach
