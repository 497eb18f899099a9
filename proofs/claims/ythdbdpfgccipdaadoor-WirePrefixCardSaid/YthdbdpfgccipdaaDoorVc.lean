/- Contracts of a reader of the given program: lists. -/
import Derived.Test.YthdbdpfgccipdaaDoorVb
import Derived.Deep.LoopGhost
namespace Go.Proofs.YthdbdpfgccipdaaDoor
open Go.RowKit Hach Num

theorem infoI : (Tryd.prog.info? 3).map (fun i => (i.zero, i.size, i.bytes)) = some (some (.int .i64 0), 1, 8) := by kernel_rfl
def itv (x : Int) : Value := .int .i64 x
def txv (x : List UInt8) : Value := .string ⟨x.toArray⟩
theorem grown_own {w w1 w2 : World} {b : Nat} {v : Value} (h : w.grownBy w1 (some b)) (k : w1.grownBy w2 v.ownBlock) (hv : ∀ g, v.ownBlock = some g → w.heap.size ≤ g) : w.grownBy w2 (some b) :=
  ⟨k.os.trans h.os, k.tape.trans h.tape, k.output.trans h.output, Nat.le_trans h.size k.size, fun i hi hr => (k.block i (Nat.lt_of_lt_of_le hi h.size) (fun e => by have := hv i e.symm; omega)).trans (h.block i hi hr)⟩
theorem Rd.own {w w' : World} {b : Nat} {l : Option (List UInt8)} {r : Option Nat} (h : Rd w b l) (hg : w.grownBy w' r) (hb : some b ≠ r) : Rd w' b l := (hg.block b h.lt hb).trans h
theorem first_byte (c : UInt8) (r : List UInt8) (h : 0 < (⟨(c :: r).toArray⟩ : ByteArray).size) : (⟨(c :: r).toArray⟩ : ByteArray)[0] = c := rfl

def OwnI (w : World) (base : Nat) (v : Value) (xs : List Int) : Prop := w.ownsRow base 3 1 v xs.length (xs.map itv)
theorem OwnI.nil (w : World) (base : Nat) : OwnI w base (.slice none 0 0) [] := World.ownsRow_nil w base _ 1
theorem OwnI.keep {w w' : World} {base : Nat} {v : Value} {xs : List Int} {row : Option Nat} (h : OwnI w base v xs) (hg : w.grownBy w' row) (hne : v.ownBlock = none ∨ v.ownBlock ≠ row) : OwnI w' base v xs := World.ownsRow.kept h hg hne
theorem OwnI.ext {w w' : World} {base : Nat} {v : Value} {xs : List Int} (h : OwnI w base v xs) (hE : Ext w w') : OwnI w' base v xs := h.keep (grown_ext hE none) (by cases v.ownBlock <;> simp)
theorem OwnI.lt {w : World} {base : Nat} {v : Value} {xs : List Int} (h : OwnI w base v xs) : ∀ g, v.ownBlock = some g → base ≤ g ∧ g < w.heap.size := World.ownsRow.lt h
theorem OwnI.other {w w' : World} {base b : Nat} {v : Value} {xs : List Int} (h : OwnI w base v xs) (hg : w.grownBy w' (some b)) (hb : b < base) : OwnI w' base v xs :=
  h.keep hg (by
    cases hv : v.ownBlock with
    | none => exact .inl rfl
    | some g => right; have := (h.lt g hv).1; intro e; simp only [Option.some.injEq] at e; omega)
theorem app_I {ops : Array Oper} {rest : List Oper} {o : Oper} {a : Act} {w : World} {Q : Exit → Act → World → Prop} (hgd : o.guard = none) (s x : Tmp)
    (ho : o.op = .call { callee := .builtin .append, args := #[.tmp s, .tmp x], argTypes := #[22, 22] }) (base : Nat) (v : Value) (ss : List Int) (hs : a.eval (.tmp s) = v) (hown : OwnI w base v ss)
    (g : Nat) (t : Int) (hx : a.eval (.tmp x) = .slice (some ⟨g, 0, none⟩) 1 1) (hc : w.cell? ⟨g, 0, none⟩ = some (itv t)) (hl : ss.length < 4294967296) (hbase : base ≤ w.heap.size)
    (h : ∀ v' w', OwnI w' base v' (ss ++ [t]) → w.grownBy w' v.ownBlock → wpList Tryd.prog ops Q rest (a.put o.dst v') w') : wpList Tryd.prog ops Q (o :: rest) a w := by
  obtain ⟨i0, hi, hz0, hz1, hz2⟩ := info_parts infoI
  refine wpList_append_own w hgd _ _ _ ho base 3 i0 (.int .i64 0) 1 8 Tryd.underlying22 hi hz0 hz1 hz2 rfl (by decide) v ss.length (ss.map itv) hs hown ⟨g, 0, none⟩ 1 1 [itv t] hx rfl ?_ ?_ ?_ ?_ hbase ?_
  · intro j u hu
    match j, hu with
    | 0, hu => simp at hu; subst hu; simpa [Addr.add] using hc
    | j + 1, hu => simp at hu
  · intro u hu; simp at hu; subst hu; rfl
  · simp only [maxLen]; omega
  · omega
  · intro v' w' h2 h3 _
    refine h v' w' ?_ h3
    unfold OwnI
    simpa using h2
/- a list that was read -/
def ListI (e : Ending) (w' : World) (B b : Nat) (o : Option (List Int × List UInt8)) : Prop := (∃ v, e = .returned v ∧ OwnI w' B v ((o.map (·.1)).getD [])) ∧ Rd w' b (o.map (·.2))

theorem elems_I_bad (b : Nat) (l : Option (List UInt8)) (w : World) (hR : Rd w b l) (hbad : l = none ∨ l = some []) :
    Calls Tryd.prog 46 #[.pointer (some ⟨b, 0, none⟩), .func (Fn.func 22) #[.pointer (some ⟨b, 0, none⟩)] #[]] w fun e w' => ListI e w' w.heap.size b none ∧ w.grownBy w' (some b) := by
  rcases hbad with rfl | rfl
  · go_enter Tryd.func46, Tryd.ntmps46
    go_wp2_with fail
    refine (left_any b _ w hR).mono ?_
    rintro e w' ⟨rfl, rfl⟩
    go_wp2_with fail
    refine (fail_any b _ w' hR).mono ?_
    rintro e w2 ⟨rfl, hR2, hg2⟩
    go_wp2_with fail
    go_ret
    exact ⟨⟨⟨_, rfl, OwnI.nil _ _⟩, hR2⟩, hg2⟩
  · go_enter Tryd.func46, Tryd.ntmps46
    go_wp2_with fail
    refine (left_any b _ w hR).mono ?_
    rintro e w' ⟨rfl, rfl⟩
    go_wp2_with fail
    refine (fail_any b _ w' hR).mono ?_
    rintro e w2 ⟨rfl, hR2, hg2⟩
    go_wp2_with fail
    go_ret
    exact ⟨⟨⟨_, rfl, OwnI.nil _ _⟩, hR2⟩, hg2⟩

/- what the rounds of the loop hand on -/
def GoI (r : List UInt8) (out : List Int) (st : Option (List UInt8)) : Prop := match st with
  | none => rdElems rdInt (r.length + 1) r = none
  | some q => ∃ k, q.length < k ∧ rdElems rdInt (r.length + 1) r = (rdElems rdInt k q).map fun p => (out ++ p.1, p.2)

set_option maxHeartbeats 1000000 in
theorem elems_I_some (b : Nat) (c : UInt8) (r : List UInt8) (w : World) (hR : Rd w b (some (c :: r))) (hb : 4 ≤ b) (hT : Tabs w) (hl : r.length + 1 < 4294967281) :
    Calls Tryd.prog 46 #[.pointer (some ⟨b, 0, none⟩), .func (Fn.func 22) #[.pointer (some ⟨b, 0, none⟩)] #[]] w fun e w' => ListI e w' w.heap.size b (rdList rdInt (c :: r)) ∧ w.grownBy w' (some b) := by
  have hbw := hR.lt
  have c0 := hR.cell0
  have f0 := hR.free 0
  simp only [Option.getD_some] at c0
  have tz1 : (((r.length : Nat) : Int) + 1 == 0) = false := by rw [beq_eq_false_iff_ne]; omega
  have hsz : (⟨(c :: r).toArray⟩ : ByteArray).size = r.length + 1 := by show (c :: r).toArray.size = _; simp
  have hfb : ∀ h, (⟨(c :: r).toArray⟩ : ByteArray)[0]'h = c := fun _ => rfl
  by_cases hc : c = 91
  · have HF := Lib.hid (show rdList rdInt (c :: r) = rdElems rdInt (r.length + 1) r from by simp only [rdList, if_pos hc])
    have tc : ((c.toNat : Int) != 91) = false := by rw [hc]; rfl
    clear hc
    go_enter Tryd.func46, Tryd.ntmps46
    go_wp2_with fail
    refine (left_any b _ w hR).mono ?_
    rintro e w' ⟨rfl, rfl⟩
    go_wp2_with fail
    obtain ⟨w2, hw2⟩ : ∃ w2, w'.setCell ⟨b, 0, none⟩ (.string ((⟨(c :: r).toArray⟩ : ByteArray).extract 1 (r.length + 1))) = w2 := ⟨_, rfl⟩
    have hR2 : Rd w2 b (some r) := by
      rw [← hw2]
      have := heap_setCell_same w' b 0 _ _ (.string ((⟨(c :: r).toArray⟩ : ByteArray).extract 1 (r.length + 1))) hR
      rw [show r.length + 1 = (c :: r).length from rfl, ba_drop] at this
      rw [show r.length + 1 = (c :: r).length from rfl, ba_drop]
      exact this
    have hg2 : w'.grownBy w2 (some b) := by rw [← hw2]; exact grown_set w' b 0 _
    rw [hw2]
    clear hw2 c0 f0 tz1 tc hsz hfb
    go_loopg [5] r.length (fun g vl wr => ∃ (out : List Int) (st : Option (List UInt8)), g = (st.getD []).length ∧ OwnI wr w'.heap.size vl out ∧ Rd wr b st ∧ w'.grownBy wr (some b) ∧ out.length + g ≤ r.length ∧ GoI r out st)
    case atStart =>
      refine ⟨[], some r, rfl, OwnI.nil _ _, hR2, hg2, by simp, r.length + 1, by omega, ?_⟩
      cases rdElems rdInt (r.length + 1) r <;> simp
    case round =>
      obtain ⟨out, st, rfl, hO, hRr, hgr, hlen, hgo⟩ := hrel
      have HG := Lib.hid hgo
      clear hgo
      cases st with
      | none =>
        go_wp2_with fail
        refine (left_any b _ wr hRr).mono ?_
        rintro e w3 ⟨rfl, rfl⟩
        go_wp2_with fail
        refine (left_any b _ w3 hRr).mono ?_
        rintro e w4 ⟨rfl, rfl⟩
        go_wp2_with fail
        refine (fail_any b _ w4 hRr).mono ?_
        rintro e w5 ⟨rfl, hR5, hg5⟩
        go_wp2_with fail
        go_ret
        rw [HF.out, show rdElems rdInt (r.length + 1) r = none from HG.out]
        exact ⟨⟨⟨_, rfl, OwnI.nil _ _⟩, hR5⟩, hgr.trans hg5⟩
      | some q =>
        match q, hlen, hRr, HG with
        | [], hlen, hRr, HG =>
          go_wp2_with fail
          refine (left_any b _ wr hRr).mono ?_
          rintro e w3 ⟨rfl, rfl⟩
          go_wp2_with fail
          refine (left_any b _ w3 hRr).mono ?_
          rintro e w4 ⟨rfl, rfl⟩
          go_wp2_with fail
          refine (fail_any b _ w4 hRr).mono ?_
          rintro e w5 ⟨rfl, hR5, hg5⟩
          go_wp2_with fail
          go_ret
          have hno : rdElems rdInt (r.length + 1) r = none := by
            obtain ⟨k, hk, e⟩ := HG.out
            match k, hk with
            | k + 1, _ => rw [e]; rfl
          rw [HF.out, hno]
          exact ⟨⟨⟨_, rfl, OwnI.nil _ _⟩, hR5⟩, hgr.trans hg5⟩
        | d :: q, hlen, hRr, HG =>
          have d0 := hRr.cell0
          have df := hRr.free 0
          simp only [Option.getD_some, List.length_cons] at d0 hlen
          have tp : decide ((0 : Int) < (q.length : Int) + 1) = true := by rw [decide_eq_true_iff]; omega
          have tp2 : (((q.length : Nat) : Int) + 1 == 0) = false := by rw [beq_eq_false_iff_ne]; omega
          have hsz : (⟨(d :: q).toArray⟩ : ByteArray).size = q.length + 1 := by show (d :: q).toArray.size = _; simp
          have hfb : ∀ h, (⟨(d :: q).toArray⟩ : ByteArray)[0]'h = d := fun _ => rfl
          have hTr := hT.grown hgr hb
          by_cases hd : d = 93
          · have td : ((d.toNat : Int) != 93) = false := by rw [hd]; rfl
            have HD := Lib.hid hd
            clear hd
            go_wp2_with fail
            refine (left_any b _ wr hRr).mono ?_
            rintro e w3 ⟨rfl, rfl⟩
            go_wp2_with fail
            refine (left_any b _ w3 hRr).mono ?_
            rintro e w4 ⟨rfl, rfl⟩
            go_wp2_with fail
            go_ret
            have hF : rdElems rdInt (r.length + 1) r = some (out, q) := by
              obtain ⟨k, hk, e⟩ := HG.out
              match k, hk with
              | k + 1, _ => rw [e]; simp only [rdElems, if_pos HD.out, Option.map_some, List.append_nil]
            rw [HF.out, hF]
            refine ⟨⟨⟨u5, rfl, hO.other (grown_set w4 b 0 _) hbw⟩, ?_⟩, hgr.trans (grown_set w4 b 0 _)⟩
            have := heap_setCell_same w4 b 0 _ _ (.string ((⟨(d :: q).toArray⟩ : ByteArray).extract 1 (q.length + 1))) hRr
            rw [show q.length + 1 = (d :: q).length from rfl, ba_drop] at this
            rw [show q.length + 1 = (d :: q).length from rfl, ba_drop]
            exact this
          · have td : ((d.toNat : Int) != 93) = true := by
              rw [bne_iff_ne]
              intro e
              exact hd (UInt8.toNat_inj.1 (by simpa using Int.ofNat_inj.1 e))
            have HD := Lib.hid hd
            clear hd
            go_wp2_with fail
            refine (left_any b _ wr hRr).mono ?_
            rintro e w3 ⟨rfl, rfl⟩
            go_wp2_with fail
            have hca := int_any b (some (d :: q)) w3 hRr hb hTr (by simp only [Option.getD_some, List.length_cons]; omega)
            simp only [Option.bind_some] at hca
            cases hx : rdInt (d :: q) with
            | none =>
              rw [hx] at hca
              refine hca.mono ?_
              rintro e wa ⟨⟨rfl, hRa⟩, hga⟩
              have hOa := hO.other hga hbw
              have hza := (hgr.trans hga).size
              have hbase : ∀ o : Obj, w'.heap.size ≤ (wa.alloc o).heap.size := fun o => by rw [World.size_alloc]; omega
              go_wp2_with (at_builtin; refine app_I rfl 38 41 rfl w'.heap.size u5 out rfl (hOa.ext (Ext.alloc _ _)) wa.heap.size (0 : Int) rfl ((World.cell?_alloc_new _ _ _ _).trans rfl) (by omega) (hbase _) ?_; intro v' w'' hO' hg')
              have hown := fun g hg => (OwnI.lt hOa g hg).1
              go_roundg 0
              case measure => simp
              case rel =>
                refine ⟨out ++ [(0 : Int)], none, rfl, hO', (hRa.ext (Ext.alloc _ _)).own hg' (fun e => by have := hown b e.symm; omega), grown_own ((hgr.trans hga).trans (grown_ext (Ext.alloc _ _) _)) hg' hown, by simp; omega, ?_⟩
                obtain ⟨k, hk, e⟩ := HG.out
                match k, hk with
                | k + 1, hk =>
                  show rdElems rdInt (r.length + 1) r = none
                  rw [e]; simp only [rdElems, if_neg HD.out, hx, Option.map_none]
            | some y =>
              obtain ⟨x, q'⟩ := y
              rw [hx] at hca
              have hless : q'.length < q.length + 1 := twinInt.less hx
              have HX := Lib.hid hx
              clear hx
              refine hca.mono ?_
              rintro e wa ⟨⟨rfl, hRa⟩, hga⟩
              have hOa := hO.other hga hbw
              have hza := (hgr.trans hga).size
              have hbase : ∀ o : Obj, w'.heap.size ≤ (wa.alloc o).heap.size := fun o => by rw [World.size_alloc]; omega
              go_wp2_with (at_builtin; refine app_I rfl 38 41 rfl w'.heap.size u5 out rfl (hOa.ext (Ext.alloc _ _)) wa.heap.size x rfl ((World.cell?_alloc_new _ _ _ _).trans rfl) (by omega) (hbase _) ?_; intro v' w'' hO' hg')
              have hown := fun g hg => (OwnI.lt hOa g hg).1
              go_roundg q'.length
              case measure => simp; omega
              case rel =>
                refine ⟨out ++ [x], some q', rfl, hO', (hRa.ext (Ext.alloc _ _)).own hg' (fun e => by have := hown b e.symm; omega), grown_own ((hgr.trans hga).trans (grown_ext (Ext.alloc _ _) _)) hg' hown, by simp; omega, ?_⟩
                obtain ⟨k, hk, e⟩ := HG.out
                match k, hk with
                | k + 1, hk =>
                  simp only [List.length_cons] at hk
                  refine ⟨k, by omega, ?_⟩
                  rw [e]; simp only [rdElems, if_neg HD.out, HX.out]
                  cases rdElems rdInt k q' <;> simp
  · have tc : ((c.toNat : Int) != 91) = true := by
      rw [bne_iff_ne]
      intro e
      exact hc (UInt8.toNat_inj.1 (by simpa using Int.ofNat_inj.1 e))
    have HF := Lib.hid (show rdList rdInt (c :: r) = none from by simp only [rdList, if_neg hc])
    clear hc
    go_enter Tryd.func46, Tryd.ntmps46
    go_wp2_with fail
    refine (left_any b _ w hR).mono ?_
    rintro e w' ⟨rfl, rfl⟩
    go_wp2_with fail
    refine (fail_any b _ w' hR).mono ?_
    rintro e w2 ⟨rfl, hR2, hg2⟩
    go_wp2_with fail
    go_ret
    rw [HF.out]
    exact ⟨⟨⟨_, rfl, OwnI.nil _ _⟩, hR2⟩, hg2⟩

/- the method -/
theorem list_I (b : Nat) (l : Option (List UInt8)) (w : World) (hR : Rd w b l) (hb : 4 ≤ b) (hT : Tabs w) (hl : (l.getD []).length < 4294967281) :
    Calls Tryd.prog 27 #[.pointer (some ⟨b, 0, none⟩)] w fun e w' => ListI e w' w.heap.size b (l.bind (rdList rdInt)) ∧ w.grownBy w' (some b) := by
  have key : Calls Tryd.prog 46 #[.pointer (some ⟨b, 0, none⟩), .func (Fn.func 22) #[.pointer (some ⟨b, 0, none⟩)] #[]] w fun e w' => ListI e w' w.heap.size b (l.bind (rdList rdInt)) ∧ w.grownBy w' (some b) := by
    match l, hR, hl with
    | none, hR, _ => exact elems_I_bad b none w hR (.inl rfl)
    | some [], hR, _ => exact elems_I_bad b (some []) w hR (.inr rfl)
    | some (c :: r), hR, hl => exact elems_I_some b c r w hR hb hT hl
  go_enter Tryd.func27, Tryd.ntmps27
  go_wp2_with fail
  refine key.mono ?_
  rintro e w' ⟨⟨⟨v, rfl, hO⟩, hR'⟩, hg⟩
  go_wp2_with fail
  go_ret
  exact ⟨⟨⟨v, rfl, hO⟩, hR'⟩, hg⟩

def OwnT (w : World) (base : Nat) (v : Value) (xs : List (List UInt8)) : Prop := w.ownsRow base 9 1 v xs.length (xs.map txv)
theorem OwnT.nil (w : World) (base : Nat) : OwnT w base (.slice none 0 0) [] := World.ownsRow_nil w base _ 1
theorem OwnT.keep {w w' : World} {base : Nat} {v : Value} {xs : List (List UInt8)} {row : Option Nat} (h : OwnT w base v xs) (hg : w.grownBy w' row) (hne : v.ownBlock = none ∨ v.ownBlock ≠ row) : OwnT w' base v xs := World.ownsRow.kept h hg hne
theorem OwnT.ext {w w' : World} {base : Nat} {v : Value} {xs : List (List UInt8)} (h : OwnT w base v xs) (hE : Ext w w') : OwnT w' base v xs := h.keep (grown_ext hE none) (by cases v.ownBlock <;> simp)
theorem OwnT.lt {w : World} {base : Nat} {v : Value} {xs : List (List UInt8)} (h : OwnT w base v xs) : ∀ g, v.ownBlock = some g → base ≤ g ∧ g < w.heap.size := World.ownsRow.lt h
theorem OwnT.other {w w' : World} {base b : Nat} {v : Value} {xs : List (List UInt8)} (h : OwnT w base v xs) (hg : w.grownBy w' (some b)) (hb : b < base) : OwnT w' base v xs :=
  h.keep hg (by
    cases hv : v.ownBlock with
    | none => exact .inl rfl
    | some g => right; have := (h.lt g hv).1; intro e; simp only [Option.some.injEq] at e; omega)
theorem app_T {ops : Array Oper} {rest : List Oper} {o : Oper} {a : Act} {w : World} {Q : Exit → Act → World → Prop} (hgd : o.guard = none) (s x : Tmp)
    (ho : o.op = .call { callee := .builtin .append, args := #[.tmp s, .tmp x], argTypes := #[23, 23] }) (base : Nat) (v : Value) (ss : List (List UInt8)) (hs : a.eval (.tmp s) = v) (hown : OwnT w base v ss)
    (g : Nat) (t : (List UInt8)) (hx : a.eval (.tmp x) = .slice (some ⟨g, 0, none⟩) 1 1) (hc : w.cell? ⟨g, 0, none⟩ = some (txv t)) (hl : ss.length < 4294967296) (hbase : base ≤ w.heap.size)
    (h : ∀ v' w', OwnT w' base v' (ss ++ [t]) → w.grownBy w' v.ownBlock → wpList Tryd.prog ops Q rest (a.put o.dst v') w') : wpList Tryd.prog ops Q (o :: rest) a w := by
  obtain ⟨i0, hi, hz0, hz1, hz2⟩ := info_parts infoS
  refine wpList_append_own w hgd _ _ _ ho base 9 i0 (.string ⟨#[]⟩) 1 16 Tryd.underlying23 hi hz0 hz1 hz2 rfl (by decide) v ss.length (ss.map txv) hs hown ⟨g, 0, none⟩ 1 1 [txv t] hx rfl ?_ ?_ ?_ ?_ hbase ?_
  · intro j u hu
    match j, hu with
    | 0, hu => simp at hu; subst hu; simpa [Addr.add] using hc
    | j + 1, hu => simp at hu
  · intro u hu; simp at hu; subst hu; rfl
  · simp only [maxLen]; omega
  · omega
  · intro v' w' h2 h3 _
    refine h v' w' ?_ h3
    unfold OwnT
    simpa using h2
/- a list that was read -/
def ListT (e : Ending) (w' : World) (B b : Nat) (o : Option (List (List UInt8) × List UInt8)) : Prop := (∃ v, e = .returned v ∧ OwnT w' B v ((o.map (·.1)).getD [])) ∧ Rd w' b (o.map (·.2))

theorem elems_T_bad (b : Nat) (l : Option (List UInt8)) (w : World) (hR : Rd w b l) (hbad : l = none ∨ l = some []) :
    Calls Tryd.prog 48 #[.pointer (some ⟨b, 0, none⟩), .func (Fn.func 24) #[.pointer (some ⟨b, 0, none⟩)] #[]] w fun e w' => ListT e w' w.heap.size b none ∧ w.grownBy w' (some b) := by
  rcases hbad with rfl | rfl
  · go_enter Tryd.func48, Tryd.ntmps48
    go_wp2_with fail
    refine (left_any b _ w hR).mono ?_
    rintro e w' ⟨rfl, rfl⟩
    go_wp2_with fail
    refine (fail_any b _ w' hR).mono ?_
    rintro e w2 ⟨rfl, hR2, hg2⟩
    go_wp2_with fail
    go_ret
    exact ⟨⟨⟨_, rfl, OwnT.nil _ _⟩, hR2⟩, hg2⟩
  · go_enter Tryd.func48, Tryd.ntmps48
    go_wp2_with fail
    refine (left_any b _ w hR).mono ?_
    rintro e w' ⟨rfl, rfl⟩
    go_wp2_with fail
    refine (fail_any b _ w' hR).mono ?_
    rintro e w2 ⟨rfl, hR2, hg2⟩
    go_wp2_with fail
    go_ret
    exact ⟨⟨⟨_, rfl, OwnT.nil _ _⟩, hR2⟩, hg2⟩

/- what the rounds of the loop hand on -/
def GoT (r : List UInt8) (out : List (List UInt8)) (st : Option (List UInt8)) : Prop := match st with
  | none => rdElems rdText (r.length + 1) r = none
  | some q => ∃ k, q.length < k ∧ rdElems rdText (r.length + 1) r = (rdElems rdText k q).map fun p => (out ++ p.1, p.2)

set_option maxHeartbeats 1000000 in
theorem elems_T_some (b : Nat) (c : UInt8) (r : List UInt8) (w : World) (hR : Rd w b (some (c :: r))) (hb : 4 ≤ b) (hT : Tabs w) (hl : r.length + 1 < 4294967281) :
    Calls Tryd.prog 48 #[.pointer (some ⟨b, 0, none⟩), .func (Fn.func 24) #[.pointer (some ⟨b, 0, none⟩)] #[]] w fun e w' => ListT e w' w.heap.size b (rdList rdText (c :: r)) ∧ w.grownBy w' (some b) := by
  have hbw := hR.lt
  have c0 := hR.cell0
  have f0 := hR.free 0
  simp only [Option.getD_some] at c0
  have tz1 : (((r.length : Nat) : Int) + 1 == 0) = false := by rw [beq_eq_false_iff_ne]; omega
  have hsz : (⟨(c :: r).toArray⟩ : ByteArray).size = r.length + 1 := by show (c :: r).toArray.size = _; simp
  have hfb : ∀ h, (⟨(c :: r).toArray⟩ : ByteArray)[0]'h = c := fun _ => rfl
  by_cases hc : c = 91
  · have HF := Lib.hid (show rdList rdText (c :: r) = rdElems rdText (r.length + 1) r from by simp only [rdList, if_pos hc])
    have tc : ((c.toNat : Int) != 91) = false := by rw [hc]; rfl
    clear hc
    go_enter Tryd.func48, Tryd.ntmps48
    go_wp2_with fail
    refine (left_any b _ w hR).mono ?_
    rintro e w' ⟨rfl, rfl⟩
    go_wp2_with fail
    obtain ⟨w2, hw2⟩ : ∃ w2, w'.setCell ⟨b, 0, none⟩ (.string ((⟨(c :: r).toArray⟩ : ByteArray).extract 1 (r.length + 1))) = w2 := ⟨_, rfl⟩
    have hR2 : Rd w2 b (some r) := by
      rw [← hw2]
      have := heap_setCell_same w' b 0 _ _ (.string ((⟨(c :: r).toArray⟩ : ByteArray).extract 1 (r.length + 1))) hR
      rw [show r.length + 1 = (c :: r).length from rfl, ba_drop] at this
      rw [show r.length + 1 = (c :: r).length from rfl, ba_drop]
      exact this
    have hg2 : w'.grownBy w2 (some b) := by rw [← hw2]; exact grown_set w' b 0 _
    rw [hw2]
    clear hw2 c0 f0 tz1 tc hsz hfb
    go_loopg [5] r.length (fun g vl wr => ∃ (out : List (List UInt8)) (st : Option (List UInt8)), g = (st.getD []).length ∧ OwnT wr w'.heap.size vl out ∧ Rd wr b st ∧ w'.grownBy wr (some b) ∧ out.length + g ≤ r.length ∧ GoT r out st)
    case atStart =>
      refine ⟨[], some r, rfl, OwnT.nil _ _, hR2, hg2, by simp, r.length + 1, by omega, ?_⟩
      cases rdElems rdText (r.length + 1) r <;> simp
    case round =>
      obtain ⟨out, st, rfl, hO, hRr, hgr, hlen, hgo⟩ := hrel
      have HG := Lib.hid hgo
      clear hgo
      cases st with
      | none =>
        go_wp2_with fail
        refine (left_any b _ wr hRr).mono ?_
        rintro e w3 ⟨rfl, rfl⟩
        go_wp2_with fail
        refine (left_any b _ w3 hRr).mono ?_
        rintro e w4 ⟨rfl, rfl⟩
        go_wp2_with fail
        refine (fail_any b _ w4 hRr).mono ?_
        rintro e w5 ⟨rfl, hR5, hg5⟩
        go_wp2_with fail
        go_ret
        rw [HF.out, show rdElems rdText (r.length + 1) r = none from HG.out]
        exact ⟨⟨⟨_, rfl, OwnT.nil _ _⟩, hR5⟩, hgr.trans hg5⟩
      | some q =>
        match q, hlen, hRr, HG with
        | [], hlen, hRr, HG =>
          go_wp2_with fail
          refine (left_any b _ wr hRr).mono ?_
          rintro e w3 ⟨rfl, rfl⟩
          go_wp2_with fail
          refine (left_any b _ w3 hRr).mono ?_
          rintro e w4 ⟨rfl, rfl⟩
          go_wp2_with fail
          refine (fail_any b _ w4 hRr).mono ?_
          rintro e w5 ⟨rfl, hR5, hg5⟩
          go_wp2_with fail
          go_ret
          have hno : rdElems rdText (r.length + 1) r = none := by
            obtain ⟨k, hk, e⟩ := HG.out
            match k, hk with
            | k + 1, _ => rw [e]; rfl
          rw [HF.out, hno]
          exact ⟨⟨⟨_, rfl, OwnT.nil _ _⟩, hR5⟩, hgr.trans hg5⟩
        | d :: q, hlen, hRr, HG =>
          have d0 := hRr.cell0
          have df := hRr.free 0
          simp only [Option.getD_some, List.length_cons] at d0 hlen
          have tp : decide ((0 : Int) < (q.length : Int) + 1) = true := by rw [decide_eq_true_iff]; omega
          have tp2 : (((q.length : Nat) : Int) + 1 == 0) = false := by rw [beq_eq_false_iff_ne]; omega
          have hsz : (⟨(d :: q).toArray⟩ : ByteArray).size = q.length + 1 := by show (d :: q).toArray.size = _; simp
          have hfb : ∀ h, (⟨(d :: q).toArray⟩ : ByteArray)[0]'h = d := fun _ => rfl
          have hTr := hT.grown hgr hb
          by_cases hd : d = 93
          · have td : ((d.toNat : Int) != 93) = false := by rw [hd]; rfl
            have HD := Lib.hid hd
            clear hd
            go_wp2_with fail
            refine (left_any b _ wr hRr).mono ?_
            rintro e w3 ⟨rfl, rfl⟩
            go_wp2_with fail
            refine (left_any b _ w3 hRr).mono ?_
            rintro e w4 ⟨rfl, rfl⟩
            go_wp2_with fail
            go_ret
            have hF : rdElems rdText (r.length + 1) r = some (out, q) := by
              obtain ⟨k, hk, e⟩ := HG.out
              match k, hk with
              | k + 1, _ => rw [e]; simp only [rdElems, if_pos HD.out, Option.map_some, List.append_nil]
            rw [HF.out, hF]
            refine ⟨⟨⟨u5, rfl, hO.other (grown_set w4 b 0 _) hbw⟩, ?_⟩, hgr.trans (grown_set w4 b 0 _)⟩
            have := heap_setCell_same w4 b 0 _ _ (.string ((⟨(d :: q).toArray⟩ : ByteArray).extract 1 (q.length + 1))) hRr
            rw [show q.length + 1 = (d :: q).length from rfl, ba_drop] at this
            rw [show q.length + 1 = (d :: q).length from rfl, ba_drop]
            exact this
          · have td : ((d.toNat : Int) != 93) = true := by
              rw [bne_iff_ne]
              intro e
              exact hd (UInt8.toNat_inj.1 (by simpa using Int.ofNat_inj.1 e))
            have HD := Lib.hid hd
            clear hd
            go_wp2_with fail
            refine (left_any b _ wr hRr).mono ?_
            rintro e w3 ⟨rfl, rfl⟩
            go_wp2_with fail
            have hca := text_any b (some (d :: q)) w3 hRr hb hTr (by simp only [Option.getD_some, List.length_cons]; omega)
            simp only [Option.bind_some] at hca
            cases hx : rdText (d :: q) with
            | none =>
              rw [hx] at hca
              refine hca.mono ?_
              rintro e wa ⟨⟨rfl, hRa⟩, hga⟩
              have hOa := hO.other hga hbw
              have hza := (hgr.trans hga).size
              have hbase : ∀ o : Obj, w'.heap.size ≤ (wa.alloc o).heap.size := fun o => by rw [World.size_alloc]; omega
              go_wp2_with (at_builtin; refine app_T rfl 38 41 rfl w'.heap.size u5 out rfl (hOa.ext (Ext.alloc _ _)) wa.heap.size ([] : List UInt8) rfl ((World.cell?_alloc_new _ _ _ _).trans rfl) (by omega) (hbase _) ?_; intro v' w'' hO' hg')
              have hown := fun g hg => (OwnT.lt hOa g hg).1
              go_roundg 0
              case measure => simp
              case rel =>
                refine ⟨out ++ [([] : List UInt8)], none, rfl, hO', (hRa.ext (Ext.alloc _ _)).own hg' (fun e => by have := hown b e.symm; omega), grown_own ((hgr.trans hga).trans (grown_ext (Ext.alloc _ _) _)) hg' hown, by simp; omega, ?_⟩
                obtain ⟨k, hk, e⟩ := HG.out
                match k, hk with
                | k + 1, hk =>
                  show rdElems rdText (r.length + 1) r = none
                  rw [e]; simp only [rdElems, if_neg HD.out, hx, Option.map_none]
            | some y =>
              obtain ⟨x, q'⟩ := y
              rw [hx] at hca
              have hless : q'.length < q.length + 1 := twinText.less hx
              have HX := Lib.hid hx
              clear hx
              refine hca.mono ?_
              rintro e wa ⟨⟨rfl, hRa⟩, hga⟩
              have hOa := hO.other hga hbw
              have hza := (hgr.trans hga).size
              have hbase : ∀ o : Obj, w'.heap.size ≤ (wa.alloc o).heap.size := fun o => by rw [World.size_alloc]; omega
              go_wp2_with (at_builtin; refine app_T rfl 38 41 rfl w'.heap.size u5 out rfl (hOa.ext (Ext.alloc _ _)) wa.heap.size x rfl ((World.cell?_alloc_new _ _ _ _).trans rfl) (by omega) (hbase _) ?_; intro v' w'' hO' hg')
              have hown := fun g hg => (OwnT.lt hOa g hg).1
              go_roundg q'.length
              case measure => simp; omega
              case rel =>
                refine ⟨out ++ [x], some q', rfl, hO', (hRa.ext (Ext.alloc _ _)).own hg' (fun e => by have := hown b e.symm; omega), grown_own ((hgr.trans hga).trans (grown_ext (Ext.alloc _ _) _)) hg' hown, by simp; omega, ?_⟩
                obtain ⟨k, hk, e⟩ := HG.out
                match k, hk with
                | k + 1, hk =>
                  simp only [List.length_cons] at hk
                  refine ⟨k, by omega, ?_⟩
                  rw [e]; simp only [rdElems, if_neg HD.out, HX.out]
                  cases rdElems rdText k q' <;> simp
  · have tc : ((c.toNat : Int) != 91) = true := by
      rw [bne_iff_ne]
      intro e
      exact hc (UInt8.toNat_inj.1 (by simpa using Int.ofNat_inj.1 e))
    have HF := Lib.hid (show rdList rdText (c :: r) = none from by simp only [rdList, if_neg hc])
    clear hc
    go_enter Tryd.func48, Tryd.ntmps48
    go_wp2_with fail
    refine (left_any b _ w hR).mono ?_
    rintro e w' ⟨rfl, rfl⟩
    go_wp2_with fail
    refine (fail_any b _ w' hR).mono ?_
    rintro e w2 ⟨rfl, hR2, hg2⟩
    go_wp2_with fail
    go_ret
    rw [HF.out]
    exact ⟨⟨⟨_, rfl, OwnT.nil _ _⟩, hR2⟩, hg2⟩

/- the method -/
theorem list_T (b : Nat) (l : Option (List UInt8)) (w : World) (hR : Rd w b l) (hb : 4 ≤ b) (hT : Tabs w) (hl : (l.getD []).length < 4294967281) :
    Calls Tryd.prog 30 #[.pointer (some ⟨b, 0, none⟩)] w fun e w' => ListT e w' w.heap.size b (l.bind (rdList rdText)) ∧ w.grownBy w' (some b) := by
  have key : Calls Tryd.prog 48 #[.pointer (some ⟨b, 0, none⟩), .func (Fn.func 24) #[.pointer (some ⟨b, 0, none⟩)] #[]] w fun e w' => ListT e w' w.heap.size b (l.bind (rdList rdText)) ∧ w.grownBy w' (some b) := by
    match l, hR, hl with
    | none, hR, _ => exact elems_T_bad b none w hR (.inl rfl)
    | some [], hR, _ => exact elems_T_bad b (some []) w hR (.inr rfl)
    | some (c :: r), hR, hl => exact elems_T_some b c r w hR hb hT hl
  go_enter Tryd.func30, Tryd.ntmps30
  go_wp2_with fail
  refine key.mono ?_
  rintro e w' ⟨⟨⟨v, rfl, hO⟩, hR'⟩, hg⟩
  go_wp2_with fail
  go_ret
  exact ⟨⟨⟨v, rfl, hO⟩, hR'⟩, hg⟩

theorem new_any (s : ByteArray) (w : World) :
    Calls Tryd.prog 20 #[.string s] w fun e w' => e = .returned (.pointer (some ⟨w.heap.size, 0, none⟩)) ∧ Rd w' w.heap.size (some s.data.toList) ∧ Ext w w' := by
  go_enter Tryd.func20, Tryd.ntmps20
  go_wp2_with fail
  go_ret
  exact ⟨rfl, heap_alloc_new _ _, Ext.alloc _ _⟩
end Go.Proofs.YthdbdpfgccipdaaDoor
