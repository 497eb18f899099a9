/- What the reader's piece calls: slices.Index over strings, Trim, Atoi, wrap; what an expression's end looks like. -/
import Derived.Test.YtmiencglfhpmeaaGreatDoorKQXm
open List renaming all_cons → zA, dropWhile_cons → zB, getD_cons_zero → zC, length_cons → zD
open Nat renaming le_refl → zE
open Option renaming some.injEq → zF
open Array renaming getElem?_eq_some_iff → zG
open Bool renaming and_eq_true → zH
open Go.Lib renaming atoiAll → zI, atoiAll_minus → zJ, atoiAll_plain → zK, hid → zL, parseMag → zM, parseUint10 → zN, signed → zO, signless → zP, trimB → zQ
set_option linter.unusedSimpArgs false
set_option linter.unusedVariables false
namespace Go.Proofs.YtmiencglfhpmeaaGreatDoor
open Go.RowKit Hach
def ixI (ss:List Tok) (t:Tok):Int:=match ix ss t with
 | some k=>(k:Int)
 | none => -1
theorem ix_some :∀ {ss:List Tok}{t:Tok}{k:Nat},k<ss.length→ss.getD k []=t→(∀j,j<k→ss.getD j []≠t)→ix ss t=some k
 | [],t,k,h,_,_=>absurd h (by simp)
 | x::ss,t,0,_,he,_=>by
  have:x=t:=by simpa using he
  rw[ix,if_pos this]
 | x::ss,t,k+1,hk,he,hn=>by
  have hx:x≠t:=by simpa using hn 0 (by omega)
  rw[ix,if_neg hx,ix_some (k:=k) (by simpa using hk) (by simpa using he) (fun j hj=>by simpa using hn (j+1) (by omega))]
  rfl
theorem ix_none :∀ {ss:List Tok}{t:Tok},(∀j,j<ss.length→ss.getD j []≠t)→ix ss t=none
 | [],t,_=>rfl
 | x::ss,t,hn=>by
  have hx:x≠t:=by simpa using hn 0 (by simp)
  rw[ix,if_neg hx,ix_none (fun j hj=>by simpa using hn (j+1) (by simpa using hj))]
  rfl
set_option maxHeartbeats 1000000 in
theorem index_any (ss:List Tok) (t:Tok) (g:Nat) (w:World) (hR:RowS w g ss) (hl:ss.length<4294967296) :
  Calls Tryz.prog 164 #[.slice (some ⟨g,0,none⟩) ss.length ss.length,bs t] w fun e w'=>e=.returned (.int .i64 (ixI ss t))∧w'=w:=by
 unfold bs
 obtain⟨D,hD⟩ :∃D:ByteArray,⟨t.toArray⟩=D:=⟨_,rfl⟩
 have HD:=zL hD
 rw[hD]
 clear hD
 go_enter Tryz.func164,Tryz.ntmps164
 go_wp2_with fail
 go_loop [8] (fun kv =>∃k:Nat,k≤ss.length∧kv=.int .i64 k∧Hid (∀j,j<k→ss.getD j []≠t)) (fun kv=>ss.length-(intOf kv).toNat)
 case atStart=>exact⟨0,Nat.zero_le _,rfl,zL (fun j hj=>absurd hj (by omega))⟩
 case round=>
  obtain⟨k,hk,rfl,HA⟩:=hrel
  by_cases hlt:k<ss.length
  ·have hc:=hR.2 k hlt
   have tk:decide (k<ss.length)=true:=by simp;omega
   obtain⟨u,hu⟩ :∃u,ss.getD k []=u:=⟨_,rfl⟩
   rw[hu]at hc
   have HU:=zL hu
   obtain⟨E,hE⟩ :∃E:ByteArray,⟨u.toArray⟩=E:=⟨_,rfl⟩
   have hq1:=bs_eq t u D E HD.out hE
   have hq2:=bs_eq u t E D hE HD.out
   rw[hE]at hc
   clear hu hE
   by_cases htu:t=u
   ·have HX:=zL (show ixI ss t=k by unfold ixI;rw[ix_some hlt (HU.out.trans htu.symm) HA.out])
    rw[decide_eq_true htu]at hq1
    rw[decide_eq_true htu.symm]at hq2
    clear htu
    go_wp2_with fail
    go_ret
    exact⟨by rw[HX.out];rfl,rfl⟩
   ·have HN:Hid (∀j,j<k+1→ss.getD j []≠t):=zL (fun j hj=>by
     by_cases hjk:j=k
     ·subst hjk;rw[HU.out];exact fun e=>htu e.symm
     ·exact HA.out j (by omega))
    rw[decide_eq_false htu]at hq1
    rw[decide_eq_false (fun e=>htu e.symm)]at hq2
    clear htu
    go_wp2_with fail
    go_round
    case rel=>exact⟨k+1,by omega,by go_num,HN⟩
    case measure=>simp[intOf];omega
  ·have HX:=zL (show ixI ss t = -1 by unfold ixI;rw[ix_none (fun j hj=>HA.out j (by omega))])
   have tk:decide (k<ss.length)=false:=by simp;omega
   go_wp2_with fail
   go_ret
   exact⟨by rw[HX.out];rfl,rfl⟩
theorem drop_head {p:UInt8→Bool}{l:List UInt8}(h :∀c,l.head?=some c→p c=false):l.dropWhile p=l:=by
 cases l with
 | nil=>rfl
 | cons c l=>rw[zB,if_neg (by rw[h c rfl];simp)]
theorem trim_q {q:List UInt8}(h:q.all notQ=true):zQ (34::(q++[34])) 34=q:=by
 have hq :∀c∈q,(c == (34:UInt8))=false:=fun c hc=>by
  have:=List.all_eq_true.1 h c hc
  unfold notQ at this
  rw[beq_eq_false_iff_ne]
  rintro rfl
  simp at this
 unfold zQ Lib.trimRightB Lib.trimLeftB
 have e:(34::(q++[34]):List UInt8).reverse=34::(q.reverse++[34]):=by simp
 rw[e,zB,if_pos (by rfl)]
 cases hqe:q with
 | nil=>rfl
 | cons c q'=>
  have hd:(q.reverse++[34]).dropWhile (· == (34:UInt8))=q.reverse++[34]:=by
   refine drop_head fun c hc=>?_
   cases hr:q.reverse with
   | nil=>rw[List.reverse_eq_nil_iff]at hr;rw[hr]at hqe;cases hqe
   | cons x y=>
    rw[hr]at hc
    simp only[List.cons_append,List.head?_cons,zF]at hc
    subst hc
    exact hq x (by rw[←List.mem_reverse,hr];simp)
  rw[←hqe,hd]
  have:(q.reverse++[34]).reverse=34::q:=by simp
  rw[this,zB,if_pos (by rfl)]
  exact drop_head fun c hc=>hq c (List.mem_of_mem_head? hc)
def dv (acc:Nat) (l:List UInt8):Nat:=l.foldl (fun n c=>10*n+(c.toNat-48)) acc
theorem dv_le :∀(l:List UInt8) (acc:Nat),acc≤dv acc l
 | [],acc=>zE _
 | c::l,acc=>by
  have:=dv_le l (10*acc+(c.toNat-48))
  show acc≤dv (10*acc+(c.toNat-48)) l
  omega
theorem dv_lt :∀(l:List UInt8) (acc:Nat),l.all isDig=true→dv acc l<(acc+1)*10^l.length
 | [],acc,_=>by simp[dv]
 | c::l,acc,h=>by
  rw[zA,zH]at h
  have h1:=dv_lt l (10*acc+(c.toNat-48)) h.2
  have h2:=h.1
  unfold isDig at h2
  simp only[zH,decide_eq_true_eq]at h2
  show dv (10*acc+(c.toNat-48)) l<_
  rw[zD,Nat.pow_succ]
  have h3:(10*acc+(c.toNat-48)+1)*10^l.length≤(acc+1)*(10^l.length*10):=by
   rw[Nat.mul_comm (10^l.length) 10,←Nat.mul_assoc]
   exact Nat.mul_le_mul_right _ (by omega)
  omega
theorem parse_dv :∀(l:List UInt8) (acc:Nat),l.all isDig=true→dv acc l<18446744073709551616→zN acc l=.ok (dv acc l)
 | [],acc,_,_=>rfl
 | c::l,acc,h,hb=>by
  rw[zA,zH]at h
  have h2:=h.1
  unfold isDig at h2
  simp only[zH,decide_eq_true_eq]at h2
  have hb':dv (10*acc+(c.toNat-48)) l<18446744073709551616:=hb
  have hle:=dv_le l (10*acc+(c.toNat-48))
  rw[zN,if_pos h2,if_neg (by omega),if_neg (by omega),show acc*10+(c.toNat-48)=10*acc+(c.toNat-48) by omega,parse_dv l _ h.2 hb']
  rfl
theorem dval_lt {l:List UInt8}(h:l.all isDig=true) (hl:l.length≤10):dval l≤9999999999:=by
 have h1:dval l<(0+1)*10^l.length:=dv_lt l 0 h
 have h2:10^l.length≤10^10:=Nat.pow_le_pow_right (by omega) hl
 omega
theorem mag_dval {c:UInt8}{l:List UInt8}(h:(c::l).all isDig=true) (hl:l.length≤9):zM (c::l)=.ok (dval (c::l)):=by
 have h1:=dval_lt h (by simpa using hl)
 unfold zM
 rw[if_neg (by simp)]
 exact parse_dv (c::l) 0 h (by show dval (c::l)<_;omega)
theorem atoi_num {c:UInt8}{l:List UInt8}(h:(c::l).all isDig=true) (hl:l.length≤9):zI (c::l)=.ok ((dval (c::l):Nat):Int):=by
 have h1:=dval_lt h (by simpa using hl)
 have h2:isDig c=true:=by rw[zA,zH]at h;exact h.1
 unfold isDig at h2
 simp only[zH,decide_eq_true_eq]at h2
 rw[zK c l (by omega) (by omega),mag_dval h hl]
 simp only[zP]
 rw[if_neg (by omega)]
theorem atoi_neg {c:UInt8}{l:List UInt8}(h:(c::l).all isDig=true) (hl:l.length≤9):zI (45::c::l)=.ok (-((dval (c::l):Nat):Int)):=by
 have h1:=dval_lt h (by simpa using hl)
 rw[zJ,mag_dval h hl]
 simp only[zO]
 rw[if_neg (by omega)]
def NoNum (l:List UInt8):Prop:=(∀v,zI l≠.ok v)∧zI l≠.range
theorem no_first {c:UInt8}{l:List UInt8}(h43:c.toNat≠43) (h45:c.toNat≠45) (hd :¬(48≤c.toNat∧c.toNat≤57)):NoNum (c::l):=by
 have h1:zI (c::l)=zP (zM (c::l)):=zK c l h43 h45
 have h2:zM (c::l)=zN 0 (c::l):=by unfold zM;rw[if_neg (by simp)]
 unfold NoNum
 rw[h1,h2,zN,if_neg hd]
 exact⟨fun v h=>by simp[zP]at h,fun h=>by simp[zP]at h⟩
theorem no_word {c:UInt8}{l:List UInt8}(h:isLet c=true):NoNum (c::l):=by
 unfold isLet at h
 simp only[zH,decide_eq_true_eq]at h
 exact no_first (by omega) (by omega) (by omega)
theorem no_sign {c:UInt8}(h:isSg c=true∨c.toNat=45):NoNum [c]:=by
 by_cases h43:c.toNat=43
 ·obtain rfl:c=43:=u8_eq (n:=43) h43 (by decide)
  unfold NoNum
  rw[Lib.atoiAll_plus]
  exact⟨fun v h=>by simp[zM,zP]at h,fun h=>by simp[zM,zP]at h⟩
 ·by_cases h45:c.toNat=45
  ·obtain rfl:c=45:=u8_eq (n:=45) h45 (by decide)
   unfold NoNum
   rw[zJ]
   exact⟨fun v h=>by simp[zM,zO]at h,fun h=>by simp[zM,zO]at h⟩
  ·have h1:=h.resolve_right h45
   unfold isSg at h1
   simp only[decide_eq_true_eq]at h1
   exact no_first h43 h45 (by omega)
theorem atoi_ok {t:Tok}{v:Int}(h:zI t=.ok v) (ht:t.length≤4096) (w:World):Calls Tryz.prog 111 #[bs t] w fun e w'=>e=.returned (.tuple #[.int .i64 v,.nilIface])∧Ext w w':=by
 have hsz:=toArr_size t
 refine(Tryz.strconv_Atoi_ok ⟨t.toArray⟩ (by rw[hsz];omega) v h w).mono ?_
 rintro e w' ⟨rfl,hw⟩
 refine⟨rfl,?_⟩
 rcases hw with rfl|⟨u,rfl⟩
 ·exact Ext.refl _
 ·exact Joins.below_bytesWorld _ w _ u (zE _)
theorem atoi_no {t:Tok}(hn:NoNum t) (ht:t.length≤4096) (w:World) (htab:Tabs w):Calls Tryz.prog 111 #[bs t] w fun e w' =>∃v te pe,e=.returned (.tuple #[.int .i64 v,.iface te pe])∧Ext w w':=by
 have hsz:=toArr_size t
 obtain⟨_,_,⟨e2,c2,k2⟩,_⟩:=htab
 cases h:zI t
 ·exact absurd h (hn.1 _)
 ·refine(show Calls Tryz.prog 111 #[.string ⟨t.toArray⟩] w _ from Any.strconv_Atoi_syntax Tryz.laysC172 ⟨t.toArray⟩ (by rw[hsz];omega) h e2 w c2 k2).mono ?_
  rintro e w' ⟨N,rfl,_,_,hb⟩
  exact⟨_,_,_,rfl,hb⟩
 ·exact absurd h hn.2
end Go.Proofs.YtmiencglfhpmeaaGreatDoor
namespace Go.Proofs.YtmiencglfhpmeaaGreatDoor
open Go.RowKit Hach
def ExpR (w:World) (x:Ex) (e:Ending) (w':World):Prop :=∃A c d,e=.returned (.agg (x.cells A c).toArray)∧ExL w' (fun k=>w.heap.size≤k∧k<w'.heap.size) d A x.l
def ReadP (b:Nat) (w:World) (bad:Bool) (res:Option (Ex×List Tok)) (e:Ending) (w':World):Prop:=
 w.grownBy w' (some b)∧match res with
  | none=>e=.panicked wrong
  | some p=>ExpR w p.1 e w'∧RS w' b p.2 bad
theorem ReadP.no {b:Nat}{w w':World}{bad:Bool}{res:Option (Ex×List Tok)}{e:Ending}(h:res=none) (hg:w.grownBy w' (some b)) (he:e=.panicked wrong):ReadP b w bad res e w':=by
 refine⟨hg,?_⟩;rw[h];exact he
theorem ReadP.ok {b:Nat}{w w':World}{bad:Bool}{res:Option (Ex×List Tok)}{e:Ending}{x:Ex}{r:List Tok}(h:res=some (x,r)) (hg:w.grownBy w' (some b)) (he:ExpR w x e w') (hr:RS w' b r bad):ReadP b w bad res e w':=by
 refine⟨hg,?_⟩;rw[h];exact⟨he,hr⟩
def PieceC (n:Nat):Prop :=∀(b:Nat) (ts:List Tok) (bad:Bool) (w:World),RS w b ts bad→Tabs w→4≤b→2*ts.length+1≤n→Calls Tryz.prog 163 #[rp b] w (ReadP b w bad (pieceF n bad ts))
def WholeC (n:Nat):Prop :=∀(b:Nat) (ts:List Tok) (bad:Bool) (w:World),RS w b ts bad→Tabs w→4≤b→2*ts.length+2≤n→Calls Tryz.prog 138 #[rp b] w (ReadP b w bad (wholeF n bad ts))
theorem Tabs.own {w w':World}{b:Nat}(h:Tabs w) (hg:w.grownBy w' (some b)) (hb:4≤b):Tabs w':=
 h.keep hg.size fun k hk=>hg.block k (by have:=h.sz;omega) (by simp;omega)
theorem grown_new {w wr wf:World}{b blk:Nat}(hg:w.grownBy wr (some b)) (hblk:w.heap.size≤blk) (h:wr.grownBy wf (some blk)):w.grownBy wf (some b):=
 ⟨h.os.trans hg.os,h.tape.trans hg.tape,h.output.trans hg.output,Nat.le_trans hg.size h.size,fun k hk hne=>(h.block k (Nat.lt_of_lt_of_le hk hg.size) (by simp;omega)).trans (hg.block k hk hne)⟩
def Zero7 (w:World) (blk:Nat):Prop:=w.heap[blk]?=some (.cells zero7 47 (0,0))
theorem Zero7.own {w w':World}{blk:Nat}{r:Option Nat}(h:Zero7 w blk) (hg:w.grownBy w' r) (hb:some blk≠r):Zero7 w' blk:=(hg.block blk (zG.1 h).1 hb).trans h
theorem Zero7.new (w:World):Zero7 (w.alloc (.cells zero7 47)) w.heap.size:=Go.heap_alloc_new _ _
theorem Zero7.cells {w:World}{blk:Nat}(h:Zero7 w blk):w.cell? ⟨blk,0,none⟩=some (.int .i64 0)∧w.cell? ⟨blk,1,none⟩=some (.int .i64 0)∧w.cell? ⟨blk,2,none⟩=some (.int .i64 0)∧w.cell? ⟨blk,3,none⟩=some (.int .i64 0)∧w.cell? ⟨blk,4,none⟩=some (.bool false)∧w.cell? ⟨blk,5,none⟩=some (.string ⟨#[]⟩)∧w.cell? ⟨blk,6,none⟩=some (.slice none 0 0):=by
 have h':w.heap[blk]?=_:=h
 refine⟨?_,?_,?_,?_,?_,?_,?_⟩<;>simp[World.cell?,h',zero7]
theorem Zero7.free {w:World}{blk:Nat}(h:Zero7 w blk):w.frozen? ⟨blk,0,none⟩=false∧w.frozen? ⟨blk,1,none⟩=false∧w.frozen? ⟨blk,2,none⟩=false∧w.frozen? ⟨blk,3,none⟩=false∧w.frozen? ⟨blk,4,none⟩=false∧w.frozen? ⟨blk,5,none⟩=false∧w.frozen? ⟨blk,6,none⟩=false:=by
 have h':w.heap[blk]?=_:=h
 refine⟨?_,?_,?_,?_,?_,?_,?_⟩<;>simp[World.frozen?,h']
theorem InBlk.free7 {w:World}{b:Nat}{x:Ex}{v:Value}(h:InBlk w b x v):w.frozen? ⟨b,0,none⟩=false∧w.frozen? ⟨b,1,none⟩=false∧w.frozen? ⟨b,2,none⟩=false∧w.frozen? ⟨b,3,none⟩=false∧w.frozen? ⟨b,4,none⟩=false∧w.frozen? ⟨b,5,none⟩=false∧w.frozen? ⟨b,6,none⟩=false:=⟨h.free 0,h.free 1,h.free 2,h.free 3,h.free 4,h.free 5,h.free 6⟩
theorem fin_exp {fn:Func}{t:Tmp}(hr:fn.results=#[.cell t 47]) {b blk:Nat}{w wr:World}{bad:Bool}{res:Option (Ex×List Tok)}(x:Ex) (r:List Tok) (hres:res=some (x,r)) (hz:Zero7 wr blk) (hblk:w.heap.size≤blk) (hb:b<w.heap.size) (hg:w.grownBy wr (some b)) (hrs:RS wr b r bad)
  (A:Option Addr) (n c d:Nat) (hn:n=x.l.length) (hk:ExL wr (fun k=>w.heap.size≤k∧k<wr.heap.size∧k≠blk) d A x.l) {tmps:Array Value}(ht:tmps.getD t undef=.pointer (some ⟨blk,0,none⟩)) :
  bodyPost Tryz.prog fn (ReadP b w bad res) Exit.ret ⟨tmps,[]⟩ (set7 wr blk x (.slice A n c)):=by
 have hG:=set7_grown wr blk x (.slice A n c)
 have hS:=set7_size wr blk x (.slice A n c)
 refine bodyPost_ret (results_blk hr (set7_in hz x _) tmps ht) rfl (ReadP.ok hres (grown_new hg hblk hG) ⟨A,c,d,by subst hn;rfl,?_⟩ (hrs.own hG (by simp;omega)))
 exact(hk.keep fun k hk o=>grown_cell hG hk.2.1 (by simp;exact fun e=>hk.2.2 e.symm) o).more fun k hk=>⟨hk.1,by rw[hS];exact hk.2.1⟩
def pieceR (t:Tok) (r:List Tok):Option (Ex×List Tok):=match ix nmL t with
 | some k=>some (exVar k,r)
 | none=>(constOf t).bind fun v=>some (exCon v,r)
theorem pieceF_rest (n:Nat) (bad:Bool) (t:Tok) (r:List Tok) (h:t≠[40]):pieceF (n+1) bad (t::r)=pieceR t r:=by
 rw[pieceF,if_neg h];rfl
def constR:Tok→Option Vl
 | []=>none
 | c::u=>if c.toNat=34 then some ⟨3,0,false,u.dropLast⟩ else if isDig c=true then some ⟨1,(dval (c::u):Nat),false,[]⟩ else if c.toNat=45∧u≠[] then some ⟨1,-((dval u:Nat):Int),false,[]⟩ else none
theorem const_rest {t:Tok}(hT:t≠[116,114,117,101]) (hF:t≠[102,97,108,115,101]):constOf t=constR t:=by
 unfold constOf
 rw[if_neg (show ¬t=tTrue from hT),if_neg (show ¬t=tFalse from hF)]
 cases t<;>rfl
theorem constR_cons (c:UInt8) (u:List UInt8):constR (c::u)=if c.toNat=34 then some ⟨3,0,false,u.dropLast⟩ else if isDig c=true then some ⟨1,(dval (c::u):Nat),false,[]⟩ else if c.toNat=45∧u≠[] then some ⟨1,-((dval u:Nat):Int),false,[]⟩ else none:=rfl
theorem ix_lt :∀ {ss:List Tok}{t:Tok}{k:Nat},ix ss t=some k→k<ss.length
 | [],t,k,h=>by cases h
 | x::ss,t,k,h=>by
  unfold ix at h
  by_cases hx:x=t
  ·rw[if_pos hx]at h;cases h;simp
  ·rw[if_neg hx]at h
   cases hi:ix ss t with
   | none=>rw[hi]at h;cases h
   | some j=>
    rw[hi]at h
    simp only[Option.map_some,zF]at h
    subst h
    have:=ix_lt hi
    simpa using this
set_option maxRecDepth 100000 in
set_option maxHeartbeats 8000000 in
theorem piece_step (n:Nat) (hw:WholeC n):PieceC (n+1):=by
 intro b ts bad w hrs htab hb4 hn
 have hbl:=hrs.lt
 have HTK:=zL hrs.toks
 have hz:=Zero7.new w
 obtain⟨w0,hw0⟩ :∃w0,w.alloc (.cells zero7 47)=w0:=⟨_,rfl⟩
 have hE0:Ext w w0:=by rw[←hw0];exact Ext.alloc _ _
 have hs0:w0.heap.size=w.heap.size+1:=by rw[←hw0];simp
 rw[hw0]at hz
 have hrs0:=hrs.ext hE0
 have HW:=zL hw0
 have HS0:=zL hs0
 have HTB:=zL (htab.ext hE0)
 have hG0:w.grownBy w0 (some b):=grown_of hE0 _
 have hblk:some w.heap.size≠some b:=by simp;omega
 have HBK:=zL hblk
 unfold zero7 at HW
 clear hw0 hs0 hrs htab hblk
 cases ts with
 | nil=>
  cases bad with
  | true=>
   have HN:=zL (next_bad hrs0)
   unfold rp at *
   go_enter Tryz.func163,Tryz.ntmps163
   go_upto_region 1 with fail
   rw[HW.out]
   go_wp2_with fail
   refine HN.out.mono ?_
   rintro e w1 ⟨rfl,hg1⟩
   exact⟨rfl,ReadP.no rfl (grown_trans hG0 hg1) rfl⟩
  | false=>
   have HN:=zL (next_end hrs0)
   unfold rp bs at *
   go_enter Tryz.func163,Tryz.ntmps163
   go_upto_region 1 with fail
   rw[HW.out]
   go_wp2_with fail
   refine HN.out.mono ?_
   rintro e w1 ⟨rfl,hr1,hg1⟩
   go_wp2_with fail
   refine(need_no _).mono ?_
   rintro e w' ⟨rfl,rfl⟩
   exact⟨rfl,ReadP.no rfl (grown_trans hG0 hg1) rfl⟩
 | cons t r=>
  have hit:=HTK.out.1 t (by simp)
  have HN:=zL (next_tok hrs0)
  obtain⟨D,hD⟩ :∃D:ByteArray,⟨t.toArray⟩=D:=⟨_,rfl⟩
  have HD:=zL hD
  have hDz:=bs_list t [] D hD
  rw[decide_eq_false hit.1.ne]at hDz
  have hDz2:D.toList.isEmpty=false:=by
   have:D.toList=t:=by rw[←hD,ByteArray.toList_eq]
   rw[this];exact str_ne hit.1.ne
  have hq40:=bs_list t [40] D hD
  have HIT:=zL hit
  have hlr:2*r.length+2≤n:=by simp only[zD]at hn;omega
  have hz1:0<w0.heap.size:=by have:=HS0.out;omega
  clear hit
  by_cases h40:t=[40]
  ·rw[decide_eq_true h40]at hq40
   have HP:Hid (pieceF (n+1) bad (t::r)=(wholeF n bad r).bind fun p=>(takeT [41] p.2).bind fun r1=>some (p.1,r1)):=zL (by rw[pieceF,if_pos h40])
   obtain⟨res,hres⟩ :∃res,wholeF n bad r=res:=⟨_,rfl⟩
   rw[hres]at HP
   have HWH:=zL (fun(W:World) (h1:RS W b r bad) (h2:Tabs W)=>hw b r bad W h1 h2 hb4 hlr)
   simp only[hres]at HWH
   unfold rp bs at *
   rw[hD]at HN
   clear hD h40 hres hw
   go_enter Tryz.func163,Tryz.ntmps163
   go_upto_region 1 with fail
   rw[HW.out]
   go_wp2_with fail
   refine HN.out.mono ?_
   rintro e w1 ⟨rfl,hr1,hg1⟩
   have hG1:=grown_trans hG0 hg1
   have hz1:=hz.own hg1 HBK.out
   have htb1:=HTB.out.own hg1 hb4
   go_wp2_with fail
   refine(need_yes _).mono ?_
   rintro e w' ⟨rfl,rfl⟩
   go_wp2_with fail
   refine(HWH.out _ hr1 htb1).mono ?_
   rintro e w2 ⟨hg2,hp⟩
   have hG2:=grown_trans hG1 hg2
   have hz2:=hz1.own hg2 HBK.out
   cases res with
   | none=>
    obtain rfl:=hp
    exact⟨rfl,ReadP.no (by rw[HP.out];rfl) hG2 rfl⟩
   | some p=>
    obtain⟨x,r1⟩:=p
    obtain⟨⟨A,c,d,rfl,hX⟩,hr2⟩:=hp
    have hbw2:b<w2.heap.size:=hr2.lt
    have hsz2:w.heap.size<w2.heap.size:=(zG.1 hz2).1
    have hin3:=InBlk.new2 w2 x A c
    have hE3:Ext w2 (w2.alloc (.cells (x.cells A c).toArray 47)):=Ext.alloc _ _
    have hr3:=hr2.ext hE3
    have TK:=zL (take_any hr3 [41] (by simp))
    have HP2:Hid (pieceF (n+1) bad (t::r)=(takeT [41] r1).bind fun r2=>some (x,r2)):=zL (by rw[HP.out];rfl)
    obtain⟨res2,hres2⟩ :∃res2,takeT [41] r1=res2:=⟨_,rfl⟩
    rw[hres2]at HP2
    simp only[hres2]at TK
    obtain⟨z0,z1,z2,z3,z4,z5,z6⟩:=hin3.cells
    have hsz3:(w2.alloc (.cells (x.cells A c).toArray 47)).heap.size=w2.heap.size+1:=by simp
    have HS3:=zL hsz3
    unfold Ex.cells at *
    unfold rp bs at TK
    clear HP hres2 hsz3
    go_wp2_with fail
    refine TK.out.mono ?_
    rintro e w4 ⟨hp2,hg4⟩
    have hG4:=grown_trans (grown_trans hG2 (grown_of hE3 _)) hg4
    cases res2 with
    | none=>
     obtain rfl:=hp2
     exact⟨rfl,ReadP.no (by rw[HP2.out];rfl) hG4 rfl⟩
    | some r2=>
     obtain⟨rfl,hr4⟩:=hp2
     have hin4:=hin3.own hg4 (by simp;omega)
     obtain⟨y0,y1,y2,y3,y4,y5,y6⟩:=hin4.cells
     have hz4:=(hz2.own (grown_of hE3 none) (by simp)).own hg4 HBK.out
     obtain⟨u0,u1,u2,u3,u4,u5,u6⟩:=hz4.cells
     obtain⟨f0,f1,f2,f3,f4,f5,f6⟩:=hz4.free
     have hX4:ExL w4 (fun k=>w.heap.size≤k∧k<w4.heap.size∧k≠w.heap.size) d A x.l:=by
      have hs1:=hg1.size
      have h0:=HS0.out
      have h3:=HS3.out
      have h4:=hg4.size
      refine((hX.keep fun k hk o=>hE3.old (p:=⟨k,o,none⟩) hk.2).keep fun k hk o=>grown_cell hg4 (by omega) (by simp;omega) o).more fun k hk=>⟨by omega,by omega,by omega⟩
     have HX4:=zL hX4
     clear hX hX4 z0 z1 z2 z3 z4 z5 z6
     go_wp2_with fail
     exact fin_exp rfl x r2 (by rw[HP2.out];rfl) hz4 (zE _) hbl hG4 hr4 A _ c d rfl HX4.out rfl
  ·rw[decide_eq_false h40]at hq40
   have HP0:Hid (pieceF (n+1) bad (t::r)=pieceR t r):=zL (pieceF_rest n bad t r h40)
   have hqT:=bs_list t [116,114,117,101] D hD
   have hqF:=bs_list t [102,97,108,115,101] D hD
   have htl:=(HTK.out.1 t (by simp)).2
   unfold rp bs at *
   rw[hD]at HN
   have IX:=zL (show ∀(g:Nat) W,RowS W g nmL→Calls Tryz.prog 164 #[.slice (some ⟨g,0,none⟩) 9 9,.string D] W fun e w'=>e=.returned (.int .i64 (ixI nmL t))∧w'=W from fun g W hR=>by
    have h:=index_any nmL t g W hR (by decide)
    unfold bs at h
    rw[hD]at h
    exact h)
   cases hix:ix nmL t with
   | some k=>
    have HP:Hid (pieceF (n+1) bad (t::r)=some (exVar k,r)):=zL (by rw[HP0.out];unfold pieceR;rw[hix])
    have hi:ixI nmL t=(k:Int):=by unfold ixI;rw[hix]
    have hk9:k<9:=ix_lt hix
    simp only[hi]at IX
    clear hD h40 hw hix hi hqT hqF HP0
    go_enter Tryz.func163,Tryz.ntmps163
    go_upto_region 1 with fail
    rw[HW.out]
    go_wp2_with fail
    refine HN.out.mono ?_
    rintro e w1 ⟨rfl,hr1,hg1⟩
    have hG1:=grown_trans hG0 hg1
    have hz1:=hz.own hg1 HBK.out
    have htb1:=HTB.out.own hg1 hb4
    go_wp2_with fail
    refine(need_yes _).mono ?_
    rintro e w' ⟨rfl,rfl⟩
    go_wp2_with fail
    refine(names_any _).mono ?_
    rintro e w2 ⟨rfl,hrow,hE2⟩
    have hG2:=grown_trans hG1 (grown_of hE2 _)
    have hz2:=hz1.own (grown_of hE2 none) (by simp)
    have hr2:=hr1.ext hE2
    have htb2:=htb1.ext hE2
    go_wp2_with fail
    refine(IX.out _ _ hrow).mono ?_
    rintro e w' ⟨rfl,rfl⟩
    have hE2r:Ext w' w':=Ext.refl _
    have hG5:=grown_trans hG2 (grown_of hE2r _)
    have hz5:=hz2.own (grown_of hE2r none) (by simp)
    have hr5:=hr2.ext hE2r
    obtain⟨u0,u1,u2,u3,u4,u5,u6⟩:=hz5.cells
    obtain⟨f0,f1,f2,f3,f4,f5,f6⟩:=hz5.free
    go_wp2_with fail
    exact fin_exp rfl (exVar k) r HP.out hz5 (zE _) hbl hG5 hr5 none 0 0 0 rfl (ExL.nil _ _ _ _) rfl
   | none=>
    have HP1:Hid (pieceF (n+1) bad (t::r)=(constOf t).bind fun v=>some (exCon v,r)):=zL (by rw[HP0.out];unfold pieceR;rw[hix])
    have hi:ixI nmL t = -1:=by unfold ixI;rw[hix]
    simp only[hi]at IX
    clear hix hi HP0 hw
    by_cases hT:t=[116,114,117,101]
    ·rw[decide_eq_true hT]at hqT
     have HP:Hid (pieceF (n+1) bad (t::r)=some (exCon ⟨2,0,true,[]⟩,r)):=zL (by rw[HP1.out,hT];rfl)
     have WR:=zL (show ∀W,Calls Tryz.prog 70 #[.iface 4 (.bool true)] W fun e w'=>e=.returned (.agg #[.int .i64 2,.int .i64 0,.bool true,.string ⟨#[]⟩])∧Ext W w' from fun W=>wrap_any (.bool true) W)
     clear hD h40 hT hqF HP1
     go_enter Tryz.func163,Tryz.ntmps163
     go_upto_region 1 with fail
     rw[HW.out]
     go_wp2_with fail
     refine HN.out.mono ?_
     rintro e w1 ⟨rfl,hr1,hg1⟩
     have hG1:=grown_trans hG0 hg1
     have hz1:=hz.own hg1 HBK.out
     have htb1:=HTB.out.own hg1 hb4
     go_wp2_with fail
     refine(need_yes _).mono ?_
     rintro e w' ⟨rfl,rfl⟩
     go_wp2_with fail
     refine(names_any _).mono ?_
     rintro e w2 ⟨rfl,hrow,hE2⟩
     have hG2:=grown_trans hG1 (grown_of hE2 _)
     have hz2:=hz1.own (grown_of hE2 none) (by simp)
     have hr2:=hr1.ext hE2
     have htb2:=htb1.ext hE2
     go_wp2_with fail
     refine(IX.out _ _ hrow).mono ?_
     rintro e w' ⟨rfl,rfl⟩
     go_wp2_with fail
     refine(WR.out _).mono ?_
     rintro e w5 ⟨rfl,hE5⟩
     have hG5:=grown_trans hG2 (grown_of hE5 _)
     have hz5:=hz2.own (grown_of hE5 none) (by simp)
     have hr5:=hr2.ext hE5
     obtain⟨u0,u1,u2,u3,u4,u5,u6⟩:=hz5.cells
     obtain⟨f0,f1,f2,f3,f4,f5,f6⟩:=hz5.free
     go_wp2_with fail
     exact fin_exp rfl (exCon ⟨2,0,true,[]⟩) r HP.out hz5 (zE _) hbl hG5 hr5 none 0 0 0 rfl (ExL.nil _ _ _ _) rfl
    ·rw[decide_eq_false hT]at hqT
     by_cases hF:t=[102,97,108,115,101]
     ·rw[decide_eq_true hF]at hqF
      have HP:Hid (pieceF (n+1) bad (t::r)=some (exCon ⟨2,0,false,[]⟩,r)):=zL (by rw[HP1.out,hF];rfl)
      have WR:=zL (show ∀W,Calls Tryz.prog 70 #[.iface 4 (.bool false)] W fun e w'=>e=.returned (.agg #[.int .i64 2,.int .i64 0,.bool false,.string ⟨#[]⟩])∧Ext W w' from fun W=>wrap_any (.bool false) W)
      clear hD h40 hT hF HP1
      go_enter Tryz.func163,Tryz.ntmps163
      go_upto_region 1 with fail
      rw[HW.out]
      go_wp2_with fail
      refine HN.out.mono ?_
      rintro e w1 ⟨rfl,hr1,hg1⟩
      have hG1:=grown_trans hG0 hg1
      have hz1:=hz.own hg1 HBK.out
      have htb1:=HTB.out.own hg1 hb4
      go_wp2_with fail
      refine(need_yes _).mono ?_
      rintro e w' ⟨rfl,rfl⟩
      go_wp2_with fail
      refine(names_any _).mono ?_
      rintro e w2 ⟨rfl,hrow,hE2⟩
      have hG2:=grown_trans hG1 (grown_of hE2 _)
      have hz2:=hz1.own (grown_of hE2 none) (by simp)
      have hr2:=hr1.ext hE2
      have htb2:=htb1.ext hE2
      go_wp2_with fail
      refine(IX.out _ _ hrow).mono ?_
      rintro e w' ⟨rfl,rfl⟩
      go_wp2_with fail
      refine(WR.out _).mono ?_
      rintro e w5 ⟨rfl,hE5⟩
      have hG5:=grown_trans hG2 (grown_of hE5 _)
      have hz5:=hz2.own (grown_of hE5 none) (by simp)
      have hr5:=hr2.ext hE5
      obtain⟨u0,u1,u2,u3,u4,u5,u6⟩:=hz5.cells
      obtain⟨f0,f1,f2,f3,f4,f5,f6⟩:=hz5.free
      go_wp2_with fail
      exact fin_exp rfl (exCon ⟨2,0,false,[]⟩) r HP.out hz5 (zE _) hbl hG5 hr5 none 0 0 0 rfl (ExL.nil _ _ _ _) rfl
     ·rw[decide_eq_false hF]at hqF
      have hcT:=const_rest hT hF
      have hsz:D.size=t.length:=by rw[←hD];exact toArr_size t
      have hgd :∀h,D[0]'h=t.getD 0 0:=by
       intro h
       subst hD
       exact ba_get t 0 h
      have hitk:=HIT.out.1
      have htp:0<t.length:=List.length_pos_iff.2 hitk.ne
      obtain⟨c0,hc0⟩ :∃c0,t.getD 0 0=c0:=⟨_,rfl⟩
      obtain⟨tl,htl2⟩ :∃tl,t.length=tl:=⟨_,rfl⟩
      have HTL:=zL htl2
      rw[hc0]at hgd
      rw[htl2]at hsz htp htl
      have AT:=zL (show ∀v:Int,zI t=.ok v →∀W,Calls Tryz.prog 111 #[.string D] W fun e w'=>e=.returned (.tuple #[.int .i64 v,.nilIface])∧Ext W w' from fun v hv W=>by
       have h:=atoi_ok hv (by omega) W
       unfold bs at h
       rw[hD]at h
       exact h)
      have AN:=zL (show NoNum t →∀W,Tabs W→Calls Tryz.prog 111 #[.string D] W fun e w' =>∃v te pe,e=.returned (.tuple #[.int .i64 v,.iface te pe])∧Ext W w' from fun hv W hW=>by
       have h:=atoi_no hv (by omega) W hW
       unfold bs at h
       rw[hD]at h
       exact h)
      have hend :∀v:Int,zI t=.ok v→constOf t=some ⟨1,v,false,[]⟩→((c0.toNat:Int) == 34)=false→Calls Tryz.prog 163 #[.pointer (some ⟨b,0,none⟩)] w (ReadP b w bad (pieceF (n+1) bad (t::r))):=by
       intro v hv hcv u34
       have HP:Hid (pieceF (n+1) bad (t::r)=some (exCon ⟨1,v,false,[]⟩,r)):=zL (by rw[HP1.out,hcv];rfl)
       have AC:=zL (AT.out v hv)
       have WR:=zL (show ∀W,Calls Tryz.prog 70 #[.iface 3 (.int .i64 v)] W fun e w'=>e=.returned (.agg #[.int .i64 1,.int .i64 v,.bool false,.string ⟨#[]⟩])∧Ext W w' from fun W=>wrap_any (.int v) W)
       clear hD h40 hT hF HP1 hcT hv hcv hitk hc0 htl2 AN AT
       go_enter Tryz.func163,Tryz.ntmps163
       go_upto_region 1 with fail
       rw[HW.out]
       go_wp2_with fail
       refine HN.out.mono ?_
       rintro e w1 ⟨rfl,hr1,hg1⟩
       have hG1:=grown_trans hG0 hg1
       have hz1:=hz.own hg1 HBK.out
       have htb1:=HTB.out.own hg1 hb4
       go_wp2_with fail
       refine(need_yes _).mono ?_
       rintro e w' ⟨rfl,rfl⟩
       go_wp2_with fail
       refine(names_any _).mono ?_
       rintro e w2 ⟨rfl,hrow,hE2⟩
       have hG2:=grown_trans hG1 (grown_of hE2 _)
       have hz2:=hz1.own (grown_of hE2 none) (by simp)
       have hr2:=hr1.ext hE2
       have htb2:=htb1.ext hE2
       go_wp2_with fail
       refine(IX.out _ _ hrow).mono ?_
       rintro e w' ⟨rfl,rfl⟩
       go_wp2_with fail
       refine(AC.out _).mono ?_
       rintro e w3 ⟨rfl,hE3⟩
       go_wp2_with fail
       refine(need_yes _).mono ?_
       rintro e w' ⟨rfl,rfl⟩
       go_wp2_with fail
       refine(WR.out _).mono ?_
       rintro e w5 ⟨rfl,hE5⟩
       have hE35:=hE3.trans hE5
       have hG5:=grown_trans hG2 (grown_of hE35 _)
       have hz5:=hz2.own (grown_of hE35 none) (by simp)
       have hr5:=hr2.ext hE35
       obtain⟨u0,u1,u2,u3,u4,u5,u6⟩:=hz5.cells
       obtain⟨f0,f1,f2,f3,f4,f5,f6⟩:=hz5.free
       go_wp2_with fail
       exact fin_exp rfl (exCon ⟨1,v,false,[]⟩) r HP.out hz5 (zE _) hbl hG5 hr5 none 0 0 0 rfl (ExL.nil _ _ _ _) rfl
      have hbad:NoNum t→constOf t=none→((c0.toNat:Int) == 34)=false→Calls Tryz.prog 163 #[.pointer (some ⟨b,0,none⟩)] w (ReadP b w bad (pieceF (n+1) bad (t::r))):=by
       intro hv hcv u34
       have HP:Hid (pieceF (n+1) bad (t::r)=none):=zL (by rw[HP1.out,hcv];rfl)
       have AC:=zL (AN.out hv)
       clear hD h40 hT hF HP1 hcT hv hcv hitk hc0 htl2 AN AT
       go_enter Tryz.func163,Tryz.ntmps163
       go_upto_region 1 with fail
       rw[HW.out]
       go_wp2_with fail
       refine HN.out.mono ?_
       rintro e w1 ⟨rfl,hr1,hg1⟩
       have hG1:=grown_trans hG0 hg1
       have hz1:=hz.own hg1 HBK.out
       have htb1:=HTB.out.own hg1 hb4
       go_wp2_with fail
       refine(need_yes _).mono ?_
       rintro e w' ⟨rfl,rfl⟩
       go_wp2_with fail
       refine(names_any _).mono ?_
       rintro e w2 ⟨rfl,hrow,hE2⟩
       have hG2:=grown_trans hG1 (grown_of hE2 _)
       have hz2:=hz1.own (grown_of hE2 none) (by simp)
       have hr2:=hr1.ext hE2
       have htb2:=htb1.ext hE2
       go_wp2_with fail
       refine(IX.out _ _ hrow).mono ?_
       rintro e w' ⟨rfl,rfl⟩
       go_wp2_with fail
       refine(AC.out _ htb2).mono ?_
       rintro e w3 ⟨v,te,pe,rfl,hE3⟩
       go_wp2_with fail
       refine(need_no _).mono ?_
       rintro e w' ⟨rfl,rfl⟩
       exact⟨rfl,ReadP.no HP.out (grown_trans hG2 (grown_of hE3 _)) rfl⟩
      have hstr :∀q:List UInt8,q.all notQ=true→t=34::(q++[34])→c0.toNat=34→Calls Tryz.prog 163 #[.pointer (some ⟨b,0,none⟩)] w (ReadP b w bad (pieceF (n+1) bad (t::r))):=by
       intro q hq htq hc34
       have u34:((c0.toNat:Int) == 34)=true:=by rw[hc34];rfl
       have HP:Hid (pieceF (n+1) bad (t::r)=some (exCon ⟨3,0,false,q⟩,r)):=zL (by rw[HP1.out,hcT,htq];simp[constR])
       have TM:=zL (show ∀W,Calls Tryz.prog 187 #[.string D,.string ⟨#[34]⟩] W fun e w'=>e=.returned (.string ⟨q.toArray⟩)∧Ext W w' from fun W=>by
        rw[←hD]
        refine(Tryz.strings_Trim_one ⟨t.toArray⟩ 34 (by decide) W (by rw[toArr_size,HTL.out];omega)).mono ?_
        rintro e w' ⟨rfl,hw'⟩
        refine⟨?_,?_⟩
        ·show Ending.returned (.string ⟨(zQ t 34).toArray⟩)=_
         rw[htq,trim_q hq]
        ·rcases hw' with rfl|rfl
         ·exact Ext.refl _
         ·exact Ext.drew _)
       have WR:=zL (show ∀W,Calls Tryz.prog 70 #[.iface 9 (.string ⟨q.toArray⟩)] W fun e w'=>e=.returned (.agg #[.int .i64 3,.int .i64 0,.bool false,.string ⟨q.toArray⟩])∧Ext W w' from fun W=>wrap_any (.txt q) W)
       clear hD h40 hT hF HP1 hcT htq hitk hc0 htl2 AN AT hq hend hbad hc34
       go_enter Tryz.func163,Tryz.ntmps163
       go_upto_region 1 with fail
       rw[HW.out]
       go_wp2_with fail
       refine HN.out.mono ?_
       rintro e w1 ⟨rfl,hr1,hg1⟩
       have hG1:=grown_trans hG0 hg1
       have hz1:=hz.own hg1 HBK.out
       have htb1:=HTB.out.own hg1 hb4
       go_wp2_with fail
       refine(need_yes _).mono ?_
       rintro e w' ⟨rfl,rfl⟩
       go_wp2_with fail
       refine(names_any _).mono ?_
       rintro e w2 ⟨rfl,hrow,hE2⟩
       have hG2:=grown_trans hG1 (grown_of hE2 _)
       have hz2:=hz1.own (grown_of hE2 none) (by simp)
       have hr2:=hr1.ext hE2
       have htb2:=htb1.ext hE2
       go_wp2_with fail
       refine(IX.out _ _ hrow).mono ?_
       rintro e w' ⟨rfl,rfl⟩
       go_wp2_with fail
       refine(TM.out _).mono ?_
       rintro e w3 ⟨rfl,hE3⟩
       go_wp2_with fail
       refine(WR.out _).mono ?_
       rintro e w5 ⟨rfl,hE5⟩
       have hE35:=hE3.trans hE5
       have hG5:=grown_trans hG2 (grown_of hE35 _)
       have hz5:=hz2.own (grown_of hE35 none) (by simp)
       have hr5:=hr2.ext hE35
       obtain⟨u0,u1,u2,u3,u4,u5,u6⟩:=hz5.cells
       obtain⟨f0,f1,f2,f3,f4,f5,f6⟩:=hz5.free
       go_wp2_with fail
       exact fin_exp rfl (exCon ⟨3,0,false,q⟩) r HP.out hz5 (zE _) hbl hG5 hr5 none 0 0 0 rfl (ExL.nil _ _ _ _) rfl
      cases hitk with
      | word c u h hu=>
       simp only[zC]at hc0
       subst hc0
       have h':=h
       unfold isLet at h'
       simp only[zH,decide_eq_true_eq]at h'
       refine hbad (no_word h) ?_ (by rw[beq_eq_false_iff_ne];omega)
       rw[hcT,constR_cons]
       rw[if_neg (by omega),if_neg (by unfold isDig;simp;omega),if_neg (by omega)]
      | num c u h hu hl hz=>
       simp only[zC]at hc0
       subst hc0
       have h':=h
       unfold isDig at h'
       simp only[zH,decide_eq_true_eq]at h'
       refine hend _ (atoi_num (by rw[zA,h,hu];rfl) hl) ?_ (by rw[beq_eq_false_iff_ne];omega)
       rw[hcT,constR_cons]
       rw[if_neg (by omega),if_pos h]
      | neg c u h hu hl hz=>
       simp only[zC]at hc0
       subst hc0
       refine hend _ (atoi_neg (by rw[zA,h,hu];rfl) hl) ?_ (by rfl)
       rw[hcT,constR_cons]
       rw[if_neg (by decide),if_neg (by decide),if_pos ⟨by decide,by simp⟩]
      | str q h hqn=>
       simp only[zC]at hc0
       subst hc0
       exact hstr q hqn rfl (by decide)
      | sign c h=>
       simp only[zC]at hc0
       subst hc0
       have hc:c.toNat≠34 ∧¬(48≤c.toNat∧c.toNat≤57):=by
        rcases h with h|h
        ·unfold isSg at h
         simp only[decide_eq_true_eq]at h
         omega
        ·omega
       refine hbad (no_sign h) ?_ (by rw[beq_eq_false_iff_ne];omega)
       rw[hcT,constR_cons]
       rw[if_neg hc.1,if_neg (by unfold isDig;simp;omega),if_neg (by simp)]
end Go.Proofs.YtmiencglfhpmeaaGreatDoor
