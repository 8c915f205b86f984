/- Functions of the program, told as plain functions, with their walks: written by a program of this claim's out of the translation. Events as bytes, and rows of events that are the same: in closed form. Events as bytes are told apart. What is taken is what was laid down: events, one and all. The contracts of name.May and name.MayTag, in the form that the printed functions ask. Whether texts rise: the walk of query.rise (IsSorted, Clone, Compact). Whether texts rise: the walk of query.rise. What is wrong with a query: the walk of query.May. qcode.list over texts: its walk. qcode.list over clauses: its walk. Queries as bytes: the walks of qcode.put and its closure. Queries that may be; the sizes of their bytes. Queries' bytes are told apart; qcode.Put in closed form. Queries taken, of plain functions. Steps as bytes, of plain functions. Steps taken: what is taken may be laid down. Bytes as digits, lines, scripts: plain functions. script.written: its walk. qcode.taken, of texts: its walk. -/
import Derived.Lib.LazyBuf
import Derived.Shelf.Abstract
import Derived.Test.YtocpcnmnhckcpaaGreatYScriptParses1
import Derived.Test.YtocpcnmnhckcpaaGreatYScriptParses2
import Derived.Test.YtocpcnmnhckcpaaGreatYScriptParses3
set_option linter.unusedVariables false
set_option linter.unusedSimpArgs false
namespace Go.Proofs.YtocpcnmnhckcpaaGreat.Prt
open RowKit YtocpcnmnhckcpaaGreatW.PrintWords YtocpcnmnhckcpaaGreatW.PrintLast YtocpcnmnhckcpaaGreatW.PrintMore
attribute [local go_sem] max2_int min2_int max_two min_two max_three min_three max_four min_four
mutual
def evcode_Put.l0:Nat→List Int→List ByteArray→Int→Int→ByteArray→ByteArray→List ByteArray→List (S90)→Option (List Int × Int)
 | 0,_,_,_,_,_,_,_,_=>none
 | k+1,x7,x30,x31,x32,x121000,x121001,x121002,x121003=>if x32 < x31 then (if 0≤x32 then (if x32 < (x30.length:Int) then ((num_PutText.f x7 (rdOf ByteArray.empty x30 x32)).bind fun t132=>(evcode_Put.l0 k t132 x30 x31 (wrap64 (x32+1)) x121000 x121001 x121002 x121003)) else (none)) else (none)) else ((num_Put.f x7 (x121003.length:Int)).bind fun t135=>(evcode_Put.l1 k t135 x121003 (x121003.length:Int) 0))
def evcode_Put.l1:Nat→List Int→List (S90)→Int→Int→Option (List Int × Int)
 | 0,_,_,_,_=>none
 | k+1,x7,x46,x47,x48=>if x48 < x47 then (if 0≤x48 then (if x48 < (x46.length:Int) then ((num_PutText.f x7 ((rd_T90 x46 x48).f0)).bind fun t140=>((num_Put.f t140 ((rd_T90 x46 x48).f1)).bind fun t143=>(evcode_Put.l1 k t143 x46 x47 (wrap64 (x48+1))))) else (none)) else (none)) else (some (x7,0))
end
def evcode_Put.f (k:Nat) (l0:List Int) (a1_0:ByteArray) (a1_1:ByteArray) (l1_2:List ByteArray) (l1_3:List (S90)):Option (List Int × Int):=(event_May.f a1_0 a1_1 l1_2 l1_3).bind fun t121=>(if t121=0 then ((num_PutText.f l0 a1_0).bind fun t122=>((num_PutText.f t122 a1_1).bind fun t125=>((num_Put.f t125 (l1_2.length:Int)).bind fun t128=>(evcode_Put.l0 k t128 l1_2 (l1_2.length:Int) 0 a1_0 a1_1 l1_2 l1_3)))) else (some (([]:List Int),t121)))
def evcode_Put.T4:Bool × List (List Nat × List Nat):=(true,[([],[]),([],[]),([1],[1]),([0,2],[0,2]),([],[]),([4],[4]),([3,5,3],[3,5]),([6,6,0,1,2,3,4,5,6],[6])])
def evcode_Put.B4:List Nat:=[0,0,2,7,0,16,63,127]
theorem evcode_Put.tab4:rtab .any (opsOf Tryz.f33 4)=evcode_Put.T4:=by kernel_rfl
theorem evcode_Put.bits4:waitsOk evcode_Put.T4.2 evcode_Put.B4=true:=by kernel_rfl
def evcode_Put.T15:Bool × List (List Nat × List Nat):=(true,[([],[]),([],[]),([1],[1]),([0,2],[0,2]),([],[]),([4],[4]),([3,5,3],[3,5]),([6,6,0,1,2,3,4,5,6],[0,6])])
def evcode_Put.B15:List Nat:=[0,0,2,7,0,16,63,127]
theorem evcode_Put.tab15:rtab .any (opsOf Tryz.f33 15)=evcode_Put.T15:=by kernel_rfl
theorem evcode_Put.bits15:waitsOk evcode_Put.T15.2 evcode_Put.B15=true:=by kernel_rfl
set_option maxHeartbeats 8000000 in
set_option maxRecDepth 100000 in
theorem evcode_Put.calls (k:Nat) (A0:Option Addr) (c0:Nat) (l0:List Int) (a1_0:ByteArray) (a1_1:ByteArray) (A1_2:Option Addr) (c1_2:Nat) (l1_2:List ByteArray) (A1_3:Option Addr) (c1_3:Nat) (l1_3:List (S90)) (r1:List Int) (r2:Int) (w:World) (hr0:Kd.C (Kd.int .u8) w A0 l0.length l0) (hc0:l0.length≤c0) (hr1_2:Kd.C Kd.string w A1_2 l1_2.length l1_2) (hc1_2:l1_2.length≤c1_2) (hr1_3:Kd.C k90 w A1_3 l1_3.length l1_3) (hc1_3:l1_3.length≤c1_3) (h:evcode_Put.f k l0 a1_0 a1_1 l1_2 l1_3=some (r1,r2)) :
  Calls Tryz.prog 33 #[.slice A0 l0.length c0,.agg #[.string a1_0,.string a1_1,.slice A1_2 l1_2.length c1_2,.slice A1_3 l1_3.length c1_3]] w fun e w'=>∃ v0_:Value,e = .returned (.tuple #[v0_,.int .i64 r2])∧Kd.R (Kd.int .u8) 5 w' w.heap.size (fun _=>True) v0_ r1∧Below w.heap.size w w':=by
 have hu29:=Tryz.underlying29
 have hu90:=Tryz.underlying90
 have HR0:=Ak hr0
 have HC0:=Ak hc0
 clear hr0 hc0
 have HR1_2:=Ak hr1_2
 have HC1_2:=Ak hc1_2
 clear hr1_2 hc1_2
 have HR1_3:=Ak hr1_3
 have HC1_3:=Ak hc1_3
 clear hr1_3 hc1_3
 have HB:=Ak (Below.refl w.heap.size w)
 have H:((event_May.f a1_0 a1_1 l1_2 l1_3).bind fun t121=>(if t121=0 then ((num_PutText.f l0 a1_0).bind fun t122=>((num_PutText.f t122 a1_1).bind fun t125=>((num_Put.f t125 (l1_2.length:Int)).bind fun t128=>(evcode_Put.l0 k t128 l1_2 (l1_2.length:Int) 0 a1_0 a1_1 l1_2 l1_3)))) else (some (([]:List Int),t121))))=some (r1,r2):=h
 clear h
 replace H:=Option.bind_eq_some_iff.mp H
 obtain ⟨t121,A30,H⟩:=H
 replace H:(if t121=0 then ((num_PutText.f l0 a1_0).bind fun t122=>((num_PutText.f t122 a1_1).bind fun t125=>((num_Put.f t125 (l1_2.length:Int)).bind fun t128=>(evcode_Put.l0 k t128 l1_2 (l1_2.length:Int) 0 a1_0 a1_1 l1_2 l1_3)))) else (some (([]:List Int),t121)))=some (r1,r2):=H
 have A3:=Ak A30
 clear A30
 by_cases c4:t121=0
 ·rw [if_pos c4] at H
  have c4b0:(t121 == 0)=true:=beq_iff_eq.mpr c4
  have c4b1:(t121 != 0)=false:=bne_eq_false_iff_eq.mpr c4
  clear c4
  replace H:=Option.bind_eq_some_iff.mp H
  obtain ⟨t122,A50,H⟩:=H
  replace H:((num_PutText.f t122 a1_1).bind fun t125=>((num_Put.f t125 (l1_2.length:Int)).bind fun t128=>(evcode_Put.l0 k t128 l1_2 (l1_2.length:Int) 0 a1_0 a1_1 l1_2 l1_3)))=some (r1,r2):=H
  have A5:=Ak A50
  clear A50
  replace H:=Option.bind_eq_some_iff.mp H
  obtain ⟨t125,A60,H⟩:=H
  replace H:((num_Put.f t125 (l1_2.length:Int)).bind fun t128=>(evcode_Put.l0 k t128 l1_2 (l1_2.length:Int) 0 a1_0 a1_1 l1_2 l1_3))=some (r1,r2):=H
  have A6:=Ak A60
  clear A60
  replace H:=Option.bind_eq_some_iff.mp H
  obtain ⟨t128,A70,H⟩:=H
  replace H:(evcode_Put.l0 k t128 l1_2 (l1_2.length:Int) 0 a1_0 a1_1 l1_2 l1_3)=some (r1,r2):=H
  have A7:=Ak A70
  clear A70
  have H':=Ak H
  clear H
  go_enter Tryz.func33,Tryz.ntmps33
  try go_wp2_with (first | ((with_reducible refine gate_dst (N:=3) rfl ?_);refine box_event ?hg (N:=3) ?hd (cs:=#[.string a1_0,.string a1_1,.slice A1_2 l1_2.length c1_2,.slice A1_3 l1_3.length c1_3]) (t:=29) ?hr ?_;(case hd=>rfl);(case hg=>rfl);(case hr=>(go_simp;done));intro gb120 hg w8 hbox hb;have n0_:=Ak (below_step HB.out hb);have n1_:=Ak (hbox);have n2_:=Ak ((by rw [hg];exact (below_size HB.out):w.heap.size≤gb120));have n3_:=Ak ((by rw [hg];exact (below_size HB.out):w.heap.size≤gb120));clear HB;have HB:=n0_;have BK120:=n1_;have GW120:=n2_;have GE120:=n3_;clear n0_ n1_ n2_ n3_;clear hb hbox hg;have hcz9_0:w8.cell? ⟨gb120,0,none⟩=some (.string a1_0):=(blk_cell BK120.out 0).trans rfl;have hcz9_1:w8.cell? ⟨gb120,1,none⟩=some (.string a1_1):=(blk_cell BK120.out 1).trans rfl;have hcz9_2:w8.cell? ⟨gb120,2,none⟩=some (.slice A1_2 l1_2.length c1_2):=(blk_cell BK120.out 2).trans rfl;have hcz9_3:w8.cell? ⟨gb120,3,none⟩=some (.slice A1_3 l1_3.length c1_3):=(blk_cell BK120.out 3).trans rfl;have hfz9_0:=blk_frozen BK120.out 0;have hfz9_1:=blk_frozen BK120.out 1;have hfz9_2:=blk_frozen BK120.out 2;have hfz9_3:=blk_frozen BK120.out 3) | ((with_reducible refine gate_callee (f:=52) rfl ?_);refine goesL_ (some 13) rfl rfl Tryz.func52 (by kernel_rfl) rfl #[.agg #[.string a1_0,.string a1_1,.slice A1_2 l1_2.length c1_2,.slice A1_3 l1_3.length c1_3]] rfl (by (try simp only [List.map_toArray,List.map_cons,List.map_nil]);rfl) ?_;(with_reducible refine (event_May.calls a1_0 a1_1 _ _ l1_2 _ _ l1_3 t121 _ ?side1 ?side2 ?side3 ?side4 A3.out).mono ?_);(case side1=>repeat (exact (Kd.C_below HR1_2.out HB.out)));(case side2=>exact HC1_2.out);(case side3=>repeat (exact (Kd.C_below HR1_3.out HB.out)));(case side4=>exact HC1_3.out);rintro e w10 ⟨rfl,hb⟩;refine ⟨_,rfl,?_⟩;have n0_:=Ak (blk_below (g:=gb120) (o:=.cells #[.string a1_0,.string a1_1,.slice A1_2 l1_2.length c1_2,.slice A1_3 l1_3.length c1_3] 29 (0,0)) BK120.out hb);have n1_:=Ak (below_step HB.out hb);clear BK120;clear HB;have BK120:=n0_;have HB:=n1_;clear n0_ n1_;(try clear hb)))
  replace BK120:=Ak (blk_drew BK120.out)
  replace HB:=Ak (below_drew1 HB.out)
  refine start_ (n:=8) (S:=fun w'=>w'.cell? ⟨gb120,0,none⟩=some (.string a1_0)∧w'.cell? ⟨gb120,1,none⟩=some (.string a1_1)∧w'.cell? ⟨gb120,2,none⟩=some (.slice A1_2 l1_2.length c1_2)∧w'.cell? ⟨gb120,3,none⟩=some (.slice A1_3 l1_3.length c1_3)) (ds:=[]) #[false,false,false,false,false,false,false,false] (by kernel_rfl) rfl rfl ⟨(blk_cell BK120.out 0).trans rfl,(blk_cell BK120.out 1).trans rfl,(blk_cell BK120.out 2).trans rfl,(blk_cell BK120.out 3).trans rfl⟩ (fun hHeld=>?_);refine with_tabW evcode_Put.tab4 evcode_Put.bits4 (fun HT_ HW_=>?_)
  generalize w10.drew=w11 at BK120 HB hHeld ⊢
  refine pure_ (i:=0) (N:=some 17) (v:=?_) (a':=?_) #[true,false,false,false,false,false,false,false] rfl rfl (any_of HT_.out (by kernel_rfl)) (fun _ _ _ h=>h) (Or.inl ⟨by rfl,?_⟩) ?_ ?_
  rotate_left
  ·intro w'
   go_simp
   with_reducible rfl
  rotate_left
  ·simp only [Act.put,List.setIfInBounds_toArray,List.set_cons_zero,List.set_cons_succ,i64_w,i32_w]
   rfl
  refine pure_ (i:=1) (N:=some 18) (v:=?_) (a':=?_) #[true,true,false,false,false,false,false,false] rfl rfl (any_of HT_.out (by kernel_rfl)) (fun _ _ _ h=>h) (Or.inl ⟨by rfl,?_⟩) ?_ ?_
  rotate_left
  ·intro w'
   go_simp
   with_reducible rfl
  rotate_left
  ·simp only [Act.put,List.setIfInBounds_toArray,List.set_cons_zero,List.set_cons_succ,i64_w,i32_w]
   rfl
  refine pure_ (i:=4) (N:=some 21) (v:=?_) (a':=?_) #[true,true,false,false,true,false,false,false] rfl rfl (any_of HT_.out (by kernel_rfl)) (fun _ _ _ h=>h) (Or.inl ⟨by rfl,?_⟩) ?_ ?_
  rotate_left
  ·intro w'
   go_simp
   with_reducible rfl
  rotate_left
  ·simp only [Act.put,List.setIfInBounds_toArray,List.set_cons_zero,List.set_cons_succ,i64_w,i32_w]
   rfl
  refine take_ (i:=2) (N:=some 19) (v:=?_) (a':=?_) #[true,true,true,false,true,false,false,false] rfl rfl (take_ofW HT_.out HW_.out (by kernel_rfl)) (fun _ _ _ h=>h) (Or.inl ⟨by rfl,?_⟩) hHeld ?_ ?_
  rotate_left
  ·rintro w' ⟨s0,s1,s2,s3⟩
   go_simp
   with_reducible rfl
  rotate_left
  ·simp only [Act.put,List.setIfInBounds_toArray,List.set_cons_zero,List.set_cons_succ,i64_w,i32_w]
   rfl
  refine take_ (i:=5) (N:=some 22) (v:=?_) (a':=?_) #[true,true,true,false,true,true,false,false] rfl rfl (take_ofW HT_.out HW_.out (by kernel_rfl)) (fun _ _ _ h=>h) (Or.inl ⟨by rfl,?_⟩) hHeld ?_ ?_
  rotate_left
  ·rintro w' ⟨s0,s1,s2,s3⟩
   go_simp
   with_reducible rfl
  rotate_left
  ·simp only [Act.put,List.setIfInBounds_toArray,List.set_cons_zero,List.set_cons_succ,i64_w,i32_w]
   rfl
  refine one_ (i:=3) (N:=some 20) #[true,true,true,true,true,true,false,false] rfl rfl (one_of HT_.out (by kernel_rfl)) (by decide) (fun K hK=>?_)
  refine goes_ Tryz.func31 (by kernel_rfl) rfl #[.slice A0 l0.length c0,.string a1_0] (by rfl) rfl rfl (by (try simp only [List.map_toArray,List.map_cons,List.map_nil]);rfl) ?_
  with_reducible refine (num_PutText.calls _ _ l0 a1_0 t122 _ ?side1 ?side2 A5.out).mono ?_
  (case side1=>repeat (exact (Kd.C_below HR0.out HB.out)))
  (case side2=>exact HC0.out)
  rintro e w12 ⟨v123,rfl,ho0,hb⟩
  refine ⟨_,rfl,?_⟩
  have HO124:=Ak (Kd.R_lower ho0 (below_size HB.out))
  replace BK120:=Ak (blk_below (g:=gb120) (o:=.cells #[.string a1_0,.string a1_1,.slice A1_2 l1_2.length c1_2,.slice A1_3 l1_3.length c1_3] 29 (0,0)) BK120.out hb)
  replace HB:=Ak (below_step HB.out hb)
  (try clear hb)
  (try clear ho0)
  obtain ⟨Ao13,co13,eo13⟩:=Kd.R_slice HO124.out
  (subst eo13)
  refine hK.out _ _ ⟨(blk_cell BK120.out 0).trans rfl,(blk_cell BK120.out 1).trans rfl,(blk_cell BK120.out 2).trans rfl,(blk_cell BK120.out 3).trans rfl⟩ (fun hHeld=>?_)
  clear hK K
  refine norm_ (a':=?_) ?_ ?_
  rotate_left
  ·show Act.put _ (some 20) _=_
   simp only [Act.put,List.setIfInBounds_toArray,List.set_cons_zero,List.set_cons_succ,i64_w,i32_w]
   rfl
  refine one_ (i:=6) (N:=some 23) #[true,true,true,true,true,true,true,false] rfl rfl (one_of HT_.out (by kernel_rfl)) (by decide) (fun K hK=>?_)
  refine goes_ Tryz.func31 (by kernel_rfl) rfl #[.slice Ao13 t122.length co13,.string a1_1] (by rfl) rfl rfl (by (try simp only [List.map_toArray,List.map_cons,List.map_nil]);rfl) ?_
  with_reducible refine (num_PutText.calls _ _ t122 a1_1 t125 _ ?side1 ?side2 A6.out).mono ?_
  (case side1=>repeat (exact (Kd.R_reads' HO124.out).2.2))
  (case side2=>exact (Kd.R_reads' HO124.out).2.1)
  rintro e w14 ⟨v126,rfl,ho0,hb⟩
  refine ⟨_,rfl,?_⟩
  have n0_:=Ak (Kd.R_elder' HO124.out (Kd.R_base ho0) hb)
  have n1_:=Ak (Kd.R_lower (Kd.R_new' ho0 (Kd.R_lt HO124.out)) (below_size HB.out))
  have n2_:=Ak (blk_below (g:=gb120) (o:=.cells #[.string a1_0,.string a1_1,.slice A1_2 l1_2.length c1_2,.slice A1_3 l1_3.length c1_3] 29 (0,0)) BK120.out hb)
  have n3_:=Ak (below_step HB.out hb)
  clear HO124
  clear BK120
  clear HB
  have HO124:=n0_
  have HO127:=n1_
  have BK120:=n2_
  have HB:=n3_
  clear n0_ n1_ n2_ n3_
  (try clear hb)
  (try clear ho0)
  refine hK.out _ _ ⟨(blk_cell BK120.out 0).trans rfl,(blk_cell BK120.out 1).trans rfl,(blk_cell BK120.out 2).trans rfl,(blk_cell BK120.out 3).trans rfl⟩ (fun hHeld=>?_)
  clear hK K
  refine norm_ (a':=?_) ?_ ?_
  rotate_left
  ·show Act.put _ (some 23) _=_
   simp only [Act.put,List.setIfInBounds_toArray,List.set_cons_zero,List.set_cons_succ,i64_w,i32_w]
   rfl
  refine pure_ (i:=7) (N:=some 7) (v:=?_) (a':=?_) #[true,true,true,true,true,true,true,true] rfl rfl (any_of HT_.out (by kernel_rfl)) (fun _ _ _ h=>h) (Or.inl ⟨by rfl,?_⟩) ?_ ?_
  rotate_left
  ·intro w'
   go_simp
   with_reducible rfl
  rotate_left
  ·simp only [Act.put,List.setIfInBounds_toArray,List.set_cons_zero,List.set_cons_succ,i64_w,i32_w]
   rfl
  refine done_ (done_of HT_.out (by kernel_rfl)) ?_
  have hcz15_0:w14.cell? ⟨gb120,0,none⟩=some (.string a1_0):=(blk_cell BK120.out 0).trans rfl
  have hcz15_1:w14.cell? ⟨gb120,1,none⟩=some (.string a1_1):=(blk_cell BK120.out 1).trans rfl
  have hcz15_2:w14.cell? ⟨gb120,2,none⟩=some (.slice A1_2 l1_2.length c1_2):=(blk_cell BK120.out 2).trans rfl
  have hcz15_3:w14.cell? ⟨gb120,3,none⟩=some (.slice A1_3 l1_3.length c1_3):=(blk_cell BK120.out 3).trans rfl
  have hfz15_0:=blk_frozen BK120.out 0
  have hfz15_1:=blk_frozen BK120.out 1
  have hfz15_2:=blk_frozen BK120.out 2
  have hfz15_3:=blk_frozen BK120.out 3
  obtain ⟨Ao16,co16,eo16⟩:=Kd.R_slice HO127.out
  subst eo16
  try go_wp2_with (((with_reducible refine gate_callee (f:=29) rfl ?_);refine goesL_ (some 28) rfl rfl Tryz.func29 (by kernel_rfl) rfl #[.slice Ao16 t125.length co16,.int .i64 (l1_2.length:Int)] rfl (by (try simp only [List.map_toArray,List.map_cons,List.map_nil]);rfl) ?_;(with_reducible refine (num_Put.calls _ _ t125 (l1_2.length:Int) t128 _ ?side1 ?side2 A7.out).mono ?_);(case side1=>repeat (exact (Kd.R_reads' HO127.out).2.2));(case side2=>exact (Kd.R_reads' HO127.out).2.1);rintro e w17 ⟨v129,rfl,ho0,hb⟩;refine ⟨_,rfl,?_⟩;have n0_:=Ak (Kd.R_elder' HO124.out (Kd.R_base ho0) hb);have n1_:=Ak (Kd.R_elder' HO127.out (Kd.R_base ho0) hb);have n2_:=Ak (Kd.R_lower (Kd.R_new' (Kd.R_new' ho0 (Kd.R_lt HO124.out)) (Kd.R_lt HO127.out)) (below_size HB.out));have n3_:=Ak (blk_below (g:=gb120) (o:=.cells #[.string a1_0,.string a1_1,.slice A1_2 l1_2.length c1_2,.slice A1_3 l1_3.length c1_3] 29 (0,0)) BK120.out hb);have n4_:=Ak (below_step HB.out hb);clear HO124;clear HO127;clear BK120;clear HB;have HO124:=n0_;have HO127:=n1_;have HO130:=n2_;have BK120:=n3_;have HB:=n4_;clear n0_ n1_ n2_ n3_ n4_;(try clear hb);(try clear ho0);have hcz18_0:w17.cell? ⟨gb120,0,none⟩=some (.string a1_0):=(blk_cell BK120.out 0).trans rfl;have hcz18_1:w17.cell? ⟨gb120,1,none⟩=some (.string a1_1):=(blk_cell BK120.out 1).trans rfl;have hcz18_2:w17.cell? ⟨gb120,2,none⟩=some (.slice A1_2 l1_2.length c1_2):=(blk_cell BK120.out 2).trans rfl;have hcz18_3:w17.cell? ⟨gb120,3,none⟩=some (.slice A1_3 l1_3.length c1_3):=(blk_cell BK120.out 3).trans rfl;have hfz18_0:=blk_frozen BK120.out 0;have hfz18_1:=blk_frozen BK120.out 1;have hfz18_2:=blk_frozen BK120.out 2;have hfz18_3:=blk_frozen BK120.out 3))
  go_loopg [7,32] k (fun kq v7 v32 w'=>∃ (x7_1:List Int) (x32_1:Int),v32 = .int .i64 x32_1∧Aside0 (evcode_Put.l0 kq x7_1 l1_2 (l1_2.length:Int) x32_1 a1_0 a1_1 l1_2 l1_3=some (r1,r2))∧Aside0 (kq≤k)∧Aside0 (Kd.R (Kd.int .u8) 5 w' w.heap.size (fun _=>True) v7 x7_1)∧Aside0 (w'.heap[gb120]? = some (.cells #[.string a1_0,.string a1_1,(.slice A1_2 l1_2.length c1_2),(.slice A1_3 l1_3.length c1_3)] 29 (0,0)))∧Aside0 (Below w.heap.size w w'))
  case atStart=>exact ⟨(t128),(0),(by rfl),H',⟨Nat.le_refl _⟩,⟨by exact Kd.R_mono HO130.out (fun _ hk=>trivial)⟩,⟨by exact BK120.out⟩,⟨by with_reducible exact HB.out⟩⟩
  case round=>
   clear H'
   try clear c4b0
   try clear c4b1
   try clear hcz15_0
   try clear hcz15_1
   try clear hcz15_2
   try clear hcz15_3
   try clear hcz18_0
   try clear hcz18_1
   try clear hcz18_2
   try clear hcz18_3
   try clear hcz9_0
   try clear hcz9_1
   try clear hcz9_2
   try clear hcz9_3
   try clear hfz15_0
   try clear hfz15_1
   try clear hfz15_2
   try clear hfz15_3
   try clear hfz18_0
   try clear hfz18_1
   try clear hfz18_2
   try clear hfz18_3
   try clear hfz9_0
   try clear hfz9_1
   try clear hfz9_2
   try clear hfz9_3
   obtain ⟨x7_1,x32_1,rfl,HA,HK1,HO_7,BK120,HB⟩:=hrel
   cases gk with
   | zero=>exact absurd HA.out (by simp [evcode_Put.l0])
   | succ k1=>
    have H:=HA.out
    clear HA
    simp only [evcode_Put.l0] at H
    by_cases c19:x32_1 < (l1_2.length:Int)
    ·rw [if_pos c19] at H
     have c19b0:decide (x32_1 < (l1_2.length:Int))=true:=decide_eq_true c19
     clear c19
     by_cases c20:0≤x32_1
     ·rw [if_pos c20] at H
      have c20b0:decide (0≤x32_1)=true:=decide_eq_true c20
      clear c20
      by_cases c21:x32_1 < (l1_2.length:Int)
      ·rw [if_pos c21] at H
       have c21b0:decide (x32_1 < (l1_2.length:Int))=true:=decide_eq_true c21
       clear c21
       replace H:=Option.bind_eq_some_iff.mp H
       obtain ⟨t132,A220,H⟩:=H
       replace H:(evcode_Put.l0 k1 t132 l1_2 (l1_2.length:Int) (wrap64 (x32_1+1)) a1_0 a1_1 l1_2 l1_3)=some (r1,r2):=H
       have A22:=Ak A220
       clear A220
       have H':=Ak H
       clear H
       have p131:0≤(x32_1:Int):=of_decide_eq_true (by (with_reducible assumption))
       have q131:x32_1 < (l1_2.length:Int):=of_decide_eq_true (by (with_reducible assumption))
       obtain ⟨ad131,e131,hx131_0⟩:=Kd.at_string HR1_2.out x32_1 p131 q131
       cases e131
       replace hx131_0:=(HB.out.cell (World.block_lt_of_cell? w _ hx131_0)).trans hx131_0
       replace p131:=eq_true p131
       replace q131:=eq_true q131
       obtain ⟨Ao23,co23,eo23⟩:=Kd.R_slice HO_7.out
       subst eo23
       go_wp2_with (((with_reducible refine gate_callee (f:=31) rfl ?_);refine goesL_ (some 38) rfl rfl Tryz.func31 (by kernel_rfl) rfl #[.slice Ao23 x7_1.length co23,.string (rdOf ByteArray.empty l1_2 x32_1)] rfl (by (try simp only [List.map_toArray,List.map_cons,List.map_nil]);rfl) ?_;(with_reducible refine (num_PutText.calls _ _ x7_1 (rdOf ByteArray.empty l1_2 x32_1) t132 _ ?side1 ?side2 A22.out).mono ?_);(case side1=>repeat (exact (Kd.R_reads' HO_7.out).2.2));(case side2=>exact (Kd.R_reads' HO_7.out).2.1);rintro e w24 ⟨v133,rfl,ho0,hb⟩;refine ⟨_,rfl,?_⟩;have n0_:=Ak (Kd.R_elder' HO_7.out (Kd.R_base ho0) hb);have n1_:=Ak (Kd.R_lower (Kd.R_new' ho0 (Kd.R_lt HO_7.out)) (below_size HB.out));have n2_:=Ak (blk_below (g:=gb120) (o:=.cells #[.string a1_0,.string a1_1,.slice (some ad131) l1_2.length c1_2,.slice A1_3 l1_3.length c1_3] 29 (0,0)) BK120.out hb);have n3_:=Ak (below_step HB.out hb);clear HO_7;clear BK120;clear HB;have HO_7:=n0_;have HO134:=n1_;have BK120:=n2_;have HB:=n3_;clear n0_ n1_ n2_ n3_;(try clear hb);(try clear ho0)))
       go_roundg k1
       case measure=>have:=HK1.out;omega
       case rel=>exact ⟨(t132),(wrap64 (x32_1+1)),(by rfl),H',⟨by have:=HK1.out;omega⟩,⟨by exact Kd.R_mono HO134.out (fun _ hk=>trivial)⟩,⟨by exact BK120.out⟩,⟨by with_reducible exact HB.out⟩⟩
      ·rw [if_neg c21] at H
       exact absurd H (by simp)
     ·rw [if_neg c20] at H
      exact absurd H (by simp)
    ·rw [if_neg c19] at H
     have c19b0:decide (x32_1 < (l1_2.length:Int))=false:=decide_eq_false c19
     clear c19
     replace H:=Option.bind_eq_some_iff.mp H
     obtain ⟨t135,A250,H⟩:=H
     replace H:(evcode_Put.l1 k1 t135 l1_3 (l1_3.length:Int) 0)=some (r1,r2):=H
     have A25:=Ak A250
     clear A250
     have H':=Ak H
     clear H
     have hcz26_0:wr.cell? ⟨gb120,0,none⟩=some (.string a1_0):=(blk_cell BK120.out 0).trans rfl
     have hcz26_1:wr.cell? ⟨gb120,1,none⟩=some (.string a1_1):=(blk_cell BK120.out 1).trans rfl
     have hcz26_2:wr.cell? ⟨gb120,2,none⟩=some (.slice A1_2 l1_2.length c1_2):=(blk_cell BK120.out 2).trans rfl
     have hcz26_3:wr.cell? ⟨gb120,3,none⟩=some (.slice A1_3 l1_3.length c1_3):=(blk_cell BK120.out 3).trans rfl
     have hfz26_0:=blk_frozen BK120.out 0
     have hfz26_1:=blk_frozen BK120.out 1
     have hfz26_2:=blk_frozen BK120.out 2
     have hfz26_3:=blk_frozen BK120.out 3
     obtain ⟨Ao27,co27,eo27⟩:=Kd.R_slice HO_7.out
     subst eo27
     go_wp2_with (((with_reducible refine gate_callee (f:=29) rfl ?_);refine goesL_ (some 44) rfl rfl Tryz.func29 (by kernel_rfl) rfl #[.slice Ao27 x7_1.length co27,.int .i64 (l1_3.length:Int)] rfl (by (try simp only [List.map_toArray,List.map_cons,List.map_nil]);rfl) ?_;(with_reducible refine (num_Put.calls _ _ x7_1 (l1_3.length:Int) t135 _ ?side1 ?side2 A25.out).mono ?_);(case side1=>repeat (exact (Kd.R_reads' HO_7.out).2.2));(case side2=>exact (Kd.R_reads' HO_7.out).2.1);rintro e w28 ⟨v136,rfl,ho0,hb⟩;refine ⟨_,rfl,?_⟩;have n0_:=Ak (Kd.R_elder' HO_7.out (Kd.R_base ho0) hb);have n1_:=Ak (Kd.R_lower (Kd.R_new' ho0 (Kd.R_lt HO_7.out)) (below_size HB.out));have n2_:=Ak (blk_below (g:=gb120) (o:=.cells #[.string a1_0,.string a1_1,.slice A1_2 l1_2.length c1_2,.slice A1_3 l1_3.length c1_3] 29 (0,0)) BK120.out hb);have n3_:=Ak (below_step HB.out hb);clear HO_7;clear BK120;clear HB;have HO_7:=n0_;have HO137:=n1_;have BK120:=n2_;have HB:=n3_;clear n0_ n1_ n2_ n3_;(try clear hb);(try clear ho0);have hcz29_0:w28.cell? ⟨gb120,0,none⟩=some (.string a1_0):=(blk_cell BK120.out 0).trans rfl;have hcz29_1:w28.cell? ⟨gb120,1,none⟩=some (.string a1_1):=(blk_cell BK120.out 1).trans rfl;have hcz29_2:w28.cell? ⟨gb120,2,none⟩=some (.slice A1_2 l1_2.length c1_2):=(blk_cell BK120.out 2).trans rfl;have hcz29_3:w28.cell? ⟨gb120,3,none⟩=some (.slice A1_3 l1_3.length c1_3):=(blk_cell BK120.out 3).trans rfl;have hfz29_0:=blk_frozen BK120.out 0;have hfz29_1:=blk_frozen BK120.out 1;have hfz29_2:=blk_frozen BK120.out 2;have hfz29_3:=blk_frozen BK120.out 3))
     go_loopg [7,48] k1 (fun kq v7 v48 w'=>∃ (x7_2:List Int) (x48_2:Int),v48 = .int .i64 x48_2∧Aside0 (evcode_Put.l1 kq x7_2 l1_3 (l1_3.length:Int) x48_2=some (r1,r2))∧Aside0 (kq≤k1)∧Aside0 (Kd.R (Kd.int .u8) 5 w' w.heap.size (fun _=>True) v7 x7_2)∧Aside0 (w'.heap[gb120]? = some (.cells #[.string a1_0,.string a1_1,(.slice A1_2 l1_2.length c1_2),(.slice A1_3 l1_3.length c1_3)] 29 (0,0)))∧Aside0 (Below w.heap.size w w'))
     case atStart=>exact ⟨(t135),(0),(by rfl),H',⟨Nat.le_refl _⟩,⟨by exact Kd.R_mono HO137.out (fun _ hk=>trivial)⟩,⟨by exact BK120.out⟩,⟨by with_reducible exact HB.out⟩⟩
     case round=>
      clear H'
      try clear c19b0
      try clear hcz26_0
      try clear hcz26_1
      try clear hcz26_2
      try clear hcz26_3
      try clear hcz29_0
      try clear hcz29_1
      try clear hcz29_2
      try clear hcz29_3
      try clear hfz26_0
      try clear hfz26_1
      try clear hfz26_2
      try clear hfz26_3
      try clear hfz29_0
      try clear hfz29_1
      try clear hfz29_2
      try clear hfz29_3
      obtain ⟨x7_2,x48_2,rfl,HA,HK2,HO_7,BK120,HB⟩:=hrel
      cases gk with
      | zero=>exact absurd HA.out (by simp [evcode_Put.l1])
      | succ k2=>
       have H:=HA.out
       clear HA
       simp only [evcode_Put.l1] at H
       by_cases c30:x48_2 < (l1_3.length:Int)
       ·rw [if_pos c30] at H
        have c30b0:decide (x48_2 < (l1_3.length:Int))=true:=decide_eq_true c30
        clear c30
        by_cases c31:0≤x48_2
        ·rw [if_pos c31] at H
         have c31b0:decide (0≤x48_2)=true:=decide_eq_true c31
         clear c31
         by_cases c32:x48_2 < (l1_3.length:Int)
         ·rw [if_pos c32] at H
          have c32b0:decide (x48_2 < (l1_3.length:Int))=true:=decide_eq_true c32
          clear c32
          replace H:=Option.bind_eq_some_iff.mp H
          obtain ⟨t140,A330,H⟩:=H
          replace H:((num_Put.f t140 ((rd_T90 l1_3 x48_2).f1)).bind fun t143=>(evcode_Put.l1 k2 t143 l1_3 (l1_3.length:Int) (wrap64 (x48_2+1))))=some (r1,r2):=H
          have A33:=Ak A330
          clear A330
          replace H:=Option.bind_eq_some_iff.mp H
          obtain ⟨t143,A340,H⟩:=H
          replace H:(evcode_Put.l1 k2 t143 l1_3 (l1_3.length:Int) (wrap64 (x48_2+1)))=some (r1,r2):=H
          have A34:=Ak A340
          clear A340
          have H':=Ak H
          clear H
          have p138:0≤(x48_2:Int):=of_decide_eq_true (by (with_reducible assumption))
          have q138:x48_2 < (l1_3.length:Int):=of_decide_eq_true (by (with_reducible assumption))
          obtain ⟨ad138,e138,hx138_0,hx138_1⟩:=at_T90 HR1_3.out x48_2 p138 q138
          cases e138
          replace hx138_0:=(HB.out.cell (World.block_lt_of_cell? w _ hx138_0)).trans hx138_0
          replace hx138_1:=(HB.out.cell (World.block_lt_of_cell? w _ hx138_1)).trans hx138_1
          replace p138:=eq_true p138
          replace q138:=eq_true q138
          try go_wp2_with (((with_reducible refine gate_dst (N:=11) rfl ?_);refine box_event ?hg (N:=11) ?hd (cs:=#[.string (⟨#[]⟩:ByteArray),.int .i64 0]) (t:=90) ?hr ?_;(case hd=>rfl);(case hg=>rfl);(case hr=>(go_simp;done));intro gb139 hg w35 hbox hb;have n0_:=Ak (Kd.R_below HO_7.out hb);have n1_:=Ak (blk_below (g:=gb120) (o:=.cells #[.string a1_0,.string a1_1,.slice A1_2 l1_2.length c1_2,.slice (some ad138) l1_3.length c1_3] 29 (0,0)) BK120.out hb);have n2_:=Ak (below_step HB.out hb);have n3_:=Ak (hbox);have n4_:=Ak ((by rw [hg];exact (below_size HB.out):w.heap.size≤gb139));have n5_:=Ak ((by rw [hg];exact (below_size HB.out):w.heap.size≤gb139));have n6_:=Ak ((by rw [hg];exact Nat.ne_of_lt (blk_lt (g:=gb120) (o:=.cells #[.string a1_0,.string a1_1,.slice A1_2 l1_2.length c1_2,.slice (some ad138) l1_3.length c1_3] 29 (0,0)) BK120.out):gb120≠gb139));have n7_:=Ak ((by rw [hg];exact Nat.ne_of_gt (blk_lt (g:=gb120) (o:=.cells #[.string a1_0,.string a1_1,.slice A1_2 l1_2.length c1_2,.slice (some ad138) l1_3.length c1_3] 29 (0,0)) BK120.out):gb139≠gb120));clear HO_7;clear BK120;clear HB;have HO_7:=n0_;have BK120:=n1_;have HB:=n2_;have BK139:=n3_;have GW139:=n4_;have GE139:=n5_;have NB120_139:=n6_;have NB139_120:=n7_;clear n0_ n1_ n2_ n3_ n4_ n5_ n6_ n7_;clear hb hbox hg;have hnb36:=NB139_120.out;have hnc36:=NB120_139.out;have hcz37_0:w35.cell? ⟨gb139,0,none⟩=some (.string (⟨#[]⟩:ByteArray)):=(blk_cell BK139.out 0).trans rfl;have hcz37_1:w35.cell? ⟨gb139,1,none⟩=some (.int .i64 0):=(blk_cell BK139.out 1).trans rfl;have hfz37_0:=blk_frozen BK139.out 0;have hfz37_1:=blk_frozen BK139.out 1))
          have n0_:Aside0 (Kd.R (Kd.int .u8) 5 ((w35.setCell ⟨gb139,0,none⟩ (.string ((rd_T90 l1_3 x48_2).f0))).setCell ⟨gb139,1,none⟩ (.int .i64 ((rd_T90 l1_3 x48_2).f1))) w.heap.size (fun _=>True) u7 x7_2):=⟨by exact Kd.R_mono (Kd.R_far (p:=⟨gb139,1,none⟩) (Kd.R_far (p:=⟨gb139,0,none⟩) (Kd.R_types HO_7.out BK139.out (by decide)) (fun _ hk=>hk.2) (.string ((rd_T90 l1_3 x48_2).f0))) (fun _ hk=>hk.2) (.int .i64 ((rd_T90 l1_3 x48_2).f1))) (fun _ hk=>trivial)⟩
          have n1_:Aside0 (((w35.setCell ⟨gb139,0,none⟩ (.string ((rd_T90 l1_3 x48_2).f0))).setCell ⟨gb139,1,none⟩ (.int .i64 ((rd_T90 l1_3 x48_2).f1))).heap[gb120]? = some (.cells #[.string a1_0,.string a1_1,.slice A1_2 l1_2.length c1_2,.slice (some ad138) l1_3.length c1_3] 29 (0,0))):=⟨by refine blk_far ?_ NB120_139.out _;refine blk_far ?_ NB120_139.out _;exact BK120.out⟩
          have n2_:Aside0 (((w35.setCell ⟨gb139,0,none⟩ (.string ((rd_T90 l1_3 x48_2).f0))).setCell ⟨gb139,1,none⟩ (.int .i64 ((rd_T90 l1_3 x48_2).f1))).heap[gb139]? = some (.cells #[.string ((rd_T90 l1_3 x48_2).f0),.int .i64 ((rd_T90 l1_3 x48_2).f1)] 90 (0,0))):=⟨by refine blk_put (cs:=#[.string ((rd_T90 l1_3 x48_2).f0),.int .i64 0]) ?_ 1 _ rfl;refine blk_put (cs:=#[.string (⟨#[]⟩:ByteArray),.int .i64 0]) ?_ 0 _ rfl;exact BK139.out⟩
          have n3_:Aside0 (Below w.heap.size w ((w35.setCell ⟨gb139,0,none⟩ (.string ((rd_T90 l1_3 x48_2).f0))).setCell ⟨gb139,1,none⟩ (.int .i64 ((rd_T90 l1_3 x48_2).f1)))):=⟨by repeat (with_reducible first | exact HB.out | refine below_set ?_ GE139.out)⟩
          (try clear HO_7)
          (try clear BK120)
          (try clear BK139)
          (try clear HB)
          generalize ((w35.setCell ⟨gb139,0,none⟩ (.string ((rd_T90 l1_3 x48_2).f0))).setCell ⟨gb139,1,none⟩ (.int .i64 ((rd_T90 l1_3 x48_2).f1)))=w38 at n0_ n1_ n2_ n3_ ⊢
          have HO_7:=n0_
          have BK120:=n1_
          have BK139:=n2_
          have HB:=n3_
          clear n0_ n1_ n2_ n3_
          replace HO_7:=Ak (Kd.R_drew HO_7.out)
          replace BK120:=Ak (blk_drew BK120.out)
          replace BK139:=Ak (blk_drew BK139.out)
          replace HB:=Ak (below_drew1 HB.out)
          obtain ⟨Ao40,co40,eo40⟩:=Kd.R_slice HO_7.out
          (subst eo40)
          refine start_ (n:=8) (S:=fun w'=>w'.cell? ⟨gb139,0,none⟩=some (.string ((rd_T90 l1_3 x48_2).f0))∧w'.cell? ⟨gb139,1,none⟩=some (.int .i64 ((rd_T90 l1_3 x48_2).f1))) (ds:=[]) #[false,false,false,false,false,false,false,false] (by kernel_rfl) rfl rfl ⟨(blk_cell BK139.out 0).trans rfl,(blk_cell BK139.out 1).trans rfl⟩ (fun hHeld=>?_);refine with_tabW evcode_Put.tab15 evcode_Put.bits15 (fun HT_ HW_=>?_)
          generalize w38.drew=w39 at HO_7 BK120 BK139 HB hHeld ⊢
          refine pure_ (i:=0) (N:=some 52) (v:=?_) (a':=?_) #[true,false,false,false,false,false,false,false] rfl rfl (any_of HT_.out (by kernel_rfl)) (fun _ _ _ h=>h) (Or.inl ⟨by rfl,?_⟩) ?_ ?_
          rotate_left
          ·intro w'
           go_simp
           with_reducible rfl
          rotate_left
          ·simp only [Act.put,List.setIfInBounds_toArray,List.set_cons_zero,List.set_cons_succ,i64_w,i32_w]
           rfl
          refine pure_ (i:=1) (N:=some 53) (v:=?_) (a':=?_) #[true,true,false,false,false,false,false,false] rfl rfl (any_of HT_.out (by kernel_rfl)) (fun _ _ _ h=>h) (Or.inl ⟨by rfl,?_⟩) ?_ ?_
          rotate_left
          ·intro w'
           go_simp
           with_reducible rfl
          rotate_left
          ·simp only [Act.put,List.setIfInBounds_toArray,List.set_cons_zero,List.set_cons_succ,i64_w,i32_w]
           rfl
          refine pure_ (i:=4) (N:=some 56) (v:=?_) (a':=?_) #[true,true,false,false,true,false,false,false] rfl rfl (any_of HT_.out (by kernel_rfl)) (fun _ _ _ h=>h) (Or.inl ⟨by rfl,?_⟩) ?_ ?_
          rotate_left
          ·intro w'
           go_simp
           with_reducible rfl
          rotate_left
          ·simp only [Act.put,List.setIfInBounds_toArray,List.set_cons_zero,List.set_cons_succ,i64_w,i32_w]
           rfl
          refine take_ (i:=2) (N:=some 54) (v:=?_) (a':=?_) #[true,true,true,false,true,false,false,false] rfl rfl (take_ofW HT_.out HW_.out (by kernel_rfl)) (fun _ _ _ h=>h) (Or.inl ⟨by rfl,?_⟩) hHeld ?_ ?_
          rotate_left
          ·rintro w' ⟨s0,s1⟩
           go_simp
           with_reducible rfl
          rotate_left
          ·simp only [Act.put,List.setIfInBounds_toArray,List.set_cons_zero,List.set_cons_succ,i64_w,i32_w]
           rfl
          refine take_ (i:=5) (N:=some 57) (v:=?_) (a':=?_) #[true,true,true,false,true,true,false,false] rfl rfl (take_ofW HT_.out HW_.out (by kernel_rfl)) (fun _ _ _ h=>h) (Or.inl ⟨by rfl,?_⟩) hHeld ?_ ?_
          rotate_left
          ·rintro w' ⟨s0,s1⟩
           go_simp
           with_reducible rfl
          rotate_left
          ·simp only [Act.put,List.setIfInBounds_toArray,List.set_cons_zero,List.set_cons_succ,i64_w,i32_w]
           rfl
          refine one_ (i:=3) (N:=some 55) #[true,true,true,true,true,true,false,false] rfl rfl (one_of HT_.out (by kernel_rfl)) (by decide) (fun K hK=>?_)
          refine goes_ Tryz.func31 (by kernel_rfl) rfl #[.slice Ao40 x7_2.length co40,.string ((rd_T90 l1_3 x48_2).f0)] (by rfl) rfl rfl (by (try simp only [List.map_toArray,List.map_cons,List.map_nil]);rfl) ?_
          with_reducible refine (num_PutText.calls _ _ x7_2 ((rd_T90 l1_3 x48_2).f0) t140 _ ?side1 ?side2 A33.out).mono ?_
          (case side1=>repeat (exact (Kd.R_reads' HO_7.out).2.2))
          (case side2=>exact (Kd.R_reads' HO_7.out).2.1)
          rintro e w41 ⟨v141,rfl,ho0,hb⟩
          refine ⟨_,rfl,?_⟩
          have n0_:=Ak (Kd.R_elder' HO_7.out (Kd.R_base ho0) hb)
          have n1_:=Ak (Kd.R_lower (Kd.R_new' ho0 (Kd.R_lt HO_7.out)) (below_size HB.out))
          have n2_:=Ak (blk_below (g:=gb120) (o:=.cells #[.string a1_0,.string a1_1,.slice A1_2 l1_2.length c1_2,.slice (some ad138) l1_3.length c1_3] 29 (0,0)) BK120.out hb)
          have n3_:=Ak (blk_below (g:=gb139) (o:=.cells #[.string ((rd_T90 l1_3 x48_2).f0),.int .i64 ((rd_T90 l1_3 x48_2).f1)] 90 (0,0)) BK139.out hb)
          have n4_:=Ak (below_step HB.out hb)
          clear HO_7
          clear BK120
          clear BK139
          clear HB
          have HO_7:=n0_
          have HO142:=n1_
          have BK120:=n2_
          have BK139:=n3_
          have HB:=n4_
          clear n0_ n1_ n2_ n3_ n4_
          (try clear hb)
          (try clear ho0)
          obtain ⟨Ao42,co42,eo42⟩:=Kd.R_slice HO142.out
          (subst eo42)
          refine hK.out _ _ ⟨(blk_cell BK139.out 0).trans rfl,(blk_cell BK139.out 1).trans rfl⟩ (fun hHeld=>?_)
          clear hK K
          refine norm_ (a':=?_) ?_ ?_
          rotate_left
          ·show Act.put _ (some 55) _=_
           simp only [Act.put,List.setIfInBounds_toArray,List.set_cons_zero,List.set_cons_succ,i64_w,i32_w]
           rfl
          refine one_ (i:=6) (N:=some 58) #[true,true,true,true,true,true,true,false] rfl rfl (one_of HT_.out (by kernel_rfl)) (by decide) (fun K hK=>?_)
          refine goes_ Tryz.func29 (by kernel_rfl) rfl #[.slice Ao42 t140.length co42,.int .i64 ((rd_T90 l1_3 x48_2).f1)] (by rfl) rfl rfl (by (try simp only [List.map_toArray,List.map_cons,List.map_nil]);rfl) ?_
          with_reducible refine (num_Put.calls _ _ t140 ((rd_T90 l1_3 x48_2).f1) t143 _ ?side1 ?side2 A34.out).mono ?_
          (case side1=>repeat (exact (Kd.R_reads' HO142.out).2.2))
          (case side2=>exact (Kd.R_reads' HO142.out).2.1)
          rintro e w43 ⟨v144,rfl,ho0,hb⟩
          refine ⟨_,rfl,?_⟩
          have n0_:=Ak (Kd.R_elder' HO_7.out (Kd.R_base ho0) hb)
          have n1_:=Ak (Kd.R_elder' HO142.out (Kd.R_base ho0) hb)
          have n2_:=Ak (Kd.R_lower (Kd.R_new' (Kd.R_new' ho0 (Kd.R_lt HO_7.out)) (Kd.R_lt HO142.out)) (below_size HB.out))
          have n3_:=Ak (blk_below (g:=gb120) (o:=.cells #[.string a1_0,.string a1_1,.slice A1_2 l1_2.length c1_2,.slice (some ad138) l1_3.length c1_3] 29 (0,0)) BK120.out hb)
          have n4_:=Ak (blk_below (g:=gb139) (o:=.cells #[.string ((rd_T90 l1_3 x48_2).f0),.int .i64 ((rd_T90 l1_3 x48_2).f1)] 90 (0,0)) BK139.out hb)
          have n5_:=Ak (below_step HB.out hb)
          clear HO_7
          clear HO142
          clear BK120
          clear BK139
          clear HB
          have HO_7:=n0_
          have HO142:=n1_
          have HO145:=n2_
          have BK120:=n3_
          have BK139:=n4_
          have HB:=n5_
          clear n0_ n1_ n2_ n3_ n4_ n5_
          (try clear hb)
          (try clear ho0)
          refine hK.out _ _ ⟨(blk_cell BK139.out 0).trans rfl,(blk_cell BK139.out 1).trans rfl⟩ (fun hHeld=>?_)
          clear hK K
          refine norm_ (a':=?_) ?_ ?_
          rotate_left
          ·show Act.put _ (some 58) _=_
           simp only [Act.put,List.setIfInBounds_toArray,List.set_cons_zero,List.set_cons_succ,i64_w,i32_w]
           rfl
          refine pure_ (i:=7) (N:=some 7) (v:=?_) (a':=?_) #[true,true,true,true,true,true,true,true] rfl rfl (any_of HT_.out (by kernel_rfl)) (fun _ _ _ h=>h) (Or.inl ⟨by rfl,?_⟩) ?_ ?_
          rotate_left
          ·intro w'
           go_simp
           with_reducible rfl
          rotate_left
          ·simp only [Act.put,List.setIfInBounds_toArray,List.set_cons_zero,List.set_cons_succ,i64_w,i32_w]
           rfl
          refine done_ (done_of HT_.out (by kernel_rfl)) ?_
          try go_wp2
          go_roundg k2
          case measure=>have:=HK1.out;have:=HK2.out;omega
          case rel=>exact ⟨(t143),(wrap64 (x48_2+1)),(by rfl),H',⟨by have:=HK1.out;have:=HK2.out;omega⟩,⟨by exact Kd.R_mono HO145.out (fun _ hk=>trivial)⟩,⟨by exact BK120.out⟩,⟨by with_reducible exact HB.out⟩⟩
         ·rw [if_neg c32] at H
          exact absurd H (by simp)
        ·rw [if_neg c31] at H
         exact absurd H (by simp)
       ·rw [if_neg c30] at H
        have c30b0:decide (x48_2 < (l1_3.length:Int))=false:=decide_eq_false c30
        clear c30
        simp only [Option.some.injEq,Prod.mk.injEq] at H
        obtain ⟨rfl,rfl⟩:=H
        go_wp2
        go_ret2
        exact ⟨_,by rfl,by exact HO_7.out,by with_reducible exact HB.out⟩
 ·rw [if_neg c4] at H
  have c4b0:(t121 == 0)=false:=beq_eq_false_iff_ne.mpr c4
  have c4b1:(t121 != 0)=true:=bne_iff_ne.mpr c4
  simp only [Option.some.injEq,Prod.mk.injEq] at H
  obtain ⟨rfl,rfl⟩:=H
  go_enter Tryz.func33,Tryz.ntmps33
  go_wp2_with (first | ((with_reducible refine gate_dst (N:=3) rfl ?_);refine box_event ?hg (N:=3) ?hd (cs:=#[.string a1_0,.string a1_1,.slice A1_2 l1_2.length c1_2,.slice A1_3 l1_3.length c1_3]) (t:=29) ?hr ?_;(case hd=>rfl);(case hg=>rfl);(case hr=>(go_simp;done));intro gb120 hg w44 hbox hb;have n0_:=Ak (below_step HB.out hb);have n1_:=Ak (hbox);have n2_:=Ak ((by rw [hg];exact (below_size HB.out):w.heap.size≤gb120));have n3_:=Ak ((by rw [hg];exact (below_size HB.out):w.heap.size≤gb120));clear HB;have HB:=n0_;have BK120:=n1_;have GW120:=n2_;have GE120:=n3_;clear n0_ n1_ n2_ n3_;clear hb hbox hg;have hcz45_0:w44.cell? ⟨gb120,0,none⟩=some (.string a1_0):=(blk_cell BK120.out 0).trans rfl;have hcz45_1:w44.cell? ⟨gb120,1,none⟩=some (.string a1_1):=(blk_cell BK120.out 1).trans rfl;have hcz45_2:w44.cell? ⟨gb120,2,none⟩=some (.slice A1_2 l1_2.length c1_2):=(blk_cell BK120.out 2).trans rfl;have hcz45_3:w44.cell? ⟨gb120,3,none⟩=some (.slice A1_3 l1_3.length c1_3):=(blk_cell BK120.out 3).trans rfl;have hfz45_0:=blk_frozen BK120.out 0;have hfz45_1:=blk_frozen BK120.out 1;have hfz45_2:=blk_frozen BK120.out 2;have hfz45_3:=blk_frozen BK120.out 3) | ((with_reducible refine gate_callee (f:=52) rfl ?_);refine goesL_ (some 13) rfl rfl Tryz.func52 (by kernel_rfl) rfl #[.agg #[.string a1_0,.string a1_1,.slice A1_2 l1_2.length c1_2,.slice A1_3 l1_3.length c1_3]] rfl (by (try simp only [List.map_toArray,List.map_cons,List.map_nil]);rfl) ?_;(with_reducible refine (event_May.calls a1_0 a1_1 _ _ l1_2 _ _ l1_3 t121 _ ?side1 ?side2 ?side3 ?side4 A3.out).mono ?_);(case side1=>repeat (exact (Kd.C_below HR1_2.out HB.out)));(case side2=>exact HC1_2.out);(case side3=>repeat (exact (Kd.C_below HR1_3.out HB.out)));(case side4=>exact HC1_3.out);rintro e w46 ⟨rfl,hb⟩;refine ⟨_,rfl,?_⟩;have n0_:=Ak (blk_below (g:=gb120) (o:=.cells #[.string a1_0,.string a1_1,.slice A1_2 l1_2.length c1_2,.slice A1_3 l1_3.length c1_3] 29 (0,0)) BK120.out hb);have n1_:=Ak (below_step HB.out hb);clear BK120;clear HB;have BK120:=n0_;have HB:=n1_;clear n0_ n1_;(try clear hb)))
  go_ret2
  exact ⟨_,by rfl,by exact Kd.R_nil _ _ _ _ _,by with_reducible exact HB.out⟩
end Go.Proofs.YtocpcnmnhckcpaaGreat.Prt
namespace Go.Proofs.YtocpcnmnhckcpaaGreat.Prt
open RowKit YtocpcnmnhckcpaaGreatW.PrintWords YtocpcnmnhckcpaaGreatW.PrintLast YtocpcnmnhckcpaaGreatW.PrintMore
attribute [local go_sem] max2_int min2_int max_two min_two max_three min_three max_four min_four
mutual
def q05_Put.l0:Nat→List Int→Int→ByteArray→ByteArray→List ByteArray→List (S90)→Option (List Int × Int)
 | 0,_,_,_,_,_,_=>none
 | k+1,x7,x8,x222000,x222001,x222002,x222003=>if x8 < (x222002.length:Int) then (if 0≤x8 then ((q01_PutText.f x7 (rdOf ByteArray.empty x222002 x8)).bind fun t233=>(q05_Put.l0 k t233 (wrap64 (x8+1)) x222000 x222001 x222002 x222003)) else (none)) else ((q01_Put.f x7 (x222003.length:Int)).bind fun t236=>(q05_Put.l1 k t236 0 x222000 x222001 x222002 x222003))
def q05_Put.l1:Nat→List Int→Int→ByteArray→ByteArray→List ByteArray→List (S90)→Option (List Int × Int)
 | 0,_,_,_,_,_,_=>none
 | k+1,x7,x9,x222000,x222001,x222002,x222003=>if x9 < (x222003.length:Int) then (if 0≤x9 then ((q01_PutText.f x7 ((rd_T90 x222003 x9).f0)).bind fun t240=>((q01_Put.f t240 ((rd_T90 x222003 x9).f1)).bind fun t244=>(q05_Put.l1 k t244 (wrap64 (x9+1)) x222000 x222001 x222002 x222003))) else (none)) else (some (x7,0))
end
def q05_Put.f (k:Nat) (l0:List Int) (a1_0:ByteArray) (a1_1:ByteArray) (l1_2:List ByteArray) (l1_3:List (S90)):Option (List Int × Int):=(q04_MayG.f a1_0 a1_1 l1_2 l1_3).bind fun t222=>(if t222=0 then ((q01_PutText.f l0 a1_0).bind fun t223=>((q01_PutText.f t223 a1_1).bind fun t226=>((q01_Put.f t226 (l1_2.length:Int)).bind fun t229=>(q05_Put.l0 k t229 0 a1_0 a1_1 l1_2 l1_3)))) else (some (([]:List Int),t222)))
def q05_Put.T4:Bool × List (List Nat × List Nat):=(true,[([],[]),([],[]),([1],[1]),([0,2],[0,2]),([],[]),([4],[4]),([3,5,3],[3,5]),([6,6,0,1,2,3,4,5,6],[6])])
def q05_Put.B4:List Nat:=[0,0,2,7,0,16,63,127]
theorem q05_Put.tab4:rtab .any (opsOf Tryz.f38 4)=q05_Put.T4:=by kernel_rfl
theorem q05_Put.bits4:waitsOk q05_Put.T4.2 q05_Put.B4=true:=by kernel_rfl
def q05_Put.T14:Bool × List (List Nat × List Nat):=(true,[([],[]),([],[]),([1],[1]),([],[]),([2,3],[2,3]),([4],[4]),([5],[5]),([0,6],[0,6]),([],[]),([8],[8]),([],[]),([9,10],[9,10]),([11],[11]),([12],[12]),([7,13,7],[7,13]),([14,14,0,1,2,3,4,5,6,7,8,9,10,11,12,13,14],[0,14])])
def q05_Put.B14:List Nat:=[0,0,2,0,14,30,62,127,0,256,0,1792,3840,7936,16383,32767]
theorem q05_Put.tab14:rtab .any (opsOf Tryz.f38 14)=q05_Put.T14:=by kernel_rfl
theorem q05_Put.bits14:waitsOk q05_Put.T14.2 q05_Put.B14=true:=by kernel_rfl
set_option maxHeartbeats 8000000 in
set_option maxRecDepth 100000 in
theorem q05_Put.calls (k:Nat) (A0:Option Addr) (c0:Nat) (l0:List Int) (a1_0:ByteArray) (a1_1:ByteArray) (A1_2:Option Addr) (c1_2:Nat) (l1_2:List ByteArray) (A1_3:Option Addr) (c1_3:Nat) (l1_3:List (S90)) (r1:List Int) (r2:Int) (w:World) (hr0:Kd.C (Kd.int .u8) w A0 l0.length l0) (hc0:l0.length≤c0) (hr1_2:Kd.C Kd.string w A1_2 l1_2.length l1_2) (hc1_2:l1_2.length≤c1_2) (hr1_3:Kd.C k90 w A1_3 l1_3.length l1_3) (hc1_3:l1_3.length≤c1_3) (h:q05_Put.f k l0 a1_0 a1_1 l1_2 l1_3=some (r1,r2)) :
  Calls Tryz.prog 38 #[.slice A0 l0.length c0,.agg #[.string a1_0,.string a1_1,.slice A1_2 l1_2.length c1_2,.slice A1_3 l1_3.length c1_3]] w fun e w'=>∃ v0_:Value,e = .returned (.tuple #[v0_,.int .i64 r2])∧Kd.R (Kd.int .u8) 5 w' w.heap.size (fun _=>True) v0_ r1∧Below w.heap.size w w':=by
 have hu29:=Tryz.underlying29
 have HR0:=Ak hr0
 have HC0:=Ak hc0
 clear hr0 hc0
 have HR1_2:=Ak hr1_2
 have HC1_2:=Ak hc1_2
 clear hr1_2 hc1_2
 have HR1_3:=Ak hr1_3
 have HC1_3:=Ak hc1_3
 clear hr1_3 hc1_3
 have HB:=Ak (Below.refl w.heap.size w)
 have H:((q04_MayG.f a1_0 a1_1 l1_2 l1_3).bind fun t222=>(if t222=0 then ((q01_PutText.f l0 a1_0).bind fun t223=>((q01_PutText.f t223 a1_1).bind fun t226=>((q01_Put.f t226 (l1_2.length:Int)).bind fun t229=>(q05_Put.l0 k t229 0 a1_0 a1_1 l1_2 l1_3)))) else (some (([]:List Int),t222))))=some (r1,r2):=h
 clear h
 replace H:=Option.bind_eq_some_iff.mp H
 obtain ⟨t222,A30,H⟩:=H
 replace H:(if t222=0 then ((q01_PutText.f l0 a1_0).bind fun t223=>((q01_PutText.f t223 a1_1).bind fun t226=>((q01_Put.f t226 (l1_2.length:Int)).bind fun t229=>(q05_Put.l0 k t229 0 a1_0 a1_1 l1_2 l1_3)))) else (some (([]:List Int),t222)))=some (r1,r2):=H
 have A3:=Ak A30
 clear A30
 by_cases c4:t222=0
 ·rw [if_pos c4] at H
  have c4b0:(t222 == 0)=true:=beq_iff_eq.mpr c4
  have c4b1:(t222 != 0)=false:=bne_eq_false_iff_eq.mpr c4
  clear c4
  replace H:=Option.bind_eq_some_iff.mp H
  obtain ⟨t223,A50,H⟩:=H
  replace H:((q01_PutText.f t223 a1_1).bind fun t226=>((q01_Put.f t226 (l1_2.length:Int)).bind fun t229=>(q05_Put.l0 k t229 0 a1_0 a1_1 l1_2 l1_3)))=some (r1,r2):=H
  have A5:=Ak A50
  clear A50
  replace H:=Option.bind_eq_some_iff.mp H
  obtain ⟨t226,A60,H⟩:=H
  replace H:((q01_Put.f t226 (l1_2.length:Int)).bind fun t229=>(q05_Put.l0 k t229 0 a1_0 a1_1 l1_2 l1_3))=some (r1,r2):=H
  have A6:=Ak A60
  clear A60
  replace H:=Option.bind_eq_some_iff.mp H
  obtain ⟨t229,A70,H⟩:=H
  replace H:(q05_Put.l0 k t229 0 a1_0 a1_1 l1_2 l1_3)=some (r1,r2):=H
  have A7:=Ak A70
  clear A70
  have H':=Ak H
  clear H
  go_enter Tryz.func38,Tryz.ntmps38
  try go_wp2_with (first | ((with_reducible refine gate_dst (N:=3) rfl ?_);refine box_event ?hg (N:=3) ?hd (cs:=#[.string a1_0,.string a1_1,.slice A1_2 l1_2.length c1_2,.slice A1_3 l1_3.length c1_3]) (t:=29) ?hr ?_;(case hd=>rfl);(case hg=>rfl);(case hr=>(go_simp;done));intro gb221 hg w8 hbox hb;have n0_:=Ak (below_step HB.out hb);have n1_:=Ak (hbox);have n2_:=Ak ((by rw [hg];exact (below_size HB.out):w.heap.size≤gb221));have n3_:=Ak ((by rw [hg];exact (below_size HB.out):w.heap.size≤gb221));clear HB;have HB:=n0_;have BK221:=n1_;have GW221:=n2_;have GE221:=n3_;clear n0_ n1_ n2_ n3_;clear hb hbox hg;have hcz9_0:w8.cell? ⟨gb221,0,none⟩=some (.string a1_0):=(blk_cell BK221.out 0).trans rfl;have hcz9_1:w8.cell? ⟨gb221,1,none⟩=some (.string a1_1):=(blk_cell BK221.out 1).trans rfl;have hcz9_2:w8.cell? ⟨gb221,2,none⟩=some (.slice A1_2 l1_2.length c1_2):=(blk_cell BK221.out 2).trans rfl;have hcz9_3:w8.cell? ⟨gb221,3,none⟩=some (.slice A1_3 l1_3.length c1_3):=(blk_cell BK221.out 3).trans rfl;have hfz9_0:=blk_frozen BK221.out 0;have hfz9_1:=blk_frozen BK221.out 1;have hfz9_2:=blk_frozen BK221.out 2;have hfz9_3:=blk_frozen BK221.out 3) | ((with_reducible refine gate_callee (f:=60) rfl ?_);refine goesL_ (some 11) rfl rfl Tryz.func60 (by kernel_rfl) rfl #[.agg #[.string a1_0,.string a1_1,.slice A1_2 l1_2.length c1_2,.slice A1_3 l1_3.length c1_3]] rfl (by (try simp only [List.map_toArray,List.map_cons,List.map_nil]);rfl) ?_;(with_reducible refine (q04_MayG.calls a1_0 a1_1 _ _ l1_2 _ _ l1_3 t222 _ ?side1 ?side2 ?side3 ?side4 A3.out).mono ?_);(case side1=>repeat (exact (Kd.C_below HR1_2.out HB.out)));(case side2=>exact HC1_2.out);(case side3=>repeat (exact (Kd.C_below HR1_3.out HB.out)));(case side4=>exact HC1_3.out);rintro e w10 ⟨rfl,hb⟩;refine ⟨_,rfl,?_⟩;have n0_:=Ak (blk_below (g:=gb221) (o:=.cells #[.string a1_0,.string a1_1,.slice A1_2 l1_2.length c1_2,.slice A1_3 l1_3.length c1_3] 29 (0,0)) BK221.out hb);have n1_:=Ak (below_step HB.out hb);clear BK221;clear HB;have BK221:=n0_;have HB:=n1_;clear n0_ n1_;(try clear hb)))
  replace BK221:=Ak (blk_drew BK221.out)
  replace HB:=Ak (below_drew1 HB.out)
  refine start_ (n:=8) (S:=fun w'=>w'.cell? ⟨gb221,0,none⟩=some (.string a1_0)∧w'.cell? ⟨gb221,1,none⟩=some (.string a1_1)∧w'.cell? ⟨gb221,2,none⟩=some (.slice A1_2 l1_2.length c1_2)∧w'.cell? ⟨gb221,3,none⟩=some (.slice A1_3 l1_3.length c1_3)) (ds:=[]) #[false,false,false,false,false,false,false,false] (by kernel_rfl) rfl rfl ⟨(blk_cell BK221.out 0).trans rfl,(blk_cell BK221.out 1).trans rfl,(blk_cell BK221.out 2).trans rfl,(blk_cell BK221.out 3).trans rfl⟩ (fun hHeld=>?_);refine with_tabW q05_Put.tab4 q05_Put.bits4 (fun HT_ HW_=>?_)
  generalize w10.drew=w11 at BK221 HB hHeld ⊢
  refine pure_ (i:=0) (N:=some 15) (v:=?_) (a':=?_) #[true,false,false,false,false,false,false,false] rfl rfl (any_of HT_.out (by kernel_rfl)) (fun _ _ _ h=>h) (Or.inl ⟨by rfl,?_⟩) ?_ ?_
  rotate_left
  ·intro w'
   go_simp
   with_reducible rfl
  rotate_left
  ·simp only [Act.put,List.setIfInBounds_toArray,List.set_cons_zero,List.set_cons_succ,i64_w,i32_w]
   rfl
  refine pure_ (i:=1) (N:=some 16) (v:=?_) (a':=?_) #[true,true,false,false,false,false,false,false] rfl rfl (any_of HT_.out (by kernel_rfl)) (fun _ _ _ h=>h) (Or.inl ⟨by rfl,?_⟩) ?_ ?_
  rotate_left
  ·intro w'
   go_simp
   with_reducible rfl
  rotate_left
  ·simp only [Act.put,List.setIfInBounds_toArray,List.set_cons_zero,List.set_cons_succ,i64_w,i32_w]
   rfl
  refine pure_ (i:=4) (N:=some 19) (v:=?_) (a':=?_) #[true,true,false,false,true,false,false,false] rfl rfl (any_of HT_.out (by kernel_rfl)) (fun _ _ _ h=>h) (Or.inl ⟨by rfl,?_⟩) ?_ ?_
  rotate_left
  ·intro w'
   go_simp
   with_reducible rfl
  rotate_left
  ·simp only [Act.put,List.setIfInBounds_toArray,List.set_cons_zero,List.set_cons_succ,i64_w,i32_w]
   rfl
  refine take_ (i:=2) (N:=some 17) (v:=?_) (a':=?_) #[true,true,true,false,true,false,false,false] rfl rfl (take_ofW HT_.out HW_.out (by kernel_rfl)) (fun _ _ _ h=>h) (Or.inl ⟨by rfl,?_⟩) hHeld ?_ ?_
  rotate_left
  ·rintro w' ⟨s0,s1,s2,s3⟩
   go_simp
   with_reducible rfl
  rotate_left
  ·simp only [Act.put,List.setIfInBounds_toArray,List.set_cons_zero,List.set_cons_succ,i64_w,i32_w]
   rfl
  refine take_ (i:=5) (N:=some 20) (v:=?_) (a':=?_) #[true,true,true,false,true,true,false,false] rfl rfl (take_ofW HT_.out HW_.out (by kernel_rfl)) (fun _ _ _ h=>h) (Or.inl ⟨by rfl,?_⟩) hHeld ?_ ?_
  rotate_left
  ·rintro w' ⟨s0,s1,s2,s3⟩
   go_simp
   with_reducible rfl
  rotate_left
  ·simp only [Act.put,List.setIfInBounds_toArray,List.set_cons_zero,List.set_cons_succ,i64_w,i32_w]
   rfl
  refine one_ (i:=3) (N:=some 18) #[true,true,true,true,true,true,false,false] rfl rfl (one_of HT_.out (by kernel_rfl)) (by decide) (fun K hK=>?_)
  refine goes_ Tryz.func37 (by kernel_rfl) rfl #[.slice A0 l0.length c0,.string a1_0] (by rfl) rfl rfl (by (try simp only [List.map_toArray,List.map_cons,List.map_nil]);rfl) ?_
  with_reducible refine (q01_PutText.calls _ _ l0 a1_0 t223 _ ?side1 ?side2 A5.out).mono ?_
  (case side1=>repeat (exact (Kd.C_below HR0.out HB.out)))
  (case side2=>exact HC0.out)
  rintro e w12 ⟨v224,rfl,ho0,hb⟩
  refine ⟨_,rfl,?_⟩
  have HO225:=Ak (Kd.R_lower ho0 (below_size HB.out))
  replace BK221:=Ak (blk_below (g:=gb221) (o:=.cells #[.string a1_0,.string a1_1,.slice A1_2 l1_2.length c1_2,.slice A1_3 l1_3.length c1_3] 29 (0,0)) BK221.out hb)
  replace HB:=Ak (below_step HB.out hb)
  (try clear hb)
  (try clear ho0)
  obtain ⟨Ao13,co13,eo13⟩:=Kd.R_slice HO225.out
  (subst eo13)
  refine hK.out _ _ ⟨(blk_cell BK221.out 0).trans rfl,(blk_cell BK221.out 1).trans rfl,(blk_cell BK221.out 2).trans rfl,(blk_cell BK221.out 3).trans rfl⟩ (fun hHeld=>?_)
  clear hK K
  refine norm_ (a':=?_) ?_ ?_
  rotate_left
  ·show Act.put _ (some 18) _=_
   simp only [Act.put,List.setIfInBounds_toArray,List.set_cons_zero,List.set_cons_succ,i64_w,i32_w]
   rfl
  refine one_ (i:=6) (N:=some 21) #[true,true,true,true,true,true,true,false] rfl rfl (one_of HT_.out (by kernel_rfl)) (by decide) (fun K hK=>?_)
  refine goes_ Tryz.func37 (by kernel_rfl) rfl #[.slice Ao13 t223.length co13,.string a1_1] (by rfl) rfl rfl (by (try simp only [List.map_toArray,List.map_cons,List.map_nil]);rfl) ?_
  with_reducible refine (q01_PutText.calls _ _ t223 a1_1 t226 _ ?side1 ?side2 A6.out).mono ?_
  (case side1=>repeat (exact (Kd.R_reads' HO225.out).2.2))
  (case side2=>exact (Kd.R_reads' HO225.out).2.1)
  rintro e w14 ⟨v227,rfl,ho0,hb⟩
  refine ⟨_,rfl,?_⟩
  have n0_:=Ak (Kd.R_elder' HO225.out (Kd.R_base ho0) hb)
  have n1_:=Ak (Kd.R_lower (Kd.R_new' ho0 (Kd.R_lt HO225.out)) (below_size HB.out))
  have n2_:=Ak (blk_below (g:=gb221) (o:=.cells #[.string a1_0,.string a1_1,.slice A1_2 l1_2.length c1_2,.slice A1_3 l1_3.length c1_3] 29 (0,0)) BK221.out hb)
  have n3_:=Ak (below_step HB.out hb)
  clear HO225
  clear BK221
  clear HB
  have HO225:=n0_
  have HO228:=n1_
  have BK221:=n2_
  have HB:=n3_
  clear n0_ n1_ n2_ n3_
  (try clear hb)
  (try clear ho0)
  refine hK.out _ _ ⟨(blk_cell BK221.out 0).trans rfl,(blk_cell BK221.out 1).trans rfl,(blk_cell BK221.out 2).trans rfl,(blk_cell BK221.out 3).trans rfl⟩ (fun hHeld=>?_)
  clear hK K
  refine norm_ (a':=?_) ?_ ?_
  rotate_left
  ·show Act.put _ (some 21) _=_
   simp only [Act.put,List.setIfInBounds_toArray,List.set_cons_zero,List.set_cons_succ,i64_w,i32_w]
   rfl
  refine pure_ (i:=7) (N:=some 7) (v:=?_) (a':=?_) #[true,true,true,true,true,true,true,true] rfl rfl (any_of HT_.out (by kernel_rfl)) (fun _ _ _ h=>h) (Or.inl ⟨by rfl,?_⟩) ?_ ?_
  rotate_left
  ·intro w'
   go_simp
   with_reducible rfl
  rotate_left
  ·simp only [Act.put,List.setIfInBounds_toArray,List.set_cons_zero,List.set_cons_succ,i64_w,i32_w]
   rfl
  refine done_ (done_of HT_.out (by kernel_rfl)) ?_
  have hcz15_0:w14.cell? ⟨gb221,0,none⟩=some (.string a1_0):=(blk_cell BK221.out 0).trans rfl
  have hcz15_1:w14.cell? ⟨gb221,1,none⟩=some (.string a1_1):=(blk_cell BK221.out 1).trans rfl
  have hcz15_2:w14.cell? ⟨gb221,2,none⟩=some (.slice A1_2 l1_2.length c1_2):=(blk_cell BK221.out 2).trans rfl
  have hcz15_3:w14.cell? ⟨gb221,3,none⟩=some (.slice A1_3 l1_3.length c1_3):=(blk_cell BK221.out 3).trans rfl
  have hfz15_0:=blk_frozen BK221.out 0
  have hfz15_1:=blk_frozen BK221.out 1
  have hfz15_2:=blk_frozen BK221.out 2
  have hfz15_3:=blk_frozen BK221.out 3
  obtain ⟨Ao16,co16,eo16⟩:=Kd.R_slice HO228.out
  subst eo16
  try go_wp2_with (((with_reducible refine gate_callee (f:=36) rfl ?_);refine goesL_ (some 26) rfl rfl Tryz.func36 (by kernel_rfl) rfl #[.slice Ao16 t226.length co16,.int .i64 (l1_2.length:Int)] rfl (by (try simp only [List.map_toArray,List.map_cons,List.map_nil]);rfl) ?_;(with_reducible refine (q01_Put.calls _ _ t226 (l1_2.length:Int) t229 _ ?side1 ?side2 A7.out).mono ?_);(case side1=>repeat (exact (Kd.R_reads' HO228.out).2.2));(case side2=>exact (Kd.R_reads' HO228.out).2.1);rintro e w17 ⟨v230,rfl,ho0,hb⟩;refine ⟨_,rfl,?_⟩;have n0_:=Ak (Kd.R_elder' HO225.out (Kd.R_base ho0) hb);have n1_:=Ak (Kd.R_elder' HO228.out (Kd.R_base ho0) hb);have n2_:=Ak (Kd.R_lower (Kd.R_new' (Kd.R_new' ho0 (Kd.R_lt HO225.out)) (Kd.R_lt HO228.out)) (below_size HB.out));have n3_:=Ak (blk_below (g:=gb221) (o:=.cells #[.string a1_0,.string a1_1,.slice A1_2 l1_2.length c1_2,.slice A1_3 l1_3.length c1_3] 29 (0,0)) BK221.out hb);have n4_:=Ak (below_step HB.out hb);clear HO225;clear HO228;clear BK221;clear HB;have HO225:=n0_;have HO228:=n1_;have HO231:=n2_;have BK221:=n3_;have HB:=n4_;clear n0_ n1_ n2_ n3_ n4_;(try clear hb);(try clear ho0)))
  go_loopg [7,8] k (fun kq v7 v8 w'=>∃ (x7_1:List Int) (x8_1:Int),v8 = .int .i64 x8_1∧Aside0 (q05_Put.l0 kq x7_1 x8_1 a1_0 a1_1 l1_2 l1_3=some (r1,r2))∧Aside0 (kq≤k)∧Aside0 (Kd.R (Kd.int .u8) 5 w' w.heap.size (fun _=>True) v7 x7_1)∧Aside0 (w'.heap[gb221]? = some (.cells #[.string a1_0,.string a1_1,(.slice A1_2 l1_2.length c1_2),(.slice A1_3 l1_3.length c1_3)] 29 (0,0)))∧Aside0 (Below w.heap.size w w'))
  case atStart=>exact ⟨(t229),(0),(by rfl),H',⟨Nat.le_refl _⟩,⟨by exact Kd.R_mono HO231.out (fun _ hk=>trivial)⟩,⟨by exact BK221.out⟩,⟨by with_reducible exact HB.out⟩⟩
  case round=>
   clear H'
   try clear c4b0
   try clear c4b1
   try clear hcz15_0
   try clear hcz15_1
   try clear hcz15_2
   try clear hcz15_3
   try clear hcz9_0
   try clear hcz9_1
   try clear hcz9_2
   try clear hcz9_3
   try clear hfz15_0
   try clear hfz15_1
   try clear hfz15_2
   try clear hfz15_3
   try clear hfz9_0
   try clear hfz9_1
   try clear hfz9_2
   try clear hfz9_3
   obtain ⟨x7_1,x8_1,rfl,HA,HK1,HO_7,BK221,HB⟩:=hrel
   cases gk with
   | zero=>exact absurd HA.out (by simp [q05_Put.l0])
   | succ k1=>
    have H:=HA.out
    clear HA
    simp only [q05_Put.l0] at H
    by_cases c18:x8_1 < (l1_2.length:Int)
    ·rw [if_pos c18] at H
     have c18b0:decide (x8_1 < (l1_2.length:Int))=true:=decide_eq_true c18
     clear c18
     by_cases c19:0≤x8_1
     ·rw [if_pos c19] at H
      have c19b0:decide (0≤x8_1)=true:=decide_eq_true c19
      clear c19
      replace H:=Option.bind_eq_some_iff.mp H
      obtain ⟨t233,A200,H⟩:=H
      replace H:(q05_Put.l0 k1 t233 (wrap64 (x8_1+1)) a1_0 a1_1 l1_2 l1_3)=some (r1,r2):=H
      have A20:=Ak A200
      clear A200
      have H':=Ak H
      clear H
      have hcz21_0:wr.cell? ⟨gb221,0,none⟩=some (.string a1_0):=(blk_cell BK221.out 0).trans rfl
      have hcz21_1:wr.cell? ⟨gb221,1,none⟩=some (.string a1_1):=(blk_cell BK221.out 1).trans rfl
      have hcz21_2:wr.cell? ⟨gb221,2,none⟩=some (.slice A1_2 l1_2.length c1_2):=(blk_cell BK221.out 2).trans rfl
      have hcz21_3:wr.cell? ⟨gb221,3,none⟩=some (.slice A1_3 l1_3.length c1_3):=(blk_cell BK221.out 3).trans rfl
      have hfz21_0:=blk_frozen BK221.out 0
      have hfz21_1:=blk_frozen BK221.out 1
      have hfz21_2:=blk_frozen BK221.out 2
      have hfz21_3:=blk_frozen BK221.out 3
      have p232:0≤(x8_1:Int):=of_decide_eq_true (by (with_reducible assumption))
      have q232:x8_1 < (l1_2.length:Int):=of_decide_eq_true (by (with_reducible assumption))
      obtain ⟨ad232,e232,hx232_0⟩:=Kd.at_string HR1_2.out x8_1 p232 q232
      cases e232
      replace hx232_0:=(HB.out.cell (World.block_lt_of_cell? w _ hx232_0)).trans hx232_0
      replace p232:=eq_true p232
      replace q232:=eq_true q232
      obtain ⟨Ao22,co22,eo22⟩:=Kd.R_slice HO_7.out
      subst eo22
      go_wp2_with (((with_reducible refine gate_callee (f:=37) rfl ?_);refine goesL_ (some 40) rfl rfl Tryz.func37 (by kernel_rfl) rfl #[.slice Ao22 x7_1.length co22,.string (rdOf ByteArray.empty l1_2 x8_1)] rfl (by (try simp only [List.map_toArray,List.map_cons,List.map_nil]);rfl) ?_;(with_reducible refine (q01_PutText.calls _ _ x7_1 (rdOf ByteArray.empty l1_2 x8_1) t233 _ ?side1 ?side2 A20.out).mono ?_);(case side1=>repeat (exact (Kd.R_reads' HO_7.out).2.2));(case side2=>exact (Kd.R_reads' HO_7.out).2.1);rintro e w23 ⟨v234,rfl,ho0,hb⟩;refine ⟨_,rfl,?_⟩;have n0_:=Ak (Kd.R_elder' HO_7.out (Kd.R_base ho0) hb);have n1_:=Ak (Kd.R_lower (Kd.R_new' ho0 (Kd.R_lt HO_7.out)) (below_size HB.out));have n2_:=Ak (blk_below (g:=gb221) (o:=.cells #[.string a1_0,.string a1_1,.slice (some ad232) l1_2.length c1_2,.slice A1_3 l1_3.length c1_3] 29 (0,0)) BK221.out hb);have n3_:=Ak (below_step HB.out hb);clear HO_7;clear BK221;clear HB;have HO_7:=n0_;have HO235:=n1_;have BK221:=n2_;have HB:=n3_;clear n0_ n1_ n2_ n3_;(try clear hb);(try clear ho0)))
      go_roundg k1
      case measure=>have:=HK1.out;omega
      case rel=>exact ⟨(t233),(wrap64 (x8_1+1)),(by rfl),H',⟨by have:=HK1.out;omega⟩,⟨by exact Kd.R_mono HO235.out (fun _ hk=>trivial)⟩,⟨by exact BK221.out⟩,⟨by with_reducible exact HB.out⟩⟩
     ·rw [if_neg c19] at H
      exact absurd H (by simp)
    ·rw [if_neg c18] at H
     have c18b0:decide (x8_1 < (l1_2.length:Int))=false:=decide_eq_false c18
     clear c18
     replace H:=Option.bind_eq_some_iff.mp H
     obtain ⟨t236,A240,H⟩:=H
     replace H:(q05_Put.l1 k1 t236 0 a1_0 a1_1 l1_2 l1_3)=some (r1,r2):=H
     have A24:=Ak A240
     clear A240
     have H':=Ak H
     clear H
     have hcz25_0:wr.cell? ⟨gb221,0,none⟩=some (.string a1_0):=(blk_cell BK221.out 0).trans rfl
     have hcz25_1:wr.cell? ⟨gb221,1,none⟩=some (.string a1_1):=(blk_cell BK221.out 1).trans rfl
     have hcz25_2:wr.cell? ⟨gb221,2,none⟩=some (.slice A1_2 l1_2.length c1_2):=(blk_cell BK221.out 2).trans rfl
     have hcz25_3:wr.cell? ⟨gb221,3,none⟩=some (.slice A1_3 l1_3.length c1_3):=(blk_cell BK221.out 3).trans rfl
     have hfz25_0:=blk_frozen BK221.out 0
     have hfz25_1:=blk_frozen BK221.out 1
     have hfz25_2:=blk_frozen BK221.out 2
     have hfz25_3:=blk_frozen BK221.out 3
     obtain ⟨Ao26,co26,eo26⟩:=Kd.R_slice HO_7.out
     subst eo26
     go_wp2_with (((with_reducible refine gate_callee (f:=36) rfl ?_);refine goesL_ (some 45) rfl rfl Tryz.func36 (by kernel_rfl) rfl #[.slice Ao26 x7_1.length co26,.int .i64 (l1_3.length:Int)] rfl (by (try simp only [List.map_toArray,List.map_cons,List.map_nil]);rfl) ?_;(with_reducible refine (q01_Put.calls _ _ x7_1 (l1_3.length:Int) t236 _ ?side1 ?side2 A24.out).mono ?_);(case side1=>repeat (exact (Kd.R_reads' HO_7.out).2.2));(case side2=>exact (Kd.R_reads' HO_7.out).2.1);rintro e w27 ⟨v237,rfl,ho0,hb⟩;refine ⟨_,rfl,?_⟩;have n0_:=Ak (Kd.R_elder' HO_7.out (Kd.R_base ho0) hb);have n1_:=Ak (Kd.R_lower (Kd.R_new' ho0 (Kd.R_lt HO_7.out)) (below_size HB.out));have n2_:=Ak (blk_below (g:=gb221) (o:=.cells #[.string a1_0,.string a1_1,.slice A1_2 l1_2.length c1_2,.slice A1_3 l1_3.length c1_3] 29 (0,0)) BK221.out hb);have n3_:=Ak (below_step HB.out hb);clear HO_7;clear BK221;clear HB;have HO_7:=n0_;have HO238:=n1_;have BK221:=n2_;have HB:=n3_;clear n0_ n1_ n2_ n3_;(try clear hb);(try clear ho0)))
     go_loopg [7,9] k1 (fun kq v7 v9 w'=>∃ (x7_2:List Int) (x9_2:Int),v9 = .int .i64 x9_2∧Aside0 (q05_Put.l1 kq x7_2 x9_2 a1_0 a1_1 l1_2 l1_3=some (r1,r2))∧Aside0 (kq≤k1)∧Aside0 (Kd.R (Kd.int .u8) 5 w' w.heap.size (fun _=>True) v7 x7_2)∧Aside0 (w'.heap[gb221]? = some (.cells #[.string a1_0,.string a1_1,(.slice A1_2 l1_2.length c1_2),(.slice A1_3 l1_3.length c1_3)] 29 (0,0)))∧Aside0 (Below w.heap.size w w'))
     case atStart=>exact ⟨(t236),(0),(by rfl),H',⟨Nat.le_refl _⟩,⟨by exact Kd.R_mono HO238.out (fun _ hk=>trivial)⟩,⟨by exact BK221.out⟩,⟨by with_reducible exact HB.out⟩⟩
     case round=>
      clear H'
      try clear c18b0
      try clear hcz25_0
      try clear hcz25_1
      try clear hcz25_2
      try clear hcz25_3
      try clear hfz25_0
      try clear hfz25_1
      try clear hfz25_2
      try clear hfz25_3
      obtain ⟨x7_2,x9_2,rfl,HA,HK2,HO_7,BK221,HB⟩:=hrel
      cases gk with
      | zero=>exact absurd HA.out (by simp [q05_Put.l1])
      | succ k2=>
       have H:=HA.out
       clear HA
       simp only [q05_Put.l1] at H
       by_cases c28:x9_2 < (l1_3.length:Int)
       ·rw [if_pos c28] at H
        have c28b0:decide (x9_2 < (l1_3.length:Int))=true:=decide_eq_true c28
        clear c28
        by_cases c29:0≤x9_2
        ·rw [if_pos c29] at H
         have c29b0:decide (0≤x9_2)=true:=decide_eq_true c29
         clear c29
         replace H:=Option.bind_eq_some_iff.mp H
         obtain ⟨t240,A300,H⟩:=H
         replace H:((q01_Put.f t240 ((rd_T90 l1_3 x9_2).f1)).bind fun t244=>(q05_Put.l1 k2 t244 (wrap64 (x9_2+1)) a1_0 a1_1 l1_2 l1_3))=some (r1,r2):=H
         have A30:=Ak A300
         clear A300
         replace H:=Option.bind_eq_some_iff.mp H
         obtain ⟨t244,A310,H⟩:=H
         replace H:(q05_Put.l1 k2 t244 (wrap64 (x9_2+1)) a1_0 a1_1 l1_2 l1_3)=some (r1,r2):=H
         have A31:=Ak A310
         clear A310
         have H':=Ak H
         clear H
         have hcz32_0:wr.cell? ⟨gb221,0,none⟩=some (.string a1_0):=(blk_cell BK221.out 0).trans rfl
         have hcz32_1:wr.cell? ⟨gb221,1,none⟩=some (.string a1_1):=(blk_cell BK221.out 1).trans rfl
         have hcz32_2:wr.cell? ⟨gb221,2,none⟩=some (.slice A1_2 l1_2.length c1_2):=(blk_cell BK221.out 2).trans rfl
         have hcz32_3:wr.cell? ⟨gb221,3,none⟩=some (.slice A1_3 l1_3.length c1_3):=(blk_cell BK221.out 3).trans rfl
         have hfz32_0:=blk_frozen BK221.out 0
         have hfz32_1:=blk_frozen BK221.out 1
         have hfz32_2:=blk_frozen BK221.out 2
         have hfz32_3:=blk_frozen BK221.out 3
         try go_wp2
         replace HO_7:=Ak (Kd.R_drew HO_7.out)
         replace BK221:=Ak (blk_drew BK221.out)
         replace HB:=Ak (below_drew1 HB.out)
         have p239:0≤(x9_2:Int):=of_decide_eq_true (by (with_reducible assumption))
         have q239:x9_2 < (l1_3.length:Int):=of_decide_eq_true (by (with_reducible assumption))
         obtain ⟨ad239,e239,hx239_0,hx239_1⟩:=at_T90 HR1_3.out x9_2 p239 q239
         have hw239_1:=hx239_1
         have hw239_0:=hx239_0
         cases e239
         replace hx239_0:=(HB.out.cell (World.block_lt_of_cell? w _ hx239_0)).trans hx239_0
         replace hx239_1:=(HB.out.cell (World.block_lt_of_cell? w _ hx239_1)).trans hx239_1
         replace p239:=eq_true p239
         replace q239:=eq_true q239
         have p243:0≤(x9_2:Int):=of_decide_eq_true (by (with_reducible assumption))
         have q243:x9_2 < (l1_3.length:Int):=of_decide_eq_true (by (with_reducible assumption))
         obtain ⟨ad243,e243,hx243_0,hx243_1⟩:=at_T90 HR1_3.out x9_2 p243 q243
         have hw243_1:=hx243_1
         have hw243_0:=hx243_0
         obtain rfl:ad239=ad243:=(by injection e243)
         replace hx243_0:=(HB.out.cell (World.block_lt_of_cell? w _ hx243_0)).trans hx243_0
         replace hx243_1:=(HB.out.cell (World.block_lt_of_cell? w _ hx243_1)).trans hx243_1
         replace p243:=eq_true p243
         replace q243:=eq_true q243
         obtain ⟨Ao34,co34,eo34⟩:=Kd.R_slice HO_7.out
         (subst eo34)
         refine start_ (n:=16) (S:=fun w'=>w'.cell? ⟨gb221,0,none⟩=some (.string a1_0)∧w'.cell? ⟨gb221,1,none⟩=some (.string a1_1)∧w'.cell? ⟨gb221,2,none⟩=some (.slice A1_2 l1_2.length c1_2)∧w'.cell? ⟨gb221,3,none⟩=some (.slice (some ad239) l1_3.length c1_3)∧w'.cell? (ad239.add ((x9_2).toNat * 2))=some (.string ((rd_T90 l1_3 x9_2).f0))∧w'.cell? ⟨(ad239.add ((x9_2).toNat * 2)).block,(ad239.add ((x9_2).toNat * 2)).off+1,none⟩=some (.int .i64 ((rd_T90 l1_3 x9_2).f1))∧w'.cell? (ad239.add ((x9_2).toNat * 2))=some (.string ((rd_T90 l1_3 x9_2).f0))∧w'.cell? ⟨(ad239.add ((x9_2).toNat * 2)).block,(ad239.add ((x9_2).toNat * 2)).off+1,none⟩=some (.int .i64 ((rd_T90 l1_3 x9_2).f1))) (ds:=[]) #[false,false,false,false,false,false,false,false,false,false,false,false,false,false,false,false] (by kernel_rfl) rfl rfl ⟨(blk_cell BK221.out 0).trans rfl,(blk_cell BK221.out 1).trans rfl,(blk_cell BK221.out 2).trans rfl,(blk_cell BK221.out 3).trans rfl,((HB.out.cell (World.block_lt_of_cell? w _ hw239_0)).trans hw239_0),((HB.out.cell (World.block_lt_of_cell? w _ hw239_1)).trans hw239_1),((HB.out.cell (World.block_lt_of_cell? w _ hw243_0)).trans hw243_0),((HB.out.cell (World.block_lt_of_cell? w _ hw243_1)).trans hw243_1)⟩ (fun hHeld=>?_);refine with_tabW q05_Put.tab14 q05_Put.bits14 (fun HT_ HW_=>?_)
         generalize wr.drew=w33 at HO_7 BK221 HB hx239_0 hx239_1 hx243_0 hx243_1 hHeld ⊢
         refine pure_ (i:=0) (N:=some 53) (v:=?_) (a':=?_) #[true,false,false,false,false,false,false,false,false,false,false,false,false,false,false,false] rfl rfl (any_of HT_.out (by kernel_rfl)) (fun _ _ _ h=>h) (Or.inl ⟨by rfl,?_⟩) ?_ ?_
         rotate_left
         ·intro w'
          go_simp
          with_reducible rfl
         rotate_left
         ·simp only [Act.put,List.setIfInBounds_toArray,List.set_cons_zero,List.set_cons_succ,i64_w,i32_w]
          rfl
         refine pure_ (i:=1) (N:=some 54) (v:=?_) (a':=?_) #[true,true,false,false,false,false,false,false,false,false,false,false,false,false,false,false] rfl rfl (any_of HT_.out (by kernel_rfl)) (fun _ _ _ h=>h) (Or.inl ⟨by rfl,?_⟩) ?_ ?_
         rotate_left
         ·intro w'
          go_simp
          with_reducible rfl
         rotate_left
         ·simp only [Act.put,List.setIfInBounds_toArray,List.set_cons_zero,List.set_cons_succ,i64_w,i32_w]
          rfl
         refine pure_ (i:=3) (N:=some 56) (v:=?_) (a':=?_) #[true,true,false,true,false,false,false,false,false,false,false,false,false,false,false,false] rfl rfl (any_of HT_.out (by kernel_rfl)) (fun _ _ _ h=>h) (Or.inl ⟨by rfl,?_⟩) ?_ ?_
         rotate_left
         ·intro w'
          go_simp
          with_reducible rfl
         rotate_left
         ·simp only [Act.put,List.setIfInBounds_toArray,List.set_cons_zero,List.set_cons_succ,i64_w,i32_w]
          rfl
         refine pure_ (i:=8) (N:=some 61) (v:=?_) (a':=?_) #[true,true,false,true,false,false,false,false,true,false,false,false,false,false,false,false] rfl rfl (any_of HT_.out (by kernel_rfl)) (fun _ _ _ h=>h) (Or.inl ⟨by rfl,?_⟩) ?_ ?_
         rotate_left
         ·intro w'
          go_simp
          with_reducible rfl
         rotate_left
         ·simp only [Act.put,List.setIfInBounds_toArray,List.set_cons_zero,List.set_cons_succ,i64_w,i32_w]
          rfl
         refine pure_ (i:=10) (N:=some 63) (v:=?_) (a':=?_) #[true,true,false,true,false,false,false,false,true,false,true,false,false,false,false,false] rfl rfl (any_of HT_.out (by kernel_rfl)) (fun _ _ _ h=>h) (Or.inl ⟨by rfl,?_⟩) ?_ ?_
         rotate_left
         ·intro w'
          go_simp
          with_reducible rfl
         rotate_left
         ·simp only [Act.put,List.setIfInBounds_toArray,List.set_cons_zero,List.set_cons_succ,i64_w,i32_w]
          rfl
         refine take_ (i:=2) (N:=some 55) (v:=?_) (a':=?_) #[true,true,true,true,false,false,false,false,true,false,true,false,false,false,false,false] rfl rfl (take_ofW HT_.out HW_.out (by kernel_rfl)) (fun _ _ _ h=>h) (Or.inl ⟨by rfl,?_⟩) hHeld ?_ ?_
         rotate_left
         ·rintro w' ⟨s0,s1,s2,s3,s4,s5,s6,s7⟩
          go_simp
          with_reducible rfl
         rotate_left
         ·simp only [Act.put,List.setIfInBounds_toArray,List.set_cons_zero,List.set_cons_succ,i64_w,i32_w]
          rfl
         refine pure_ (i:=4) (N:=some 57) (v:=?_) (a':=?_) #[true,true,true,true,true,false,false,false,true,false,true,false,false,false,false,false] rfl rfl (any_of HT_.out (by kernel_rfl)) (fun _ _ _ h=>h) (Or.inl ⟨by rfl,?_⟩) ?_ ?_
         rotate_left
         ·intro w'
          go_simp
          with_reducible rfl
         rotate_left
         ·simp only [Act.put,List.setIfInBounds_toArray,List.set_cons_zero,List.set_cons_succ,i64_w,i32_w]
          rfl
         refine pure_ (i:=5) (N:=some 58) (v:=?_) (a':=?_) #[true,true,true,true,true,true,false,false,true,false,true,false,false,false,false,false] rfl rfl (any_of HT_.out (by kernel_rfl)) (fun _ _ _ h=>h) (Or.inl ⟨by rfl,?_⟩) ?_ ?_
         rotate_left
         ·intro w'
          go_simp
          with_reducible rfl
         rotate_left
         ·simp only [Act.put,List.setIfInBounds_toArray,List.set_cons_zero,List.set_cons_succ,i64_w,i32_w]
          rfl
         refine take_ (i:=6) (N:=some 59) (v:=?_) (a':=?_) #[true,true,true,true,true,true,true,false,true,false,true,false,false,false,false,false] rfl rfl (take_ofW HT_.out HW_.out (by kernel_rfl)) (fun _ _ _ h=>h) (Or.inl ⟨by rfl,?_⟩) hHeld ?_ ?_
         rotate_left
         ·rintro w' ⟨s0,s1,s2,s3,s4,s5,s6,s7⟩
          go_simp
          with_reducible rfl
         rotate_left
         ·simp only [Act.put,List.setIfInBounds_toArray,List.set_cons_zero,List.set_cons_succ,i64_w,i32_w]
          rfl
         refine take_ (i:=9) (N:=some 62) (v:=?_) (a':=?_) #[true,true,true,true,true,true,true,false,true,true,true,false,false,false,false,false] rfl rfl (take_ofW HT_.out HW_.out (by kernel_rfl)) (fun _ _ _ h=>h) (Or.inl ⟨by rfl,?_⟩) hHeld ?_ ?_
         rotate_left
         ·rintro w' ⟨s0,s1,s2,s3,s4,s5,s6,s7⟩
          go_simp
          with_reducible rfl
         rotate_left
         ·simp only [Act.put,List.setIfInBounds_toArray,List.set_cons_zero,List.set_cons_succ,i64_w,i32_w]
          rfl
         refine pure_ (i:=11) (N:=some 64) (v:=?_) (a':=?_) #[true,true,true,true,true,true,true,false,true,true,true,true,false,false,false,false] rfl rfl (any_of HT_.out (by kernel_rfl)) (fun _ _ _ h=>h) (Or.inl ⟨by rfl,?_⟩) ?_ ?_
         rotate_left
         ·intro w'
          go_simp
          with_reducible rfl
         rotate_left
         ·simp only [Act.put,List.setIfInBounds_toArray,List.set_cons_zero,List.set_cons_succ,i64_w,i32_w]
          rfl
         refine pure_ (i:=12) (N:=some 65) (v:=?_) (a':=?_) #[true,true,true,true,true,true,true,false,true,true,true,true,true,false,false,false] rfl rfl (any_of HT_.out (by kernel_rfl)) (fun _ _ _ h=>h) (Or.inl ⟨by rfl,?_⟩) ?_ ?_
         rotate_left
         ·intro w'
          go_simp
          with_reducible rfl
         rotate_left
         ·simp only [Act.put,List.setIfInBounds_toArray,List.set_cons_zero,List.set_cons_succ,i64_w,i32_w]
          rfl
         refine take_ (i:=13) (N:=some 66) (v:=?_) (a':=?_) #[true,true,true,true,true,true,true,false,true,true,true,true,true,true,false,false] rfl rfl (take_ofW HT_.out HW_.out (by kernel_rfl)) (fun _ _ _ h=>h) (Or.inl ⟨by rfl,?_⟩) hHeld ?_ ?_
         rotate_left
         ·rintro w' ⟨s0,s1,s2,s3,s4,s5,s6,s7⟩
          go_simp
          with_reducible rfl
         rotate_left
         ·simp only [Act.put,List.setIfInBounds_toArray,List.set_cons_zero,List.set_cons_succ,i64_w,i32_w]
          rfl
         refine one_ (i:=7) (N:=some 60) #[true,true,true,true,true,true,true,true,true,true,true,true,true,true,false,false] rfl rfl (one_of HT_.out (by kernel_rfl)) (by decide) (fun K hK=>?_)
         refine goes_ Tryz.func37 (by kernel_rfl) rfl #[.slice Ao34 x7_2.length co34,.string ((rd_T90 l1_3 x9_2).f0)] (by rfl) rfl rfl (by (try simp only [List.map_toArray,List.map_cons,List.map_nil]);rfl) ?_
         with_reducible refine (q01_PutText.calls _ _ x7_2 ((rd_T90 l1_3 x9_2).f0) t240 _ ?side1 ?side2 A30.out).mono ?_
         (case side1=>repeat (exact (Kd.R_reads' HO_7.out).2.2))
         (case side2=>exact (Kd.R_reads' HO_7.out).2.1)
         rintro e w35 ⟨v241,rfl,ho0,hb⟩
         refine ⟨_,rfl,?_⟩
         have n0_:=Ak (Kd.R_elder' HO_7.out (Kd.R_base ho0) hb)
         have n1_:=Ak (Kd.R_lower (Kd.R_new' ho0 (Kd.R_lt HO_7.out)) (below_size HB.out))
         have n2_:=Ak (blk_below (g:=gb221) (o:=.cells #[.string a1_0,.string a1_1,.slice A1_2 l1_2.length c1_2,.slice (some ad239) l1_3.length c1_3] 29 (0,0)) BK221.out hb)
         have n3_:=Ak (below_step HB.out hb)
         clear HO_7
         clear BK221
         clear HB
         have HO_7:=n0_
         have HO242:=n1_
         have BK221:=n2_
         have HB:=n3_
         clear n0_ n1_ n2_ n3_
         (try clear hb)
         (try clear ho0)
         obtain ⟨Ao36,co36,eo36⟩:=Kd.R_slice HO242.out
         (subst eo36)
         refine hK.out _ _ ⟨(blk_cell BK221.out 0).trans rfl,(blk_cell BK221.out 1).trans rfl,(blk_cell BK221.out 2).trans rfl,(blk_cell BK221.out 3).trans rfl,((HB.out.cell (World.block_lt_of_cell? w _ hw239_0)).trans hw239_0),((HB.out.cell (World.block_lt_of_cell? w _ hw239_1)).trans hw239_1),((HB.out.cell (World.block_lt_of_cell? w _ hw243_0)).trans hw243_0),((HB.out.cell (World.block_lt_of_cell? w _ hw243_1)).trans hw243_1)⟩ (fun hHeld=>?_)
         clear hK K
         refine norm_ (a':=?_) ?_ ?_
         rotate_left
         ·show Act.put _ (some 60) _=_
          simp only [Act.put,List.setIfInBounds_toArray,List.set_cons_zero,List.set_cons_succ,i64_w,i32_w]
          rfl
         refine one_ (i:=14) (N:=some 67) #[true,true,true,true,true,true,true,true,true,true,true,true,true,true,true,false] rfl rfl (one_of HT_.out (by kernel_rfl)) (by decide) (fun K hK=>?_)
         refine goes_ Tryz.func36 (by kernel_rfl) rfl #[.slice Ao36 t240.length co36,.int .i64 ((rd_T90 l1_3 x9_2).f1)] (by rfl) rfl rfl (by (try simp only [List.map_toArray,List.map_cons,List.map_nil]);rfl) ?_
         with_reducible refine (q01_Put.calls _ _ t240 ((rd_T90 l1_3 x9_2).f1) t244 _ ?side1 ?side2 A31.out).mono ?_
         (case side1=>repeat (exact (Kd.R_reads' HO242.out).2.2))
         (case side2=>exact (Kd.R_reads' HO242.out).2.1)
         rintro e w37 ⟨v245,rfl,ho0,hb⟩
         refine ⟨_,rfl,?_⟩
         have n0_:=Ak (Kd.R_elder' HO_7.out (Kd.R_base ho0) hb)
         have n1_:=Ak (Kd.R_elder' HO242.out (Kd.R_base ho0) hb)
         have n2_:=Ak (Kd.R_lower (Kd.R_new' (Kd.R_new' ho0 (Kd.R_lt HO_7.out)) (Kd.R_lt HO242.out)) (below_size HB.out))
         have n3_:=Ak (blk_below (g:=gb221) (o:=.cells #[.string a1_0,.string a1_1,.slice A1_2 l1_2.length c1_2,.slice (some ad239) l1_3.length c1_3] 29 (0,0)) BK221.out hb)
         have n4_:=Ak (below_step HB.out hb)
         clear HO_7
         clear HO242
         clear BK221
         clear HB
         have HO_7:=n0_
         have HO242:=n1_
         have HO246:=n2_
         have BK221:=n3_
         have HB:=n4_
         clear n0_ n1_ n2_ n3_ n4_
         (try clear hb)
         (try clear ho0)
         refine hK.out _ _ ⟨(blk_cell BK221.out 0).trans rfl,(blk_cell BK221.out 1).trans rfl,(blk_cell BK221.out 2).trans rfl,(blk_cell BK221.out 3).trans rfl,((HB.out.cell (World.block_lt_of_cell? w _ hw239_0)).trans hw239_0),((HB.out.cell (World.block_lt_of_cell? w _ hw239_1)).trans hw239_1),((HB.out.cell (World.block_lt_of_cell? w _ hw243_0)).trans hw243_0),((HB.out.cell (World.block_lt_of_cell? w _ hw243_1)).trans hw243_1)⟩ (fun hHeld=>?_)
         clear hK K
         refine norm_ (a':=?_) ?_ ?_
         rotate_left
         ·show Act.put _ (some 67) _=_
          simp only [Act.put,List.setIfInBounds_toArray,List.set_cons_zero,List.set_cons_succ,i64_w,i32_w]
          rfl
         refine pure_ (i:=15) (N:=some 7) (v:=?_) (a':=?_) #[true,true,true,true,true,true,true,true,true,true,true,true,true,true,true,true] rfl rfl (any_of HT_.out (by kernel_rfl)) (fun _ _ _ h=>h) (Or.inl ⟨by rfl,?_⟩) ?_ ?_
         rotate_left
         ·intro w'
          go_simp
          with_reducible rfl
         rotate_left
         ·simp only [Act.put,List.setIfInBounds_toArray,List.set_cons_zero,List.set_cons_succ,i64_w,i32_w]
          rfl
         refine done_ (done_of HT_.out (by kernel_rfl)) ?_
         try go_wp2
         go_roundg k2
         case measure=>have:=HK1.out;have:=HK2.out;omega
         case rel=>exact ⟨(t244),(wrap64 (x9_2+1)),(by rfl),H',⟨by have:=HK1.out;have:=HK2.out;omega⟩,⟨by exact Kd.R_mono HO246.out (fun _ hk=>trivial)⟩,⟨by exact BK221.out⟩,⟨by with_reducible exact HB.out⟩⟩
        ·rw [if_neg c29] at H
         exact absurd H (by simp)
       ·rw [if_neg c28] at H
        have c28b0:decide (x9_2 < (l1_3.length:Int))=false:=decide_eq_false c28
        clear c28
        simp only [Option.some.injEq,Prod.mk.injEq] at H
        obtain ⟨rfl,rfl⟩:=H
        have hcz38_0:wr.cell? ⟨gb221,0,none⟩=some (.string a1_0):=(blk_cell BK221.out 0).trans rfl
        have hcz38_1:wr.cell? ⟨gb221,1,none⟩=some (.string a1_1):=(blk_cell BK221.out 1).trans rfl
        have hcz38_2:wr.cell? ⟨gb221,2,none⟩=some (.slice A1_2 l1_2.length c1_2):=(blk_cell BK221.out 2).trans rfl
        have hcz38_3:wr.cell? ⟨gb221,3,none⟩=some (.slice A1_3 l1_3.length c1_3):=(blk_cell BK221.out 3).trans rfl
        have hfz38_0:=blk_frozen BK221.out 0
        have hfz38_1:=blk_frozen BK221.out 1
        have hfz38_2:=blk_frozen BK221.out 2
        have hfz38_3:=blk_frozen BK221.out 3
        go_wp2
        go_ret2
        exact ⟨_,by rfl,by exact HO_7.out,by with_reducible exact HB.out⟩
 ·rw [if_neg c4] at H
  have c4b0:(t222 == 0)=false:=beq_eq_false_iff_ne.mpr c4
  have c4b1:(t222 != 0)=true:=bne_iff_ne.mpr c4
  simp only [Option.some.injEq,Prod.mk.injEq] at H
  obtain ⟨rfl,rfl⟩:=H
  go_enter Tryz.func38,Tryz.ntmps38
  go_wp2_with (first | ((with_reducible refine gate_dst (N:=3) rfl ?_);refine box_event ?hg (N:=3) ?hd (cs:=#[.string a1_0,.string a1_1,.slice A1_2 l1_2.length c1_2,.slice A1_3 l1_3.length c1_3]) (t:=29) ?hr ?_;(case hd=>rfl);(case hg=>rfl);(case hr=>(go_simp;done));intro gb221 hg w39 hbox hb;have n0_:=Ak (below_step HB.out hb);have n1_:=Ak (hbox);have n2_:=Ak ((by rw [hg];exact (below_size HB.out):w.heap.size≤gb221));have n3_:=Ak ((by rw [hg];exact (below_size HB.out):w.heap.size≤gb221));clear HB;have HB:=n0_;have BK221:=n1_;have GW221:=n2_;have GE221:=n3_;clear n0_ n1_ n2_ n3_;clear hb hbox hg;have hcz40_0:w39.cell? ⟨gb221,0,none⟩=some (.string a1_0):=(blk_cell BK221.out 0).trans rfl;have hcz40_1:w39.cell? ⟨gb221,1,none⟩=some (.string a1_1):=(blk_cell BK221.out 1).trans rfl;have hcz40_2:w39.cell? ⟨gb221,2,none⟩=some (.slice A1_2 l1_2.length c1_2):=(blk_cell BK221.out 2).trans rfl;have hcz40_3:w39.cell? ⟨gb221,3,none⟩=some (.slice A1_3 l1_3.length c1_3):=(blk_cell BK221.out 3).trans rfl;have hfz40_0:=blk_frozen BK221.out 0;have hfz40_1:=blk_frozen BK221.out 1;have hfz40_2:=blk_frozen BK221.out 2;have hfz40_3:=blk_frozen BK221.out 3) | ((with_reducible refine gate_callee (f:=60) rfl ?_);refine goesL_ (some 11) rfl rfl Tryz.func60 (by kernel_rfl) rfl #[.agg #[.string a1_0,.string a1_1,.slice A1_2 l1_2.length c1_2,.slice A1_3 l1_3.length c1_3]] rfl (by (try simp only [List.map_toArray,List.map_cons,List.map_nil]);rfl) ?_;(with_reducible refine (q04_MayG.calls a1_0 a1_1 _ _ l1_2 _ _ l1_3 t222 _ ?side1 ?side2 ?side3 ?side4 A3.out).mono ?_);(case side1=>repeat (exact (Kd.C_below HR1_2.out HB.out)));(case side2=>exact HC1_2.out);(case side3=>repeat (exact (Kd.C_below HR1_3.out HB.out)));(case side4=>exact HC1_3.out);rintro e w41 ⟨rfl,hb⟩;refine ⟨_,rfl,?_⟩;have n0_:=Ak (blk_below (g:=gb221) (o:=.cells #[.string a1_0,.string a1_1,.slice A1_2 l1_2.length c1_2,.slice A1_3 l1_3.length c1_3] 29 (0,0)) BK221.out hb);have n1_:=Ak (below_step HB.out hb);clear BK221;clear HB;have BK221:=n0_;have HB:=n1_;clear n0_ n1_;(try clear hb)))
  go_ret2
  exact ⟨_,by rfl,by exact Kd.R_nil _ _ _ _ _,by with_reducible exact HB.out⟩
end Go.Proofs.YtocpcnmnhckcpaaGreat.Prt
namespace Go.Proofs.YtocpcnmnhckcpaaGreat.Prt
open RowKit YtocpcnmnhckcpaaGreatW.PrintWords YtocpcnmnhckcpaaGreatW.PrintLast YtocpcnmnhckcpaaGreatW.PrintMore YtocpcnmnhckcpaaGreat.Num YtocpcnmnhckcpaaGreat.Nam
def eqE (x y:S29):Bool:=eqEv x.f0 x.f1 x.f2 x.f3 y.f0 y.f1 y.f2 y.f3
theorem eqE_iff (x y:S29):eqE x y=true↔x=y:=by
 unfold eqE
 rw [eqEv_iff]
 cases x;cases y;simp
def encFs (l:List S90):List Int:=l.flatMap fun f=>encT (bytesOf f.f0)++enc f.f1
def encEv (s t:ByteArray) (tags:List ByteArray) (fl:List S90):List Int:=
 encT (bytesOf s)++(encT (bytesOf t)++((enc (tags.length:Int)++encTs tags)++(enc (fl.length:Int)++encFs fl)))
structure OkE (s t:ByteArray) (tags:List ByteArray) (fl:List S90):Prop where
 hs:mayL (bytesOf s)=true
 ht:mayL (bytesOf t)=true
 ht6:tags.length≤6
 hf4:fl.length≤4
 htag:∀ x ∈ tags,tagB x=true
 hname:∀ x ∈ fl,mayL (bytesOf x.f0)=true
 hr1:riseB tags=true
 hr2:riseB (fl.map (·.f0))=true
 hov:∀ x ∈ fl,-1099511627776≤x.f1∧x.f1≤1099511627776
theorem okE_iff (s t:ByteArray) (tags:List ByteArray) (fl:List S90):mayE s t tags fl=0↔OkE s t tags fl:=by
 unfold mayE
 constructor
 ·intro h
  by_cases c1:mayL (bytesOf s)=false∨mayL (bytesOf t)=false
  ·rw [if_pos c1] at h;cases h
  rw [if_neg c1] at h
  by_cases c2:6 < tags.length∨4 < fl.length
  ·rw [if_pos c2] at h;cases h
  rw [if_neg c2] at h
  by_cases c3:(tags.any fun s=>!tagB s)=true∨((fl.map (·.f0)).any fun s=>!mayL (bytesOf s))=true
  ·rw [if_pos c3] at h;cases h
  rw [if_neg c3] at h
  by_cases c4:riseB tags=false∨riseB (fl.map (·.f0))=false∨fl.any overB=true
  ·rw [if_pos c4] at h;cases h
  simp only [not_or,Bool.not_eq_false,Bool.not_eq_true] at c1 c3 c4
  refine ⟨c1.1,c1.2,by omega,by omega,fun x hx=>?_,fun x hx=>?_,c4.1,c4.2.1,fun x hx=>?_⟩
  ·have:=List.any_eq_false.1 c3.1 x hx;simpa using this
  ·have:=List.any_eq_false.1 c3.2 x.f0 (List.mem_map.2 ⟨x,hx,rfl⟩);simpa using this
  ·have:=List.any_eq_false.1 c4.2.2 x hx
   unfold overB at this
   rw [decide_eq_true_iff] at this
   omega
 ·intro h
  rw [if_neg (by rw [h.hs,h.ht];simp),if_neg (by have:=h.ht6;have:=h.hf4;omega),if_neg ?_,if_neg ?_]
  ·rw [h.hr1,h.hr2]
   have:fl.any overB=false:=List.any_eq_false.2 (fun x hx=>by unfold overB;rw [decide_eq_true_iff];have:=h.hov x hx;omega)
   rw [this];simp
  ·rintro (c | c)
   ·obtain ⟨x,hx,h2⟩:=List.any_eq_true.1 c
    rw [h.htag x hx] at h2;cases h2
   ·obtain ⟨y,hy,h2⟩:=List.any_eq_true.1 c
    obtain ⟨x,hx,rfl⟩:=List.mem_map.1 hy
    rw [h.hname x hx] at h2;cases h2
theorem evcode_Put_l1 (s t:ByteArray) (tags:List ByteArray) (fl:List S90) (hf:fl.length≤4) (hn:∀ x ∈ fl,x.f0.size≤24) (ho:∀ x ∈ fl,-1099511627776≤x.f1∧x.f1≤1099511627776):∀ (n i k:Nat) (x:List Int),i+n=fl.length→n < k→x.length+50 * n≤140737488348000→evcode_Put.l1 k x fl (fl.length:Int) (i:Int)=some (x++encFs (fl.drop i),0):=by
 intro n
 induction n with
 | zero=>
  intro i k x hi hk hx
  obtain ⟨k,rfl⟩:∃ m,k=m+1:=⟨k - 1,by omega⟩
  rw [evcode_Put.l1,if_neg (by omega),List.drop_eq_nil_of_le (by omega)]
  unfold encFs;rw [List.flatMap_nil,List.append_nil]
 | succ n ih=>
  intro i k x hi hk hx
  obtain ⟨k,rfl⟩:∃ m,k=m+1:=⟨k - 1,by omega⟩
  have hm:=rdF_mem (l:=fl) (i:=i) (by omega)
  have h1:=hn _ hm
  have h2:=ho _ hm
  have h3:=encT_len (rd_T90 fl (i:Int)).f0 (by omega)
  have h4:=enc_len (x:=(rd_T90 fl (i:Int)).f1) ⟨by omega,by omega⟩
  have m1:num_PutText.f x (rd_T90 fl (i:Int)).f0=some (x++encT (bytesOf (rd_T90 fl (i:Int)).f0)):=if_pos (by omega)
  have m2:num_Put.f (x++encT (bytesOf (rd_T90 fl (i:Int)).f0)) (rd_T90 fl (i:Int)).f1=some ((x++encT (bytesOf (rd_T90 fl (i:Int)).f0))++enc (rd_T90 fl (i:Int)).f1):=if_pos ⟨by rw [List.length_append];omega,by omega,by omega⟩
  rw [evcode_Put.l1,if_pos (by omega),if_pos (by omega),if_pos (by omega),m1]
  simp only [Option.bind_some]
  rw [m2]
  simp only [Option.bind_some]
  rw [succW i (by omega),ih (i+1) k _ (by omega) (by omega) (by rw [List.length_append,List.length_append];omega),drop_rdF fl i (by omega)]
  unfold encFs;rw [List.flatMap_cons];simp only [List.append_assoc]
theorem evcode_Put_l0 (s t:ByteArray) (tags:List ByteArray) (fl:List S90) (hf:fl.length≤4) (ht:tags.length≤6) (htg:∀ x ∈ tags,x.size≤49) (hn:∀ x ∈ fl,x.f0.size≤24) (ho:∀ x ∈ fl,-1099511627776≤x.f1∧x.f1≤1099511627776):∀ (n i k:Nat) (x:List Int),i+n=tags.length→n+5 < k→x.length+60 * n≤140737488347000→evcode_Put.l0 k x tags (tags.length:Int) (i:Int) s t tags fl=some (x++(encTs (tags.drop i)++(enc (fl.length:Int)++encFs fl)),0):=by
 intro n
 induction n with
 | zero=>
  intro i k x hi hk hx
  obtain ⟨k,rfl⟩:∃ m,k=m+1:=⟨k - 1,by omega⟩
  have h4:=enc_len (x:=(fl.length:Int)) ⟨by omega,by omega⟩
  have m2:num_Put.f x (fl.length:Int)=some (x++enc (fl.length:Int)):=if_pos ⟨by omega,by omega,by omega⟩
  rw [evcode_Put.l0,if_neg (by omega),m2,List.drop_eq_nil_of_le (by omega)]
  simp only [Option.bind_some]
  have:=evcode_Put_l1 s t tags fl hf hn ho fl.length 0 k (x++enc (fl.length:Int)) (by omega) (by omega) (by rw [List.length_append];omega)
  rw [List.drop_zero,List.append_assoc] at this
  exact this
 | succ n ih=>
  intro i k x hi hk hx
  obtain ⟨k,rfl⟩:∃ m,k=m+1:=⟨k - 1,by omega⟩
  have h1:=htg _ (rdOf_mem (l:=tags) (i:=i) (by omega))
  have h3:=encT_len (rdOf ByteArray.empty tags (i:Int)) (by omega)
  have m1:num_PutText.f x (rdOf ByteArray.empty tags (i:Int))=some (x++encT (bytesOf (rdOf ByteArray.empty tags (i:Int)))):=if_pos (by omega)
  rw [evcode_Put.l0,if_pos (by omega),if_pos (by omega),if_pos (by omega),m1]
  simp only [Option.bind_some]
  rw [succW i (by omega),ih (i+1) k _ (by omega) (by omega) (by rw [List.length_append];omega),drop_rd tags i (by omega)]
  unfold encTs;rw [List.flatMap_cons];simp only [List.append_assoc]
def evcode_PutG.f (l0:List Int) (a1_0:ByteArray) (a1_1:ByteArray) (l1_2:List ByteArray) (l1_3:List (S90)):Option (List Int × Int):=
 if l0.length≤140737488340000∧l1_2.length≤9223372036854775807∧fitE a1_0 a1_1 l1_2 l1_3=true then some (if mayE a1_0 a1_1 l1_2 l1_3=0 then (l0++encEv a1_0 a1_1 l1_2 l1_3,0) else ([],mayE a1_0 a1_1 l1_2 l1_3)) else none
theorem evcode_PutG.val {l0:List Int} {a1_0:ByteArray} {a1_1:ByteArray} {l1_2:List ByteArray} {l1_3:List (S90)} {r1:List Int} {r2:Int} (h:evcode_PutG.f l0 a1_0 a1_1 l1_2 l1_3=some (r1,r2)):∃ k,evcode_Put.f k l0 a1_0 a1_1 l1_2 l1_3=some (r1,r2):=by
 unfold evcode_PutG.f at h
 by_cases hc:l0.length≤140737488340000∧l1_2.length≤9223372036854775807∧fitE a1_0 a1_1 l1_2 l1_3=true
 ·rw [if_pos hc] at h
  rw [←h]
  have m0:event_May.f a1_0 a1_1 l1_2 l1_3=some (mayE a1_0 a1_1 l1_2 l1_3):=if_pos hc.2.2
  refine ⟨l1_2.length+7,?_⟩
  unfold evcode_Put.f
  rw [m0]
  simp only [Option.bind_some]
  by_cases h0:mayE a1_0 a1_1 l1_2 l1_3=0
  ·rw [if_pos h0,if_pos h0]
   have ok:=(okE_iff _ _ _ _).1 h0
   have z1:=may_size ok.hs
   have z2:=may_size ok.ht
   have q1:=encT_len a1_0 (by omega)
   have q2:=encT_len a1_1 (by omega)
   have ht6:=ok.ht6
   have q3:=enc_len (x:=(l1_2.length:Int)) ⟨by omega,by omega⟩
   have m1:num_PutText.f l0 a1_0=some (l0++encT (bytesOf a1_0)):=if_pos (by omega)
   have m2:num_PutText.f (l0++encT (bytesOf a1_0)) a1_1=some ((l0++encT (bytesOf a1_0))++encT (bytesOf a1_1)):=if_pos (by rw [List.length_append];omega)
   have m3:num_Put.f ((l0++encT (bytesOf a1_0))++encT (bytesOf a1_1)) (l1_2.length:Int)=some (((l0++encT (bytesOf a1_0))++encT (bytesOf a1_1))++enc (l1_2.length:Int)):=if_pos ⟨by rw [List.length_append,List.length_append];omega,by omega,by omega⟩
   rw [m1]
   simp only [Option.bind_some]
   rw [m2]
   simp only [Option.bind_some]
   rw [m3]
   simp only [Option.bind_some]
   have:=evcode_Put_l0 a1_0 a1_1 l1_2 l1_3 ok.hf4 ht6 (fun x hx=>tag_size (ok.htag x hx)) (fun x hx=>may_size (ok.hname x hx)) ok.hov l1_2.length 0 (l1_2.length+7) (((l0++encT (bytesOf a1_0))++encT (bytesOf a1_1))++enc (l1_2.length:Int)) (by omega) (by omega) (by rw [List.length_append,List.length_append,List.length_append];omega)
   rw [List.drop_zero] at this
   refine this.trans ?_
   unfold encEv
   simp only [List.append_assoc]
  ·rw [if_neg h0,if_neg h0]
 ·rw [if_neg hc] at h;cases h
theorem evcode_PutG.calls (A0:Option Addr) (c0:Nat) (l0:List Int) (a1_0:ByteArray) (a1_1:ByteArray) (A1_2:Option Addr) (c1_2:Nat) (l1_2:List ByteArray) (A1_3:Option Addr) (c1_3:Nat) (l1_3:List (S90)) (r1:List Int) (r2:Int) (w:World) (hr0:Kd.C (Kd.int .u8) w A0 l0.length l0) (hc0:l0.length≤c0) (hr1_2:Kd.C Kd.string w A1_2 l1_2.length l1_2) (hc1_2:l1_2.length≤c1_2) (hr1_3:Kd.C k90 w A1_3 l1_3.length l1_3) (hc1_3:l1_3.length≤c1_3) (h:evcode_PutG.f l0 a1_0 a1_1 l1_2 l1_3=some (r1,r2)) :
  Calls Tryz.prog 33 #[.slice A0 l0.length c0,.agg #[.string a1_0,.string a1_1,.slice A1_2 l1_2.length c1_2,.slice A1_3 l1_3.length c1_3]] w fun e w'=>∃ v0_:Value,e = .returned (.tuple #[v0_,.int .i64 r2])∧Kd.R (Kd.int .u8) 5 w' w.heap.size (fun _=>True) v0_ r1∧Below w.heap.size w w':=by
 obtain ⟨k,hk⟩:=evcode_PutG.val h
 exact evcode_Put.calls k A0 c0 l0 a1_0 a1_1 A1_2 c1_2 l1_2 A1_3 c1_3 l1_3 r1 r2 w hr0 hc0 hr1_2 hc1_2 hr1_3 hc1_3 hk
theorem q05_Put_l1 (s t:ByteArray) (tags:List ByteArray) (fl:List S90) (hf:fl.length≤4) (hn:∀ x ∈ fl,x.f0.size≤24) (ho:∀ x ∈ fl,-1099511627776≤x.f1∧x.f1≤1099511627776):∀ (n i k:Nat) (x:List Int),i+n=fl.length→n < k→x.length+50 * n≤140737488348000→q05_Put.l1 k x (i:Int) s t tags fl=some (x++encFs (fl.drop i),0):=by
 intro n
 induction n with
 | zero=>
  intro i k x hi hk hx
  obtain ⟨k,rfl⟩:∃ m,k=m+1:=⟨k - 1,by omega⟩
  rw [q05_Put.l1,if_neg (by omega),List.drop_eq_nil_of_le (by omega)]
  unfold encFs;rw [List.flatMap_nil,List.append_nil]
 | succ n ih=>
  intro i k x hi hk hx
  obtain ⟨k,rfl⟩:∃ m,k=m+1:=⟨k - 1,by omega⟩
  have hm:=rdF_mem (l:=fl) (i:=i) (by omega)
  have h1:=hn _ hm
  have h2:=ho _ hm
  have h3:=encT_len (rd_T90 fl (i:Int)).f0 (by omega)
  have h4:=enc_len (x:=(rd_T90 fl (i:Int)).f1) ⟨by omega,by omega⟩
  have m1:q01_PutText.f x (rd_T90 fl (i:Int)).f0=some (x++encT (bytesOf (rd_T90 fl (i:Int)).f0)):=if_pos (by omega)
  have m2:q01_Put.f (x++encT (bytesOf (rd_T90 fl (i:Int)).f0)) (rd_T90 fl (i:Int)).f1=some ((x++encT (bytesOf (rd_T90 fl (i:Int)).f0))++enc (rd_T90 fl (i:Int)).f1):=if_pos ⟨by rw [List.length_append];omega,by omega,by omega⟩
  rw [q05_Put.l1,if_pos (by omega),if_pos (by omega),m1]
  simp only [Option.bind_some]
  rw [m2]
  simp only [Option.bind_some]
  rw [succW i (by omega),ih (i+1) k _ (by omega) (by omega) (by rw [List.length_append,List.length_append];omega),drop_rdF fl i (by omega)]
  unfold encFs;rw [List.flatMap_cons];simp only [List.append_assoc]
theorem q05_Put_l0 (s t:ByteArray) (tags:List ByteArray) (fl:List S90) (hf:fl.length≤4) (ht:tags.length≤6) (htg:∀ x ∈ tags,x.size≤49) (hn:∀ x ∈ fl,x.f0.size≤24) (ho:∀ x ∈ fl,-1099511627776≤x.f1∧x.f1≤1099511627776):∀ (n i k:Nat) (x:List Int),i+n=tags.length→n+5 < k→x.length+60 * n≤140737488347000→q05_Put.l0 k x (i:Int) s t tags fl=some (x++(encTs (tags.drop i)++(enc (fl.length:Int)++encFs fl)),0):=by
 intro n
 induction n with
 | zero=>
  intro i k x hi hk hx
  obtain ⟨k,rfl⟩:∃ m,k=m+1:=⟨k - 1,by omega⟩
  have h4:=enc_len (x:=(fl.length:Int)) ⟨by omega,by omega⟩
  have m2:q01_Put.f x (fl.length:Int)=some (x++enc (fl.length:Int)):=if_pos ⟨by omega,by omega,by omega⟩
  rw [q05_Put.l0,if_neg (by omega),m2,List.drop_eq_nil_of_le (by omega)]
  simp only [Option.bind_some]
  have:=q05_Put_l1 s t tags fl hf hn ho fl.length 0 k (x++enc (fl.length:Int)) (by omega) (by omega) (by rw [List.length_append];omega)
  rw [List.drop_zero,List.append_assoc] at this
  exact this
 | succ n ih=>
  intro i k x hi hk hx
  obtain ⟨k,rfl⟩:∃ m,k=m+1:=⟨k - 1,by omega⟩
  have h1:=htg _ (rdOf_mem (l:=tags) (i:=i) (by omega))
  have h3:=encT_len (rdOf ByteArray.empty tags (i:Int)) (by omega)
  have m1:q01_PutText.f x (rdOf ByteArray.empty tags (i:Int))=some (x++encT (bytesOf (rdOf ByteArray.empty tags (i:Int)))):=if_pos (by omega)
  rw [q05_Put.l0,if_pos (by omega),if_pos (by omega),m1]
  simp only [Option.bind_some]
  rw [succW i (by omega),ih (i+1) k _ (by omega) (by omega) (by rw [List.length_append];omega),drop_rd tags i (by omega)]
  unfold encTs;rw [List.flatMap_cons];simp only [List.append_assoc]
def q05_PutG.f (l0:List Int) (a1_0:ByteArray) (a1_1:ByteArray) (l1_2:List ByteArray) (l1_3:List (S90)):Option (List Int × Int):=
 if l0.length≤140737488340000∧l1_2.length≤9223372036854775807∧fitE a1_0 a1_1 l1_2 l1_3=true then some (if mayE a1_0 a1_1 l1_2 l1_3=0 then (l0++encEv a1_0 a1_1 l1_2 l1_3,0) else ([],mayE a1_0 a1_1 l1_2 l1_3)) else none
theorem q05_PutG.val {l0:List Int} {a1_0:ByteArray} {a1_1:ByteArray} {l1_2:List ByteArray} {l1_3:List (S90)} {r1:List Int} {r2:Int} (h:q05_PutG.f l0 a1_0 a1_1 l1_2 l1_3=some (r1,r2)):∃ k,q05_Put.f k l0 a1_0 a1_1 l1_2 l1_3=some (r1,r2):=by
 unfold q05_PutG.f at h
 by_cases hc:l0.length≤140737488340000∧l1_2.length≤9223372036854775807∧fitE a1_0 a1_1 l1_2 l1_3=true
 ·rw [if_pos hc] at h
  rw [←h]
  have m0:q04_MayG.f a1_0 a1_1 l1_2 l1_3=some (mayE a1_0 a1_1 l1_2 l1_3):=if_pos ⟨hc.2.2,hc.2.1⟩
  refine ⟨l1_2.length+7,?_⟩
  unfold q05_Put.f
  rw [m0]
  simp only [Option.bind_some]
  by_cases h0:mayE a1_0 a1_1 l1_2 l1_3=0
  ·rw [if_pos h0,if_pos h0]
   have ok:=(okE_iff _ _ _ _).1 h0
   have z1:=may_size ok.hs
   have z2:=may_size ok.ht
   have q1:=encT_len a1_0 (by omega)
   have q2:=encT_len a1_1 (by omega)
   have ht6:=ok.ht6
   have q3:=enc_len (x:=(l1_2.length:Int)) ⟨by omega,by omega⟩
   have m1:q01_PutText.f l0 a1_0=some (l0++encT (bytesOf a1_0)):=if_pos (by omega)
   have m2:q01_PutText.f (l0++encT (bytesOf a1_0)) a1_1=some ((l0++encT (bytesOf a1_0))++encT (bytesOf a1_1)):=if_pos (by rw [List.length_append];omega)
   have m3:q01_Put.f ((l0++encT (bytesOf a1_0))++encT (bytesOf a1_1)) (l1_2.length:Int)=some (((l0++encT (bytesOf a1_0))++encT (bytesOf a1_1))++enc (l1_2.length:Int)):=if_pos ⟨by rw [List.length_append,List.length_append];omega,by omega,by omega⟩
   rw [m1]
   simp only [Option.bind_some]
   rw [m2]
   simp only [Option.bind_some]
   rw [m3]
   simp only [Option.bind_some]
   have:=q05_Put_l0 a1_0 a1_1 l1_2 l1_3 ok.hf4 ht6 (fun x hx=>tag_size (ok.htag x hx)) (fun x hx=>may_size (ok.hname x hx)) ok.hov l1_2.length 0 (l1_2.length+7) (((l0++encT (bytesOf a1_0))++encT (bytesOf a1_1))++enc (l1_2.length:Int)) (by omega) (by omega) (by rw [List.length_append,List.length_append,List.length_append];omega)
   rw [List.drop_zero] at this
   refine this.trans ?_
   unfold encEv
   simp only [List.append_assoc]
  ·rw [if_neg h0,if_neg h0]
 ·rw [if_neg hc] at h;cases h
theorem q05_PutG.calls (A0:Option Addr) (c0:Nat) (l0:List Int) (a1_0:ByteArray) (a1_1:ByteArray) (A1_2:Option Addr) (c1_2:Nat) (l1_2:List ByteArray) (A1_3:Option Addr) (c1_3:Nat) (l1_3:List (S90)) (r1:List Int) (r2:Int) (w:World) (hr0:Kd.C (Kd.int .u8) w A0 l0.length l0) (hc0:l0.length≤c0) (hr1_2:Kd.C Kd.string w A1_2 l1_2.length l1_2) (hc1_2:l1_2.length≤c1_2) (hr1_3:Kd.C k90 w A1_3 l1_3.length l1_3) (hc1_3:l1_3.length≤c1_3) (h:q05_PutG.f l0 a1_0 a1_1 l1_2 l1_3=some (r1,r2)) :
  Calls Tryz.prog 38 #[.slice A0 l0.length c0,.agg #[.string a1_0,.string a1_1,.slice A1_2 l1_2.length c1_2,.slice A1_3 l1_3.length c1_3]] w fun e w'=>∃ v0_:Value,e = .returned (.tuple #[v0_,.int .i64 r2])∧Kd.R (Kd.int .u8) 5 w' w.heap.size (fun _=>True) v0_ r1∧Below w.heap.size w w':=by
 obtain ⟨k,hk⟩:=q05_PutG.val h
 exact q05_Put.calls k A0 c0 l0 a1_0 a1_1 A1_2 c1_2 l1_2 A1_3 c1_3 l1_3 r1 r2 w hr0 hc0 hr1_2 hc1_2 hr1_3 hc1_3 hk
theorem putG_ok {l0:List Int} {s t:ByteArray} {a:List ByteArray} {f:List S90} (hl:l0.length≤140737488340000) (ha:a.length≤9223372036854775807) (hf:fitE s t a f=true) :
  evcode_PutG.f l0 s t a f=some (if mayE s t a f=0 then (l0++encEv s t a f,0) else ([],mayE s t a f)):=if_pos ⟨hl,ha,hf⟩
theorem OkE.sizes {s t:ByteArray} {a:List ByteArray} {f:List S90} (h:OkE s t a f):s.size≤9223372036854775807∧t.size≤9223372036854775807∧(∀ x ∈ a,x.size≤9223372036854775807)∧(∀ x ∈ f,x.f0.size≤9223372036854775807∧i64 x.f1)∧i64 (a.length:Int)∧i64 (f.length:Int):=by
 have h1:=may_size h.hs
 have h2:=may_size h.ht
 have h3:=h.ht6
 have h4:=h.hf4
 refine ⟨by omega,by omega,fun x hx=>?_,fun x hx=>⟨?_,?_⟩,⟨by omega,by omega⟩,⟨by omega,by omega⟩⟩
 ·have:=tag_size (h.htag x hx);omega
 ·have:=may_size (h.hname x hx);omega
 ·have:=h.hov x hx;exact ⟨by omega,by omega⟩
theorem encFs_bytes (a:List S90):isBytes (encFs a):=by
 induction a with
 | nil=>intro c hc;simp [encFs] at hc
 | cons x r ih=>
  have e:encFs (x :: r)=(encT (bytesOf x.f0)++enc x.f1)++encFs r:=by unfold encFs;rw [List.flatMap_cons]
  rw [e]
  exact isBytes_append.2 ⟨isBytes_append.2 ⟨isBytes_append.2 ⟨enc_bytes _,bytesOf_isBytes x.f0⟩,enc_bytes _⟩,ih⟩
theorem encEv_bytes (s t:ByteArray) (a:List ByteArray) (f:List S90):isBytes (encEv s t a f):=by
 unfold encEv
 exact isBytes_append.2 ⟨isBytes_append.2 ⟨enc_bytes _,bytesOf_isBytes s⟩,isBytes_append.2 ⟨isBytes_append.2 ⟨enc_bytes _,bytesOf_isBytes t⟩,isBytes_append.2 ⟨isBytes_append.2 ⟨enc_bytes _,encTs_bytes a⟩,isBytes_append.2 ⟨enc_bytes _,encFs_bytes f⟩⟩⟩⟩
theorem encFs_snoc (a:List S90) (x:S90):encFs (a++[x])=encFs a++(encT (bytesOf x.f0)++enc x.f1):=by unfold encFs;simp
theorem takeFs_good (l:List Int) (b:Bool) (hb:isBytes l):∀ n,(takeFs n l b).2.2=false→b=false∧l=encFs (takeFs n l b).1++(takeFs n l b).2.1
 | 0,h=>⟨h,rfl⟩
 | n+1,h=>by
  simp only [takeFs] at h ⊢
  have hy:=(takeFs_left l b hb n).1
  obtain ⟨h1,h2,_⟩:=numOf_good (aftT_bytes hy) h
  obtain ⟨h3,h4⟩:=textOf_good hy h1
  obtain ⟨h5,h6⟩:=takeFs_good l b hb n h3
  refine ⟨h5,?_⟩
  rw [encFs_snoc,List.append_assoc,List.append_assoc,←h2,←h4];exact h6
theorem takeE_good {l:List Int} {b:Bool} (hb:isBytes l) {x:S29} {l':List Int} {b':Bool} (h:takeE l b=(x,0,l',b')) :
  b=false∧b'=false∧OkE x.f0 x.f1 x.f2 x.f3∧l=encEv x.f0 x.f1 x.f2 x.f3++l':=by
 unfold takeE at h
 simp only at h
 split at h
 ·simp at h
 rename_i hn
 split at h
 ·simp at h
 rename_i hm
 split at h
 ·simp at h
 rename_i hr
 simp only [not_or,Bool.not_eq_true,ne_eq,Decidable.not_not] at hr
 obtain ⟨hr1,hr2⟩:=hr
 have hx:=congrArg (fun z=>z.1) h
 have hl:=congrArg (fun z=>z.2.2.1) h
 have hb2:=congrArg (fun z=>z.2.2.2) h
 simp only at hx hl hb2
 clear h
 subst hx;subst hl;subst hb2
 refine ⟨?_,hr1,(okE_iff _ _ _ _).1 hr2,?_⟩
 all_goals
  have y1:=aftT_bytes hb
  have y2:=aftT_bytes y1
  have y3:=aft_bytes y2
  obtain ⟨g1,g2⟩:=takeFs_good _ _ (aft_bytes (takeTs_left _ _ y3 _).1) _ hr1
  obtain ⟨g3,g4,g4'⟩:=numOf_good (takeTs_left _ _ y3 _).1 g1
  obtain ⟨g5,g6⟩:=takeTs_good _ _ y3 _ g3
  obtain ⟨g7,g8,g8'⟩:=numOf_good y2 g5
  obtain ⟨g9,g10⟩:=textOf_good y1 g7
  obtain ⟨g11,g12⟩:=textOf_good hb g9
 ·exact g11
 ·have e1:((takeTs (numOf (aftT (aftT l))).toNat (aft (aftT (aftT l))) (badOf (aftT (aftT l)) (badT (aftT l) (badT l b)))).1.length:Int)=numOf (aftT (aftT l)):=by rw [takeTs_len];omega
  have e2:((takeFs (numOf (takeTs (numOf (aftT (aftT l))).toNat (aft (aftT (aftT l))) (badOf (aftT (aftT l)) (badT (aftT l) (badT l b)))).2.1).toNat (aft (takeTs (numOf (aftT (aftT l))).toNat (aft (aftT (aftT l))) (badOf (aftT (aftT l)) (badT (aftT l) (badT l b)))).2.1) (badOf (takeTs (numOf (aftT (aftT l))).toNat (aft (aftT (aftT l))) (badOf (aftT (aftT l)) (badT (aftT l) (badT l b)))).2.1 (takeTs (numOf (aftT (aftT l))).toNat (aft (aftT (aftT l))) (badOf (aftT (aftT l)) (badT (aftT l) (badT l b)))).2.2)).1.length:Int)=numOf (takeTs (numOf (aftT (aftT l))).toNat (aft (aftT (aftT l))) (badOf (aftT (aftT l)) (badT (aftT l) (badT l b)))).2.1:=by rw [takeFs_len];omega
  unfold encEv
  simp only
  rw [e1,e2]
  simp only [List.append_assoc]
  rw [←g2,←g4,←g6,←g8,←g10]
  exact g12
theorem takeFs_enc (a:List S90) (ha:∀ x ∈ a,x.f0.size≤9223372036854775807∧i64 x.f1) (r:List Int) (b:Bool):∀ n,n≤a.length→takeFs n (encFs a++r) b=(a.take n,encFs (a.drop n)++r,b)
 | 0,_=>by simp [takeFs]
 | n+1,h=>by
  have ih:=takeFs_enc a ha r b n (by omega)
  have hd:=drop_rdF a n (by omega)
  have hx:=ha _ (rdF_mem (l:=a) (i:=n) (by omega))
  simp only [takeFs,ih]
  have e:encFs (a.drop n)++r=encT (bytesOf (rd_T90 a (n:Int)).f0)++(enc (rd_T90 a (n:Int)).f1++(encFs (a.drop (n+1))++r)):=by
   rw [hd];unfold encFs;rw [List.flatMap_cons,List.append_assoc,List.append_assoc]
  rw [e]
  obtain ⟨h1,h2,h3⟩:=textOf_enc hx.1 (enc (rd_T90 a (n:Int)).f1++(encFs (a.drop (n+1))++r)) b
  rw [h1,h2,h3]
  obtain ⟨h4,h5,h6⟩:=numOf_enc hx.2 (encFs (a.drop (n+1))++r) b
  rw [h4,h5,h6]
  refine Prod.ext ?_ rfl
  show a.take n++[⟨(rd_T90 a (n:Int)).f0,(rd_T90 a (n:Int)).f1⟩]=a.take (n+1)
  rw [List.take_succ_eq_append_getElem (by omega)]
  unfold rd_T90
  rw [Int.toNat_natCast,List.getD_eq_getElem?_getD,List.getElem?_eq_getElem (by omega)];rfl
theorem takeE_enc {s t:ByteArray} {a:List ByteArray} {f:List S90} (h:OkE s t a f) (r:List Int):takeE (encEv s t a f++r) false=(⟨s,t,a,f⟩,0,r,false):=by
 obtain ⟨z1,z2,z3,z4,z5,z6⟩:=h.sizes
 have h6:=h.ht6
 have h4:=h.hf4
 unfold encEv
 simp only [List.append_assoc]
 obtain ⟨a1,a2,a3⟩:=textOf_enc z1 (encT (bytesOf t)++(enc (a.length:Int)++(encTs a++(enc (f.length:Int)++(encFs f++r))))) false
 obtain ⟨b1,b2,b3⟩:=textOf_enc z2 (enc (a.length:Int)++(encTs a++(enc (f.length:Int)++(encFs f++r)))) false
 obtain ⟨c1,c2,c3⟩:=numOf_enc z5 (encTs a++(enc (f.length:Int)++(encFs f++r))) false
 have d:=takeTs_enc a z3 (enc (f.length:Int)++(encFs f++r)) false a.length (Nat.le_refl _)
 rw [List.take_length,List.drop_length] at d
 have d':takeTs a.length (encTs a++(enc (f.length:Int)++(encFs f++r))) false=(a,enc (f.length:Int)++(encFs f++r),false):=by rw [d];simp [encTs]
 obtain ⟨e1,e2,e3⟩:=numOf_enc z6 (encFs f++r) false
 have g:=takeFs_enc f z4 r false f.length (Nat.le_refl _)
 rw [List.take_length,List.drop_length] at g
 have g':takeFs f.length (encFs f++r) false=(f,r,false):=by rw [g];simp [encFs]
 unfold takeE
 simp only [a1,a2,a3,b1,b2,b3,c1,c2,c3]
 rw [if_neg (by omega),Int.toNat_natCast,d']
 simp only [e1,e2,e3]
 rw [if_neg (by omega),Int.toNat_natCast,g']
 simp only
 rw [if_neg (by rw [(okE_iff _ _ _ _).2 h];simp)]
theorem takeE_code (l:List Int) (b:Bool):(takeE l b).2.1=0∨(takeE l b).2.1=2∧(takeE l b).1=z29:=by
 unfold takeE
 simp only
 split
 ·exact .inr ⟨rfl,rfl⟩
 split
 ·exact .inr ⟨rfl,rfl⟩
 split
 ·exact .inr ⟨rfl,rfl⟩
 ·exact .inl rfl
def name_May.f (a0:ByteArray):Option (Bool):=if a0.size≤9223372036854775807 then some (mayL (bytesOf a0)) else none
theorem name_May.calls (a0:ByteArray) (r:Bool) (w:World) (h:name_May.f a0=some r) :
  Calls Tryz.prog 77 #[.string a0] w fun e w'=>e = .returned (.bool r)∧Below w.heap.size w w':=by
 unfold name_May.f at h
 by_cases hc:a0.size≤9223372036854775807
 ·rw [if_pos hc] at h
  obtain rfl:=Option.some.inj h
  exact may_calls a0 w hc
 ·rw [if_neg hc] at h;cases h
def name_MayTag.f (a0:ByteArray):Option (Bool):=if a0.size≤9223372036854775807 then some (tagB a0) else none
theorem name_MayTag.calls (a0:ByteArray) (r:Bool) (w:World) (h:name_MayTag.f a0=some r) :
  Calls Tryz.prog 80 #[.string a0] w fun e w'=>e = .returned (.bool r)∧Below w.heap.size w w':=by
 unfold name_MayTag.f at h
 by_cases hc:a0.size≤9223372036854775807
 ·rw [if_pos hc] at h
  obtain rfl:=Option.some.inj h
  exact mayTag_calls a0 w hc
 ·rw [if_neg hc] at h;cases h
end Go.Proofs.YtocpcnmnhckcpaaGreat.Prt
namespace Go.Proofs.YtocpcnmnhckcpaaGreat.Prt
open RowKit YtocpcnmnhckcpaaGreatW.PrintWords YtocpcnmnhckcpaaGreatW.PrintLast YtocpcnmnhckcpaaGreatW.PrintMore
attribute [local go_sem] max2_int min2_int max_two min_two max_three min_three max_four min_four
def query_May_1.f (l0_0:List ByteArray) (l0_1:List ByteArray):Option (Bool):=if (l0_0.length:Int) > 4 then (some true) else (some (decide ((l0_1.length:Int) > 4)))
set_option maxHeartbeats 8000000 in
set_option maxRecDepth 100000 in
theorem query_May_1.calls (A0_0:Option Addr) (c0_0:Nat) (l0_0:List ByteArray) (A0_1:Option Addr) (c0_1:Nat) (l0_1:List ByteArray) (r:Bool) (w:World) (hr0_0:Kd.C Kd.string w A0_0 l0_0.length l0_0) (hc0_0:l0_0.length≤c0_0) (hr0_1:Kd.C Kd.string w A0_1 l0_1.length l0_1) (hc0_1:l0_1.length≤c0_1) (h:query_May_1.f l0_0 l0_1=some r) :
  Calls Tryz.prog 83 #[.agg #[.slice A0_0 l0_0.length c0_0,.slice A0_1 l0_1.length c0_1]] w fun e w'=>e = .returned (.bool r)∧Below w.heap.size w w':=by
 have hu96:=Tryz.underlying96
 have HR0_0:=Ak hr0_0
 have HC0_0:=Ak hc0_0
 clear hr0_0 hc0_0
 have HR0_1:=Ak hr0_1
 have HC0_1:=Ak hc0_1
 clear hr0_1 hc0_1
 have HB:=Ak (Below.refl w.heap.size w)
 have H:(if (l0_0.length:Int) > 4 then (some true) else (some (decide ((l0_1.length:Int) > 4))))=some r:=h
 clear h
 by_cases c2:(l0_0.length:Int) > 4
 ·rw [if_pos c2] at H
  have c2b0:decide (4 < (l0_0.length:Int))=true:=decide_eq_true c2
  have c2b1:decide (4 < l0_0.length)=true:=decide_eq_true (by omega)
  clear c2
  obtain rfl:=Option.some.inj H
  go_enter Tryz.func83,Tryz.ntmps83
  go_wp2_with (((with_reducible refine gate_dst (N:=1) rfl ?_);(try (refine gate_guard (by rfl) ?_;dsimp only));refine box_event ?hg (N:=1) ?hd (cs:=#[.slice A0_0 l0_0.length c0_0,.slice A0_1 l0_1.length c0_1]) (t:=96) ?hr ?_;(case hd=>rfl);(case hg=>rfl);(case hr=>(go_simp;done));intro gb102 hg w3 hbox hb;have n0_:=Ak (below_step HB.out hb);have n1_:=Ak (hbox);have n2_:=Ak ((by rw [hg];exact (below_size HB.out):w.heap.size≤gb102));have n3_:=Ak ((by rw [hg];exact (below_size HB.out):w.heap.size≤gb102));clear HB;have HB:=n0_;have BK102:=n1_;have GW102:=n2_;have GE102:=n3_;clear n0_ n1_ n2_ n3_;clear hb hbox hg;have hcz4_0:w3.cell? ⟨gb102,0,none⟩=some (.slice A0_0 l0_0.length c0_0):=(blk_cell BK102.out 0).trans rfl;have hcz4_1:w3.cell? ⟨gb102,1,none⟩=some (.slice A0_1 l0_1.length c0_1):=(blk_cell BK102.out 1).trans rfl;have hfz4_0:=blk_frozen BK102.out 0;have hfz4_1:=blk_frozen BK102.out 1))
  go_ret
  exact ⟨by rfl,by with_reducible exact HB.out⟩
 ·rw [if_neg c2] at H
  have c2b0:decide (4 < (l0_0.length:Int))=false:=decide_eq_false c2
  have c2b1:decide (4 < l0_0.length)=false:=decide_eq_false (by omega)
  clear c2
  obtain rfl:=Option.some.inj H
  go_enter Tryz.func83,Tryz.ntmps83
  go_wp2_with (((with_reducible refine gate_dst (N:=1) rfl ?_);(try (refine gate_guard (by rfl) ?_;dsimp only));refine box_event ?hg (N:=1) ?hd (cs:=#[.slice A0_0 l0_0.length c0_0,.slice A0_1 l0_1.length c0_1]) (t:=96) ?hr ?_;(case hd=>rfl);(case hg=>rfl);(case hr=>(go_simp;done));intro gb102 hg w5 hbox hb;have n0_:=Ak (below_step HB.out hb);have n1_:=Ak (hbox);have n2_:=Ak ((by rw [hg];exact (below_size HB.out):w.heap.size≤gb102));have n3_:=Ak ((by rw [hg];exact (below_size HB.out):w.heap.size≤gb102));clear HB;have HB:=n0_;have BK102:=n1_;have GW102:=n2_;have GE102:=n3_;clear n0_ n1_ n2_ n3_;clear hb hbox hg;have hcz6_0:w5.cell? ⟨gb102,0,none⟩=some (.slice A0_0 l0_0.length c0_0):=(blk_cell BK102.out 0).trans rfl;have hcz6_1:w5.cell? ⟨gb102,1,none⟩=some (.slice A0_1 l0_1.length c0_1):=(blk_cell BK102.out 1).trans rfl;have hfz6_0:=blk_frozen BK102.out 0;have hfz6_1:=blk_frozen BK102.out 1))
  go_ret
  exact ⟨by rfl,by with_reducible exact HB.out⟩
end Go.Proofs.YtocpcnmnhckcpaaGreat.Prt
namespace Go.Proofs.YtocpcnmnhckcpaaGreat.Prt
open RowKit YtocpcnmnhckcpaaGreatW.PrintWords YtocpcnmnhckcpaaGreatW.PrintLast YtocpcnmnhckcpaaGreatW.PrintMore
attribute [local go_sem] max2_int min2_int max_two min_two max_three min_three max_four min_four
def query_May_2_1.f (a0:ByteArray):Option (Bool):=(name_MayTag.f a0).bind fun t103=>(some (!t103))
set_option maxHeartbeats 8000000 in
set_option maxRecDepth 100000 in
theorem query_May_2_1.calls (a0:ByteArray) (r:Bool) (w:World) (h:query_May_2_1.f a0=some r) :
  Calls Tryz.prog 85 #[.string a0] w fun e w'=>e = .returned (.bool r)∧Below w.heap.size w w':=by
 have HB:=Ak (Below.refl w.heap.size w)
 have H:((name_MayTag.f a0).bind fun t103=>(some (!t103)))=some r:=h
 clear h
 replace H:=Option.bind_eq_some_iff.mp H
 obtain ⟨t103,A20,H⟩:=H
 replace H:(some (!t103))=some r:=H
 have A2:=Ak A20
 clear A20
 obtain rfl:=Option.some.inj H
 go_enter Tryz.func85,Tryz.ntmps85
 go_wp2_with (((with_reducible refine gate_callee (f:=80) rfl ?_);refine goesL_ (some 4) rfl rfl Tryz.func80 (by kernel_rfl) rfl #[.string a0] rfl (by (try simp only [List.map_toArray,List.map_cons,List.map_nil]);rfl) ?_;(with_reducible refine (name_MayTag.calls a0 t103 _ A2.out).mono ?_);rintro e w3 ⟨rfl,hb⟩;refine ⟨_,rfl,?_⟩;replace HB:=Ak (below_step HB.out hb);(try clear hb)))
 go_ret
 exact ⟨by rfl,by with_reducible exact HB.out⟩
end Go.Proofs.YtocpcnmnhckcpaaGreat.Prt
namespace Go.Proofs.YtocpcnmnhckcpaaGreat.Prt
open RowKit YtocpcnmnhckcpaaGreatW.PrintWords YtocpcnmnhckcpaaGreatW.PrintLast YtocpcnmnhckcpaaGreatW.PrintMore
attribute [local go_sem] max2_int min2_int max_two min_two max_three min_three max_four min_four
def query_May_2_2.f (a0:ByteArray):Option (Bool):=(name_May.f a0).bind fun t104=>(some (!t104))
set_option maxHeartbeats 8000000 in
set_option maxRecDepth 100000 in
theorem query_May_2_2.calls (a0:ByteArray) (r:Bool) (w:World) (h:query_May_2_2.f a0=some r) :
  Calls Tryz.prog 86 #[.string a0] w fun e w'=>e = .returned (.bool r)∧Below w.heap.size w w':=by
 have HB:=Ak (Below.refl w.heap.size w)
 have H:((name_May.f a0).bind fun t104=>(some (!t104)))=some r:=h
 clear h
 replace H:=Option.bind_eq_some_iff.mp H
 obtain ⟨t104,A20,H⟩:=H
 replace H:(some (!t104))=some r:=H
 have A2:=Ak A20
 clear A20
 obtain rfl:=Option.some.inj H
 go_enter Tryz.func86,Tryz.ntmps86
 go_wp2_with (((with_reducible refine gate_callee (f:=77) rfl ?_);refine goesL_ (some 4) rfl rfl Tryz.func77 (by kernel_rfl) rfl #[.string a0] rfl (by (try simp only [List.map_toArray,List.map_cons,List.map_nil]);rfl) ?_;(with_reducible refine (name_May.calls a0 t104 _ A2.out).mono ?_);rintro e w3 ⟨rfl,hb⟩;refine ⟨_,rfl,?_⟩;replace HB:=Ak (below_step HB.out hb);(try clear hb)))
 go_ret
 exact ⟨by rfl,by with_reducible exact HB.out⟩
end Go.Proofs.YtocpcnmnhckcpaaGreat.Prt
namespace Go.Proofs.YtocpcnmnhckcpaaGreat.Prt
open RowKit YtocpcnmnhckcpaaGreatW.PrintWords YtocpcnmnhckcpaaGreatW.PrintLast YtocpcnmnhckcpaaGreatW.PrintMore
attribute [local go_sem] max2_int min2_int max_two min_two max_three min_three max_four min_four
def cmp_isNaN_string.f (a0:ByteArray):Option (Bool):=some (a0.toList != a0.toList)
set_option maxHeartbeats 8000000 in
set_option maxRecDepth 100000 in
theorem cmp_isNaN_string.calls (a0:ByteArray) (r:Bool) (w:World) (h:cmp_isNaN_string.f a0=some r) :
  Calls Tryz.prog 121 #[.string a0] w fun e w'=>e = .returned (.bool r)∧Drawn0 w w':=by
 have H:(some (a0.toList != a0.toList))=some r:=h
 clear h
 obtain rfl:=Option.some.inj H
 go_enter Tryz.func121,Tryz.ntmps121
 go_wp2
 go_ret
 exact ⟨by rfl,by repeat (exact Drawn0.refl _)⟩
end Go.Proofs.YtocpcnmnhckcpaaGreat.Prt
namespace Go.Proofs.YtocpcnmnhckcpaaGreat.Prt
open RowKit YtocpcnmnhckcpaaGreatW.PrintWords YtocpcnmnhckcpaaGreatW.PrintLast YtocpcnmnhckcpaaGreatW.PrintMore
attribute [local go_sem] max2_int min2_int max_two min_two max_three min_three max_four min_four
def cmp_Less_string.f (a0:ByteArray) (a1:ByteArray):Option (Bool):=(cmp_isNaN_string.f a0).bind fun t105=>(if t105=true then ((cmp_isNaN_string.f a1).bind fun t106=>(if t106=true then (some (Op.bytesLess a0.toList a1.toList)) else (some true))) else (some (Op.bytesLess a0.toList a1.toList)))
set_option maxHeartbeats 8000000 in
set_option maxRecDepth 100000 in
theorem cmp_Less_string.calls (a0:ByteArray) (a1:ByteArray) (r:Bool) (w:World) (h:cmp_Less_string.f a0 a1=some r) :
  Calls Tryz.prog 116 #[.string a0,.string a1] w fun e w'=>e = .returned (.bool r)∧Drawn0 w w':=by
 have H:((cmp_isNaN_string.f a0).bind fun t105=>(if t105=true then ((cmp_isNaN_string.f a1).bind fun t106=>(if t106=true then (some (Op.bytesLess a0.toList a1.toList)) else (some true))) else (some (Op.bytesLess a0.toList a1.toList))))=some r:=h
 clear h
 replace H:=Option.bind_eq_some_iff.mp H
 obtain ⟨t105,A30,H⟩:=H
 replace H:(if t105=true then ((cmp_isNaN_string.f a1).bind fun t106=>(if t106=true then (some (Op.bytesLess a0.toList a1.toList)) else (some true))) else (some (Op.bytesLess a0.toList a1.toList)))=some r:=H
 have A3:=Ak A30
 clear A30
 by_cases c4:t105=true
 ·subst c4
  have H1:((cmp_isNaN_string.f a1).bind fun t106=>(if t106=true then (some (Op.bytesLess a0.toList a1.toList)) else (some true)))=some r:=by rw [if_pos rfl] at H;exact H
  clear H
  have H:=H1
  clear H1
  replace H:=Option.bind_eq_some_iff.mp H
  obtain ⟨t106,A50,H⟩:=H
  replace H:(if t106=true then (some (Op.bytesLess a0.toList a1.toList)) else (some true))=some r:=H
  have A5:=Ak A50
  clear A50
  by_cases c6:t106=true
  ·subst c6
   have H1:(some (Op.bytesLess a0.toList a1.toList))=some r:=by rw [if_pos rfl] at H;exact H
   clear H
   have H:=H1
   clear H1
   obtain rfl:=Option.some.inj H
   go_enter Tryz.func116,Tryz.ntmps116
   go_wp2_with (first | ((with_reducible refine gate_callee (f:=121) rfl ?_);refine goesL_ (some 6) rfl rfl Tryz.func121 (by kernel_rfl) rfl #[.string a0] rfl (by (try simp only [List.map_toArray,List.map_cons,List.map_nil]);rfl) ?_;(with_reducible refine (cmp_isNaN_string.calls a0 true _ A3.out).mono ?_);rintro e w' ⟨rfl,⟨nd,rfl⟩⟩;refine ⟨_,rfl,?_⟩) | (go_at_call 121;(with_reducible refine (cmp_isNaN_string.calls a1 true _ A5.out).mono ?_);rintro e w' ⟨rfl,⟨nd,rfl⟩⟩))
   go_ret
   exact ⟨by rfl,by repeat (first | exact Drawn0.refl _ | apply Drawn0.step)⟩
  ·replace c6:=Bool.eq_false_iff.mpr c6
   subst c6
   have H1:(some true)=some r:=by rw [if_neg (show ¬(false=true) by decide)] at H;exact H
   clear H
   have H:=H1
   clear H1
   obtain rfl:=Option.some.inj H
   go_enter Tryz.func116,Tryz.ntmps116
   go_wp2_with (first | ((with_reducible refine gate_callee (f:=121) rfl ?_);refine goesL_ (some 6) rfl rfl Tryz.func121 (by kernel_rfl) rfl #[.string a0] rfl (by (try simp only [List.map_toArray,List.map_cons,List.map_nil]);rfl) ?_;(with_reducible refine (cmp_isNaN_string.calls a0 true _ A3.out).mono ?_);rintro e w' ⟨rfl,⟨nd,rfl⟩⟩;refine ⟨_,rfl,?_⟩) | (go_at_call 121;(with_reducible refine (cmp_isNaN_string.calls a1 false _ A5.out).mono ?_);rintro e w' ⟨rfl,⟨nd,rfl⟩⟩))
   go_ret
   exact ⟨by rfl,by repeat (first | exact Drawn0.refl _ | apply Drawn0.step)⟩
 ·replace c4:=Bool.eq_false_iff.mpr c4
  subst c4
  have H1:(some (Op.bytesLess a0.toList a1.toList))=some r:=by rw [if_neg (show ¬(false=true) by decide)] at H;exact H
  clear H
  have H:=H1
  clear H1
  obtain rfl:=Option.some.inj H
  go_enter Tryz.func116,Tryz.ntmps116
  go_wp2_with (((with_reducible refine gate_callee (f:=121) rfl ?_);refine goesL_ (some 6) rfl rfl Tryz.func121 (by kernel_rfl) rfl #[.string a0] rfl (by (try simp only [List.map_toArray,List.map_cons,List.map_nil]);rfl) ?_;(with_reducible refine (cmp_isNaN_string.calls a0 false _ A3.out).mono ?_);rintro e w' ⟨rfl,⟨nd,rfl⟩⟩;refine ⟨_,rfl,?_⟩))
  go_ret
  exact ⟨by rfl,by repeat (first | exact Drawn0.refl _ | apply Drawn0.step)⟩
end Go.Proofs.YtocpcnmnhckcpaaGreat.Prt
namespace Go.Proofs.YtocpcnmnhckcpaaGreat.Prt
open RowKit YtocpcnmnhckcpaaGreatW.PrintWords YtocpcnmnhckcpaaGreatW.PrintLast YtocpcnmnhckcpaaGreatW.PrintMore
attribute [local go_sem] max2_int min2_int max_two min_two max_three min_three max_four min_four
def slices_IsSorted_string_string.l0:Nat→List ByteArray→Int→Option (Bool)
 | 0,_,_=>none
 | k+1,x0,x3=>if x3 > 0 then (if 0≤x3 then (if x3 < (x0.length:Int) then (if 0≤(wrap64 (x3 - 1)) then (if (wrap64 (x3 - 1)) < (x0.length:Int) then ((cmp_Less_string.f (rdOf ByteArray.empty x0 x3) (rdOf ByteArray.empty x0 (wrap64 (x3 - 1)))).bind fun t109=>(if t109=true then (some false) else (slices_IsSorted_string_string.l0 k x0 (wrap64 (x3 - 1))))) else (none)) else (none)) else (none)) else (none)) else (some true)
def slices_IsSorted_string_string.f (k:Nat) (l0:List ByteArray):Option (Bool):=slices_IsSorted_string_string.l0 k l0 (wrap64 ((l0.length:Int) - 1))
set_option maxHeartbeats 8000000 in
set_option maxRecDepth 100000 in
theorem slices_IsSorted_string_string.calls (k:Nat) (A0:Option Addr) (c0:Nat) (l0:List ByteArray) (r:Bool) (w:World) (hr0:Kd.C Kd.string w A0 l0.length l0) (hc0:l0.length≤c0) (h:slices_IsSorted_string_string.f k l0=some r) :
  Calls Tryz.prog 107 #[.slice A0 l0.length c0] w fun e w'=>e = .returned (.bool r)∧Drawn0 w w':=by
 have HR0:=Ak hr0
 have HC0:=Ak hc0
 clear hr0 hc0
 have H:(slices_IsSorted_string_string.l0 k l0 (wrap64 ((l0.length:Int) - 1)))=some r:=h
 clear h
 have H':=Ak H
 clear H
 go_enter Tryz.func107,Tryz.ntmps107
 go_wp2
 repeat (go_quiet (fail))
 go_loopg [3] k (fun kq v3 w'=>∃ (x3_1:Int),v3 = .int .i64 x3_1∧Aside0 (slices_IsSorted_string_string.l0 kq l0 x3_1=some r)∧Aside0 (kq≤k)∧Drawn0 w w')
 case atStart=>exact ⟨(wrap64 ((l0.length:Int) - 1)),(by rfl),H',⟨Nat.le_refl _⟩,by repeat (exact Drawn0.refl _)⟩
 case round=>
  clear H'
  obtain ⟨x3_1,rfl,HA,HK1,⟨m1,rfl⟩⟩:=hrel
  cases gk with
  | zero=>exact absurd HA.out (by simp [slices_IsSorted_string_string.l0])
  | succ k1=>
   have H:=HA.out
   clear HA
   simp only [slices_IsSorted_string_string.l0] at H
   by_cases c2:x3_1 > 0
   ·rw [if_pos c2] at H
    have c2b0:decide (0 < x3_1)=true:=decide_eq_true c2
    clear c2
    by_cases c3:0≤x3_1
    ·rw [if_pos c3] at H
     have c3b0:decide (0≤x3_1)=true:=decide_eq_true c3
     clear c3
     by_cases c4:x3_1 < (l0.length:Int)
     ·rw [if_pos c4] at H
      have c4b0:decide (x3_1 < (l0.length:Int))=true:=decide_eq_true c4
      clear c4
      obtain ⟨ji5,hji5⟩:∃ j_:Int,(wrap64 (x3_1 - 1))=j_:=⟨_,rfl⟩
      replace H:(if 0≤(ji5) then (if (ji5) < (l0.length:Int) then ((cmp_Less_string.f (rdOf ByteArray.empty l0 x3_1) (rdOf ByteArray.empty l0 (ji5))).bind fun t109=>(if t109=true then (some false) else (slices_IsSorted_string_string.l0 k1 l0 ji5))) else (none)) else (none))=some r:=by (rw [hji5] at H;exact H)
      have hji5w:(IntKind.i64.wrap (x3_1 - 1))=ji5:=(i64_w _).trans hji5
      by_cases c6:0≤(ji5)
      ·rw [if_pos c6] at H
       have c6b0:decide (0≤(ji5))=true:=decide_eq_true c6
       clear c6
       by_cases c7:(ji5) < (l0.length:Int)
       ·rw [if_pos c7] at H
        have c7b0:decide ((ji5) < (l0.length:Int))=true:=decide_eq_true c7
        clear c7
        replace H:=Option.bind_eq_some_iff.mp H
        obtain ⟨t109,A80,H⟩:=H
        replace H:(if t109=true then (some false) else (slices_IsSorted_string_string.l0 k1 l0 ji5))=some r:=H
        have A8:=Ak A80
        clear A80
        by_cases c9:t109=true
        ·subst c9
         have H1:(some false)=some r:=by rw [if_pos rfl] at H;exact H
         clear H
         have H:=H1
         clear H1
         obtain rfl:=Option.some.inj H
         have p107:0≤(x3_1:Int):=of_decide_eq_true (by (with_reducible assumption))
         have q107:x3_1 < (l0.length:Int):=of_decide_eq_true (by (with_reducible assumption))
         obtain ⟨ad107,e107,hx107_0⟩:=Kd.at_string HR0.out x3_1 p107 q107
         cases e107
         replace p107:=eq_true p107
         replace q107:=eq_true q107
         have p108:0≤((ji5):Int):=of_decide_eq_true (by (with_reducible assumption))
         have q108:(ji5) < (l0.length:Int):=of_decide_eq_true (by (with_reducible assumption))
         obtain ⟨ad108,e108,hx108_0⟩:=Kd.at_string HR0.out (ji5) p108 q108
         obtain rfl:ad107=ad108:=(by injection e108)
         replace p108:=eq_true p108
         replace q108:=eq_true q108
         go_wp2_with (fail)
         repeat (go_quiet ((go_at_call 116;(with_reducible refine (cmp_Less_string.calls (rdOf ByteArray.empty l0 x3_1) (rdOf ByteArray.empty l0 (ji5)) true _ A8.out).mono ?_);rintro e w' ⟨rfl,⟨nd,rfl⟩⟩;(try exact ⟨rfl,_,Eq.trans (World.drewN_drewN _ _ _) (congrArg (World.drewN _) (Nat.add_assoc _ _ _))⟩)));try go_wp2_with (fail))
         go_ret
         exact ⟨by rfl,by repeat (first | exact Drawn0.refl _ | apply Drawn0.step)⟩
        ·replace c9:=Bool.eq_false_iff.mpr c9
         subst c9
         have H1:(slices_IsSorted_string_string.l0 k1 l0 ji5)=some r:=by rw [if_neg (show ¬(false=true) by decide)] at H;exact H
         clear H
         have H:=H1
         clear H1
         have H':=Ak H
         clear H
         have p107:0≤(x3_1:Int):=of_decide_eq_true (by (with_reducible assumption))
         have q107:x3_1 < (l0.length:Int):=of_decide_eq_true (by (with_reducible assumption))
         obtain ⟨ad107,e107,hx107_0⟩:=Kd.at_string HR0.out x3_1 p107 q107
         cases e107
         replace p107:=eq_true p107
         replace q107:=eq_true q107
         have p108:0≤((ji5):Int):=of_decide_eq_true (by (with_reducible assumption))
         have q108:(ji5) < (l0.length:Int):=of_decide_eq_true (by (with_reducible assumption))
         obtain ⟨ad108,e108,hx108_0⟩:=Kd.at_string HR0.out (ji5) p108 q108
         obtain rfl:ad107=ad108:=(by injection e108)
         replace p108:=eq_true p108
         replace q108:=eq_true q108
         go_wp2_with (fail)
         repeat (go_quiet ((go_at_call 116;(with_reducible refine (cmp_Less_string.calls (rdOf ByteArray.empty l0 x3_1) (rdOf ByteArray.empty l0 (ji5)) false _ A8.out).mono ?_);rintro e w' ⟨rfl,⟨nd,rfl⟩⟩;(try exact ⟨rfl,_,Eq.trans (World.drewN_drewN _ _ _) (congrArg (World.drewN _) (Nat.add_assoc _ _ _))⟩)));try go_wp2_with (fail))
         go_roundg k1
         case measure=>have:=HK1.out;omega
         case rel=>exact ⟨(ji5),(by rfl),H',⟨by have:=HK1.out;omega⟩,by repeat (first | exact Drawn0.refl _ | apply Drawn0.step)⟩
       ·rw [if_neg c7] at H
        exact absurd H (by simp)
      ·rw [if_neg c6] at H
       exact absurd H (by simp)
     ·rw [if_neg c4] at H
      exact absurd H (by simp)
    ·rw [if_neg c3] at H
     exact absurd H (by simp)
   ·rw [if_neg c2] at H
    have c2b0:decide (0 < x3_1)=false:=decide_eq_false c2
    clear c2
    obtain rfl:=Option.some.inj H
    go_wp2
    repeat (go_quiet (fail))
    go_ret
    exact ⟨by rfl,by repeat (first | exact Drawn0.refl _ | apply Drawn0.step)⟩
end Go.Proofs.YtocpcnmnhckcpaaGreat.Prt
namespace Go.Proofs.YtocpcnmnhckcpaaGreat.Nam
open RowKit YtocpcnmnhckcpaaGreatW.PrintWords YtocpcnmnhckcpaaGreatW.PrintLast YtocpcnmnhckcpaaGreatW.PrintMore YtocpcnmnhckcpaaGreat.Num YtocpcnmnhckcpaaGreat.Prt
theorem less_tri:∀ x y:List UInt8,Op.bytesLess x y=true↔¬(Op.bytesLess y x=true)∧x≠y
 | [],[]=>by simp [Op.bytesLess]
 | _ :: _,[]=>by simp [Op.bytesLess]
 | [],_ :: _=>by simp [Op.bytesLess]
 | a :: x,b :: y=>by
  have ih:=less_tri x y
  simp only [Op.bytesLess,Bool.or_eq_true,Bool.and_eq_true,decide_eq_true_eq,beq_iff_eq,ne_eq,List.cons.injEq,not_or,not_and]
  have h1:a < b↔a.toNat < b.toNat:=UInt8.lt_iff_toNat_lt
  have h2:b < a↔b.toNat < a.toNat:=UInt8.lt_iff_toNat_lt
  have h3:a=b↔a.toNat=b.toNat:=⟨fun h=>by rw [h],UInt8.toNat_inj.1⟩
  have h4:b=a↔b.toNat=a.toNat:=⟨fun h=>by rw [h],UInt8.toNat_inj.1⟩
  rw [h1,h2,h3,h4,ih]
  constructor
  ·rintro (h | ⟨h,g1,g2⟩)
   ·exact ⟨⟨by omega,fun e=>by omega⟩,fun e=>by omega⟩
   ·exact ⟨⟨by omega,fun _=>g1⟩,fun _=>g2⟩
  ·rintro ⟨⟨g1,g2⟩,g3⟩
   by_cases e:a.toNat=b.toNat
   ·exact .inr ⟨e,g2 e.symm,g3 e⟩
   ·exact .inl (by omega)
theorem lessS_iff (a b:ByteArray):lessS a b=(!lessS b a && decide (a.data.toList≠b.data.toList)):=by
 have h:=less_tri a.toList b.toList
 unfold lessS
 rw [Bool.eq_iff_iff,h,Bool.and_eq_true,Bool.not_eq_true',decide_eq_true_iff,Lib.toList_data,Lib.toList_data,Bool.not_eq_true]
theorem rise_all (l:List ByteArray):riseB l=(List.range (l.length - 1)).all fun j=>lessS (l.getD j ByteArray.empty) (l.getD (j+1) ByteArray.empty):=by
 induction l with
 | nil=>rfl
 | cons a r ih=>
  cases r with
  | nil=>rfl
  | cons b s=>
   rw [riseB,ih]
   simp only [List.length_cons,Nat.add_sub_cancel]
   rw [List.range_succ_eq_map,List.all_cons,List.all_map]
   rfl
def sortedB (l:List ByteArray):Bool:=(List.range (l.length - 1)).all fun j=>!lessS (l.getD (j+1) ByteArray.empty) (l.getD j ByteArray.empty)
def apartB (l:List ByteArray):Bool:=(List.range (l.length - 1)).all fun j=>decide ((l.getD j ByteArray.empty).data.toList≠(l.getD (j+1) ByteArray.empty).data.toList)
theorem rise_parts (l:List ByteArray):riseB l=(sortedB l && apartB l):=by
 unfold sortedB apartB
 rw [rise_all,Bool.eq_iff_iff,Bool.and_eq_true,List.all_eq_true,List.all_eq_true,List.all_eq_true]
 constructor
 ·intro h
  refine ⟨fun j hj=>?_,fun j hj=>?_⟩
  ·have:=h j hj;rw [lessS_iff,Bool.and_eq_true] at this;exact this.1
  ·have:=h j hj;rw [lessS_iff,Bool.and_eq_true] at this;exact this.2
 ·rintro ⟨h1,h2⟩ j hj
  rw [lessS_iff,h1 j hj,h2 j hj];rfl
theorem less_val (a b:ByteArray):cmp_Less_string.f a b=some (lessS a b):=by
 unfold cmp_Less_string.f cmp_isNaN_string.f
 simp only [Option.bind_some,bne_self_eq_false,Bool.false_eq_true,if_false]
 rfl
theorem sorted_loop (l:List ByteArray) (hl:l.length≤9223372036854775807):∀ (i k:Nat),i+1≤l.length→i < k→slices_IsSorted_string_string.l0 k l (i:Int)=some ((List.range i).all fun j=>!lessS (l.getD (j+1) ByteArray.empty) (l.getD j ByteArray.empty)):=by
 intro i
 induction i with
 | zero=>
  intro k hi hk
  obtain ⟨k,rfl⟩:∃ m,k=m+1:=⟨k - 1,by omega⟩
  rw [slices_IsSorted_string_string.l0,if_neg (by omega)];rfl
 | succ i ih=>
  intro k hi hk
  obtain ⟨k,rfl⟩:∃ m,k=m+1:=⟨k - 1,by omega⟩
  have e1:wrap64 (((i+1:Nat):Int) - 1)=(i:Int):=by rw [wrapI (by omega) (by omega)];omega
  rw [slices_IsSorted_string_string.l0,if_pos (by omega),if_pos (by omega),if_pos (by omega),e1,if_pos (by omega),if_pos (by omega),less_val,List.range_succ,List.all_append]
  simp only [Option.bind_some]
  have e2:lessS (rdOf ByteArray.empty l ((i+1:Nat):Int)) (rdOf ByteArray.empty l (i:Int))=lessS (l.getD (i+1) ByteArray.empty) (l.getD i ByteArray.empty):=rfl
  rw [e2]
  cases hs:lessS (l.getD (i+1) ByteArray.empty) (l.getD i ByteArray.empty) with
  | true=>rw [if_pos rfl];simp only [List.all_cons,List.all_nil,hs];simp
  | false=>rw [if_neg (by decide),ih k (by omega) (by omega)];simp only [List.all_cons,List.all_nil,hs];simp
theorem sorted_val (l:List ByteArray) (hl:l.length≤9223372036854775807):slices_IsSorted_string_string.f (l.length+1) l=some (sortedB l):=by
 unfold slices_IsSorted_string_string.f sortedB
 cases h:l.length with
 | zero=>
  have e:wrap64 (((0:Nat):Int) - 1) = -1:=by rw [wrapI (by omega) (by omega)];rfl
  rw [e,slices_IsSorted_string_string.l0,if_neg (by omega)];rfl
 | succ n=>
  have e:wrap64 (((n+1:Nat):Int) - 1)=(n:Int):=by rw [wrapI (by omega) (by omega)];omega
  rw [e,sorted_loop l hl n (n+1+1) (by omega) (by omega)];rfl
theorem compact_len (l:List ByteArray):((Lib.compact (Lib.strsOf (fun i=>l.getD i ByteArray.empty) l.length)).length == l.length)=apartB l:=by
 obtain ⟨d,hd⟩:∃ d,d=(Lib.strsOf (fun i=>l.getD i ByteArray.empty) l.length).toArray:=⟨_,rfl⟩
 have hz:∀ j,j < l.length→d[j]! = (l.getD j ByteArray.empty).data.toList:=by
  intro j hj
  rw [hd]
  unfold Lib.strsOf
  simp [hj]
 have e:(Lib.compact (Lib.strsOf (fun i=>l.getD i ByteArray.empty) l.length)).length=((List.range l.length).filter (Lib.keeps d)).length:=by
  unfold Lib.compact Lib.compactUpTo
  rw [List.length_map,Lib.strsOf_length,hd]
 rw [e,Bool.eq_iff_iff,beq_iff_eq]
 unfold apartB
 rw [List.all_eq_true]
 have h2:((List.range l.length).filter (Lib.keeps d)).length=l.length↔∀ a ∈ List.range l.length,Lib.keeps d a=true:=by
  have:=List.length_filter_eq_length_iff (p:=Lib.keeps d) (l:=List.range l.length)
  rwa [List.length_range] at this
 rw [h2]
 unfold Lib.keeps
 constructor
 ·intro h j hj
  rw [List.mem_range] at hj
  have h3:=h (j+1) (List.mem_range.2 (by omega))
  rw [decide_eq_true_iff] at h3 ⊢
  rcases h3 with h3 | h3
  ·omega
  ·rw [hz (j+1) (by omega),Nat.add_sub_cancel,hz j (by omega)] at h3
   exact fun e=>h3 e.symm
 ·intro h j hj
  rw [List.mem_range] at hj
  rw [decide_eq_true_iff]
  by_cases h0:j=0
  ·exact .inl h0
  ·refine .inr ?_
   obtain ⟨i,rfl⟩:∃ i,j=i+1:=⟨j - 1,by omega⟩
   have h3:=h i (List.mem_range.2 (by omega))
   rw [decide_eq_true_iff] at h3
   rw [hz (i+1) (by omega),Nat.add_sub_cancel,hz i (by omega)]
   exact fun e=>h3 e.symm
theorem cells_of (A:Option Addr) (l:List ByteArray) (w:World) (hC:Kd.C Kd.string w A l.length l) (h0:0 < l.length):∃ b off,A=some ⟨b,off,none⟩∧∀ j,j < l.length→w.cell? ⟨b,off+j,none⟩=some (.string (l.getD j ByteArray.empty)):=by
 obtain ⟨ad,e_,hx⟩:=Kd.at_string hC ((0:Nat):Int) (by omega) (by omega)
 subst e_
 obtain ⟨b,off,spot⟩:=ad
 have hs:=World.cell?_spot hx
 simp only [Int.toNat_natCast,Addr.add,if_pos rfl] at hs
 subst hs
 refine ⟨b,off,rfl,fun j hj=>?_⟩
 obtain ⟨ad,e_,hx⟩:=Kd.at_string hC (j:Int) (by omega) (by omega)
 cases e_
 rw [Int.toNat_natCast] at hx
 have e:(⟨b,off,none⟩:Addr).add j=⟨b,off+j,none⟩:=by
  unfold Addr.add
  by_cases h:j=0
  ·subst h;rfl
  ·rw [if_neg h]
 rw [e] at hx
 rw [hx];rfl
theorem own_slice {w:World} {base n:Nat} {v:Value} {xs:List Value} (h:w.ownsRow base 9 1 v n xs) (hv:v ≠ .slice none 0 0):∃ g cap,v = .slice (some ⟨g,0,none⟩) n cap∧base≤g∧n≤cap:=by
 rcases h.2 with ⟨e,_⟩ | ⟨g,cap,cur,e,h1,h2,h3,h4,h5,h6⟩
 ·exact absurd e hv
 ·exact ⟨g,cap,e,h1,h3⟩
theorem rise_calls (A:Option Addr) (c:Nat) (l:List ByteArray) (w:World) (hC:Kd.C Kd.string w A l.length l) (hc:l.length≤c) (hl:l.length≤1000000) :
  Calls Tryz.prog 89 #[.slice A l.length c] w fun e w'=>e = .returned (.bool (riseB l))∧Below w.heap.size w w':=by
 have HR:=Ak (rise_parts l)
 have HCL:=Ak (compact_len l)
 have HSO:=Ak (slices_IsSorted_string_string.calls (l.length+1) A c l (sortedB l) w hC hc (sorted_val l (by omega)))
 have HC:=Ak hC
 clear hC hc
 go_enter Tryz.func89,Tryz.ntmps89
 go_wp2_with fail
 refine HSO.out.mono ?_
 rintro e w1 ⟨rfl,hd⟩
 have HB1:=Ak hd.below
 clear hd HSO
 cases hs:sortedB l with
 | false=>
  have HR2:=Ak (show riseB l=false by rw [HR.out,hs];rfl)
  clear hs
  go_wp2
  go_ret
  exact ⟨by rw [HR2.out];rfl,HB1.out⟩
 | true=>
 have HR2:=Ak (show riseB l=apartB l by rw [HR.out,hs];rfl)
 clear hs HR
 by_cases h0:l.length=0
 ·have HAP:=Ak (show apartB l=true by unfold apartB;rw [h0];rfl)
  have h0':(l.length:Int)=0:=by omega
  cases A with
  | none=>
   have HT1:=Ak (Tryz.slices_Clone_string_nil l.length c w1)
   have HT2:=Ak (Tryz.slices_Compact_string_empty none 0 w1)
   have d0:((0:Int) == (l.length:Int))=true:=beq_iff_eq.mpr h0'.symm
   clear h0 h0'
   go_wp2_with fail
   refine HT1.out.mono ?_
   rintro e w2 ⟨rfl,rfl⟩
   go_wp2_with fail
   refine HT2.out.mono ?_
   rintro e w3 ⟨rfl,rfl⟩
   go_wp2
   go_ret
   exact ⟨by rw [HR2.out,HAP.out];rfl,HB1.out⟩
  | some ad=>
   have HT1:Aside0 (Calls Tryz.prog 109 #[.slice (some ad) l.length c] w1 fun e w'=>∃ v',e = .returned v'∧w'.ownsRow w1.heap.size 9 1 v' 0 []∧v' ≠ .slice none 0 0∧Below w1.heap.size w1 w'):=⟨by rw [h0];exact Tryz.slices_Clone_string_zero ad c w1⟩
   have d0:((0:Int) == (l.length:Int))=true:=beq_iff_eq.mpr h0'.symm
   clear h0 h0'
   go_wp2_with fail
   refine HT1.out.mono ?_
   rintro e w2 ⟨v,rfl,ho,hv,hb⟩
   obtain ⟨g,cap,rfl,hg,hcap⟩:=own_slice ho hv
   have HB2:=Ak (below_step HB1.out hb)
   clear ho hv hb hg
   have HT2:=Ak (Tryz.slices_Compact_string_empty (some ⟨g,0,none⟩) cap w2)
   go_wp2_with fail
   refine HT2.out.mono ?_
   rintro e w3 ⟨rfl,rfl⟩
   go_wp2
   go_ret
   exact ⟨by rw [HR2.out,HAP.out];rfl,HB2.out⟩
 ·obtain ⟨b,off,rfl,hcell⟩:=cells_of A l w1 (Kd.C_below HC.out HB1.out) (by omega)
  have HT1:=Ak (Tryz.slices_Clone_string b off l.length c l w1 (Nat.le_refl _) (by omega) hcell)
  clear hcell h0
  go_wp2_with fail
  refine HT1.out.mono ?_
  rintro e w2 ⟨v,rfl,ho,hv,hb⟩
  obtain ⟨g,cap,rfl,hg,hcap⟩:=own_slice ho hv
  have HB2:=Ak (below_step HB1.out hb)
  have HG:=Ak (show w.heap.size≤g from Nat.le_trans HB1.out.size hg)
  have HT2:=Ak (Tryz.slices_Compact_string_cells g 0 l.length cap (fun i=>l.getD i ByteArray.empty) w2 (by omega) hcap (fun i hi=>by
   have h1:=World.ownsRow.cellAt ho i (by omega)
   rw [Nat.zero_add,h1,List.take_length,List.getElem?_map,List.getElem?_eq_getElem hi,List.getD_eq_getElem?_getD,List.getElem?_eq_getElem hi];rfl) (fun j hj=>by rw [Nat.zero_add];exact World.ownsRow.frozenAt ho j))
  clear ho hv hb hg hcap HT1
  go_wp2_with fail
  refine HT2.out.mono ?_
  rintro e w3 ⟨rfl,q,rfl⟩
  clear HT2
  obtain ⟨m,hm⟩:∃ m,m=(Lib.compact (Lib.strsOf (fun i=>l.getD i ByteArray.empty) l.length)).length:=⟨_,rfl⟩
  have HM:Aside0 (((m:Int) == (l.length:Int))=apartB l):=⟨by
   rw [←HCL.out,←hm,Bool.eq_iff_iff,beq_iff_eq,beq_iff_eq];omega⟩
  rw [←hm]
  clear hm
  go_wp2
  go_ret
  exact ⟨by rw [HR2.out,←HM.out];rfl,Go.below_setCells HG.out _ _ _ (pw_below_drewN HB2.out q)⟩
end Go.Proofs.YtocpcnmnhckcpaaGreat.Nam
namespace Go.Proofs.YtocpcnmnhckcpaaGreat.Prt
open RowKit YtocpcnmnhckcpaaGreatW.PrintWords YtocpcnmnhckcpaaGreatW.PrintLast YtocpcnmnhckcpaaGreatW.PrintMore YtocpcnmnhckcpaaGreat.Num YtocpcnmnhckcpaaGreat.Nam
def query_rise.f (l0:List ByteArray):Option (Bool):=if l0.length≤1000000 then some (riseB l0) else none
theorem query_rise.calls (A0:Option Addr) (c0:Nat) (l0:List ByteArray) (r:Bool) (w:World) (hr0:Kd.C Kd.string w A0 l0.length l0) (hc0:l0.length≤c0) (h:query_rise.f l0=some r) :
  Calls Tryz.prog 89 #[.slice A0 l0.length c0] w fun e w'=>e = .returned (.bool r)∧Below w.heap.size w w':=by
 unfold query_rise.f at h
 by_cases hc:l0.length≤1000000
 ·rw [if_pos hc] at h
  obtain rfl:=Option.some.inj h
  exact rise_calls A0 c0 l0 w hr0 hc0 hc
 ·rw [if_neg hc] at h;cases h
end Go.Proofs.YtocpcnmnhckcpaaGreat.Prt
namespace Go.Proofs.YtocpcnmnhckcpaaGreat.Prt
open RowKit YtocpcnmnhckcpaaGreatW.PrintWords YtocpcnmnhckcpaaGreatW.PrintLast YtocpcnmnhckcpaaGreatW.PrintMore
attribute [local go_sem] max2_int min2_int max_two min_two max_three min_three max_four min_four
def query_May_3.f (l0_0:List ByteArray) (l0_1:List ByteArray):Option (Bool):=(query_rise.f l0_0).bind fun t111=>(if t111=true then ((query_rise.f l0_1).bind fun t112=>(some (!t112))) else (some true))
set_option maxHeartbeats 8000000 in
set_option maxRecDepth 100000 in
theorem query_May_3.calls (A0_0:Option Addr) (c0_0:Nat) (l0_0:List ByteArray) (A0_1:Option Addr) (c0_1:Nat) (l0_1:List ByteArray) (r:Bool) (w:World) (hr0_0:Kd.C Kd.string w A0_0 l0_0.length l0_0) (hc0_0:l0_0.length≤c0_0) (hr0_1:Kd.C Kd.string w A0_1 l0_1.length l0_1) (hc0_1:l0_1.length≤c0_1) (h:query_May_3.f l0_0 l0_1=some r) :
  Calls Tryz.prog 88 #[.agg #[.slice A0_0 l0_0.length c0_0,.slice A0_1 l0_1.length c0_1]] w fun e w'=>e = .returned (.bool r)∧Below w.heap.size w w':=by
 have hu96:=Tryz.underlying96
 have HR0_0:=Ak hr0_0
 have HC0_0:=Ak hc0_0
 clear hr0_0 hc0_0
 have HR0_1:=Ak hr0_1
 have HC0_1:=Ak hc0_1
 clear hr0_1 hc0_1
 have HB:=Ak (Below.refl w.heap.size w)
 have H:((query_rise.f l0_0).bind fun t111=>(if t111=true then ((query_rise.f l0_1).bind fun t112=>(some (!t112))) else (some true)))=some r:=h
 clear h
 replace H:=Option.bind_eq_some_iff.mp H
 obtain ⟨t111,A20,H⟩:=H
 replace H:(if t111=true then ((query_rise.f l0_1).bind fun t112=>(some (!t112))) else (some true))=some r:=H
 have A2:=Ak A20
 clear A20
 by_cases c3:t111=true
 ·subst c3
  have H1:((query_rise.f l0_1).bind fun t112=>(some (!t112)))=some r:=by rw [if_pos rfl] at H;exact H
  clear H
  have H:=H1
  clear H1
  replace H:=Option.bind_eq_some_iff.mp H
  obtain ⟨t112,A40,H⟩:=H
  replace H:(some (!t112))=some r:=H
  have A4:=Ak A40
  clear A40
  obtain rfl:=Option.some.inj H
  go_enter Tryz.func88,Tryz.ntmps88
  go_wp2_with (first | ((with_reducible refine gate_dst (N:=1) rfl ?_);refine box_event ?hg (N:=1) ?hd (cs:=#[.slice A0_0 l0_0.length c0_0,.slice A0_1 l0_1.length c0_1]) (t:=96) ?hr ?_;(case hd=>rfl);(case hg=>rfl);(case hr=>(go_simp;done));intro gb110 hg w5 hbox hb;have n0_:=Ak (below_step HB.out hb);have n1_:=Ak (hbox);have n2_:=Ak ((by rw [hg];exact (below_size HB.out):w.heap.size≤gb110));have n3_:=Ak ((by rw [hg];exact (below_size HB.out):w.heap.size≤gb110));clear HB;have HB:=n0_;have BK110:=n1_;have GW110:=n2_;have GE110:=n3_;clear n0_ n1_ n2_ n3_;clear hb hbox hg;have hcz6_0:w5.cell? ⟨gb110,0,none⟩=some (.slice A0_0 l0_0.length c0_0):=(blk_cell BK110.out 0).trans rfl;have hcz6_1:w5.cell? ⟨gb110,1,none⟩=some (.slice A0_1 l0_1.length c0_1):=(blk_cell BK110.out 1).trans rfl;have hfz6_0:=blk_frozen BK110.out 0;have hfz6_1:=blk_frozen BK110.out 1) | ((with_reducible refine gate_callee (f:=89) rfl ?_);refine goesL_ (some 5) rfl rfl Tryz.func89 (by kernel_rfl) rfl #[.slice A0_0 l0_0.length c0_0] rfl (by (try simp only [List.map_toArray,List.map_cons,List.map_nil]);rfl) ?_;(with_reducible refine (query_rise.calls _ _ l0_0 true _ ?side1 ?side2 A2.out).mono ?_);(case side1=>repeat (exact (Kd.C_below HR0_0.out HB.out)));(case side2=>exact HC0_0.out);rintro e w7 ⟨rfl,hb⟩;refine ⟨_,rfl,?_⟩;have n0_:=Ak (blk_below (g:=gb110) (o:=.cells #[.slice A0_0 l0_0.length c0_0,.slice A0_1 l0_1.length c0_1] 96 (0,0)) BK110.out hb);have n1_:=Ak (below_step HB.out hb);clear BK110;clear HB;have BK110:=n0_;have HB:=n1_;clear n0_ n1_;(try clear hb);have hcz8_0:w7.cell? ⟨gb110,0,none⟩=some (.slice A0_0 l0_0.length c0_0):=(blk_cell BK110.out 0).trans rfl;have hcz8_1:w7.cell? ⟨gb110,1,none⟩=some (.slice A0_1 l0_1.length c0_1):=(blk_cell BK110.out 1).trans rfl;have hfz8_0:=blk_frozen BK110.out 0;have hfz8_1:=blk_frozen BK110.out 1) | (go_at_call 89;(with_reducible refine (query_rise.calls _ _ l0_1 t112 _ ?side1 ?side2 A4.out).mono ?_);(case side1=>repeat (exact (Kd.C_below HR0_1.out HB.out)));(case side2=>exact HC0_1.out);rintro e w9 ⟨rfl,hb⟩;have n0_:=Ak (blk_below (g:=gb110) (o:=.cells #[.slice A0_0 l0_0.length c0_0,.slice A0_1 l0_1.length c0_1] 96 (0,0)) BK110.out hb);have n1_:=Ak (below_step HB.out hb);clear BK110;clear HB;have BK110:=n0_;have HB:=n1_;clear n0_ n1_;(try clear hb)))
  go_ret
  exact ⟨by rfl,by with_reducible exact HB.out⟩
 ·replace c3:=Bool.eq_false_iff.mpr c3
  subst c3
  have H1:(some true)=some r:=by rw [if_neg (show ¬(false=true) by decide)] at H;exact H
  clear H
  have H:=H1
  clear H1
  obtain rfl:=Option.some.inj H
  go_enter Tryz.func88,Tryz.ntmps88
  go_wp2_with (first | ((with_reducible refine gate_dst (N:=1) rfl ?_);refine box_event ?hg (N:=1) ?hd (cs:=#[.slice A0_0 l0_0.length c0_0,.slice A0_1 l0_1.length c0_1]) (t:=96) ?hr ?_;(case hd=>rfl);(case hg=>rfl);(case hr=>(go_simp;done));intro gb110 hg w10 hbox hb;have n0_:=Ak (below_step HB.out hb);have n1_:=Ak (hbox);have n2_:=Ak ((by rw [hg];exact (below_size HB.out):w.heap.size≤gb110));have n3_:=Ak ((by rw [hg];exact (below_size HB.out):w.heap.size≤gb110));clear HB;have HB:=n0_;have BK110:=n1_;have GW110:=n2_;have GE110:=n3_;clear n0_ n1_ n2_ n3_;clear hb hbox hg;have hcz11_0:w10.cell? ⟨gb110,0,none⟩=some (.slice A0_0 l0_0.length c0_0):=(blk_cell BK110.out 0).trans rfl;have hcz11_1:w10.cell? ⟨gb110,1,none⟩=some (.slice A0_1 l0_1.length c0_1):=(blk_cell BK110.out 1).trans rfl;have hfz11_0:=blk_frozen BK110.out 0;have hfz11_1:=blk_frozen BK110.out 1) | ((with_reducible refine gate_callee (f:=89) rfl ?_);refine goesL_ (some 5) rfl rfl Tryz.func89 (by kernel_rfl) rfl #[.slice A0_0 l0_0.length c0_0] rfl (by (try simp only [List.map_toArray,List.map_cons,List.map_nil]);rfl) ?_;(with_reducible refine (query_rise.calls _ _ l0_0 false _ ?side1 ?side2 A2.out).mono ?_);(case side1=>repeat (exact (Kd.C_below HR0_0.out HB.out)));(case side2=>exact HC0_0.out);rintro e w12 ⟨rfl,hb⟩;refine ⟨_,rfl,?_⟩;have n0_:=Ak (blk_below (g:=gb110) (o:=.cells #[.slice A0_0 l0_0.length c0_0,.slice A0_1 l0_1.length c0_1] 96 (0,0)) BK110.out hb);have n1_:=Ak (below_step HB.out hb);clear BK110;clear HB;have BK110:=n0_;have HB:=n1_;clear n0_ n1_;(try clear hb)))
  go_ret
  exact ⟨by rfl,by with_reducible exact HB.out⟩
end Go.Proofs.YtocpcnmnhckcpaaGreat.Prt
namespace Go.Proofs.YtocpcnmnhckcpaaGreat.Nam
open RowKit YtocpcnmnhckcpaaGreatW.PrintWords YtocpcnmnhckcpaaGreatW.PrintLast YtocpcnmnhckcpaaGreatW.PrintMore YtocpcnmnhckcpaaGreat.Num YtocpcnmnhckcpaaGreat.Prt
theorem idxStr0 (p:ByteArray→Bool) (G:Nat) (A:Option Addr) (c:Nat) (l:List ByteArray) (w:World) (hC:Kd.C Kd.string w A l.length l)
  (hent:∀ (xs:Array Value) (W:World),(callFunc G xs).run Tryz.prog W = .ok (.enter G xs) W)
  (hf:∀ x ∈ l,∀ w1,Below w.heap.size w w1→Calls Tryz.prog G #[.string x] w1 fun e w2=>e = .returned (.bool (p x))∧Below w1.heap.size w1 w2) :
  Calls Tryz.prog 102 #[.slice A l.length c,.func (.func G) #[] #[]] w fun e w'=>∃ r:Int,e = .returned (.int .i64 r)∧decide (0≤r)=l.any p∧Below w.heap.size w w':=by
 have HC:=Ak hC
 have HF:=Ak hf
 have hn:=Kd.C_max hC
 clear hC hf
 go_enter Tryz.func102,Tryz.ntmps102
 go_wp2
 go_loopg [8] (l.length) (fun k v8 w'=>∃ i:Nat,v8 = .int .i64 (i:Int)∧Aside0 (i+k=l.length)∧Aside0 ((l.take i).any p=false)∧Aside0 (Below w.heap.size w w'))
 case atStart=>exact ⟨0,rfl,⟨by omega⟩,⟨by simp⟩,⟨Below.refl _ _⟩⟩
 case round=>
  obtain ⟨i,rfl,HE,HN,HB⟩:=hrel
  by_cases hlt:i < l.length
  ·have hb1:decide ((i:Int) < (l.length:Int))=true:=decide_eq_true (by omega)
   obtain ⟨ad,e_,hx⟩:=Kd.at_string (Kd.C_below HC.out HB.out) (i:Int) (by omega) (by omega)
   cases e_
   rw [Int.toNat_natCast] at hx
   obtain ⟨x,hx0⟩:∃ x,x=rdOf ByteArray.empty l (i:Int):=⟨_,rfl⟩
   rw [←hx0] at hx
   have hxm:x ∈ l:=by rw [hx0];exact getD_mem' hlt _
   have hstep:(l.take (i+1)).any p=p x:=by rw [take_any p l i hlt ByteArray.empty,HN.out,hx0];rfl
   have HS:=Ak hstep
   have HCALL:=Ak (HF.out x hxm wr HB.out)
   clear hx0 hxm hstep
   cases hp:p x with
   | true=>
    have HP:=Ak hp
    clear hp
    go_wp2_with fail
    refine HCALL.out.mono ?_
    rintro e w2 ⟨rfl,hb2⟩
    rw [HP.out]
    have HB2:=Ak hb2
    clear hb2
    go_wp2
    go_ret
    refine ⟨_,rfl,?_,below_step HB.out HB2.out⟩
    rw [any_of_take (HS.out.trans HP.out)]
    exact decide_eq_true (by omega)
   | false=>
    have HP:=Ak hp
    clear hp
    go_wp2_with fail
    refine HCALL.out.mono ?_
    rintro e w2 ⟨rfl,hb2⟩
    rw [HP.out]
    have HB2:=Ak hb2
    clear hb2
    go_wp2
    go_roundg (l.length - (i+1))
    case measure=>have:=HE.out;omega
    case rel=>exact ⟨i+1,by go_num,⟨by have:=HE.out;omega⟩,⟨HS.out.trans HP.out⟩,⟨below_step HB.out HB2.out⟩⟩
  ·have hb1:decide ((i:Int) < (l.length:Int))=false:=decide_eq_false (by omega)
   go_wp2
   go_ret
   refine ⟨_,rfl,?_,HB.out⟩
   have:=HN.out
   rw [take_any_all p l i (by omega)] at this
   rw [this];rfl
theorem contStr0 (p:ByteArray→Bool) (G:Nat) (A:Option Addr) (c:Nat) (l:List ByteArray) (w:World) (hC:Kd.C Kd.string w A l.length l)
  (hent:∀ (xs:Array Value) (W:World),(callFunc G xs).run Tryz.prog W = .ok (.enter G xs) W)
  (hf:∀ x ∈ l,∀ w1,Below w.heap.size w w1→Calls Tryz.prog G #[.string x] w1 fun e w2=>e = .returned (.bool (p x))∧Below w1.heap.size w1 w2) :
  Calls Tryz.prog 78 #[.slice A l.length c,.func (.func G) #[] #[]] w fun e w'=>e = .returned (.bool (l.any p))∧Below w.heap.size w w':=by
 have H:=idxStr0 p G  A c l w hC hent hf
 clear hC hent hf
 go_enter Tryz.func78,Tryz.ntmps78
 go_wp2_with fail
 refine H.mono ?_
 rintro e w2 ⟨r,rfl,hd,hb⟩
 go_wp2
 go_ret
 exact ⟨by rfl,hb⟩
theorem idxCla (p:S96→Bool) (G:Nat) (A:Option Addr) (c:Nat) (l:List S96) (w:World) (hC:Kd.C k96 w A l.length l)
  (hent:∀ (xs:Array Value) (W:World),(callFunc G xs).run Tryz.prog W = .ok (.enter G xs) W)
  (hf:∀ x ∈ l,∀ w1,Below w.heap.size w w1→∀ A0 c0 A1 c1,Kd.C Kd.string w1 A0 x.f0.length x.f0→x.f0.length≤c0→Kd.C Kd.string w1 A1 x.f1.length x.f1→x.f1.length≤c1→Calls Tryz.prog G #[.agg #[.slice A0 x.f0.length c0,.slice A1 x.f1.length c1]] w1 fun e w2=>e = .returned (.bool (p x))∧Below w1.heap.size w1 w2) :
  Calls Tryz.prog 115 #[.slice A l.length c,.func (.func G) #[] #[]] w fun e w'=>∃ r:Int,e = .returned (.int .i64 r)∧decide (0≤r)=l.any p∧Below w.heap.size w w':=by
 have HC:=Ak hC
 have HF:=Ak hf
 have hn:=Kd.C_max hC
 clear hC hf
 have hu96:=Tryz.underlying96
 go_enter Tryz.func115,Tryz.ntmps115
 go_wp2
 go_loopg [8] (l.length) (fun k v8 w'=>∃ i:Nat,v8 = .int .i64 (i:Int)∧Aside0 (i+k=l.length)∧Aside0 ((l.take i).any p=false)∧Aside0 (Below w.heap.size w w'))
 case atStart=>exact ⟨0,rfl,⟨by omega⟩,⟨by simp⟩,⟨Below.refl _ _⟩⟩
 case round=>
  obtain ⟨i,rfl,HE,HN,HB⟩:=hrel
  by_cases hlt:i < l.length
  ·have hb1:decide ((i:Int) < (l.length:Int))=true:=decide_eq_true (by omega)
   obtain ⟨ad,A0,c0,A1,c1,e_,hx,hx1,hl0,hi0,hl1,hi1⟩:=at_T96 (Kd.C_below HC.out HB.out) (i:Int) (by omega) (by omega)
   cases e_
   rw [Int.toNat_natCast] at hx hx1
   obtain ⟨x,hx0⟩:∃ x,x=rd_T96 l (i:Int):=⟨_,rfl⟩
   rw [←hx0] at hx hx1 hl0 hi0 hl1 hi1
   have hxm:x ∈ l:=by rw [hx0];exact getD_mem' hlt _
   have hstep:(l.take (i+1)).any p=p x:=by rw [take_any p l i hlt z96,HN.out,hx0];rfl
   have HS:=Ak hstep
   have HCALL:=Ak (HF.out x hxm wr HB.out A0 c0 A1 c1 hi0 hl0 hi1 hl1)
   clear hx0 hxm hstep hi0 hl0 hi1 hl1
   cases hp:p x with
   | true=>
    have HP:=Ak hp
    clear hp
    go_wp2_with fail
    refine HCALL.out.mono ?_
    rintro e w2 ⟨rfl,hb2⟩
    rw [HP.out]
    have HB2:=Ak hb2
    clear hb2
    go_wp2
    go_ret
    refine ⟨_,rfl,?_,below_step HB.out HB2.out⟩
    rw [any_of_take (HS.out.trans HP.out)]
    exact decide_eq_true (by omega)
   | false=>
    have HP:=Ak hp
    clear hp
    go_wp2_with fail
    refine HCALL.out.mono ?_
    rintro e w2 ⟨rfl,hb2⟩
    rw [HP.out]
    have HB2:=Ak hb2
    clear hb2
    go_wp2
    go_roundg (l.length - (i+1))
    case measure=>have:=HE.out;omega
    case rel=>exact ⟨i+1,by go_num,⟨by have:=HE.out;omega⟩,⟨HS.out.trans HP.out⟩,⟨below_step HB.out HB2.out⟩⟩
  ·have hb1:decide ((i:Int) < (l.length:Int))=false:=decide_eq_false (by omega)
   go_wp2
   go_ret
   refine ⟨_,rfl,?_,HB.out⟩
   have:=HN.out
   rw [take_any_all p l i (by omega)] at this
   rw [this];rfl
theorem contCla (p:S96→Bool) (G:Nat) (A:Option Addr) (c:Nat) (l:List S96) (w:World) (hC:Kd.C k96 w A l.length l)
  (hent:∀ (xs:Array Value) (W:World),(callFunc G xs).run Tryz.prog W = .ok (.enter G xs) W)
  (hf:∀ x ∈ l,∀ w1,Below w.heap.size w w1→∀ A0 c0 A1 c1,Kd.C Kd.string w1 A0 x.f0.length x.f0→x.f0.length≤c0→Kd.C Kd.string w1 A1 x.f1.length x.f1→x.f1.length≤c1→Calls Tryz.prog G #[.agg #[.slice A0 x.f0.length c0,.slice A1 x.f1.length c1]] w1 fun e w2=>e = .returned (.bool (p x))∧Below w1.heap.size w1 w2) :
  Calls Tryz.prog 106 #[.slice A l.length c,.func (.func G) #[] #[]] w fun e w'=>e = .returned (.bool (l.any p))∧Below w.heap.size w w':=by
 have H:=idxCla p G  A c l w hC hent hf
 clear hC hent hf
 go_enter Tryz.func106,Tryz.ntmps106
 go_wp2_with fail
 refine H.mono ?_
 rintro e w2 ⟨r,rfl,hd,hb⟩
 go_wp2
 go_ret
 exact ⟨by rfl,hb⟩
theorem some_calls (p:S96→Bool) (b:Bool) (G:Nat) (A:Option Addr) (c:Nat) (l:List S96) (w:World) (hp:l.any p=b) (hC:Kd.C k96 w A l.length l)
  (hent:∀ (xs:Array Value) (W:World),(callFunc G xs).run Tryz.prog W = .ok (.enter G xs) W)
  (hf:∀ x ∈ l,∀ w1,Below w.heap.size w w1→∀ A0 c0 A1 c1,Kd.C Kd.string w1 A0 x.f0.length x.f0→x.f0.length≤c0→Kd.C Kd.string w1 A1 x.f1.length x.f1→x.f1.length≤c1→Calls Tryz.prog G #[.agg #[.slice A0 x.f0.length c0,.slice A1 x.f1.length c1]] w1 fun e w2=>e = .returned (.bool (p x))∧Below w1.heap.size w1 w2) :
  Calls Tryz.prog 87 #[.agg #[.slice A l.length c],.func (.func G) #[] #[]] w fun e w'=>e = .returned (.bool b)∧Below w.heap.size w w':=by
 subst hp
 have hu32:=Tryz.underlying32
 have HB:=Ak (Below.refl w.heap.size w)
 have HC:=Ak hC
 have HF:=Ak hf
 clear hC hf
 go_enter Tryz.func87,Tryz.ntmps87
 go_wp2_with (((with_reducible refine gate_dst (N:=2) rfl ?_);(try (refine gate_guard (by rfl) ?_;dsimp only));refine box_event ?hg (N:=2) ?hd (cs:=#[.slice A l.length c]) (t:=32) ?hr ?_;(case hd=>rfl);(case hg=>rfl);(case hr=>(go_simp;done));intro g hg_ w2 hbox_ hb_;have HBX:=Ak hbox_;have HBN:=Ak hg_;have HBB:=Ak hb_;clear hbox_ hg_ hb_;have hc0:=blk_cell HBX.out 0;have hf0:=blk_frozen HBX.out 0))
 refine (contCla p G A c l w2 (Kd.C_below HC.out HBB.out) hent (fun x hx w1 hb=>HF.out x hx w1 (below_step HBB.out hb))).mono ?_
 rintro e w3 ⟨rfl,hb⟩
 have HB3:=Ak (below_step HBB.out hb)
 clear hb
 go_wp2
 go_ret
 exact ⟨rfl,HB3.out⟩
def bigC (x:S96):Bool:=decide (4 < x.f0.length) || decide (4 < x.f1.length)
def noneC (x:S96):Bool:=(x.f0.any fun s=>!tagB s) || (x.f1.any fun s=>!mayL (bytesOf s))
def downC (x:S96):Bool:=!riseB x.f0 || !riseB x.f1
def mayQ (l:List S96):Int:=if 4 < l.length∨l.any bigC=true then 3 else if l.any noneC=true then 5 else if l.any downC=true then 1 else 0
theorem big_val (x:S96):query_May_1.f x.f0 x.f1=some (bigC x):=by
 unfold query_May_1.f bigC
 by_cases h:(x.f0.length:Int) > 4
 ·rw [if_pos h,decide_eq_true (show 4 < x.f0.length by omega),Bool.true_or]
 ·rw [if_neg h,decide_eq_false (show ¬4 < x.f0.length by omega),Bool.false_or]
  congr 1;rw [Bool.eq_iff_iff,decide_eq_true_iff,decide_eq_true_iff];omega
theorem down_val (x:S96) (h:bigC x=false):query_May_3.f x.f0 x.f1=some (downC x):=by
 unfold bigC at h
 rw [Bool.or_eq_false_iff,decide_eq_false_iff_not,decide_eq_false_iff_not] at h
 have m1:query_rise.f x.f0=some (riseB x.f0):=if_pos (by omega)
 have m2:query_rise.f x.f1=some (riseB x.f1):=if_pos (by omega)
 unfold query_May_3.f downC
 rw [m1,m2]
 simp only [Option.bind_some]
 cases riseB x.f0 <;> rfl
def fitC (x:S96):Bool:=(x.f0.all fun s=>decide (s.size≤9223372036854775807)) && (x.f1.all fun s=>decide (s.size≤9223372036854775807))
theorem fitC_iff {x:S96}:fitC x=true↔(∀ s ∈ x.f0,s.size≤9223372036854775807)∧(∀ s ∈ x.f1,s.size≤9223372036854775807):=by
 unfold fitC;simp only [Bool.and_eq_true,List.all_eq_true,decide_eq_true_eq]
theorem none_calls (x:S96) (A0:Option Addr) (c0:Nat) (A1:Option Addr) (c1:Nat) (w:World) (h0:Kd.C Kd.string w A0 x.f0.length x.f0) (h1:Kd.C Kd.string w A1 x.f1.length x.f1) (hf:fitC x=true) :
  Calls Tryz.prog 84 #[.agg #[.slice A0 x.f0.length c0,.slice A1 x.f1.length c1]] w fun e w'=>e = .returned (.bool (noneC x))∧Below w.heap.size w w':=by
 obtain ⟨hz0,hz1⟩:=fitC_iff.1 hf
 have hu96:=Tryz.underlying96
 have H0:=Ak h0
 have H1:=Ak h1
 have Z0:=Ak hz0
 have Z1:=Ak hz1
 obtain ⟨b,hb0⟩:∃ b,b=noneC x:=⟨_,rfl⟩
 rw [←hb0]
 have HB0:=Ak hb0
 clear h0 h1 hz0 hz1 hb0 hf
 go_enter Tryz.func84,Tryz.ntmps84
 go_wp2_with (((with_reducible refine gate_dst (N:=1) rfl ?_);(try (refine gate_guard (by rfl) ?_;dsimp only));refine box_event ?hg (N:=1) ?hd (cs:=#[.slice A0 x.f0.length c0,.slice A1 x.f1.length c1]) (t:=96) ?hr ?_;(case hd=>rfl);(case hg=>rfl);(case hr=>(go_simp;done));intro g hg_ w2 hbox_ hb_;have HBX:=Ak hbox_;have HBN:=Ak hg_;have HBB:=Ak hb_;clear hbox_ hg_ hb_;have hc0:=blk_cell HBX.out 0;have hf0:=blk_frozen HBX.out 0;have hc1:=blk_cell HBX.out 1;have hf1:=blk_frozen HBX.out 1))
 refine (contStr0 (fun s=>!tagB s) 85 A0 c0 x.f0 w2 (Kd.C_below H0.out HBB.out) (enters_of Tryz.func85 (by kernel_rfl) rfl) (fun s hs w1 _=>query_May_2_1.calls s (!tagB s) w1 (by
  have m:name_MayTag.f s=some (tagB s):=if_pos (Z0.out s hs)
  unfold query_May_2_1.f
  rw [m];rfl))).mono ?_
 rintro e w3 ⟨rfl,hb⟩
 have n1_:=Ak (blk_below HBX.out hb)
 have n2_:=Ak (below_step HBB.out hb)
 clear HBX HBB hb hc0 hc1 hf0 hf1
 have hc1:=blk_cell n1_.out 1
 cases h2:(x.f0.any fun s=>!tagB s) with
 | true=>
  have HR:=Ak (show b=true by rw [HB0.out];unfold noneC;rw [h2];rfl)
  clear h2
  go_wp2_with fail
  go_ret
  exact ⟨by rw [HR.out];rfl,n2_.out⟩
 | false=>
  have HR:=Ak (show b=(x.f1.any fun s=>!mayL (bytesOf s)) by rw [HB0.out];unfold noneC;rw [h2];rfl)
  clear h2
  go_wp2_with fail
  refine (contStr0 (fun s=>!mayL (bytesOf s)) 86 A1 c1 x.f1 w3 (Kd.C_below H1.out n2_.out) (enters_of Tryz.func86 (by kernel_rfl) rfl) (fun s hs w1 _=>query_May_2_2.calls s (!mayL (bytesOf s)) w1 (by
   have m:name_May.f s=some (mayL (bytesOf s)):=if_pos (Z1.out s hs)
   unfold query_May_2_2.f
   rw [m];rfl))).mono ?_
  rintro e w4 ⟨rfl,hb⟩
  have n3_:=Ak (below_step n2_.out hb)
  rw [←HR.out]
  clear hb hc1
  go_wp2_with fail
  go_ret
  exact ⟨rfl,n3_.out⟩
theorem queryMay_calls (A:Option Addr) (c:Nat) (l:List S96) (w:World) (hr:Kd.C k96 w A l.length l) (hc:l.length≤c) (hf:∀ x ∈ l,fitC x=true) :
  Calls Tryz.prog 57 #[.agg #[.slice A l.length c]] w fun e w'=>e = .returned (.int .i64 (mayQ l))∧Below w.heap.size w w':=by
 have hu32:=Tryz.underlying32
 have HR:=Ak hr
 have HF:=Ak hf
 have hm:=Kd.C_max hr
 clear hr hc hf
 obtain ⟨E,hE⟩:∃ E,E=mayQ l:=⟨_,rfl⟩
 rw [←hE]
 have HE:=Ak hE
 clear hE
 go_enter Tryz.func57,Tryz.ntmps57
 by_cases h4:4 < l.length
 ·have d1:decide ((4:Int) < (l.length:Int))=true:=decide_eq_true (by omega)
  have HG:=Ak (HE.out.trans (if_pos (.inl h4)))
  go_wp2_with (((with_reducible refine gate_dst (N:=1) rfl ?_);(try (refine gate_guard (by rfl) ?_;dsimp only));refine box_event ?hg (N:=1) ?hd (cs:=#[.slice A l.length c]) (t:=32) ?hr ?_;(case hd=>rfl);(case hg=>rfl);(case hr=>(go_simp;done));intro g hg_ w2 hbox_ hb_;have HBX:=Ak hbox_;have HBN:=Ak hg_;have HBB:=Ak hb_;clear hbox_ hg_ hb_;have hc0:=blk_cell HBX.out 0;have hf0:=blk_frozen HBX.out 0))
  go_ret
  exact ⟨ret_i64 HG.out.symm,HBB.out⟩
 have d1:decide ((4:Int) < (l.length:Int))=false:=decide_eq_false (by omega)
 go_wp2_with (((with_reducible refine gate_dst (N:=1) rfl ?_);(try (refine gate_guard (by rfl) ?_;dsimp only));refine box_event ?hg (N:=1) ?hd (cs:=#[.slice A l.length c]) (t:=32) ?hr ?_;(case hd=>rfl);(case hg=>rfl);(case hr=>(go_simp;done));intro g hg_ w2 hbox_ hb_;have HBX:=Ak hbox_;have HBN:=Ak hg_;have HBB:=Ak hb_;clear hbox_ hg_ hb_;have hc0:=blk_cell HBX.out 0;have hf0:=blk_frozen HBX.out 0))
 cases h1:l.any bigC with
 | true=>
  have HG:=Ak (HE.out.trans (if_pos (.inr h1)))
  refine (some_calls bigC true 83 A c l w2 h1 (Kd.C_below HR.out HBB.out) (enters_of Tryz.func83 (by kernel_rfl) rfl) (fun x hx w1 _ A0 c0 A1 c1 g0 g1 g2 g3=>query_May_1.calls A0 c0 x.f0 A1 c1 x.f1 (bigC x) w1 g0 g1 g2 g3 (big_val x))).mono ?_
  rintro e w3 ⟨rfl,hb⟩
  have n2_:=Ak (below_step HBB.out hb)
  clear hb h1
  go_wp2_with fail
  go_ret
  exact ⟨ret_i64 HG.out.symm,n2_.out⟩
 | false=>
 have HE2:=Ak (HE.out.trans (if_neg (by rw [h1];simp only [Bool.false_eq_true,or_false];exact h4)))
 have HBIG:Aside0 (∀ x ∈ l,bigC x=false):=⟨fun x hx=>by have:=List.any_eq_false.1 h1 x hx;simpa using this⟩
 refine (some_calls bigC false 83 A c l w2 h1 (Kd.C_below HR.out HBB.out) (enters_of Tryz.func83 (by kernel_rfl) rfl) (fun x hx w1 _ A0 c0 A1 c1 g0 g1 g2 g3=>query_May_1.calls A0 c0 x.f0 A1 c1 x.f1 (bigC x) w1 g0 g1 g2 g3 (big_val x))).mono ?_
 rintro e w3 ⟨rfl,hb⟩
 have n1_:=Ak (blk_below HBX.out hb)
 have n2_:=Ak (below_step HBB.out hb)
 clear HBX HBB hb hc0 hf0 h1 HE
 have HBX:=n1_
 have HB:=n2_
 clear n1_ n2_
 have hc0:=blk_cell HBX.out 0
 go_wp2_with fail
 cases h2:l.any noneC with
 | true=>
  have HG:=Ak (HE2.out.trans (if_pos h2))
  refine (some_calls noneC true 84 A c l w3 h2 (Kd.C_below HR.out HB.out) (enters_of Tryz.func84 (by kernel_rfl) rfl) (fun x hx w1 _ A0 c0 A1 c1 g0 g1 g2 g3=>none_calls x A0 c0 A1 c1 w1 g0 g2 (HF.out x hx))).mono ?_
  rintro e w4 ⟨rfl,hb⟩
  have n2_:=Ak (below_step HB.out hb)
  clear hb h2
  go_wp2_with fail
  go_ret
  exact ⟨ret_i64 HG.out.symm,n2_.out⟩
 | false=>
 have HE3:=Ak (HE2.out.trans (if_neg (by rw [h2];simp)))
 refine (some_calls noneC false 84 A c l w3 h2 (Kd.C_below HR.out HB.out) (enters_of Tryz.func84 (by kernel_rfl) rfl) (fun x hx w1 _ A0 c0 A1 c1 g0 g1 g2 g3=>none_calls x A0 c0 A1 c1 w1 g0 g2 (HF.out x hx))).mono ?_
 rintro e w4 ⟨rfl,hb⟩
 have n1_:=Ak (blk_below HBX.out hb)
 have n2_:=Ak (below_step HB.out hb)
 clear HBX HB hb hc0 h2 HE2
 have HBX:=n1_
 have HB:=n2_
 clear n1_ n2_
 have hc0:=blk_cell HBX.out 0
 go_wp2_with fail
 cases h3:l.any downC with
 | true=>
  have HG:=Ak (HE3.out.trans (if_pos h3))
  refine (some_calls downC true 88 A c l w4 h3 (Kd.C_below HR.out HB.out) (enters_of Tryz.func88 (by kernel_rfl) rfl) (fun x hx w1 _ A0 c0 A1 c1 g0 g1 g2 g3=>query_May_3.calls A0 c0 x.f0 A1 c1 x.f1 (downC x) w1 g0 g1 g2 g3 (down_val x (HBIG.out x hx)))).mono ?_
  rintro e w5 ⟨rfl,hb⟩
  have n2_:=Ak (below_step HB.out hb)
  clear hb h3
  go_wp2_with fail
  go_ret
  exact ⟨ret_i64 HG.out.symm,n2_.out⟩
 | false=>
  have HG:=Ak (HE3.out.trans (if_neg (by rw [h3];simp)))
  refine (some_calls downC false 88 A c l w4 h3 (Kd.C_below HR.out HB.out) (enters_of Tryz.func88 (by kernel_rfl) rfl) (fun x hx w1 _ A0 c0 A1 c1 g0 g1 g2 g3=>query_May_3.calls A0 c0 x.f0 A1 c1 x.f1 (downC x) w1 g0 g1 g2 g3 (down_val x (HBIG.out x hx)))).mono ?_
  rintro e w5 ⟨rfl,hb⟩
  have n2_:=Ak (below_step HB.out hb)
  clear hb h3
  go_wp2_with fail
  go_ret
  exact ⟨ret_i64 HG.out.symm,n2_.out⟩
end Go.Proofs.YtocpcnmnhckcpaaGreat.Nam
namespace Go.Proofs.YtocpcnmnhckcpaaGreat.Prt
open RowKit YtocpcnmnhckcpaaGreatW.PrintWords YtocpcnmnhckcpaaGreatW.PrintLast YtocpcnmnhckcpaaGreatW.PrintMore YtocpcnmnhckcpaaGreat.Num YtocpcnmnhckcpaaGreat.Nam
def query_May.f (l0_0:List S96):Option (Int):=if l0_0.all fitC=true then some (mayQ l0_0) else none
theorem query_May.calls (A0_0:Option Addr) (c0_0:Nat) (l0_0:List (S96)) (r:Int) (w:World) (hr0_0:Kd.C k96 w A0_0 l0_0.length l0_0) (hc0_0:l0_0.length≤c0_0) (h:query_May.f l0_0=some r) :
  Calls Tryz.prog 57 #[.agg #[.slice A0_0 l0_0.length c0_0]] w fun e w'=>e = .returned (.int .i64 r)∧Below w.heap.size w w':=by
 unfold query_May.f at h
 by_cases hc:l0_0.all fitC=true
 ·rw [if_pos hc] at h
  obtain rfl:=Option.some.inj h
  exact queryMay_calls A0_0 c0_0 l0_0 w hr0_0 hc0_0 (List.all_eq_true.1 hc)
 ·rw [if_neg hc] at h;cases h
end Go.Proofs.YtocpcnmnhckcpaaGreat.Prt
namespace Go.Proofs.YtocpcnmnhckcpaaGreat.Nam
open RowKit YtocpcnmnhckcpaaGreatW.PrintWords YtocpcnmnhckcpaaGreatW.PrintLast YtocpcnmnhckcpaaGreatW.PrintMore YtocpcnmnhckcpaaGreat.Num YtocpcnmnhckcpaaGreat.Prt
set_option maxRecDepth 100000 in
theorem listStr (f:ByteArray→List Int) (G:Nat) (A0:Option Addr) (c0:Nat) (l0:List Int) (A:Option Addr) (c:Nat) (l:List ByteArray) (w:World) (hr0:Kd.C (Kd.int .u8) w A0 l0.length l0) (hc0:l0.length≤c0) (hC:Kd.C Kd.string w A l.length l) (hb:l0.length+((enc (l.length:Int)).length+(l.flatMap f).length)≤1000000000000)
  (hent:∀ (xs:Array Value) (W:World),(callFunc G xs).run Tryz.prog W = .ok (.enter G xs) W)
  (hf:∀ x ∈ l,∀ w1,Below w.heap.size w w1→∀ A' c' l',Kd.C (Kd.int .u8) w1 A' l'.length l'→l'.length≤c'→l'.length+(f x).length≤1000000000000→Calls Tryz.prog G #[.slice A' l'.length c',.string x] w1 fun e w2=>∃ v,e = .returned v∧Kd.R (Kd.int .u8) 5 w2 w1.heap.size (fun _=>True) v (l'++f x)∧Below w1.heap.size w1 w2) :
  Calls Tryz.prog 96 #[.slice A0 l0.length c0,.slice A l.length c,.func (.func G) #[] #[]] w fun e w'=>∃ v,e = .returned v∧Kd.R (Kd.int .u8) 5 w' w.heap.size (fun _=>True) v (l0++(enc (l.length:Int)++l.flatMap f))∧Below w.heap.size w w':=by
 have hm:=Kd.C_max hC
 have HC:=Ak hC
 have HF:=Ak hf
 have HP:=Ak (num_Put.calls A0 c0 l0 (l.length:Int) (l0++enc (l.length:Int)) w hr0 hc0 (if_pos ⟨by omega,by omega,by omega⟩))
 have HBD:=Ak hb
 clear hr0 hc0 hC hb hf
 go_enter Tryz.func96,Tryz.ntmps96
 go_wp2_with fail
 refine HP.out.mono ?_
 rintro e w1 ⟨v1,rfl,ho,hb⟩
 have HO1:=Ak (show Kd.R (Kd.int .u8) 5 w1 w.heap.size (fun _=>True) v1 (l0++(enc (l.length:Int)++(l.take 0).flatMap f)) by rw [List.take_zero,List.flatMap_nil,List.append_nil];exact ho)
 have HB1:=Ak hb
 clear ho hb HP
 go_wp2_with fail
 go_loopg [7,16] (l.length+1) (fun k v7 v16 w'=>∃ i:Nat,v16 = .int .i64 (i:Int)∧Aside0 (i+k=l.length+1)∧Aside0 (Kd.R (Kd.int .u8) 5 w' w.heap.size (fun _=>True) v7 (l0++(enc (l.length:Int)++(l.take i).flatMap f)))∧Aside0 (Below w.heap.size w w'))
 case atStart=>exact ⟨0,rfl,⟨by omega⟩,HO1,HB1⟩
 case round=>
  clear HO1 HB1
  obtain ⟨i,rfl,HI,HO,HB⟩:=hrel
  obtain ⟨A7,c7,e7⟩:=Kd.R_slice HO.out
  subst e7
  by_cases hi:i < l.length
  ·have d1:decide ((i:Int) < (l.length:Int))=true:=decide_eq_true (by omega)
   obtain ⟨ad,e_,hx⟩:=Kd.at_string (Kd.C_below HC.out HB.out) (i:Int) (by omega) (by omega)
   cases e_
   rw [Int.toNat_natCast] at hx
   obtain ⟨x,hx0⟩:∃ x,x=rdOf ByteArray.empty l (i:Int):=⟨_,rfl⟩
   rw [←hx0] at hx
   have hxm:x ∈ l:=by rw [hx0];exact getD_mem' hi _
   have hxs:(l.take (i+1)).flatMap f=(l.take i).flatMap f++f x:=by
    rw [List.take_succ_eq_append_getElem hi,List.flatMap_append]
    congr 1
    rw [hx0]
    unfold rdOf
    rw [Int.toNat_natCast,List.getD_eq_getElem?_getD,List.getElem?_eq_getElem hi];simp
   have hbx:(l0++(enc (l.length:Int)++(l.take i).flatMap f)).length+(f x).length≤1000000000000:=by
    have h1:l.flatMap f=(l.take (i+1)).flatMap f++(l.drop (i+1)).flatMap f:=by rw [←List.flatMap_append,List.take_append_drop]
    have h2:=congrArg List.length h1
    rw [hxs] at h2
    simp only [List.length_append] at h2 ⊢
    have:=HBD.out
    omega
   have HXS:=Ak hxs
   have HXM:=Ak hxm
   have HBX:=Ak hbx
   have HIL:=Ak hi
   clear hx0 hxm hxs hbx
   obtain ⟨-,hc7,hC7⟩:=Kd.R_reads' HO.out
   obtain ⟨lx,hlx⟩:∃ lx,lx=l0++(enc (l.length:Int)++(l.take i).flatMap f):=⟨_,rfl⟩
   rw [←hlx] at HO HBX hc7 hC7
   have HLX:=Ak hlx
   have HC7:=Ak hC7
   have HK7:=Ak hc7
   rw [←hlx]
   clear hlx hC7 hc7
   go_wp2_with fail
   refine (HF.out x HXM.out _ HB.out A7 c7 lx HC7.out HK7.out HBX.out).mono ?_
   rintro e w4 ⟨v4,rfl,ho,hb⟩
   have HB4:=Ak (below_step HB.out hb)
   have HO4:=Ak (Kd.R_lower ho HB.out.size)
   clear ho hb
   go_wp2_with fail
   go_roundg (l.length - i)
   case measure=>have:=HI.out;omega
   case rel=>exact ⟨i+1,by go_num,⟨by have:=HI.out;omega⟩,⟨by have h:=HO4.out;rw [HLX.out,List.append_assoc,List.append_assoc,←HXS.out] at h;exact h⟩,HB4⟩
  ·have d1:decide ((i:Int) < (l.length:Int))=false:=decide_eq_false (by omega)
   have HT:=Ak (show l.take i=l from List.take_of_length_le (by omega))
   go_wp2_with fail
   go_ret
   exact ⟨_,rfl,by have h:=HO.out;rw [HT.out] at h ⊢;exact h,HB.out⟩
theorem R_setB {α:Type} {d:Kd α} {e N t E:Nat} {w:World} {v:Value} {l:List α} {cells:Array Value} (h:Kd.R d e w N (fun _=>True) v l) (hb:w.heap[E]? = some (.cells cells t (0,0))) (ht:∀ q,q ∈ e :: d.E→q≠t) (i:Nat) (u:Value):Kd.R d e (w.setCell ⟨E,i,none⟩ u) N (fun _=>True) v l:=
 Kd.R_mono (Kd.R_far (p:=⟨E,i,none⟩) (Kd.R_types h hb ht) (fun k hk=>hk.2) u) (fun _ _=>trivial)
theorem R_setB2 {α:Type} {d:Kd α} {e N t E:Nat} {w:World} {v:Value} {l:List α} {cells:Array Value} (h:Kd.R d e w N (fun _=>True) v l) (hb:w.heap[E]? = some (.cells cells t (0,0))) (ht:∀ q,q ∈ e :: d.E→q≠t) (u0 u1:Value):Kd.R d e ((w.setCell ⟨E,0,none⟩ u0).setCell ⟨E,1,none⟩ u1) N (fun _=>True) v l:=
 R_setB (R_setB h hb ht 0 u0) (blk_set hb 0 u0) ht 1 u1
set_option maxRecDepth 100000 in
theorem listCla (f:S96→List Int) (G:Nat) (A0:Option Addr) (c0:Nat) (l0:List Int) (A:Option Addr) (c:Nat) (l:List S96) (w:World) (hr0:Kd.C (Kd.int .u8) w A0 l0.length l0) (hc0:l0.length≤c0) (hC:Kd.C k96 w A l.length l) (hb:l0.length+((enc (l.length:Int)).length+(l.flatMap f).length)≤1000000000000)
  (hent:∀ (xs:Array Value) (W:World),(callFunc G xs).run Tryz.prog W = .ok (.enter G xs) W)
  (hf:∀ x ∈ l,∀ w1,Below w.heap.size w w1→∀ A' c' l',Kd.C (Kd.int .u8) w1 A' l'.length l'→l'.length≤c'→l'.length+(f x).length≤1000000000000→∀ P0 q0 P1 q1,Kd.C Kd.string w1 P0 x.f0.length x.f0→x.f0.length≤q0→Kd.C Kd.string w1 P1 x.f1.length x.f1→x.f1.length≤q1→Calls Tryz.prog G #[.slice A' l'.length c',.agg #[.slice P0 x.f0.length q0,.slice P1 x.f1.length q1]] w1 fun e w2=>∃ v,e = .returned v∧Kd.R (Kd.int .u8) 5 w2 w1.heap.size (fun _=>True) v (l'++f x)∧Below w1.heap.size w1 w2) :
  Calls Tryz.prog 94 #[.slice A0 l0.length c0,.slice A l.length c,.func (.func G) #[] #[]] w fun e w'=>∃ v,e = .returned v∧Kd.R (Kd.int .u8) 5 w' w.heap.size (fun _=>True) v (l0++(enc (l.length:Int)++l.flatMap f))∧Below w.heap.size w w':=by
 have hm:=Kd.C_max hC
 have HC:=Ak hC
 have HF:=Ak hf
 have HP:=Ak (num_Put.calls A0 c0 l0 (l.length:Int) (l0++enc (l.length:Int)) w hr0 hc0 (if_pos ⟨by omega,by omega,by omega⟩))
 have HBD:=Ak hb
 clear hr0 hc0 hC hb hf
 have hu96:=Tryz.underlying96
 go_enter Tryz.func94,Tryz.ntmps94
 go_wp2_with fail
 refine HP.out.mono ?_
 rintro e w1 ⟨v1,rfl,ho,hb⟩
 have HO1:=Ak (show Kd.R (Kd.int .u8) 5 w1 w.heap.size (fun _=>True) v1 (l0++(enc (l.length:Int)++(l.take 0).flatMap f)) by rw [List.take_zero,List.flatMap_nil,List.append_nil];exact ho)
 have HB1:=Ak hb
 clear ho hb HP
 go_wp2_with fail
 go_loopg [7,16] (l.length+1) (fun k v7 v16 w'=>∃ i:Nat,v16 = .int .i64 (i:Int)∧Aside0 (i+k=l.length+1)∧Aside0 (Kd.R (Kd.int .u8) 5 w' w.heap.size (fun _=>True) v7 (l0++(enc (l.length:Int)++(l.take i).flatMap f)))∧Aside0 (Below w.heap.size w w'))
 case atStart=>exact ⟨0,rfl,⟨by omega⟩,HO1,HB1⟩
 case round=>
  clear HO1 HB1
  obtain ⟨i,rfl,HI,HO,HB⟩:=hrel
  obtain ⟨A7,c7,e7⟩:=Kd.R_slice HO.out
  subst e7
  by_cases hi:i < l.length
  ·have d1:decide ((i:Int) < (l.length:Int))=true:=decide_eq_true (by omega)
   obtain ⟨ad,P0,q0,P1,q1,e_,hx,hx1,hl0,hi0,hl1,hi1⟩:=at_T96 (Kd.C_below HC.out HB.out) (i:Int) (by omega) (by omega)
   cases e_
   rw [Int.toNat_natCast] at hx hx1
   obtain ⟨x,hx0⟩:∃ x,x=rd_T96 l (i:Int):=⟨_,rfl⟩
   rw [←hx0] at hx hx1 hl0 hi0 hl1 hi1
   have hxm:x ∈ l:=by rw [hx0];exact getD_mem' hi _
   have hxs:(l.take (i+1)).flatMap f=(l.take i).flatMap f++f x:=by
    rw [List.take_succ_eq_append_getElem hi,List.flatMap_append]
    congr 1
    rw [hx0]
    unfold rd_T96
    rw [Int.toNat_natCast,List.getD_eq_getElem?_getD,List.getElem?_eq_getElem hi];simp
   have hbx:(l0++(enc (l.length:Int)++(l.take i).flatMap f)).length+(f x).length≤1000000000000:=by
    have h1:l.flatMap f=(l.take (i+1)).flatMap f++(l.drop (i+1)).flatMap f:=by rw [←List.flatMap_append,List.take_append_drop]
    have h2:=congrArg List.length h1
    rw [hxs] at h2
    simp only [List.length_append] at h2 ⊢
    have:=HBD.out
    omega
   have HXS:=Ak hxs
   have HXM:=Ak hxm
   have HBX:=Ak hbx
   have HIL:=Ak hi
   clear hx0 hxm hxs hbx
   obtain ⟨-,hc7,hC7⟩:=Kd.R_reads' HO.out
   obtain ⟨lx,hlx⟩:∃ lx,lx=l0++(enc (l.length:Int)++(l.take i).flatMap f):=⟨_,rfl⟩
   rw [←hlx] at HO HBX hc7 hC7
   have HLX:=Ak hlx
   have HC7:=Ak hC7
   have HK7:=Ak hc7
   rw [←hlx]
   clear hlx hC7 hc7
   have HI0:=Ak hi0
   have HI1:=Ak hi1
   have HL0:=Ak hl0
   have HL1:=Ak hl1
   clear hi0 hi1 hl0 hl1
   go_upto_region 5 with (((with_reducible refine gate_dst (N:=9) rfl ?_);(try (refine gate_guard (by rfl) ?_;dsimp only));refine box_event ?hg (N:=9) ?hd (cs:=#[.slice none 0 0,.slice none 0 0]) (t:=96) ?hr ?_;(case hd=>rfl);(case hg=>rfl);(case hr=>(go_simp;done));intro B hg_ w2 hbox_ hb_;have HBE:=Ak hbox_;have HBM:=Ak hg_;have HBD:=Ak hb_;clear hbox_ hg_ hb_;have hq0:=blk_cell HBE.out 0;have hz0:=blk_frozen HBE.out 0;have hq1:=blk_cell HBE.out 1;have hz1:=blk_frozen HBE.out 1))
   have HGB:=Ak (show w.heap.size≤B∧wr.heap.size≤B from ⟨by rw [HBM.out];exact HB.out.size,by rw [HBM.out];exact Nat.le_refl _⟩)
   have n1_:=Ak (R_setB2 (Kd.R_below HO.out HBD.out) HBE.out (by decide) (.slice P0 x.f0.length q0) (.slice P1 x.f1.length q1))
   have n2_:=Ak (((below_step HB.out HBD.out).setCell (p:=⟨B,0,none⟩) HGB.out.1 (.slice P0 x.f0.length q0)).setCell (p:=⟨B,1,none⟩) HGB.out.1 (.slice P1 x.f1.length q1))
   have n3_:=Ak ((HBD.out.setCell (p:=⟨B,0,none⟩) HGB.out.2 (.slice P0 x.f0.length q0)).setCell (p:=⟨B,1,none⟩) HGB.out.2 (.slice P1 x.f1.length q1))
   have n4_:=Ak (blk_put (cs':=#[.slice P0 x.f0.length q0,.slice P1 x.f1.length q1]) (blk_put (cs':=#[.slice P0 x.f0.length q0,.slice none 0 0]) HBE.out 0 (.slice P0 x.f0.length q0) rfl) 1 (.slice P1 x.f1.length q1) rfl)
   clear HBE HBD hq0 hq1 hz0 hz1 hx hx1 HO
   generalize (w2.setCell ⟨B,0,none⟩ (.slice P0 x.f0.length q0)).setCell ⟨B,1,none⟩ (.slice P1 x.f1.length q1)=w3 at n1_ n2_ n3_ n4_ ⊢
   have HB':=HB
   clear HB
   have HB:=n2_
   have HO:=n1_
   have hq0:=blk_cell n4_.out 0
   have hq1:=blk_cell n4_.out 1
   obtain ⟨-,hc7,hC7⟩:=Kd.R_reads' HO.out
   clear HC7 HK7
   have HC7:=Ak hC7
   have HK7:=Ak hc7
   clear hc7 hC7
   go_wp2_with fail
   refine (HF.out x HXM.out _ HB.out A7 c7 lx HC7.out HK7.out HBX.out P0 q0 P1 q1 (Kd.C_below HI0.out n3_.out) HL0.out (Kd.C_below HI1.out n3_.out) HL1.out).mono ?_
   rintro e w4 ⟨v4,rfl,ho,hb⟩
   have HB4:=Ak (below_step HB.out hb)
   have HO4:=Ak (Kd.R_lower ho HB.out.size)
   clear ho hb
   go_wp2_with fail
   go_roundg (l.length - i)
   case measure=>have:=HI.out;omega
   case rel=>exact ⟨i+1,by go_num,⟨by have:=HI.out;omega⟩,⟨by have h:=HO4.out;rw [HLX.out,List.append_assoc,List.append_assoc,←HXS.out] at h;exact h⟩,HB4⟩
  ·have d1:decide ((i:Int) < (l.length:Int))=false:=decide_eq_false (by omega)
   have HT:=Ak (show l.take i=l from List.take_of_length_le (by omega))
   go_wp2_with fail
   go_ret
   exact ⟨_,rfl,by have h:=HO.out;rw [HT.out] at h ⊢;exact h,HB.out⟩
def encL (l:List ByteArray):List Int:=enc (l.length:Int)++encTs l
def encC (x:S96):List Int:=encL x.f0++encL x.f1
def encQ (l:List S96):List Int:=enc (l.length:Int)++l.flatMap encC
theorem encT_ge (s:ByteArray):s.size≤(encT (bytesOf s)).length:=by
 unfold encT
 rw [List.length_append,bytes_length];omega
theorem strs_calls (A0:Option Addr) (c0:Nat) (l0:List Int) (A:Option Addr) (c:Nat) (l:List ByteArray) (w:World) (hr0:Kd.C (Kd.int .u8) w A0 l0.length l0) (hc0:l0.length≤c0) (hC:Kd.C Kd.string w A l.length l) (hb:l0.length+(encL l).length≤1000000000000) :
  Calls Tryz.prog 96 #[.slice A0 l0.length c0,.slice A l.length c,.func (.func 31) #[] #[]] w fun e w'=>∃ v,e = .returned v∧Kd.R (Kd.int .u8) 5 w' w.heap.size (fun _=>True) v (l0++encL l)∧Below w.heap.size w w':=
 listStr (fun s=>encT (bytesOf s)) 31 A0 c0 l0 A c l w hr0 hc0 hC (by unfold encL encTs at hb;rw [List.length_append] at hb;exact hb) (enters_of Tryz.func31 (by kernel_rfl) rfl)
  (fun x hx w1 _ A' c' l' h1 h2 h3=>num_PutText.calls A' c' l' x (l'++encT (bytesOf x)) w1 h1 h2 (if_pos (by have:=encT_ge x;omega)))
def D95.T1:Bool × List (List Nat × List Nat):=(true,[([],[]),([],[]),([1],[1]),([0,2],[0,2]),([],[]),([4],[4]),([3,5,3],[3,5]),([6,6,0,1,2,3,4,5,6],[6])])
def D95.B1:List Nat:=[0,0,2,7,0,16,63,127]
theorem D95.tab1:rtab .any (opsOf Tryz.f95 1)=D95.T1:=by kernel_rfl
theorem D95.bits1:waitsOk D95.T1.2 D95.B1=true:=by kernel_rfl
set_option maxRecDepth 100000 in
theorem put1_calls (A0:Option Addr) (c0:Nat) (l0:List Int) (P0:Option Addr) (q0:Nat) (P1:Option Addr) (q1:Nat) (x:S96) (w:World) (hr0:Kd.C (Kd.int .u8) w A0 l0.length l0) (hc0:l0.length≤c0) (h0:Kd.C Kd.string w P0 x.f0.length x.f0) (h1:Kd.C Kd.string w P1 x.f1.length x.f1) (hb:l0.length+(encC x).length≤1000000000000) :
  Calls Tryz.prog 95 #[.slice A0 l0.length c0,.agg #[.slice P0 x.f0.length q0,.slice P1 x.f1.length q1]] w fun e w'=>∃ v,e = .returned v∧Kd.R (Kd.int .u8) 5 w' w.heap.size (fun _=>True) v (l0++encC x)∧Below w.heap.size w w':=by
 have hu96:=Tryz.underlying96
 have HR:=Ak hr0
 have HK:=Ak hc0
 have H0:=Ak h0
 have H1:=Ak h1
 have HL1:=Ak (show l0.length+(encL x.f0).length≤1000000000000 by unfold encC at hb;rw [List.length_append] at hb;omega)
 have HL2:=Ak (show (l0++encL x.f0).length+(encL x.f1).length≤1000000000000 by unfold encC at hb;rw [List.length_append] at hb ⊢;omega)
 clear hr0 hc0 h0 h1 hb
 go_enter Tryz.func95,Tryz.ntmps95
 go_upto_region 1 with (((with_reducible refine gate_dst (N:=3) rfl ?_);(try (refine gate_guard (by rfl) ?_;dsimp only));refine box_event ?hg (N:=3) ?hd (cs:=#[.slice P0 x.f0.length q0,.slice P1 x.f1.length q1]) (t:=96) ?hr ?_;(case hd=>rfl);(case hg=>rfl);(case hr=>(go_simp;done));intro g hg_ w2 hbox_ hb_;have HBX:=Ak hbox_;have HBN:=Ak hg_;have HBB:=Ak hb_;clear hbox_ hg_ hb_))
 go_wp2_with fail
 have n1_:=Ak (blk_drew HBX.out)
 have n2_:=Ak (below_drew1 HBB.out)
 clear HBX HBB
 have HX:=n1_
 have HB:=n2_
 clear n1_ n2_
 refine start_ (n:=8) (S:=fun w'=>w'.cell? ⟨g,0,none⟩=some (.slice P0 x.f0.length q0)∧w'.cell? ⟨g,1,none⟩=some (.slice P1 x.f1.length q1)) (ds:=[]) #[false,false,false,false,false,false,false,false] (by kernel_rfl) rfl rfl ⟨(blk_cell HX.out 0).trans rfl,(blk_cell HX.out 1).trans rfl⟩ (fun hHeld=>?_);refine with_tabW D95.tab1 D95.bits1 (fun HT_ HW_=>?_)
 generalize World.drew _=w3 at HX HB hHeld ⊢
 refine pure_ (i:=0) (N:=some 5) (v:=?_) (a':=?_) #[true,false,false,false,false,false,false,false] rfl rfl (any_of HT_.out (by kernel_rfl)) (fun _ _ _ h=>h) (Or.inl ⟨by rfl,?_⟩) ?_ ?_
 rotate_left
 ·intro w'
  go_simp
  with_reducible rfl
 rotate_left
 ·simp only [Act.put,List.setIfInBounds_toArray,List.set_cons_zero,List.set_cons_succ,i64_w,i32_w]
  rfl
 refine pure_ (i:=1) (N:=some 6) (v:=?_) (a':=?_) #[true,true,false,false,false,false,false,false] rfl rfl (any_of HT_.out (by kernel_rfl)) (fun _ _ _ h=>h) (Or.inl ⟨by rfl,?_⟩) ?_ ?_
 rotate_left
 ·intro w'
  go_simp
  with_reducible rfl
 rotate_left
 ·simp only [Act.put,List.setIfInBounds_toArray,List.set_cons_zero,List.set_cons_succ,i64_w,i32_w]
  rfl
 refine take_ (i:=2) (N:=some 7) (v:=?_) (a':=?_) #[true,true,true,false,false,false,false,false] rfl rfl (take_ofW HT_.out HW_.out (by kernel_rfl)) (fun _ _ _ h=>h) (Or.inl ⟨by rfl,?_⟩) hHeld ?_ ?_
 rotate_left
 ·rintro w' ⟨s0,s1⟩
  go_simp
  with_reducible rfl
 rotate_left
 ·simp only [Act.put,List.setIfInBounds_toArray,List.set_cons_zero,List.set_cons_succ,i64_w,i32_w]
  rfl
 refine pure_ (i:=4) (N:=some 9) (v:=?_) (a':=?_) #[true,true,true,false,true,false,false,false] rfl rfl (any_of HT_.out (by kernel_rfl)) (fun _ _ _ h=>h) (Or.inl ⟨by rfl,?_⟩) ?_ ?_
 rotate_left
 ·intro w'
  go_simp
  with_reducible rfl
 rotate_left
 ·simp only [Act.put,List.setIfInBounds_toArray,List.set_cons_zero,List.set_cons_succ,i64_w,i32_w]
  rfl
 refine take_ (i:=5) (N:=some 10) (v:=?_) (a':=?_) #[true,true,true,false,true,true,false,false] rfl rfl (take_ofW HT_.out HW_.out (by kernel_rfl)) (fun _ _ _ h=>h) (Or.inl ⟨by rfl,?_⟩) hHeld ?_ ?_
 rotate_left
 ·rintro w' ⟨s0,s1⟩
  go_simp
  with_reducible rfl
 rotate_left
 ·simp only [Act.put,List.setIfInBounds_toArray,List.set_cons_zero,List.set_cons_succ,i64_w,i32_w]
  rfl
 refine one_ (i:=3) (N:=some 8) #[true,true,true,true,true,true,false,false] rfl rfl (one_of HT_.out (by kernel_rfl)) (by decide) (fun K hK=>?_)
 refine goes_ Tryz.func96 (by kernel_rfl) rfl #[.slice A0 l0.length c0,.slice P0 x.f0.length q0,.func (.func 31) #[] #[]] (by rfl) rfl rfl (by (try simp only [List.map_toArray,List.map_cons,List.map_nil]);rfl) ?_
 with_reducible refine (strs_calls A0 c0 l0 P0 q0 x.f0 w3 (Kd.C_below HR.out HB.out) HK.out (Kd.C_below H0.out HB.out) HL1.out).mono ?_
 rintro e w4 ⟨v4,rfl,ho,hb⟩
 refine ⟨_,rfl,?_⟩
 obtain ⟨A4,c4,e4⟩:=Kd.R_slice ho
 subst e4
 obtain ⟨-,hc4,hC4⟩:=Kd.R_reads' ho
 have HC4:=Ak hC4
 have HK4:=Ak hc4
 have n1_:=Ak (blk_below HX.out hb)
 have n2_:=Ak (below_step HB.out hb)
 clear HX HB ho hb hc4 hC4
 have HX:=n1_
 have HB:=n2_
 clear n1_ n2_
 refine hK.out _ _ ⟨(blk_cell HX.out 0).trans rfl,(blk_cell HX.out 1).trans rfl⟩ (fun hHeld=>?_)
 clear hK K
 refine norm_ (a':=?_) ?_ ?_
 rotate_left
 ·show Act.put _ (some 8) _=_
  simp only [Act.put,List.setIfInBounds_toArray,List.set_cons_zero,List.set_cons_succ,i64_w,i32_w]
  rfl
 refine one_ (i:=6) (N:=some 11) #[true,true,true,true,true,true,true,false] rfl rfl (one_of HT_.out (by kernel_rfl)) (by decide) (fun K hK=>?_)
 refine goes_ Tryz.func96 (by kernel_rfl) rfl #[.slice A4 (l0++encL x.f0).length c4,.slice P1 x.f1.length q1,.func (.func 31) #[] #[]] (by rfl) rfl rfl (by (try simp only [List.map_toArray,List.map_cons,List.map_nil]);rfl) ?_
 with_reducible refine (strs_calls A4 c4 (l0++encL x.f0) P1 q1 x.f1 w4 HC4.out HK4.out (Kd.C_below H1.out HB.out) HL2.out).mono ?_
 rintro e w5 ⟨v5,rfl,ho,hb⟩
 refine ⟨_,rfl,?_⟩
 have HO5:=Ak (Kd.R_lower ho HB.out.size)
 have n1_:=Ak (blk_below HX.out hb)
 have n2_:=Ak (below_step HB.out hb)
 clear HX HB ho hb
 have HX:=n1_
 have HB:=n2_
 clear n1_ n2_
 refine hK.out _ _ ⟨(blk_cell HX.out 0).trans rfl,(blk_cell HX.out 1).trans rfl⟩ (fun hHeld=>?_)
 clear hK K
 refine norm_ (a':=?_) ?_ ?_
 rotate_left
 ·show Act.put _ (some 11) _=_
  simp only [Act.put,List.setIfInBounds_toArray,List.set_cons_zero,List.set_cons_succ,i64_w,i32_w]
  rfl
 refine pure_ (i:=7) (N:=some 4) (v:=?_) (a':=?_) #[true,true,true,true,true,true,true,true] rfl rfl (any_of HT_.out (by kernel_rfl)) (fun _ _ _ h=>h) (Or.inl ⟨by rfl,?_⟩) ?_ ?_
 rotate_left
 ·intro w'
  go_simp
  with_reducible rfl
 rotate_left
 ·simp only [Act.put,List.setIfInBounds_toArray,List.set_cons_zero,List.set_cons_succ,i64_w,i32_w]
  rfl
 refine done_ (by kernel_rfl) ?_
 clear HT_ HW_ hHeld
 go_wp2_with fail
 go_ret
 exact ⟨_,rfl,by have h:=HO5.out;rw [List.append_assoc] at h;exact h,HB.out⟩
set_option maxRecDepth 100000 in
theorem put_calls7 (A0:Option Addr) (c0:Nat) (l0:List Int) (A:Option Addr) (c:Nat) (l:List S96) (w:World) (hr0:Kd.C (Kd.int .u8) w A0 l0.length l0) (hc0:l0.length≤c0) (hC:Kd.C k96 w A l.length l) (hb:l0.length+(encQ l).length≤1000000000000) :
  Calls Tryz.prog 64 #[.slice A0 l0.length c0,.agg #[.slice A l.length c]] w fun e w'=>∃ v,e = .returned v∧Kd.R (Kd.int .u8) 5 w' w.heap.size (fun _=>True) v (l0++encQ l)∧Below w.heap.size w w':=by
 have hu32:=Tryz.underlying32
 have HR:=Ak hr0
 have HK:=Ak hc0
 have HC:=Ak hC
 have HL:=Ak (show l0.length+((enc (l.length:Int)).length+(l.flatMap encC).length)≤1000000000000 by unfold encQ at hb;rw [List.length_append] at hb;exact hb)
 clear hr0 hc0 hC hb
 go_enter Tryz.func64,Tryz.ntmps64
 go_wp2_with (((with_reducible refine gate_dst (N:=3) rfl ?_);(try (refine gate_guard (by rfl) ?_;dsimp only));refine box_event ?hg (N:=3) ?hd (cs:=#[.slice A l.length c]) (t:=32) ?hr ?_;(case hd=>rfl);(case hg=>rfl);(case hr=>(go_simp;done));intro g hg_ w2 hbox_ hb_;have HBX:=Ak hbox_;have HBN:=Ak hg_;have HBB:=Ak hb_;clear hbox_ hg_ hb_;have hc0:=blk_cell HBX.out 0;have hf0:=blk_frozen HBX.out 0))
 refine (listCla encC 95 A0 c0 l0 A c l w2 (Kd.C_below HR.out HBB.out) HK.out (Kd.C_below HC.out HBB.out) HL.out (enters_of Tryz.func95 (by kernel_rfl) rfl) (fun x hx w1 _ A' c' l' h1 h2 h3 P0 q0 P1 q1 g0 _ g1 _=>put1_calls A' c' l' P0 q0 P1 q1 x w1 h1 h2 g0 g1 h3)).mono ?_
 rintro e w3 ⟨v,rfl,ho,hb⟩
 have HO:=Ak (Kd.R_lower ho HBB.out.size)
 have HB:=Ak (below_step HBB.out hb)
 clear ho hb
 go_wp2_with fail
 go_ret
 exact ⟨_,rfl,HO.out,HB.out⟩
end Go.Proofs.YtocpcnmnhckcpaaGreat.Nam
namespace Go.Proofs.YtocpcnmnhckcpaaGreat.Prt
open RowKit YtocpcnmnhckcpaaGreatW.PrintWords YtocpcnmnhckcpaaGreatW.PrintLast YtocpcnmnhckcpaaGreatW.PrintMore YtocpcnmnhckcpaaGreat.Num YtocpcnmnhckcpaaGreat.Nam
def qcode_put.f (l0:List Int) (l1_0:List S96):Option (List Int):=if l0.length+(encQ l1_0).length≤1000000000000 then some (l0++encQ l1_0) else none
theorem qcode_put.calls (A0:Option Addr) (c0:Nat) (l0:List Int) (A1_0:Option Addr) (c1_0:Nat) (l1_0:List (S96)) (r:List Int) (w:World) (hr0:Kd.C (Kd.int .u8) w A0 l0.length l0) (hc0:l0.length≤c0) (hr1_0:Kd.C k96 w A1_0 l1_0.length l1_0) (hc1_0:l1_0.length≤c1_0) (h:qcode_put.f l0 l1_0=some r) :
  Calls Tryz.prog 64 #[.slice A0 l0.length c0,.agg #[.slice A1_0 l1_0.length c1_0]] w fun e w'=>∃ v0_:Value,e = .returned (v0_)∧Kd.R (Kd.int .u8) 5 w' w.heap.size (fun _=>True) v0_ r∧Below w.heap.size w w':=by
 unfold qcode_put.f at h
 by_cases hc:l0.length+(encQ l1_0).length≤1000000000000
 ·rw [if_pos hc] at h
  obtain rfl:=Option.some.inj h
  exact put_calls7 A0 c0 l0 A1_0 c1_0 l1_0 w hr0 hc0 hr1_0 hc
 ·rw [if_neg hc] at h;cases h
structure OkC (x:S96):Prop where
 h0:x.f0.length≤4
 h1:x.f1.length≤4
 ht:∀ s ∈ x.f0,tagB s=true
 hn:∀ s ∈ x.f1,mayL (bytesOf s)=true
 r0:riseB x.f0=true
 r1:riseB x.f1=true
structure OkQ (l:List S96):Prop where
 h4:l.length≤4
 hc:∀ x ∈ l,OkC x
theorem any_no {α:Type} {p:α→Bool} {l:List α} (h:¬(l.any p=true)):∀ x ∈ l,p x=false:=fun x hx=>by
 cases hp:p x with
 | false=>rfl
 | true=>exact absurd (List.any_eq_true.2 ⟨x,hx,hp⟩) h
theorem mayQ_zero {l:List S96}:mayQ l=0↔OkQ l:=by
 unfold mayQ
 constructor
 ·intro h
  by_cases c1:4 < l.length∨l.any bigC=true
  ·rw [if_pos c1] at h;cases h
  rw [if_neg c1] at h
  by_cases c2:l.any noneC=true
  ·rw [if_pos c2] at h;cases h
  rw [if_neg c2] at h
  by_cases c3:l.any downC=true
  ·rw [if_pos c3] at h;cases h
  rw [not_or] at c1
  refine ⟨by omega,fun x hx=>?_⟩
  have b1:=any_no c1.2 x hx
  have b2:=any_no c2 x hx
  have b3:=any_no c3 x hx
  unfold bigC at b1
  unfold noneC at b2
  unfold downC at b3
  rw [Bool.or_eq_false_iff] at b1 b2 b3
  rw [decide_eq_false_iff_not,decide_eq_false_iff_not] at b1
  refine ⟨by omega,by omega,fun s hs=>?_,fun s hs=>?_,by simpa using b3.1,by simpa using b3.2⟩
  ·have:=List.any_eq_false.1 b2.1 s hs;simpa using this
  ·have:=List.any_eq_false.1 b2.2 s hs;simpa using this
 ·rintro ⟨h4,hc⟩
  rw [if_neg ?_,if_neg ?_,if_neg ?_]
  ·intro c
   obtain ⟨x,hx,h⟩:=List.any_eq_true.1 c
   unfold downC at h
   rw [(hc x hx).r0,(hc x hx).r1] at h;cases h
  ·intro c
   obtain ⟨x,hx,h⟩:=List.any_eq_true.1 c
   unfold noneC at h
   rw [Bool.or_eq_true] at h
   rcases h with h | h
   ·obtain ⟨s,hs,h⟩:=List.any_eq_true.1 h
    rw [(hc x hx).ht s hs] at h;cases h
   ·obtain ⟨s,hs,h⟩:=List.any_eq_true.1 h
    rw [(hc x hx).hn s hs] at h;cases h
  ·rintro (c | c)
   ·omega
   ·obtain ⟨x,hx,h⟩:=List.any_eq_true.1 c
    unfold bigC at h
    have h0:=(hc x hx).h0
    have h1:=(hc x hx).h1
    rw [decide_eq_false (by omega),decide_eq_false (by omega)] at h;cases h
theorem OkC.fit {x:S96} (h:OkC x):fitC x=true:=fitC_iff.2 ⟨fun s hs=>by have:=tag_size (h.ht s hs);omega,fun s hs=>by have:=may_size (h.hn s hs);omega⟩
theorem OkQ.fit {l:List S96} (h:OkQ l):l.all fitC=true:=List.all_eq_true.2 fun x hx=>(h.hc x hx).fit
theorem encL_size (l:List ByteArray) (h4:l.length≤4) (hs:∀ s ∈ l,s.size≤49):(encL l).length≤246:=by
 have h1:∀ l:List ByteArray,(∀ s ∈ l,s.size≤49)→(encTs l).length≤59 * l.length:=by
  intro l
  induction l with
  | nil=>intro _;simp [encTs]
  | cons x r ih=>
   intro hs
   have e:encTs (x :: r)=encT (bytesOf x)++encTs r:=by unfold encTs;rw [List.flatMap_cons]
   have g1:=hs x (by simp)
   have g2:=encT_len x (by omega)
   have g3:=ih (fun z hz=>hs z (by simp [hz]))
   rw [e,List.length_append,List.length_cons];omega
 have h2:=h1 l hs
 have h3:=enc_len (x:=(l.length:Int)) ⟨by omega,by omega⟩
 unfold encL
 rw [List.length_append];omega
theorem encC_size {x:S96} (h:OkC x):(encC x).length≤492:=by
 have h1:=encL_size x.f0 h.h0 (fun s hs=>tag_size (h.ht s hs))
 have h2:=encL_size x.f1 h.h1 (fun s hs=>by have:=may_size (h.hn s hs);omega)
 unfold encC
 rw [List.length_append];omega
theorem flat_size {α:Type} {f:α→List Int} {n:Nat}:∀ l:List α,(∀ x ∈ l,(f x).length≤n)→(l.flatMap f).length≤n * l.length
 | [],_=>by simp
 | x :: r,h=>by
  have h1:=h x (by simp)
  have h2:=flat_size r (fun z hz=>h z (by simp [hz]))
  rw [List.flatMap_cons,List.length_append,List.length_cons,Nat.mul_add];omega
theorem encQ_size {l:List S96} (h:OkQ l):(encQ l).length≤2000:=by
 have h4:=h.h4
 have h1:=flat_size (f:=encC) l (fun x hx=>encC_size (h.hc x hx))
 have h3:=enc_len (x:=(l.length:Int)) ⟨by omega,by omega⟩
 unfold encQ
 rw [List.length_append];omega
theorem empty_size {s:ByteArray} (h:s.toList=[]):s.size=0:=by
 have h2:s.toList.length=s.size:=by rw [Lib.toList_data];rfl
 rw [h] at h2;exact h2.symm
end Go.Proofs.YtocpcnmnhckcpaaGreat.Prt
namespace Go.Proofs.YtocpcnmnhckcpaaGreat.Prt
open RowKit YtocpcnmnhckcpaaGreatW.PrintWords YtocpcnmnhckcpaaGreatW.PrintLast YtocpcnmnhckcpaaGreatW.PrintMore
attribute [local go_sem] max2_int min2_int max_two min_two max_three min_three max_four min_four
def qcode_Put.f (l0:List Int) (l1_0:List (S96)):Option (List Int × Int):=(query_May.f l1_0).bind fun t147=>(if t147=0 then ((qcode_put.f l0 l1_0).bind fun t148=>(some (t148,0))) else (some (([]:List Int),t147)))
set_option maxHeartbeats 8000000 in
set_option maxRecDepth 100000 in
theorem qcode_Put.calls (A0:Option Addr) (c0:Nat) (l0:List Int) (A1_0:Option Addr) (c1_0:Nat) (l1_0:List (S96)) (r1:List Int) (r2:Int) (w:World) (hr0:Kd.C (Kd.int .u8) w A0 l0.length l0) (hc0:l0.length≤c0) (hr1_0:Kd.C k96 w A1_0 l1_0.length l1_0) (hc1_0:l1_0.length≤c1_0) (h:qcode_Put.f l0 l1_0=some (r1,r2)) :
  Calls Tryz.prog 35 #[.slice A0 l0.length c0,.agg #[.slice A1_0 l1_0.length c1_0]] w fun e w'=>∃ v0_:Value,e = .returned (.tuple #[v0_,.int .i64 r2])∧Kd.R (Kd.int .u8) 5 w' w.heap.size (fun _=>True) v0_ r1∧Below w.heap.size w w':=by
 have hu32:=Tryz.underlying32
 have HR0:=Ak hr0
 have HC0:=Ak hc0
 clear hr0 hc0
 have HR1_0:=Ak hr1_0
 have HC1_0:=Ak hc1_0
 clear hr1_0 hc1_0
 have HB:=Ak (Below.refl w.heap.size w)
 have H:((query_May.f l1_0).bind fun t147=>(if t147=0 then ((qcode_put.f l0 l1_0).bind fun t148=>(some (t148,0))) else (some (([]:List Int),t147))))=some (r1,r2):=h
 clear h
 replace H:=Option.bind_eq_some_iff.mp H
 obtain ⟨t147,A30,H⟩:=H
 replace H:(if t147=0 then ((qcode_put.f l0 l1_0).bind fun t148=>(some (t148,0))) else (some (([]:List Int),t147)))=some (r1,r2):=H
 have A3:=Ak A30
 clear A30
 by_cases c4:t147=0
 ·rw [if_pos c4] at H
  have c4b0:(t147 == 0)=true:=beq_iff_eq.mpr c4
  have c4b1:(t147 != 0)=false:=bne_eq_false_iff_eq.mpr c4
  clear c4
  replace H:=Option.bind_eq_some_iff.mp H
  obtain ⟨t148,A50,H⟩:=H
  replace H:(some (t148,0))=some (r1,r2):=H
  have A5:=Ak A50
  clear A50
  simp only [Option.some.injEq,Prod.mk.injEq] at H
  obtain ⟨rfl,rfl⟩:=H
  go_enter Tryz.func35,Tryz.ntmps35
  go_wp2_with (first | ((with_reducible refine gate_dst (N:=3) rfl ?_);refine box_event ?hg (N:=3) ?hd (cs:=#[.slice A1_0 l1_0.length c1_0]) (t:=32) ?hr ?_;(case hd=>rfl);(case hg=>rfl);(case hr=>(go_simp;done));intro gb146 hg w6 hbox hb;have n0_:=Ak (below_step HB.out hb);have n1_:=Ak (hbox);have n2_:=Ak ((by rw [hg];exact (below_size HB.out):w.heap.size≤gb146));have n3_:=Ak ((by rw [hg];exact (below_size HB.out):w.heap.size≤gb146));clear HB;have HB:=n0_;have BK146:=n1_;have GW146:=n2_;have GE146:=n3_;clear n0_ n1_ n2_ n3_;clear hb hbox hg;have hcz7_0:w6.cell? ⟨gb146,0,none⟩=some (.slice A1_0 l1_0.length c1_0):=(blk_cell BK146.out 0).trans rfl;have hfz7_0:=blk_frozen BK146.out 0) | ((with_reducible refine gate_callee (f:=57) rfl ?_);refine goesL_ (some 8) rfl rfl Tryz.func57 (by kernel_rfl) rfl #[.agg #[.slice A1_0 l1_0.length c1_0]] rfl (by (try simp only [List.map_toArray,List.map_cons,List.map_nil]);rfl) ?_;(with_reducible refine (query_May.calls _ _ l1_0 t147 _ ?side1 ?side2 A3.out).mono ?_);(case side1=>repeat (exact (Kd.C_below HR1_0.out HB.out)));(case side2=>exact HC1_0.out);rintro e w8 ⟨rfl,hb⟩;refine ⟨_,rfl,?_⟩;have n0_:=Ak (blk_below (g:=gb146) (o:=.cells #[.slice A1_0 l1_0.length c1_0] 32 (0,0)) BK146.out hb);have n1_:=Ak (below_step HB.out hb);clear BK146;clear HB;have BK146:=n0_;have HB:=n1_;clear n0_ n1_;(try clear hb);have hcz9_0:w8.cell? ⟨gb146,0,none⟩=some (.slice A1_0 l1_0.length c1_0):=(blk_cell BK146.out 0).trans rfl;have hfz9_0:=blk_frozen BK146.out 0) | ((with_reducible refine gate_callee (f:=64) rfl ?_);refine goesL_ (some 14) rfl rfl Tryz.func64 (by kernel_rfl) rfl #[.slice A0 l0.length c0,.agg #[.slice A1_0 l1_0.length c1_0]] rfl (by (try simp only [List.map_toArray,List.map_cons,List.map_nil]);rfl) ?_;(with_reducible refine (qcode_put.calls _ _ l0 _ _ l1_0 t148 _ ?side1 ?side2 ?side3 ?side4 A5.out).mono ?_);(case side1=>repeat (exact (Kd.C_below HR0.out HB.out)));(case side2=>exact HC0.out);(case side3=>repeat (exact (Kd.C_below HR1_0.out HB.out)));(case side4=>exact HC1_0.out);rintro e w10 ⟨v149,rfl,ho0,hb⟩;refine ⟨_,rfl,?_⟩;have n0_:=Ak (Kd.R_lower ho0 (below_size HB.out));have n1_:=Ak (blk_below (g:=gb146) (o:=.cells #[.slice A1_0 l1_0.length c1_0] 32 (0,0)) BK146.out hb);have n2_:=Ak (below_step HB.out hb);clear BK146;clear HB;have HO150:=n0_;have BK146:=n1_;have HB:=n2_;clear n0_ n1_ n2_;(try clear hb);(try clear ho0)))
  go_ret2
  exact ⟨_,by rfl,by exact HO150.out,by with_reducible exact HB.out⟩
 ·rw [if_neg c4] at H
  have c4b0:(t147 == 0)=false:=beq_eq_false_iff_ne.mpr c4
  have c4b1:(t147 != 0)=true:=bne_iff_ne.mpr c4
  simp only [Option.some.injEq,Prod.mk.injEq] at H
  obtain ⟨rfl,rfl⟩:=H
  go_enter Tryz.func35,Tryz.ntmps35
  go_wp2_with (first | ((with_reducible refine gate_dst (N:=3) rfl ?_);refine box_event ?hg (N:=3) ?hd (cs:=#[.slice A1_0 l1_0.length c1_0]) (t:=32) ?hr ?_;(case hd=>rfl);(case hg=>rfl);(case hr=>(go_simp;done));intro gb146 hg w11 hbox hb;have n0_:=Ak (below_step HB.out hb);have n1_:=Ak (hbox);have n2_:=Ak ((by rw [hg];exact (below_size HB.out):w.heap.size≤gb146));have n3_:=Ak ((by rw [hg];exact (below_size HB.out):w.heap.size≤gb146));clear HB;have HB:=n0_;have BK146:=n1_;have GW146:=n2_;have GE146:=n3_;clear n0_ n1_ n2_ n3_;clear hb hbox hg;have hcz12_0:w11.cell? ⟨gb146,0,none⟩=some (.slice A1_0 l1_0.length c1_0):=(blk_cell BK146.out 0).trans rfl;have hfz12_0:=blk_frozen BK146.out 0) | ((with_reducible refine gate_callee (f:=57) rfl ?_);refine goesL_ (some 8) rfl rfl Tryz.func57 (by kernel_rfl) rfl #[.agg #[.slice A1_0 l1_0.length c1_0]] rfl (by (try simp only [List.map_toArray,List.map_cons,List.map_nil]);rfl) ?_;(with_reducible refine (query_May.calls _ _ l1_0 t147 _ ?side1 ?side2 A3.out).mono ?_);(case side1=>repeat (exact (Kd.C_below HR1_0.out HB.out)));(case side2=>exact HC1_0.out);rintro e w13 ⟨rfl,hb⟩;refine ⟨_,rfl,?_⟩;have n0_:=Ak (blk_below (g:=gb146) (o:=.cells #[.slice A1_0 l1_0.length c1_0] 32 (0,0)) BK146.out hb);have n1_:=Ak (below_step HB.out hb);clear BK146;clear HB;have BK146:=n0_;have HB:=n1_;clear n0_ n1_;(try clear hb)))
  go_ret2
  exact ⟨_,by rfl,by exact Kd.R_nil _ _ _ _ _,by with_reducible exact HB.out⟩
end Go.Proofs.YtocpcnmnhckcpaaGreat.Prt
namespace Go.Proofs.YtocpcnmnhckcpaaGreat.Prt
open RowKit YtocpcnmnhckcpaaGreatW.PrintWords YtocpcnmnhckcpaaGreatW.PrintLast YtocpcnmnhckcpaaGreatW.PrintMore YtocpcnmnhckcpaaGreat.Num YtocpcnmnhckcpaaGreat.Nam
theorem qput_ok {b:List Int} {l:List S96} (hb:b.length≤100000000000) (hf:l.all fitC=true):qcode_Put.f b l=some (if mayQ l=0 then (b++encQ l,0) else ([],mayQ l)):=by
 have m1:query_May.f l=some (mayQ l):=if_pos hf
 unfold qcode_Put.f
 rw [m1]
 simp only [Option.bind_some]
 by_cases h0:mayQ l=0
 ·have hz:=encQ_size (mayQ_zero.1 h0)
  have m2:qcode_put.f b l=some (b++encQ l):=if_pos (by omega)
  rw [if_pos h0,if_pos h0,m2];rfl
 ·rw [if_neg h0,if_neg h0]
theorem flat_bytes {α:Type} {f:α→List Int} (hf:∀ x,isBytes (f x)):∀ l:List α,isBytes (l.flatMap f)
 | []=>by intro c hc;simp at hc
 | x :: r=>by rw [List.flatMap_cons];exact isBytes_append.2 ⟨hf x,flat_bytes hf r⟩
theorem encL_bytes (l:List ByteArray):isBytes (encL l):=isBytes_append.2 ⟨enc_bytes _,encTs_bytes l⟩
theorem encC_bytes (x:S96):isBytes (encC x):=isBytes_append.2 ⟨encL_bytes _,encL_bytes _⟩
theorem encQ_bytes (l:List S96):isBytes (encQ l):=isBytes_append.2 ⟨enc_bytes _,flat_bytes encC_bytes l⟩
abbrev Stp (α:Type):Type:=List Int→Bool→(α × Bool) × List Int × Bool
def takeN {α:Type} (step:Stp α):Nat→List Int→Bool→List α→(List α × Bool) × List Int × Bool
 | 0,l,b,acc=>((acc,!b),l,b)
 | n+1,l,b,acc=>if (step l b).1.2=false∨(step l b).2.2=true then (([],false),(step l b).2) else takeN step n (step l b).2.1 (step l b).2.2 (acc++[(step l b).1.1])
def takeL {α:Type} (step:Stp α) (most:Int) (l:List Int) (b:Bool):(List α × Bool) × List Int × Bool:=
 if numOf l < 0∨most < numOf l then (([],false),aft l,badOf l b) else takeN step (numOf l).toNat (aft l) (badOf l b) []
def stepT:Stp ByteArray:=fun l b=>((textOf l,true),aftT l,badT l b)
def stepC:Stp S96:=fun l b=>
 if (takeL stepT 4 l b).1.2=false then ((⟨(takeL stepT 4 l b).1.1,[]⟩,false),(takeL stepT 4 l b).2)
 else ((⟨(takeL stepT 4 l b).1.1,(takeL stepT 4 (takeL stepT 4 l b).2.1 (takeL stepT 4 l b).2.2).1.1⟩,(takeL stepT 4 (takeL stepT 4 l b).2.1 (takeL stepT 4 l b).2.2).1.2),(takeL stepT 4 (takeL stepT 4 l b).2.1 (takeL stepT 4 l b).2.2).2)
def takeQ (l:List Int) (b:Bool):List S96 × Int × List Int × Bool:=
 if (takeL stepC 4 l b).1.2=false∨mayQ (takeL stepC 4 l b).1.1≠0 then ([],2,(takeL stepC 4 l b).2) else ((takeL stepC 4 l b).1.1,0,(takeL stepC 4 l b).2)
section
variable {α : Type} {step : Stp α} {e : α → List Int}
def Good (step:Stp α) (e:α→List Int):Prop:=∀ l b,isBytes l→(step l b).1.2=true→(step l b).2.2=false→b=false∧isBytes (step l b).2.1∧l=e (step l b).1.1++(step l b).2.1
theorem takeN_good (hg:Good step e):∀ (n:Nat) (l:List Int) (b:Bool) (acc:List α),isBytes l→(takeN step n l b acc).1.2=true→b=false∧(takeN step n l b acc).2.2=false∧isBytes (takeN step n l b acc).2.1∧∃ m,(takeN step n l b acc).1.1=acc++m∧m.length=n∧l=m.flatMap e++(takeN step n l b acc).2.1
 | 0,l,b,acc,hb,h=>by
  have hb0:b=false:=by simpa [takeN] using h
  exact ⟨hb0,hb0,hb,[],by simp [takeN],rfl,rfl⟩
 | n+1,l,b,acc,hb,h=>by
  by_cases hc:(step l b).1.2=false∨(step l b).2.2=true
  ·rw [takeN,if_pos hc] at h;cases h
  ·have h1:(step l b).1.2=true:=by cases hz:(step l b).1.2 with | true=>rfl | false=>exact absurd (.inl hz) hc
   have h2:(step l b).2.2=false:=by cases hz:(step l b).2.2 with | false=>rfl | true=>exact absurd (.inr hz) hc
   obtain ⟨g1,g2,g3⟩:=hg l b hb h1 h2
   rw [takeN,if_neg hc] at h ⊢
   obtain ⟨k1,k2,k3,m,k4,k5,k6⟩:=takeN_good hg n _ _ _ g2 h
   refine ⟨g1,k2,k3,(step l b).1.1 :: m,by rw [k4,List.append_assoc];rfl,by rw [List.length_cons,k5],?_⟩
   rw [List.flatMap_cons,List.append_assoc,←k6];exact g3
theorem takeL_good (hg:Good step e) {most:Int} {l:List Int} {b:Bool} (hb:isBytes l) (h:(takeL step most l b).1.2=true) :
  b=false∧(takeL step most l b).2.2=false∧isBytes (takeL step most l b).2.1∧((takeL step most l b).1.1.length:Int)≤most∧l=(enc ((takeL step most l b).1.1.length:Int)++(takeL step most l b).1.1.flatMap e)++(takeL step most l b).2.1:=by
 by_cases hc:numOf l < 0∨most < numOf l
 ·rw [takeL,if_pos hc] at h;cases h
 ·rw [takeL,if_neg hc] at h ⊢
  obtain ⟨k1,k2,k3,m,k4,k5,k6⟩:=takeN_good hg _ _ _ _ (aft_bytes hb) h
  obtain ⟨g1,g2,g3⟩:=numOf_good hb k1
  rw [List.nil_append] at k4
  rw [k4]
  have hl:(m.length:Int)=numOf l:=by omega
  refine ⟨g1,k2,k3,by omega,?_⟩
  rw [hl,List.append_assoc,←k6];exact g2
theorem takeN_enc {m:List α} (he:∀ x ∈ m,∀ r,step (e x++r) false=((x,true),r,false)) (r:List Int):∀ acc,takeN step m.length (m.flatMap e++r) false acc=((acc++m,true),r,false):=by
 induction m with
 | nil=>intro acc;simp [takeN]
 | cons x t ih=>
  intro acc
  have h1:=he x (by simp) (t.flatMap e++r)
  rw [List.length_cons,List.flatMap_cons,List.append_assoc,takeN,h1,if_neg (by simp)]
  have h2:=ih (fun y hy=>he y (by simp [hy])) (acc++[x])
  simp only
  rw [h2,List.append_assoc];rfl
theorem takeL_enc {most:Int} {m:List α} (hm:(m.length:Int)≤most) (hs:m.length≤1000000) (he:∀ x ∈ m,∀ r,step (e x++r) false=((x,true),r,false)) (r:List Int):takeL step most ((enc (m.length:Int)++m.flatMap e)++r) false=((m,true),r,false):=by
 obtain ⟨a1,a2,a3⟩:=numOf_enc (x:=(m.length:Int)) ⟨by omega,by omega⟩ (m.flatMap e++r) false
 rw [takeL,List.append_assoc,a1,a2,a3,if_neg (by omega),Int.toNat_natCast,takeN_enc he r []]
 rfl
def Left (step:Stp α) (N:Nat) (p:α→Prop):Prop:=∀ l b,isBytes l→l.length≤N→isBytes (step l b).2.1∧(step l b).2.1.length≤l.length∧p (step l b).1.1
theorem takeN_left {N:Nat} {p:α→Prop} (hg:Left step N p):∀ (n:Nat) (l:List Int) (b:Bool) (acc:List α),isBytes l→l.length≤N→(∀ x ∈ acc,p x)→isBytes (takeN step n l b acc).2.1∧(takeN step n l b acc).2.1.length≤l.length∧(∀ x ∈ (takeN step n l b acc).1.1,p x)∧(takeN step n l b acc).1.1.length≤acc.length+n
 | 0,l,b,acc,hb,hl,ha=>⟨hb,Nat.le_refl _,ha,Nat.le_refl _⟩
 | n+1,l,b,acc,hb,hl,ha=>by
  obtain ⟨g1,g2,g3⟩:=hg l b hb hl
  by_cases hc:(step l b).1.2=false∨(step l b).2.2=true
  ·rw [takeN,if_pos hc];exact ⟨g1,g2,fun x hx=>by simp at hx,by simp⟩
  ·rw [takeN,if_neg hc]
   obtain ⟨k1,k2,k3,k4⟩:=takeN_left hg n _ (step l b).2.2 (acc++[(step l b).1.1]) g1 (Nat.le_trans g2 hl) (fun x hx=>by
    rcases List.mem_append.1 hx with hx | hx
    ·exact ha x hx
    ·rw [List.mem_singleton.1 hx];exact g3)
   exact ⟨k1,Nat.le_trans k2 g2,k3,by rw [List.length_append,List.length_singleton] at k4;omega⟩
theorem takeL_left {N:Nat} {p:α→Prop} (hg:Left step N p) (most:Int) (hm:0≤most) (l:List Int) (b:Bool) (hb:isBytes l) (hl:l.length≤N):isBytes (takeL step most l b).2.1∧(takeL step most l b).2.1.length≤l.length∧(∀ x ∈ (takeL step most l b).1.1,p x)∧((takeL step most l b).1.1.length:Int)≤most:=by
 have h1:=aft_bytes hb
 have h2:=aft_len l hb
 by_cases hc:numOf l < 0∨most < numOf l
 ·rw [takeL,if_pos hc];exact ⟨h1,h2,fun x hx=>by simp at hx,by simpa using hm⟩
 ·rw [takeL,if_neg hc]
  obtain ⟨k1,k2,k3,k4⟩:=takeN_left hg (numOf l).toNat _ (badOf l b) [] h1 (Nat.le_trans h2 hl) (fun x hx=>by simp at hx)
  exact ⟨k1,Nat.le_trans k2 h2,k3,by rw [List.length_nil] at k4;omega⟩
end
theorem stepT_good:Good stepT (fun s=>encT (bytesOf s)):=fun l b hb h1 h2=>by
 obtain ⟨g1,g2⟩:=textOf_good hb h2
 exact ⟨g1,aftT_bytes hb,g2⟩
theorem stepT_left (N:Nat):Left stepT N (fun s=>s.size≤N):=fun l b hb hl=>⟨aftT_bytes hb,aftT_len l hb,Nat.le_trans (textOf_size l hb) hl⟩
theorem stepT_enc {s:ByteArray} (hs:s.size≤9223372036854775807) (r:List Int):stepT (encT (bytesOf s)++r) false=((s,true),r,false):=by
 obtain ⟨a1,a2,a3⟩:=textOf_enc hs r false
 unfold stepT;rw [a1,a2,a3]
theorem stepC_good:Good stepC encC:=fun l b hb h1 h2=>by
 unfold stepC at h1 h2 ⊢
 by_cases hc:(takeL stepT 4 l b).1.2=false
 ·rw [if_pos hc] at h1;cases h1
 ·rw [if_neg hc] at h1 h2 ⊢
  simp only at h1 h2 ⊢
  have hc1:(takeL stepT 4 l b).1.2=true:=by simpa using hc
  obtain ⟨k1,k2,k3,k4,k5⟩:=takeL_good stepT_good hb hc1
  obtain ⟨j1,j2,j3,j4,j5⟩:=takeL_good stepT_good k3 h1
  refine ⟨k1,j3,?_⟩
  unfold encC encL encTs
  simp only
  rw [List.append_assoc,←j5];exact k5
theorem stepC_left (N:Nat):Left stepC N (fun x=>(∀ s ∈ x.f0,s.size≤N)∧(∀ s ∈ x.f1,s.size≤N)):=fun l b hb hl=>by
 obtain ⟨k1,k2,k3,k4⟩:=takeL_left (stepT_left N) 4 (by decide) l b hb hl
 unfold stepC
 by_cases hc:(takeL stepT 4 l b).1.2=false
 ·rw [if_pos hc];exact ⟨k1,k2,k3,fun s hs=>by simp at hs⟩
 ·rw [if_neg hc]
  obtain ⟨j1,j2,j3,j4⟩:=takeL_left (stepT_left N) 4 (by decide) _ (takeL stepT 4 l b).2.2 k1 (Nat.le_trans k2 hl)
  exact ⟨j1,Nat.le_trans j2 k2,k3,j3⟩
theorem stepC_enc {x:S96} (h:OkC x) (r:List Int):stepC (encC x++r) false=((x,true),r,false):=by
 have h0:=h.h0
 have h1:=h.h1
 have f:=fitC_iff.1 h.fit
 have a:=takeL_enc (step:=stepT) (e:=fun s=>encT (bytesOf s)) (most:=4) (m:=x.f0) (by omega) (by omega) (fun s hs r=>stepT_enc (f.1 s hs) r) (encL x.f1++r)
 have b:=takeL_enc (step:=stepT) (e:=fun s=>encT (bytesOf s)) (most:=4) (m:=x.f1) (by omega) (by omega) (fun s hs r=>stepT_enc (f.2 s hs) r) r
 have e:encC x++r=(enc (x.f0.length:Int)++x.f0.flatMap fun s=>encT (bytesOf s))++(encL x.f1++r):=by unfold encC;rw [List.append_assoc];rfl
 have e2:encL x.f1++r=(enc (x.f1.length:Int)++x.f1.flatMap fun s=>encT (bytesOf s))++r:=rfl
 unfold stepC
 rw [e,a]
 simp only
 rw [if_neg (by simp),e2,b]
theorem takeQ_good {l:List Int} {b:Bool} (hb:isBytes l) {q:List S96} {l':List Int} {b':Bool} (h:takeQ l b=(q,0,l',b')):b=false∧b'=false∧isBytes l'∧OkQ q∧l=encQ q++l':=by
 unfold takeQ at h
 by_cases hc:(takeL stepC 4 l b).1.2=false∨mayQ (takeL stepC 4 l b).1.1≠0
 ·rw [if_pos hc] at h;simp at h
 ·rw [if_neg hc] at h
  rw [not_or] at hc
  obtain ⟨k1,k2,k3,k4,k5⟩:=takeL_good stepC_good hb (by simpa using hc.1)
  simp only [Prod.mk.injEq] at h
  obtain ⟨rfl,-,h3⟩:=h
  have e1:=congrArg (fun z=>z.1) h3
  have e2:=congrArg (fun z=>z.2) h3
  simp only at e1 e2
  subst e1;subst e2
  exact ⟨k1,k2,k3,mayQ_zero.1 (by simpa using hc.2),k5⟩
theorem takeQ_enc {q:List S96} (h:OkQ q) (r:List Int):takeQ (encQ q++r) false=(q,0,r,false):=by
 have h4:=h.h4
 have a:=takeL_enc (step:=stepC) (e:=encC) (most:=4) (m:=q) (by omega) (by omega) (fun x hx r=>stepC_enc (h.hc x hx) r) r
 unfold takeQ encQ
 rw [a]
 simp only
 rw [if_neg (by rw [mayQ_zero.2 h];simp)]
theorem takeQ_left (N:Nat) {l:List Int} (b:Bool) (hb:isBytes l) (hl:l.length≤N):isBytes (takeQ l b).2.2.1∧(takeQ l b).2.2.1.length≤l.length∧(∀ x ∈ (takeL stepC 4 l b).1.1,(∀ s ∈ x.f0,s.size≤N)∧(∀ s ∈ x.f1,s.size≤N))∧((takeL stepC 4 l b).1.1.length:Int)≤4∧((takeQ l b).2.1=0∨(takeQ l b).2.1=2∧(takeQ l b).1=[]):=by
 obtain ⟨k1,k2,k3,k4⟩:=takeL_left (stepC_left N) 4 (by decide) l b hb hl
 unfold takeQ
 by_cases hc:(takeL stepC 4 l b).1.2=false∨mayQ (takeL stepC 4 l b).1.1≠0
 ·rw [if_pos hc];exact ⟨k1,k2,k3,k4,.inr ⟨rfl,rfl⟩⟩
 ·rw [if_neg hc];exact ⟨k1,k2,k3,k4,.inl rfl⟩
end Go.Proofs.YtocpcnmnhckcpaaGreat.Prt
namespace Go.Proofs.YtocpcnmnhckcpaaGreat.Prt
open RowKit YtocpcnmnhckcpaaGreatW.PrintWords YtocpcnmnhckcpaaGreatW.PrintLast YtocpcnmnhckcpaaGreatW.PrintMore YtocpcnmnhckcpaaGreat.Num YtocpcnmnhckcpaaGreat.Nam
def noV (e:S29):Bool:=decide (e.f0.size=0) && (decide (e.f1.size=0) && decide (e.f2.length+e.f3.length=0))
theorem size_zero {s:ByteArray} (h:s.size=0):s=⟨#[]⟩:=by
 obtain ⟨⟨l⟩⟩:=s
 have h2:l.length=0:=h
 cases l with
 | nil=>rfl
 | cons a t=>simp at h2
theorem noV_iff (e:S29):noV e=true↔e=z29:=by
 unfold noV
 rw [Bool.and_eq_true,Bool.and_eq_true,decide_eq_true_iff,decide_eq_true_iff,decide_eq_true_iff]
 constructor
 ·rintro ⟨h0,h1,h2⟩
  obtain ⟨a,b,c,d⟩:=e
  simp only at h0 h1 h2
  obtain rfl:=size_zero h0
  obtain rfl:=size_zero h1
  obtain rfl:c=[]:=List.eq_nil_of_length_eq_zero (by omega)
  obtain rfl:d=[]:=List.eq_nil_of_length_eq_zero (by omega)
  rfl
 ·rintro rfl
  exact ⟨rfl,rfl,rfl⟩
def mayV (e:S29):Int:=if noV e=true then 0 else mayE e.f0 e.f1 e.f2 e.f3
def mayW (q:List S96):Int:=if q.length=0 then 0 else mayQ q
def encV (e:S29):List Int:=if noV e=true then enc 0 else enc 1++encEv e.f0 e.f1 e.f2 e.f3
def encW (q:List S96):List Int:=if q.length=0 then enc 0 else enc 1++encQ q
def encK (t:S34):List Int:=enc t.f0++(enc t.f1++(enc t.f2++(enc t.f3++encT (bytesOf t.f4))))
def encS (t:S34):List Int:=encK t++(encV t.f5++encW t.f6.f0)
def putS (t:S34):List Int × Int:=if mayV t.f5≠0 then ([],mayV t.f5) else if mayW t.f6.f0≠0 then ([],mayW t.f6.f0) else (encS t,0)
structure OkS (t:S34):Prop where
 k0:i64 t.f0
 k1:i64 t.f1
 k2:i64 t.f2
 k3:i64 t.f3
 k4:t.f4.size≤9223372036854775807
 hv:mayV t.f5=0
 hq:mayW t.f6.f0=0
theorem mayV_ok {e:S29} (h:mayV e=0) (h0:¬noV e=true):OkE e.f0 e.f1 e.f2 e.f3:=by
 unfold mayV at h
 rw [if_neg h0] at h
 exact (okE_iff _ _ _ _).1 h
theorem mayW_ok {q:List S96} (h:mayW q=0) (h0:¬q.length=0):OkQ q:=by
 unfold mayW at h
 rw [if_neg h0] at h
 exact mayQ_zero.1 h
theorem putS_ok {t:S34} (hv:mayV t.f5=0) (hq:mayW t.f6.f0=0):putS t=(encS t,0):=by
 unfold putS
 rw [if_neg (fun h=>h hv),if_neg (fun h=>h hq)]
theorem putS_inv {t:S34} (h:(putS t).2=0):mayV t.f5=0∧mayW t.f6.f0=0∧putS t=(encS t,0):=by
 unfold putS at h
 by_cases h1:mayV t.f5=0
 ·by_cases h2:mayW t.f6.f0=0
  ·exact ⟨h1,h2,putS_ok h1 h2⟩
  ·rw [if_neg (fun h=>h h1),if_pos h2] at h;exact absurd h h2
 ·rw [if_pos h1] at h;exact absurd h h1
theorem encEv_size {s t:ByteArray} {a:List ByteArray} {f:List S90} (h:OkE s t a f):(encEv s t a f).length≤1000:=by
 have h1:=may_size h.hs
 have h2:=may_size h.ht
 have e1:=encT_len s (by omega)
 have e2:=encT_len t (by omega)
 have h6:=h.ht6
 have h4:=h.hf4
 have e3:=enc_len (x:=(a.length:Int)) ⟨by omega,by omega⟩
 have e4:=enc_len (x:=(f.length:Int)) ⟨by omega,by omega⟩
 have e5:(encTs a).length≤59 * a.length:=flat_size a (fun x hx=>by
  have:=tag_size (h.htag x hx)
  have:=encT_len x (by omega)
  omega)
 have e6:(encFs f).length≤44 * f.length:=flat_size f (fun x hx=>by
  have:=may_size (h.hname x hx)
  have:=encT_len x.f0 (by omega)
  have h5:=h.hov x hx
  have:=enc_len (x:=x.f1) ⟨by omega,by omega⟩
  rw [List.length_append];omega)
 unfold encEv
 simp only [List.length_append]
 omega
theorem encV_size {e:S29} (h:mayV e=0):(encV e).length≤1010:=by
 have h1:=enc_len (x:=1) ⟨by decide,by decide⟩
 have h0:=enc_len (x:=0) ⟨by decide,by decide⟩
 unfold encV
 by_cases hn:noV e=true
 ·rw [if_pos hn];omega
 ·rw [if_neg hn,List.length_append]
  have:=encEv_size (mayV_ok h hn)
  omega
theorem encW_size {q:List S96} (h:mayW q=0):(encW q).length≤2010:=by
 have h1:=enc_len (x:=1) ⟨by decide,by decide⟩
 have h0:=enc_len (x:=0) ⟨by decide,by decide⟩
 unfold encW
 by_cases hn:q.length=0
 ·rw [if_pos hn];omega
 ·rw [if_neg hn,List.length_append]
  have:=encQ_size (mayW_ok h hn)
  omega
theorem encS_size {t:S34} (h:OkS t):(encS t).length≤3070+t.f4.size:=by
 have h0:=enc_len h.k0
 have h1:=enc_len h.k1
 have h2:=enc_len h.k2
 have h3:=enc_len h.k3
 have h4:=encT_len t.f4 h.k4
 have h5:=encV_size h.hv
 have h6:=encW_size h.hq
 unfold encS encK
 simp only [List.length_append]
 omega
theorem encV_bytes (e:S29):isBytes (encV e):=by
 unfold encV
 split
 ·exact enc_bytes _
 ·exact isBytes_append.2 ⟨enc_bytes _,encEv_bytes _ _ _ _⟩
theorem encW_bytes (q:List S96):isBytes (encW q):=by
 unfold encW
 split
 ·exact enc_bytes _
 ·exact isBytes_append.2 ⟨enc_bytes _,encQ_bytes _⟩
theorem encT_isBytes (s:ByteArray):isBytes (encT (bytesOf s)):=isBytes_append.2 ⟨enc_bytes _,bytesOf_isBytes _⟩
theorem encK_bytes (t:S34):isBytes (encK t):=isBytes_append.2 ⟨enc_bytes _,isBytes_append.2 ⟨enc_bytes _,isBytes_append.2 ⟨enc_bytes _,isBytes_append.2 ⟨enc_bytes _,encT_isBytes _⟩⟩⟩⟩
theorem encS_bytes (t:S34):isBytes (encS t):=isBytes_append.2 ⟨encK_bytes _,isBytes_append.2 ⟨encV_bytes _,encW_bytes _⟩⟩
theorem nil_bytes:isBytes []:=fun c hc=>by cases hc
def takeV (l:List Int) (b:Bool):S29 × Int × List Int × Bool:=if numOf l=1 then takeE (aft l) (badOf l b) else (z29,0,aft l,badOf l b)
def takeW (l:List Int) (b:Bool):List S96 × Int × List Int × Bool:=if numOf l=1 then takeQ (aft l) (badOf l b) else ([],0,aft l,badOf l b)
def headA (l:List Int):List Int:=aftT (aft (aft (aft (aft l))))
def headB (l:List Int):Bool:=badT (aft (aft (aft (aft l)))) (badOf (aft (aft (aft l))) (badOf (aft (aft l)) (badOf (aft l) (badOf l false))))
def stepOf (l:List Int) (e:S29) (q:List S96):S34:=⟨numOf l,numOf (aft l),numOf (aft (aft l)),numOf (aft (aft (aft l))),textOf (aft (aft (aft (aft l)))),e,⟨q⟩⟩
def takeT (l:List Int):S34 × Int × Int × List Int × Bool:=
 (stepOf l (takeV (headA l) (headB l)).1 (takeW (takeV (headA l) (headB l)).2.2.1 (takeV (headA l) (headB l)).2.2.2).1,(takeV (headA l) (headB l)).2.1,(takeW (takeV (headA l) (headB l)).2.2.1 (takeV (headA l) (headB l)).2.2.2).2.1,(takeW (takeV (headA l) (headB l)).2.2.1 (takeV (headA l) (headB l)).2.2.2).2.2)
def takeS (l:List Int):S34 × Int:=
 if (takeT l).2.2.2.2=true∨(takeT l).2.1≠0∨(takeT l).2.2.1≠0∨(putS (takeT l).1).2≠0∨(putS (takeT l).1).1≠l then (z34,240) else ((takeT l).1,0)
theorem takeV_enc {e:S29} (h:mayV e=0) (r:List Int):takeV (encV e++r) false=(e,0,r,false):=by
 unfold takeV encV
 by_cases h0:noV e=true
 ·rw [if_pos h0]
  obtain ⟨a1,a2,a3⟩:=numOf_enc (x:=0) ⟨by decide,by decide⟩ r false
  rw [a1,a2,a3,if_neg (by decide),(noV_iff e).1 h0]
 ·rw [if_neg h0]
  obtain ⟨a1,a2,a3⟩:=numOf_enc (x:=1) ⟨by decide,by decide⟩ (encEv e.f0 e.f1 e.f2 e.f3++r) false
  rw [List.append_assoc,a1,a2,a3,if_pos rfl,takeE_enc (mayV_ok h h0) r]
theorem takeW_enc {q:List S96} (h:mayW q=0) (r:List Int):takeW (encW q++r) false=(q,0,r,false):=by
 unfold takeW encW
 by_cases h0:q.length=0
 ·rw [if_pos h0]
  obtain ⟨a1,a2,a3⟩:=numOf_enc (x:=0) ⟨by decide,by decide⟩ r false
  rw [a1,a2,a3,if_neg (by decide),List.eq_nil_of_length_eq_zero h0]
 ·rw [if_neg h0]
  obtain ⟨a1,a2,a3⟩:=numOf_enc (x:=1) ⟨by decide,by decide⟩ (encQ q++r) false
  rw [List.append_assoc,a1,a2,a3,if_pos rfl,takeQ_enc (mayW_ok h h0) r]
theorem takeT_enc {t:S34} (h:OkS t) (r:List Int):takeT (encS t++r)=(t,0,0,r,false):=by
 obtain ⟨t0,t1,t2,t3,t4,t5,⟨t6⟩⟩:=t
 obtain ⟨k0,k1,k2,k3,k4,hv,hq⟩:=h
 simp only at k0 k1 k2 k3 k4 hv hq
 have e:encS ⟨t0,t1,t2,t3,t4,t5,⟨t6⟩⟩++r=enc t0++(enc t1++(enc t2++(enc t3++(encT (bytesOf t4)++(encV t5++(encW t6++r)))))):=by
  unfold encS encK
  simp only [List.append_assoc]
 rw [e]
 obtain ⟨a1,a2,a3⟩:=numOf_enc k0 (enc t1++(enc t2++(enc t3++(encT (bytesOf t4)++(encV t5++(encW t6++r)))))) false
 obtain ⟨b1,b2,b3⟩:=numOf_enc k1 (enc t2++(enc t3++(encT (bytesOf t4)++(encV t5++(encW t6++r))))) false
 obtain ⟨c1,c2,c3⟩:=numOf_enc k2 (enc t3++(encT (bytesOf t4)++(encV t5++(encW t6++r)))) false
 obtain ⟨d1,d2,d3⟩:=numOf_enc k3 (encT (bytesOf t4)++(encV t5++(encW t6++r))) false
 obtain ⟨f1,f2,f3⟩:=textOf_enc k4 (encV t5++(encW t6++r)) false
 have hv':=takeV_enc hv (encW t6++r)
 have hw':=takeW_enc hq r
 unfold takeT headA headB stepOf
 rw [a1,a2,a3,b1,b2,b3,c1,c2,c3,d1,d2,d3,f1,f2,f3,hv']
 simp only
 rw [hw']
theorem takeS_enc {t:S34} (h:OkS t):takeS (encS t)=(t,0):=by
 have h1:=takeT_enc h []
 rw [List.append_nil] at h1
 unfold takeS
 rw [h1]
 simp only
 rw [putS_ok h.hv h.hq,if_neg (by simp)]
theorem takeT_ok {l:List Int} (hb:isBytes l) (hl:l.length≤9223372036854775807):i64 (takeT l).1.f0∧i64 (takeT l).1.f1∧i64 (takeT l).1.f2∧i64 (takeT l).1.f3∧(takeT l).1.f4.size≤l.length:=by
 have y1:=aft_bytes hb
 have y2:=aft_bytes y1
 have y3:=aft_bytes y2
 have y4:=aft_bytes y3
 have z1:=aft_len l hb
 have z2:=aft_len _ y1
 have z3:=aft_len _ y2
 have z4:=aft_len _ y3
 refine ⟨numOf_i64 hb,numOf_i64 y1,numOf_i64 y2,numOf_i64 y3,?_⟩
 have:=textOf_size _ y4
 show (textOf (aft (aft (aft (aft l))))).size≤l.length
 omega
theorem takeS_code (l:List Int):takeS l=(z34,240)∨∃ t,takeS l=(t,0):=by
 unfold takeS
 split
 ·exact .inl rfl
 ·exact .inr ⟨_,rfl⟩
theorem takeS_good {l:List Int} (hb:isBytes l) (hl:l.length≤9223372036854775807) {t:S34} (h:takeS l=(t,0)):OkS t∧l=encS t:=by
 unfold takeS at h
 split at h
 ·simp at h
 ·rename_i hc
  simp only [not_or,ne_eq,Decidable.not_not] at hc
  obtain ⟨-,-,-,h2,h3⟩:=hc
  obtain ⟨g1,g2,g3,g4,g5⟩:=takeT_ok hb hl
  obtain ⟨hv,hq,hp⟩:=putS_inv h2
  obtain rfl:(takeT l).1=t:=congrArg (fun z=>z.1) h
  rw [hp] at h3
  exact ⟨⟨g1,g2,g3,g4,by omega,hv,hq⟩,h3.symm⟩
theorem OkE.fits {s t:ByteArray} {a:List ByteArray} {f:List S90} (h:OkE s t a f):fitE s t a f=true∧a.length≤6:=by
 obtain ⟨h1,h2,h3,h4,h5,h6⟩:=h.sizes
 have:=h.hf4
 exact ⟨fitE_iff.2 ⟨h1,h2,h3,fun x hx=>(h4 x hx).1,by omega⟩,h.ht6⟩
theorem noV_fit {e:S29} (h:noV e=true):fitE e.f0 e.f1 e.f2 e.f3=true∧e.f2.length≤6:=by
 rw [(noV_iff e).1 h]
 exact ⟨rfl,by decide⟩
theorem mayV_fit {e:S29} (h:mayV e=0):fitE e.f0 e.f1 e.f2 e.f3=true∧e.f2.length≤6:=by
 by_cases hn:noV e=true
 ·exact noV_fit hn
 ·exact (mayV_ok h hn).fits
theorem mayW_fit {q:List S96} (h:mayW q=0):q.all fitC=true:=by
 by_cases hn:q.length=0
 ·rw [List.eq_nil_of_length_eq_zero hn];rfl
 ·exact (mayW_ok h hn).fit
theorem mayV_of {e:S29} (h:OkE e.f0 e.f1 e.f2 e.f3):mayV e=0:=by
 unfold mayV
 split
 ·rfl
 ·exact (okE_iff _ _ _ _).2 h
theorem mayV_zero:mayV z29=0:=by
 unfold mayV
 rw [if_pos ((noV_iff _).2 rfl)]
theorem mayW_of {q:List S96} (h:OkQ q):mayW q=0:=by
 unfold mayW
 split
 ·rfl
 ·exact mayQ_zero.2 h
theorem takeV_may (l:List Int) (b:Bool) (hb:isBytes l):mayV (takeV l b).1=0∧((takeV l b).2.1=0∨(takeV l b).2.1=2):=by
 unfold takeV
 split
 ·rcases takeE_code (aft l) (badOf l b) with h | ⟨h,h2⟩
  ·obtain ⟨g1,g2,g3,g4⟩:=takeE_good (aft_bytes hb) (x:=(takeE (aft l) (badOf l b)).1) (l':=(takeE (aft l) (badOf l b)).2.2.1) (b':=(takeE (aft l) (badOf l b)).2.2.2) (by rw [←h])
   exact ⟨mayV_of g3,.inl h⟩
  ·rw [h2];exact ⟨mayV_zero,.inr h⟩
 ·exact ⟨mayV_zero,.inl rfl⟩
theorem takeW_may (l:List Int) (b:Bool) (hb:isBytes l):mayW (takeW l b).1=0∧((takeW l b).2.1=0∨(takeW l b).2.1=2):=by
 unfold takeW
 split
 ·obtain ⟨k1,k2,k3,k4,k5⟩:=takeQ_left _ (badOf l b) (aft_bytes hb) (Nat.le_refl _)
  rcases k5 with h | ⟨h,h2⟩
  ·obtain ⟨g1,g2,g3,g4,g5⟩:=takeQ_good (aft_bytes hb) (q:=(takeQ (aft l) (badOf l b)).1) (l':=(takeQ (aft l) (badOf l b)).2.2.1) (b':=(takeQ (aft l) (badOf l b)).2.2.2) (by rw [←h])
   exact ⟨mayW_of g4,.inl h⟩
  ·rw [h2];exact ⟨rfl,.inr h⟩
 ·exact ⟨rfl,.inl rfl⟩
theorem takeFs_bytes (l:List Int) (b:Bool) (hb:isBytes l) (n:Nat):isBytes (takeFs n l b).2.1∧(takeFs n l b).2.1.length≤l.length:=⟨(takeFs_left l b hb n).1,(takeFs_left l b hb n).2.1⟩
theorem takeE_left (l:List Int) (b:Bool) (hb:isBytes l):isBytes (takeE l b).2.2.1∧(takeE l b).2.2.1.length≤l.length:=by
 have y1:=aftT_bytes hb
 have y2:=aftT_bytes y1
 have y3:=aft_bytes y2
 have z1:=aftT_len l hb
 have z2:=aftT_len _ y1
 have z3:=aft_len _ y2
 unfold takeE
 simp only
 split
 ·exact ⟨y3,by simp only;omega⟩
 ·obtain ⟨w1,w2,_⟩:=takeTs_left (aft (aftT (aftT l))) (badOf (aftT (aftT l)) (badT (aftT l) (badT l b))) y3 (numOf (aftT (aftT l))).toNat
  have x1:=aft_bytes w1
  have x2:=aft_len _ w1
  split
  ·exact ⟨x1,by simp only;omega⟩
  ·obtain ⟨v1,v2⟩:=takeFs_bytes _ (badOf (takeTs (numOf (aftT (aftT l))).toNat (aft (aftT (aftT l))) (badOf (aftT (aftT l)) (badT (aftT l) (badT l b)))).2.1 (takeTs (numOf (aftT (aftT l))).toNat (aft (aftT (aftT l))) (badOf (aftT (aftT l)) (badT (aftT l) (badT l b)))).2.2) x1 (numOf (takeTs (numOf (aftT (aftT l))).toNat (aft (aftT (aftT l))) (badOf (aftT (aftT l)) (badT (aftT l) (badT l b)))).2.1).toNat
   split
   ·exact ⟨v1,by simp only;omega⟩
   ·exact ⟨v1,by simp only;omega⟩
theorem takeV_left (l:List Int) (b:Bool) (hb:isBytes l):isBytes (takeV l b).2.2.1∧(takeV l b).2.2.1.length≤l.length:=by
 have y:=aft_bytes hb
 have z:=aft_len l hb
 unfold takeV
 split
 ·obtain ⟨h1,h2⟩:=takeE_left (aft l) (badOf l b) y
  exact ⟨h1,by omega⟩
 ·exact ⟨y,z⟩
theorem headA_bytes {l:List Int} (hb:isBytes l):isBytes (headA l):=aftT_bytes (aft_bytes (aft_bytes (aft_bytes (aft_bytes hb))))
theorem takeT_may {l:List Int} (hb:isBytes l) (hl:l.length≤1000000000):OkS (takeT l).1∧(takeT l).1.f4.size≤1000000000∧((takeT l).2.1=0∨(takeT l).2.1=2)∧((takeT l).2.2.1=0∨(takeT l).2.2.1=2):=by
 obtain ⟨g1,g2,g3,g4,g5⟩:=takeT_ok hb (by omega)
 have y:=headA_bytes hb
 obtain ⟨v1,v2⟩:=takeV_may (headA l) (headB l) y
 obtain ⟨w1,w2⟩:=takeW_may (takeV (headA l) (headB l)).2.2.1 (takeV (headA l) (headB l)).2.2.2 (takeV_left _ _ y).1
 exact ⟨⟨g1,g2,g3,g4,by omega,v1,w1⟩,by omega,v2,w2⟩
theorem takeS_eq {l:List Int} (hb:isBytes l) (hl:l.length≤1000000000):takeS l=if (takeT l).2.2.2.2=true∨(takeT l).2.1≠0∨(takeT l).2.2.1≠0∨encS (takeT l).1≠l then (z34,240) else ((takeT l).1,0):=by
 obtain ⟨g,-,-,-⟩:=takeT_may hb hl
 unfold takeS
 rw [putS_ok g.hv g.hq]
 simp
def dig (n:Int):Int:=if n < 10 then 48+n else 87+n
def hexL (l:List Int):List Int:=l.flatMap fun c=>[dig (c / 16),dig (c % 16)]
def undig (c:Int):Int:=if 48≤c∧c≤57 then c - 48 else if 97≤c∧c≤102 then c - 87 else -1
def unhexL:List Int→Option (List Int)
 | []=>some []
 | [_]=>none
 | a :: b :: r=>if undig a < 0∨undig b < 0 then none else (unhexL r).map fun m=>(undig a * 16+undig b) :: m
def lineS (l:List Int):S34 × Int:=match unhexL l with
 | none=>(z34,240)
 | some b=>takeS b
theorem undig_dig {n:Int} (h0:0≤n) (h1:n < 16):undig (dig n)=n:=by
 unfold undig dig
 by_cases h:n < 10
 ·rw [if_pos h,if_pos (by omega)];omega
 ·rw [if_neg h,if_neg (by omega),if_pos (by omega)];omega
theorem dig_undig {c:Int} (h:¬undig c < 0):dig (undig c)=c∧0≤undig c∧undig c < 16:=by
 unfold undig at h ⊢
 unfold dig
 by_cases h1:48≤c∧c≤57
 ·rw [if_pos h1] at h ⊢
  rw [if_pos (by omega)];omega
 ·rw [if_neg h1] at h ⊢
  by_cases h2:97≤c∧c≤102
  ·rw [if_pos h2] at h ⊢
   rw [if_neg (by omega)];omega
  ·rw [if_neg h2] at h;omega
theorem dig_range {n:Int} (h0:0≤n) (h1:n < 16):48≤dig n∧dig n≤102:=by
 unfold dig
 split <;> omega
theorem hexL_cons (c:Int) (l:List Int):hexL (c :: l)=dig (c / 16) :: dig (c % 16) :: hexL l:=rfl
theorem hexL_append (a b:List Int):hexL (a++b)=hexL a++hexL b:=List.flatMap_append
theorem hexL_len (l:List Int):(hexL l).length=2 * l.length:=by
 induction l with
 | nil=>rfl
 | cons c t ih=>rw [hexL_cons,List.length_cons,List.length_cons,List.length_cons,ih];omega
theorem hexL_mem {l:List Int} (hb:isBytes l):∀ c ∈ hexL l,48≤c∧c≤102:=by
 intro c hc
 unfold hexL at hc
 obtain ⟨x,hx,h⟩:=List.mem_flatMap.1 hc
 have:=hb x hx
 simp only [List.mem_cons,List.not_mem_nil,or_false] at h
 rcases h with rfl | rfl
 ·exact dig_range (by omega) (by omega)
 ·exact dig_range (by omega) (by omega)
theorem hexL_bytes {l:List Int} (hb:isBytes l):isBytes (hexL l):=fun c hc=>by have:=hexL_mem hb c hc;omega
theorem unhex_hex:∀ l:List Int,isBytes l→unhexL (hexL l)=some l
 | [],_=>rfl
 | c :: t,hb=>by
  have hc:=hb c (by simp)
  rw [hexL_cons,unhexL,undig_dig (by omega) (by omega),undig_dig (by omega) (by omega),if_neg (by omega),unhex_hex t (fun x hx=>hb x (by simp [hx]))]
  simp only [Option.map_some,Option.some.injEq,List.cons.injEq,and_true]
  omega
theorem unhex_sound:∀ (n:Nat) (l m:List Int),l.length≤n→unhexL l=some m→l=hexL m∧isBytes m
 | _,[],m,_,h=>by
  simp only [unhexL,Option.some.injEq] at h
  subst h
  exact ⟨rfl,nil_bytes⟩
 | _,[_],m,_,h=>by simp [unhexL] at h
 | 0,a :: b :: r,m,hn,h=>by simp at hn
 | n+1,a :: b :: r,m,hn,h=>by
  rw [unhexL] at h
  by_cases hc:undig a < 0∨undig b < 0
  ·rw [if_pos hc] at h;cases h
  ·rw [if_neg hc] at h
   rw [not_or] at hc
   obtain ⟨m',hm,rfl⟩:=Option.map_eq_some_iff.1 h
   obtain ⟨e,hb⟩:=unhex_sound n r m' (by simp only [List.length_cons] at hn;omega) hm
   obtain ⟨a1,a2,a3⟩:=dig_undig hc.1
   obtain ⟨b1,b2,b3⟩:=dig_undig hc.2
   refine ⟨?_,?_⟩
   ·rw [hexL_cons,←e,show (undig a * 16+undig b) / 16=undig a by omega,show (undig a * 16+undig b) % 16=undig b by omega,a1,b1]
   ·intro x hx
    rcases List.mem_cons.1 hx with rfl | hx
    ·omega
    ·exact hb x hx
theorem unhex_len {l m:List Int} (h:unhexL l=some m):l.length=2 * m.length:=by
 rw [(unhex_sound l.length l m (Nat.le_refl _) h).1,hexL_len]
theorem lineS_good {l:List Int} (hl:l.length≤9223372036854775807) {t:S34} (h:lineS l=(t,0)):OkS t∧l=hexL (encS t):=by
 unfold lineS at h
 split at h
 ·simp at h
 ·rename_i b hb
  obtain ⟨e,hby⟩:=unhex_sound _ _ _ (Nat.le_refl _) hb
  have:=unhex_len hb
  obtain ⟨g1,g2⟩:=takeS_good hby (by omega) h
  exact ⟨g1,by rw [e,g2]⟩
def lineT (t:S34):List Int:=hexL (encS t)++[10]
def printL (l:List S34):List Int:=l.flatMap lineT
def firstS:List S34→Int
 | []=>0
 | t :: r=>if (putS t).2=0 then firstS r else (putS t).2
def printS (l:List S34):List Int × Int:=if 2048 < l.length then ([],3) else if firstS l≠0 then ([],firstS l) else (printL l,0)
def headN (s:List Int):List Int:=s.takeWhile (fun c=>c != 10)
def parseF:Nat→List Int→List S34→List S34 × Int × Int
 | 0,_,acc=>(acc,0,0)
 | n+1,s,acc=>
  if s=[] then (acc,0,0)
  else if (headN s).length=s.length∨(lineS (headN s)).2≠0 then ([],(acc.length:Int)+1,240)
  else parseF n (s.drop ((headN s).length+1)) (acc++[(lineS (headN s)).1])
def parseS (s:List Int):List S34 × Int × Int:=if 65536 < s.length∨2048 < s.count 10 then ([],0,3) else parseF (s.length+1) s []
theorem headN_line {a:List Int} (h:(10:Int) ∉ a) (r:List Int):headN (a++10 :: r)=a:=by
 unfold headN
 induction a with
 | nil=>simp
 | cons c t ih=>
  have hc:c≠10:=fun e=>h (by simp [e])
  rw [List.cons_append,List.takeWhile_cons,if_pos (by simpa using hc),ih (fun hm=>h (by simp [hm]))]
theorem headN_le (s:List Int):(headN s).length≤s.length:=(List.takeWhile_sublist _).length_le
theorem headN_cut:∀ s:List Int,(headN s).length≠s.length→s=headN s++10 :: s.drop ((headN s).length+1)
 | [],h=>absurd rfl h
 | c :: t,h=>by
  unfold headN at h ⊢
  by_cases hc:c=10
  ·subst hc
   rw [List.takeWhile_cons,if_neg (by simp)];rfl
  ·rw [List.takeWhile_cons,if_pos (by simpa using hc)] at h ⊢
   have ih:=headN_cut t (fun e=>h (by rw [List.length_cons,List.length_cons];exact congrArg (· + 1) e))
   unfold headN at ih
   rw [List.cons_append,List.length_cons,List.drop_succ_cons,←ih]
theorem hex_no10 {l:List Int} (hb:isBytes l):(10:Int) ∉ hexL l:=fun h=>by have:=hexL_mem hb 10 h;omega
theorem lineT_len (t:S34):(lineT t).length=2 * (encS t).length+1:=by
 unfold lineT
 rw [List.length_append,hexL_len];rfl
theorem parseF_nil (n:Nat) (acc:List S34):parseF n [] acc=(acc,0,0):=by
 cases n with
 | zero=>rfl
 | succ n=>rw [parseF,if_pos rfl]
theorem parseF_sound:∀ (n:Nat) (s:List Int) (acc:List S34),s.length < n→s.length≤9223372036854775807→(∃ l,parseF n s acc=(acc++l,0,0)∧s=printL l∧∀ t ∈ l,OkS t)∨∃ k,parseF n s acc=([],k,240)
 | 0,s,acc,h,_=>by omega
 | n+1,s,acc,h,hs=>by
  rw [parseF]
  by_cases h0:s=[]
  ·rw [if_pos h0]
   exact .inl ⟨[],by rw [List.append_nil],by rw [h0];rfl,fun t ht=>by cases ht⟩
  ·rw [if_neg h0]
   by_cases h1:(headN s).length=s.length∨(lineS (headN s)).2≠0
   ·rw [if_pos h1];exact .inr ⟨_,rfl⟩
   ·rw [if_neg h1]
    rw [not_or] at h1
    obtain ⟨h1,h2⟩:=h1
    have h2:(lineS (headN s)).2=0:=by omega
    have hle:=headN_le s
    have hcut:=headN_cut s h1
    obtain ⟨g1,g2⟩:=lineS_good (l:=headN s) (t:=(lineS (headN s)).1) (by omega) (by rw [←h2])
    rcases parseF_sound n (s.drop ((headN s).length+1)) (acc++[(lineS (headN s)).1]) (by rw [List.length_drop];omega) (by rw [List.length_drop];omega) with ⟨l,e1,e2,e3⟩ | ⟨k,e1⟩
    ·refine .inl ⟨(lineS (headN s)).1 :: l,by rw [e1,List.append_assoc];rfl,?_,?_⟩
     ·have e4:printL ((lineS (headN s)).1 :: l)=hexL (encS (lineS (headN s)).1)++10 :: printL l:=by unfold printL lineT;rw [List.flatMap_cons,List.append_assoc];rfl
      rw [e4,←g2,←e2];exact hcut
     ·intro t ht
      rcases List.mem_cons.1 ht with rfl | ht
      ·exact g1
      ·exact e3 t ht
    ·exact .inr ⟨k,e1⟩
theorem count_print:∀ l:List S34,(printL l).count 10=l.length
 | []=>rfl
 | t :: m=>by
  have h:=count_print m
  unfold printL at h ⊢
  rw [List.flatMap_cons,List.count_append,h]
  unfold lineT
  rw [List.count_append,List.count_eq_zero_of_not_mem (hex_no10 (encS_bytes t)),List.length_cons]
  simp;omega
theorem lineT_bytes (t:S34):isBytes (lineT t):=isBytes_append.2 ⟨hexL_bytes (encS_bytes t),fun c hc=>by rw [List.mem_singleton.1 hc];omega⟩
theorem printL_bytes (l:List S34):isBytes (printL l):=flat_bytes lineT_bytes l
theorem firstS_zero {l:List S34}:firstS l=0↔∀ t ∈ l,(putS t).2=0:=by
 induction l with
 | nil=>simp [firstS]
 | cons t m ih=>
  unfold firstS
  by_cases h:(putS t).2=0
  ·rw [if_pos h,ih];simp [h]
  ·rw [if_neg h];simp [h]
theorem dig_ix (n:Int) (h0:0≤n) (h1:n < 16) (hp:n.toNat < (⟨#[48,49,50,51,52,53,54,55,56,57,97,98,99,100,101,102]⟩:ByteArray).size):(((⟨#[48,49,50,51,52,53,54,55,56,57,97,98,99,100,101,102]⟩:ByteArray)[n.toNat]'hp).toNat:Int)=dig n:=by
 obtain ⟨k,rfl⟩:=Int.eq_ofNat_of_zero_le h0
 have hk:k=0∨k=1∨k=2∨k=3∨k=4∨k=5∨k=6∨k=7∨k=8∨k=9∨k=10∨k=11∨k=12∨k=13∨k=14∨k=15:=by omega
 rcases hk with rfl | rfl | rfl | rfl | rfl | rfl | rfl | rfl | rfl | rfl | rfl | rfl | rfl | rfl | rfl | rfl <;> rfl
set_option maxRecDepth 100000 in
set_option maxHeartbeats 4000000 in
theorem written_calls (A:Option Addr) (c:Nat) (l:List Int) (w:World) (hC:Kd.C (Kd.int .u8) w A l.length l) (hc:l.length≤c) (hb:isBytes l) (hl:l.length≤10000000000) :
  Calls Tryz.prog 41 #[.slice A l.length c] w fun e w'=>e = .returned (.string (strOfNums (hexL l)))∧Below w.heap.size w w':=by
 have HC:=Ak hC
 have HBY:=Ak hb
 clear hC hc hb
 have hu:=Tryz.underlying74
 go_enter Tryz.func41,Tryz.ntmps41
 go_upto_region 3 with (((with_reducible refine gate_dst (N:=3) rfl ?_);(try (refine gate_guard (by rfl) ?_;dsimp only));refine box_event ?hg (N:=3) ?hd (cs:=#[.pointer none,.slice none 0 0]) (t:=74) ?hr ?_;(case hd=>rfl);(case hg=>rfl);(case hr=>(go_simp;done));intro B hg_ w1 hbox_ hb_;have HX:=Ak hbox_;have HXN:=Ak hg_;have HXB:=Ak hb_;clear hbox_ hg_ hb_))
 obtain ⟨N,hN⟩:∃ N,N=w1.heap.size:=⟨_,rfl⟩
 have HB1:=Ak (Bld.start HX.out hN)
 have HNB:=Ak (show w.heap.size≤N∧w.heap.size≤B by have:=HXN.out;have:=HXB.out.size;omega)
 clear HX hN HXN
 go_loopg [8] l.length (fun gk v8 w'=>∃ i:Nat,v8 = .int .i64 (i:Int)∧Aside0 (i+gk=l.length)∧Aside0 (Bld N B (hexL (l.take i)) w')∧Aside0 (Low N B w1 w'))
 case atStart=>exact ⟨0,rfl,⟨by omega⟩,HB1,⟨Low.refl⟩⟩
 case round=>
  clear HB1
  obtain ⟨i,rfl,HE,HB,HL⟩:=hrel
  have HBW:=Ak (HXB.out.trans (HL.out.below HNB.out.1 HNB.out.2))
  by_cases hlt:i < l.length
  ·have hb1:decide ((i:Int) < (l.length:Int))=true:=decide_eq_true (by omega)
   obtain ⟨ad,e_,hx⟩:=Kd.at_int (Kd.C_below HC.out HBW.out) (i:Int) (by omega) (by omega)
   cases e_
   rw [Int.toNat_natCast] at hx
   have hft:=take_snoc l i hlt
   have hby:=HBY.out (l.getD i 0) (getD_mem' hlt _)
   obtain ⟨y,hyd⟩:∃ y,y=rd l (i:Int):=⟨_,rfl⟩
   have hyd':l.getD i 0=y:=by rw [hyd];rfl
   rw [←hyd] at hx
   rw [hyd'] at hft hby
   have HFT:=Ak hft
   obtain ⟨hy0,hy1⟩:=hby
   clear hyd hyd' hft
   go_wp2_with fail
   have hhz:=hexL_len (l.take i)
   rw [List.length_take] at hhz
   refine (writeByte_calls N B _ _ wr (by omega) HB.out).mono ?_
   rintro e w2 ⟨⟨v2,rfl⟩,hb2,hl2⟩
   rw [dig_ix _ (by omega) (by omega)] at hb2
   have HB2:=Ak hb2
   have HL2:=Ak (HL.out.trans hl2)
   clear hb2 hl2 HB HL HBW hx
   go_wp2_with fail
   refine (writeByte_calls N B _ _ w2 (by rw [List.length_append,List.length_singleton];omega) HB2.out).mono ?_
   rintro e w3 ⟨⟨v3,rfl⟩,hb3,hl3⟩
   rw [dig_ix _ (by omega) (by omega)] at hb3
   have HB3:Aside0 (Bld N B (hexL (l.take (i+1))) w3):=⟨by
    rw [HFT.out,hexL_append]
    rw [List.append_assoc] at hb3
    exact hb3⟩
   have HL3:=Ak (HL2.out.trans hl3)
   clear hb3 hl3 HB2 HL2
   go_wp2_with fail
   go_roundg (l.length - (i+1))
   case measure=>have:=HE.out;omega
   case rel=>exact ⟨i+1,by go_num,⟨by have:=HE.out;omega⟩,HB3,HL3⟩
  ·have hb1:decide ((i:Int) < (l.length:Int))=false:=decide_eq_false (by omega)
   have HB2:Aside0 (Bld N B (hexL l) wr):=⟨by have:=HB.out;rwa [List.take_of_length_le (by omega)] at this⟩
   clear HB
   go_wp2_with fail
   refine (string_calls N B _ wr (hexL_bytes HBY.out) HB2.out).mono ?_
   rintro e w2 ⟨rfl,hb2⟩
   have HB3:=Ak (HBW.out.trans (hb2.mono HNB.out.2))
   clear hb2
   go_wp2
   go_ret
   exact ⟨rfl,HB3.out⟩
structure Lv (w w':World) (P:Nat→Prop) (g:Nat) (n:Nat) (q:List Int × Bool):Prop where
 rd:Rd 85 P w' g q.1 q.2
 by_:isBytes q.1
 len:q.1.length≤n
 below:Below g w w'
 keep:KeepBut w w' g none
theorem Lv.trans {w w1 w2:World} {P:Nat→Prop} {g n n1:Nat} {q q1:List Int × Bool} (h:Lv w w1 P g n q) (k:Lv w1 w2 P g n1 q1) (hn:n1≤n):Lv w w2 P g n q1:=⟨k.rd,k.by_,Nat.le_trans k.len hn,h.below.trans k.below,h.keep.trans k.keep (.inl rfl)⟩
theorem Lv.up {w w1 w2:World} {P:Nat→Prop} {g n:Nat} {q:List Int × Bool} (h:Lv w w1 P g n q) (hb:Below w1.heap.size w1 w2):Lv w w2 P g n q:=⟨h.rd.below hb,h.by_,h.len,h.below.trans (hb.mono (Nat.le_of_lt h.rd.lt)),h.keep.trans (KeepBut.of_below hb g none) (.inl rfl)⟩
theorem Lv.set {w w1:World} {P:Nat→Prop} {g n:Nat} {q:List Int × Bool} (h:Lv w w1 P g n q) (hg:g < w.heap.size) (hP:∀ k,P k→k < w.heap.size) {Q:Nat} (hQ:w.heap.size≤Q) (i:Nat) (u:Value):Lv w (w1.setCell ⟨Q,i,none⟩ u) P g n q:=
 ⟨h.rd.kept ((KeepBut.refl w1 Q none).set_ i _) (by omega) (fun hp=>by have:=hP Q hp;omega),h.by_,h.len,h.below.setCell (p:=⟨Q,i,none⟩) (by show g≤Q;omega) _,keep_far h.keep hQ _⟩
theorem Lv.grown {w w1 w2:World} {P:Nat→Prop} {g n:Nat} {q:List Int × Bool} {v:Value} (h:Lv w w1 P g n q) (hg:g < w.heap.size) (hP:∀ k,P k→k < w.heap.size) (hgr:w1.grownBy w2 v.ownBlock) (hv:∀ k,v.ownBlock=some k→w.heap.size≤k) (hb:Below g w w2):Lv w w2 P g n q:=by
 refine ⟨h.rd.grown hgr (ne_base hv hg) (fun k hk=>ne_base hv (hP k hk)),h.by_,h.len,hb,?_⟩
 refine ⟨Nat.le_trans h.keep.1 hgr.size,fun i hi hne hr=>?_⟩
 rw [←h.keep.2 i hi hne hr]
 exact hgr.block i (Nat.lt_of_lt_of_le hi h.keep.1) (fun e=>by have:=hv i e.symm;omega)
theorem takeN_ok {α:Type} {step:Stp α} {n:Nat} {l:List Int} {b:Bool} {acc:List α} {x:α} {l':List Int} {b':Bool} (h:step l b=((x,true),l',b')) (hb:b'=false):takeN step (n+1) l b acc=takeN step n l' b' (acc++[x]):=by
 rw [takeN,h,if_neg (by rw [hb];simp)]
theorem takeN_no {α:Type} {step:Stp α} {n:Nat} {l:List Int} {b:Bool} {acc:List α} {x:α} {ok:Bool} {l':List Int} {b':Bool} (h:step l b=((x,ok),l',b')) (hb:ok=false∨b'=true):takeN step (n+1) l b acc=(([],false),l',b'):=by
 rw [takeN,h,if_pos hb]
set_option maxRecDepth 100000 in
theorem takenStr_calls (step:Stp ByteArray) (most:Int) (G:Nat) (q1:Value) (P:Nat→Prop) (w:World) (g:Nat) (l:List Int) (bad:Bool) (hI:Rd 85 P w g l bad) (hb:isBytes l) (hP:∀ k,P k→k < w.heap.size) (hm0:0≤most) (hm1:most≤1000)
  (hent:∀ (xs:Array Value) (W:World),(callFunc G xs).run Tryz.prog W = .ok (.enter G xs) W)
  (hs:∀ w1 l1 b1,Lv w w1 P g l.length (l1,b1)→Calls Tryz.prog G #[q1] w1 fun e w2=>e = .returned (.tuple #[.string (step l1 b1).1.1,.bool (step l1 b1).1.2])∧Lv w1 w2 P g l1.length (step l1 b1).2)
  (r:(List ByteArray × Bool) × List Int × Bool) (hr:takeL step most l bad=r) :
  Calls Tryz.prog 56 #[.pointer (some ⟨g,0,none⟩),.int .i64 most,.func (.func G) #[] #[q1]] w fun e w'=>
   ∃ v,e = .returned (.tuple #[v,.bool r.1.2])∧Kd.string.R 9 w' w.heap.size (fun _=>True) v r.1.1∧Lv w w' P g l.length r.2:=by
 obtain ⟨x,hx⟩:∃ x,numOf l=x:=⟨_,rfl⟩
 have hri:=numOf_i64 hb
 rw [hx] at hri
 obtain ⟨hr1,hr2⟩:=hri
 unfold takeL at hr
 rw [hx] at hr
 have HN:=Ak (num_calls' x P w g l bad hI hb hx)
 have HAB:=Ak (And.intro (aft_bytes hb) (aft_len l hb))
 have HS:=Ak hs
 have HPP:=Ak hP
 have HGW:=Ak hI.lt
 have HR:=Ak hr
 clear hI hb hs hx hP hr
 by_cases hneg:x < 0
 ·have hd:decide (x < 0)=true:=decide_eq_true hneg
  go_enter Tryz.func56,Tryz.ntmps56
  go_wp2_with fail
  refine HN.out.mono ?_
  rintro e w1 ⟨rfl,hI1,hb1,hk1⟩
  have n1_:=Ak (Lv.mk (n:=l.length) (q:=(aft l,badOf l bad)) hI1 HAB.out.1 HAB.out.2 hb1 hk1)
  clear hI1 hb1 hk1
  go_wp2
  go_ret2
  rw [←HR.out,if_pos (.inl hneg)]
  exact ⟨_,rfl,Kd.R_nil _ _ _ _ _,n1_.out⟩
 have hd:decide (x < 0)=false:=decide_eq_false hneg
 by_cases hbig:most < x
 ·have hd2:decide (most < x)=true:=decide_eq_true hbig
  go_enter Tryz.func56,Tryz.ntmps56
  go_wp2_with fail
  refine HN.out.mono ?_
  rintro e w1 ⟨rfl,hI1,hb1,hk1⟩
  have n1_:=Ak (Lv.mk (n:=l.length) (q:=(aft l,badOf l bad)) hI1 HAB.out.1 HAB.out.2 hb1 hk1)
  clear hI1 hb1 hk1
  go_wp2
  go_ret2
  rw [←HR.out,if_pos (.inr hbig)]
  exact ⟨_,rfl,Kd.R_nil _ _ _ _ _,n1_.out⟩
 have hd2:decide (most < x)=false:=decide_eq_false hbig
 obtain ⟨n,rfl⟩:=Int.eq_ofNat_of_zero_le (Int.not_lt.1 hneg)
 have HR2:=Ak ((if_neg (by omega:¬((n:Int) < 0∨most < (n:Int)))).symm.trans HR.out)
 rw [Int.toNat_natCast] at HR2
 clear HR
 go_enter Tryz.func56,Tryz.ntmps56
 go_wp2_with fail
 refine HN.out.mono ?_
 rintro e w1 ⟨rfl,hI1,hb1,hk1⟩
 have n1_:=Ak (Lv.mk (n:=l.length) (q:=(aft l,badOf l bad)) hI1 HAB.out.1 HAB.out.2 hb1 hk1)
 clear hI1 hb1 hk1 HN
 go_wp2
 go_loopg [9,22] n (fun k v9 v22 w'=>∃ (i:Nat) (l1:List Int) (b1:Bool) (acc:List ByteArray),v22 = .int .i64 (i:Int)∧Aside0 (i+k=n)∧Aside0 (acc.length=i)∧Aside0 (takeN step k l1 b1 acc=r)∧Aside0 (Kd.string.R 9 w' w.heap.size (fun _=>True) v9 acc)∧Aside0 (Lv w w' P g l.length (l1,b1)))
 case atStart=>exact ⟨0,_,_,[],rfl,⟨by omega⟩,⟨rfl⟩,HR2,⟨Kd.R_nil _ _ _ _ _⟩,n1_⟩
 case round=>
  clear HR2 n1_
  obtain ⟨i,l1,b1,acc,rfl,HE,HAL,HR,HO,HL⟩:=hrel
  obtain ⟨A9,c9,e9⟩:=Kd.R_slice HO.out
  subst e9
  by_cases hlt:i < n
  ·have hb1:decide ((i:Int) < (n:Int))=true:=decide_eq_true (by omega)
   obtain ⟨k,rfl⟩:∃ m,gk=m+1:=⟨gk - 1,by have:=HE.out;omega⟩
   have HC:=Ak (HS.out wr l1 b1 HL.out)
   obtain ⟨⟨⟨y,ok⟩,l2,b2⟩,hq⟩:∃ q,step l1 b1=q:=⟨_,rfl⟩
   rw [hq] at HC
   have HQ:=Ak hq
   clear hq
   go_wp2_with fail
   refine HC.out.mono ?_
   rintro e w2 ⟨rfl,hl2⟩
   have HO2:=Ak (R_off' HO.out HGW.out hl2.keep)
   have HL2:=Ak (HL.out.trans hl2 HL.out.len)
   clear hl2 HO HL HC
   cases ok with
   | false=>
    have HR3:=Ak ((takeN_no HQ.out (.inl rfl)).symm.trans HR.out)
    clear HQ HR
    go_wp2_with fail
    go_ret2
    rw [←HR3.out]
    exact ⟨_,rfl,Kd.R_nil _ _ _ _ _,HL2.out⟩
   | true=>
    go_wp2_with fail
    refine (bad_calls P w2 g l2 b2 HL2.out.rd).mono ?_
    rintro e w3 ⟨rfl,rfl⟩
    cases b2 with
    | true=>
     have HR3:=Ak ((takeN_no HQ.out (.inr rfl)).symm.trans HR.out)
     clear HQ HR
     go_wp2_with fail
     go_ret2
     rw [←HR3.out]
     exact ⟨_,rfl,Kd.R_nil _ _ _ _ _,HL2.out⟩
    | false=>
     have HR3:=Ak ((takeN_ok HQ.out rfl).symm.trans HR.out)
     clear HQ HR
     have hlen:acc.length≤1000:=by have:=HAL.out;omega
     go_wp2_with (((with_reducible refine gate_builtin (b:=.append) (xs:=#[.tmp 35,.tmp 37]) rfl ?_);at_builtin;refine Kd.R_append Kd.string (w0:=w2) w.heap.size rfl (.tmp 35) (.tmp 37) 26 9 (.string ⟨#[]⟩) 16 rfl Tryz.underlying26 info_str rfl (by decide) (by omega) (.slice A9 acc.length c9) acc y [.string y] (fun _=>True) (fun _=>False) rfl rfl rfl (fun _ hk=>hk.elim) (fun _ _=>trivial) HO2.out (Below.refl _ _) HL2.out.keep.1 (by omega) ?_;intro v w5 ho hb hg hat;have HO5:=Ak ho;have HL5:=Ak (HL2.out.grown HGW.out HPP.out hg (Kd.R_base HO2.out) (HL2.out.below.trans (hb.mono (Nat.le_of_lt HGW.out))));clear ho hb hg hat))
     go_roundg k
     case measure=>omega
     case rel=>exact ⟨i+1,l2,false,acc++[y],by go_num,⟨by have:=HE.out;omega⟩,⟨by have:=HAL.out;rw [List.length_append,List.length_singleton];omega⟩,HR3,HO5,HL5⟩
  ·have hb1:decide ((i:Int) < (n:Int))=false:=decide_eq_false (by omega)
   have hk0:gk=0:=by have:=HE.out;omega
   subst hk0
   go_wp2_with fail
   refine (bad_calls P wr g l1 b1 HL.out.rd).mono ?_
   rintro e w3 ⟨rfl,rfl⟩
   go_wp2
   go_ret2
   rw [←HR.out]
   exact ⟨_,rfl,HO.out,HL.out⟩
end Go.Proofs.YtocpcnmnhckcpaaGreat.Prt
