/- strings.Builder: WriteByte, WriteString, String. evcode.times: a closure, called as many times as a number tells. What stands in memory while an event is taken. The closures of evcode.Take: a tag, a field is taken. Functions of the program, told as plain functions, with their walks: written by a program of this claim's out of the translation. Predicates over rows: slices.ContainsFunc at a closure; the closures of event.May. Rows of texts that rise, the names of fields; the closures of event.May. What is wrong with an event: the walk of event.May. The contract of event.May, in the form that the printed functions ask. evcode.Take: what it answers, and its walk. The reference's rows of texts: all are tags: in closed form. What is wrong with an event, and whether two events are the same, as the reference says: in closed form. -/
import Derived.Shelf.Abstract
import Derived.Test.YtocpcnmnhckcpaaGreatYScriptParses1
import Derived.Test.YtocpcnmnhckcpaaGreatYScriptParses2
set_option linter.unusedVariables false
set_option linter.unusedSimpArgs false
namespace Go.Proofs.YtocpcnmnhckcpaaGreat.Prt
open RowKit YtocpcnmnhckcpaaGreatW.PrintWords YtocpcnmnhckcpaaGreatW.PrintLast YtocpcnmnhckcpaaGreatW.PrintMore YtocpcnmnhckcpaaGreat.Num YtocpcnmnhckcpaaGreat.Nam
theorem sizeBuilder:(Tryz.prog.info? 74).map (·.size)=some 2:=by kernel_rfl
theorem liesBuilder:liesAt Tryz.prog Tryz.prog.depth 74 (2 / Tryz.prog.cellsOf 74) 0 74 1=true:=by kernel_rfl
set_option maxRecDepth 100000 in
theorem copyCheck_calls (B:Nat) (v p:Value) (w:World) (hb:w.heap[B]? = some (.cells #[p,v] 74 (0,0))) (hp:p = .pointer none∨p = .pointer (some ⟨B,0,none⟩)) :
  Calls Tryz.prog 66 #[.pointer (some ⟨B,0,none⟩)] w fun e w'=>e = .returned (.tuple #[])∧w'.heap[B]? = some (.cells #[.pointer (some ⟨B,0,none⟩),v] 74 (0,0))∧KeepBut w w' B none∧Below B w w':=by
 have hc0:w.cell? ⟨B,0,none⟩=some p:=blk_cell hb 0
 have hf0:=blk_frozen hb 0
 have hu:=Tryz.underlying74
 have hsh:w.shape? B=some (74,2):=by simp [World.shape?,hb]
 obtain ⟨j,hj,hjs⟩:=Option.map_eq_some_iff.1 sizeBuilder
 have HK:=Ak hb
 clear hb
 rcases hp with rfl | rfl
 ·go_enter Tryz.func66,Tryz.ntmps66
  go_wp2
  rw [Lib.run_to_unsafe w ⟨B,0,none⟩ Tryz.underlying72 Tryz.underlying128 hj (by rw [hjs];decide) hsh (Nat.zero_lt_succ 1)]
  simp only [Result.andThen]
  rw [Oper.upon_value]
  go_wp2
  rw [run_callFunc_extern Tryz.func97 (by kernel_rfl) (by kernel_rfl) (by kernel_rfl) (e:=Extern.AbiNoEscape.same) (by kernel_rfl)]
  rw [Lib.run_noEscape]
  simp only [Result.andThen]
  rw [Oper.upon_value]
  go_wp2
  rw [Lib.run_from_unsafe w ⟨B,0,none⟩ Tryz.underlying128 Tryz.underlying72 hj hsh liesBuilder]
  simp only [Result.andThen]
  rw [Oper.upon_value]
  go_wp2
  go_end0
  exact ⟨rfl,by have h:=blk_set HK.out 0 (.pointer (some ⟨B,0,none⟩));simpa using h,(KeepBut.refl w B none).set_ 0 _,(Below.refl B w).setCell (p:=⟨B,0,none⟩) (Nat.le_refl B) _⟩
 ·go_enter Tryz.func66,Tryz.ntmps66
  go_wp2
  rw [Lib.run_neq_ptr_same w _ Tryz.underlying72 hj]
  go_wp2
  go_end0
  exact ⟨rfl,HK.out,KeepBut.refl _ _ _,Below.refl _ _⟩
structure Low (N B:Nat) (w w':World):Prop where
 os:w'.os=w.os
 tape:w'.tape=w.tape
 output:w'.output=w.output
 size:w.heap.size≤w'.heap.size
 block:∀ k,k < N→k≠B→w'.heap[k]? = w.heap[k]?
theorem Low.refl {N B:Nat} {w:World}:Low N B w w:=⟨rfl,rfl,rfl,Nat.le_refl _,fun _ _ _=>rfl⟩
theorem Low.trans {N B:Nat} {a b c:World} (h:Low N B a b) (k:Low N B b c):Low N B a c:=
 ⟨k.os.trans h.os,k.tape.trans h.tape,k.output.trans h.output,Nat.le_trans h.size k.size,fun i hi hb=>(k.block i hi hb).trans (h.block i hi hb)⟩
theorem Low.below {N B M:Nat} {a b:World} (h:Low N B a b) (hM:M≤N) (hB:M≤B):Below M a b:=⟨h.os,h.tape,h.output,h.size,fun k hk=>h.block k (by omega) (by omega)⟩
theorem Low.up {N B:Nat} {a b c:World} (h:Low N B a b) (hN:N≤b.heap.size) (k:Below b.heap.size b c):Low N B a c:=
 ⟨k.os.trans h.os,k.tape.trans h.tape,k.output.trans h.output,Nat.le_trans h.size k.size,fun i hi hb=>(k.block i (Nat.lt_of_lt_of_le hi hN)).trans (h.block i hi hb)⟩
def Bld (N B:Nat) (l:List Int) (w:World):Prop:=
 ∃ p v,w.heap[B]? = some (.cells #[p,v] 74 (0,0))∧(p = .pointer none∨p = .pointer (some ⟨B,0,none⟩))∧Kd.R (Kd.int .u8) 5 w N (fun _=>True) v l∧B < N∧N≤w.heap.size
theorem Bld.start {N B:Nat} {w:World} (hb:w.heap[B]? = some (.cells #[.pointer none,.slice none 0 0] 74 (0,0))) (hN:N=w.heap.size):Bld N B [] w:=
 ⟨_,_,hb,.inl rfl,Kd.R_nil _ _ _ _ _,by rw [hN];exact blk_lt hb,by omega⟩
theorem Bld.up {N B:Nat} {l:List Int} {w w':World} (h:Bld N B l w) (hb:Below w.heap.size w w'):Bld N B l w':=by
 obtain ⟨p,v,h1,h2,h3,h4,h5⟩:=h
 exact ⟨p,v,blk_below h1 hb,h2,Kd.R_below h3 hb,h4,Nat.le_trans h5 hb.size⟩
set_option maxRecDepth 100000 in
theorem writeByte_calls (N B:Nat) (l:List Int) (r:Int) (w:World) (hl:l.length≤1000000000000) (hb:Bld N B l w) :
  Calls Tryz.prog 67 #[.pointer (some ⟨B,0,none⟩),.int .u8 r] w fun e w'=>(∃ v,e = .returned v)∧Bld N B (l++[r]) w'∧Low N B w w':=by
 obtain ⟨p,v,hblk,hp,hR,hBN,hN⟩:=hb
 have hu:=Tryz.underlying74
 obtain ⟨A,c,rfl,hc,hC⟩:=Kd.R_reads hR
 have HR0:=Ak hR
 have HP:=Ak hp
 have HK0:=Ak hblk
 clear hC hc hR hp hblk
 go_enter Tryz.func67,Tryz.ntmps67
 go_wp2_with fail
 refine (copyCheck_calls B _ p w HK0.out HP.out).mono ?_
 rintro e w1 ⟨rfl,h1,h2,h3⟩
 have hc1:w1.cell? ⟨B,1,none⟩=some (.slice A l.length c):=blk_cell h1 1
 have HK1:=Ak h1
 have HR1:=Ak (R_off' HR0.out hBN h2)
 have HKB:=Ak h2
 have HBE:=Ak h3
 have hN1:N≤w1.heap.size:=Nat.le_trans hN h2.1
 clear h1 h2 h3 HR0 HK0
 go_upto_region 3 with (((with_reducible refine gate_builtin (b:=.append) (xs:=#[.tmp 11,.tmp 13]) rfl ?_);at_builtin;refine Kd.R_append (Kd.int .u8) (w0:=w1) N rfl (.tmp 11) (.tmp 13) 23 5 (.int .u8 0) 1 rfl Tryz.underlying23 info_u8 rfl (by decide) (by omega) (.slice A l.length c) l r [.int .u8 r] (fun _=>True) (fun _=>False) rfl rfl rfl (fun _ hk=>hk.elim) (fun _ _=>trivial) HR1.out (Below.refl _ _) hN1 (by omega) ?_;intro v2 w2 ho hb hg hat;obtain ⟨lr,hlr⟩:∃ lr,lr=l++[r]:=⟨_,rfl⟩;rw [←hlr] at ho;have HLR:=Ak hlr;clear hlr;have HO2:=Ak ho;have HB2:=Ak hb;obtain ⟨A2,c2,e2⟩:=Kd.R_slice ho;subst e2;have hK2:=(hb.block B hBN).trans HK1.out;have HK2:=Ak hK2;have hf1:=blk_frozen hK2 1;have hcz:=blk_cell hK2 1;clear ho hb hg hat hK2))
 have hs:=blk_set HK2.out 1 (.slice A2 lr.length c2)
 have n1_:Aside0 (Bld N B lr (w2.setCell ⟨B,1,none⟩ (.slice A2 lr.length c2))):=⟨⟨_,_,by simpa using hs,.inr rfl,R_off' HO2.out hBN ((KeepBut.refl w2 B none).set_ 1 _),hBN,by have:=HB2.out.size;rw [World.size_setCell];omega⟩⟩
 have n2_:Aside0 (Low N B w (w2.setCell ⟨B,1,none⟩ (.slice A2 lr.length c2))):=⟨⟨HB2.out.os.trans HBE.out.os,HB2.out.tape.trans HBE.out.tape,HB2.out.output.trans HBE.out.output,by have:=HB2.out.size;have:=HKB.out.1;rw [World.size_setCell];omega,fun k hk hne=>(((KeepBut.refl w2 B none).set_ 1 _).2 k (by have:=HB2.out.size;omega) hne (by simp)).trans ((HB2.out.block k hk).trans (HKB.out.2 k (by omega) hne (by simp)))⟩⟩
 clear hs HK2 HB2 HO2 HKB HBE HR1 HK1 hf1 hcz hc1
 generalize w2.setCell ⟨B,1,none⟩ (.slice A2 lr.length c2)=w3 at n1_ n2_ ⊢
 go_wp2
 go_ret
 exact ⟨⟨_,rfl⟩,by rw [←HLR.out];exact n1_.out,n2_.out⟩
set_option maxRecDepth 100000 in
theorem writeString_calls (N B:Nat) (l:List Int) (s:ByteArray) (w:World) (hl:l.length+s.size≤1000000000000) (hb:Bld N B l w) :
  Calls Tryz.prog 40 #[.pointer (some ⟨B,0,none⟩),.string s] w fun e w'=>(∃ v,e = .returned v)∧Bld N B (l++bytesOf s) w'∧Low N B w w':=by
 obtain ⟨p,v,hblk,hp,hR,hBN,hN⟩:=hb
 have hu:=Tryz.underlying74
 obtain ⟨A,c,rfl,hc,hC⟩:=Kd.R_reads hR
 have HR0:=Ak hR
 have HP:=Ak hp
 have HK0:=Ak hblk
 clear hC hc hR hp hblk
 go_enter Tryz.func40,Tryz.ntmps40
 go_wp2_with fail
 refine (copyCheck_calls B _ p w HK0.out HP.out).mono ?_
 rintro e w1 ⟨rfl,h1,h2,h3⟩
 have hc1:w1.cell? ⟨B,1,none⟩=some (.slice A l.length c):=blk_cell h1 1
 have HK1:=Ak h1
 have HR1:=Ak (R_off' HR0.out hBN h2)
 have HKB:=Ak h2
 have HBE:=Ak h3
 have hN1:N≤w1.heap.size:=Nat.le_trans hN h2.1
 clear h1 h2 h3 HR0 HK0
 go_upto_region 3 with (((with_reducible refine gate_builtin (b:=.append) (xs:=#[.tmp 12,.tmp 13]) rfl ?_);at_builtin;refine Gen.R_append_str (w0:=w1) N rfl (.tmp 12) (.tmp 13) 23 9 5 rfl Tryz.underlying23 Tryz.underlying9 info_u8 (.slice A l.length c) l s rfl rfl HR1.out (Below.refl _ _) hN1 (by omega) ?_;intro v2 w2 ho hb hg;obtain ⟨lr,hlr⟩:∃ lr,lr=l++bytesOf s:=⟨_,rfl⟩;rw [←hlr] at ho;have HLR:=Ak hlr;clear hlr;have HO2:=Ak ho;have HB2:=Ak hb;obtain ⟨A2,c2,e2⟩:=Kd.R_slice ho;subst e2;have hK2:=(hb.block B hBN).trans HK1.out;have HK2:=Ak hK2;have hf1:=blk_frozen hK2 1;have hcz:=blk_cell hK2 1;clear ho hb hg hK2))
 have hs:=blk_set HK2.out 1 (.slice A2 lr.length c2)
 have n1_:Aside0 (Bld N B lr (w2.setCell ⟨B,1,none⟩ (.slice A2 lr.length c2))):=⟨⟨_,_,by simpa using hs,.inr rfl,R_off' HO2.out hBN ((KeepBut.refl w2 B none).set_ 1 _),hBN,by have:=HB2.out.size;rw [World.size_setCell];omega⟩⟩
 have n2_:Aside0 (Low N B w (w2.setCell ⟨B,1,none⟩ (.slice A2 lr.length c2))):=⟨⟨HB2.out.os.trans HBE.out.os,HB2.out.tape.trans HBE.out.tape,HB2.out.output.trans HBE.out.output,by have:=HB2.out.size;have:=HKB.out.1;rw [World.size_setCell];omega,fun k hk hne=>(((KeepBut.refl w2 B none).set_ 1 _).2 k (by have:=HB2.out.size;omega) hne (by simp)).trans ((HB2.out.block k hk).trans (HKB.out.2 k (by omega) hne (by simp)))⟩⟩
 clear hs HK2 HB2 HO2 HKB HBE HR1 HK1 hf1 hcz hc1
 generalize w2.setCell ⟨B,1,none⟩ (.slice A2 lr.length c2)=w3 at n1_ n2_ ⊢
 go_wp2
 go_ret2
 exact ⟨⟨_,rfl⟩,by rw [←HLR.out];exact n1_.out,n2_.out⟩
theorem byteCells_nums (l:List Int) (h:isBytes l):Lib.byteCells (l.map fun n=>UInt8.ofNat n.toNat)=l.map fun n=>Value.int .u8 n:=by
 unfold Lib.byteCells
 rw [List.map_map]
 apply List.map_congr_left
 intro c hc
 have:=h c hc
 simp only [Function.comp,UInt8.toNat_ofNat']
 congr 1;omega
theorem inner_of (l:List Int) (inner:List Value) (Q:Int→List Value→Prop) (hQ:∀ x c,Q x c→c=[.int .u8 x]) (h:Reps Q 1 l inner):inner=l.map fun n=>Value.int .u8 n:=by
 obtain ⟨h1,h2⟩:=h
 apply List.ext_getElem?
 intro j
 rw [List.getElem?_map]
 rcases Nat.lt_or_ge j l.length with hj | hj
 ·have h3:=hQ _ _ (h2 j l[j] (List.getElem?_eq_getElem hj))
  have h4:=congrArg (fun c:List Value=>c[0]?) h3
  simp only [List.getElem?_take,List.getElem?_drop,Nat.mul_one,Nat.add_zero] at h4
  rw [List.getElem?_eq_getElem hj]
  simpa using h4
 ·rw [List.getElem?_eq_none (by omega),List.getElem?_eq_none hj];rfl
theorem string_calls (N B:Nat) (l:List Int) (w:World) (hl:isBytes l) (hb:Bld N B l w) :
  Calls Tryz.prog 42 #[.pointer (some ⟨B,0,none⟩)] w fun e w'=>e = .returned (.string (strOfNums l))∧Below B w w':=by
 obtain ⟨p,v,hblk,hp,hR,hBN,hN⟩:=hb
 have hown:w.ownsRow B 5 1 v (l.map fun n=>Value.int .u8 n).length (l.map fun n=>Value.int .u8 n):=by
  obtain ⟨_,inner,ho,hreps⟩:=hR
  have e:=inner_of l inner _ (fun x c h=>h) hreps
  subst e
  rw [List.length_map]
  obtain ⟨g1,g2⟩:=ho
  refine ⟨g1,?_⟩
  rcases g2 with g2 | ⟨g,cap,cur,e1,e2,e3⟩
  ·exact .inl g2
  ·exact .inr ⟨g,cap,cur,e1,by omega,e3⟩
 have hne:v.ownBlock≠some B:=fun e=>by have:=Kd.R_base hR B e;omega
 have hI:Lib.IsBuilderF 74 5 B B (Lib.byteCells (l.map fun n=>UInt8.ofNat n.toNat)) w:=by
  apply Lib.IsBuilderF.of
  rw [byteCells_nums l hl]
  rcases hp with rfl | rfl
  ·exact .inl ⟨Nat.le_refl _,v,hblk,hown,hne⟩
  ·exact .inr ⟨Nat.le_refl _,v,hblk,hown,hne⟩
 refine (Tryz.Builder_String_any_k B B _ w hI (by omega)).mono ?_
 rintro e w1 ⟨rfl,_,h2,_⟩
 exact ⟨rfl,h2⟩
end Go.Proofs.YtocpcnmnhckcpaaGreat.Prt
namespace Go.Proofs.YtocpcnmnhckcpaaGreat.Num
open RowKit YtocpcnmnhckcpaaGreatW.PrintWords YtocpcnmnhckcpaaGreatW.PrintLast YtocpcnmnhckcpaaGreatW.PrintMore
set_option maxRecDepth 100000 in
theorem times_calls (Inv:Nat→World→Prop) (most:Int) (G:Nat) (q1 q2:Value) (P:Nat→Prop) (w:World) (g:Nat) (l:List Int) (bad:Bool) (hI:Rd 85 P w g l bad) (hb:isBytes l) (hm0:0≤most) (hm1:most≤1000)
  (hent:∀ (xs:Array Value) (W:World),(callFunc G xs).run Tryz.prog W = .ok (.enter G xs) W)
  (h0:∀ w1,Rd 85 P w1 g (aft l) (badOf l bad)→Below g w w1→KeepBut w w1 g none→Inv 0 w1)
  (hs:∀ i w1,i < (numOf l).toNat→numOf l≤most→Inv i w1→Calls Tryz.prog G #[q1,q2] w1 fun e w2=>e = .returned (.tuple #[])∧Inv (i+1) w2) :
  Calls Tryz.prog 49 #[.pointer (some ⟨g,0,none⟩),.int .i64 most,.func (.func G) #[] #[q1,q2]] w fun e w'=>
   ((numOf l < 0∨most < numOf l)∧e = .returned (.bool false)∧Rd 85 P w' g (aft l) (badOf l bad)∧Below g w w'∧KeepBut w w' g none)∨(0≤numOf l∧numOf l≤most∧e = .returned (.bool true)∧Inv (numOf l).toNat w'):=by
 obtain ⟨x,hx⟩:∃ x,numOf l=x:=⟨_,rfl⟩
 have hr:=numOf_i64 hb
 rw [hx] at hr hs ⊢
 obtain ⟨hr1,hr2⟩:=hr
 have HN:=Ak (num_calls' x P w g l bad hI hb hx)
 have H0:=Ak h0
 have HS:=Ak hs
 clear hI hb h0 hs hx
 by_cases hneg:x < 0
 ·have hd:decide (x < 0)=true:=decide_eq_true hneg
  go_enter Tryz.func49,Tryz.ntmps49
  go_wp2_with fail
  refine HN.out.mono ?_
  rintro e w1 ⟨rfl,hI1,hb1,hk1⟩
  have n1_:=Ak hI1
  have n2_:=Ak hb1
  have n3_:=Ak hk1
  clear hI1 hb1 hk1
  go_wp2
  go_ret
  exact .inl ⟨.inl hneg,rfl,n1_.out,n2_.out,n3_.out⟩
 have hd:decide (x < 0)=false:=decide_eq_false hneg
 by_cases hbig:most < x
 ·have hd2:decide (most < x)=true:=decide_eq_true hbig
  go_enter Tryz.func49,Tryz.ntmps49
  go_wp2_with fail
  refine HN.out.mono ?_
  rintro e w1 ⟨rfl,hI1,hb1,hk1⟩
  have n1_:=Ak hI1
  have n2_:=Ak hb1
  have n3_:=Ak hk1
  clear hI1 hb1 hk1
  go_wp2
  go_ret
  exact .inl ⟨.inr hbig,rfl,n1_.out,n2_.out,n3_.out⟩
 have hd2:decide (most < x)=false:=decide_eq_false hbig
 obtain ⟨n,rfl⟩:=Int.eq_ofNat_of_zero_le (Int.not_lt.1 hneg)
 rw [Int.toNat_natCast] at HS ⊢
 go_enter Tryz.func49,Tryz.ntmps49
 go_wp2_with fail
 refine HN.out.mono ?_
 rintro e w1 ⟨rfl,hI1,hb1,hk1⟩
 have n1_:=Ak (H0.out w1 hI1 hb1 hk1)
 clear hI1 hb1 hk1
 go_wp2
 go_loopg [18] n (fun k v18 w'=>∃ i:Nat,v18 = .int .i64 (i:Int)∧Aside0 (i+k=n)∧Aside0 (Inv i w'))
 case atStart=>exact ⟨0,rfl,⟨by omega⟩,n1_⟩
 case round=>
  obtain ⟨i,rfl,HE,HI⟩:=hrel
  by_cases hlt:i < n
  ·have hb1:decide ((i:Int) < (n:Int))=true:=decide_eq_true (by omega)
   have HC:=Ak (HS.out i wr hlt (by omega) HI.out)
   go_wp2_with fail
   refine HC.out.mono ?_
   rintro e w2 ⟨rfl,hi2⟩
   have n2_:=Ak hi2
   clear hi2
   go_wp2
   go_roundg (n - (i+1))
   case measure=>have:=HE.out;omega
   case rel=>exact ⟨i+1,by go_num,⟨by have:=HE.out;omega⟩,n2_⟩
  ·have hb1:decide ((i:Int) < (n:Int))=false:=decide_eq_false (by omega)
   go_wp2
   go_ret
   refine .inr ⟨by omega,by omega,rfl,?_⟩
   have:i=n:=by have:=HE.out;omega
   rw [←this];exact HI.out
end Go.Proofs.YtocpcnmnhckcpaaGreat.Num
namespace Go.Proofs.YtocpcnmnhckcpaaGreat.Num
open RowKit YtocpcnmnhckcpaaGreatW.PrintWords YtocpcnmnhckcpaaGreatW.PrintLast YtocpcnmnhckcpaaGreatW.PrintMore YtocpcnmnhckcpaaGreat.Prt
structure Tk (w0 w:World) (P:Nat→Prop) (g E Rb:Nat) (l:List Int) (bad:Bool) (s t:ByteArray) (v2:Value) (tags:List ByteArray) (v3:Value) (fl:List S90):Prop where
 rd:Rd 85 P w g l bad
 hE:w.heap[E]? = some (.cells #[.string s,.string t,v2,v3] 29 (0,0))
 hR:w.heap[Rb]? = some (.cells #[.pointer (some ⟨g,0,none⟩)] 47 (0,0))
 r2:Kd.string.R 9 w w0.heap.size (fun _=>True) v2 tags
 r3:k90.R 90 w w0.heap.size (fun _=>True) v3 fl
 keep:KeepBut w0 w g none
 below:Below g w0 w
 gN:g < w0.heap.size
 NE:w0.heap.size≤E
 NR:Rb≠g
 PN:∀ k,P k→k < w0.heap.size
 by_:isBytes l
section
variable {w0 w w1 : World} {P : Nat → Prop} {g E Rb : Nat} {l l' : List Int} {bad bad' : Bool} {s t : ByteArray} {v2 v3 : Value} {tags : List ByteArray} {fl : List S90}
theorem Tk.read (h:Tk w0 w P g E Rb l bad s t v2 tags v3 fl) (hr:Rd 85 P w1 g l' bad') (hb:Below g w w1) (hk:KeepBut w w1 g none) (hy:isBytes l'):Tk w0 w1 P g E Rb l' bad' s t v2 tags v3 fl:=
 ⟨hr,hk.blk h.hE (by have:=h.gN;have:=h.NE;omega) (by simp),hk.blk h.hR h.NR (by simp),R_off' h.r2 h.gN hk,R_off' h.r3 h.gN hk,h.keep.trans hk (.inl rfl),h.below.trans hb,h.gN,h.NE,h.NR,h.PN,hy⟩
theorem Tk.up (h:Tk w0 w P g E Rb l bad s t v2 tags v3 fl) (hb:Below w.heap.size w w1):Tk w0 w1 P g E Rb l bad s t v2 tags v3 fl:=
 ⟨h.rd.below hb,blk_below h.hE hb,blk_below h.hR hb,Kd.R_below h.r2 hb,Kd.R_below h.r3 hb,h.keep.trans (KeepBut.of_below hb g none) (.inl rfl),h.below.trans (hb.mono (Nat.le_of_lt h.rd.lt)),h.gN,h.NE,h.NR,h.PN,h.by_⟩
theorem Tk.alloc (h:Tk w0 w P g E Rb l bad s t v2 tags v3 fl) (o:Obj):Tk w0 (w.alloc o) P g E Rb l bad s t v2 tags v3 fl:=h.up (below_alloc (Below.refl _ _) o)
theorem Tk.drew (h:Tk w0 w P g E Rb l bad s t v2 tags v3 fl):Tk w0 w.drew P g E Rb l bad s t v2 tags v3 fl:=h.up (below_drew (Below.refl _ _))
theorem Tk.notP (h:Tk w0 w P g E Rb l bad s t v2 tags v3 fl):¬P E:=fun hp=>by have:=h.PN E hp;have:=h.NE;omega
theorem Tk.set0 (h:Tk w0 w P g E Rb l bad s t v2 tags v3 fl) (s':ByteArray):Tk w0 (w.setCell ⟨E,0,none⟩ (.string s')) P g E Rb l bad s' t v2 tags v3 fl:=
 ⟨h.rd.kept ((KeepBut.refl w E none).set_ 0 _) (by have:=h.gN;have:=h.NE;omega) h.notP,by simpa using blk_set h.hE 0 (.string s'),blk_far h.hR (blk_ne h.hR h.hE (by decide)) _,R_set h.r2 h.hE (by decide) 0 _,R_set h.r3 h.hE (by decide) 0 _,keep_far h.keep h.NE _,h.below.setCell (p:=⟨E,0,none⟩) (Nat.le_trans (Nat.le_of_lt h.gN) h.NE) _,h.gN,h.NE,h.NR,h.PN,h.by_⟩
theorem Tk.set1 (h:Tk w0 w P g E Rb l bad s t v2 tags v3 fl) (t':ByteArray):Tk w0 (w.setCell ⟨E,1,none⟩ (.string t')) P g E Rb l bad s t' v2 tags v3 fl:=
 ⟨h.rd.kept ((KeepBut.refl w E none).set_ 1 _) (by have:=h.gN;have:=h.NE;omega) h.notP,by simpa using blk_set h.hE 1 (.string t'),blk_far h.hR (blk_ne h.hR h.hE (by decide)) _,R_set h.r2 h.hE (by decide) 1 _,R_set h.r3 h.hE (by decide) 1 _,keep_far h.keep h.NE _,h.below.setCell (p:=⟨E,1,none⟩) (Nat.le_trans (Nat.le_of_lt h.gN) h.NE) _,h.gN,h.NE,h.NR,h.PN,h.by_⟩
theorem Tk.side (h:Tk w0 w P g E Rb l bad s t v2 tags v3 fl) {B:Nat} (hB:w0.heap.size≤B) (h1:B≠E) (h2:B≠Rb) (h3:some B≠v2.ownBlock) (h4:some B≠v3.ownBlock) (i:Nat) (u:Value):Tk w0 (w.setCell ⟨B,i,none⟩ u) P g E Rb l bad s t v2 tags v3 fl:=
 ⟨h.rd.kept ((KeepBut.refl w B none).set_ i _) (by have:=h.gN;omega) (fun hp=>by have:=h.PN B hp;omega),blk_far h.hE (Ne.symm h1) _,blk_far h.hR (Ne.symm h2) _,Kd.R_mono (Kd.R_far (p:=⟨B,i,none⟩) (Kd.R_far1 h.r2 rfl h3) (fun k hk=>hk.2) u) (fun _ _=>trivial),Kd.R_mono (Kd.R_far (p:=⟨B,i,none⟩) (Kd.R_far1 h.r3 rfl h4) (fun k hk=>hk.2) u) (fun _ _=>trivial),
  keep_far h.keep hB _,h.below.setCell (p:=⟨B,i,none⟩) (Nat.le_trans (Nat.le_of_lt h.gN) hB) _,h.gN,h.NE,h.NR,h.PN,h.by_⟩
theorem keep_grown {v:Value} (h:KeepBut w0 w g none) (hg:w.grownBy w1 v.ownBlock) (hb:∀ k,v.ownBlock=some k→w0.heap.size≤k):KeepBut w0 w1 g none:=
 ⟨Nat.le_trans h.1 hg.size,fun i hi hne hr=>(hg.block i (by have:=h.1;omega) (fun e=>by have:=hb i e.symm;omega)).trans (h.2 i hi hne hr)⟩
theorem Tk.push2 (h:Tk w0 w P g E Rb l bad s t v2 tags v3 fl) {v:Value} {x:ByteArray} (hr:Kd.string.R 9 w1 w0.heap.size (fun _=>True) v (tags++[x])) (hb:Below w0.heap.size w w1) (hg:w.grownBy w1 v2.ownBlock) :
  Tk w0 (w1.setCell ⟨E,2,none⟩ v) P g E Rb l bad s t v (tags++[x]) v3 fl:=by
 have base:=Kd.R_base h.r2
 have hE1:w1.heap[E]? = some (.cells #[.string s,.string t,v2,v3] 29 (0,0)):=blk_grown h.hE hg (Kd.R_ne h.r2 h.hE (by decide))
 have hR1:=blk_grown h.hR hg (Kd.R_ne h.r2 h.hR (by decide))
 have r31:k90.R 90 w1 w0.heap.size (fun _=>True) v3 fl:=Kd.R_mono (Kd.R_grown (Kd.R_apart' h.r3 (Kd.R_typed h.r2) (by decide)) hg (fun k hk=>hk.2)) (fun _ _=>trivial)
 have rd1:=h.rd.grown hg (ne_base base h.gN) (fun k hk=>ne_base base (h.PN k hk))
 exact ⟨rd1.kept ((KeepBut.refl w1 E none).set_ 2 _) (by have:=h.gN;have:=h.NE;omega) h.notP,by simpa using blk_set hE1 2 v,blk_far hR1 (blk_ne hR1 hE1 (by decide)) _,R_set hr hE1 (by decide) 2 _,R_set r31 hE1 (by decide) 2 _,
  keep_far (keep_grown h.keep hg base) h.NE _,(h.below.trans (hb.mono (Nat.le_of_lt h.gN))).setCell (p:=⟨E,2,none⟩) (Nat.le_trans (Nat.le_of_lt h.gN) h.NE) _,h.gN,h.NE,h.NR,h.PN,h.by_⟩
theorem Tk.push3 (h:Tk w0 w P g E Rb l bad s t v2 tags v3 fl) {v:Value} {x:S90} (hr:k90.R 90 w1 w0.heap.size (fun _=>True) v (fl++[x])) (hb:Below w0.heap.size w w1) (hg:w.grownBy w1 v3.ownBlock) :
  Tk w0 (w1.setCell ⟨E,3,none⟩ v) P g E Rb l bad s t v2 tags v (fl++[x]):=by
 have base:=Kd.R_base h.r3
 have hE1:w1.heap[E]? = some (.cells #[.string s,.string t,v2,v3] 29 (0,0)):=blk_grown h.hE hg (Kd.R_ne h.r3 h.hE (by decide))
 have hR1:=blk_grown h.hR hg (Kd.R_ne h.r3 h.hR (by decide))
 have r21:Kd.string.R 9 w1 w0.heap.size (fun _=>True) v2 tags:=Kd.R_mono (Kd.R_grown (Kd.R_apart' h.r2 (Kd.R_typed h.r3) (by decide)) hg (fun k hk=>hk.2)) (fun _ _=>trivial)
 have rd1:=h.rd.grown hg (ne_base base h.gN) (fun k hk=>ne_base base (h.PN k hk))
 exact ⟨rd1.kept ((KeepBut.refl w1 E none).set_ 3 _) (by have:=h.gN;have:=h.NE;omega) h.notP,by simpa using blk_set hE1 3 v,blk_far hR1 (blk_ne hR1 hE1 (by decide)) _,R_set r21 hE1 (by decide) 3 _,R_set hr hE1 (by decide) 3 _,
  keep_far (keep_grown h.keep hg base) h.NE _,(h.below.trans (hb.mono (Nat.le_of_lt h.gN))).setCell (p:=⟨E,3,none⟩) (Nat.le_trans (Nat.le_of_lt h.gN) h.NE) _,h.gN,h.NE,h.NR,h.PN,h.by_⟩
end
end Go.Proofs.YtocpcnmnhckcpaaGreat.Num
namespace Go.Proofs.YtocpcnmnhckcpaaGreat.Num
open RowKit YtocpcnmnhckcpaaGreatW.PrintWords YtocpcnmnhckcpaaGreatW.PrintLast YtocpcnmnhckcpaaGreatW.PrintMore YtocpcnmnhckcpaaGreat.Prt
def D50.T0:Bool × List (List Nat × List Nat):=(true,[([],[]),([0],[0]),([],[]),([2],[2]),([3],[3]),([1,4,3],[1,4]),([0,1,2,3,4,5],[]),([6,5,5,0,1,2,3,4,5],[5,6])])
def D50.B0:List Nat:=[0,1,0,4,12,31,63,127]
theorem D50.tab0:rtab .any (opsOf Tryz.f50 0)=D50.T0:=by kernel_rfl
theorem D50.bits0:waitsOk D50.T0.2 D50.B0=true:=by kernel_rfl
set_option maxRecDepth 100000 in
theorem tag_calls (w0 w:World) (P:Nat→Prop) (g E Rb:Nat) (l:List Int) (bad:Bool) (s t:ByteArray) (v2:Value) (tags:List ByteArray) (v3:Value) (fl:List S90) (h:Tk w0 w P g E Rb l bad s t v2 tags v3 fl) (hl:tags.length≤1000) :
  Calls Tryz.prog 50 #[.pointer (some ⟨E,0,none⟩),.pointer (some ⟨Rb,0,none⟩)] w fun e w'=>e = .returned (.tuple #[])∧∃ v,Tk w0 w' P g E Rb (aftT l) (badT l bad) s t v (tags++[textOf l]) v3 fl:=by
 have HT:=Ak h
 clear h
 have hu29:=Tryz.underlying29
 go_enter Tryz.func50,Tryz.ntmps50
 go_wp2_with fail
 refine start_ (n:=8) (S:=fun w'=>w'.cell? ⟨E,2,none⟩=some v2∧w'.cell? ⟨Rb,0,none⟩=some (.pointer (some ⟨g,0,none⟩))) (ds:=[7]) #[false,false,false,false,false,false,false,false] (by kernel_rfl) rfl rfl ⟨(blk_cell HT.out.drew.hE 2).trans rfl,(blk_cell HT.out.drew.hR 0).trans rfl⟩ (fun hHeld=>?_);refine with_tabW D50.tab0 D50.bits0 (fun HT_ HW_=>?_)
 have HT1:=Ak HT.out.drew
 clear HT
 generalize w.drew=w1 at HT1 hHeld ⊢
 refine pure_ (i:=0) (N:=some 2) (v:=?_) (a':=?_) #[true,false,false,false,false,false,false,false] rfl rfl (any_of HT_.out (by kernel_rfl)) (fun _ _ _ h=>h) (Or.inl ⟨by rfl,?_⟩) ?_ ?_
 rotate_left
 ·intro w'
  go_simp
  with_reducible rfl
 rotate_left
 ·simp only [Act.put,List.setIfInBounds_toArray,List.set_cons_zero,List.set_cons_succ,i64_w,i32_w]
  rfl
 refine take_ (i:=1) (N:=some 3) (v:=?_) (a':=?_) #[true,true,false,false,false,false,false,false] rfl rfl (take_ofW HT_.out HW_.out (by kernel_rfl)) (fun _ _ _ h=>h) (Or.inl ⟨by rfl,?_⟩) hHeld ?_ ?_
 rotate_left
 ·rintro w' ⟨s0,s1⟩
  go_simp
  with_reducible rfl
 rotate_left
 ·simp only [Act.put,List.setIfInBounds_toArray,List.set_cons_zero,List.set_cons_succ,i64_w,i32_w]
  rfl
 refine take_ (i:=2) (N:=some 4) (v:=?_) (a':=?_) #[true,true,true,false,false,false,false,false] rfl rfl (take_ofW HT_.out HW_.out (by kernel_rfl)) (fun _ _ _ h=>h) (Or.inl ⟨by rfl,?_⟩) hHeld ?_ ?_
 rotate_left
 ·rintro w' ⟨s0,s1⟩
  go_simp
  with_reducible rfl
 rotate_left
 ·simp only [Act.put,List.setIfInBounds_toArray,List.set_cons_zero,List.set_cons_succ,i64_w,i32_w]
  rfl
 refine one_ (i:=3) (N:=some 5) #[true,true,true,true,false,false,false,false] rfl rfl (one_of HT_.out (by kernel_rfl)) (by decide) (fun K hK=>?_)
 refine goes_ Tryz.func18 (by kernel_rfl) rfl #[.pointer (some ⟨g,0,none⟩)] (by rfl) rfl rfl (by (try simp only [List.map_toArray,List.map_cons,List.map_nil]);rfl) ?_
 with_reducible refine (text_calls P w1 g l bad HT1.out.rd HT1.out.by_).mono ?_
 rintro e w2 ⟨rfl,hI,hb,hk⟩
 refine ⟨_,rfl,?_⟩
 have HT2:=Ak (HT1.out.read hI hb hk (aftT_bytes HT1.out.by_))
 clear HT1 hI hb hk
 refine hK.out _ _ ⟨(blk_cell HT2.out.hE 2).trans rfl,(blk_cell HT2.out.hR 0).trans rfl⟩ (fun hHeld=>?_)
 clear hK K
 refine norm_ (a':=?_) ?_ ?_
 rotate_left
 ·show Act.put _ (some 5) _=_
  simp only [Act.put,List.setIfInBounds_toArray,List.set_cons_zero,List.set_cons_succ,i64_w,i32_w]
  rfl
 obtain ⟨x,hx⟩:∃ x,x=textOf l:=⟨_,rfl⟩
 rw [←hx]
 have HX:=Ak hx
 clear hx
 refine one_ (i:=4) (N:=some 6) #[true,true,true,true,true,false,false,false] rfl rfl (one_of HT_.out (by kernel_rfl)) (by decide) (fun K hK=>?_)
 refine event_step (by rfl) (v:=.slice (some ⟨w2.heap.size,0,none⟩) 1 1) (w1:=w2.alloc (.cells #[.string x] 9)) ?_ ?_
 ·(go_simp;done)
 refine hK.out _ _ ⟨(blk_cell (HT2.out.alloc _).hE 2).trans rfl,(blk_cell (HT2.out.alloc _).hR 0).trans rfl⟩ (fun hHeld=>?_)
 clear hK K
 refine norm_ (a':=?_) ?_ ?_
 rotate_left
 ·show Act.put _ (some 6) _=_
  simp only [Act.put,List.setIfInBounds_toArray,List.set_cons_zero,List.set_cons_succ,i64_w,i32_w]
  rfl
 refine one_ (i:=5) (N:=some 7) #[true,true,true,true,true,true,false,false] rfl rfl (one_of HT_.out (by kernel_rfl)) (by decide) (fun K hK=>?_)
 refine Kd.R_append_step Kd.string (w0:=w2) w0.heap.size (by rfl) (.tmp 3) (.tmp 6) 26 9 (.string ⟨#[]⟩) 16 rfl Tryz.underlying26 info_str rfl (by decide) (by omega) v2 tags x [.string x] (fun _=>True) (fun _=>False) rfl rfl rfl (fun _ hk=>hk.elim) (fun _ _=>trivial) HT2.out.r2 (Below.refl _ _) HT2.out.keep.1 (by omega) ?_
 intro v w3 ho hb hg hat
 have HO:=Ak ho
 have HBl:=Ak hb
 have HG:=Ak hg
 clear ho hb hg hat
 refine hK.out _ _ ⟨(blk_cell (blk_grown HT2.out.hE HG.out (Kd.R_ne HT2.out.r2 HT2.out.hE (by decide))) 2).trans rfl,(blk_cell (blk_grown HT2.out.hR HG.out (Kd.R_ne HT2.out.r2 HT2.out.hR (by decide))) 0).trans rfl⟩ (fun hHeld=>?_)
 clear hK K
 refine norm_ (a':=?_) ?_ ?_
 rotate_left
 ·show Act.put _ (some 7) _=_
  simp only [Act.put,List.setIfInBounds_toArray,List.set_cons_zero,List.set_cons_succ,i64_w,i32_w]
  rfl
 refine pure_ (i:=6) (N:=some 8) (v:=?_) (a':=?_) #[true,true,true,true,true,true,true,false] rfl rfl (any_of HT_.out (by kernel_rfl)) (fun _ _ _ h=>h) (Or.inl ⟨by rfl,?_⟩) ?_ ?_
 rotate_left
 ·intro w'
  go_simp
  with_reducible rfl
 rotate_left
 ·simp only [Act.put,List.setIfInBounds_toArray,List.set_cons_zero,List.set_cons_succ,i64_w,i32_w]
  rfl
 refine last_ (i:=7) (N:=none) #[true,true,true,true,true,true,true,true] rfl rfl (one_of HT_.out (by kernel_rfl)) (by decide) (fun K hK=>?_)
 obtain ⟨Av,cv,ev_⟩:=Kd.R_slice HO.out
 subst ev_
 have hfz:=blk_frozen (blk_grown HT2.out.hE HG.out (Kd.R_ne HT2.out.r2 HT2.out.hE (by decide))) 2
 have hce:=(blk_cell (blk_grown HT2.out.hE HG.out (Kd.R_ne HT2.out.r2 HT2.out.hE (by decide))) 2)
 refine skip_ (w1:=w3.setCell ⟨E,2,none⟩ (.slice Av (tags++[x]).length cv)) (by rfl) rfl ?_ ?_
 ·(go_simp;done)
 refine hK.out _ _ ?_
 clear hK K
 refine done_ (by kernel_rfl) ?_
 clear HT_ HW_ hHeld
 go_wp2
 go_end0
 refine ⟨rfl,.slice Av (tags++[x]).length cv,?_⟩
 rw [←HX.out]
 exact HT2.out.push2 HO.out HBl.out HG.out
theorem info_field:(Tryz.prog.info? 90).map (fun i=>(i.zero,i.size,i.bytes))=some (some (.agg #[.string ⟨#[]⟩,.int .i64 0]),2,24):=by kernel_rfl
set_option maxRecDepth 100000 in
theorem field_calls (w0 w:World) (P:Nat→Prop) (g E Rb:Nat) (l:List Int) (bad:Bool) (s t:ByteArray) (v2:Value) (tags:List ByteArray) (v3:Value) (fl:List S90) (h:Tk w0 w P g E Rb l bad s t v2 tags v3 fl) (hl:fl.length≤1000) :
  Calls Tryz.prog 51 #[.pointer (some ⟨Rb,0,none⟩),.pointer (some ⟨E,0,none⟩)] w fun e w'=>e = .returned (.tuple #[])∧∃ v,Tk w0 w' P g E Rb (aft (aftT l)) (badOf (aftT l) (badT l bad)) s t v2 tags v (fl++[⟨textOf l,numOf (aftT l)⟩]):=by
 have HT:=Ak h
 clear h
 have hu29:=Tryz.underlying29
 have hu90:=Tryz.underlying90
 have hr0:=(blk_cell HT.out.hR 0)
 go_enter Tryz.func51,Tryz.ntmps51
 go_wp2_with fail
 refine (text_calls P w g l bad HT.out.rd HT.out.by_).mono ?_
 rintro e w1 ⟨rfl,hI,hb,hk⟩
 have HT1:=Ak (HT.out.read hI hb hk (aftT_bytes HT.out.by_))
 clear HT hI hb hk hr0
 obtain ⟨x,hx⟩:∃ x,x=textOf l:=⟨_,rfl⟩
 rw [←hx]
 have HX:=Ak hx
 clear hx
 have hr0:=(blk_cell HT1.out.hR 0)
 go_wp2_with (((with_reducible refine gate_dst (N:=2) rfl ?_);refine box_event ?hg (N:=2) ?hd (cs:=#[.string (⟨#[]⟩:ByteArray),.int .i64 0]) (t:=90) ?hr ?_;(case hd=>rfl);(case hg=>rfl);(case hr=>(go_simp;done));intro B hg w2 hbox hb;have HNB:=Ak (show some B≠v3.ownBlock by intro e_;have:=Kd.R_lt HT1.out.r3 B e_.symm;omega);have HT2:=Ak (HT1.out.up hb);have HBX:=Ak hbox;have HGE:=Ak (show w0.heap.size≤B by rw [hg];exact HT1.out.keep.1);clear HT1 hg hbox hb;clear hr0;have hr0:=(blk_cell HT2.out.hR 0);have hb0:=blk_cell HBX.out 0;have hb1:=blk_cell HBX.out 1;have hfz0:=blk_frozen HBX.out 0;have hfz1:=blk_frozen HBX.out 1;have hne1:=blk_ne HT2.out.hR HBX.out (by decide);have hne2:=blk_ne HBX.out HT2.out.hR (by decide)))
 have hneE:=blk_ne HBX.out HT2.out.hE (by decide)
 have HN2:=Ak (Kd.R_ne HT2.out.r2 HBX.out (by decide))
 have HT3:=Ak ((HT2.out.side HGE.out hneE hne2 HN2.out HNB.out 0 (.string x)).side HGE.out hneE hne2 HN2.out HNB.out 1 (.int .i64 0))
 have HB3:=Ak (blk_put (cs':=#[.string x,.int .i64 0]) (blk_put (cs':=#[.string x,.int .i64 0]) HBX.out 0 (.string x) rfl) 1 (.int .i64 0) rfl)
 clear HT2 HBX hr0 hb0 hb1 hfz0 hfz1
 generalize (w2.setCell ⟨B,0,none⟩ (.string x)).setCell ⟨B,1,none⟩ (.int .i64 0)=w3 at HT3 HB3 ⊢
 refine (num_calls P w3 g (aftT l) (badT l bad) HT3.out.rd HT3.out.by_).mono ?_
 rintro e w4 ⟨rfl,hI,hb,hk⟩
 have HB4:=Ak (hk.blk HB3.out (by have:=HT3.out.gN;have:=HGE.out;omega) (by simp))
 have HT4:=Ak (HT3.out.read hI hb hk (aft_bytes HT3.out.by_))
 clear HT3 HB3 hI hb hk
 obtain ⟨n,hn⟩:∃ n,n=numOf (aftT l):=⟨_,rfl⟩
 rw [←hn]
 have HNU:=Ak hn
 clear hn
 have HT5:=Ak (HT4.out.side HGE.out hneE hne2 HN2.out HNB.out 1 (.int .i64 n))
 have HB5:=Ak (blk_put (cs':=#[.string x,.int .i64 n]) HB4.out 1 (.int .i64 n) rfl)
 have hb0:=blk_cell HB4.out 0
 have hb1:=blk_cell HB4.out 1
 have hfz1:=blk_frozen HB4.out 1
 go_upto_region 2 with (fail)
 clear hb0 hb1 hfz1 HT4 HB4
 generalize w4.setCell ⟨B,1,none⟩ (.int .i64 n)=w5 at HT5 HB5 ⊢
 have he3:=blk_cell HT5.out.hE 3
 have hc0:=blk_cell HB5.out 0
 have hc1:=blk_cell HB5.out 1
 obtain ⟨A3,c3,e3⟩:=Kd.R_slice HT5.out.r3
 subst e3
 go_wp2_with (((with_reducible refine gate_builtin (b:=.append) (xs:=#[.tmp 10,.tmp 12]) rfl ?_);at_builtin;refine Kd.R_append k90 (w0:=_) w0.heap.size rfl (.tmp 10) (.tmp 12) 27 90 (.agg #[.string ⟨#[]⟩,.int .i64 0]) 24 rfl Tryz.underlying27 info_field rfl (by decide) (by omega) (.slice A3 fl.length c3) fl ⟨x,n⟩ [.string x,.int .i64 n] (fun _=>True) (fun _=>False) rfl rfl (k90_mkM _ _ _ _) (fun _ hk=>hk.elim) (fun _ _=>trivial) HT5.out.r3 (Below.refl _ _) HT5.out.keep.1 (by omega) ?_;intro v w6 ho hb hg hat;have HO:=Ak ho;have HBl:=Ak hb;have HG:=Ak hg;clear ho hb hg hat;obtain ⟨Av,cv,ev_⟩:=Kd.R_slice HO.out;subst ev_;have hfz:=blk_frozen (blk_grown HT5.out.hE HG.out (Kd.R_ne HT5.out.r3 HT5.out.hE (by decide))) 3;have hce:=(blk_cell (blk_grown HT5.out.hE HG.out (Kd.R_ne HT5.out.r3 HT5.out.hE (by decide))) 3)))
 go_end0
 refine ⟨rfl,.slice Av (fl.length+1) cv,?_⟩
 rw [←HX.out,←HNU.out]
 have hq:=HT5.out.push3 HO.out HBl.out HG.out
 rw [List.length_append,List.length_singleton] at hq
 exact hq
end Go.Proofs.YtocpcnmnhckcpaaGreat.Num
namespace Go.Proofs.YtocpcnmnhckcpaaGreat.Prt
open RowKit YtocpcnmnhckcpaaGreatW.PrintWords YtocpcnmnhckcpaaGreatW.PrintLast YtocpcnmnhckcpaaGreatW.PrintMore
attribute [local go_sem] max2_int min2_int max_two min_two max_three min_three max_four min_four
def event_names.l0:Nat→List ByteArray→List (S90)→Int→Int→Option (List ByteArray)
 | 0,_,_,_,_=>none
 | k+1,x3,x6,x7,x8=>if x8 < x7 then (if 0≤x8 then (if x8 < (x6.length:Int) then (if x3.length < 8796093022208 then (event_names.l0 k (x3++[(rd_T90 x6 x8).f0]) x6 x7 (wrap64 (x8+1))) else (none)) else (none)) else (none)) else (some x3)
def event_names.f (k:Nat) (l0:List (S90)):Option (List ByteArray):=event_names.l0 k ([]:List ByteArray) l0 (l0.length:Int) 0
set_option maxHeartbeats 8000000 in
set_option maxRecDepth 100000 in
theorem event_names.calls (k:Nat) (A0:Option Addr) (c0:Nat) (l0:List (S90)) (r:List ByteArray) (w:World) (hr0:Kd.C k90 w A0 l0.length l0) (hc0:l0.length≤c0) (h:event_names.f k l0=some r) :
  Calls Tryz.prog 75 #[.slice A0 l0.length c0] w fun e w'=>∃ v0_:Value,e = .returned (v0_)∧Kd.R Kd.string 9 w' w.heap.size (fun _=>True) v0_ r∧Below w.heap.size w w':=by
 have hu90:=Tryz.underlying90
 have HR0:=Ak hr0
 have HC0:=Ak hc0
 clear hr0 hc0
 have HB:=Ak (Below.refl w.heap.size w)
 have H:(event_names.l0 k ([]:List ByteArray) l0 (l0.length:Int) 0)=some r:=h
 clear h
 have H':=Ak H
 clear H
 go_enter Tryz.func75,Tryz.ntmps75
 go_wp2
 go_loopg [3,8] k (fun kq v3 v8 w'=>∃ (x3_1:List ByteArray) (x8_1:Int),v8 = .int .i64 x8_1∧Aside0 (event_names.l0 kq x3_1 l0 (l0.length:Int) x8_1=some r)∧Aside0 (kq≤k)∧Aside0 (Kd.R Kd.string 9 w' w.heap.size (fun _=>True) v3 x3_1)∧Aside0 (Below w.heap.size w w'))
 case atStart=>exact ⟨(([]:List ByteArray)),(0),(by rfl),H',⟨Nat.le_refl _⟩,⟨by exact Kd.R_nil _ _ _ _ _⟩,⟨by with_reducible exact HB.out⟩⟩
 case round=>
  clear H'
  obtain ⟨x3_1,x8_1,rfl,HA,HK1,HO_3,HB⟩:=hrel
  cases gk with
  | zero=>exact absurd HA.out (by simp [event_names.l0])
  | succ k1=>
   have H:=HA.out
   clear HA
   simp only [event_names.l0] at H
   by_cases c2:x8_1 < (l0.length:Int)
   ·rw [if_pos c2] at H
    have c2b0:decide (x8_1 < (l0.length:Int))=true:=decide_eq_true c2
    clear c2
    by_cases c3:0≤x8_1
    ·rw [if_pos c3] at H
     have c3b0:decide (0≤x8_1)=true:=decide_eq_true c3
     clear c3
     by_cases c4:x8_1 < (l0.length:Int)
     ·rw [if_pos c4] at H
      have c4b0:decide (x8_1 < (l0.length:Int))=true:=decide_eq_true c4
      clear c4
      by_cases c5:x3_1.length < 8796093022208
      ·rw [if_pos c5] at H
       have LMc5:=Ak c5
       clear c5
       obtain ⟨y115,hy115⟩:∃ y_:List ByteArray,y_=(x3_1++[(rd_T90 l0 x8_1).f0]):=⟨_,rfl⟩
       replace H:(event_names.l0 k1 y115 l0 (l0.length:Int) (wrap64 (x8_1+1)))=some r:=by (rw [hy115];with_reducible exact H)
       have Ny115:=Ak hy115
       clear hy115
       have H':=Ak H
       clear H
       have p113:0≤(x8_1:Int):=of_decide_eq_true (by (with_reducible assumption))
       have q113:x8_1 < (l0.length:Int):=of_decide_eq_true (by (with_reducible assumption))
       obtain ⟨ad113,e113,hx113_0,hx113_1⟩:=at_T90 HR0.out x8_1 p113 q113
       cases e113
       replace hx113_0:=(HB.out.cell (World.block_lt_of_cell? w _ hx113_0)).trans hx113_0
       replace hx113_1:=(HB.out.cell (World.block_lt_of_cell? w _ hx113_1)).trans hx113_1
       replace p113:=eq_true p113
       replace q113:=eq_true q113
       go_wp2_with (first | ((with_reducible refine gate_dst (N:=5) rfl ?_);refine box_event ?hg (N:=5) ?hd (cs:=#[.string (⟨#[]⟩:ByteArray),.int .i64 0]) (t:=90) ?hr ?_;(case hd=>rfl);(case hg=>rfl);(case hr=>(go_simp;done));intro gb114 hg w6 hbox hb;have n0_:=Ak (Kd.R_below HO_3.out hb);have n1_:=Ak (below_step HB.out hb);have n2_:=Ak (hbox);have n3_:=Ak ((by rw [hg];exact (below_size HB.out):w.heap.size≤gb114));have n4_:=Ak ((by rw [hg];exact (below_size HB.out):w.heap.size≤gb114));clear HO_3;clear HB;have HO_3:=n0_;have HB:=n1_;have BK114:=n2_;have GW114:=n3_;have GE114:=n4_;clear n0_ n1_ n2_ n3_ n4_;clear hb hbox hg;have hcz7_0:w6.cell? ⟨gb114,0,none⟩=some (.string (⟨#[]⟩:ByteArray)):=(blk_cell BK114.out 0).trans rfl;have hcz7_1:w6.cell? ⟨gb114,1,none⟩=some (.int .i64 0):=(blk_cell BK114.out 1).trans rfl;have hfz7_0:=blk_frozen BK114.out 0;have hfz7_1:=blk_frozen BK114.out 1) | ((with_reducible refine gate_builtin (b:=.append) (xs:=#[.tmp 12,.tmp 15]) rfl ?_);at_builtin;refine Kd.R_append Kd.string (w0:=w) w.heap.size rfl (.tmp 12) (.tmp 15) 26 9 (.string ⟨#[]⟩) 16 rfl Tryz.underlying26 info9 rfl (by decide) (by omega) u3 x3_1 ((rd_T90 l0 x8_1).f0) [.string ((rd_T90 l0 x8_1).f0)] (fun _=>True) (fun _=>False) rfl (by (go_simp;done)) ?aP (fun _ hk=>hk.elim) ?aF ?aO ?aB ?aS ?aL ?_;(case aP=>exact rfl);(case aB=>exact (by repeat (with_reducible first | exact HB.out | refine below_set ?_ GE114.out)));(case aF=>exact (fun _ _=>trivial));(case aO=>exact (by exact Kd.R_mono (Kd.R_far (p:=⟨gb114,1,none⟩) (Kd.R_far (p:=⟨gb114,0,none⟩) (Kd.R_types HO_3.out BK114.out (by decide)) (fun _ hk=>hk.2) (.string ((rd_T90 l0 x8_1).f0))) (fun _ hk=>hk.2) (.int .i64 ((rd_T90 l0 x8_1).f1))) (fun _ hk=>trivial)));(case aS=>exact (below_size (by repeat (with_reducible first | exact HB.out | refine below_set ?_ GE114.out))));(case aL=>have:=LMc5.out;omega);intro v116 w8 ho hb hg hat;rw [←Ny115.out] at ho;have n0_:=Ak (blk_grown (g:=gb114) (o:=.cells #[.string ((rd_T90 l0 x8_1).f0),.int .i64 ((rd_T90 l0 x8_1).f1)] 90 (0,0)) (by refine blk_put (cs:=#[.string ((rd_T90 l0 x8_1).f0),.int .i64 0]) ?_ 1 _ rfl;refine blk_put (cs:=#[.string (⟨#[]⟩:ByteArray),.int .i64 0]) ?_ 0 _ rfl;exact BK114.out) hg (Kd.R_ne HO_3.out BK114.out (by decide)));have n1_:=Ak (hb);have n2_:=Ak (ho);clear BK114;clear HB;clear HO_3;have BK114:=n0_;have HB:=n1_;have HO117:=n2_;clear n0_ n1_ n2_;clear ho hb hg hat))
       go_roundg k1
       case measure=>have:=HK1.out;omega
       case rel=>exact ⟨(y115),(wrap64 (x8_1+1)),(by rfl),H',⟨by have:=HK1.out;omega⟩,⟨by exact HO117.out⟩,⟨by with_reducible exact HB.out⟩⟩
      ·rw [if_neg c5] at H
       exact absurd H (by simp)
     ·rw [if_neg c4] at H
      exact absurd H (by simp)
    ·rw [if_neg c3] at H
     exact absurd H (by simp)
   ·rw [if_neg c2] at H
    have c2b0:decide (x8_1 < (l0.length:Int))=false:=decide_eq_false c2
    clear c2
    obtain rfl:=Option.some.inj H
    go_wp2
    go_ret
    exact ⟨_,by rfl,by exact HO_3.out,by with_reducible exact HB.out⟩
end Go.Proofs.YtocpcnmnhckcpaaGreat.Prt
namespace Go.Proofs.YtocpcnmnhckcpaaGreat.Nam
open RowKit YtocpcnmnhckcpaaGreatW.PrintWords YtocpcnmnhckcpaaGreatW.PrintLast YtocpcnmnhckcpaaGreatW.PrintMore YtocpcnmnhckcpaaGreat.Num YtocpcnmnhckcpaaGreat.Prt
theorem idxStr (p:ByteArray→Bool) (G:Nat) (q:Value) (A:Option Addr) (c:Nat) (l:List ByteArray) (w:World) (hC:Kd.C Kd.string w A l.length l)
  (hent:∀ (xs:Array Value) (W:World),(callFunc G xs).run Tryz.prog W = .ok (.enter G xs) W)
  (hf:∀ x ∈ l,∀ w1,Below w.heap.size w w1→Calls Tryz.prog G #[.string x,q] w1 fun e w2=>e = .returned (.bool (p x))∧Below w1.heap.size w1 w2) :
  Calls Tryz.prog 102 #[.slice A l.length c,.func (.func G) #[] #[q]] w fun e w'=>∃ r:Int,e = .returned (.int .i64 r)∧decide (0≤r)=l.any p∧Below w.heap.size w w':=by
 have HC:=Ak hC
 have HF:=Ak hf
 have hn:=Kd.C_max hC
 clear hC hf
 go_enter Tryz.func102,Tryz.ntmps102
 go_wp2
 go_loopg [8] (l.length) (fun k v8 w'=>∃ i:Nat,v8 = .int .i64 (i:Int)∧Aside0 (i+k=l.length)∧Aside0 ((l.take i).any p=false)∧Aside0 (Below w.heap.size w w'))
 case atStart=>exact ⟨0,rfl,⟨by omega⟩,⟨by simp⟩,⟨Below.refl _ _⟩⟩
 case round=>
  obtain ⟨i,rfl,HE,HN,HB⟩:=hrel
  by_cases hlt:i < l.length
  ·have hb1:decide ((i:Int) < (l.length:Int))=true:=decide_eq_true (by omega)
   obtain ⟨ad,e_,hx⟩:=Kd.at_string (Kd.C_below HC.out HB.out) (i:Int) (by omega) (by omega)
   cases e_
   rw [Int.toNat_natCast] at hx
   obtain ⟨x,hx0⟩:∃ x,x=rdOf ByteArray.empty l (i:Int):=⟨_,rfl⟩
   rw [←hx0] at hx
   have hxm:x ∈ l:=by rw [hx0];exact getD_mem' hlt _
   have hstep:(l.take (i+1)).any p=p x:=by rw [take_any p l i hlt ByteArray.empty,HN.out,hx0];rfl
   have HS:=Ak hstep
   have HCALL:=Ak (HF.out x hxm wr HB.out)
   clear hx0 hxm hstep
   cases hp:p x with
   | true=>
    have HP:=Ak hp
    clear hp
    go_wp2_with fail
    refine HCALL.out.mono ?_
    rintro e w2 ⟨rfl,hb2⟩
    rw [HP.out]
    have HB2:=Ak hb2
    clear hb2
    go_wp2
    go_ret
    refine ⟨_,rfl,?_,below_step HB.out HB2.out⟩
    rw [any_of_take (HS.out.trans HP.out)]
    exact decide_eq_true (by omega)
   | false=>
    have HP:=Ak hp
    clear hp
    go_wp2_with fail
    refine HCALL.out.mono ?_
    rintro e w2 ⟨rfl,hb2⟩
    rw [HP.out]
    have HB2:=Ak hb2
    clear hb2
    go_wp2
    go_roundg (l.length - (i+1))
    case measure=>have:=HE.out;omega
    case rel=>exact ⟨i+1,by go_num,⟨by have:=HE.out;omega⟩,⟨HS.out.trans HP.out⟩,⟨below_step HB.out HB2.out⟩⟩
  ·have hb1:decide ((i:Int) < (l.length:Int))=false:=decide_eq_false (by omega)
   go_wp2
   go_ret
   refine ⟨_,rfl,?_,HB.out⟩
   have:=HN.out
   rw [take_any_all p l i (by omega)] at this
   rw [this];rfl
theorem idxFld (p:S90→Bool) (G:Nat) (A:Option Addr) (c:Nat) (l:List S90) (w:World) (hC:Kd.C k90 w A l.length l)
  (hent:∀ (xs:Array Value) (W:World),(callFunc G xs).run Tryz.prog W = .ok (.enter G xs) W)
  (hf:∀ x ∈ l,∀ w1,Below w.heap.size w w1→Calls Tryz.prog G #[.agg #[.string x.f0,.int .i64 x.f1]] w1 fun e w2=>e = .returned (.bool (p x))∧Below w1.heap.size w1 w2) :
  Calls Tryz.prog 105 #[.slice A l.length c,.func (.func G) #[] #[]] w fun e w'=>∃ r:Int,e = .returned (.int .i64 r)∧decide (0≤r)=l.any p∧Below w.heap.size w w':=by
 have HC:=Ak hC
 have HF:=Ak hf
 have hn:=Kd.C_max hC
 clear hC hf
 have hu90:=Tryz.underlying90
 go_enter Tryz.func105,Tryz.ntmps105
 go_wp2
 go_loopg [8] (l.length) (fun k v8 w'=>∃ i:Nat,v8 = .int .i64 (i:Int)∧Aside0 (i+k=l.length)∧Aside0 ((l.take i).any p=false)∧Aside0 (Below w.heap.size w w'))
 case atStart=>exact ⟨0,rfl,⟨by omega⟩,⟨by simp⟩,⟨Below.refl _ _⟩⟩
 case round=>
  obtain ⟨i,rfl,HE,HN,HB⟩:=hrel
  by_cases hlt:i < l.length
  ·have hb1:decide ((i:Int) < (l.length:Int))=true:=decide_eq_true (by omega)
   obtain ⟨ad,e_,hx,hx1⟩:=at_T90 (Kd.C_below HC.out HB.out) (i:Int) (by omega) (by omega)
   cases e_
   rw [Int.toNat_natCast] at hx hx1
   obtain ⟨x,hx0⟩:∃ x,x=rd_T90 l (i:Int):=⟨_,rfl⟩
   rw [←hx0] at hx hx1
   have hxm:x ∈ l:=by rw [hx0];exact getD_mem' hlt _
   have hstep:(l.take (i+1)).any p=p x:=by rw [take_any p l i hlt z90,HN.out,hx0];rfl
   have HS:=Ak hstep
   have HCALL:=Ak (HF.out x hxm wr HB.out)
   clear hx0 hxm hstep
   cases hp:p x with
   | true=>
    have HP:=Ak hp
    clear hp
    go_wp2_with fail
    refine HCALL.out.mono ?_
    rintro e w2 ⟨rfl,hb2⟩
    rw [HP.out]
    have HB2:=Ak hb2
    clear hb2
    go_wp2
    go_ret
    refine ⟨_,rfl,?_,below_step HB.out HB2.out⟩
    rw [any_of_take (HS.out.trans HP.out)]
    exact decide_eq_true (by omega)
   | false=>
    have HP:=Ak hp
    clear hp
    go_wp2_with fail
    refine HCALL.out.mono ?_
    rintro e w2 ⟨rfl,hb2⟩
    rw [HP.out]
    have HB2:=Ak hb2
    clear hb2
    go_wp2
    go_roundg (l.length - (i+1))
    case measure=>have:=HE.out;omega
    case rel=>exact ⟨i+1,by go_num,⟨by have:=HE.out;omega⟩,⟨HS.out.trans HP.out⟩,⟨below_step HB.out HB2.out⟩⟩
  ·have hb1:decide ((i:Int) < (l.length:Int))=false:=decide_eq_false (by omega)
   go_wp2
   go_ret
   refine ⟨_,rfl,?_,HB.out⟩
   have:=HN.out
   rw [take_any_all p l i (by omega)] at this
   rw [this];rfl
theorem contStr (p:ByteArray→Bool) (G:Nat) (q:Value) (A:Option Addr) (c:Nat) (l:List ByteArray) (w:World) (hC:Kd.C Kd.string w A l.length l)
  (hent:∀ (xs:Array Value) (W:World),(callFunc G xs).run Tryz.prog W = .ok (.enter G xs) W)
  (hf:∀ x ∈ l,∀ w1,Below w.heap.size w w1→Calls Tryz.prog G #[.string x,q] w1 fun e w2=>e = .returned (.bool (p x))∧Below w1.heap.size w1 w2) :
  Calls Tryz.prog 78 #[.slice A l.length c,.func (.func G) #[] #[q]] w fun e w'=>e = .returned (.bool (l.any p))∧Below w.heap.size w w':=by
 have H:=idxStr p G q A c l w hC hent hf
 clear hC hent hf
 go_enter Tryz.func78,Tryz.ntmps78
 go_wp2_with fail
 refine H.mono ?_
 rintro e w2 ⟨r,rfl,hd,hb⟩
 go_wp2
 go_ret
 exact ⟨by rfl,hb⟩
theorem contFld (p:S90→Bool) (G:Nat) (A:Option Addr) (c:Nat) (l:List S90) (w:World) (hC:Kd.C k90 w A l.length l)
  (hent:∀ (xs:Array Value) (W:World),(callFunc G xs).run Tryz.prog W = .ok (.enter G xs) W)
  (hf:∀ x ∈ l,∀ w1,Below w.heap.size w w1→Calls Tryz.prog G #[.agg #[.string x.f0,.int .i64 x.f1]] w1 fun e w2=>e = .returned (.bool (p x))∧Below w1.heap.size w1 w2) :
  Calls Tryz.prog 82 #[.slice A l.length c,.func (.func G) #[] #[]] w fun e w'=>e = .returned (.bool (l.any p))∧Below w.heap.size w w':=by
 have H:=idxFld p G  A c l w hC hent hf
 clear hC hent hf
 go_enter Tryz.func82,Tryz.ntmps82
 go_wp2_with fail
 refine H.mono ?_
 rintro e w2 ⟨r,rfl,hd,hb⟩
 go_wp2
 go_ret
 exact ⟨by rfl,hb⟩
end Go.Proofs.YtocpcnmnhckcpaaGreat.Nam
namespace Go.Proofs.YtocpcnmnhckcpaaGreat.Prt
open RowKit YtocpcnmnhckcpaaGreatW.PrintWords YtocpcnmnhckcpaaGreatW.PrintLast YtocpcnmnhckcpaaGreatW.PrintMore
attribute [local go_sem] max2_int min2_int max_two min_two max_three min_three max_four min_four
def event_May_1.f (a0_0:ByteArray) (a0_1:Int):Option (Bool):=if a0_1 < (-1099511627776) then (some true) else (some (decide (a0_1 > 1099511627776)))
set_option maxHeartbeats 8000000 in
set_option maxRecDepth 100000 in
theorem event_May_1.calls (a0_0:ByteArray) (a0_1:Int) (r:Bool) (w:World) (h:event_May_1.f a0_0 a0_1=some r) :
  Calls Tryz.prog 76 #[.agg #[.string a0_0,.int .i64 a0_1]] w fun e w'=>e = .returned (.bool r)∧Below w.heap.size w w':=by
 have hu90:=Tryz.underlying90
 have HB:=Ak (Below.refl w.heap.size w)
 have H:(if a0_1 < (-1099511627776) then (some true) else (some (decide (a0_1 > 1099511627776))))=some r:=h
 clear h
 by_cases c2:a0_1 < (-1099511627776)
 ·rw [if_pos c2] at H
  have c2b0:decide (a0_1 < (-1099511627776))=true:=decide_eq_true c2
  clear c2
  obtain rfl:=Option.some.inj H
  go_enter Tryz.func76,Tryz.ntmps76
  go_wp2_with (((with_reducible refine gate_dst (N:=1) rfl ?_);refine box_event ?hg (N:=1) ?hd (cs:=#[.string a0_0,.int .i64 a0_1]) (t:=90) ?hr ?_;(case hd=>rfl);(case hg=>rfl);(case hr=>(go_simp;done));intro gb101 hg w3 hbox hb;have n0_:=Ak (below_step HB.out hb);have n1_:=Ak (hbox);have n2_:=Ak ((by rw [hg];exact (below_size HB.out):w.heap.size≤gb101));have n3_:=Ak ((by rw [hg];exact (below_size HB.out):w.heap.size≤gb101));clear HB;have HB:=n0_;have BK101:=n1_;have GW101:=n2_;have GE101:=n3_;clear n0_ n1_ n2_ n3_;clear hb hbox hg;have hcz4_0:w3.cell? ⟨gb101,0,none⟩=some (.string a0_0):=(blk_cell BK101.out 0).trans rfl;have hcz4_1:w3.cell? ⟨gb101,1,none⟩=some (.int .i64 a0_1):=(blk_cell BK101.out 1).trans rfl;have hfz4_0:=blk_frozen BK101.out 0;have hfz4_1:=blk_frozen BK101.out 1))
  go_ret
  exact ⟨by rfl,by with_reducible exact HB.out⟩
 ·rw [if_neg c2] at H
  have c2b0:decide (a0_1 < (-1099511627776))=false:=decide_eq_false c2
  clear c2
  obtain rfl:=Option.some.inj H
  go_enter Tryz.func76,Tryz.ntmps76
  go_wp2_with (((with_reducible refine gate_dst (N:=1) rfl ?_);refine box_event ?hg (N:=1) ?hd (cs:=#[.string a0_0,.int .i64 a0_1]) (t:=90) ?hr ?_;(case hd=>rfl);(case hg=>rfl);(case hr=>(go_simp;done));intro gb101 hg w5 hbox hb;have n0_:=Ak (below_step HB.out hb);have n1_:=Ak (hbox);have n2_:=Ak ((by rw [hg];exact (below_size HB.out):w.heap.size≤gb101));have n3_:=Ak ((by rw [hg];exact (below_size HB.out):w.heap.size≤gb101));clear HB;have HB:=n0_;have BK101:=n1_;have GW101:=n2_;have GE101:=n3_;clear n0_ n1_ n2_ n3_;clear hb hbox hg;have hcz6_0:w5.cell? ⟨gb101,0,none⟩=some (.string a0_0):=(blk_cell BK101.out 0).trans rfl;have hcz6_1:w5.cell? ⟨gb101,1,none⟩=some (.int .i64 a0_1):=(blk_cell BK101.out 1).trans rfl;have hfz6_0:=blk_frozen BK101.out 0;have hfz6_1:=blk_frozen BK101.out 1))
  go_ret
  exact ⟨by rfl,by with_reducible exact HB.out⟩
end Go.Proofs.YtocpcnmnhckcpaaGreat.Prt
namespace Go.Proofs.YtocpcnmnhckcpaaGreat.Prt
open RowKit YtocpcnmnhckcpaaGreatW.PrintWords YtocpcnmnhckcpaaGreatW.PrintLast YtocpcnmnhckcpaaGreatW.PrintMore
attribute [local go_sem] max2_int min2_int max_two min_two max_three min_three max_four min_four
def event_rise.l0:Nat→List ByteArray→List ByteArray→Int→Int→Option (Bool)
 | 0,_,_,_,_=>none
 | k+1,x0,x5,x6,x7=>if x7 < x6 then (if 0≤x7 then (if x7 < (x5.length:Int) then (if x7 > 0 then (if 0≤(wrap64 (x7 - 1)) then (if (wrap64 (x7 - 1)) < (x0.length:Int) then (if ((Op.bytesLess ((rdOf ByteArray.empty x0 (wrap64 (x7 - 1))).toList) ((rdOf ByteArray.empty x5 x7).toList))=true) then (event_rise.l0 k x0 x5 x6 (wrap64 (x7+1))) else (some false)) else (none)) else (none)) else (event_rise.l0 k x0 x5 x6 (wrap64 (x7+1)))) else (none)) else (none)) else (some true)
def event_rise.f (k:Nat) (l0:List ByteArray):Option (Bool):=event_rise.l0 k l0 l0 (l0.length:Int) 0
set_option maxHeartbeats 8000000 in
set_option maxRecDepth 100000 in
theorem event_rise.calls (k:Nat) (A0:Option Addr) (c0:Nat) (l0:List ByteArray) (r:Bool) (w:World) (hr0:Kd.C Kd.string w A0 l0.length l0) (hc0:l0.length≤c0) (h:event_rise.f k l0=some r) :
  Calls Tryz.prog 81 #[.slice A0 l0.length c0] w fun e w'=>e = .returned (.bool r)∧Drawn0 w w':=by
 have HR0:=Ak hr0
 have HC0:=Ak hc0
 clear hr0 hc0
 have H:(event_rise.l0 k l0 l0 (l0.length:Int) 0)=some r:=h
 clear h
 have H':=Ak H
 clear H
 go_enter Tryz.func81,Tryz.ntmps81
 go_wp2
 go_loopg [7] k (fun kq v7 w'=>∃ (x7_1:Int),v7 = .int .i64 x7_1∧Aside0 (event_rise.l0 kq l0 l0 (l0.length:Int) x7_1=some r)∧Aside0 (kq≤k)∧Drawn0 w w')
 case atStart=>exact ⟨(0),(by rfl),H',⟨Nat.le_refl _⟩,by repeat (exact Drawn0.refl _)⟩
 case round=>
  clear H'
  obtain ⟨x7_1,rfl,HA,HK1,⟨m1,rfl⟩⟩:=hrel
  cases gk with
  | zero=>exact absurd HA.out (by simp [event_rise.l0])
  | succ k1=>
   have H:=HA.out
   clear HA
   simp only [event_rise.l0] at H
   by_cases c2:x7_1 < (l0.length:Int)
   ·rw [if_pos c2] at H
    have c2b0:decide (x7_1 < (l0.length:Int))=true:=decide_eq_true c2
    clear c2
    by_cases c3:0≤x7_1
    ·rw [if_pos c3] at H
     have c3b0:decide (0≤x7_1)=true:=decide_eq_true c3
     clear c3
     by_cases c4:x7_1 < (l0.length:Int)
     ·rw [if_pos c4] at H
      have c4b0:decide (x7_1 < (l0.length:Int))=true:=decide_eq_true c4
      clear c4
      by_cases c5:x7_1 > 0
      ·rw [if_pos c5] at H
       have c5b0:decide (0 < x7_1)=true:=decide_eq_true c5
       clear c5
       obtain ⟨ji6,hji6⟩:∃ j_:Int,(wrap64 (x7_1 - 1))=j_:=⟨_,rfl⟩
       replace H:(if 0≤(ji6) then (if (ji6) < (l0.length:Int) then (if ((Op.bytesLess ((rdOf ByteArray.empty l0 (ji6)).toList) ((rdOf ByteArray.empty l0 x7_1).toList))=true) then (event_rise.l0 k1 l0 l0 (l0.length:Int) (wrap64 (x7_1+1))) else (some false)) else (none)) else (none))=some r:=by (rw [hji6] at H;exact H)
       have hji6w:(IntKind.i64.wrap (x7_1 - 1))=ji6:=(i64_w _).trans hji6
       by_cases c7:0≤(ji6)
       ·rw [if_pos c7] at H
        have c7b0:decide (0≤(ji6))=true:=decide_eq_true c7
        clear c7
        by_cases c8:(ji6) < (l0.length:Int)
        ·rw [if_pos c8] at H
         have c8b0:decide ((ji6) < (l0.length:Int))=true:=decide_eq_true c8
         clear c8
         by_cases c9:((Op.bytesLess ((rdOf ByteArray.empty l0 (ji6)).toList) ((rdOf ByteArray.empty l0 x7_1).toList))=true)
         ·rw [if_pos c9] at H
          have c9b0:(Op.bytesLess ((rdOf ByteArray.empty l0 (ji6)).toList) ((rdOf ByteArray.empty l0 x7_1).toList))=true:=c9
          clear c9
          have H':=Ak H
          clear H
          have p118:0≤(x7_1:Int):=of_decide_eq_true (by (with_reducible assumption))
          have q118:x7_1 < (l0.length:Int):=of_decide_eq_true (by (with_reducible assumption))
          obtain ⟨ad118,e118,hx118_0⟩:=Kd.at_string HR0.out x7_1 p118 q118
          cases e118
          replace p118:=eq_true p118
          replace q118:=eq_true q118
          have p119:0≤((ji6):Int):=of_decide_eq_true (by (with_reducible assumption))
          have q119:(ji6) < (l0.length:Int):=of_decide_eq_true (by (with_reducible assumption))
          obtain ⟨ad119,e119,hx119_0⟩:=Kd.at_string HR0.out (ji6) p119 q119
          obtain rfl:ad118=ad119:=(by injection e119)
          replace p119:=eq_true p119
          replace q119:=eq_true q119
          go_wp2
          go_roundg k1
          case measure=>have:=HK1.out;omega
          case rel=>exact ⟨(wrap64 (x7_1+1)),(by rfl),H',⟨by have:=HK1.out;omega⟩,by repeat (first | exact Drawn0.refl _ | apply Drawn0.step)⟩
         ·rw [if_neg c9] at H
          have c9b0:(Op.bytesLess ((rdOf ByteArray.empty l0 (ji6)).toList) ((rdOf ByteArray.empty l0 x7_1).toList))=false:=by simpa using c9
          clear c9
          obtain rfl:=Option.some.inj H
          have p118:0≤(x7_1:Int):=of_decide_eq_true (by (with_reducible assumption))
          have q118:x7_1 < (l0.length:Int):=of_decide_eq_true (by (with_reducible assumption))
          obtain ⟨ad118,e118,hx118_0⟩:=Kd.at_string HR0.out x7_1 p118 q118
          cases e118
          replace p118:=eq_true p118
          replace q118:=eq_true q118
          have p119:0≤((ji6):Int):=of_decide_eq_true (by (with_reducible assumption))
          have q119:(ji6) < (l0.length:Int):=of_decide_eq_true (by (with_reducible assumption))
          obtain ⟨ad119,e119,hx119_0⟩:=Kd.at_string HR0.out (ji6) p119 q119
          obtain rfl:ad118=ad119:=(by injection e119)
          replace p119:=eq_true p119
          replace q119:=eq_true q119
          go_wp2
          go_ret
          exact ⟨by rfl,by repeat (first | exact Drawn0.refl _ | apply Drawn0.step)⟩
        ·rw [if_neg c8] at H
         exact absurd H (by simp)
       ·rw [if_neg c7] at H
        exact absurd H (by simp)
      ·rw [if_neg c5] at H
       have c5b0:decide (0 < x7_1)=false:=decide_eq_false c5
       clear c5
       have H':=Ak H
       clear H
       have p118:0≤(x7_1:Int):=of_decide_eq_true (by (with_reducible assumption))
       have q118:x7_1 < (l0.length:Int):=of_decide_eq_true (by (with_reducible assumption))
       obtain ⟨ad118,e118,hx118_0⟩:=Kd.at_string HR0.out x7_1 p118 q118
       cases e118
       replace p118:=eq_true p118
       replace q118:=eq_true q118
       go_wp2
       go_roundg k1
       case measure=>have:=HK1.out;omega
       case rel=>exact ⟨(wrap64 (x7_1+1)),(by rfl),H',⟨by have:=HK1.out;omega⟩,by repeat (first | exact Drawn0.refl _ | apply Drawn0.step)⟩
     ·rw [if_neg c4] at H
      exact absurd H (by simp)
    ·rw [if_neg c3] at H
     exact absurd H (by simp)
   ·rw [if_neg c2] at H
    have c2b0:decide (x7_1 < (l0.length:Int))=false:=decide_eq_false c2
    clear c2
    obtain rfl:=Option.some.inj H
    go_wp2
    go_ret
    exact ⟨by rfl,by repeat (first | exact Drawn0.refl _ | apply Drawn0.step)⟩
end Go.Proofs.YtocpcnmnhckcpaaGreat.Prt
namespace Go.Proofs.YtocpcnmnhckcpaaGreat.Nam
open RowKit YtocpcnmnhckcpaaGreatW.PrintWords YtocpcnmnhckcpaaGreatW.PrintLast YtocpcnmnhckcpaaGreatW.PrintMore YtocpcnmnhckcpaaGreat.Num YtocpcnmnhckcpaaGreat.Prt
theorem rise_loop (l:List ByteArray) (hl:l.length≤9223372036854775807):∀ (d i k:Nat),i+1+d=l.length→d < k→event_rise.l0 k l l (l.length:Int) ((i+1:Nat):Int)=some (riseB (l.drop i)):=by
 intro d
 induction d with
 | zero=>
  intro i k hi hk
  obtain ⟨k,rfl⟩:∃ m,k=m+1:=⟨k - 1,by omega⟩
  rw [event_rise.l0,if_neg (by omega),rise_end l i (by omega)]
 | succ d ih=>
  intro i k hi hk
  obtain ⟨k,rfl⟩:∃ m,k=m+1:=⟨k - 1,by omega⟩
  have e1:wrap64 (((i+1:Nat):Int) - 1)=(i:Int):=by rw [wrapI (by omega) (by omega)];omega
  have e2:wrap64 (((i+1:Nat):Int)+1)=((i+1+1:Nat):Int):=by rw [wrapI (by omega) (by omega)];omega
  rw [event_rise.l0,if_pos (by omega),if_pos (by omega),if_pos (by omega),if_pos (by omega),e1,e2,if_pos (by omega),if_pos (by omega),rise_step l i (by omega)]
  have e3:Op.bytesLess (rdOf ByteArray.empty l (i:Int)).toList (rdOf ByteArray.empty l ((i+1:Nat):Int)).toList=lessS (l.getD i ByteArray.empty) (l.getD (i+1) ByteArray.empty):=rfl
  rw [e3]
  cases hs:lessS (l.getD i ByteArray.empty) (l.getD (i+1) ByteArray.empty) with
  | true=>rw [if_pos rfl,ih (i+1) k (by omega) (by omega)];rfl
  | false=>rw [if_neg (by decide)];rfl
theorem rise_val (l:List ByteArray) (hl:l.length≤9223372036854775807):event_rise.f (l.length+1) l=some (riseB l):=by
 unfold event_rise.f
 cases h:l.length with
 | zero=>
  obtain rfl:=List.eq_nil_of_length_eq_zero h
  rfl
 | succ n=>
  have e2:wrap64 (0+1)=((0+1:Nat):Int):=by rw [wrapI (by omega) (by omega)];rfl
  rw [event_rise.l0,if_pos (by omega),if_pos (by omega),if_pos (by omega),if_neg (by omega),e2,←h,rise_loop l hl n 0 (l.length) (by omega) (by omega)]
  rfl
theorem names_loop (l:List S90) (hl:l.length < 8796093022208):∀ (d i k:Nat) (acc:List ByteArray),i+d=l.length→acc.length=i→d < k→event_names.l0 k acc l (l.length:Int) (i:Int)=some (acc++(l.drop i).map (·.f0)):=by
 intro d
 induction d with
 | zero=>
  intro i k acc hi ha hk
  obtain ⟨k,rfl⟩:∃ m,k=m+1:=⟨k - 1,by omega⟩
  rw [event_names.l0,if_neg (by omega),List.drop_eq_nil_of_le (by omega)];simp
 | succ d ih=>
  intro i k acc hi ha hk
  obtain ⟨k,rfl⟩:∃ m,k=m+1:=⟨k - 1,by omega⟩
  have e2:wrap64 ((i:Int)+1)=((i+1:Nat):Int):=by rw [wrapI (by omega) (by omega)];omega
  rw [event_names.l0,if_pos (by omega),if_pos (by omega),if_pos (by omega),if_pos (by omega),e2,ih (i+1) k _ (by omega) (by simp [ha]) (by omega)]
  have e3:l.drop i=rd_T90 l (i:Int) :: l.drop (i+1):=by
   rw [List.drop_eq_getElem_cons (by omega)]
   unfold rd_T90
   rw [Int.toNat_natCast,List.getD_eq_getElem?_getD,List.getElem?_eq_getElem (by omega)];rfl
  rw [e3];simp
theorem names_val (l:List S90) (hl:l.length < 8796093022208):event_names.f (l.length+1) l=some (l.map (·.f0)):=by
 unfold event_names.f
 rw [show (0:Int)=((0:Nat):Int) from rfl,names_loop l hl l.length 0 (l.length+1) [] (by omega) rfl (by omega)];rfl
def overB (x:S90):Bool:=decide (x.f1 < -1099511627776∨1099511627776 < x.f1)
theorem over_val (x:S90):event_May_1.f x.f0 x.f1=some (overB x):=by
 unfold event_May_1.f overB
 split
 ·rw [decide_eq_true (by omega)]
 ·congr 1;rw [Bool.eq_iff_iff,decide_eq_true_iff,decide_eq_true_iff];omega
theorem not_calls (G:Nat) (w:World):Calls Tryz.prog 79 #[.func (.func G) #[] #[]] w fun e w'=>∃ g:Nat,e = .returned (.func (.func 103) #[] #[.pointer (some ⟨g,0,none⟩)])∧w'.cell? ⟨g,0,none⟩=some (.func (.func G) #[] #[])∧g < w'.heap.size∧Below w.heap.size w w':=by
 go_enter Tryz.func79,Tryz.ntmps79
 go_wp2
 go_ret
 refine ⟨_,rfl,?_,?_,below_alloc (Below.refl _ _) _⟩
 ·exact (blk_cell (heap_alloc_new w _) 0).trans rfl
 ·exact blk_lt (heap_alloc_new w _)
theorem notTag (s:ByteArray) (g:Nat) (w:World) (hs:s.size≤9223372036854775807) (hg:w.cell? ⟨g,0,none⟩=some (.func (.func 80) #[] #[])) :
  Calls Tryz.prog 103 #[.string s,.pointer (some ⟨g,0,none⟩)] w fun e w'=>e = .returned (.bool (!tagB s))∧Below w.heap.size w w':=by
 have H:=Ak (mayTag_calls s w hs)
 go_enter Tryz.func103,Tryz.ntmps103
 go_wp2_with fail
 refine H.out.mono ?_
 rintro e w2 ⟨rfl,hb⟩
 go_wp2
 go_ret
 exact ⟨rfl,hb⟩
theorem notTagC (l:List ByteArray) (A:Option Addr) (c:Nat) (g:Nat) (w:World) (hC:Kd.C Kd.string w A l.length l) (hs:∀ s ∈ l,s.size≤9223372036854775807) (hl:g < w.heap.size) (hg:w.cell? ⟨g,0,none⟩=some (.func (.func 80) #[] #[])) :
  Calls Tryz.prog 78 #[.slice A l.length c,.func (.func 103) #[] #[.pointer (some ⟨g,0,none⟩)]] w fun e w'=>e = .returned (.bool (l.any fun s=>!tagB s))∧Below w.heap.size w w':=
 contStr (fun s=>!tagB s) _ _ A c l w hC (enters_of Tryz.func103 (by kernel_rfl) rfl) (fun x hx w1 hb=>notTag x g w1 (hs x hx) ((hb.cell hl).trans hg))
theorem notName (s:ByteArray) (g:Nat) (w:World) (hs:s.size≤9223372036854775807) (hg:w.cell? ⟨g,0,none⟩=some (.func (.func 77) #[] #[])) :
  Calls Tryz.prog 103 #[.string s,.pointer (some ⟨g,0,none⟩)] w fun e w'=>e = .returned (.bool (!mayL (bytesOf s)))∧Below w.heap.size w w':=by
 have H:=Ak (may_calls s w hs)
 go_enter Tryz.func103,Tryz.ntmps103
 go_wp2_with fail
 refine H.out.mono ?_
 rintro e w2 ⟨rfl,hb⟩
 go_wp2
 go_ret
 exact ⟨rfl,hb⟩
theorem notNameC (l:List ByteArray) (A:Option Addr) (c:Nat) (g:Nat) (w:World) (hC:Kd.C Kd.string w A l.length l) (hs:∀ s ∈ l,s.size≤9223372036854775807) (hl:g < w.heap.size) (hg:w.cell? ⟨g,0,none⟩=some (.func (.func 77) #[] #[])) :
  Calls Tryz.prog 78 #[.slice A l.length c,.func (.func 103) #[] #[.pointer (some ⟨g,0,none⟩)]] w fun e w'=>e = .returned (.bool (l.any fun s=>!mayL (bytesOf s)))∧Below w.heap.size w w':=
 contStr (fun s=>!mayL (bytesOf s)) _ _ A c l w hC (enters_of Tryz.func103 (by kernel_rfl) rfl) (fun x hx w1 hb=>notName x g w1 (hs x hx) ((hb.cell hl).trans hg))
theorem overC (l:List S90) (A:Option Addr) (c:Nat) (w:World) (hC:Kd.C k90 w A l.length l) :
  Calls Tryz.prog 82 #[.slice A l.length c,.func (.func 76) #[] #[]] w fun e w'=>e = .returned (.bool (l.any overB))∧Below w.heap.size w w':=
 contFld overB _ A c l w hC (enters_of Tryz.func76 (by kernel_rfl) rfl) (fun x hx w1 hb=>event_May_1.calls x.f0 x.f1 _ w1 (over_val x))
def mayE (s t:ByteArray) (tags:List ByteArray) (fl:List S90):Int:=
 if mayL (bytesOf s)=false∨mayL (bytesOf t)=false then 5 else if 6 < tags.length∨4 < fl.length then 3
 else if (tags.any fun s=>!tagB s)=true∨((fl.map (·.f0)).any fun s=>!mayL (bytesOf s))=true then 5
 else if riseB tags=false∨riseB (fl.map (·.f0))=false∨fl.any overB=true then 1 else 0
theorem fnAt_below {g:Nat} {w w1:World} {v:Value} (h:g < w.heap.size∧w.cell? ⟨g,0,none⟩=some v) (hb:Below w.heap.size w w1):g < w1.heap.size∧w1.cell? ⟨g,0,none⟩=some v:=
 ⟨Nat.lt_of_lt_of_le h.1 hb.size,(hb.cell h.1).trans h.2⟩
theorem notTagB (b:Bool) (l:List ByteArray) (h:(l.any fun s=>!tagB s)=b) (A:Option Addr) (c:Nat) (g:Nat) (w:World) (hC:Kd.C Kd.string w A l.length l) (hs:∀ s ∈ l,s.size≤9223372036854775807) (hl:g < w.heap.size) (hg:w.cell? ⟨g,0,none⟩=some (.func (.func 80) #[] #[])) :
  Calls Tryz.prog 78 #[.slice A l.length c,.func (.func 103) #[] #[.pointer (some ⟨g,0,none⟩)]] w fun e w'=>e = .returned (.bool b)∧Below w.heap.size w w':=h ▸ notTagC l A c g w hC hs hl hg
theorem notNameB (b:Bool) (l:List ByteArray) (h:(l.any fun s=>!mayL (bytesOf s))=b) (A:Option Addr) (c:Nat) (g:Nat) (w:World) (hC:Kd.C Kd.string w A l.length l) (hs:∀ s ∈ l,s.size≤9223372036854775807) (hl:g < w.heap.size) (hg:w.cell? ⟨g,0,none⟩=some (.func (.func 77) #[] #[])) :
  Calls Tryz.prog 78 #[.slice A l.length c,.func (.func 103) #[] #[.pointer (some ⟨g,0,none⟩)]] w fun e w'=>e = .returned (.bool b)∧Below w.heap.size w w':=h ▸ notNameC l A c g w hC hs hl hg
open YtocpcnmnhckcpaaGreatW.PrintLast
def D52.T7:Bool × List (List Nat × List Nat):=(true,[([],[]),([0],[0]),([],[]),([1,2,2],[1,2]),([3,3],[3]),([4],[4]),([4,4],[4]),([5,6,6,4],[4,5,6]),([4,7],[4,7]),([8,7],[8])])
def D52.B7:List Nat:=[0,1,0,7,15,31,31,127,255,511]
theorem D52.tab7:rtab .any (opsOf Tryz.f52 7)=D52.T7:=by kernel_rfl
theorem D52.bits7:waitsOk D52.T7.2 D52.B7=true:=by kernel_rfl
set_option maxHeartbeats 4000000 in
set_option maxRecDepth 100000 in
theorem eventMay_calls (s t:ByteArray) (A2 A3:Option Addr) (c2 c3:Nat) (l2:List ByteArray) (l3:List S90) (w:World) (hr2:Kd.C Kd.string w A2 l2.length l2) (hc2:l2.length≤c2) (hr3:Kd.C k90 w A3 l3.length l3) (hc3:l3.length≤c3)
  (hs:s.size≤9223372036854775807) (ht:t.size≤9223372036854775807) (hzt:∀ x ∈ l2,x.size≤9223372036854775807) (hzf:∀ x ∈ l3,x.f0.size≤9223372036854775807) (hl3:l3.length < 8796093022208) :
  Calls Tryz.prog 52 #[.agg #[.string s,.string t,.slice A2 l2.length c2,.slice A3 l3.length c3]] w fun e w'=>e = .returned (.int .i64 (mayE s t l2 l3))∧Below w.heap.size w w':=by
 have HR2:=Ak hr2
 have HR3:=Ak hr3
 have HC2:=Ak hc2
 have HC3:=Ak hc3
 have HZT:=Ak hzt
 have hm2:=Kd.C_max hr2
 have HB:=Ak (Below.refl w.heap.size w)
 have hu29:=Tryz.underlying29
 obtain ⟨nm,hnm⟩:∃ nm:List ByteArray,nm=l3.map (·.f0):=⟨_,rfl⟩
 have HNM:=Ak hnm
 have HNV:=Ak ((names_val l3 hl3).trans (congrArg some hnm.symm))
 have hln:nm.length=l3.length:=by rw [hnm,List.length_map]
 have HZF:Aside0 (∀ x ∈ nm,x.size≤9223372036854775807):=⟨fun x hx=>by rw [hnm] at hx;obtain ⟨y,hy,rfl⟩:=List.mem_map.1 hx;exact hzf y hy⟩
 obtain ⟨E,hE⟩:∃ E,E=mayE s t l2 l3:=⟨_,rfl⟩
 rw [←hE]
 have HE:=Ak hE
 have HLN:=Ak hln
 clear hr2 hr3 hc2 hc3 hzt hzf hnm hE hln
 go_enter Tryz.func52,Tryz.ntmps52
 go_wp2_with (((with_reducible refine gate_dst (N:=1) rfl ?_);refine box_event ?hg (N:=1) ?hd (cs:=#[.string s,.string t,.slice A2 l2.length c2,.slice A3 l3.length c3]) (t:=29) ?hr ?_;(case hd=>rfl);(case hg=>rfl);(case hr=>(go_simp;done));intro g hg w2 hbox hb;have n1_:=Ak hbox;have n2_:=Ak hb;clear HB hbox hg hb;have HX:=n1_;have HB:=n2_;clear n1_ n2_;have hx0:=blk_cell HX.out 0;have hx1:=blk_cell HX.out 1;have hx2:=blk_cell HX.out 2;have hx3:=blk_cell HX.out 3))
 refine (event_names.calls (l3.length+1) A3 c3 l3 nm w2 (Kd.C_below HR3.out HB.out) HC3.out HNV.out).mono ?_
 rintro e w3 ⟨v3,rfl,ho,hb⟩
 obtain ⟨A4,c4,rfl,hc4,hC4⟩:=Kd.R_reads ho
 have HC4:=Ak hc4
 have HR4:=Ak hC4
 clear ho hc4 hC4 hx0 hx1 hx2 hx3
 have n1_:=Ak (below_step HB.out hb);have n2_:=Ak (blk_below HX.out hb);clear HB HX;have HB:=n1_;have HX:=n2_;clear n1_ n2_ hb
 have hx0:=blk_cell HX.out 0;have hx1:=blk_cell HX.out 1;have hx2:=blk_cell HX.out 2;have hx3:=blk_cell HX.out 3
 go_wp2_with fail
 refine (may_calls s _ hs).mono ?_
 rintro e w4a ⟨rfl,hb⟩
 have n1_:=Ak (below_step HB.out hb);have n2_:=Ak (blk_below HX.out hb);clear HB HX;have HB:=n1_;have HX:=n2_;clear n1_ n2_;have n1_:=Ak (Kd.C_below HR4.out hb);clear HR4;have HR4:=n1_;clear n1_ hb;clear hx0 hx1 hx2 hx3;have hx0:=blk_cell HX.out 0;have hx1:=blk_cell HX.out 1;have hx2:=blk_cell HX.out 2;have hx3:=blk_cell HX.out 3
 cases hm1:mayL (bytesOf s) with
 | false=>
  go_wp2
  go_ret
  exact ⟨ret_i64 (HE.out.trans (by unfold mayE;rw [←HNM.out];exact if_pos (.inl hm1))).symm,HB.out⟩
 | true=>
  go_wp2_with fail
  refine (may_calls t _ ht).mono ?_
  rintro e w5 ⟨rfl,hb⟩
  have n1_:=Ak (below_step HB.out hb);have n2_:=Ak (blk_below HX.out hb);clear HB HX;have HB:=n1_;have HX:=n2_;clear n1_ n2_;have n1_:=Ak (Kd.C_below HR4.out hb);clear HR4;have HR4:=n1_;clear n1_ hb;clear hx0 hx1 hx2 hx3;have hx0:=blk_cell HX.out 0;have hx1:=blk_cell HX.out 1;have hx2:=blk_cell HX.out 2;have hx3:=blk_cell HX.out 3
  cases hm2:mayL (bytesOf t) with
  | false=>
   go_wp2
   go_ret
   exact ⟨ret_i64 (HE.out.trans (by unfold mayE;rw [←HNM.out];exact if_pos (.inr hm2))).symm,HB.out⟩
  | true=>
   have H12:Aside0 (E=if 6 < l2.length∨4 < nm.length then 3 else if (l2.any fun s=>!tagB s)=true∨(nm.any fun s=>!mayL (bytesOf s))=true then 5 else if riseB l2=false∨riseB nm=false∨l3.any overB=true then 1 else 0):=⟨by rw [HE.out,HLN.out];unfold mayE;rw [←HNM.out,if_neg (by rw [hm1,hm2];simp)]⟩
   clear HE hm1 hm2
   by_cases h6:6 < l2.length
   ·have hd:decide ((6:Int) < (l2.length:Int))=true:=decide_eq_true (by omega)
    have HG:=Ak (H12.out.trans (if_pos (.inl h6)))
    go_wp2
    go_ret
    exact ⟨ret_i64 HG.out.symm,HB.out⟩
   have hd6:decide ((6:Int) < (l2.length:Int))=false:=decide_eq_false (by omega)
   by_cases h4:4 < nm.length
   ·have hd:decide ((4:Int) < (nm.length:Int))=true:=decide_eq_true (by omega)
    have HG:=Ak (H12.out.trans (if_pos (.inr h4)))
    go_wp2
    go_ret
    exact ⟨ret_i64 HG.out.symm,HB.out⟩
   have hd4:decide ((4:Int) < (nm.length:Int))=false:=decide_eq_false (by omega)
   have H34:=Ak (H12.out.trans (if_neg (by omega)))
   clear H12
   go_wp2_with fail
   have HBB:=Ak (below_drew (Below.refl w5.heap.size w5))
   cases h7:(l2.any fun s=>!tagB s) with
   | true=>
    have HT7:=Ak h7
    have HG:=Ak (H34.out.trans (if_pos (.inl h7)))
    clear h7 hx0 hx1 hx2 hx3
    refine start_ (n:=10) (S:=fun w'=>True) (ds:=[]) #[false,false,false,false,false,false,false,false,false,false] (by kernel_rfl) rfl rfl trivial (fun hHeld=>?_);refine with_tabW D52.tab7 D52.bits7 (fun HT_ HW_=>?_)
    refine inv_at [0,1,2,3,4,5,6,7,8,9] (fun a0_ b a w'=>∃ (g32:Nat) (m2_:Value),a=putSel a0_ b [(0,30,.pointer (some ⟨g,2,none⟩)),(1,31,.slice A2 l2.length c2),(2,32,m2_),(3,33,.bool true),(4,34,.bool true),(5,35,undef),(6,36,undef),(7,37,undef),(8,38,(Value.bool true)),(9,29,(Value.bool true))]∧(Below w5.heap.size w5 w')∧(b 2=true→(g32 < w'.heap.size∧w'.cell? ⟨g32,0,none⟩=some (.func (.func 80) #[] #[])))∧(b 2=true→(m2_:Value) = .func (.func 103) #[] #[.pointer (some ⟨g32,0,none⟩)])) HT_.out HW_.out (by kernel_rfl) (by kernel_rfl) ?_ ?_ ?_
    ·exact ⟨0,.bool false,by simp only [putSel,Bool.false_eq_true,if_false],HBB.out,fun h_=>absurd h_ (by decide),fun h_=>absurd h_ (by decide)⟩
    ·clear HT_ HW_ hHeld
     clear HBB
     refine steps_cons ?_ ?_
     ·intro b a w' hI_ hb_ hon hoff
      refine ⟨_,rfl,fun K hK=>?_⟩
      obtain ⟨g32,m2_,ha,Q_HBB,Q_HQ32,Q_X2_⟩:=hI_
      have e1:a.tmps[1]? = some (.pointer (some ⟨g,0,none⟩)):=by rw [ha];exact (putSel_off rfl).trans rfl
      replace ha:=Ak ha
      have HBB:=Ak Q_HBB
      refine value_ (w1:=w') (v:=.pointer (some ⟨g,2,none⟩)) (by rfl) rfl ?_ ?_
      ·go_simp
       skip
      refine hK.out _ _ ⟨g32,m2_,(by rw [ha.out];exact putSel_upk 0 hb_ rfl rfl rfl),Q_HBB,Q_HQ32,Q_X2_⟩
     refine steps_cons ?_ ?_
     ·intro b a w' hI_ hb_ hon hoff
      refine ⟨_,rfl,fun K hK=>?_⟩
      obtain ⟨g32,m2_,ha,Q_HBB,Q_HQ32,Q_X2_⟩:=hI_
      have e30:a.tmps[30]? = some (.pointer (some ⟨g,2,none⟩)):=by rw [ha];exact putSel_on (e:=(0,30,.pointer (some ⟨g,2,none⟩))) 0 rfl rfl (hon 0 (by kernel_rfl)) rfl
      replace ha:=Ak ha
      have HBB:=Ak Q_HBB
      have hx2:=(HBB.out.cell (blk_lt HX.out)).trans (blk_cell HX.out 2)
      refine value_ (w1:=w') (v:=.slice A2 l2.length c2) (by rfl) rfl ?_ ?_
      ·go_simp
       skip
      refine hK.out _ _ ⟨g32,m2_,(by rw [ha.out];exact putSel_upk 1 hb_ rfl rfl rfl),Q_HBB,Q_HQ32,Q_X2_⟩
     refine steps_cons ?_ ?_
     ·intro b a w' hI_ hb_ hon hoff
      refine ⟨_,rfl,fun K hK=>?_⟩
      obtain ⟨g32,m2_,ha,Q_HBB,Q_HQ32,Q_X2_⟩:=hI_
      replace ha:=Ak ha
      have HBB:=Ak Q_HBB
      refine goes_ Tryz.func79 (by kernel_rfl) rfl #[.func (.func 80) #[] #[]] (by rfl) rfl rfl (by (simp only [List.map_toArray,List.map_cons,List.map_nil,Act.eval,Array.getD_eq_getD_getElem?,Option.getD_some];done)) ?_
      with_reducible refine (not_calls 80 _).mono ?_
      rintro e w3 ⟨g_,rfl,hq_,hl_,hb_2⟩
      refine ⟨_,rfl,?_⟩
      refine hK.out _ _ ⟨g_,(.func (.func 103) #[] #[.pointer (some ⟨g_,0,none⟩)]),(by rw [ha.out];exact putSel_upk 2 hb_ rfl rfl rfl),below_step HBB.out hb_2,fun _=>⟨hl_,hq_⟩,fun _=>rfl⟩
     refine steps_cons ?_ ?_
     ·intro b a w' hI_ hb_ hon hoff
      refine ⟨_,rfl,fun K hK=>?_⟩
      obtain ⟨g32,m2_,ha,Q_HBB,Q_HQ32,Q_X2_⟩:=hI_
      have e31:a.tmps[31]? = some (.slice A2 l2.length c2):=by rw [ha];exact putSel_on (e:=(1,31,.slice A2 l2.length c2)) 1 rfl rfl (hon 1 (by kernel_rfl)) rfl
      have e32:a.tmps[32]? = some (m2_):=by rw [ha];exact putSel_on (e:=(2,32,m2_)) 2 rfl rfl (hon 2 (by kernel_rfl)) rfl
      rw [Q_X2_ (hon 2 (by kernel_rfl))] at e32
      replace ha:=Ak ha
      have HBB:=Ak Q_HBB
      have HQ32:=Ak (Q_HQ32 (hon 2 (by kernel_rfl)))
      refine goes_ Tryz.func78 (by kernel_rfl) rfl #[.slice A2 l2.length c2,.func (.func 103) #[] #[.pointer (some ⟨g32,0,none⟩)]] (by rfl) rfl rfl (by (simp only [List.map_toArray,List.map_cons,List.map_nil,Act.eval,Array.getD_eq_getD_getElem?,Option.getD_some,e31,e32];done)) ?_
      with_reducible refine (notTagB true l2 HT7.out A2 c2 g32 _ (Kd.C_below (Kd.C_below HR2.out HB.out) HBB.out) HZT.out HQ32.out.1 HQ32.out.2).mono ?_
      rintro e w3 ⟨rfl,hb_2⟩
      refine ⟨_,rfl,?_⟩
      refine hK.out _ _ ⟨g32,m2_,(by rw [ha.out];exact putSel_upk 3 hb_ rfl rfl rfl),below_step HBB.out hb_2,fun _=>(fnAt_below HQ32.out hb_2),Q_X2_⟩
     refine steps_cons ?_ ?_
     ·intro b a w' hI_ hb_ hon hoff
      refine ⟨_,rfl,fun K hK=>?_⟩
      obtain ⟨g32,m2_,ha,Q_HBB,Q_HQ32,Q_X2_⟩:=hI_
      have e33:a.tmps[33]? = some (.bool true):=by rw [ha];exact putSel_on (e:=(3,33,.bool true)) 3 rfl rfl (hon 3 (by kernel_rfl)) rfl
      replace ha:=Ak ha
      have HBB:=Ak Q_HBB
      have HQ32:=Ak (Q_HQ32 (hon 2 (by kernel_rfl)))
      refine value_ (w1:=w') (v:=.bool true) (by rfl) rfl ?_ ?_
      ·go_simp
       skip
      refine hK.out _ _ ⟨g32,m2_,(by rw [ha.out];exact putSel_upk 4 hb_ rfl rfl rfl),Q_HBB,Q_HQ32,Q_X2_⟩
     refine steps_cons ?_ ?_
     ·intro b a w' hI_ hb_ hon hoff
      refine ⟨_,rfl,fun K hK=>?_⟩
      obtain ⟨g32,m2_,ha,Q_HBB,Q_HQ32,Q_X2_⟩:=hI_
      have e34:a.tmps[34]? = some (.bool true):=by rw [ha];exact putSel_on (e:=(4,34,.bool true)) 4 rfl rfl (hon 4 (by kernel_rfl)) rfl
      replace ha:=Ak ha
      have HBB:=Ak Q_HBB
      have HQ32:=Ak (Q_HQ32 (hon 2 (by kernel_rfl)))
      refine off_ (wanted_off rfl rfl rfl (e34.trans (by rfl))) ?_
      refine hK.out _ _ ⟨g32,m2_,(by rw [ha.out];exact putSel_upk 5 hb_ rfl rfl rfl),Q_HBB,Q_HQ32,Q_X2_⟩
     refine steps_cons ?_ ?_
     ·intro b a w' hI_ hb_ hon hoff
      refine ⟨_,rfl,fun K hK=>?_⟩
      obtain ⟨g32,m2_,ha,Q_HBB,Q_HQ32,Q_X2_⟩:=hI_
      have e34:a.tmps[34]? = some (.bool true):=by rw [ha];exact putSel_on (e:=(4,34,.bool true)) 4 rfl rfl (hon 4 (by kernel_rfl)) rfl
      replace ha:=Ak ha
      have HBB:=Ak Q_HBB
      have HQ32:=Ak (Q_HQ32 (hon 2 (by kernel_rfl)))
      refine off_ (wanted_off rfl rfl rfl (e34.trans (by rfl))) ?_
      refine hK.out _ _ ⟨g32,m2_,(by rw [ha.out];exact putSel_upk 6 hb_ rfl rfl rfl),Q_HBB,Q_HQ32,Q_X2_⟩
     refine steps_cons ?_ ?_
     ·intro b a w' hI_ hb_ hon hoff
      refine ⟨_,rfl,fun K hK=>?_⟩
      obtain ⟨g32,m2_,ha,Q_HBB,Q_HQ32,Q_X2_⟩:=hI_
      have e34:a.tmps[34]? = some (.bool true):=by rw [ha];exact putSel_on (e:=(4,34,.bool true)) 4 rfl rfl (hon 4 (by kernel_rfl)) rfl
      replace ha:=Ak ha
      have HBB:=Ak Q_HBB
      have HQ32:=Ak (Q_HQ32 (hon 2 (by kernel_rfl)))
      refine off_ (wanted_off rfl rfl rfl (e34.trans (by rfl))) ?_
      refine hK.out _ _ ⟨g32,m2_,(by rw [ha.out];exact putSel_upk 7 hb_ rfl rfl rfl),Q_HBB,Q_HQ32,Q_X2_⟩
     refine steps_cons ?_ ?_
     ·intro b a w' hI_ hb_ hon hoff
      refine ⟨_,rfl,fun K hK=>?_⟩
      obtain ⟨g32,m2_,ha,Q_HBB,Q_HQ32,Q_X2_⟩:=hI_
      have e34:a.tmps[34]? = some (.bool true):=by rw [ha];exact putSel_on (e:=(4,34,.bool true)) 4 rfl rfl (hon 4 (by kernel_rfl)) rfl
      have e37:a.tmps[37]? = some (undef):=by rw [ha];exact putSel_on (e:=(7,37,undef)) 7 rfl rfl (hon 7 (by kernel_rfl)) rfl
      replace ha:=Ak ha
      have HBB:=Ak Q_HBB
      have HQ32:=Ak (Q_HQ32 (hon 2 (by kernel_rfl)))
      refine value_ (w1:=w') (v:=(Value.bool true)) (by rfl) rfl ?_ ?_
      ·go_simp
       skip
      refine hK.out _ _ ⟨g32,m2_,(by rw [ha.out];exact putSel_upk 8 hb_ rfl rfl rfl),Q_HBB,Q_HQ32,Q_X2_⟩
     refine steps_cons ?_ ?_
     ·intro b a w' hI_ hb_ hon hoff
      refine ⟨_,rfl,fun K hK=>?_⟩
      obtain ⟨g32,m2_,ha,Q_HBB,Q_HQ32,Q_X2_⟩:=hI_
      have e38:a.tmps[38]? = some (Value.bool true):=by rw [ha];exact putSel_on (e:=(8,38,(Value.bool true))) 8 rfl rfl (hon 8 (by kernel_rfl)) rfl
      replace ha:=Ak ha
      have HBB:=Ak Q_HBB
      have HQ32:=Ak (Q_HQ32 (hon 2 (by kernel_rfl)))
      refine value_ (w1:=w') (v:=(Value.bool true)) (by rfl) rfl ?_ ?_
      ·go_simp
       skip
      refine hK.out _ _ ⟨g32,m2_,(by rw [ha.out];exact putSel_upk 9 hb_ rfl rfl rfl),Q_HBB,Q_HQ32,Q_X2_⟩
     exact steps_nil
    rintro b a wz hall ⟨g32,m2_,ha,Q_HBB,Q_HQ32,Q_X2_⟩
    clear HBB
    have hb0_:=hall 0 (by kernel_rfl)
    have hb1_:=hall 1 (by kernel_rfl)
    have hb2_:=hall 2 (by kernel_rfl)
    have hb3_:=hall 3 (by kernel_rfl)
    have hb4_:=hall 4 (by kernel_rfl)
    have hb5_:=hall 5 (by kernel_rfl)
    have hb6_:=hall 6 (by kernel_rfl)
    have hb7_:=hall 7 (by kernel_rfl)
    have hb8_:=hall 8 (by kernel_rfl)
    have hb9_:=hall 9 (by kernel_rfl)
    subst ha
    obtain rfl:=Q_X2_ hb2_
    simp only [putSel,hb0_,hb1_,hb2_,hb3_,hb4_,hb5_,hb6_,hb7_,hb8_,hb9_,if_true,Act.put,List.setIfInBounds_toArray,List.set_cons_zero,List.set_cons_succ]
    have HBB:=Ak Q_HBB
    clear Q_HBB
    have HQ32:=Ak (Q_HQ32 hb2_)
    clear Q_HQ32
    clear hall hb0_ hb1_ hb2_ hb3_ hb4_ hb5_ hb6_ hb7_ hb8_ hb9_
    go_wp2
    go_ret
    exact ⟨ret_i64 HG.out.symm,below_step HB.out HBB.out⟩
   | false=>
    have HT7:=Ak h7
    cases h8:(nm.any fun s=>!mayL (bytesOf s)) with
    | true=>
     have HF7:=Ak h8
     have HG:=Ak (H34.out.trans (if_pos (.inr h8)))
     clear h7 h8 hx0 hx1 hx2 hx3
     refine start_ (n:=10) (S:=fun w'=>True) (ds:=[]) #[false,false,false,false,false,false,false,false,false,false] (by kernel_rfl) rfl rfl trivial (fun hHeld=>?_);refine with_tabW D52.tab7 D52.bits7 (fun HT_ HW_=>?_)
     refine inv_at [0,1,2,3,4,5,6,7,8,9] (fun a0_ b a w'=>∃ (g32:Nat) (g36:Nat) (m2_:Value) (m6_:Value),a=putSel a0_ b [(0,30,.pointer (some ⟨g,2,none⟩)),(1,31,.slice A2 l2.length c2),(2,32,m2_),(3,33,.bool false),(4,34,.bool false),(5,35,.slice A4 nm.length c4),(6,36,m6_),(7,37,.bool true),(8,38,.bool true),(9,29,.bool true)]∧(Below w5.heap.size w5 w')∧(b 2=true→(g32 < w'.heap.size∧w'.cell? ⟨g32,0,none⟩=some (.func (.func 80) #[] #[])))∧(b 6=true→(g36 < w'.heap.size∧w'.cell? ⟨g36,0,none⟩=some (.func (.func 77) #[] #[])))∧(b 2=true→(m2_:Value) = .func (.func 103) #[] #[.pointer (some ⟨g32,0,none⟩)])∧(b 6=true→(m6_:Value) = .func (.func 103) #[] #[.pointer (some ⟨g36,0,none⟩)])) HT_.out HW_.out (by kernel_rfl) (by kernel_rfl) ?_ ?_ ?_
     ·exact ⟨0,0,.bool false,.bool false,by simp only [putSel,Bool.false_eq_true,if_false],HBB.out,fun h_=>absurd h_ (by decide),fun h_=>absurd h_ (by decide),fun h_=>absurd h_ (by decide),fun h_=>absurd h_ (by decide)⟩
     ·clear HT_ HW_ hHeld
      clear HBB
      refine steps_cons ?_ ?_
      ·intro b a w' hI_ hb_ hon hoff
       refine ⟨_,rfl,fun K hK=>?_⟩
       obtain ⟨g32,g36,m2_,m6_,ha,Q_HBB,Q_HQ32,Q_HQ36,Q_X2_,Q_X6_⟩:=hI_
       have e1:a.tmps[1]? = some (.pointer (some ⟨g,0,none⟩)):=by rw [ha];exact (putSel_off rfl).trans rfl
       replace ha:=Ak ha
       have HBB:=Ak Q_HBB
       refine value_ (w1:=w') (v:=.pointer (some ⟨g,2,none⟩)) (by rfl) rfl ?_ ?_
       ·go_simp
        skip
       refine hK.out _ _ ⟨g32,g36,m2_,m6_,(by rw [ha.out];exact putSel_upk 0 hb_ rfl rfl rfl),Q_HBB,Q_HQ32,fun h0_=>absurd ((hoff 6 (by kernel_rfl)).symm.trans h0_) (by decide),Q_X2_,fun h0_=>absurd ((hoff 6 (by kernel_rfl)).symm.trans h0_) (by decide)⟩
      refine steps_cons ?_ ?_
      ·intro b a w' hI_ hb_ hon hoff
       refine ⟨_,rfl,fun K hK=>?_⟩
       obtain ⟨g32,g36,m2_,m6_,ha,Q_HBB,Q_HQ32,Q_HQ36,Q_X2_,Q_X6_⟩:=hI_
       have e30:a.tmps[30]? = some (.pointer (some ⟨g,2,none⟩)):=by rw [ha];exact putSel_on (e:=(0,30,.pointer (some ⟨g,2,none⟩))) 0 rfl rfl (hon 0 (by kernel_rfl)) rfl
       replace ha:=Ak ha
       have HBB:=Ak Q_HBB
       have hx2:=(HBB.out.cell (blk_lt HX.out)).trans (blk_cell HX.out 2)
       refine value_ (w1:=w') (v:=.slice A2 l2.length c2) (by rfl) rfl ?_ ?_
       ·go_simp
        skip
       refine hK.out _ _ ⟨g32,g36,m2_,m6_,(by rw [ha.out];exact putSel_upk 1 hb_ rfl rfl rfl),Q_HBB,Q_HQ32,fun h0_=>absurd ((hoff 6 (by kernel_rfl)).symm.trans h0_) (by decide),Q_X2_,fun h0_=>absurd ((hoff 6 (by kernel_rfl)).symm.trans h0_) (by decide)⟩
      refine steps_cons ?_ ?_
      ·intro b a w' hI_ hb_ hon hoff
       refine ⟨_,rfl,fun K hK=>?_⟩
       obtain ⟨g32,g36,m2_,m6_,ha,Q_HBB,Q_HQ32,Q_HQ36,Q_X2_,Q_X6_⟩:=hI_
       replace ha:=Ak ha
       have HBB:=Ak Q_HBB
       refine goes_ Tryz.func79 (by kernel_rfl) rfl #[.func (.func 80) #[] #[]] (by rfl) rfl rfl (by (simp only [List.map_toArray,List.map_cons,List.map_nil,Act.eval,Array.getD_eq_getD_getElem?,Option.getD_some];done)) ?_
       with_reducible refine (not_calls 80 _).mono ?_
       rintro e w3 ⟨g_,rfl,hq_,hl_,hb_2⟩
       refine ⟨_,rfl,?_⟩
       refine hK.out _ _ ⟨g_,g36,(.func (.func 103) #[] #[.pointer (some ⟨g_,0,none⟩)]),m6_,(by rw [ha.out];exact putSel_upk 2 hb_ rfl rfl rfl),below_step HBB.out hb_2,fun _=>⟨hl_,hq_⟩,fun h0_=>absurd ((hoff 6 (by kernel_rfl)).symm.trans h0_) (by decide),fun _=>rfl,fun h0_=>absurd ((hoff 6 (by kernel_rfl)).symm.trans h0_) (by decide)⟩
      refine steps_cons ?_ ?_
      ·intro b a w' hI_ hb_ hon hoff
       refine ⟨_,rfl,fun K hK=>?_⟩
       obtain ⟨g32,g36,m2_,m6_,ha,Q_HBB,Q_HQ32,Q_HQ36,Q_X2_,Q_X6_⟩:=hI_
       have e31:a.tmps[31]? = some (.slice A2 l2.length c2):=by rw [ha];exact putSel_on (e:=(1,31,.slice A2 l2.length c2)) 1 rfl rfl (hon 1 (by kernel_rfl)) rfl
       have e32:a.tmps[32]? = some (m2_):=by rw [ha];exact putSel_on (e:=(2,32,m2_)) 2 rfl rfl (hon 2 (by kernel_rfl)) rfl
       rw [Q_X2_ (hon 2 (by kernel_rfl))] at e32
       replace ha:=Ak ha
       have HBB:=Ak Q_HBB
       have HQ32:=Ak (Q_HQ32 (hon 2 (by kernel_rfl)))
       refine goes_ Tryz.func78 (by kernel_rfl) rfl #[.slice A2 l2.length c2,.func (.func 103) #[] #[.pointer (some ⟨g32,0,none⟩)]] (by rfl) rfl rfl (by (simp only [List.map_toArray,List.map_cons,List.map_nil,Act.eval,Array.getD_eq_getD_getElem?,Option.getD_some,e31,e32];done)) ?_
       with_reducible refine (notTagB false l2 HT7.out A2 c2 g32 _ (Kd.C_below (Kd.C_below HR2.out HB.out) HBB.out) HZT.out HQ32.out.1 HQ32.out.2).mono ?_
       rintro e w3 ⟨rfl,hb_2⟩
       refine ⟨_,rfl,?_⟩
       refine hK.out _ _ ⟨g32,g36,m2_,m6_,(by rw [ha.out];exact putSel_upk 3 hb_ rfl rfl rfl),below_step HBB.out hb_2,fun _=>(fnAt_below HQ32.out hb_2),fun h0_=>absurd ((hoff 6 (by kernel_rfl)).symm.trans h0_) (by decide),Q_X2_,fun h0_=>absurd ((hoff 6 (by kernel_rfl)).symm.trans h0_) (by decide)⟩
      refine steps_cons ?_ ?_
      ·intro b a w' hI_ hb_ hon hoff
       refine ⟨_,rfl,fun K hK=>?_⟩
       obtain ⟨g32,g36,m2_,m6_,ha,Q_HBB,Q_HQ32,Q_HQ36,Q_X2_,Q_X6_⟩:=hI_
       have e33:a.tmps[33]? = some (.bool false):=by rw [ha];exact putSel_on (e:=(3,33,.bool false)) 3 rfl rfl (hon 3 (by kernel_rfl)) rfl
       replace ha:=Ak ha
       have HBB:=Ak Q_HBB
       have HQ32:=Ak (Q_HQ32 (hon 2 (by kernel_rfl)))
       refine value_ (w1:=w') (v:=.bool false) (by rfl) rfl ?_ ?_
       ·go_simp
        skip
       refine hK.out _ _ ⟨g32,g36,m2_,m6_,(by rw [ha.out];exact putSel_upk 4 hb_ rfl rfl rfl),Q_HBB,Q_HQ32,fun h0_=>absurd ((hoff 6 (by kernel_rfl)).symm.trans h0_) (by decide),Q_X2_,fun h0_=>absurd ((hoff 6 (by kernel_rfl)).symm.trans h0_) (by decide)⟩
      refine steps_cons ?_ ?_
      ·intro b a w' hI_ hb_ hon hoff
       refine ⟨_,rfl,fun K hK=>?_⟩
       obtain ⟨g32,g36,m2_,m6_,ha,Q_HBB,Q_HQ32,Q_HQ36,Q_X2_,Q_X6_⟩:=hI_
       have e3:a.tmps[3]? = some (.slice A4 nm.length c4):=by rw [ha];exact (putSel_off rfl).trans rfl
       have e34:a.tmps[34]? = some (.bool false):=by rw [ha];exact putSel_on (e:=(4,34,.bool false)) 4 rfl rfl (hon 4 (by kernel_rfl)) rfl
       replace ha:=Ak ha
       have HBB:=Ak Q_HBB
       have HQ32:=Ak (Q_HQ32 (hon 2 (by kernel_rfl)))
       refine value_ (w1:=w') (v:=.slice A4 nm.length c4) (wanted_on rfl rfl rfl (e34.trans (by rfl))) rfl ?_ ?_
       ·go_simp
        skip
       refine hK.out _ _ ⟨g32,g36,m2_,m6_,(by rw [ha.out];exact putSel_upk 5 hb_ rfl rfl rfl),Q_HBB,Q_HQ32,Q_HQ36,Q_X2_,Q_X6_⟩
      refine steps_cons ?_ ?_
      ·intro b a w' hI_ hb_ hon hoff
       refine ⟨_,rfl,fun K hK=>?_⟩
       obtain ⟨g32,g36,m2_,m6_,ha,Q_HBB,Q_HQ32,Q_HQ36,Q_X2_,Q_X6_⟩:=hI_
       have e34:a.tmps[34]? = some (.bool false):=by rw [ha];exact putSel_on (e:=(4,34,.bool false)) 4 rfl rfl (hon 4 (by kernel_rfl)) rfl
       replace ha:=Ak ha
       have HBB:=Ak Q_HBB
       have HQ32:=Ak (Q_HQ32 (hon 2 (by kernel_rfl)))
       refine goes_ Tryz.func79 (by kernel_rfl) rfl #[.func (.func 77) #[] #[]] (wanted_on rfl rfl rfl (e34.trans (by rfl))) rfl rfl (by (simp only [List.map_toArray,List.map_cons,List.map_nil,Act.eval,Array.getD_eq_getD_getElem?,Option.getD_some,e34];done)) ?_
       with_reducible refine (not_calls 77 _).mono ?_
       rintro e w3 ⟨g_,rfl,hq_,hl_,hb_2⟩
       refine ⟨_,rfl,?_⟩
       refine hK.out _ _ ⟨g32,g_,m2_,(.func (.func 103) #[] #[.pointer (some ⟨g_,0,none⟩)]),(by rw [ha.out];exact putSel_upk 6 hb_ rfl rfl rfl),below_step HBB.out hb_2,fun _=>(fnAt_below HQ32.out hb_2),fun _=>⟨hl_,hq_⟩,Q_X2_,fun _=>rfl⟩
      refine steps_cons ?_ ?_
      ·intro b a w' hI_ hb_ hon hoff
       refine ⟨_,rfl,fun K hK=>?_⟩
       obtain ⟨g32,g36,m2_,m6_,ha,Q_HBB,Q_HQ32,Q_HQ36,Q_X2_,Q_X6_⟩:=hI_
       have e35:a.tmps[35]? = some (.slice A4 nm.length c4):=by rw [ha];exact putSel_on (e:=(5,35,.slice A4 nm.length c4)) 5 rfl rfl (hon 5 (by kernel_rfl)) rfl
       have e36:a.tmps[36]? = some (m6_):=by rw [ha];exact putSel_on (e:=(6,36,m6_)) 6 rfl rfl (hon 6 (by kernel_rfl)) rfl
       rw [Q_X6_ (hon 6 (by kernel_rfl))] at e36
       have e34:a.tmps[34]? = some (.bool false):=by rw [ha];exact putSel_on (e:=(4,34,.bool false)) 4 rfl rfl (hon 4 (by kernel_rfl)) rfl
       replace ha:=Ak ha
       have HBB:=Ak Q_HBB
       have HQ32:=Ak (Q_HQ32 (hon 2 (by kernel_rfl)))
       have HQ36:=Ak (Q_HQ36 (hon 6 (by kernel_rfl)))
       refine goes_ Tryz.func78 (by kernel_rfl) rfl #[.slice A4 nm.length c4,.func (.func 103) #[] #[.pointer (some ⟨g36,0,none⟩)]] (wanted_on rfl rfl rfl (e34.trans (by rfl))) rfl rfl (by (simp only [List.map_toArray,List.map_cons,List.map_nil,Act.eval,Array.getD_eq_getD_getElem?,Option.getD_some,e35,e36,e34];done)) ?_
       with_reducible refine (notNameB true nm HF7.out A4 c4 g36 _ (Kd.C_below HR4.out HBB.out) HZF.out HQ36.out.1 HQ36.out.2).mono ?_
       rintro e w3 ⟨rfl,hb_2⟩
       refine ⟨_,rfl,?_⟩
       refine hK.out _ _ ⟨g32,g36,m2_,m6_,(by rw [ha.out];exact putSel_upk 7 hb_ rfl rfl rfl),below_step HBB.out hb_2,fun _=>(fnAt_below HQ32.out hb_2),fun _=>(fnAt_below HQ36.out hb_2),Q_X2_,Q_X6_⟩
      refine steps_cons ?_ ?_
      ·intro b a w' hI_ hb_ hon hoff
       refine ⟨_,rfl,fun K hK=>?_⟩
       obtain ⟨g32,g36,m2_,m6_,ha,Q_HBB,Q_HQ32,Q_HQ36,Q_X2_,Q_X6_⟩:=hI_
       have e34:a.tmps[34]? = some (.bool false):=by rw [ha];exact putSel_on (e:=(4,34,.bool false)) 4 rfl rfl (hon 4 (by kernel_rfl)) rfl
       have e37:a.tmps[37]? = some (.bool true):=by rw [ha];exact putSel_on (e:=(7,37,.bool true)) 7 rfl rfl (hon 7 (by kernel_rfl)) rfl
       replace ha:=Ak ha
       have HBB:=Ak Q_HBB
       have HQ32:=Ak (Q_HQ32 (hon 2 (by kernel_rfl)))
       have HQ36:=Ak (Q_HQ36 (hon 6 (by kernel_rfl)))
       refine value_ (w1:=w') (v:=.bool true) (by rfl) rfl ?_ ?_
       ·go_simp
        skip
       refine hK.out _ _ ⟨g32,g36,m2_,m6_,(by rw [ha.out];exact putSel_upk 8 hb_ rfl rfl rfl),Q_HBB,Q_HQ32,Q_HQ36,Q_X2_,Q_X6_⟩
      refine steps_cons ?_ ?_
      ·intro b a w' hI_ hb_ hon hoff
       refine ⟨_,rfl,fun K hK=>?_⟩
       obtain ⟨g32,g36,m2_,m6_,ha,Q_HBB,Q_HQ32,Q_HQ36,Q_X2_,Q_X6_⟩:=hI_
       have e38:a.tmps[38]? = some (.bool true):=by rw [ha];exact putSel_on (e:=(8,38,.bool true)) 8 rfl rfl (hon 8 (by kernel_rfl)) rfl
       replace ha:=Ak ha
       have HBB:=Ak Q_HBB
       have HQ32:=Ak (Q_HQ32 (hon 2 (by kernel_rfl)))
       have HQ36:=Ak (Q_HQ36 (hon 6 (by kernel_rfl)))
       refine value_ (w1:=w') (v:=.bool true) (by rfl) rfl ?_ ?_
       ·go_simp
        skip
       refine hK.out _ _ ⟨g32,g36,m2_,m6_,(by rw [ha.out];exact putSel_upk 9 hb_ rfl rfl rfl),Q_HBB,Q_HQ32,Q_HQ36,Q_X2_,Q_X6_⟩
      exact steps_nil
     rintro b a wz hall ⟨g32,g36,m2_,m6_,ha,Q_HBB,Q_HQ32,Q_HQ36,Q_X2_,Q_X6_⟩
     clear HBB
     have hb0_:=hall 0 (by kernel_rfl)
     have hb1_:=hall 1 (by kernel_rfl)
     have hb2_:=hall 2 (by kernel_rfl)
     have hb3_:=hall 3 (by kernel_rfl)
     have hb4_:=hall 4 (by kernel_rfl)
     have hb5_:=hall 5 (by kernel_rfl)
     have hb6_:=hall 6 (by kernel_rfl)
     have hb7_:=hall 7 (by kernel_rfl)
     have hb8_:=hall 8 (by kernel_rfl)
     have hb9_:=hall 9 (by kernel_rfl)
     subst ha
     obtain rfl:=Q_X2_ hb2_
     obtain rfl:=Q_X6_ hb6_
     simp only [putSel,hb0_,hb1_,hb2_,hb3_,hb4_,hb5_,hb6_,hb7_,hb8_,hb9_,if_true,Act.put,List.setIfInBounds_toArray,List.set_cons_zero,List.set_cons_succ]
     have HBB:=Ak Q_HBB
     clear Q_HBB
     have HQ32:=Ak (Q_HQ32 hb2_)
     clear Q_HQ32
     have HQ36:=Ak (Q_HQ36 hb6_)
     clear Q_HQ36
     clear hall hb0_ hb1_ hb2_ hb3_ hb4_ hb5_ hb6_ hb7_ hb8_ hb9_
     go_wp2
     go_ret
     exact ⟨ret_i64 HG.out.symm,below_step HB.out HBB.out⟩
    | false=>
     have HF7:=Ak h8
     have H56:=Ak (H34.out.trans (if_neg (by rw [h7,h8];simp)))
     clear H34 h7 h8
     refine start_ (n:=10) (S:=fun w'=>True) (ds:=[]) #[false,false,false,false,false,false,false,false,false,false] (by kernel_rfl) rfl rfl trivial (fun hHeld=>?_);refine with_tabW D52.tab7 D52.bits7 (fun HT_ HW_=>?_)
     refine inv_at [0,1,2,3,4,5,6,7,8,9] (fun a0_ b a w'=>∃ (g32:Nat) (g36:Nat) (m2_:Value) (m6_:Value),a=putSel a0_ b [(0,30,.pointer (some ⟨g,2,none⟩)),(1,31,.slice A2 l2.length c2),(2,32,m2_),(3,33,.bool false),(4,34,.bool false),(5,35,.slice A4 nm.length c4),(6,36,m6_),(7,37,.bool false),(8,38,.bool false),(9,29,.bool false)]∧(Below w5.heap.size w5 w')∧(b 2=true→(g32 < w'.heap.size∧w'.cell? ⟨g32,0,none⟩=some (.func (.func 80) #[] #[])))∧(b 6=true→(g36 < w'.heap.size∧w'.cell? ⟨g36,0,none⟩=some (.func (.func 77) #[] #[])))∧(b 2=true→(m2_:Value) = .func (.func 103) #[] #[.pointer (some ⟨g32,0,none⟩)])∧(b 6=true→(m6_:Value) = .func (.func 103) #[] #[.pointer (some ⟨g36,0,none⟩)])) HT_.out HW_.out (by kernel_rfl) (by kernel_rfl) ?_ ?_ ?_
     ·exact ⟨0,0,.bool false,.bool false,by simp only [putSel,Bool.false_eq_true,if_false],HBB.out,fun h_=>absurd h_ (by decide),fun h_=>absurd h_ (by decide),fun h_=>absurd h_ (by decide),fun h_=>absurd h_ (by decide)⟩
     ·clear HT_ HW_ hHeld
      clear HBB
      refine steps_cons ?_ ?_
      ·intro b a w' hI_ hb_ hon hoff
       refine ⟨_,rfl,fun K hK=>?_⟩
       obtain ⟨g32,g36,m2_,m6_,ha,Q_HBB,Q_HQ32,Q_HQ36,Q_X2_,Q_X6_⟩:=hI_
       have e1:a.tmps[1]? = some (.pointer (some ⟨g,0,none⟩)):=by rw [ha];exact (putSel_off rfl).trans rfl
       replace ha:=Ak ha
       have HBB:=Ak Q_HBB
       refine value_ (w1:=w') (v:=.pointer (some ⟨g,2,none⟩)) (by rfl) rfl ?_ ?_
       ·go_simp
        skip
       refine hK.out _ _ ⟨g32,g36,m2_,m6_,(by rw [ha.out];exact putSel_upk 0 hb_ rfl rfl rfl),Q_HBB,Q_HQ32,fun h0_=>absurd ((hoff 6 (by kernel_rfl)).symm.trans h0_) (by decide),Q_X2_,fun h0_=>absurd ((hoff 6 (by kernel_rfl)).symm.trans h0_) (by decide)⟩
      refine steps_cons ?_ ?_
      ·intro b a w' hI_ hb_ hon hoff
       refine ⟨_,rfl,fun K hK=>?_⟩
       obtain ⟨g32,g36,m2_,m6_,ha,Q_HBB,Q_HQ32,Q_HQ36,Q_X2_,Q_X6_⟩:=hI_
       have e30:a.tmps[30]? = some (.pointer (some ⟨g,2,none⟩)):=by rw [ha];exact putSel_on (e:=(0,30,.pointer (some ⟨g,2,none⟩))) 0 rfl rfl (hon 0 (by kernel_rfl)) rfl
       replace ha:=Ak ha
       have HBB:=Ak Q_HBB
       have hx2:=(HBB.out.cell (blk_lt HX.out)).trans (blk_cell HX.out 2)
       refine value_ (w1:=w') (v:=.slice A2 l2.length c2) (by rfl) rfl ?_ ?_
       ·go_simp
        skip
       refine hK.out _ _ ⟨g32,g36,m2_,m6_,(by rw [ha.out];exact putSel_upk 1 hb_ rfl rfl rfl),Q_HBB,Q_HQ32,fun h0_=>absurd ((hoff 6 (by kernel_rfl)).symm.trans h0_) (by decide),Q_X2_,fun h0_=>absurd ((hoff 6 (by kernel_rfl)).symm.trans h0_) (by decide)⟩
      refine steps_cons ?_ ?_
      ·intro b a w' hI_ hb_ hon hoff
       refine ⟨_,rfl,fun K hK=>?_⟩
       obtain ⟨g32,g36,m2_,m6_,ha,Q_HBB,Q_HQ32,Q_HQ36,Q_X2_,Q_X6_⟩:=hI_
       replace ha:=Ak ha
       have HBB:=Ak Q_HBB
       refine goes_ Tryz.func79 (by kernel_rfl) rfl #[.func (.func 80) #[] #[]] (by rfl) rfl rfl (by (simp only [List.map_toArray,List.map_cons,List.map_nil,Act.eval,Array.getD_eq_getD_getElem?,Option.getD_some];done)) ?_
       with_reducible refine (not_calls 80 _).mono ?_
       rintro e w3 ⟨g_,rfl,hq_,hl_,hb_2⟩
       refine ⟨_,rfl,?_⟩
       refine hK.out _ _ ⟨g_,g36,(.func (.func 103) #[] #[.pointer (some ⟨g_,0,none⟩)]),m6_,(by rw [ha.out];exact putSel_upk 2 hb_ rfl rfl rfl),below_step HBB.out hb_2,fun _=>⟨hl_,hq_⟩,fun h0_=>absurd ((hoff 6 (by kernel_rfl)).symm.trans h0_) (by decide),fun _=>rfl,fun h0_=>absurd ((hoff 6 (by kernel_rfl)).symm.trans h0_) (by decide)⟩
      refine steps_cons ?_ ?_
      ·intro b a w' hI_ hb_ hon hoff
       refine ⟨_,rfl,fun K hK=>?_⟩
       obtain ⟨g32,g36,m2_,m6_,ha,Q_HBB,Q_HQ32,Q_HQ36,Q_X2_,Q_X6_⟩:=hI_
       have e31:a.tmps[31]? = some (.slice A2 l2.length c2):=by rw [ha];exact putSel_on (e:=(1,31,.slice A2 l2.length c2)) 1 rfl rfl (hon 1 (by kernel_rfl)) rfl
       have e32:a.tmps[32]? = some (m2_):=by rw [ha];exact putSel_on (e:=(2,32,m2_)) 2 rfl rfl (hon 2 (by kernel_rfl)) rfl
       rw [Q_X2_ (hon 2 (by kernel_rfl))] at e32
       replace ha:=Ak ha
       have HBB:=Ak Q_HBB
       have HQ32:=Ak (Q_HQ32 (hon 2 (by kernel_rfl)))
       refine goes_ Tryz.func78 (by kernel_rfl) rfl #[.slice A2 l2.length c2,.func (.func 103) #[] #[.pointer (some ⟨g32,0,none⟩)]] (by rfl) rfl rfl (by (simp only [List.map_toArray,List.map_cons,List.map_nil,Act.eval,Array.getD_eq_getD_getElem?,Option.getD_some,e31,e32];done)) ?_
       with_reducible refine (notTagB false l2 HT7.out A2 c2 g32 _ (Kd.C_below (Kd.C_below HR2.out HB.out) HBB.out) HZT.out HQ32.out.1 HQ32.out.2).mono ?_
       rintro e w3 ⟨rfl,hb_2⟩
       refine ⟨_,rfl,?_⟩
       refine hK.out _ _ ⟨g32,g36,m2_,m6_,(by rw [ha.out];exact putSel_upk 3 hb_ rfl rfl rfl),below_step HBB.out hb_2,fun _=>(fnAt_below HQ32.out hb_2),fun h0_=>absurd ((hoff 6 (by kernel_rfl)).symm.trans h0_) (by decide),Q_X2_,fun h0_=>absurd ((hoff 6 (by kernel_rfl)).symm.trans h0_) (by decide)⟩
      refine steps_cons ?_ ?_
      ·intro b a w' hI_ hb_ hon hoff
       refine ⟨_,rfl,fun K hK=>?_⟩
       obtain ⟨g32,g36,m2_,m6_,ha,Q_HBB,Q_HQ32,Q_HQ36,Q_X2_,Q_X6_⟩:=hI_
       have e33:a.tmps[33]? = some (.bool false):=by rw [ha];exact putSel_on (e:=(3,33,.bool false)) 3 rfl rfl (hon 3 (by kernel_rfl)) rfl
       replace ha:=Ak ha
       have HBB:=Ak Q_HBB
       have HQ32:=Ak (Q_HQ32 (hon 2 (by kernel_rfl)))
       refine value_ (w1:=w') (v:=.bool false) (by rfl) rfl ?_ ?_
       ·go_simp
        skip
       refine hK.out _ _ ⟨g32,g36,m2_,m6_,(by rw [ha.out];exact putSel_upk 4 hb_ rfl rfl rfl),Q_HBB,Q_HQ32,fun h0_=>absurd ((hoff 6 (by kernel_rfl)).symm.trans h0_) (by decide),Q_X2_,fun h0_=>absurd ((hoff 6 (by kernel_rfl)).symm.trans h0_) (by decide)⟩
      refine steps_cons ?_ ?_
      ·intro b a w' hI_ hb_ hon hoff
       refine ⟨_,rfl,fun K hK=>?_⟩
       obtain ⟨g32,g36,m2_,m6_,ha,Q_HBB,Q_HQ32,Q_HQ36,Q_X2_,Q_X6_⟩:=hI_
       have e3:a.tmps[3]? = some (.slice A4 nm.length c4):=by rw [ha];exact (putSel_off rfl).trans rfl
       have e34:a.tmps[34]? = some (.bool false):=by rw [ha];exact putSel_on (e:=(4,34,.bool false)) 4 rfl rfl (hon 4 (by kernel_rfl)) rfl
       replace ha:=Ak ha
       have HBB:=Ak Q_HBB
       have HQ32:=Ak (Q_HQ32 (hon 2 (by kernel_rfl)))
       refine value_ (w1:=w') (v:=.slice A4 nm.length c4) (wanted_on rfl rfl rfl (e34.trans (by rfl))) rfl ?_ ?_
       ·go_simp
        skip
       refine hK.out _ _ ⟨g32,g36,m2_,m6_,(by rw [ha.out];exact putSel_upk 5 hb_ rfl rfl rfl),Q_HBB,Q_HQ32,Q_HQ36,Q_X2_,Q_X6_⟩
      refine steps_cons ?_ ?_
      ·intro b a w' hI_ hb_ hon hoff
       refine ⟨_,rfl,fun K hK=>?_⟩
       obtain ⟨g32,g36,m2_,m6_,ha,Q_HBB,Q_HQ32,Q_HQ36,Q_X2_,Q_X6_⟩:=hI_
       have e34:a.tmps[34]? = some (.bool false):=by rw [ha];exact putSel_on (e:=(4,34,.bool false)) 4 rfl rfl (hon 4 (by kernel_rfl)) rfl
       replace ha:=Ak ha
       have HBB:=Ak Q_HBB
       have HQ32:=Ak (Q_HQ32 (hon 2 (by kernel_rfl)))
       refine goes_ Tryz.func79 (by kernel_rfl) rfl #[.func (.func 77) #[] #[]] (wanted_on rfl rfl rfl (e34.trans (by rfl))) rfl rfl (by (simp only [List.map_toArray,List.map_cons,List.map_nil,Act.eval,Array.getD_eq_getD_getElem?,Option.getD_some,e34];done)) ?_
       with_reducible refine (not_calls 77 _).mono ?_
       rintro e w3 ⟨g_,rfl,hq_,hl_,hb_2⟩
       refine ⟨_,rfl,?_⟩
       refine hK.out _ _ ⟨g32,g_,m2_,(.func (.func 103) #[] #[.pointer (some ⟨g_,0,none⟩)]),(by rw [ha.out];exact putSel_upk 6 hb_ rfl rfl rfl),below_step HBB.out hb_2,fun _=>(fnAt_below HQ32.out hb_2),fun _=>⟨hl_,hq_⟩,Q_X2_,fun _=>rfl⟩
      refine steps_cons ?_ ?_
      ·intro b a w' hI_ hb_ hon hoff
       refine ⟨_,rfl,fun K hK=>?_⟩
       obtain ⟨g32,g36,m2_,m6_,ha,Q_HBB,Q_HQ32,Q_HQ36,Q_X2_,Q_X6_⟩:=hI_
       have e35:a.tmps[35]? = some (.slice A4 nm.length c4):=by rw [ha];exact putSel_on (e:=(5,35,.slice A4 nm.length c4)) 5 rfl rfl (hon 5 (by kernel_rfl)) rfl
       have e36:a.tmps[36]? = some (m6_):=by rw [ha];exact putSel_on (e:=(6,36,m6_)) 6 rfl rfl (hon 6 (by kernel_rfl)) rfl
       rw [Q_X6_ (hon 6 (by kernel_rfl))] at e36
       have e34:a.tmps[34]? = some (.bool false):=by rw [ha];exact putSel_on (e:=(4,34,.bool false)) 4 rfl rfl (hon 4 (by kernel_rfl)) rfl
       replace ha:=Ak ha
       have HBB:=Ak Q_HBB
       have HQ32:=Ak (Q_HQ32 (hon 2 (by kernel_rfl)))
       have HQ36:=Ak (Q_HQ36 (hon 6 (by kernel_rfl)))
       refine goes_ Tryz.func78 (by kernel_rfl) rfl #[.slice A4 nm.length c4,.func (.func 103) #[] #[.pointer (some ⟨g36,0,none⟩)]] (wanted_on rfl rfl rfl (e34.trans (by rfl))) rfl rfl (by (simp only [List.map_toArray,List.map_cons,List.map_nil,Act.eval,Array.getD_eq_getD_getElem?,Option.getD_some,e35,e36,e34];done)) ?_
       with_reducible refine (notNameB false nm HF7.out A4 c4 g36 _ (Kd.C_below HR4.out HBB.out) HZF.out HQ36.out.1 HQ36.out.2).mono ?_
       rintro e w3 ⟨rfl,hb_2⟩
       refine ⟨_,rfl,?_⟩
       refine hK.out _ _ ⟨g32,g36,m2_,m6_,(by rw [ha.out];exact putSel_upk 7 hb_ rfl rfl rfl),below_step HBB.out hb_2,fun _=>(fnAt_below HQ32.out hb_2),fun _=>(fnAt_below HQ36.out hb_2),Q_X2_,Q_X6_⟩
      refine steps_cons ?_ ?_
      ·intro b a w' hI_ hb_ hon hoff
       refine ⟨_,rfl,fun K hK=>?_⟩
       obtain ⟨g32,g36,m2_,m6_,ha,Q_HBB,Q_HQ32,Q_HQ36,Q_X2_,Q_X6_⟩:=hI_
       have e34:a.tmps[34]? = some (.bool false):=by rw [ha];exact putSel_on (e:=(4,34,.bool false)) 4 rfl rfl (hon 4 (by kernel_rfl)) rfl
       have e37:a.tmps[37]? = some (.bool false):=by rw [ha];exact putSel_on (e:=(7,37,.bool false)) 7 rfl rfl (hon 7 (by kernel_rfl)) rfl
       replace ha:=Ak ha
       have HBB:=Ak Q_HBB
       have HQ32:=Ak (Q_HQ32 (hon 2 (by kernel_rfl)))
       have HQ36:=Ak (Q_HQ36 (hon 6 (by kernel_rfl)))
       refine value_ (w1:=w') (v:=.bool false) (by rfl) rfl ?_ ?_
       ·go_simp
        skip
       refine hK.out _ _ ⟨g32,g36,m2_,m6_,(by rw [ha.out];exact putSel_upk 8 hb_ rfl rfl rfl),Q_HBB,Q_HQ32,Q_HQ36,Q_X2_,Q_X6_⟩
      refine steps_cons ?_ ?_
      ·intro b a w' hI_ hb_ hon hoff
       refine ⟨_,rfl,fun K hK=>?_⟩
       obtain ⟨g32,g36,m2_,m6_,ha,Q_HBB,Q_HQ32,Q_HQ36,Q_X2_,Q_X6_⟩:=hI_
       have e38:a.tmps[38]? = some (.bool false):=by rw [ha];exact putSel_on (e:=(8,38,.bool false)) 8 rfl rfl (hon 8 (by kernel_rfl)) rfl
       replace ha:=Ak ha
       have HBB:=Ak Q_HBB
       have HQ32:=Ak (Q_HQ32 (hon 2 (by kernel_rfl)))
       have HQ36:=Ak (Q_HQ36 (hon 6 (by kernel_rfl)))
       refine value_ (w1:=w') (v:=.bool false) (by rfl) rfl ?_ ?_
       ·go_simp
        skip
       refine hK.out _ _ ⟨g32,g36,m2_,m6_,(by rw [ha.out];exact putSel_upk 9 hb_ rfl rfl rfl),Q_HBB,Q_HQ32,Q_HQ36,Q_X2_,Q_X6_⟩
      exact steps_nil
     rintro b a wz hall ⟨g32,g36,m2_,m6_,ha,Q_HBB,Q_HQ32,Q_HQ36,Q_X2_,Q_X6_⟩
     clear HBB
     have hb0_:=hall 0 (by kernel_rfl)
     have hb1_:=hall 1 (by kernel_rfl)
     have hb2_:=hall 2 (by kernel_rfl)
     have hb3_:=hall 3 (by kernel_rfl)
     have hb4_:=hall 4 (by kernel_rfl)
     have hb5_:=hall 5 (by kernel_rfl)
     have hb6_:=hall 6 (by kernel_rfl)
     have hb7_:=hall 7 (by kernel_rfl)
     have hb8_:=hall 8 (by kernel_rfl)
     have hb9_:=hall 9 (by kernel_rfl)
     subst ha
     obtain rfl:=Q_X2_ hb2_
     obtain rfl:=Q_X6_ hb6_
     simp only [putSel,hb0_,hb1_,hb2_,hb3_,hb4_,hb5_,hb6_,hb7_,hb8_,hb9_,if_true,Act.put,List.setIfInBounds_toArray,List.set_cons_zero,List.set_cons_succ]
     have HBB:=Ak Q_HBB
     clear Q_HBB
     have HQ32:=Ak (Q_HQ32 hb2_)
     clear Q_HQ32
     have HQ36:=Ak (Q_HQ36 hb6_)
     clear Q_HQ36
     clear hall hb0_ hb1_ hb2_ hb3_ hb4_ hb5_ hb6_ hb7_ hb8_ hb9_
     have hb:=HBB.out;have n1_:=Ak (below_step HB.out hb);have n2_:=Ak (blk_below HX.out hb);clear HB HX;have HB:=n1_;have HX:=n2_;clear n1_ n2_;have n1_:=Ak (Kd.C_below HR4.out hb);clear HR4;have HR4:=n1_;clear n1_ hb;clear hx0 hx1 hx2 hx3;have hx0:=blk_cell HX.out 0;have hx1:=blk_cell HX.out 1;have hx2:=blk_cell HX.out 2;have hx3:=blk_cell HX.out 3;clear HBB
     clear HT7 HF7
     go_wp2_with fail
     refine (event_rise.calls (l2.length+1) A2 c2 l2 (riseB l2) wz (Kd.C_below HR2.out HB.out) HC2.out (rise_val l2 hm2)).mono ?_
     rintro e w6 ⟨rfl,hd⟩
     have hb:=hd.below
     clear hd
     have n1_:=Ak (below_step HB.out hb);have n2_:=Ak (blk_below HX.out hb);clear HB HX;have HB:=n1_;have HX:=n2_;clear n1_ n2_;have n1_:=Ak (Kd.C_below HR4.out hb);clear HR4;have HR4:=n1_;clear n1_ hb;clear hx0 hx1 hx2 hx3;have hx0:=blk_cell HX.out 0;have hx1:=blk_cell HX.out 1;have hx2:=blk_cell HX.out 2;have hx3:=blk_cell HX.out 3
     cases hq1:riseB l2 with
     | false=>
      have HG:=Ak (H56.out.trans (if_pos (.inl hq1)))
      clear hq1
      go_wp2
      go_ret
      exact ⟨ret_i64 HG.out.symm,HB.out⟩
     | true=>
     go_wp2_with fail
     refine (event_rise.calls (nm.length+1) A4 c4 nm (riseB nm) w6 HR4.out HC4.out (rise_val nm (Kd.C_max HR4.out))).mono ?_
     rintro e w7 ⟨rfl,hd⟩
     have hb:=hd.below
     clear hd
     have n1_:=Ak (below_step HB.out hb);have n2_:=Ak (blk_below HX.out hb);clear HB HX;have HB:=n1_;have HX:=n2_;clear n1_ n2_;have n1_:=Ak (Kd.C_below HR4.out hb);clear HR4;have HR4:=n1_;clear n1_ hb;clear hx0 hx1 hx2 hx3;have hx0:=blk_cell HX.out 0;have hx1:=blk_cell HX.out 1;have hx2:=blk_cell HX.out 2;have hx3:=blk_cell HX.out 3
     cases hq2:riseB nm with
     | false=>
      have HG:=Ak (H56.out.trans (if_pos (.inr (.inl hq2))))
      clear hq1 hq2
      go_wp2
      go_ret
      exact ⟨ret_i64 HG.out.symm,HB.out⟩
     | true=>
     go_wp2_with fail
     refine (overC l3 A3 c3 w7 (Kd.C_below HR3.out HB.out)).mono ?_
     rintro e w8 ⟨rfl,hb⟩
     have n1_:=Ak (below_step HB.out hb);have n2_:=Ak (blk_below HX.out hb);clear HB HX;have HB:=n1_;have HX:=n2_;clear n1_ n2_;have n1_:=Ak (Kd.C_below HR4.out hb);clear HR4;have HR4:=n1_;clear n1_ hb;clear hx0 hx1 hx2 hx3;have hx0:=blk_cell HX.out 0;have hx1:=blk_cell HX.out 1;have hx2:=blk_cell HX.out 2;have hx3:=blk_cell HX.out 3
     cases hq3:l3.any overB with
     | true=>
      have HG:=Ak (H56.out.trans (if_pos (.inr (.inr hq3))))
      clear hq1 hq2 hq3
      go_wp2
      go_ret
      exact ⟨ret_i64 HG.out.symm,HB.out⟩
     | false=>
      have HG:=Ak (H56.out.trans (if_neg (by rw [hq1,hq2,hq3];simp)))
      clear hq1 hq2 hq3
      go_wp2
      go_ret
      exact ⟨ret_i64 HG.out.symm,HB.out⟩
end Go.Proofs.YtocpcnmnhckcpaaGreat.Nam
namespace Go.Proofs.YtocpcnmnhckcpaaGreat.Prt
open RowKit YtocpcnmnhckcpaaGreatW.PrintWords YtocpcnmnhckcpaaGreatW.PrintLast YtocpcnmnhckcpaaGreatW.PrintMore YtocpcnmnhckcpaaGreat.Num YtocpcnmnhckcpaaGreat.Nam
def fitE (s t:ByteArray) (tags:List ByteArray) (fl:List S90):Bool:=decide (s.size≤9223372036854775807) && decide (t.size≤9223372036854775807) && (tags.all fun x=>decide (x.size≤9223372036854775807)) && (fl.all fun x=>decide (x.f0.size≤9223372036854775807)) && decide (fl.length < 8796093022208)
theorem fitE_iff {s t:ByteArray} {tags:List ByteArray} {fl:List S90}:fitE s t tags fl=true↔s.size≤9223372036854775807∧t.size≤9223372036854775807∧(∀ x ∈ tags,x.size≤9223372036854775807)∧(∀ x ∈ fl,x.f0.size≤9223372036854775807)∧fl.length < 8796093022208:=by
 unfold fitE
 simp only [Bool.and_eq_true,decide_eq_true_eq,List.all_eq_true,and_assoc]
def event_May.f (a0_0:ByteArray) (a0_1:ByteArray) (l0_2:List ByteArray) (l0_3:List (S90)):Option (Int):=if fitE a0_0 a0_1 l0_2 l0_3=true then some (mayE a0_0 a0_1 l0_2 l0_3) else none
theorem event_May.calls (a0_0:ByteArray) (a0_1:ByteArray) (A0_2:Option Addr) (c0_2:Nat) (l0_2:List ByteArray) (A0_3:Option Addr) (c0_3:Nat) (l0_3:List (S90)) (r:Int) (w:World) (hr0_2:Kd.C Kd.string w A0_2 l0_2.length l0_2) (hc0_2:l0_2.length≤c0_2) (hr0_3:Kd.C k90 w A0_3 l0_3.length l0_3) (hc0_3:l0_3.length≤c0_3) (h:event_May.f a0_0 a0_1 l0_2 l0_3=some r) :
  Calls Tryz.prog 52 #[.agg #[.string a0_0,.string a0_1,.slice A0_2 l0_2.length c0_2,.slice A0_3 l0_3.length c0_3]] w fun e w'=>e = .returned (.int .i64 r)∧Below w.heap.size w w':=by
 unfold event_May.f at h
 by_cases hf:fitE a0_0 a0_1 l0_2 l0_3=true
 ·rw [if_pos hf] at h
  obtain rfl:=Option.some.inj h
  obtain ⟨h1,h2,h3,h4,h5⟩:=fitE_iff.1 hf
  exact eventMay_calls a0_0 a0_1 A0_2 A0_3 c0_2 c0_3 l0_2 l0_3 w hr0_2 hc0_2 hr0_3 hc0_3 h1 h2 h3 h4 h5
 ·rw [if_neg hf] at h;cases h
end Go.Proofs.YtocpcnmnhckcpaaGreat.Prt
namespace Go.Proofs.YtocpcnmnhckcpaaGreat.Num
open RowKit YtocpcnmnhckcpaaGreatW.PrintWords YtocpcnmnhckcpaaGreatW.PrintLast YtocpcnmnhckcpaaGreatW.PrintMore YtocpcnmnhckcpaaGreat.Prt YtocpcnmnhckcpaaGreat.Nam
def takeFs:Nat→List Int→Bool→List S90 × List Int × Bool
 | 0,l,b=>([],l,b)
 | n+1,l,b=>((takeFs n l b).1++[⟨textOf (takeFs n l b).2.1,numOf (aftT (takeFs n l b).2.1)⟩],aft (aftT (takeFs n l b).2.1),badOf (aftT (takeFs n l b).2.1) (badT (takeFs n l b).2.1 (takeFs n l b).2.2))
def takeE (l:List Int) (b:Bool):S29 × Int × List Int × Bool:=
 let n:=numOf (aftT (aftT l));let l3:=aft (aftT (aftT l));let b3:=badOf (aftT (aftT l)) (badT (aftT l) (badT l b))
 if n < 0∨6 < n then (z29,2,l3,b3) else
 let q:=takeTs n.toNat l3 b3;let m:=numOf q.2.1;let l5:=aft q.2.1;let b5:=badOf q.2.1 q.2.2
 if m < 0∨4 < m then (z29,2,l5,b5) else
 let r:=takeFs m.toNat l5 b5
 if r.2.2=true∨mayE (textOf l) (textOf (aftT l)) q.1 r.1≠0 then (z29,2,r.2) else (⟨textOf l,textOf (aftT l),q.1,r.1⟩,0,r.2)
theorem takeFs_len (l:List Int) (b:Bool):∀ n,(takeFs n l b).1.length=n
 | 0=>rfl
 | n+1=>by simp only [takeFs,List.length_append,List.length_singleton,takeFs_len l b n]
theorem takeFs_left (l:List Int) (b:Bool) (hb:isBytes l):∀ n,isBytes (takeFs n l b).2.1∧(takeFs n l b).2.1.length≤l.length∧∀ x ∈ (takeFs n l b).1,x.f0.size≤l.length
 | 0=>⟨hb,Nat.le_refl _,fun x hx=>by simp [takeFs] at hx⟩
 | n+1=>by
  obtain ⟨h1,h2,h3⟩:=takeFs_left l b hb n
  have g1:=aftT_bytes h1
  refine ⟨aft_bytes g1,Nat.le_trans (aft_len _ g1) (Nat.le_trans (aftT_len _ h1) h2),fun x hx=>?_⟩
  simp only [takeFs] at hx
  rcases List.mem_append.1 hx with hx | hx
  ·exact h3 x hx
  ·rw [List.mem_singleton.1 hx];exact Nat.le_trans (textOf_size _ h1) h2
theorem Out.of_Tk {w w0 w':World} {P:Nat→Prop} {g E Rb:Nat} {l:List Int} {bad:Bool} {s t:ByteArray} {v2 v3:Value} {tags:List ByteArray} {fl:List S90} (h:Tk w0 w' P g E Rb l bad s t v2 tags v3 fl) (hB:Below w.heap.size w w0) (hg:g < w.heap.size):Out w w' P g l bad:=
 ⟨h.rd,(hB.mono (Nat.le_of_lt hg)).trans h.below,(KeepBut.of_below hB g none).trans h.keep (.inl rfl)⟩
theorem takeE_n {l:List Int} {b:Bool} (h:numOf (aftT (aftT l)) < 0∨6 < numOf (aftT (aftT l))):takeE l b=(z29,2,aft (aftT (aftT l)),badOf (aftT (aftT l)) (badT (aftT l) (badT l b))):=by
 unfold takeE;simp only;rw [if_pos h]
theorem takeE_m {l:List Int} {b:Bool} {q:List ByteArray × List Int × Bool} (h:¬(numOf (aftT (aftT l)) < 0∨6 < numOf (aftT (aftT l)))) (hq:takeTs (numOf (aftT (aftT l))).toNat (aft (aftT (aftT l))) (badOf (aftT (aftT l)) (badT (aftT l) (badT l b)))=q)
  (h2:numOf q.2.1 < 0∨4 < numOf q.2.1):takeE l b=(z29,2,aft q.2.1,badOf q.2.1 q.2.2):=by
 unfold takeE;simp only;rw [if_neg h,hq,if_pos h2]
theorem takeE_r {l:List Int} {b:Bool} {q:List ByteArray × List Int × Bool} {r:List S90 × List Int × Bool} (h:¬(numOf (aftT (aftT l)) < 0∨6 < numOf (aftT (aftT l)))) (hq:takeTs (numOf (aftT (aftT l))).toNat (aft (aftT (aftT l))) (badOf (aftT (aftT l)) (badT (aftT l) (badT l b)))=q)
  (h2:¬(numOf q.2.1 < 0∨4 < numOf q.2.1)) (hr:takeFs (numOf q.2.1).toNat (aft q.2.1) (badOf q.2.1 q.2.2)=r) :
  takeE l b=if r.2.2=true∨mayE (textOf l) (textOf (aftT l)) q.1 r.1≠0 then (z29,2,r.2) else (⟨textOf l,textOf (aftT l),q.1,r.1⟩,0,r.2):=by
 unfold takeE;simp only;rw [if_neg h,hq,if_neg h2,hr]
theorem R_set4 {α:Type} {d:Kd α} {e N t E:Nat} {w:World} {v:Value} {l:List α} {cells:Array Value} (h:d.R e w N (fun _=>True) v l) (hb:w.heap[E]? = some (.cells cells t (0,0))) (ht:∀ q,q ∈ e :: d.E→q≠t) (u0 u1 u2 u3:Value):d.R e ((((w.setCell ⟨E,0,none⟩ u0).setCell ⟨E,1,none⟩ u1).setCell ⟨E,2,none⟩ u2).setCell ⟨E,3,none⟩ u3) N (fun _=>True) v l:=
 R_set (R_set (R_set (R_set h hb ht 0 u0) (blk_set hb 0 u0) ht 1 u1) (blk_set (blk_set hb 0 u0) 1 u1) ht 2 u2) (blk_set (blk_set (blk_set hb 0 u0) 1 u1) 2 u2) ht 3 u3
theorem take_start (w w0:World) (P:Nat→Prop) (g:Nat) (l:List Int) (bad:Bool) (h0:w0=(w.alloc (.cells #[.pointer (some ⟨g,0,none⟩)] 47)).alloc (.cells #[.string ⟨#[]⟩,.string ⟨#[]⟩,.slice none 0 0,.slice none 0 0] 29)) (hI:Rd 85 P w g l bad) (hb:isBytes l) (hP:∀ k,P k→k < w.heap.size) :
  w0.heap.size=w.heap.size+1+1∧w0.heap[w.heap.size+1]? = some (.cells #[.string ⟨#[]⟩,.string ⟨#[]⟩,.slice none 0 0,.slice none 0 0] 29)∧Below w.heap.size w w0∧Tk w0 (w0.alloc (.cells #[.string ⟨#[]⟩,.string ⟨#[]⟩,.slice none 0 0,.slice none 0 0] 29)) P g (w.heap.size+1+1) w.heap.size l bad ⟨#[]⟩ ⟨#[]⟩ (.slice none 0 0) [] (.slice none 0 0) []:=by
 have hz:w0.heap.size=w.heap.size+1+1:=by rw [h0];simp only [World.size_alloc]
 have hB:Below w.heap.size w w0:=by rw [h0];exact below_alloc (below_alloc (Below.refl _ _) _) _
 have hq:w0.heap[w.heap.size+1]? = some (.cells #[.string ⟨#[]⟩,.string ⟨#[]⟩,.slice none 0 0,.slice none 0 0] 29):=by
  rw [h0]
  have:=heap_alloc_new (w.alloc (.cells #[.pointer (some ⟨g,0,none⟩)] 47)) (.cells #[.string ⟨#[]⟩,.string ⟨#[]⟩,.slice none 0 0,.slice none 0 0] 29)
  rwa [World.size_alloc] at this
 have hr:w0.heap[w.heap.size]? = some (.cells #[.pointer (some ⟨g,0,none⟩)] 47):=by rw [h0];exact blk_alloc (heap_alloc_new w _) _
 have hE:(w0.alloc (.cells #[.string ⟨#[]⟩,.string ⟨#[]⟩,.slice none 0 0,.slice none 0 0] 29)).heap[w.heap.size+1+1]? = some (.cells #[.string ⟨#[]⟩,.string ⟨#[]⟩,.slice none 0 0,.slice none 0 0] 29):=by rw [←hz];exact heap_alloc_new w0 _
 have hlt:=hI.lt
 have hb1:Below w.heap.size w (w0.alloc (.cells #[.string ⟨#[]⟩,.string ⟨#[]⟩,.slice none 0 0,.slice none 0 0] 29)):=below_alloc hB _
 refine ⟨hz,hq,hB,hI.below hb1,hE,blk_alloc hr _,Kd.R_nil _ _ _ _ _,Kd.R_nil _ _ _ _ _,KeepBut.of_below (below_alloc (Below.refl _ _) _) g none,(below_alloc (Below.refl w0.heap.size w0) _).mono (by omega),by omega,by omega,by omega,fun k hk=>by have:=hP k hk;omega,hb⟩
set_option maxRecDepth 100000 in
theorem take_walk (P:Nat→Prop) (w:World) (g:Nat) (l:List Int) (bad:Bool) (hI:Rd 85 P w g l bad) (hb:isBytes l) (hP:∀ k,P k→k < w.heap.size) (x:S29) (c:Int) (l':List Int) (b':Bool) (hx:takeE l bad=(x,c,l',b')) :
  Calls Tryz.prog 19 #[.pointer (some ⟨g,0,none⟩)] w fun e w'=>∃ v2 v3,e = .returned (.tuple #[.agg #[.string x.f0,.string x.f1,v2,v3],.int .i64 c])∧Kd.string.R 9 w' w.heap.size (fun _=>True) v2 x.f2∧k90.R 90 w' w.heap.size (fun _=>True) v3 x.f3 ∧
   Rd 85 P w' g l' b'∧isBytes l'∧Below g w w'∧KeepBut w w' g none:=by
 have HI:=Ak hI
 have HBY:=Ak hb
 have HP:=Ak hP
 have HSZ:=Ak (Nat.le_trans (textOf_size l hb) hI.len)
 have HSY:=Ak (Nat.le_trans (textOf_size (aftT l) (aftT_bytes hb)) (Nat.le_trans (aftT_len l hb) hI.len))
 have HX:=Ak hx
 have HB:=Ak (Below.refl w.heap.size w)
 clear hI hb hP hx
 have hu29:=Tryz.underlying29
 go_enter Tryz.func19,Tryz.ntmps19
 go_upto_region 4 with (fail)
 obtain ⟨w0,hw0⟩:∃ w0,w0=(w.alloc (.cells #[.pointer (some ⟨g,0,none⟩)] 47)).alloc (.cells #[.string ⟨#[]⟩,.string ⟨#[]⟩,.slice none 0 0,.slice none 0 0] 29):=⟨_,rfl⟩
 obtain ⟨hz,hq,hB,hT⟩:=take_start w w0 P g l bad hw0 HI.out HBY.out HP.out
 rw [←hw0]
 have HZ:=Ak hz
 have HQ:=Ak hq
 have HB0:=Ak hB
 have HT1:=Ak hT
 have HGW:=Ak HI.out.lt
 clear HB HI HBY hw0 hz hq hB hT
 generalize w0.alloc (.cells #[.string ⟨#[]⟩,.string ⟨#[]⟩,.slice none 0 0,.slice none 0 0] 29)=w1 at HT1 ⊢
 obtain ⟨E,hE⟩:∃ E,E=w.heap.size+1+1:=⟨_,rfl⟩
 rw [←hE] at HT1 ⊢
 have HE:=Ak hE
 obtain ⟨Q,hQ⟩:∃ Q,Q=w.heap.size+1:=⟨_,rfl⟩
 rw [←hQ] at HQ ⊢
 have HQE:=Ak (show Q≠E by omega)
 have HQN:=Ak (show Q < w0.heap.size∧w.heap.size≤Q by rw [HZ.out];omega)
 obtain ⟨R,hR⟩:∃ R,R=w.heap.size:=⟨_,rfl⟩
 rw [←hR] at HT1 ⊢
 clear hE hQ hR
 have hr0:=blk_cell HT1.out.hR 0
 go_wp2_with fail
 refine (text_calls P w1 g l bad HT1.out.rd HT1.out.by_).mono ?_
 rintro e w2 ⟨rfl,hI,hb,hk⟩
 have HT2:=Ak (HT1.out.read hI hb hk (aftT_bytes HT1.out.by_))
 clear HT1 hI hb hk hr0
 obtain ⟨s,hs⟩:∃ s,s=textOf l:=⟨_,rfl⟩
 rw [←hs]
 have HS:=Ak hs
 clear hs
 have he0:=blk_cell HT2.out.hE 0
 have hfz:=blk_frozen HT2.out.hE 0
 go_upto_region 5 with (fail)
 have HT3:=Ak (HT2.out.set0 s)
 clear HT2 he0 hfz
 generalize w2.setCell ⟨E,0,none⟩ (.string s)=w3 at HT3 ⊢
 have hr0:=blk_cell HT3.out.hR 0
 go_wp2_with fail
 refine (text_calls P w3 g (aftT l) (badT l bad) HT3.out.rd HT3.out.by_).mono ?_
 rintro e w4 ⟨rfl,hI,hb,hk⟩
 have HT4:=Ak (HT3.out.read hI hb hk (aftT_bytes HT3.out.by_))
 clear HT3 hI hb hk hr0
 obtain ⟨t,ht⟩:∃ t,t=textOf (aftT l):=⟨_,rfl⟩
 rw [←ht]
 have HTT:=Ak ht
 clear ht
 have he0:=blk_cell HT4.out.hE 1
 have hfz:=blk_frozen HT4.out.hE 1
 go_upto_region 6 with (fail)
 have HT5:=Ak (HT4.out.set1 t)
 clear HT4 he0 hfz
 generalize w4.setCell ⟨E,1,none⟩ (.string t)=w5 at HT5 ⊢
 have hr0:=blk_cell HT5.out.hR 0
 go_wp2_with fail
 obtain ⟨n,hn⟩:∃ n,n=numOf (aftT (aftT l)):=⟨_,rfl⟩
 have HN:=Ak hn
 clear hn
 refine (times_calls (fun i wi=>∃ v,Tk w0 wi P g E R (takeTs i (aft (aftT (aftT l))) (badOf (aftT (aftT l)) (badT (aftT l) (badT l bad)))).2.1 (takeTs i (aft (aftT (aftT l))) (badOf (aftT (aftT l)) (badT (aftT l) (badT l bad)))).2.2 s t v (takeTs i (aft (aftT (aftT l))) (badOf (aftT (aftT l)) (badT (aftT l) (badT l bad)))).1 (.slice none 0 0) []) 6 50 (.pointer (some ⟨E,0,none⟩)) (.pointer (some ⟨R,0,none⟩)) P w5 g (aftT (aftT l)) (badT (aftT l) (badT l bad)) HT5.out.rd HT5.out.by_ (by decide) (by decide) (enters_of Tryz.func50 (by kernel_rfl) rfl)
  (fun w1 h1 h2 h3=>⟨_,HT5.out.read h1 h2 h3 (aft_bytes HT5.out.by_)⟩) (fun i w1 hi hle hv=>by
   obtain ⟨v,hv⟩:=hv
   exact (tag_calls w0 w1 P g E R _ _ s t v _ _ _ hv (by rw [takeTs_len];omega)).mono (fun e w2 h=>h))).mono ?_
 rintro e w6 (⟨hbad,rfl,hI,hb,hk⟩ | ⟨hn0,hn6,rfl,v2,hv⟩)
 ·have HT6:=Ak (HT5.out.read hI hb hk (aft_bytes HT5.out.by_))
  have HBYX:=Ak HT6.out.by_
  have HBAD:=Ak hbad
  clear hI hb hk hr0 hbad
  have HQW:=Ak ((HT6.out.keep.blk HQ.out (by have:=HGW.out;have:=HQN.out.2;omega) (by simp)))
  have HO:=Ak (Out.of_Tk HT6.out HB0.out HGW.out)
  clear HT6 HT5
  have hq0:=blk_cell HQW.out 0
  have hq1:=blk_cell HQW.out 1
  have hq2:=blk_cell HQW.out 2
  have hq3:=blk_cell HQW.out 3
  have hf0:=blk_frozen HQW.out 0
  have hf1:=blk_frozen HQW.out 1
  have hf2:=blk_frozen HQW.out 2
  have hf3:=blk_frozen HQW.out 3
  go_wp2
  have HQ2:=blk_put (cs':=#[.string ⟨#[]⟩,.string ⟨#[]⟩,.slice none 0 0,.slice none 0 0]) (blk_put (cs':=#[.string ⟨#[]⟩,.string ⟨#[]⟩,.slice none 0 0,.slice none 0 0]) (blk_put (cs':=#[.string ⟨#[]⟩,.string ⟨#[]⟩,.slice none 0 0,.slice none 0 0]) (blk_put (cs':=#[.string ⟨#[]⟩,.string ⟨#[]⟩,.slice none 0 0,.slice none 0 0]) HQW.out 0 (.string ⟨#[]⟩) rfl) 1 (.string ⟨#[]⟩) rfl) 2 (.slice none 0 0) rfl) 3 (.slice none 0 0) rfl
  refine bodyPost_ret (results_ct rfl _ _ Q 29 _ (0,0) _ rfl HQ2 Tryz.underlying29 rfl (by kernel_rfl)) rfl ?_
  have hx:=HX.out
  rw [takeE_n HBAD.out] at hx
  simp only [Prod.mk.injEq] at hx
  obtain ⟨rfl,rfl,rfl,rfl⟩:=hx
  have ho:=(((HO.out.set HGW.out HP.out HQN.out.2 0 (.string ⟨#[]⟩)).set HGW.out HP.out HQN.out.2 1 (.string ⟨#[]⟩)).set HGW.out HP.out HQN.out.2 2 (.slice none 0 0)).set HGW.out HP.out HQN.out.2 3 (.slice none 0 0)
  exact ⟨.slice none 0 0,.slice none 0 0,rfl,Kd.R_nil _ _ _ _ _,Kd.R_nil _ _ _ _ _,ho.1,HBYX.out,ho.2.1,ho.2.2⟩
 ·obtain ⟨q,hq⟩:∃ q,takeTs (numOf (aftT (aftT l))).toNat (aft (aftT (aftT l))) (badOf (aftT (aftT l)) (badT (aftT l) (badT l bad)))=q:=⟨_,rfl⟩
  rw [hq] at hv
  have hql:q.1.length≤6:=by rw [←hq,takeTs_len];omega
  have hqs:=takeTs_left (aft (aftT (aftT l))) (badOf (aftT (aftT l)) (badT (aftT l) (badT l bad))) (aft_bytes HT5.out.by_) (numOf (aftT (aftT l))).toNat
  rw [hq] at hqs
  have hlen5:=HT5.out.rd.len
  have HZT:Aside0 (∀ x ∈ q.1,x.size≤9223372036854775807):=⟨fun x hx=>Nat.le_trans (hqs.2.2 x hx) (Nat.le_trans (aft_len _ HT5.out.by_) hlen5)⟩
  have HL6:Aside0 (q.2.1.length≤9223372036854775807):=⟨Nat.le_trans hqs.2.1 (Nat.le_trans (aft_len _ HT5.out.by_) hlen5)⟩
  have HQQ:=Ak hq
  have HN1:Aside0 (¬(numOf (aftT (aftT l)) < 0∨6 < numOf (aftT (aftT l)))):=⟨by omega⟩
  have HT6:=Ak hv
  clear HT5 hr0 hv hq hn0 hn6 hqs hlen5
  obtain ⟨tags,l4,b4⟩:=q
  simp only at HT6 HZT HL6 hql
  have hr0:=blk_cell HT6.out.hR 0
  go_wp2_with fail
  refine (times_calls (fun i wi=>∃ v,Tk w0 wi P g E R (takeFs i (aft l4) (badOf l4 b4)).2.1 (takeFs i (aft l4) (badOf l4 b4)).2.2 s t v2 tags v (takeFs i (aft l4) (badOf l4 b4)).1) 4 51 (.pointer (some ⟨R,0,none⟩)) (.pointer (some ⟨E,0,none⟩)) P w6 g l4 b4 HT6.out.rd HT6.out.by_ (by decide) (by decide) (enters_of Tryz.func51 (by kernel_rfl) rfl)
   (fun w1 h1 h2 h3=>⟨_,HT6.out.read h1 h2 h3 (aft_bytes HT6.out.by_)⟩) (fun i w1 hi hle hv=>by
    obtain ⟨v,hv⟩:=hv
    exact (field_calls w0 w1 P g E R _ _ s t v2 tags v _ hv (by rw [takeFs_len];omega)).mono (fun e w2 h=>h))).mono ?_
  rintro e w7 (⟨hbad,rfl,hI,hb,hk⟩ | ⟨hn0,hn4,rfl,v3,hv⟩)
  ·have HT7:=Ak (HT6.out.read hI hb hk (aft_bytes HT6.out.by_))
   have HBYX:=Ak HT7.out.by_
   have HBAD:=Ak hbad
   clear hI hb hk hr0 hbad HT6
   have HQW:=Ak ((HT7.out.keep.blk HQ.out (by have:=HGW.out;have:=HQN.out.2;omega) (by simp)))
   have HO:=Ak (Out.of_Tk HT7.out HB0.out HGW.out)
   clear HT7
   have hq0:=blk_cell HQW.out 0
   have hq1:=blk_cell HQW.out 1
   have hq2:=blk_cell HQW.out 2
   have hq3:=blk_cell HQW.out 3
   have hf0:=blk_frozen HQW.out 0
   have hf1:=blk_frozen HQW.out 1
   have hf2:=blk_frozen HQW.out 2
   have hf3:=blk_frozen HQW.out 3
   go_wp2
   have HQ2:=blk_put (cs':=#[.string ⟨#[]⟩,.string ⟨#[]⟩,.slice none 0 0,.slice none 0 0]) (blk_put (cs':=#[.string ⟨#[]⟩,.string ⟨#[]⟩,.slice none 0 0,.slice none 0 0]) (blk_put (cs':=#[.string ⟨#[]⟩,.string ⟨#[]⟩,.slice none 0 0,.slice none 0 0]) (blk_put (cs':=#[.string ⟨#[]⟩,.string ⟨#[]⟩,.slice none 0 0,.slice none 0 0]) HQW.out 0 (.string ⟨#[]⟩) rfl) 1 (.string ⟨#[]⟩) rfl) 2 (.slice none 0 0) rfl) 3 (.slice none 0 0) rfl
   refine bodyPost_ret (results_ct rfl _ _ Q 29 _ (0,0) _ rfl HQ2 Tryz.underlying29 rfl (by kernel_rfl)) rfl ?_
   have hx:=HX.out
   rw [takeE_m HN1.out HQQ.out HBAD.out] at hx
   simp only [Prod.mk.injEq] at hx
   obtain ⟨rfl,rfl,rfl,rfl⟩:=hx
   have ho:=(((HO.out.set HGW.out HP.out HQN.out.2 0 (.string ⟨#[]⟩)).set HGW.out HP.out HQN.out.2 1 (.string ⟨#[]⟩)).set HGW.out HP.out HQN.out.2 2 (.slice none 0 0)).set HGW.out HP.out HQN.out.2 3 (.slice none 0 0)
   exact ⟨.slice none 0 0,.slice none 0 0,rfl,Kd.R_nil _ _ _ _ _,Kd.R_nil _ _ _ _ _,ho.1,HBYX.out,ho.2.1,ho.2.2⟩
  ·obtain ⟨q2,hq2⟩:∃ q2,takeFs (numOf l4).toNat (aft l4) (badOf l4 b4)=q2:=⟨_,rfl⟩
   rw [hq2] at hv
   have hqs:=takeFs_left (aft l4) (badOf l4 b4) (aft_bytes HT6.out.by_) (numOf l4).toNat
   rw [hq2] at hqs
   have hql2:q2.1.length≤4:=by rw [←hq2,takeFs_len];omega
   have HZF:Aside0 (∀ x ∈ q2.1,x.f0.size≤9223372036854775807):=⟨fun x hx=>Nat.le_trans (hqs.2.2 x hx) (Nat.le_trans (aft_len _ HT6.out.by_) HL6.out)⟩
   have HQ2:=Ak hq2
   have HN2:Aside0 (¬(numOf l4 < 0∨4 < numOf l4)):=⟨by omega⟩
   have HT7:=Ak hv
   have HR:=Ak (takeE_r HN1.out HQQ.out HN2.out hq2)
   clear HT6 hr0 hv hq2 hn0 hn4 hqs HQ2 HQQ HN1 HN2
   obtain ⟨fl,l6,b6⟩:=q2
   simp only at HT7 HZF hql2 HR
   have HBYX:=Ak HT7.out.by_
   have hr0:=blk_cell HT7.out.hR 0
   go_wp2_with fail
   refine (bad_calls P w7 g l6 b6 HT7.out.rd).mono ?_
   rintro e w8 ⟨rfl,rfl⟩
   cases b6 with
   | true=>
    have HR2:=Ak (HR.out.trans (if_pos (.inl rfl)))
    clear hr0 HR
    have HQW:=Ak ((HT7.out.keep.blk HQ.out (by have:=HGW.out;have:=HQN.out.2;omega) (by simp)))
    have HO:=Ak (Out.of_Tk HT7.out HB0.out HGW.out)
    clear HT7
    have hq0:=blk_cell HQW.out 0
    have hq1:=blk_cell HQW.out 1
    have hq2:=blk_cell HQW.out 2
    have hq3:=blk_cell HQW.out 3
    have hf0:=blk_frozen HQW.out 0
    have hf1:=blk_frozen HQW.out 1
    have hf2:=blk_frozen HQW.out 2
    have hf3:=blk_frozen HQW.out 3
    go_wp2
    have HQ2:=blk_put (cs':=#[.string ⟨#[]⟩,.string ⟨#[]⟩,.slice none 0 0,.slice none 0 0]) (blk_put (cs':=#[.string ⟨#[]⟩,.string ⟨#[]⟩,.slice none 0 0,.slice none 0 0]) (blk_put (cs':=#[.string ⟨#[]⟩,.string ⟨#[]⟩,.slice none 0 0,.slice none 0 0]) (blk_put (cs':=#[.string ⟨#[]⟩,.string ⟨#[]⟩,.slice none 0 0,.slice none 0 0]) HQW.out 0 (.string ⟨#[]⟩) rfl) 1 (.string ⟨#[]⟩) rfl) 2 (.slice none 0 0) rfl) 3 (.slice none 0 0) rfl
    refine bodyPost_ret (results_ct rfl _ _ Q 29 _ (0,0) _ rfl HQ2 Tryz.underlying29 rfl (by kernel_rfl)) rfl ?_
    have hx:=HX.out
    rw [HR2.out] at hx
    simp only [Prod.mk.injEq] at hx
    obtain ⟨rfl,rfl,rfl,rfl⟩:=hx
    have ho:=(((HO.out.set HGW.out HP.out HQN.out.2 0 (.string ⟨#[]⟩)).set HGW.out HP.out HQN.out.2 1 (.string ⟨#[]⟩)).set HGW.out HP.out HQN.out.2 2 (.slice none 0 0)).set HGW.out HP.out HQN.out.2 3 (.slice none 0 0)
    exact ⟨.slice none 0 0,.slice none 0 0,rfl,Kd.R_nil _ _ _ _ _,Kd.R_nil _ _ _ _ _,ho.1,HBYX.out,ho.2.1,ho.2.2⟩
   | false=>
    obtain ⟨A2,c2,e2,hc2,hC2⟩:=Kd.R_reads HT7.out.r2
    subst e2
    obtain ⟨A3,c3,e3,hc3,hC3⟩:=Kd.R_reads HT7.out.r3
    subst e3
    have HC2:=Ak hC2
    have HC3:=Ak hC3
    have he0:=blk_cell HT7.out.hE 0
    have he1:=blk_cell HT7.out.hE 1
    have he2:=blk_cell HT7.out.hE 2
    have he3:=blk_cell HT7.out.hE 3
    clear hC2 hC3
    go_wp2_with fail
    refine (eventMay_calls s t A2 A3 c2 c3 tags fl w7 HC2.out hc2 HC3.out hc3 (by rw [HS.out];exact HSZ.out) (by rw [HTT.out];exact HSY.out) HZT.out HZF.out (by omega)).mono ?_
    rintro e w8 ⟨rfl,hb⟩
    have HT8:=Ak (HT7.out.up hb)
    clear HT7 hb he0 he1 he2 he3 hr0 HC2 HC3
    obtain ⟨m,hm⟩:∃ m,m=mayE s t tags fl:=⟨_,rfl⟩
    rw [←hm]
    have HM:=Ak hm
    clear hm
    by_cases h0:m=0
    ·have hbn:(m != 0)=false:=bne_eq_false_iff_eq.mpr h0
     have HR2:=Ak (HR.out.trans (if_neg (by rintro (h | h);(· cases h);exact h (by rw [←HS.out,←HTT.out,←HM.out];exact h0))))
     clear h0 HR
     have HQW:=Ak ((HT8.out.keep.blk HQ.out (by have:=HGW.out;have:=HQN.out.2;omega) (by simp)))
     have HO:=Ak (Out.of_Tk HT8.out HB0.out HGW.out)
     have hq0:=blk_cell HQW.out 0
     have hq1:=blk_cell HQW.out 1
     have hq2:=blk_cell HQW.out 2
     have hq3:=blk_cell HQW.out 3
     have hf0:=blk_frozen HQW.out 0
     have hf1:=blk_frozen HQW.out 1
     have hf2:=blk_frozen HQW.out 2
     have hf3:=blk_frozen HQW.out 3
     have he0:=blk_cell HT8.out.hE 0
     have he1:=blk_cell HT8.out.hE 1
     have he2:=blk_cell HT8.out.hE 2
     have he3:=blk_cell HT8.out.hE 3
     go_wp2
     have HQ2:=blk_put (cs':=#[.string s,.string t,.slice A2 tags.length c2,.slice A3 fl.length c3]) (blk_put (cs':=#[.string s,.string t,.slice A2 tags.length c2,.slice none 0 0]) (blk_put (cs':=#[.string s,.string t,.slice none 0 0,.slice none 0 0]) (blk_put (cs':=#[.string s,.string ⟨#[]⟩,.slice none 0 0,.slice none 0 0]) HQW.out 0 (.string s) rfl) 1 (.string t) rfl) 2 (.slice A2 tags.length c2) rfl) 3 (.slice A3 fl.length c3) rfl
     refine bodyPost_ret (results_ct rfl _ _ Q 29 _ (0,0) _ rfl HQ2 Tryz.underlying29 rfl (by kernel_rfl)) rfl ?_
     have hx:=HX.out
     rw [HR2.out] at hx
     simp only [Prod.mk.injEq] at hx
     obtain ⟨rfl,rfl,rfl,rfl⟩:=hx
     have ho:=(((HO.out.set HGW.out HP.out HQN.out.2 0 (.string s)).set HGW.out HP.out HQN.out.2 1 (.string t)).set HGW.out HP.out HQN.out.2 2 (.slice A2 tags.length c2)).set HGW.out HP.out HQN.out.2 3 (.slice A3 fl.length c3)
     exact ⟨.slice A2 tags.length c2,.slice A3 fl.length c3,by rw [HS.out,HTT.out];rfl,Kd.R_lower (R_set4 HT8.out.r2 HQW.out (by decide) _ _ _ _) HB0.out.size,Kd.R_lower (R_set4 HT8.out.r3 HQW.out (by decide) _ _ _ _) HB0.out.size,ho.1,HBYX.out,ho.2.1,ho.2.2⟩
    ·have hbn:(m != 0)=true:=bne_iff_ne.mpr h0
     have HR2:=Ak (HR.out.trans (if_pos (.inr (by rw [←HS.out,←HTT.out,←HM.out];exact h0))))
     clear h0 HR
     have HQW:=Ak ((HT8.out.keep.blk HQ.out (by have:=HGW.out;have:=HQN.out.2;omega) (by simp)))
     have HO:=Ak (Out.of_Tk HT8.out HB0.out HGW.out)
     clear HT8
     have hq0:=blk_cell HQW.out 0
     have hq1:=blk_cell HQW.out 1
     have hq2:=blk_cell HQW.out 2
     have hq3:=blk_cell HQW.out 3
     have hf0:=blk_frozen HQW.out 0
     have hf1:=blk_frozen HQW.out 1
     have hf2:=blk_frozen HQW.out 2
     have hf3:=blk_frozen HQW.out 3
     go_wp2
     have HQ2:=blk_put (cs':=#[.string ⟨#[]⟩,.string ⟨#[]⟩,.slice none 0 0,.slice none 0 0]) (blk_put (cs':=#[.string ⟨#[]⟩,.string ⟨#[]⟩,.slice none 0 0,.slice none 0 0]) (blk_put (cs':=#[.string ⟨#[]⟩,.string ⟨#[]⟩,.slice none 0 0,.slice none 0 0]) (blk_put (cs':=#[.string ⟨#[]⟩,.string ⟨#[]⟩,.slice none 0 0,.slice none 0 0]) HQW.out 0 (.string ⟨#[]⟩) rfl) 1 (.string ⟨#[]⟩) rfl) 2 (.slice none 0 0) rfl) 3 (.slice none 0 0) rfl
     refine bodyPost_ret (results_ct rfl _ _ Q 29 _ (0,0) _ rfl HQ2 Tryz.underlying29 rfl (by kernel_rfl)) rfl ?_
     have hx:=HX.out
     rw [HR2.out] at hx
     simp only [Prod.mk.injEq] at hx
     obtain ⟨rfl,rfl,rfl,rfl⟩:=hx
     have ho:=(((HO.out.set HGW.out HP.out HQN.out.2 0 (.string ⟨#[]⟩)).set HGW.out HP.out HQN.out.2 1 (.string ⟨#[]⟩)).set HGW.out HP.out HQN.out.2 2 (.slice none 0 0)).set HGW.out HP.out HQN.out.2 3 (.slice none 0 0)
     exact ⟨.slice none 0 0,.slice none 0 0,rfl,Kd.R_nil _ _ _ _ _,Kd.R_nil _ _ _ _ _,ho.1,HBYX.out,ho.2.1,ho.2.2⟩
end Go.Proofs.YtocpcnmnhckcpaaGreat.Num
namespace Go.Proofs.YtocpcnmnhckcpaaGreat.Prt
open RowKit YtocpcnmnhckcpaaGreatW.PrintWords YtocpcnmnhckcpaaGreatW.PrintLast YtocpcnmnhckcpaaGreatW.PrintMore
attribute [local go_sem] max2_int min2_int max_two min_two max_three min_three max_four min_four
def q04_tags.l0:Nat→List ByteArray→Int→Option (Bool)
 | 0,_,_=>none
 | k+1,x0,x3=>if x3 < (x0.length:Int) then (if 0≤x3 then ((q03_PartsG.f (rdOf ByteArray.empty x0 x3)).bind fun bt199=>(if bt199.2.2=true then (q04_tags.l0 k x0 (wrap64 (x3+1))) else (some false))) else (none)) else (some true)
def q04_tags.f (k:Nat) (l0:List ByteArray):Option (Bool):=q04_tags.l0 k l0 0
set_option maxHeartbeats 8000000 in
set_option maxRecDepth 100000 in
theorem q04_tags.calls (k:Nat) (A0:Option Addr) (c0:Nat) (l0:List ByteArray) (r:Bool) (w:World) (hr0:Kd.C Kd.string w A0 l0.length l0) (hc0:l0.length≤c0) (h:q04_tags.f k l0=some r) :
  Calls Tryz.prog 91 #[.slice A0 l0.length c0] w fun e w'=>e = .returned (.bool r)∧Below w.heap.size w w':=by
 have HR0:=Ak hr0
 have HC0:=Ak hc0
 clear hr0 hc0
 have HB:=Ak (Below.refl w.heap.size w)
 have H:(q04_tags.l0 k l0 0)=some r:=h
 clear h
 have H':=Ak H
 clear H
 go_enter Tryz.func91,Tryz.ntmps91
 go_wp2
 go_loopg [3] k (fun kq v3 w'=>∃ (x3_1:Int),v3 = .int .i64 x3_1∧Aside0 (q04_tags.l0 kq l0 x3_1=some r)∧Aside0 (kq≤k)∧Aside0 (Below w.heap.size w w'))
 case atStart=>exact ⟨(0),(by rfl),H',⟨Nat.le_refl _⟩,⟨by with_reducible exact HB.out⟩⟩
 case round=>
  clear H'
  obtain ⟨x3_1,rfl,HA,HK1,HB⟩:=hrel
  cases gk with
  | zero=>exact absurd HA.out (by simp [q04_tags.l0])
  | succ k1=>
   have H:=HA.out
   clear HA
   simp only [q04_tags.l0] at H
   by_cases c2:x3_1 < (l0.length:Int)
   ·rw [if_pos c2] at H
    have c2b0:decide (x3_1 < (l0.length:Int))=true:=decide_eq_true c2
    clear c2
    by_cases c3:0≤x3_1
    ·rw [if_pos c3] at H
     have c3b0:decide (0≤x3_1)=true:=decide_eq_true c3
     clear c3
     replace H:=Option.bind_eq_some_iff.mp H
     obtain ⟨⟨t199,t200,t201⟩,A40,H⟩:=H
     replace H:(if t201=true then (q04_tags.l0 k1 l0 (wrap64 (x3_1+1))) else (some false))=some r:=H
     have A4:=Ak A40
     clear A40
     by_cases c5:t201=true
     ·subst c5
      have H1:(q04_tags.l0 k1 l0 (wrap64 (x3_1+1)))=some r:=by rw [if_pos rfl] at H;exact H
      clear H
      have H:=H1
      clear H1
      have H':=Ak H
      clear H
      have p198:0≤(x3_1:Int):=of_decide_eq_true (by (with_reducible assumption))
      have q198:x3_1 < (l0.length:Int):=of_decide_eq_true (by (with_reducible assumption))
      obtain ⟨ad198,e198,hx198_0⟩:=Kd.at_string HR0.out x3_1 p198 q198
      cases e198
      replace hx198_0:=(HB.out.cell (World.block_lt_of_cell? w _ hx198_0)).trans hx198_0
      replace p198:=eq_true p198
      replace q198:=eq_true q198
      go_wp2_with (((with_reducible refine gate_callee (f:=93) rfl ?_);refine goesL_ (some 18) rfl rfl Tryz.func93 (by kernel_rfl) rfl #[.string (rdOf ByteArray.empty l0 x3_1)] rfl (by (try simp only [List.map_toArray,List.map_cons,List.map_nil]);rfl) ?_;(with_reducible refine (q03_PartsG.calls (rdOf ByteArray.empty l0 x3_1) t199 t200 true _ A4.out).mono ?_);rintro e w6 ⟨rfl,hb⟩;refine ⟨_,rfl,?_⟩;replace HB:=Ak (below_step HB.out hb);(try clear hb)))
      go_roundg k1
      case measure=>have:=HK1.out;omega
      case rel=>exact ⟨(wrap64 (x3_1+1)),(by rfl),H',⟨by have:=HK1.out;omega⟩,⟨by with_reducible exact HB.out⟩⟩
     ·replace c5:=Bool.eq_false_iff.mpr c5
      subst c5
      have H1:(some false)=some r:=by rw [if_neg (show ¬(false=true) by decide)] at H;exact H
      clear H
      have H:=H1
      clear H1
      obtain rfl:=Option.some.inj H
      have p198:0≤(x3_1:Int):=of_decide_eq_true (by (with_reducible assumption))
      have q198:x3_1 < (l0.length:Int):=of_decide_eq_true (by (with_reducible assumption))
      obtain ⟨ad198,e198,hx198_0⟩:=Kd.at_string HR0.out x3_1 p198 q198
      cases e198
      replace hx198_0:=(HB.out.cell (World.block_lt_of_cell? w _ hx198_0)).trans hx198_0
      replace p198:=eq_true p198
      replace q198:=eq_true q198
      go_wp2_with (((with_reducible refine gate_callee (f:=93) rfl ?_);refine goesL_ (some 18) rfl rfl Tryz.func93 (by kernel_rfl) rfl #[.string (rdOf ByteArray.empty l0 x3_1)] rfl (by (try simp only [List.map_toArray,List.map_cons,List.map_nil]);rfl) ?_;(with_reducible refine (q03_PartsG.calls (rdOf ByteArray.empty l0 x3_1) t199 t200 false _ A4.out).mono ?_);rintro e w7 ⟨rfl,hb⟩;refine ⟨_,rfl,?_⟩;replace HB:=Ak (below_step HB.out hb);(try clear hb)))
      go_ret
      exact ⟨by rfl,by with_reducible exact HB.out⟩
    ·rw [if_neg c3] at H
     exact absurd H (by simp)
   ·rw [if_neg c2] at H
    have c2b0:decide (x3_1 < (l0.length:Int))=false:=decide_eq_false c2
    clear c2
    obtain rfl:=Option.some.inj H
    go_wp2
    go_ret
    exact ⟨by rfl,by with_reducible exact HB.out⟩
end Go.Proofs.YtocpcnmnhckcpaaGreat.Prt
namespace Go.Proofs.YtocpcnmnhckcpaaGreat.Prt
open RowKit YtocpcnmnhckcpaaGreatW.PrintWords YtocpcnmnhckcpaaGreatW.PrintLast YtocpcnmnhckcpaaGreatW.PrintMore YtocpcnmnhckcpaaGreat.Num YtocpcnmnhckcpaaGreat.Nam
theorem tags_loop (l:List ByteArray) (hl:l.length≤9223372036854775807) (hf:∀ x ∈ l,x.size≤9223372036854775807):∀ (n i k:Nat),i+n=l.length→n < k→q04_tags.l0 k l (i:Int)=some ((l.drop i).all tagB):=by
 intro n
 induction n with
 | zero=>
  intro i k hi hk
  obtain ⟨k,rfl⟩:∃ m,k=m+1:=⟨k - 1,by omega⟩
  rw [q04_tags.l0,if_neg (by omega),List.drop_eq_nil_of_le (by omega)];rfl
 | succ n ih=>
  intro i k hi hk
  obtain ⟨k,rfl⟩:∃ m,k=m+1:=⟨k - 1,by omega⟩
  have m1:q03_PartsG.f (rdOf ByteArray.empty l (i:Int))=some (partsS (rdOf ByteArray.empty l (i:Int))):=by
   unfold q03_PartsG.f
   exact if_pos (hf _ (rdOf_mem (by omega)))
  rw [q04_tags.l0,if_pos (by omega),if_pos (by omega),m1,drop_rd l i (by omega),List.all_cons]
  simp only [Option.bind_some]
  rw [partsS_tag]
  cases tagB (rdOf ByteArray.empty l (i:Int)) with
  | true=>rw [if_pos rfl,succW i (by omega),ih (i+1) k (by omega) (by omega)];rfl
  | false=>rfl
def q04_tagsG.f (l0:List ByteArray):Option (Bool):=if l0.length≤9223372036854775807∧fitS l0=true then some (l0.all tagB) else none
theorem q04_tagsG.val {l0:List ByteArray} {r:Bool} (h:q04_tagsG.f l0=some r):∃ k,q04_tags.f k l0=some r:=by
 unfold q04_tagsG.f at h
 by_cases hc:l0.length≤9223372036854775807∧fitS l0=true
 ·rw [if_pos hc] at h
  rw [←h]
  exact ⟨_,tags_loop l0 hc.1 (fitS_iff.1 hc.2) l0.length 0 (l0.length+1) (by omega) (by omega)⟩
 ·rw [if_neg hc] at h;cases h
theorem q04_tagsG.calls (A0:Option Addr) (c0:Nat) (l0:List ByteArray) (r:Bool) (w:World) (hr0:Kd.C Kd.string w A0 l0.length l0) (hc0:l0.length≤c0) (h:q04_tagsG.f l0=some r) :
  Calls Tryz.prog 91 #[.slice A0 l0.length c0] w fun e w'=>e = .returned (.bool r)∧Below w.heap.size w w':=by
 obtain ⟨k,hk⟩:=q04_tagsG.val h
 exact q04_tags.calls k A0 c0 l0 r w hr0 hc0 hk
end Go.Proofs.YtocpcnmnhckcpaaGreat.Prt
namespace Go.Proofs.YtocpcnmnhckcpaaGreat.Prt
open RowKit YtocpcnmnhckcpaaGreatW.PrintWords YtocpcnmnhckcpaaGreatW.PrintLast YtocpcnmnhckcpaaGreatW.PrintMore
attribute [local go_sem] max2_int min2_int max_two min_two max_three min_three max_four min_four
theorem eqA90 (d:Nat) (w:World) (x0 y0:ByteArray) (x1 y1:Int) :
  (Op.equalIn (d+2) 90 (.agg #[.string x0,.int .i64 x1]) (.agg #[.string y0,.int .i64 y1])).run Tryz.prog w = .ok (x0.toList == y0.toList && (x1 == y1)) w:=by
 refine eqA_of Tryz.underlying90 (by kernel_rfl) ?_
 refine eqf_cons (by rfl) (by go_simp;rfl) (by go_simp;rfl) (by go_simp) ?_
 exact eqf_last (by rfl) (by go_simp;rfl) (by go_simp;rfl) (by go_simp)
end Go.Proofs.YtocpcnmnhckcpaaGreat.Prt
namespace Go.Proofs.YtocpcnmnhckcpaaGreat.Prt
open RowKit YtocpcnmnhckcpaaGreatW.PrintWords YtocpcnmnhckcpaaGreatW.PrintLast YtocpcnmnhckcpaaGreatW.PrintMore
attribute [local go_sem] max2_int min2_int max_two min_two max_three min_three max_four min_four
attribute [local go_sem high] eqA90
mutual
def q04_Same.j0:Nat→Bool→ByteArray→ByteArray→List ByteArray→List (S90)→ByteArray→ByteArray→List ByteArray→List (S90)→Option (Bool)
 | 0,_,_,_,_,_,_,_,_,_=>none
 | k+1,x36,x335000,x335001,x335002,x335003,x336000,x336001,x336002,x336003=>if x36=true then (some false) else (q04_Same.l0 k 0 x335000 x335001 x335002 x335003 x336000 x336001 x336002 x336003)
def q04_Same.l0:Nat→Int→ByteArray→ByteArray→List ByteArray→List (S90)→ByteArray→ByteArray→List ByteArray→List (S90)→Option (Bool)
 | 0,_,_,_,_,_,_,_,_,_=>none
 | k+1,x6,x335000,x335001,x335002,x335003,x336000,x336001,x336002,x336003=>if x6 < (x335003.length:Int) then (if 0≤x6 then (if x6 < (x336003.length:Int) then (if (!((((rd_T90 x335003 x6).f0).toList) == (((rd_T90 x336003 x6).f0).toList)) || (!(((rd_T90 x335003 x6).f1) == ((rd_T90 x336003 x6).f1))))=true then (some false) else (q04_Same.l0 k (wrap64 (x6+1)) x335000 x335001 x335002 x335003 x336000 x336001 x336002 x336003)) else (none)) else (none)) else (some true)
end
def q04_Same.f (k:Nat) (a0_0:ByteArray) (a0_1:ByteArray) (l0_2:List ByteArray) (l0_3:List (S90)) (a1_0:ByteArray) (a1_1:ByteArray) (l1_2:List ByteArray) (l1_3:List (S90)):Option (Bool):=(q04_TextsG.f l0_2 l1_2).bind fun t336=>(if a0_0.toList=a1_0.toList then (if a0_1.toList=a1_1.toList then (if t336=true then (q04_Same.j0 k ((l0_3.length:Int) != (l1_3.length:Int)) a0_0 a0_1 l0_2 l0_3 a1_0 a1_1 l1_2 l1_3) else (q04_Same.j0 k true a0_0 a0_1 l0_2 l0_3 a1_0 a1_1 l1_2 l1_3)) else (q04_Same.j0 k true a0_0 a0_1 l0_2 l0_3 a1_0 a1_1 l1_2 l1_3)) else (q04_Same.j0 k true a0_0 a0_1 l0_2 l0_3 a1_0 a1_1 l1_2 l1_3))
set_option maxHeartbeats 8000000 in
set_option maxRecDepth 100000 in
theorem q04_Same.calls (k:Nat) (a0_0:ByteArray) (a0_1:ByteArray) (A0_2:Option Addr) (c0_2:Nat) (l0_2:List ByteArray) (A0_3:Option Addr) (c0_3:Nat) (l0_3:List (S90)) (a1_0:ByteArray) (a1_1:ByteArray) (A1_2:Option Addr) (c1_2:Nat) (l1_2:List ByteArray) (A1_3:Option Addr) (c1_3:Nat) (l1_3:List (S90)) (r:Bool) (w:World) (hr0_2:Kd.C Kd.string w A0_2 l0_2.length l0_2) (hc0_2:l0_2.length≤c0_2) (hr0_3:Kd.C k90 w A0_3 l0_3.length l0_3) (hc0_3:l0_3.length≤c0_3) (hr1_2:Kd.C Kd.string w A1_2 l1_2.length l1_2) (hc1_2:l1_2.length≤c1_2) (hr1_3:Kd.C k90 w A1_3 l1_3.length l1_3) (hc1_3:l1_3.length≤c1_3) (h:q04_Same.f k a0_0 a0_1 l0_2 l0_3 a1_0 a1_1 l1_2 l1_3=some r) :
  Calls Tryz.prog 27 #[.agg #[.string a0_0,.string a0_1,.slice A0_2 l0_2.length c0_2,.slice A0_3 l0_3.length c0_3],.agg #[.string a1_0,.string a1_1,.slice A1_2 l1_2.length c1_2,.slice A1_3 l1_3.length c1_3]] w fun e w'=>e = .returned (.bool r)∧Below w.heap.size w w':=by
 have hu29:=Tryz.underlying29
 have hu90:=Tryz.underlying90
 have HR0_2:=Ak hr0_2
 have HC0_2:=Ak hc0_2
 clear hr0_2 hc0_2
 have HR0_3:=Ak hr0_3
 have HC0_3:=Ak hc0_3
 clear hr0_3 hc0_3
 have HR1_2:=Ak hr1_2
 have HC1_2:=Ak hc1_2
 clear hr1_2 hc1_2
 have HR1_3:=Ak hr1_3
 have HC1_3:=Ak hc1_3
 clear hr1_3 hc1_3
 have HB:=Ak (Below.refl w.heap.size w)
 have H:((q04_TextsG.f l0_2 l1_2).bind fun t336=>(if a0_0.toList=a1_0.toList then (if a0_1.toList=a1_1.toList then (if t336=true then (q04_Same.j0 k ((l0_3.length:Int) != (l1_3.length:Int)) a0_0 a0_1 l0_2 l0_3 a1_0 a1_1 l1_2 l1_3) else (q04_Same.j0 k true a0_0 a0_1 l0_2 l0_3 a1_0 a1_1 l1_2 l1_3)) else (q04_Same.j0 k true a0_0 a0_1 l0_2 l0_3 a1_0 a1_1 l1_2 l1_3)) else (q04_Same.j0 k true a0_0 a0_1 l0_2 l0_3 a1_0 a1_1 l1_2 l1_3)))=some r:=h
 clear h
 replace H:=Option.bind_eq_some_iff.mp H
 obtain ⟨t336,A30,H⟩:=H
 replace H:(if a0_0.toList=a1_0.toList then (if a0_1.toList=a1_1.toList then (if t336=true then (q04_Same.j0 k ((l0_3.length:Int) != (l1_3.length:Int)) a0_0 a0_1 l0_2 l0_3 a1_0 a1_1 l1_2 l1_3) else (q04_Same.j0 k true a0_0 a0_1 l0_2 l0_3 a1_0 a1_1 l1_2 l1_3)) else (q04_Same.j0 k true a0_0 a0_1 l0_2 l0_3 a1_0 a1_1 l1_2 l1_3)) else (q04_Same.j0 k true a0_0 a0_1 l0_2 l0_3 a1_0 a1_1 l1_2 l1_3))=some r:=H
 have A3:=Ak A30
 clear A30
 have HC4:=Ak H
 clear H
 go_enter Tryz.func27,Tryz.ntmps27
 go_upto_region 2 with (first | ((with_reducible refine gate_dst (N:=2) rfl ?_);(try (refine gate_guard (by rfl) ?_;dsimp only));refine box_event ?hg (N:=2) ?hd (cs:=#[.string a0_0,.string a0_1,.slice A0_2 l0_2.length c0_2,.slice A0_3 l0_3.length c0_3]) (t:=29) ?hr ?_;(case hd=>rfl);(case hg=>rfl);(case hr=>(go_simp;done));intro gb334 hg w5 hbox hb;have n0_:=Ak (below_step HB.out hb);have n1_:=Ak (hbox);have n2_:=Ak ((by rw [hg];exact (below_size HB.out):w.heap.size≤gb334));have n3_:=Ak ((by rw [hg];exact (below_size HB.out):w.heap.size≤gb334));clear HB;have HB:=n0_;have BK334:=n1_;have GW334:=n2_;have GE334:=n3_;clear n0_ n1_ n2_ n3_;clear hb hbox hg) | ((with_reducible refine gate_dst (N:=3) rfl ?_);(try (refine gate_guard (by rfl) ?_;dsimp only));refine box_event ?hg (N:=3) ?hd (cs:=#[.string a1_0,.string a1_1,.slice A1_2 l1_2.length c1_2,.slice A1_3 l1_3.length c1_3]) (t:=29) ?hr ?_;(case hd=>rfl);(case hg=>rfl);(case hr=>(go_simp;done));intro gb335 hg w6 hbox hb;have n0_:=Ak (blk_below (g:=gb334) (o:=.cells #[.string a0_0,.string a0_1,.slice A0_2 l0_2.length c0_2,.slice A0_3 l0_3.length c0_3] 29 (0,0)) BK334.out hb);have n1_:=Ak (below_step HB.out hb);have n2_:=Ak (hbox);have n3_:=Ak ((by rw [hg];exact (below_size HB.out):w.heap.size≤gb335));have n4_:=Ak ((by rw [hg];exact (below_size HB.out):w.heap.size≤gb335));have n5_:=Ak ((by rw [hg];exact Nat.ne_of_lt (blk_lt (g:=gb334) (o:=.cells #[.string a0_0,.string a0_1,.slice A0_2 l0_2.length c0_2,.slice A0_3 l0_3.length c0_3] 29 (0,0)) BK334.out):gb334≠gb335));have n6_:=Ak ((by rw [hg];exact Nat.ne_of_gt (blk_lt (g:=gb334) (o:=.cells #[.string a0_0,.string a0_1,.slice A0_2 l0_2.length c0_2,.slice A0_3 l0_3.length c0_3] 29 (0,0)) BK334.out):gb335≠gb334));clear BK334;clear HB;have BK334:=n0_;have HB:=n1_;have BK335:=n2_;have GW335:=n3_;have GE335:=n4_;have NB334_335:=n5_;have NB335_334:=n6_;clear n0_ n1_ n2_ n3_ n4_ n5_ n6_;clear hb hbox hg;have hnb7:=NB334_335.out;have hnc7:=NB335_334.out;have hcz8_0:w6.cell? ⟨gb334,0,none⟩=some (.string a0_0):=(blk_cell BK334.out 0).trans rfl;have hcz8_1:w6.cell? ⟨gb334,1,none⟩=some (.string a0_1):=(blk_cell BK334.out 1).trans rfl;have hcz8_2:w6.cell? ⟨gb334,2,none⟩=some (.slice A0_2 l0_2.length c0_2):=(blk_cell BK334.out 2).trans rfl;have hcz8_3:w6.cell? ⟨gb334,3,none⟩=some (.slice A0_3 l0_3.length c0_3):=(blk_cell BK334.out 3).trans rfl;have hfz8_0:=blk_frozen BK334.out 0;have hfz8_1:=blk_frozen BK334.out 1;have hfz8_2:=blk_frozen BK334.out 2;have hfz8_3:=blk_frozen BK334.out 3;have hcz9_0:w6.cell? ⟨gb335,0,none⟩=some (.string a1_0):=(blk_cell BK335.out 0).trans rfl;have hcz9_1:w6.cell? ⟨gb335,1,none⟩=some (.string a1_1):=(blk_cell BK335.out 1).trans rfl;have hcz9_2:w6.cell? ⟨gb335,2,none⟩=some (.slice A1_2 l1_2.length c1_2):=(blk_cell BK335.out 2).trans rfl;have hcz9_3:w6.cell? ⟨gb335,3,none⟩=some (.slice A1_3 l1_3.length c1_3):=(blk_cell BK335.out 3).trans rfl;have hfz9_0:=blk_frozen BK335.out 0;have hfz9_1:=blk_frozen BK335.out 1;have hfz9_2:=blk_frozen BK335.out 2;have hfz9_3:=blk_frozen BK335.out 3) | (go_at_call 63;(with_reducible refine (q04_TextsG.calls _ _ l0_2 _ _ l1_2 t336 _ ?side1 ?side2 ?side3 ?side4 A3.out).mono ?_);(case side1=>repeat (exact (Kd.C_below HR0_2.out HB.out)));(case side2=>exact HC0_2.out);(case side3=>repeat (exact (Kd.C_below HR1_2.out HB.out)));(case side4=>exact HC1_2.out);rintro e w' ⟨rfl,⟨nd,rfl⟩⟩))
 repeat (go_quiet (fail);go_upto_region 2 with (fail))
 go_cut [36] (fun v36 wc=>∃ (kq:Nat) (x36_3:Bool),v36 = .bool x36_3∧Aside0 (q04_Same.j0 kq x36_3 a0_0 a0_1 l0_2 l0_3 a1_0 a1_1 l1_2 l1_3=some r)∧Aside0 (kq≤k)∧Aside0 (wc.heap[gb334]? = some (.cells #[.string a0_0,.string a0_1,(.slice A0_2 l0_2.length c0_2),(.slice A0_3 l0_3.length c0_3)] 29 (0,0)))∧Aside0 (wc.heap[gb335]? = some (.cells #[.string a1_0,.string a1_1,(.slice A1_2 l1_2.length c1_2),(.slice A1_3 l1_3.length c1_3)] 29 (0,0)))∧Aside0 (Below w.heap.size w wc))
 case first=>
  have H:=HC4.out
  clear HC4
  by_cases c10:a0_0.toList=a1_0.toList
  ·rw [if_pos c10] at H
   have c10b0:(a0_0.toList == a1_0.toList)=true:=beq_iff_eq.mpr c10
   have c10b1:(a0_0.toList != a1_0.toList)=false:=bne_eq_false_iff_eq.mpr c10
   clear c10
   by_cases c11:a0_1.toList=a1_1.toList
   ·rw [if_pos c11] at H
    have c11b0:(a0_1.toList == a1_1.toList)=true:=beq_iff_eq.mpr c11
    have c11b1:(a0_1.toList != a1_1.toList)=false:=bne_eq_false_iff_eq.mpr c11
    clear c11
    by_cases c12:t336=true
    ·subst c12
     have H1:(q04_Same.j0 k ((l0_3.length:Int) != (l1_3.length:Int)) a0_0 a0_1 l0_2 l0_3 a1_0 a1_1 l1_2 l1_3)=some r:=by rw [if_pos rfl] at H;exact H
     clear H
     have H:=H1
     clear H1
     have H':=Ak H
     clear H
     have hnb13:=NB334_335.out
     have hnc13:=NB335_334.out
     have hcz14_0:w6.cell? ⟨gb334,0,none⟩=some (.string a0_0):=(blk_cell BK334.out 0).trans rfl
     have hcz14_1:w6.cell? ⟨gb334,1,none⟩=some (.string a0_1):=(blk_cell BK334.out 1).trans rfl
     have hcz14_2:w6.cell? ⟨gb334,2,none⟩=some (.slice A0_2 l0_2.length c0_2):=(blk_cell BK334.out 2).trans rfl
     have hcz14_3:w6.cell? ⟨gb334,3,none⟩=some (.slice A0_3 l0_3.length c0_3):=(blk_cell BK334.out 3).trans rfl
     have hfz14_0:=blk_frozen BK334.out 0
     have hfz14_1:=blk_frozen BK334.out 1
     have hfz14_2:=blk_frozen BK334.out 2
     have hfz14_3:=blk_frozen BK334.out 3
     have hcz15_0:w6.cell? ⟨gb335,0,none⟩=some (.string a1_0):=(blk_cell BK335.out 0).trans rfl
     have hcz15_1:w6.cell? ⟨gb335,1,none⟩=some (.string a1_1):=(blk_cell BK335.out 1).trans rfl
     have hcz15_2:w6.cell? ⟨gb335,2,none⟩=some (.slice A1_2 l1_2.length c1_2):=(blk_cell BK335.out 2).trans rfl
     have hcz15_3:w6.cell? ⟨gb335,3,none⟩=some (.slice A1_3 l1_3.length c1_3):=(blk_cell BK335.out 3).trans rfl
     have hfz15_0:=blk_frozen BK335.out 0
     have hfz15_1:=blk_frozen BK335.out 1
     have hfz15_2:=blk_frozen BK335.out 2
     have hfz15_3:=blk_frozen BK335.out 3
     go_wp2
     repeat (go_quiet (fail))
     go_meet
     case rel=>exact ⟨_,(((l0_3.length:Int) != (l1_3.length:Int))),(by rfl),H',⟨by omega⟩,⟨by (with_reducible repeat (refine blk_drewN ?_ _));exact BK334.out⟩,⟨by (with_reducible repeat (refine blk_drewN ?_ _));exact BK335.out⟩,⟨by repeat (with_reducible first | exact HB.out | apply pw_below_drewN)⟩⟩
    ·replace c12:=Bool.eq_false_iff.mpr c12
     subst c12
     have H1:(q04_Same.j0 k true a0_0 a0_1 l0_2 l0_3 a1_0 a1_1 l1_2 l1_3)=some r:=by rw [if_neg (show ¬(false=true) by decide)] at H;exact H
     clear H
     have H:=H1
     clear H1
     have H':=Ak H
     clear H
     have hnb16:=NB334_335.out
     have hnc16:=NB335_334.out
     have hcz17_0:w6.cell? ⟨gb334,0,none⟩=some (.string a0_0):=(blk_cell BK334.out 0).trans rfl
     have hcz17_1:w6.cell? ⟨gb334,1,none⟩=some (.string a0_1):=(blk_cell BK334.out 1).trans rfl
     have hcz17_2:w6.cell? ⟨gb334,2,none⟩=some (.slice A0_2 l0_2.length c0_2):=(blk_cell BK334.out 2).trans rfl
     have hcz17_3:w6.cell? ⟨gb334,3,none⟩=some (.slice A0_3 l0_3.length c0_3):=(blk_cell BK334.out 3).trans rfl
     have hfz17_0:=blk_frozen BK334.out 0
     have hfz17_1:=blk_frozen BK334.out 1
     have hfz17_2:=blk_frozen BK334.out 2
     have hfz17_3:=blk_frozen BK334.out 3
     have hcz18_0:w6.cell? ⟨gb335,0,none⟩=some (.string a1_0):=(blk_cell BK335.out 0).trans rfl
     have hcz18_1:w6.cell? ⟨gb335,1,none⟩=some (.string a1_1):=(blk_cell BK335.out 1).trans rfl
     have hcz18_2:w6.cell? ⟨gb335,2,none⟩=some (.slice A1_2 l1_2.length c1_2):=(blk_cell BK335.out 2).trans rfl
     have hcz18_3:w6.cell? ⟨gb335,3,none⟩=some (.slice A1_3 l1_3.length c1_3):=(blk_cell BK335.out 3).trans rfl
     have hfz18_0:=blk_frozen BK335.out 0
     have hfz18_1:=blk_frozen BK335.out 1
     have hfz18_2:=blk_frozen BK335.out 2
     have hfz18_3:=blk_frozen BK335.out 3
     go_wp2
     repeat (go_quiet (fail))
     go_meet
     case rel=>exact ⟨_,(true),(by rfl),H',⟨by omega⟩,⟨by (with_reducible repeat (refine blk_drewN ?_ _));exact BK334.out⟩,⟨by (with_reducible repeat (refine blk_drewN ?_ _));exact BK335.out⟩,⟨by repeat (with_reducible first | exact HB.out | apply pw_below_drewN)⟩⟩
   ·rw [if_neg c11] at H
    have c11b0:(a0_1.toList == a1_1.toList)=false:=beq_eq_false_iff_ne.mpr c11
    have c11b1:(a0_1.toList != a1_1.toList)=true:=bne_iff_ne.mpr c11
    have H':=Ak H
    clear H
    have hnb19:=NB334_335.out
    have hnc19:=NB335_334.out
    have hcz20_0:w6.cell? ⟨gb334,0,none⟩=some (.string a0_0):=(blk_cell BK334.out 0).trans rfl
    have hcz20_1:w6.cell? ⟨gb334,1,none⟩=some (.string a0_1):=(blk_cell BK334.out 1).trans rfl
    have hcz20_2:w6.cell? ⟨gb334,2,none⟩=some (.slice A0_2 l0_2.length c0_2):=(blk_cell BK334.out 2).trans rfl
    have hcz20_3:w6.cell? ⟨gb334,3,none⟩=some (.slice A0_3 l0_3.length c0_3):=(blk_cell BK334.out 3).trans rfl
    have hfz20_0:=blk_frozen BK334.out 0
    have hfz20_1:=blk_frozen BK334.out 1
    have hfz20_2:=blk_frozen BK334.out 2
    have hfz20_3:=blk_frozen BK334.out 3
    have hcz21_0:w6.cell? ⟨gb335,0,none⟩=some (.string a1_0):=(blk_cell BK335.out 0).trans rfl
    have hcz21_1:w6.cell? ⟨gb335,1,none⟩=some (.string a1_1):=(blk_cell BK335.out 1).trans rfl
    have hcz21_2:w6.cell? ⟨gb335,2,none⟩=some (.slice A1_2 l1_2.length c1_2):=(blk_cell BK335.out 2).trans rfl
    have hcz21_3:w6.cell? ⟨gb335,3,none⟩=some (.slice A1_3 l1_3.length c1_3):=(blk_cell BK335.out 3).trans rfl
    have hfz21_0:=blk_frozen BK335.out 0
    have hfz21_1:=blk_frozen BK335.out 1
    have hfz21_2:=blk_frozen BK335.out 2
    have hfz21_3:=blk_frozen BK335.out 3
    go_wp2
    repeat (go_quiet (fail))
    go_meet
    case rel=>exact ⟨_,(true),(by rfl),H',⟨by omega⟩,⟨by (with_reducible repeat (refine blk_drewN ?_ _));exact BK334.out⟩,⟨by (with_reducible repeat (refine blk_drewN ?_ _));exact BK335.out⟩,⟨by repeat (with_reducible first | exact HB.out | apply pw_below_drewN)⟩⟩
  ·rw [if_neg c10] at H
   have c10b0:(a0_0.toList == a1_0.toList)=false:=beq_eq_false_iff_ne.mpr c10
   have c10b1:(a0_0.toList != a1_0.toList)=true:=bne_iff_ne.mpr c10
   have H':=Ak H
   clear H
   have hnb22:=NB334_335.out
   have hnc22:=NB335_334.out
   have hcz23_0:w6.cell? ⟨gb334,0,none⟩=some (.string a0_0):=(blk_cell BK334.out 0).trans rfl
   have hcz23_1:w6.cell? ⟨gb334,1,none⟩=some (.string a0_1):=(blk_cell BK334.out 1).trans rfl
   have hcz23_2:w6.cell? ⟨gb334,2,none⟩=some (.slice A0_2 l0_2.length c0_2):=(blk_cell BK334.out 2).trans rfl
   have hcz23_3:w6.cell? ⟨gb334,3,none⟩=some (.slice A0_3 l0_3.length c0_3):=(blk_cell BK334.out 3).trans rfl
   have hfz23_0:=blk_frozen BK334.out 0
   have hfz23_1:=blk_frozen BK334.out 1
   have hfz23_2:=blk_frozen BK334.out 2
   have hfz23_3:=blk_frozen BK334.out 3
   have hcz24_0:w6.cell? ⟨gb335,0,none⟩=some (.string a1_0):=(blk_cell BK335.out 0).trans rfl
   have hcz24_1:w6.cell? ⟨gb335,1,none⟩=some (.string a1_1):=(blk_cell BK335.out 1).trans rfl
   have hcz24_2:w6.cell? ⟨gb335,2,none⟩=some (.slice A1_2 l1_2.length c1_2):=(blk_cell BK335.out 2).trans rfl
   have hcz24_3:w6.cell? ⟨gb335,3,none⟩=some (.slice A1_3 l1_3.length c1_3):=(blk_cell BK335.out 3).trans rfl
   have hfz24_0:=blk_frozen BK335.out 0
   have hfz24_1:=blk_frozen BK335.out 1
   have hfz24_2:=blk_frozen BK335.out 2
   have hfz24_3:=blk_frozen BK335.out 3
   go_wp2
   repeat (go_quiet (fail))
   go_meet
   case rel=>exact ⟨_,(true),(by rfl),H',⟨by omega⟩,⟨by (with_reducible repeat (refine blk_drewN ?_ _));exact BK334.out⟩,⟨by (with_reducible repeat (refine blk_drewN ?_ _));exact BK335.out⟩,⟨by repeat (with_reducible first | exact HB.out | apply pw_below_drewN)⟩⟩
 case rest=>
  clear HC4
  try clear hcz8_0
  try clear hcz8_1
  try clear hcz8_2
  try clear hcz8_3
  try clear hcz9_0
  try clear hcz9_1
  try clear hcz9_2
  try clear hcz9_3
  try clear hfz8_0
  try clear hfz8_1
  try clear hfz8_2
  try clear hfz8_3
  try clear hfz9_0
  try clear hfz9_1
  try clear hfz9_2
  try clear hfz9_3
  obtain ⟨kq,x36_3,rfl,HA,HJ3,BK334,BK335,HB⟩:=hcut
  cases kq with
  | zero=>exact absurd HA.out (by simp [q04_Same.j0])
  | succ kj3=>
   have H:=HA.out
   clear HA
   simp only [q04_Same.j0] at H
   by_cases c25:x36_3=true
   ·subst c25
    have H1:(some false)=some r:=by rw [if_pos rfl] at H;exact H
    clear H
    have H:=H1
    clear H1
    obtain rfl:=Option.some.inj H
    go_wp2
    repeat (go_quiet (fail))
    go_ret
    exact ⟨by rfl,by with_reducible exact HB.out⟩
   ·replace c25:=Bool.eq_false_iff.mpr c25
    subst c25
    have H1:(q04_Same.l0 kj3 0 a0_0 a0_1 l0_2 l0_3 a1_0 a1_1 l1_2 l1_3)=some r:=by rw [if_neg (show ¬(false=true) by decide)] at H;exact H
    clear H
    have H:=H1
    clear H1
    have H':=Ak H
    clear H
    go_wp2
    repeat (go_quiet (fail))
    go_loopg [6] kj3 (fun kq v6 w'=>∃ (x6_2:Int),v6 = .int .i64 x6_2∧Aside0 (q04_Same.l0 kq x6_2 a0_0 a0_1 l0_2 l0_3 a1_0 a1_1 l1_2 l1_3=some r)∧Aside0 (kq≤kj3)∧Aside0 (w'.heap[gb334]? = some (.cells #[.string a0_0,.string a0_1,(.slice A0_2 l0_2.length c0_2),(.slice A0_3 l0_3.length c0_3)] 29 (0,0)))∧Aside0 (w'.heap[gb335]? = some (.cells #[.string a1_0,.string a1_1,(.slice A1_2 l1_2.length c1_2),(.slice A1_3 l1_3.length c1_3)] 29 (0,0)))∧Aside0 (Below w.heap.size w w'))
    case atStart=>exact ⟨(0),(by rfl),H',⟨Nat.le_refl _⟩,⟨by exact BK334.out⟩,⟨by exact BK335.out⟩,⟨by with_reducible exact HB.out⟩⟩
    case round=>
     clear H'
     obtain ⟨x6_2,rfl,HA,HK2,BK334,BK335,HB⟩:=hrel
     cases gk with
     | zero=>exact absurd HA.out (by simp [q04_Same.l0])
     | succ k2=>
      have H:=HA.out
      clear HA
      simp only [q04_Same.l0] at H
      by_cases c26:x6_2 < (l0_3.length:Int)
      ·rw [if_pos c26] at H
       have c26b0:decide (x6_2 < (l0_3.length:Int))=true:=decide_eq_true c26
       clear c26
       by_cases c27:0≤x6_2
       ·rw [if_pos c27] at H
        have c27b0:decide (0≤x6_2)=true:=decide_eq_true c27
        clear c27
        by_cases c28:x6_2 < (l1_3.length:Int)
        ·rw [if_pos c28] at H
         have c28b0:decide (x6_2 < (l1_3.length:Int))=true:=decide_eq_true c28
         clear c28
         by_cases c29:(!((((rd_T90 l0_3 x6_2).f0).toList) == (((rd_T90 l1_3 x6_2).f0).toList)) || (!(((rd_T90 l0_3 x6_2).f1) == ((rd_T90 l1_3 x6_2).f1))))=true
         ·rw [if_pos c29] at H
          have c29b0:(!((((rd_T90 l0_3 x6_2).f0).toList) == (((rd_T90 l1_3 x6_2).f0).toList)) || (!(((rd_T90 l0_3 x6_2).f1) == ((rd_T90 l1_3 x6_2).f1))))=true:=c29
          clear c29
          obtain rfl:=Option.some.inj H
          have hnb30:=NB334_335.out
          have hnc30:=NB335_334.out
          have hcz31_0:wr.cell? ⟨gb334,0,none⟩=some (.string a0_0):=(blk_cell BK334.out 0).trans rfl
          have hcz31_1:wr.cell? ⟨gb334,1,none⟩=some (.string a0_1):=(blk_cell BK334.out 1).trans rfl
          have hcz31_2:wr.cell? ⟨gb334,2,none⟩=some (.slice A0_2 l0_2.length c0_2):=(blk_cell BK334.out 2).trans rfl
          have hcz31_3:wr.cell? ⟨gb334,3,none⟩=some (.slice A0_3 l0_3.length c0_3):=(blk_cell BK334.out 3).trans rfl
          have hfz31_0:=blk_frozen BK334.out 0
          have hfz31_1:=blk_frozen BK334.out 1
          have hfz31_2:=blk_frozen BK334.out 2
          have hfz31_3:=blk_frozen BK334.out 3
          have p337:0≤(x6_2:Int):=of_decide_eq_true (by (with_reducible assumption))
          have q337:x6_2 < (l0_3.length:Int):=of_decide_eq_true (by (with_reducible assumption))
          obtain ⟨ad337,e337,hx337_0,hx337_1⟩:=at_T90 HR0_3.out x6_2 p337 q337
          cases e337
          replace hx337_0:=(HB.out.cell (World.block_lt_of_cell? w _ hx337_0)).trans hx337_0
          replace hx337_1:=(HB.out.cell (World.block_lt_of_cell? w _ hx337_1)).trans hx337_1
          replace p337:=eq_true p337
          replace q337:=eq_true q337
          have hcz32_0:wr.cell? ⟨gb335,0,none⟩=some (.string a1_0):=(blk_cell BK335.out 0).trans rfl
          have hcz32_1:wr.cell? ⟨gb335,1,none⟩=some (.string a1_1):=(blk_cell BK335.out 1).trans rfl
          have hcz32_2:wr.cell? ⟨gb335,2,none⟩=some (.slice A1_2 l1_2.length c1_2):=(blk_cell BK335.out 2).trans rfl
          have hcz32_3:wr.cell? ⟨gb335,3,none⟩=some (.slice A1_3 l1_3.length c1_3):=(blk_cell BK335.out 3).trans rfl
          have hfz32_0:=blk_frozen BK335.out 0
          have hfz32_1:=blk_frozen BK335.out 1
          have hfz32_2:=blk_frozen BK335.out 2
          have hfz32_3:=blk_frozen BK335.out 3
          have p338:0≤(x6_2:Int):=of_decide_eq_true (by (with_reducible assumption))
          have q338:x6_2 < (l1_3.length:Int):=of_decide_eq_true (by (with_reducible assumption))
          obtain ⟨ad338,e338,hx338_0,hx338_1⟩:=at_T90 HR1_3.out x6_2 p338 q338
          cases e338
          replace hx338_0:=(HB.out.cell (World.block_lt_of_cell? w _ hx338_0)).trans hx338_0
          replace hx338_1:=(HB.out.cell (World.block_lt_of_cell? w _ hx338_1)).trans hx338_1
          replace p338:=eq_true p338
          replace q338:=eq_true q338
          go_wp2
          repeat (go_quiet (fail);try go_wp2)
          go_ret
          exact ⟨by rfl,by repeat (with_reducible first | exact HB.out | apply pw_below_drewN)⟩
         ·rw [if_neg c29] at H
          have c29b0:(!((((rd_T90 l0_3 x6_2).f0).toList) == (((rd_T90 l1_3 x6_2).f0).toList)) || (!(((rd_T90 l0_3 x6_2).f1) == ((rd_T90 l1_3 x6_2).f1))))=false:=by simpa using c29
          clear c29
          have H':=Ak H
          clear H
          have hnb33:=NB334_335.out
          have hnc33:=NB335_334.out
          have hcz34_0:wr.cell? ⟨gb334,0,none⟩=some (.string a0_0):=(blk_cell BK334.out 0).trans rfl
          have hcz34_1:wr.cell? ⟨gb334,1,none⟩=some (.string a0_1):=(blk_cell BK334.out 1).trans rfl
          have hcz34_2:wr.cell? ⟨gb334,2,none⟩=some (.slice A0_2 l0_2.length c0_2):=(blk_cell BK334.out 2).trans rfl
          have hcz34_3:wr.cell? ⟨gb334,3,none⟩=some (.slice A0_3 l0_3.length c0_3):=(blk_cell BK334.out 3).trans rfl
          have hfz34_0:=blk_frozen BK334.out 0
          have hfz34_1:=blk_frozen BK334.out 1
          have hfz34_2:=blk_frozen BK334.out 2
          have hfz34_3:=blk_frozen BK334.out 3
          have p337:0≤(x6_2:Int):=of_decide_eq_true (by (with_reducible assumption))
          have q337:x6_2 < (l0_3.length:Int):=of_decide_eq_true (by (with_reducible assumption))
          obtain ⟨ad337,e337,hx337_0,hx337_1⟩:=at_T90 HR0_3.out x6_2 p337 q337
          cases e337
          replace hx337_0:=(HB.out.cell (World.block_lt_of_cell? w _ hx337_0)).trans hx337_0
          replace hx337_1:=(HB.out.cell (World.block_lt_of_cell? w _ hx337_1)).trans hx337_1
          replace p337:=eq_true p337
          replace q337:=eq_true q337
          have hcz35_0:wr.cell? ⟨gb335,0,none⟩=some (.string a1_0):=(blk_cell BK335.out 0).trans rfl
          have hcz35_1:wr.cell? ⟨gb335,1,none⟩=some (.string a1_1):=(blk_cell BK335.out 1).trans rfl
          have hcz35_2:wr.cell? ⟨gb335,2,none⟩=some (.slice A1_2 l1_2.length c1_2):=(blk_cell BK335.out 2).trans rfl
          have hcz35_3:wr.cell? ⟨gb335,3,none⟩=some (.slice A1_3 l1_3.length c1_3):=(blk_cell BK335.out 3).trans rfl
          have hfz35_0:=blk_frozen BK335.out 0
          have hfz35_1:=blk_frozen BK335.out 1
          have hfz35_2:=blk_frozen BK335.out 2
          have hfz35_3:=blk_frozen BK335.out 3
          have p338:0≤(x6_2:Int):=of_decide_eq_true (by (with_reducible assumption))
          have q338:x6_2 < (l1_3.length:Int):=of_decide_eq_true (by (with_reducible assumption))
          obtain ⟨ad338,e338,hx338_0,hx338_1⟩:=at_T90 HR1_3.out x6_2 p338 q338
          cases e338
          replace hx338_0:=(HB.out.cell (World.block_lt_of_cell? w _ hx338_0)).trans hx338_0
          replace hx338_1:=(HB.out.cell (World.block_lt_of_cell? w _ hx338_1)).trans hx338_1
          replace p338:=eq_true p338
          replace q338:=eq_true q338
          go_wp2
          repeat (go_quiet (fail);try go_wp2)
          go_roundg k2
          case measure=>have:=HJ3.out;have:=HK2.out;omega
          case rel=>exact ⟨(wrap64 (x6_2+1)),(by rfl),H',⟨by have:=HJ3.out;have:=HK2.out;omega⟩,⟨by (with_reducible repeat (refine blk_drewN ?_ _));exact BK334.out⟩,⟨by (with_reducible repeat (refine blk_drewN ?_ _));exact BK335.out⟩,⟨by repeat (with_reducible first | exact HB.out | apply pw_below_drewN)⟩⟩
        ·rw [if_neg c28] at H
         exact absurd H (by simp)
       ·rw [if_neg c27] at H
        exact absurd H (by simp)
      ·rw [if_neg c26] at H
       have c26b0:decide (x6_2 < (l0_3.length:Int))=false:=decide_eq_false c26
       clear c26
       obtain rfl:=Option.some.inj H
       have hnb36:=NB334_335.out
       have hnc36:=NB335_334.out
       have hcz37_0:wr.cell? ⟨gb334,0,none⟩=some (.string a0_0):=(blk_cell BK334.out 0).trans rfl
       have hcz37_1:wr.cell? ⟨gb334,1,none⟩=some (.string a0_1):=(blk_cell BK334.out 1).trans rfl
       have hcz37_2:wr.cell? ⟨gb334,2,none⟩=some (.slice A0_2 l0_2.length c0_2):=(blk_cell BK334.out 2).trans rfl
       have hcz37_3:wr.cell? ⟨gb334,3,none⟩=some (.slice A0_3 l0_3.length c0_3):=(blk_cell BK334.out 3).trans rfl
       have hfz37_0:=blk_frozen BK334.out 0
       have hfz37_1:=blk_frozen BK334.out 1
       have hfz37_2:=blk_frozen BK334.out 2
       have hfz37_3:=blk_frozen BK334.out 3
       go_wp2
       repeat (go_quiet (fail))
       go_ret
       exact ⟨by rfl,by with_reducible exact HB.out⟩
end Go.Proofs.YtocpcnmnhckcpaaGreat.Prt
namespace Go.Proofs.YtocpcnmnhckcpaaGreat.Prt
open RowKit YtocpcnmnhckcpaaGreatW.PrintWords YtocpcnmnhckcpaaGreatW.PrintLast YtocpcnmnhckcpaaGreatW.PrintMore
attribute [local go_sem] max2_int min2_int max_two min_two max_three min_three max_four min_four
mutual
def q04_May.j0:Nat→Bool→ByteArray→ByteArray→List ByteArray→List (S90)→Option (Int)
 | 0,_,_,_,_,_=>none
 | k+1,x23,x205000,x205001,x205002,x205003=>if x23=true then (some 5) else (if (x205002.length:Int) > 6 then (q04_May.j1 k true x205000 x205001 x205002 x205003) else (q04_May.j1 k (decide ((x205003.length:Int) > 4)) x205000 x205001 x205002 x205003))
def q04_May.j1:Nat→Bool→ByteArray→ByteArray→List ByteArray→List (S90)→Option (Int)
 | 0,_,_,_,_,_=>none
 | k+1,x33,x205000,x205001,x205002,x205003=>if x33=true then (some 3) else (q04_May.l0 k (([]:List ByteArray)) true 0 x205000 x205001 x205002 x205003)
def q04_May.l0:Nat→List ByteArray→Bool→Int→ByteArray→ByteArray→List ByteArray→List (S90)→Option (Int)
 | 0,_,_,_,_,_,_,_=>none
 | k+1,x5,x6,x7,x205000,x205001,x205002,x205003=>if x7 < (x205003.length:Int) then (if 0≤x7 then ((q03_MayG.f ((rd_T90 x205003 x7).f0)).bind fun t211=>(if t211=true then (if x5.length < 8796093022208 then ((some (x5++[(rd_T90 x205003 x7).f0]:List ByteArray)).bind fun y213=>(if x6=true then (if ((rd_T90 x205003 x7).f1) ≥ (-1099511627776) then (q04_May.l0 k y213 (decide (((rd_T90 x205003 x7).f1)≤1099511627776)) (wrap64 (x7+1)) x205000 x205001 x205002 x205003) else (q04_May.l0 k y213 false (wrap64 (x7+1)) x205000 x205001 x205002 x205003)) else (q04_May.l0 k y213 false (wrap64 (x7+1)) x205000 x205001 x205002 x205003))) else (none)) else (some 5))) else (none)) else ((q04_tagsG.f x205002).bind fun t218=>(if t218=true then ((q04_RiseG.f x205002).bind fun t219=>((q04_RiseG.f x5).bind fun t220=>(if x6=true then (if t219=true then (if t220=true then (some 0) else (some 1)) else (some 1)) else (some 1)))) else (some 5)))
end
def q04_May.f (k:Nat) (a0_0:ByteArray) (a0_1:ByteArray) (l0_2:List ByteArray) (l0_3:List (S90)):Option (Int):=(q03_MayG.f a0_0).bind fun t205=>((q03_MayG.f a0_1).bind fun t206=>(if t205=true then (q04_May.j0 k (!t206) a0_0 a0_1 l0_2 l0_3) else (q04_May.j0 k true a0_0 a0_1 l0_2 l0_3)))
set_option maxHeartbeats 8000000 in
set_option maxRecDepth 100000 in
theorem q04_May.calls (k:Nat) (a0_0:ByteArray) (a0_1:ByteArray) (A0_2:Option Addr) (c0_2:Nat) (l0_2:List ByteArray) (A0_3:Option Addr) (c0_3:Nat) (l0_3:List (S90)) (r:Int) (w:World) (hr0_2:Kd.C Kd.string w A0_2 l0_2.length l0_2) (hc0_2:l0_2.length≤c0_2) (hr0_3:Kd.C k90 w A0_3 l0_3.length l0_3) (hc0_3:l0_3.length≤c0_3) (h:q04_May.f k a0_0 a0_1 l0_2 l0_3=some r) :
  Calls Tryz.prog 60 #[.agg #[.string a0_0,.string a0_1,.slice A0_2 l0_2.length c0_2,.slice A0_3 l0_3.length c0_3]] w fun e w'=>e = .returned (.int .i64 r)∧Below w.heap.size w w':=by
 have hu29:=Tryz.underlying29
 have HR0_2:=Ak hr0_2
 have HC0_2:=Ak hc0_2
 clear hr0_2 hc0_2
 have HR0_3:=Ak hr0_3
 have HC0_3:=Ak hc0_3
 clear hr0_3 hc0_3
 have HB:=Ak (Below.refl w.heap.size w)
 have H:((q03_MayG.f a0_0).bind fun t205=>((q03_MayG.f a0_1).bind fun t206=>(if t205=true then (q04_May.j0 k (!t206) a0_0 a0_1 l0_2 l0_3) else (q04_May.j0 k true a0_0 a0_1 l0_2 l0_3))))=some r:=h
 clear h
 replace H:=Option.bind_eq_some_iff.mp H
 obtain ⟨t205,A20,H⟩:=H
 replace H:((q03_MayG.f a0_1).bind fun t206=>(if t205=true then (q04_May.j0 k (!t206) a0_0 a0_1 l0_2 l0_3) else (q04_May.j0 k true a0_0 a0_1 l0_2 l0_3)))=some r:=H
 have A2:=Ak A20
 clear A20
 replace H:=Option.bind_eq_some_iff.mp H
 obtain ⟨t206,A30,H⟩:=H
 replace H:(if t205=true then (q04_May.j0 k (!t206) a0_0 a0_1 l0_2 l0_3) else (q04_May.j0 k true a0_0 a0_1 l0_2 l0_3))=some r:=H
 have A3:=Ak A30
 clear A30
 have HC4:=Ak H
 clear H
 go_enter Tryz.func60,Tryz.ntmps60
 go_upto_region 3 with (first | ((with_reducible refine gate_dst (N:=1) rfl ?_);(try (refine gate_guard (by rfl) ?_;dsimp only));refine box_event ?hg (N:=1) ?hd (cs:=#[.string a0_0,.string a0_1,.slice A0_2 l0_2.length c0_2,.slice A0_3 l0_3.length c0_3]) (t:=29) ?hr ?_;(case hd=>rfl);(case hg=>rfl);(case hr=>(go_simp;done));intro gb204 hg w5 hbox hb;have n0_:=Ak (below_step HB.out hb);have n1_:=Ak (hbox);have n2_:=Ak ((by rw [hg];exact (below_size HB.out):w.heap.size≤gb204));have n3_:=Ak ((by rw [hg];exact (below_size HB.out):w.heap.size≤gb204));clear HB;have HB:=n0_;have BK204:=n1_;have GW204:=n2_;have GE204:=n3_;clear n0_ n1_ n2_ n3_;clear hb hbox hg;have hcz6_0:w5.cell? ⟨gb204,0,none⟩=some (.string a0_0):=(blk_cell BK204.out 0).trans rfl;have hcz6_1:w5.cell? ⟨gb204,1,none⟩=some (.string a0_1):=(blk_cell BK204.out 1).trans rfl;have hcz6_2:w5.cell? ⟨gb204,2,none⟩=some (.slice A0_2 l0_2.length c0_2):=(blk_cell BK204.out 2).trans rfl;have hcz6_3:w5.cell? ⟨gb204,3,none⟩=some (.slice A0_3 l0_3.length c0_3):=(blk_cell BK204.out 3).trans rfl;have hfz6_0:=blk_frozen BK204.out 0;have hfz6_1:=blk_frozen BK204.out 1;have hfz6_2:=blk_frozen BK204.out 2;have hfz6_3:=blk_frozen BK204.out 3) | ((with_reducible refine gate_callee (f:=90) rfl ?_);refine goesL_ (some 14) rfl rfl Tryz.func90 (by kernel_rfl) rfl #[.string a0_0] rfl (by (try simp only [List.map_toArray,List.map_cons,List.map_nil]);rfl) ?_;(with_reducible refine (q03_MayG.calls a0_0 t205 _ A2.out).mono ?_);rintro e w7 ⟨rfl,hb⟩;refine ⟨_,rfl,?_⟩;have n0_:=Ak (blk_below (g:=gb204) (o:=.cells #[.string a0_0,.string a0_1,.slice A0_2 l0_2.length c0_2,.slice A0_3 l0_3.length c0_3] 29 (0,0)) BK204.out hb);have n1_:=Ak (below_step HB.out hb);clear BK204;clear HB;have BK204:=n0_;have HB:=n1_;clear n0_ n1_;(try clear hb);have hcz8_0:w7.cell? ⟨gb204,0,none⟩=some (.string a0_0):=(blk_cell BK204.out 0).trans rfl;have hcz8_1:w7.cell? ⟨gb204,1,none⟩=some (.string a0_1):=(blk_cell BK204.out 1).trans rfl;have hcz8_2:w7.cell? ⟨gb204,2,none⟩=some (.slice A0_2 l0_2.length c0_2):=(blk_cell BK204.out 2).trans rfl;have hcz8_3:w7.cell? ⟨gb204,3,none⟩=some (.slice A0_3 l0_3.length c0_3):=(blk_cell BK204.out 3).trans rfl;have hfz8_0:=blk_frozen BK204.out 0;have hfz8_1:=blk_frozen BK204.out 1;have hfz8_2:=blk_frozen BK204.out 2;have hfz8_3:=blk_frozen BK204.out 3) | ((with_reducible refine gate_callee (f:=90) rfl ?_);refine goesL_ (some 17) rfl rfl Tryz.func90 (by kernel_rfl) rfl #[.string a0_1] rfl (by (try simp only [List.map_toArray,List.map_cons,List.map_nil]);rfl) ?_;(with_reducible refine (q03_MayG.calls a0_1 t206 _ A3.out).mono ?_);rintro e w9 ⟨rfl,hb⟩;refine ⟨_,rfl,?_⟩;have n0_:=Ak (blk_below (g:=gb204) (o:=.cells #[.string a0_0,.string a0_1,.slice A0_2 l0_2.length c0_2,.slice A0_3 l0_3.length c0_3] 29 (0,0)) BK204.out hb);have n1_:=Ak (below_step HB.out hb);clear BK204;clear HB;have BK204:=n0_;have HB:=n1_;clear n0_ n1_;(try clear hb)))
 go_cut [23] (fun v23 wc=>∃ (kq:Nat) (x23_3:Bool),v23 = .bool x23_3∧Aside0 (q04_May.j0 kq x23_3 a0_0 a0_1 l0_2 l0_3=some r)∧Aside0 (kq≤k)∧Aside0 (wc.heap[gb204]? = some (.cells #[.string a0_0,.string a0_1,(.slice A0_2 l0_2.length c0_2),(.slice A0_3 l0_3.length c0_3)] 29 (0,0)))∧Aside0 (Below w.heap.size w wc))
 case first=>
  have H:=HC4.out
  clear HC4
  by_cases c10:t205=true
  ·subst c10
   have H1:(q04_May.j0 k (!t206) a0_0 a0_1 l0_2 l0_3)=some r:=by rw [if_pos rfl] at H;exact H
   clear H
   have H:=H1
   clear H1
   have H':=Ak H
   clear H
   go_wp2
   go_meet
   case rel=>exact ⟨_,(!t206),(by rfl),H',⟨by omega⟩,⟨by exact BK204.out⟩,⟨by with_reducible exact HB.out⟩⟩
  ·replace c10:=Bool.eq_false_iff.mpr c10
   subst c10
   have H1:(q04_May.j0 k true a0_0 a0_1 l0_2 l0_3)=some r:=by rw [if_neg (show ¬(false=true) by decide)] at H;exact H
   clear H
   have H:=H1
   clear H1
   have H':=Ak H
   clear H
   go_wp2
   go_meet
   case rel=>exact ⟨_,(true),(by rfl),H',⟨by omega⟩,⟨by exact BK204.out⟩,⟨by with_reducible exact HB.out⟩⟩
 case rest=>
  clear HC4
  try clear hcz6_0
  try clear hcz6_1
  try clear hcz6_2
  try clear hcz6_3
  try clear hcz8_0
  try clear hcz8_1
  try clear hcz8_2
  try clear hcz8_3
  try clear hfz6_0
  try clear hfz6_1
  try clear hfz6_2
  try clear hfz6_3
  try clear hfz8_0
  try clear hfz8_1
  try clear hfz8_2
  try clear hfz8_3
  obtain ⟨kq,x23_3,rfl,HA,HJ3,BK204,HB⟩:=hcut
  cases kq with
  | zero=>exact absurd HA.out (by simp [q04_May.j0])
  | succ kj3=>
   have H:=HA.out
   clear HA
   simp only [q04_May.j0] at H
   by_cases c11:x23_3=true
   ·subst c11
    have H1:(some 5)=some r:=by rw [if_pos rfl] at H;exact H
    clear H
    have H:=H1
    clear H1
    obtain rfl:=Option.some.inj H
    go_wp2
    go_ret
    exact ⟨by rfl,by with_reducible exact HB.out⟩
   ·replace c11:=Bool.eq_false_iff.mpr c11
    subst c11
    have H1:(if (l0_2.length:Int) > 6 then (q04_May.j1 kj3 true a0_0 a0_1 l0_2 l0_3) else (q04_May.j1 kj3 (decide ((l0_3.length:Int) > 4)) a0_0 a0_1 l0_2 l0_3))=some r:=by rw [if_neg (show ¬(false=true) by decide)] at H;exact H
    clear H
    have H:=H1
    clear H1
    have HC12:=Ak H
    clear H
    go_upto_region 5 with (fail)
    go_cut [33] (fun v33 wc=>∃ (kq:Nat) (x33_11:Bool),v33 = .bool x33_11∧Aside0 (q04_May.j1 kq x33_11 a0_0 a0_1 l0_2 l0_3=some r)∧Aside0 (kq≤kj3)∧Aside0 (wc.heap[gb204]? = some (.cells #[.string a0_0,.string a0_1,(.slice A0_2 l0_2.length c0_2),(.slice A0_3 l0_3.length c0_3)] 29 (0,0)))∧Aside0 (Below w.heap.size w wc))
    case first=>
     have H:=HC12.out
     clear HC12
     by_cases c13:(l0_2.length:Int) > 6
     ·rw [if_pos c13] at H
      have c13b0:decide (6 < (l0_2.length:Int))=true:=decide_eq_true c13
      have c13b1:decide (6 < l0_2.length)=true:=decide_eq_true (by omega)
      clear c13
      have H':=Ak H
      clear H
      have hcz14_0:wc.cell? ⟨gb204,0,none⟩=some (.string a0_0):=(blk_cell BK204.out 0).trans rfl
      have hcz14_1:wc.cell? ⟨gb204,1,none⟩=some (.string a0_1):=(blk_cell BK204.out 1).trans rfl
      have hcz14_2:wc.cell? ⟨gb204,2,none⟩=some (.slice A0_2 l0_2.length c0_2):=(blk_cell BK204.out 2).trans rfl
      have hcz14_3:wc.cell? ⟨gb204,3,none⟩=some (.slice A0_3 l0_3.length c0_3):=(blk_cell BK204.out 3).trans rfl
      have hfz14_0:=blk_frozen BK204.out 0
      have hfz14_1:=blk_frozen BK204.out 1
      have hfz14_2:=blk_frozen BK204.out 2
      have hfz14_3:=blk_frozen BK204.out 3
      go_wp2
      go_meet
      case rel=>exact ⟨_,(true),(by rfl),H',⟨by have:=HJ3.out;omega⟩,⟨by exact BK204.out⟩,⟨by with_reducible exact HB.out⟩⟩
     ·rw [if_neg c13] at H
      have c13b0:decide (6 < (l0_2.length:Int))=false:=decide_eq_false c13
      have c13b1:decide (6 < l0_2.length)=false:=decide_eq_false (by omega)
      clear c13
      have H':=Ak H
      clear H
      have hcz15_0:wc.cell? ⟨gb204,0,none⟩=some (.string a0_0):=(blk_cell BK204.out 0).trans rfl
      have hcz15_1:wc.cell? ⟨gb204,1,none⟩=some (.string a0_1):=(blk_cell BK204.out 1).trans rfl
      have hcz15_2:wc.cell? ⟨gb204,2,none⟩=some (.slice A0_2 l0_2.length c0_2):=(blk_cell BK204.out 2).trans rfl
      have hcz15_3:wc.cell? ⟨gb204,3,none⟩=some (.slice A0_3 l0_3.length c0_3):=(blk_cell BK204.out 3).trans rfl
      have hfz15_0:=blk_frozen BK204.out 0
      have hfz15_1:=blk_frozen BK204.out 1
      have hfz15_2:=blk_frozen BK204.out 2
      have hfz15_3:=blk_frozen BK204.out 3
      go_wp2
      go_meet
      case rel=>exact ⟨_,(decide ((l0_3.length:Int) > 4)),(by rfl),H',⟨by have:=HJ3.out;omega⟩,⟨by exact BK204.out⟩,⟨by with_reducible exact HB.out⟩⟩
    case rest=>
     clear HC12
     obtain ⟨kq,x33_11,rfl,HA,HJ11,BK204,HB⟩:=hcut
     cases kq with
     | zero=>exact absurd HA.out (by simp [q04_May.j1])
     | succ kj11=>
      have H:=HA.out
      clear HA
      simp only [q04_May.j1] at H
      by_cases c16:x33_11=true
      ·subst c16
       have H1:(some 3)=some r:=by rw [if_pos rfl] at H;exact H
       clear H
       have H:=H1
       clear H1
       obtain rfl:=Option.some.inj H
       go_wp2
       go_ret
       exact ⟨by rfl,by with_reducible exact HB.out⟩
      ·replace c16:=Bool.eq_false_iff.mpr c16
       subst c16
       have H1:(q04_May.l0 kj11 (([]:List ByteArray)) true 0 a0_0 a0_1 l0_2 l0_3)=some r:=by rw [if_neg (show ¬(false=true) by decide)] at H;exact H
       clear H
       have H:=H1
       clear H1
       obtain ⟨y207,hy207⟩:∃ y_:List ByteArray,y_=(([]:List ByteArray)):=⟨_,rfl⟩
       replace H:(q04_May.l0 kj11 y207 true 0 a0_0 a0_1 l0_2 l0_3)=some r:=by (rw [hy207];with_reducible exact H)
       have Ny207:=Ak hy207
       clear hy207
       have H':=Ak H
       clear H
       go_wp2_with (((with_reducible refine gate_dst (N:=34) rfl ?_);(try (refine gate_guard (by rfl) ?_;dsimp only));refine Kd.R_lit Kd.string _ 9 ?hg (N:=34) ?hd (xs:=([]:List ByteArray)) (inner:=[]) (ok:=fun _=>True) (okp:=fun _=>True) ?hr ?hp (fun _ hk=>hk) trivial (Below.refl _ _) (Nat.le_refl _) (by simp) ?_;(case hd=>rfl);(case hg=>rfl);(case hr=>(go_simp;done));(case hp=>exact (Reps.none _ _));intro v208 w17 ho18 hb hg_ hnew_;clear hg_ hnew_;(rw [←Ny207.out] at ho18);have n0_:=Ak (Kd.R_lower ho18 (below_size HB.out));have n1_:=Ak (blk_below (g:=gb204) (o:=.cells #[.string a0_0,.string a0_1,.slice A0_2 l0_2.length c0_2,.slice A0_3 l0_3.length c0_3] 29 (0,0)) BK204.out hb);have n2_:=Ak (below_step HB.out hb);clear BK204;clear HB;have HO209:=n0_;have BK204:=n1_;have HB:=n2_;clear n0_ n1_ n2_;clear hb ho18))
       go_loopg [5,6,7] kj11 (fun kq v5 v6 v7 w'=>∃ (x5_3:List ByteArray) (x6_3:Bool) (x7_3:Int),v6 = .bool x6_3∧v7 = .int .i64 x7_3∧Aside0 (q04_May.l0 kq x5_3 x6_3 x7_3 a0_0 a0_1 l0_2 l0_3=some r)∧Aside0 (kq≤kj11)∧Aside0 (Kd.R Kd.string 9 w' w.heap.size (fun _=>True) v5 x5_3)∧Aside0 (w'.heap[gb204]? = some (.cells #[.string a0_0,.string a0_1,(.slice A0_2 l0_2.length c0_2),(.slice A0_3 l0_3.length c0_3)] 29 (0,0)))∧Aside0 (Below w.heap.size w w'))
       case atStart=>exact ⟨(y207),(true),(0),(by rfl),(by rfl),H',⟨Nat.le_refl _⟩,⟨by exact HO209.out⟩,⟨by exact BK204.out⟩,⟨by with_reducible exact HB.out⟩⟩
       case round=>
        clear H'
        obtain ⟨x5_3,x6_3,x7_3,rfl,rfl,HA,HK3,HO_5,BK204,HB⟩:=hrel
        cases gk with
        | zero=>exact absurd HA.out (by simp [q04_May.l0])
        | succ k3=>
         have H:=HA.out
         clear HA
         simp only [q04_May.l0] at H
         by_cases c19:x7_3 < (l0_3.length:Int)
         ·rw [if_pos c19] at H
          have c19b0:decide (x7_3 < (l0_3.length:Int))=true:=decide_eq_true c19
          clear c19
          by_cases c20:0≤x7_3
          ·rw [if_pos c20] at H
           have c20b0:decide (0≤x7_3)=true:=decide_eq_true c20
           clear c20
           replace H:=Option.bind_eq_some_iff.mp H
           obtain ⟨t211,A210,H⟩:=H
           replace H:(if t211=true then (if x5_3.length < 8796093022208 then ((some (x5_3++[(rd_T90 l0_3 x7_3).f0]:List ByteArray)).bind fun y213=>(if x6_3=true then (if ((rd_T90 l0_3 x7_3).f1) ≥ (-1099511627776) then (q04_May.l0 k3 y213 (decide (((rd_T90 l0_3 x7_3).f1)≤1099511627776)) (wrap64 (x7_3+1)) a0_0 a0_1 l0_2 l0_3) else (q04_May.l0 k3 y213 false (wrap64 (x7_3+1)) a0_0 a0_1 l0_2 l0_3)) else (q04_May.l0 k3 y213 false (wrap64 (x7_3+1)) a0_0 a0_1 l0_2 l0_3))) else (none)) else (some 5))=some r:=H
           have A21:=Ak A210
           clear A210
           by_cases c22:t211=true
           ·subst c22
            have H1:(if x5_3.length < 8796093022208 then ((some (x5_3++[(rd_T90 l0_3 x7_3).f0]:List ByteArray)).bind fun y213=>(if x6_3=true then (if ((rd_T90 l0_3 x7_3).f1) ≥ (-1099511627776) then (q04_May.l0 k3 y213 (decide (((rd_T90 l0_3 x7_3).f1)≤1099511627776)) (wrap64 (x7_3+1)) a0_0 a0_1 l0_2 l0_3) else (q04_May.l0 k3 y213 false (wrap64 (x7_3+1)) a0_0 a0_1 l0_2 l0_3)) else (q04_May.l0 k3 y213 false (wrap64 (x7_3+1)) a0_0 a0_1 l0_2 l0_3))) else (none))=some r:=by rw [if_pos rfl] at H;exact H
            clear H
            have H:=H1
            clear H1
            by_cases c23:x5_3.length < 8796093022208
            ·rw [if_pos c23] at H
             have LMc23:=Ak c23
             clear c23
             obtain ⟨y213,hy213⟩:∃ y_:List ByteArray,y_=(x5_3++[(rd_T90 l0_3 x7_3).f0]):=⟨_,rfl⟩
             replace H:(if x6_3=true then (if ((rd_T90 l0_3 x7_3).f1) ≥ (-1099511627776) then (q04_May.l0 k3 y213 (decide (((rd_T90 l0_3 x7_3).f1)≤1099511627776)) (wrap64 (x7_3+1)) a0_0 a0_1 l0_2 l0_3) else (q04_May.l0 k3 y213 false (wrap64 (x7_3+1)) a0_0 a0_1 l0_2 l0_3)) else (q04_May.l0 k3 y213 false (wrap64 (x7_3+1)) a0_0 a0_1 l0_2 l0_3))=some r:=by (have H2_:=(Option.bind_some _ _).symm.trans H;rw [hy213];with_reducible exact H2_)
             have Ny213:=Ak hy213
             clear hy213
             by_cases c24:x6_3=true
             ·subst c24
              have H1:(if ((rd_T90 l0_3 x7_3).f1) ≥ (-1099511627776) then (q04_May.l0 k3 y213 (decide (((rd_T90 l0_3 x7_3).f1)≤1099511627776)) (wrap64 (x7_3+1)) a0_0 a0_1 l0_2 l0_3) else (q04_May.l0 k3 y213 false (wrap64 (x7_3+1)) a0_0 a0_1 l0_2 l0_3))=some r:=by rw [if_pos rfl] at H;exact H
              clear H
              have H:=H1
              clear H1
              by_cases c25:((rd_T90 l0_3 x7_3).f1) ≥ (-1099511627776)
              ·rw [if_pos c25] at H
               have c25b0:decide ((-1099511627776)≤((rd_T90 l0_3 x7_3).f1))=true:=decide_eq_true c25
               clear c25
               have H':=Ak H
               clear H
               have hcz26_0:wr.cell? ⟨gb204,0,none⟩=some (.string a0_0):=(blk_cell BK204.out 0).trans rfl
               have hcz26_1:wr.cell? ⟨gb204,1,none⟩=some (.string a0_1):=(blk_cell BK204.out 1).trans rfl
               have hcz26_2:wr.cell? ⟨gb204,2,none⟩=some (.slice A0_2 l0_2.length c0_2):=(blk_cell BK204.out 2).trans rfl
               have hcz26_3:wr.cell? ⟨gb204,3,none⟩=some (.slice A0_3 l0_3.length c0_3):=(blk_cell BK204.out 3).trans rfl
               have hfz26_0:=blk_frozen BK204.out 0
               have hfz26_1:=blk_frozen BK204.out 1
               have hfz26_2:=blk_frozen BK204.out 2
               have hfz26_3:=blk_frozen BK204.out 3
               have p210:0≤(x7_3:Int):=of_decide_eq_true (by (with_reducible assumption))
               have q210:x7_3 < (l0_3.length:Int):=of_decide_eq_true (by (with_reducible assumption))
               obtain ⟨ad210,e210,hx210_0,hx210_1⟩:=at_T90 HR0_3.out x7_3 p210 q210
               cases e210
               replace hx210_0:=(HB.out.cell (World.block_lt_of_cell? w _ hx210_0)).trans hx210_0
               replace hx210_1:=(HB.out.cell (World.block_lt_of_cell? w _ hx210_1)).trans hx210_1
               replace p210:=eq_true p210
               replace q210:=eq_true q210
               go_wp2_with (first | ((with_reducible refine gate_callee (f:=90) rfl ?_);refine goesL_ (some 48) rfl rfl Tryz.func90 (by kernel_rfl) rfl #[.string ((rd_T90 l0_3 x7_3).f0)] rfl (by (try simp only [List.map_toArray,List.map_cons,List.map_nil]);rfl) ?_;(with_reducible refine (q03_MayG.calls ((rd_T90 l0_3 x7_3).f0) true _ A21.out).mono ?_);rintro e w27 ⟨rfl,hb⟩;refine ⟨_,rfl,?_⟩;have n0_:=Ak (Kd.R_below HO_5.out hb);have n1_:=Ak (blk_below (g:=gb204) (o:=.cells #[.string a0_0,.string a0_1,.slice A0_2 l0_2.length c0_2,.slice (some ad210) l0_3.length c0_3] 29 (0,0)) BK204.out hb);have n2_:=Ak (below_step HB.out hb);clear HO_5;clear BK204;clear HB;have HO_5:=n0_;have BK204:=n1_;have HB:=n2_;clear n0_ n1_ n2_;(try clear hb);have hcz28_0:w27.cell? ⟨gb204,0,none⟩=some (.string a0_0):=(blk_cell BK204.out 0).trans rfl;have hcz28_1:w27.cell? ⟨gb204,1,none⟩=some (.string a0_1):=(blk_cell BK204.out 1).trans rfl;have hcz28_2:w27.cell? ⟨gb204,2,none⟩=some (.slice A0_2 l0_2.length c0_2):=(blk_cell BK204.out 2).trans rfl;have hcz28_3:w27.cell? ⟨gb204,3,none⟩=some (.slice (some ad210) l0_3.length c0_3):=(blk_cell BK204.out 3).trans rfl;have hfz28_0:=blk_frozen BK204.out 0;have hfz28_1:=blk_frozen BK204.out 1;have hfz28_2:=blk_frozen BK204.out 2;have hfz28_3:=blk_frozen BK204.out 3;have p212:0≤(x7_3:Int):=of_decide_eq_true (by (with_reducible assumption));have q212:x7_3 < (l0_3.length:Int):=of_decide_eq_true (by (with_reducible assumption));obtain ⟨ad212,e212,hx212_0,hx212_1⟩:=at_T90 HR0_3.out x7_3 p212 q212;obtain rfl:ad210=ad212:=(by injection e212);replace hx212_0:=(HB.out.cell (World.block_lt_of_cell? w _ hx212_0)).trans hx212_0;replace hx212_1:=(HB.out.cell (World.block_lt_of_cell? w _ hx212_1)).trans hx212_1;replace p212:=eq_true p212;replace q212:=eq_true q212) | ((with_reducible refine gate_builtin (b:=.append) (xs:=#[.tmp 51,.tmp 58]) rfl ?_);(try (refine gate_guard (by rfl) ?_;dsimp only));at_builtin;refine Kd.R_append Kd.string (w0:=w) w.heap.size rfl (.tmp 51) (.tmp 58) 26 9 (.string ⟨#[]⟩) 16 rfl Tryz.underlying26 info9 rfl (by decide) (by omega) u5 x5_3 ((rd_T90 l0_3 x7_3).f0) [.string ((rd_T90 l0_3 x7_3).f0)] (fun _=>True) (fun _=>False) rfl rfl ?aP (fun _ hk=>hk.elim) ?aF ?aO ?aB ?aS ?aL ?_;(case aP=>exact rfl);(case aB=>exact HB.out);(case aF=>exact (fun _ _=>trivial));(case aO=>exact HO_5.out);(case aS=>exact (below_size HB.out));(case aL=>have:=LMc23.out;omega);intro v214 w29 ho hb hg hat;rw [←Ny213.out] at ho;have n0_:=Ak (blk_grown (g:=gb204) (o:=.cells #[.string a0_0,.string a0_1,.slice A0_2 l0_2.length c0_2,.slice (some ad210) l0_3.length c0_3] 29 (0,0)) BK204.out hg (Kd.R_ne HO_5.out BK204.out (by decide)));have n1_:=Ak (hb);have n2_:=Ak (ho);clear BK204;clear HB;clear HO_5;have BK204:=n0_;have HB:=n1_;have HO215:=n2_;clear n0_ n1_ n2_;clear ho hb hg hat;have hcz30_0:w29.cell? ⟨gb204,0,none⟩=some (.string a0_0):=(blk_cell BK204.out 0).trans rfl;have hcz30_1:w29.cell? ⟨gb204,1,none⟩=some (.string a0_1):=(blk_cell BK204.out 1).trans rfl;have hcz30_2:w29.cell? ⟨gb204,2,none⟩=some (.slice A0_2 l0_2.length c0_2):=(blk_cell BK204.out 2).trans rfl;have hcz30_3:w29.cell? ⟨gb204,3,none⟩=some (.slice (some ad210) l0_3.length c0_3):=(blk_cell BK204.out 3).trans rfl;have hfz30_0:=blk_frozen BK204.out 0;have hfz30_1:=blk_frozen BK204.out 1;have hfz30_2:=blk_frozen BK204.out 2;have hfz30_3:=blk_frozen BK204.out 3;have p216:0≤(x7_3:Int):=of_decide_eq_true (by (with_reducible assumption));have q216:x7_3 < (l0_3.length:Int):=of_decide_eq_true (by (with_reducible assumption));obtain ⟨ad216,e216,hx216_0,hx216_1⟩:=at_T90 HR0_3.out x7_3 p216 q216;obtain rfl:ad210=ad216:=(by injection e216);replace hx216_0:=(HB.out.cell (World.block_lt_of_cell? w _ hx216_0)).trans hx216_0;replace hx216_1:=(HB.out.cell (World.block_lt_of_cell? w _ hx216_1)).trans hx216_1;replace p216:=eq_true p216;replace q216:=eq_true q216;have p217:0≤(x7_3:Int):=of_decide_eq_true (by (with_reducible assumption));have q217:x7_3 < (l0_3.length:Int):=of_decide_eq_true (by (with_reducible assumption));obtain ⟨ad217,e217,hx217_0,hx217_1⟩:=at_T90 HR0_3.out x7_3 p217 q217;obtain rfl:ad210=ad217:=(by injection e217);replace hx217_0:=(HB.out.cell (World.block_lt_of_cell? w _ hx217_0)).trans hx217_0;replace hx217_1:=(HB.out.cell (World.block_lt_of_cell? w _ hx217_1)).trans hx217_1;replace p217:=eq_true p217;replace q217:=eq_true q217))
               go_roundg k3
               case measure=>have:=HJ3.out;have:=HJ11.out;have:=HK3.out;omega
               case rel=>exact ⟨(y213),(decide (((rd_T90 l0_3 x7_3).f1)≤1099511627776)),(wrap64 (x7_3+1)),(by rfl),(by rfl),H',⟨by have:=HJ3.out;have:=HJ11.out;have:=HK3.out;omega⟩,⟨by exact HO215.out⟩,⟨by exact BK204.out⟩,⟨by with_reducible exact HB.out⟩⟩
              ·rw [if_neg c25] at H
               have c25b0:decide ((-1099511627776)≤((rd_T90 l0_3 x7_3).f1))=false:=decide_eq_false c25
               clear c25
               have H':=Ak H
               clear H
               have hcz31_0:wr.cell? ⟨gb204,0,none⟩=some (.string a0_0):=(blk_cell BK204.out 0).trans rfl
               have hcz31_1:wr.cell? ⟨gb204,1,none⟩=some (.string a0_1):=(blk_cell BK204.out 1).trans rfl
               have hcz31_2:wr.cell? ⟨gb204,2,none⟩=some (.slice A0_2 l0_2.length c0_2):=(blk_cell BK204.out 2).trans rfl
               have hcz31_3:wr.cell? ⟨gb204,3,none⟩=some (.slice A0_3 l0_3.length c0_3):=(blk_cell BK204.out 3).trans rfl
               have hfz31_0:=blk_frozen BK204.out 0
               have hfz31_1:=blk_frozen BK204.out 1
               have hfz31_2:=blk_frozen BK204.out 2
               have hfz31_3:=blk_frozen BK204.out 3
               have p210:0≤(x7_3:Int):=of_decide_eq_true (by (with_reducible assumption))
               have q210:x7_3 < (l0_3.length:Int):=of_decide_eq_true (by (with_reducible assumption))
               obtain ⟨ad210,e210,hx210_0,hx210_1⟩:=at_T90 HR0_3.out x7_3 p210 q210
               cases e210
               replace hx210_0:=(HB.out.cell (World.block_lt_of_cell? w _ hx210_0)).trans hx210_0
               replace hx210_1:=(HB.out.cell (World.block_lt_of_cell? w _ hx210_1)).trans hx210_1
               replace p210:=eq_true p210
               replace q210:=eq_true q210
               go_wp2_with (first | ((with_reducible refine gate_callee (f:=90) rfl ?_);refine goesL_ (some 48) rfl rfl Tryz.func90 (by kernel_rfl) rfl #[.string ((rd_T90 l0_3 x7_3).f0)] rfl (by (try simp only [List.map_toArray,List.map_cons,List.map_nil]);rfl) ?_;(with_reducible refine (q03_MayG.calls ((rd_T90 l0_3 x7_3).f0) true _ A21.out).mono ?_);rintro e w32 ⟨rfl,hb⟩;refine ⟨_,rfl,?_⟩;have n0_:=Ak (Kd.R_below HO_5.out hb);have n1_:=Ak (blk_below (g:=gb204) (o:=.cells #[.string a0_0,.string a0_1,.slice A0_2 l0_2.length c0_2,.slice (some ad210) l0_3.length c0_3] 29 (0,0)) BK204.out hb);have n2_:=Ak (below_step HB.out hb);clear HO_5;clear BK204;clear HB;have HO_5:=n0_;have BK204:=n1_;have HB:=n2_;clear n0_ n1_ n2_;(try clear hb);have hcz33_0:w32.cell? ⟨gb204,0,none⟩=some (.string a0_0):=(blk_cell BK204.out 0).trans rfl;have hcz33_1:w32.cell? ⟨gb204,1,none⟩=some (.string a0_1):=(blk_cell BK204.out 1).trans rfl;have hcz33_2:w32.cell? ⟨gb204,2,none⟩=some (.slice A0_2 l0_2.length c0_2):=(blk_cell BK204.out 2).trans rfl;have hcz33_3:w32.cell? ⟨gb204,3,none⟩=some (.slice (some ad210) l0_3.length c0_3):=(blk_cell BK204.out 3).trans rfl;have hfz33_0:=blk_frozen BK204.out 0;have hfz33_1:=blk_frozen BK204.out 1;have hfz33_2:=blk_frozen BK204.out 2;have hfz33_3:=blk_frozen BK204.out 3;have p212:0≤(x7_3:Int):=of_decide_eq_true (by (with_reducible assumption));have q212:x7_3 < (l0_3.length:Int):=of_decide_eq_true (by (with_reducible assumption));obtain ⟨ad212,e212,hx212_0,hx212_1⟩:=at_T90 HR0_3.out x7_3 p212 q212;obtain rfl:ad210=ad212:=(by injection e212);replace hx212_0:=(HB.out.cell (World.block_lt_of_cell? w _ hx212_0)).trans hx212_0;replace hx212_1:=(HB.out.cell (World.block_lt_of_cell? w _ hx212_1)).trans hx212_1;replace p212:=eq_true p212;replace q212:=eq_true q212) | ((with_reducible refine gate_builtin (b:=.append) (xs:=#[.tmp 51,.tmp 58]) rfl ?_);(try (refine gate_guard (by rfl) ?_;dsimp only));at_builtin;refine Kd.R_append Kd.string (w0:=w) w.heap.size rfl (.tmp 51) (.tmp 58) 26 9 (.string ⟨#[]⟩) 16 rfl Tryz.underlying26 info9 rfl (by decide) (by omega) u5 x5_3 ((rd_T90 l0_3 x7_3).f0) [.string ((rd_T90 l0_3 x7_3).f0)] (fun _=>True) (fun _=>False) rfl rfl ?aP (fun _ hk=>hk.elim) ?aF ?aO ?aB ?aS ?aL ?_;(case aP=>exact rfl);(case aB=>exact HB.out);(case aF=>exact (fun _ _=>trivial));(case aO=>exact HO_5.out);(case aS=>exact (below_size HB.out));(case aL=>have:=LMc23.out;omega);intro v214 w34 ho hb hg hat;rw [←Ny213.out] at ho;have n0_:=Ak (blk_grown (g:=gb204) (o:=.cells #[.string a0_0,.string a0_1,.slice A0_2 l0_2.length c0_2,.slice (some ad210) l0_3.length c0_3] 29 (0,0)) BK204.out hg (Kd.R_ne HO_5.out BK204.out (by decide)));have n1_:=Ak (hb);have n2_:=Ak (ho);clear BK204;clear HB;clear HO_5;have BK204:=n0_;have HB:=n1_;have HO215:=n2_;clear n0_ n1_ n2_;clear ho hb hg hat;have hcz35_0:w34.cell? ⟨gb204,0,none⟩=some (.string a0_0):=(blk_cell BK204.out 0).trans rfl;have hcz35_1:w34.cell? ⟨gb204,1,none⟩=some (.string a0_1):=(blk_cell BK204.out 1).trans rfl;have hcz35_2:w34.cell? ⟨gb204,2,none⟩=some (.slice A0_2 l0_2.length c0_2):=(blk_cell BK204.out 2).trans rfl;have hcz35_3:w34.cell? ⟨gb204,3,none⟩=some (.slice (some ad210) l0_3.length c0_3):=(blk_cell BK204.out 3).trans rfl;have hfz35_0:=blk_frozen BK204.out 0;have hfz35_1:=blk_frozen BK204.out 1;have hfz35_2:=blk_frozen BK204.out 2;have hfz35_3:=blk_frozen BK204.out 3;have p216:0≤(x7_3:Int):=of_decide_eq_true (by (with_reducible assumption));have q216:x7_3 < (l0_3.length:Int):=of_decide_eq_true (by (with_reducible assumption));obtain ⟨ad216,e216,hx216_0,hx216_1⟩:=at_T90 HR0_3.out x7_3 p216 q216;obtain rfl:ad210=ad216:=(by injection e216);replace hx216_0:=(HB.out.cell (World.block_lt_of_cell? w _ hx216_0)).trans hx216_0;replace hx216_1:=(HB.out.cell (World.block_lt_of_cell? w _ hx216_1)).trans hx216_1;replace p216:=eq_true p216;replace q216:=eq_true q216))
               go_roundg k3
               case measure=>have:=HJ3.out;have:=HJ11.out;have:=HK3.out;omega
               case rel=>exact ⟨(y213),(false),(wrap64 (x7_3+1)),(by rfl),(by rfl),H',⟨by have:=HJ3.out;have:=HJ11.out;have:=HK3.out;omega⟩,⟨by exact HO215.out⟩,⟨by exact BK204.out⟩,⟨by with_reducible exact HB.out⟩⟩
             ·replace c24:=Bool.eq_false_iff.mpr c24
              subst c24
              have H1:(q04_May.l0 k3 y213 false (wrap64 (x7_3+1)) a0_0 a0_1 l0_2 l0_3)=some r:=by rw [if_neg (show ¬(false=true) by decide)] at H;exact H
              clear H
              have H:=H1
              clear H1
              have H':=Ak H
              clear H
              have hcz36_0:wr.cell? ⟨gb204,0,none⟩=some (.string a0_0):=(blk_cell BK204.out 0).trans rfl
              have hcz36_1:wr.cell? ⟨gb204,1,none⟩=some (.string a0_1):=(blk_cell BK204.out 1).trans rfl
              have hcz36_2:wr.cell? ⟨gb204,2,none⟩=some (.slice A0_2 l0_2.length c0_2):=(blk_cell BK204.out 2).trans rfl
              have hcz36_3:wr.cell? ⟨gb204,3,none⟩=some (.slice A0_3 l0_3.length c0_3):=(blk_cell BK204.out 3).trans rfl
              have hfz36_0:=blk_frozen BK204.out 0
              have hfz36_1:=blk_frozen BK204.out 1
              have hfz36_2:=blk_frozen BK204.out 2
              have hfz36_3:=blk_frozen BK204.out 3
              have p210:0≤(x7_3:Int):=of_decide_eq_true (by (with_reducible assumption))
              have q210:x7_3 < (l0_3.length:Int):=of_decide_eq_true (by (with_reducible assumption))
              obtain ⟨ad210,e210,hx210_0,hx210_1⟩:=at_T90 HR0_3.out x7_3 p210 q210
              cases e210
              replace hx210_0:=(HB.out.cell (World.block_lt_of_cell? w _ hx210_0)).trans hx210_0
              replace hx210_1:=(HB.out.cell (World.block_lt_of_cell? w _ hx210_1)).trans hx210_1
              replace p210:=eq_true p210
              replace q210:=eq_true q210
              go_wp2_with (first | ((with_reducible refine gate_callee (f:=90) rfl ?_);refine goesL_ (some 48) rfl rfl Tryz.func90 (by kernel_rfl) rfl #[.string ((rd_T90 l0_3 x7_3).f0)] rfl (by (try simp only [List.map_toArray,List.map_cons,List.map_nil]);rfl) ?_;(with_reducible refine (q03_MayG.calls ((rd_T90 l0_3 x7_3).f0) true _ A21.out).mono ?_);rintro e w37 ⟨rfl,hb⟩;refine ⟨_,rfl,?_⟩;have n0_:=Ak (Kd.R_below HO_5.out hb);have n1_:=Ak (blk_below (g:=gb204) (o:=.cells #[.string a0_0,.string a0_1,.slice A0_2 l0_2.length c0_2,.slice (some ad210) l0_3.length c0_3] 29 (0,0)) BK204.out hb);have n2_:=Ak (below_step HB.out hb);clear HO_5;clear BK204;clear HB;have HO_5:=n0_;have BK204:=n1_;have HB:=n2_;clear n0_ n1_ n2_;(try clear hb);have hcz38_0:w37.cell? ⟨gb204,0,none⟩=some (.string a0_0):=(blk_cell BK204.out 0).trans rfl;have hcz38_1:w37.cell? ⟨gb204,1,none⟩=some (.string a0_1):=(blk_cell BK204.out 1).trans rfl;have hcz38_2:w37.cell? ⟨gb204,2,none⟩=some (.slice A0_2 l0_2.length c0_2):=(blk_cell BK204.out 2).trans rfl;have hcz38_3:w37.cell? ⟨gb204,3,none⟩=some (.slice (some ad210) l0_3.length c0_3):=(blk_cell BK204.out 3).trans rfl;have hfz38_0:=blk_frozen BK204.out 0;have hfz38_1:=blk_frozen BK204.out 1;have hfz38_2:=blk_frozen BK204.out 2;have hfz38_3:=blk_frozen BK204.out 3;have p212:0≤(x7_3:Int):=of_decide_eq_true (by (with_reducible assumption));have q212:x7_3 < (l0_3.length:Int):=of_decide_eq_true (by (with_reducible assumption));obtain ⟨ad212,e212,hx212_0,hx212_1⟩:=at_T90 HR0_3.out x7_3 p212 q212;obtain rfl:ad210=ad212:=(by injection e212);replace hx212_0:=(HB.out.cell (World.block_lt_of_cell? w _ hx212_0)).trans hx212_0;replace hx212_1:=(HB.out.cell (World.block_lt_of_cell? w _ hx212_1)).trans hx212_1;replace p212:=eq_true p212;replace q212:=eq_true q212) | ((with_reducible refine gate_builtin (b:=.append) (xs:=#[.tmp 51,.tmp 58]) rfl ?_);(try (refine gate_guard (by rfl) ?_;dsimp only));at_builtin;refine Kd.R_append Kd.string (w0:=w) w.heap.size rfl (.tmp 51) (.tmp 58) 26 9 (.string ⟨#[]⟩) 16 rfl Tryz.underlying26 info9 rfl (by decide) (by omega) u5 x5_3 ((rd_T90 l0_3 x7_3).f0) [.string ((rd_T90 l0_3 x7_3).f0)] (fun _=>True) (fun _=>False) rfl rfl ?aP (fun _ hk=>hk.elim) ?aF ?aO ?aB ?aS ?aL ?_;(case aP=>exact rfl);(case aB=>exact HB.out);(case aF=>exact (fun _ _=>trivial));(case aO=>exact HO_5.out);(case aS=>exact (below_size HB.out));(case aL=>have:=LMc23.out;omega);intro v214 w39 ho hb hg hat;rw [←Ny213.out] at ho;have n0_:=Ak (blk_grown (g:=gb204) (o:=.cells #[.string a0_0,.string a0_1,.slice A0_2 l0_2.length c0_2,.slice (some ad210) l0_3.length c0_3] 29 (0,0)) BK204.out hg (Kd.R_ne HO_5.out BK204.out (by decide)));have n1_:=Ak (hb);have n2_:=Ak (ho);clear BK204;clear HB;clear HO_5;have BK204:=n0_;have HB:=n1_;have HO215:=n2_;clear n0_ n1_ n2_;clear ho hb hg hat))
              go_roundg k3
              case measure=>have:=HJ3.out;have:=HJ11.out;have:=HK3.out;omega
              case rel=>exact ⟨(y213),(false),(wrap64 (x7_3+1)),(by rfl),(by rfl),H',⟨by have:=HJ3.out;have:=HJ11.out;have:=HK3.out;omega⟩,⟨by exact HO215.out⟩,⟨by exact BK204.out⟩,⟨by with_reducible exact HB.out⟩⟩
            ·rw [if_neg c23] at H
             exact absurd H (by simp)
           ·replace c22:=Bool.eq_false_iff.mpr c22
            subst c22
            have H1:(some 5)=some r:=by rw [if_neg (show ¬(false=true) by decide)] at H;exact H
            clear H
            have H:=H1
            clear H1
            obtain rfl:=Option.some.inj H
            have hcz40_0:wr.cell? ⟨gb204,0,none⟩=some (.string a0_0):=(blk_cell BK204.out 0).trans rfl
            have hcz40_1:wr.cell? ⟨gb204,1,none⟩=some (.string a0_1):=(blk_cell BK204.out 1).trans rfl
            have hcz40_2:wr.cell? ⟨gb204,2,none⟩=some (.slice A0_2 l0_2.length c0_2):=(blk_cell BK204.out 2).trans rfl
            have hcz40_3:wr.cell? ⟨gb204,3,none⟩=some (.slice A0_3 l0_3.length c0_3):=(blk_cell BK204.out 3).trans rfl
            have hfz40_0:=blk_frozen BK204.out 0
            have hfz40_1:=blk_frozen BK204.out 1
            have hfz40_2:=blk_frozen BK204.out 2
            have hfz40_3:=blk_frozen BK204.out 3
            have p210:0≤(x7_3:Int):=of_decide_eq_true (by (with_reducible assumption))
            have q210:x7_3 < (l0_3.length:Int):=of_decide_eq_true (by (with_reducible assumption))
            obtain ⟨ad210,e210,hx210_0,hx210_1⟩:=at_T90 HR0_3.out x7_3 p210 q210
            cases e210
            replace hx210_0:=(HB.out.cell (World.block_lt_of_cell? w _ hx210_0)).trans hx210_0
            replace hx210_1:=(HB.out.cell (World.block_lt_of_cell? w _ hx210_1)).trans hx210_1
            replace p210:=eq_true p210
            replace q210:=eq_true q210
            go_wp2_with (((with_reducible refine gate_callee (f:=90) rfl ?_);refine goesL_ (some 48) rfl rfl Tryz.func90 (by kernel_rfl) rfl #[.string ((rd_T90 l0_3 x7_3).f0)] rfl (by (try simp only [List.map_toArray,List.map_cons,List.map_nil]);rfl) ?_;(with_reducible refine (q03_MayG.calls ((rd_T90 l0_3 x7_3).f0) false _ A21.out).mono ?_);rintro e w41 ⟨rfl,hb⟩;refine ⟨_,rfl,?_⟩;have n0_:=Ak (Kd.R_below HO_5.out hb);have n1_:=Ak (blk_below (g:=gb204) (o:=.cells #[.string a0_0,.string a0_1,.slice A0_2 l0_2.length c0_2,.slice (some ad210) l0_3.length c0_3] 29 (0,0)) BK204.out hb);have n2_:=Ak (below_step HB.out hb);clear HO_5;clear BK204;clear HB;have HO_5:=n0_;have BK204:=n1_;have HB:=n2_;clear n0_ n1_ n2_;(try clear hb)))
            go_ret
            exact ⟨by rfl,by with_reducible exact HB.out⟩
          ·rw [if_neg c20] at H
           exact absurd H (by simp)
         ·rw [if_neg c19] at H
          have c19b0:decide (x7_3 < (l0_3.length:Int))=false:=decide_eq_false c19
          clear c19
          replace H:=Option.bind_eq_some_iff.mp H
          obtain ⟨t218,A420,H⟩:=H
          replace H:(if t218=true then ((q04_RiseG.f l0_2).bind fun t219=>((q04_RiseG.f x5_3).bind fun t220=>(if x6_3=true then (if t219=true then (if t220=true then (some 0) else (some 1)) else (some 1)) else (some 1)))) else (some 5))=some r:=H
          have A42:=Ak A420
          clear A420
          by_cases c43:t218=true
          ·subst c43
           have H1:((q04_RiseG.f l0_2).bind fun t219=>((q04_RiseG.f x5_3).bind fun t220=>(if x6_3=true then (if t219=true then (if t220=true then (some 0) else (some 1)) else (some 1)) else (some 1))))=some r:=by rw [if_pos rfl] at H;exact H
           clear H
           have H:=H1
           clear H1
           replace H:=Option.bind_eq_some_iff.mp H
           obtain ⟨t219,A440,H⟩:=H
           replace H:((q04_RiseG.f x5_3).bind fun t220=>(if x6_3=true then (if t219=true then (if t220=true then (some 0) else (some 1)) else (some 1)) else (some 1)))=some r:=H
           have A44:=Ak A440
           clear A440
           replace H:=Option.bind_eq_some_iff.mp H
           obtain ⟨t220,A450,H⟩:=H
           replace H:(if x6_3=true then (if t219=true then (if t220=true then (some 0) else (some 1)) else (some 1)) else (some 1))=some r:=H
           have A45:=Ak A450
           clear A450
           by_cases c46:x6_3=true
           ·subst c46
            have H1:(if t219=true then (if t220=true then (some 0) else (some 1)) else (some 1))=some r:=by rw [if_pos rfl] at H;exact H
            clear H
            have H:=H1
            clear H1
            by_cases c47:t219=true
            ·subst c47
             have H1:(if t220=true then (some 0) else (some 1))=some r:=by rw [if_pos rfl] at H;exact H
             clear H
             have H:=H1
             clear H1
             by_cases c48:t220=true
             ·subst c48
              have H1:(some 0)=some r:=by rw [if_pos rfl] at H;exact H
              clear H
              have H:=H1
              clear H1
              obtain rfl:=Option.some.inj H
              have hcz49_0:wr.cell? ⟨gb204,0,none⟩=some (.string a0_0):=(blk_cell BK204.out 0).trans rfl
              have hcz49_1:wr.cell? ⟨gb204,1,none⟩=some (.string a0_1):=(blk_cell BK204.out 1).trans rfl
              have hcz49_2:wr.cell? ⟨gb204,2,none⟩=some (.slice A0_2 l0_2.length c0_2):=(blk_cell BK204.out 2).trans rfl
              have hcz49_3:wr.cell? ⟨gb204,3,none⟩=some (.slice A0_3 l0_3.length c0_3):=(blk_cell BK204.out 3).trans rfl
              have hfz49_0:=blk_frozen BK204.out 0
              have hfz49_1:=blk_frozen BK204.out 1
              have hfz49_2:=blk_frozen BK204.out 2
              have hfz49_3:=blk_frozen BK204.out 3
              go_wp2_with (first | ((with_reducible refine gate_callee (f:=91) rfl ?_);refine goesL_ (some 81) rfl rfl Tryz.func91 (by kernel_rfl) rfl #[.slice A0_2 l0_2.length c0_2] rfl (by (try simp only [List.map_toArray,List.map_cons,List.map_nil]);rfl) ?_;(with_reducible refine (q04_tagsG.calls _ _ l0_2 true _ ?side1 ?side2 A42.out).mono ?_);(case side1=>repeat (exact (Kd.C_below HR0_2.out HB.out)));(case side2=>exact HC0_2.out);rintro e w50 ⟨rfl,hb⟩;refine ⟨_,rfl,?_⟩;have n0_:=Ak (Kd.R_below HO_5.out hb);have n1_:=Ak (blk_below (g:=gb204) (o:=.cells #[.string a0_0,.string a0_1,.slice A0_2 l0_2.length c0_2,.slice A0_3 l0_3.length c0_3] 29 (0,0)) BK204.out hb);have n2_:=Ak (below_step HB.out hb);clear HO_5;clear BK204;clear HB;have HO_5:=n0_;have BK204:=n1_;have HB:=n2_;clear n0_ n1_ n2_;(try clear hb);have hcz51_0:w50.cell? ⟨gb204,0,none⟩=some (.string a0_0):=(blk_cell BK204.out 0).trans rfl;have hcz51_1:w50.cell? ⟨gb204,1,none⟩=some (.string a0_1):=(blk_cell BK204.out 1).trans rfl;have hcz51_2:w50.cell? ⟨gb204,2,none⟩=some (.slice A0_2 l0_2.length c0_2):=(blk_cell BK204.out 2).trans rfl;have hcz51_3:w50.cell? ⟨gb204,3,none⟩=some (.slice A0_3 l0_3.length c0_3):=(blk_cell BK204.out 3).trans rfl;have hfz51_0:=blk_frozen BK204.out 0;have hfz51_1:=blk_frozen BK204.out 1;have hfz51_2:=blk_frozen BK204.out 2;have hfz51_3:=blk_frozen BK204.out 3) | ((with_reducible refine gate_callee (f:=92) rfl ?_);refine goesL_ (some 86) rfl rfl Tryz.func92 (by kernel_rfl) rfl #[.slice A0_2 l0_2.length c0_2] rfl (by (try simp only [List.map_toArray,List.map_cons,List.map_nil]);rfl) ?_;(with_reducible refine (q04_RiseG.calls _ _ l0_2 true _ ?side1 ?side2 A44.out).mono ?_);(case side1=>repeat (exact (Kd.C_below HR0_2.out HB.out)));(case side2=>exact HC0_2.out);rintro e w' ⟨rfl,⟨nd,rfl⟩⟩;refine ⟨_,rfl,?_⟩;obtain ⟨Ao52,co52,eo52⟩:=Kd.R_slice HO_5.out;subst eo52) | ((with_reducible refine gate_callee (f:=92) rfl ?_);refine goesL_ (some 88) rfl rfl Tryz.func92 (by kernel_rfl) rfl #[.slice Ao52 x5_3.length co52] rfl (by (try simp only [List.map_toArray,List.map_cons,List.map_nil]);rfl) ?_;(with_reducible refine (q04_RiseG.calls _ _ x5_3 true _ ?side1 ?side2 A45.out).mono ?_);(case side1=>repeat (exact (Kd.R_reads' HO_5.out).2.2));(case side2=>exact (Kd.R_reads' HO_5.out).2.1);rintro e w' ⟨rfl,⟨nd,rfl⟩⟩;refine ⟨_,rfl,?_⟩))
              go_ret
              exact ⟨by rfl,by repeat (with_reducible first | exact HB.out | apply pw_below_drewN)⟩
             ·replace c48:=Bool.eq_false_iff.mpr c48
              subst c48
              have H1:(some 1)=some r:=by rw [if_neg (show ¬(false=true) by decide)] at H;exact H
              clear H
              have H:=H1
              clear H1
              obtain rfl:=Option.some.inj H
              have hcz53_0:wr.cell? ⟨gb204,0,none⟩=some (.string a0_0):=(blk_cell BK204.out 0).trans rfl
              have hcz53_1:wr.cell? ⟨gb204,1,none⟩=some (.string a0_1):=(blk_cell BK204.out 1).trans rfl
              have hcz53_2:wr.cell? ⟨gb204,2,none⟩=some (.slice A0_2 l0_2.length c0_2):=(blk_cell BK204.out 2).trans rfl
              have hcz53_3:wr.cell? ⟨gb204,3,none⟩=some (.slice A0_3 l0_3.length c0_3):=(blk_cell BK204.out 3).trans rfl
              have hfz53_0:=blk_frozen BK204.out 0
              have hfz53_1:=blk_frozen BK204.out 1
              have hfz53_2:=blk_frozen BK204.out 2
              have hfz53_3:=blk_frozen BK204.out 3
              go_wp2_with (first | ((with_reducible refine gate_callee (f:=91) rfl ?_);refine goesL_ (some 81) rfl rfl Tryz.func91 (by kernel_rfl) rfl #[.slice A0_2 l0_2.length c0_2] rfl (by (try simp only [List.map_toArray,List.map_cons,List.map_nil]);rfl) ?_;(with_reducible refine (q04_tagsG.calls _ _ l0_2 true _ ?side1 ?side2 A42.out).mono ?_);(case side1=>repeat (exact (Kd.C_below HR0_2.out HB.out)));(case side2=>exact HC0_2.out);rintro e w54 ⟨rfl,hb⟩;refine ⟨_,rfl,?_⟩;have n0_:=Ak (Kd.R_below HO_5.out hb);have n1_:=Ak (blk_below (g:=gb204) (o:=.cells #[.string a0_0,.string a0_1,.slice A0_2 l0_2.length c0_2,.slice A0_3 l0_3.length c0_3] 29 (0,0)) BK204.out hb);have n2_:=Ak (below_step HB.out hb);clear HO_5;clear BK204;clear HB;have HO_5:=n0_;have BK204:=n1_;have HB:=n2_;clear n0_ n1_ n2_;(try clear hb);have hcz55_0:w54.cell? ⟨gb204,0,none⟩=some (.string a0_0):=(blk_cell BK204.out 0).trans rfl;have hcz55_1:w54.cell? ⟨gb204,1,none⟩=some (.string a0_1):=(blk_cell BK204.out 1).trans rfl;have hcz55_2:w54.cell? ⟨gb204,2,none⟩=some (.slice A0_2 l0_2.length c0_2):=(blk_cell BK204.out 2).trans rfl;have hcz55_3:w54.cell? ⟨gb204,3,none⟩=some (.slice A0_3 l0_3.length c0_3):=(blk_cell BK204.out 3).trans rfl;have hfz55_0:=blk_frozen BK204.out 0;have hfz55_1:=blk_frozen BK204.out 1;have hfz55_2:=blk_frozen BK204.out 2;have hfz55_3:=blk_frozen BK204.out 3) | ((with_reducible refine gate_callee (f:=92) rfl ?_);refine goesL_ (some 86) rfl rfl Tryz.func92 (by kernel_rfl) rfl #[.slice A0_2 l0_2.length c0_2] rfl (by (try simp only [List.map_toArray,List.map_cons,List.map_nil]);rfl) ?_;(with_reducible refine (q04_RiseG.calls _ _ l0_2 true _ ?side1 ?side2 A44.out).mono ?_);(case side1=>repeat (exact (Kd.C_below HR0_2.out HB.out)));(case side2=>exact HC0_2.out);rintro e w' ⟨rfl,⟨nd,rfl⟩⟩;refine ⟨_,rfl,?_⟩;obtain ⟨Ao56,co56,eo56⟩:=Kd.R_slice HO_5.out;subst eo56) | ((with_reducible refine gate_callee (f:=92) rfl ?_);refine goesL_ (some 88) rfl rfl Tryz.func92 (by kernel_rfl) rfl #[.slice Ao56 x5_3.length co56] rfl (by (try simp only [List.map_toArray,List.map_cons,List.map_nil]);rfl) ?_;(with_reducible refine (q04_RiseG.calls _ _ x5_3 false _ ?side1 ?side2 A45.out).mono ?_);(case side1=>repeat (exact (Kd.R_reads' HO_5.out).2.2));(case side2=>exact (Kd.R_reads' HO_5.out).2.1);rintro e w' ⟨rfl,⟨nd,rfl⟩⟩;refine ⟨_,rfl,?_⟩))
              go_ret
              exact ⟨by rfl,by repeat (with_reducible first | exact HB.out | apply pw_below_drewN)⟩
            ·replace c47:=Bool.eq_false_iff.mpr c47
             subst c47
             have H1:(some 1)=some r:=by rw [if_neg (show ¬(false=true) by decide)] at H;exact H
             clear H
             have H:=H1
             clear H1
             obtain rfl:=Option.some.inj H
             have hcz57_0:wr.cell? ⟨gb204,0,none⟩=some (.string a0_0):=(blk_cell BK204.out 0).trans rfl
             have hcz57_1:wr.cell? ⟨gb204,1,none⟩=some (.string a0_1):=(blk_cell BK204.out 1).trans rfl
             have hcz57_2:wr.cell? ⟨gb204,2,none⟩=some (.slice A0_2 l0_2.length c0_2):=(blk_cell BK204.out 2).trans rfl
             have hcz57_3:wr.cell? ⟨gb204,3,none⟩=some (.slice A0_3 l0_3.length c0_3):=(blk_cell BK204.out 3).trans rfl
             have hfz57_0:=blk_frozen BK204.out 0
             have hfz57_1:=blk_frozen BK204.out 1
             have hfz57_2:=blk_frozen BK204.out 2
             have hfz57_3:=blk_frozen BK204.out 3
             go_wp2_with (first | ((with_reducible refine gate_callee (f:=91) rfl ?_);refine goesL_ (some 81) rfl rfl Tryz.func91 (by kernel_rfl) rfl #[.slice A0_2 l0_2.length c0_2] rfl (by (try simp only [List.map_toArray,List.map_cons,List.map_nil]);rfl) ?_;(with_reducible refine (q04_tagsG.calls _ _ l0_2 true _ ?side1 ?side2 A42.out).mono ?_);(case side1=>repeat (exact (Kd.C_below HR0_2.out HB.out)));(case side2=>exact HC0_2.out);rintro e w58 ⟨rfl,hb⟩;refine ⟨_,rfl,?_⟩;have n0_:=Ak (Kd.R_below HO_5.out hb);have n1_:=Ak (blk_below (g:=gb204) (o:=.cells #[.string a0_0,.string a0_1,.slice A0_2 l0_2.length c0_2,.slice A0_3 l0_3.length c0_3] 29 (0,0)) BK204.out hb);have n2_:=Ak (below_step HB.out hb);clear HO_5;clear BK204;clear HB;have HO_5:=n0_;have BK204:=n1_;have HB:=n2_;clear n0_ n1_ n2_;(try clear hb);have hcz59_0:w58.cell? ⟨gb204,0,none⟩=some (.string a0_0):=(blk_cell BK204.out 0).trans rfl;have hcz59_1:w58.cell? ⟨gb204,1,none⟩=some (.string a0_1):=(blk_cell BK204.out 1).trans rfl;have hcz59_2:w58.cell? ⟨gb204,2,none⟩=some (.slice A0_2 l0_2.length c0_2):=(blk_cell BK204.out 2).trans rfl;have hcz59_3:w58.cell? ⟨gb204,3,none⟩=some (.slice A0_3 l0_3.length c0_3):=(blk_cell BK204.out 3).trans rfl;have hfz59_0:=blk_frozen BK204.out 0;have hfz59_1:=blk_frozen BK204.out 1;have hfz59_2:=blk_frozen BK204.out 2;have hfz59_3:=blk_frozen BK204.out 3) | ((with_reducible refine gate_callee (f:=92) rfl ?_);refine goesL_ (some 86) rfl rfl Tryz.func92 (by kernel_rfl) rfl #[.slice A0_2 l0_2.length c0_2] rfl (by (try simp only [List.map_toArray,List.map_cons,List.map_nil]);rfl) ?_;(with_reducible refine (q04_RiseG.calls _ _ l0_2 false _ ?side1 ?side2 A44.out).mono ?_);(case side1=>repeat (exact (Kd.C_below HR0_2.out HB.out)));(case side2=>exact HC0_2.out);rintro e w' ⟨rfl,⟨nd,rfl⟩⟩;refine ⟨_,rfl,?_⟩;obtain ⟨Ao60,co60,eo60⟩:=Kd.R_slice HO_5.out;subst eo60) | ((with_reducible refine gate_callee (f:=92) rfl ?_);refine goesL_ (some 88) rfl rfl Tryz.func92 (by kernel_rfl) rfl #[.slice Ao60 x5_3.length co60] rfl (by (try simp only [List.map_toArray,List.map_cons,List.map_nil]);rfl) ?_;(with_reducible refine (q04_RiseG.calls _ _ x5_3 t220 _ ?side1 ?side2 A45.out).mono ?_);(case side1=>repeat (exact (Kd.R_reads' HO_5.out).2.2));(case side2=>exact (Kd.R_reads' HO_5.out).2.1);rintro e w' ⟨rfl,⟨nd,rfl⟩⟩;refine ⟨_,rfl,?_⟩))
             go_ret
             exact ⟨by rfl,by repeat (with_reducible first | exact HB.out | apply pw_below_drewN)⟩
           ·replace c46:=Bool.eq_false_iff.mpr c46
            subst c46
            have H1:(some 1)=some r:=by rw [if_neg (show ¬(false=true) by decide)] at H;exact H
            clear H
            have H:=H1
            clear H1
            obtain rfl:=Option.some.inj H
            have hcz61_0:wr.cell? ⟨gb204,0,none⟩=some (.string a0_0):=(blk_cell BK204.out 0).trans rfl
            have hcz61_1:wr.cell? ⟨gb204,1,none⟩=some (.string a0_1):=(blk_cell BK204.out 1).trans rfl
            have hcz61_2:wr.cell? ⟨gb204,2,none⟩=some (.slice A0_2 l0_2.length c0_2):=(blk_cell BK204.out 2).trans rfl
            have hcz61_3:wr.cell? ⟨gb204,3,none⟩=some (.slice A0_3 l0_3.length c0_3):=(blk_cell BK204.out 3).trans rfl
            have hfz61_0:=blk_frozen BK204.out 0
            have hfz61_1:=blk_frozen BK204.out 1
            have hfz61_2:=blk_frozen BK204.out 2
            have hfz61_3:=blk_frozen BK204.out 3
            go_wp2_with (first | ((with_reducible refine gate_callee (f:=91) rfl ?_);refine goesL_ (some 81) rfl rfl Tryz.func91 (by kernel_rfl) rfl #[.slice A0_2 l0_2.length c0_2] rfl (by (try simp only [List.map_toArray,List.map_cons,List.map_nil]);rfl) ?_;(with_reducible refine (q04_tagsG.calls _ _ l0_2 true _ ?side1 ?side2 A42.out).mono ?_);(case side1=>repeat (exact (Kd.C_below HR0_2.out HB.out)));(case side2=>exact HC0_2.out);rintro e w62 ⟨rfl,hb⟩;refine ⟨_,rfl,?_⟩;have n0_:=Ak (Kd.R_below HO_5.out hb);have n1_:=Ak (blk_below (g:=gb204) (o:=.cells #[.string a0_0,.string a0_1,.slice A0_2 l0_2.length c0_2,.slice A0_3 l0_3.length c0_3] 29 (0,0)) BK204.out hb);have n2_:=Ak (below_step HB.out hb);clear HO_5;clear BK204;clear HB;have HO_5:=n0_;have BK204:=n1_;have HB:=n2_;clear n0_ n1_ n2_;(try clear hb);have hcz63_0:w62.cell? ⟨gb204,0,none⟩=some (.string a0_0):=(blk_cell BK204.out 0).trans rfl;have hcz63_1:w62.cell? ⟨gb204,1,none⟩=some (.string a0_1):=(blk_cell BK204.out 1).trans rfl;have hcz63_2:w62.cell? ⟨gb204,2,none⟩=some (.slice A0_2 l0_2.length c0_2):=(blk_cell BK204.out 2).trans rfl;have hcz63_3:w62.cell? ⟨gb204,3,none⟩=some (.slice A0_3 l0_3.length c0_3):=(blk_cell BK204.out 3).trans rfl;have hfz63_0:=blk_frozen BK204.out 0;have hfz63_1:=blk_frozen BK204.out 1;have hfz63_2:=blk_frozen BK204.out 2;have hfz63_3:=blk_frozen BK204.out 3) | ((with_reducible refine gate_callee (f:=92) rfl ?_);refine goesL_ (some 86) rfl rfl Tryz.func92 (by kernel_rfl) rfl #[.slice A0_2 l0_2.length c0_2] rfl (by (try simp only [List.map_toArray,List.map_cons,List.map_nil]);rfl) ?_;(with_reducible refine (q04_RiseG.calls _ _ l0_2 t219 _ ?side1 ?side2 A44.out).mono ?_);(case side1=>repeat (exact (Kd.C_below HR0_2.out HB.out)));(case side2=>exact HC0_2.out);rintro e w' ⟨rfl,⟨nd,rfl⟩⟩;refine ⟨_,rfl,?_⟩;obtain ⟨Ao64,co64,eo64⟩:=Kd.R_slice HO_5.out;subst eo64) | ((with_reducible refine gate_callee (f:=92) rfl ?_);refine goesL_ (some 88) rfl rfl Tryz.func92 (by kernel_rfl) rfl #[.slice Ao64 x5_3.length co64] rfl (by (try simp only [List.map_toArray,List.map_cons,List.map_nil]);rfl) ?_;(with_reducible refine (q04_RiseG.calls _ _ x5_3 t220 _ ?side1 ?side2 A45.out).mono ?_);(case side1=>repeat (exact (Kd.R_reads' HO_5.out).2.2));(case side2=>exact (Kd.R_reads' HO_5.out).2.1);rintro e w' ⟨rfl,⟨nd,rfl⟩⟩;refine ⟨_,rfl,?_⟩))
            go_ret
            exact ⟨by rfl,by repeat (with_reducible first | exact HB.out | apply pw_below_drewN)⟩
          ·replace c43:=Bool.eq_false_iff.mpr c43
           subst c43
           have H1:(some 5)=some r:=by rw [if_neg (show ¬(false=true) by decide)] at H;exact H
           clear H
           have H:=H1
           clear H1
           obtain rfl:=Option.some.inj H
           have hcz65_0:wr.cell? ⟨gb204,0,none⟩=some (.string a0_0):=(blk_cell BK204.out 0).trans rfl
           have hcz65_1:wr.cell? ⟨gb204,1,none⟩=some (.string a0_1):=(blk_cell BK204.out 1).trans rfl
           have hcz65_2:wr.cell? ⟨gb204,2,none⟩=some (.slice A0_2 l0_2.length c0_2):=(blk_cell BK204.out 2).trans rfl
           have hcz65_3:wr.cell? ⟨gb204,3,none⟩=some (.slice A0_3 l0_3.length c0_3):=(blk_cell BK204.out 3).trans rfl
           have hfz65_0:=blk_frozen BK204.out 0
           have hfz65_1:=blk_frozen BK204.out 1
           have hfz65_2:=blk_frozen BK204.out 2
           have hfz65_3:=blk_frozen BK204.out 3
           go_wp2_with (((with_reducible refine gate_callee (f:=91) rfl ?_);refine goesL_ (some 81) rfl rfl Tryz.func91 (by kernel_rfl) rfl #[.slice A0_2 l0_2.length c0_2] rfl (by (try simp only [List.map_toArray,List.map_cons,List.map_nil]);rfl) ?_;(with_reducible refine (q04_tagsG.calls _ _ l0_2 false _ ?side1 ?side2 A42.out).mono ?_);(case side1=>repeat (exact (Kd.C_below HR0_2.out HB.out)));(case side2=>exact HC0_2.out);rintro e w66 ⟨rfl,hb⟩;refine ⟨_,rfl,?_⟩;have n0_:=Ak (Kd.R_below HO_5.out hb);have n1_:=Ak (blk_below (g:=gb204) (o:=.cells #[.string a0_0,.string a0_1,.slice A0_2 l0_2.length c0_2,.slice A0_3 l0_3.length c0_3] 29 (0,0)) BK204.out hb);have n2_:=Ak (below_step HB.out hb);clear HO_5;clear BK204;clear HB;have HO_5:=n0_;have BK204:=n1_;have HB:=n2_;clear n0_ n1_ n2_;(try clear hb)))
           go_ret
           exact ⟨by rfl,by with_reducible exact HB.out⟩
end Go.Proofs.YtocpcnmnhckcpaaGreat.Prt
namespace Go.Proofs.YtocpcnmnhckcpaaGreat.Prt
open RowKit YtocpcnmnhckcpaaGreatW.PrintWords YtocpcnmnhckcpaaGreatW.PrintLast YtocpcnmnhckcpaaGreatW.PrintMore YtocpcnmnhckcpaaGreat.Num YtocpcnmnhckcpaaGreat.Nam
theorem drop_rdF (l:List S90) (i:Nat) (h:i < l.length):l.drop i=rd_T90 l (i:Int) :: l.drop (i+1):=by
 rw [List.drop_eq_getElem_cons h]
 unfold rd_T90
 rw [Int.toNat_natCast,List.getD_eq_getElem?_getD,List.getElem?_eq_getElem h];rfl
theorem rdF_mem {l:List S90} {i:Nat} (h:i < l.length):rd_T90 l (i:Int) ∈ l:=getD_mem' h _
theorem all_any {α:Type} (p:α→Bool) (l:List α):l.all p = !(l.any fun x=>!p x):=by
 induction l with
 | nil=>rfl
 | cons a r ih=>simp only [List.all_cons,List.any_cons,ih,Bool.not_or,Bool.not_not]
def endE (fit:Bool) (names tags:List ByteArray):Int:=if (tags.all tagB)=false then 5 else if riseB tags=false∨riseB names=false∨fit=false then 1 else 0
theorem may04_loop (s t:ByteArray) (tags:List ByteArray) (fl:List S90) (ht:tags.length≤9223372036854775807) (h3:fitS tags=true) (h4:∀ x ∈ fl,x.f0.size≤9223372036854775807) (h5:fl.length < 8796093022208) :
  ∀ (n i k:Nat) (acc:List ByteArray) (fit:Bool),i+n=fl.length→acc.length=i→n < k→q04_May.l0 k acc fit (i:Int) s t tags fl=some (if ((fl.drop i).any fun x=>!mayL (bytesOf x.f0))=true then 5 else endE (fit && !(fl.drop i).any overB) (acc++(fl.drop i).map (·.f0)) tags):=by
 intro n
 induction n with
 | zero=>
  intro i k acc fit hi ha hk
  obtain ⟨k,rfl⟩:∃ m,k=m+1:=⟨k - 1,by omega⟩
  have m1:q04_tagsG.f tags=some (tags.all tagB):=if_pos ⟨ht,h3⟩
  have m2:q04_RiseG.f tags=some (riseB tags):=if_pos ht
  have m3:q04_RiseG.f acc=some (riseB acc):=if_pos (by omega)
  rw [q04_May.l0,if_neg (by omega),m1,m2,m3,List.drop_eq_nil_of_le (by omega)]
  simp only [Option.bind_some,List.any_nil,List.map_nil,List.append_nil,Bool.not_false,Bool.and_true]
  unfold endE
  cases tags.all tagB <;> cases fit <;> cases riseB tags <;> cases riseB acc <;> rfl
 | succ n ih=>
  intro i k acc fit hi ha hk
  obtain ⟨k,rfl⟩:∃ m,k=m+1:=⟨k - 1,by omega⟩
  have m1:q03_MayG.f (rd_T90 fl (i:Int)).f0=some (mayL (bytesOf (rd_T90 fl (i:Int)).f0)):=if_pos (h4 _ (rdF_mem (by omega)))
  rw [q04_May.l0,if_pos (by omega),if_pos (by omega),m1,drop_rdF fl i (by omega),List.any_cons,List.any_cons,List.map_cons]
  simp only [Option.bind_some]
  generalize rd_T90 fl (i:Int)=x
  cases hm:mayL (bytesOf x.f0) with
  | false=>rfl
  | true=>
   rw [if_pos rfl,if_pos (by omega),succW i (by omega)]
   have e:∀ f2,q04_May.l0 k (acc++[x.f0]) f2 ((i+1:Nat):Int) s t tags fl=some (if ((fl.drop (i+1)).any fun x=>!mayL (bytesOf x.f0))=true then 5 else endE (f2 && !(fl.drop (i+1)).any overB) (acc++x.f0 :: (fl.drop (i+1)).map (·.f0)) tags):=by
    intro f2
    rw [ih (i+1) k _ f2 (by omega) (by simp [ha]) (by omega),List.append_assoc];rfl
   rw [e,e]
   simp only [Bool.not_true,Bool.false_or]
   cases fit with
   | false=>
    rw [if_neg (by decide)];rfl
   | true=>
    rw [if_pos rfl]
    by_cases h1:x.f1 ≥ -1099511627776
    ·rw [if_pos h1]
     have e2:overB x = !decide (x.f1≤1099511627776):=by
      unfold overB
      rw [Bool.eq_iff_iff];simp only [decide_eq_true_eq,Bool.not_eq_true',decide_eq_false_iff_not];omega
     rw [e2]
     cases decide (x.f1≤1099511627776) <;> simp
    ·rw [if_neg h1]
     have e2:overB x=true:=by unfold overB;exact decide_eq_true (by omega)
     rw [e2];simp
theorem mayE_val (s t:ByteArray) (tags:List ByteArray) (fl:List S90) (h1:mayL (bytesOf s)=true) (h2:mayL (bytesOf t)=true) (h3:¬6 < tags.length) (h4:¬4 < fl.length) :
  (if (fl.any fun x=>!mayL (bytesOf x.f0))=true then 5 else endE (!fl.any overB) (fl.map (·.f0)) tags)=mayE s t tags fl:=by
 have e0:mayE s t tags fl=if (tags.any fun s=>!tagB s)=true∨((fl.map (·.f0)).any fun s=>!mayL (bytesOf s))=true then 5 else if riseB tags=false∨riseB (fl.map (·.f0))=false∨fl.any overB=true then 1 else 0:=by
  unfold mayE
  rw [if_neg (by rw [h1,h2];simp),if_neg (by omega)]
 rw [e0]
 unfold endE
 rw [List.any_map,all_any]
 have e:(fl.any fun x=>!mayL (bytesOf x.f0))=fl.any ((fun s=>!mayL (bytesOf s)) ∘ fun x=>x.f0):=rfl
 rw [e]
 cases fl.any ((fun s=>!mayL (bytesOf s)) ∘ fun x=>x.f0) <;> cases (tags.any fun x=>!tagB x) <;> cases riseB tags <;> cases riseB (fl.map (·.f0)) <;> cases fl.any overB <;> simp
def q04_MayG.f (a0_0:ByteArray) (a0_1:ByteArray) (l0_2:List ByteArray) (l0_3:List (S90)):Option (Int):=if fitE a0_0 a0_1 l0_2 l0_3=true∧l0_2.length≤9223372036854775807 then some (mayE a0_0 a0_1 l0_2 l0_3) else none
theorem q04_MayG.val {a0_0 a0_1:ByteArray} {l0_2:List ByteArray} {l0_3:List (S90)} {r:Int} (h:q04_MayG.f a0_0 a0_1 l0_2 l0_3=some r):∃ k,q04_May.f k a0_0 a0_1 l0_2 l0_3=some r:=by
 unfold q04_MayG.f at h
 by_cases hc:fitE a0_0 a0_1 l0_2 l0_3=true∧l0_2.length≤9223372036854775807
 ·rw [if_pos hc] at h
  obtain rfl:=Option.some.inj h
  obtain ⟨h1,h2,h3,h4,h5⟩:=fitE_iff.1 hc.1
  have m1:q03_MayG.f a0_0=some (mayL (bytesOf a0_0)):=if_pos h1
  have m2:q03_MayG.f a0_1=some (mayL (bytesOf a0_1)):=if_pos h2
  refine ⟨l0_3.length+4,?_⟩
  unfold q04_May.f
  rw [m1,m2]
  simp only [Option.bind_some]
  cases q1:mayL (bytesOf a0_0) with
  | false=>
   rw [if_neg (by decide),q04_May.j0,if_pos rfl]
   unfold mayE;rw [if_pos (.inl q1)]
  | true=>
   rw [if_pos rfl,q04_May.j0]
   cases q2:mayL (bytesOf a0_1) with
   | false=>rw [if_pos (by decide)];unfold mayE;rw [if_pos (.inr q2)]
   | true=>
    rw [if_neg (by decide)]
    by_cases g1:6 < l0_2.length
    ·rw [if_pos (by omega),q04_May.j1,if_pos rfl]
     unfold mayE;rw [if_neg (by rw [q1,q2];simp),if_pos (.inl g1)]
    ·rw [if_neg (by omega),q04_May.j1]
     by_cases g2:4 < l0_3.length
     ·rw [if_pos (decide_eq_true (by omega))]
      unfold mayE;rw [if_neg (by rw [q1,q2];simp),if_pos (.inr g2)]
     ·rw [if_neg (by rw [decide_eq_true_iff];omega),show (0:Int)=((0:Nat):Int) from rfl,may04_loop a0_0 a0_1 l0_2 l0_3 hc.2 (fitS_iff.2 h3) h4 h5 l0_3.length 0 _ [] true (by omega) rfl (by omega),List.drop_zero,List.nil_append,Bool.true_and,mayE_val _ _ _ _ q1 q2 g1 g2]
 ·rw [if_neg hc] at h;cases h
theorem q04_MayG.calls (a0_0:ByteArray) (a0_1:ByteArray) (A0_2:Option Addr) (c0_2:Nat) (l0_2:List ByteArray) (A0_3:Option Addr) (c0_3:Nat) (l0_3:List (S90)) (r:Int) (w:World) (hr0_2:Kd.C Kd.string w A0_2 l0_2.length l0_2) (hc0_2:l0_2.length≤c0_2) (hr0_3:Kd.C k90 w A0_3 l0_3.length l0_3) (hc0_3:l0_3.length≤c0_3) (h:q04_MayG.f a0_0 a0_1 l0_2 l0_3=some r) :
  Calls Tryz.prog 60 #[.agg #[.string a0_0,.string a0_1,.slice A0_2 l0_2.length c0_2,.slice A0_3 l0_3.length c0_3]] w fun e w'=>e = .returned (.int .i64 r)∧Below w.heap.size w w':=by
 obtain ⟨k,hk⟩:=q04_MayG.val h
 exact q04_May.calls k a0_0 a0_1 A0_2 c0_2 l0_2 A0_3 c0_3 l0_3 r w hr0_2 hc0_2 hr0_3 hc0_3 hk
def eqF (x y:S90):Bool:=eqS x.f0 y.f0 && (x.f1 == y.f1)
theorem eqF_iff (x y:S90):eqF x y=true↔x=y:=by
 unfold eqF
 rw [Bool.and_eq_true,eqS_iff,beq_iff_eq]
 cases x;cases y;simp
def eqEv (s t:ByteArray) (a:List ByteArray) (f:List S90) (s' t':ByteArray) (a':List ByteArray) (f':List S90):Bool:=eqS s s' && eqS t t' && eqL eqS a a' && eqL eqF f f'
theorem eqEv_iff {s t:ByteArray} {a:List ByteArray} {f:List S90} {s' t':ByteArray} {a':List ByteArray} {f':List S90}:eqEv s t a f s' t' a' f'=true↔s=s'∧t=t'∧a=a'∧f=f':=by
 unfold eqEv
 simp only [Bool.and_eq_true,eqS_iff,eqL_iff eqS_iff,eqL_iff eqF_iff,and_assoc]
theorem same_loop (s t s' t':ByteArray) (a a':List ByteArray) (f f':List S90) (hl:f.length≤9223372036854775807) (hff:f.length=f'.length):∀ (n i k:Nat),i+n=f.length→n < k→q04_Same.l0 k (i:Int) s t a f s' t' a' f'=some (eqL eqF (f.drop i) (f'.drop i)):=by
 intro n
 induction n with
 | zero=>
  intro i k hi hk
  obtain ⟨k,rfl⟩:∃ m,k=m+1:=⟨k - 1,by omega⟩
  rw [q04_Same.l0,if_neg (by omega),List.drop_eq_nil_of_le (by omega),List.drop_eq_nil_of_le (by omega)];rfl
 | succ n ih=>
  intro i k hi hk
  obtain ⟨k,rfl⟩:∃ m,k=m+1:=⟨k - 1,by omega⟩
  rw [q04_Same.l0,if_pos (by omega),if_pos (by omega),if_pos (by omega),drop_rdF f i (by omega),drop_rdF f' i (by omega),eqL,succW i (by omega),ih (i+1) k (by omega) (by omega)]
  unfold eqF eqS
  cases ((rd_T90 f (i:Int)).f0.toList == (rd_T90 f' (i:Int)).f0.toList) <;> cases ((rd_T90 f (i:Int)).f1 == (rd_T90 f' (i:Int)).f1) <;> rfl
def q04_SameG.f (a0_0:ByteArray) (a0_1:ByteArray) (l0_2:List ByteArray) (l0_3:List (S90)) (a1_0:ByteArray) (a1_1:ByteArray) (l1_2:List ByteArray) (l1_3:List (S90)):Option (Bool):=
 if l0_2.length≤9223372036854775807∧l0_3.length≤9223372036854775807 then some (eqEv a0_0 a0_1 l0_2 l0_3 a1_0 a1_1 l1_2 l1_3) else none
theorem q04_SameG.val {a0_0 a0_1:ByteArray} {l0_2:List ByteArray} {l0_3:List (S90)} {a1_0 a1_1:ByteArray} {l1_2:List ByteArray} {l1_3:List (S90)} {r:Bool} (h:q04_SameG.f a0_0 a0_1 l0_2 l0_3 a1_0 a1_1 l1_2 l1_3=some r):∃ k,q04_Same.f k a0_0 a0_1 l0_2 l0_3 a1_0 a1_1 l1_2 l1_3=some r:=by
 unfold q04_SameG.f at h
 by_cases hc:l0_2.length≤9223372036854775807∧l0_3.length≤9223372036854775807
 ·rw [if_pos hc] at h
  obtain rfl:=Option.some.inj h
  have m1:q04_TextsG.f l0_2 l1_2=some (eqL eqS l0_2 l1_2):=if_pos hc.1
  have j0t:∀ k,q04_Same.j0 (k+1) true a0_0 a0_1 l0_2 l0_3 a1_0 a1_1 l1_2 l1_3=some false:=fun k=>by rw [q04_Same.j0,if_pos rfl]
  refine ⟨l0_3.length+3,?_⟩
  unfold q04_Same.f
  rw [m1]
  simp only [Option.bind_some]
  have e1:eqS a0_0 a1_0=decide (a0_0.toList=a1_0.toList):=by unfold eqS;rw [Bool.eq_iff_iff,beq_iff_eq,decide_eq_true_iff]
  have e2:eqS a0_1 a1_1=decide (a0_1.toList=a1_1.toList):=by unfold eqS;rw [Bool.eq_iff_iff,beq_iff_eq,decide_eq_true_iff]
  unfold eqEv
  rw [e1,e2]
  by_cases g1:a0_0.toList=a1_0.toList
  ·rw [if_pos g1,decide_eq_true g1]
   by_cases g2:a0_1.toList=a1_1.toList
   ·rw [if_pos g2,decide_eq_true g2]
    cases eqL eqS l0_2 l1_2 with
    | false=>rw [if_neg (by decide),j0t];rfl
    | true=>
     rw [if_pos rfl,q04_Same.j0]
     by_cases g3:l0_3.length=l1_3.length
     ·rw [if_neg (by rw [bne_iff_ne];omega)]
      have:=same_loop a0_0 a0_1 a1_0 a1_1 l0_2 l1_2 l0_3 l1_3 hc.2 g3 l0_3.length 0 (l0_3.length+2) (by omega) (by omega)
      rw [List.drop_zero,List.drop_zero] at this
      exact this
     ·rw [if_pos (by rw [bne_iff_ne];omega),eqL_len _ _ g3];rfl
   ·rw [if_neg g2,decide_eq_false g2,j0t,Bool.and_false];rfl
  ·rw [if_neg g1,decide_eq_false g1,j0t];rfl
 ·rw [if_neg hc] at h;cases h
theorem q04_SameG.calls (a0_0:ByteArray) (a0_1:ByteArray) (A0_2:Option Addr) (c0_2:Nat) (l0_2:List ByteArray) (A0_3:Option Addr) (c0_3:Nat) (l0_3:List (S90)) (a1_0:ByteArray) (a1_1:ByteArray) (A1_2:Option Addr) (c1_2:Nat) (l1_2:List ByteArray) (A1_3:Option Addr) (c1_3:Nat) (l1_3:List (S90)) (r:Bool) (w:World) (hr0_2:Kd.C Kd.string w A0_2 l0_2.length l0_2) (hc0_2:l0_2.length≤c0_2) (hr0_3:Kd.C k90 w A0_3 l0_3.length l0_3) (hc0_3:l0_3.length≤c0_3) (hr1_2:Kd.C Kd.string w A1_2 l1_2.length l1_2) (hc1_2:l1_2.length≤c1_2) (hr1_3:Kd.C k90 w A1_3 l1_3.length l1_3) (hc1_3:l1_3.length≤c1_3) (h:q04_SameG.f a0_0 a0_1 l0_2 l0_3 a1_0 a1_1 l1_2 l1_3=some r) :
  Calls Tryz.prog 27 #[.agg #[.string a0_0,.string a0_1,.slice A0_2 l0_2.length c0_2,.slice A0_3 l0_3.length c0_3],.agg #[.string a1_0,.string a1_1,.slice A1_2 l1_2.length c1_2,.slice A1_3 l1_3.length c1_3]] w fun e w'=>e = .returned (.bool r)∧Below w.heap.size w w':=by
 obtain ⟨k,hk⟩:=q04_SameG.val h
 exact q04_Same.calls k a0_0 a0_1 A0_2 c0_2 l0_2 A0_3 c0_3 l0_3 a1_0 a1_1 A1_2 c1_2 l1_2 A1_3 c1_3 l1_3 r w hr0_2 hc0_2 hr0_3 hc0_3 hr1_2 hc1_2 hr1_3 hc1_3 hk
end Go.Proofs.YtocpcnmnhckcpaaGreat.Prt
