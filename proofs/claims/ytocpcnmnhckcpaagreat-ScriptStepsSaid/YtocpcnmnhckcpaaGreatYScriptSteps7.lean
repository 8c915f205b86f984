/- Arguments that are steps, opened. Steps that came in: their sizes. The law ScriptSteps: its walk. -/
import Derived.Test.YtocpcnmnhckcpaaGreatYScriptSteps1
import Derived.Test.YtocpcnmnhckcpaaGreatYScriptSteps2
import Derived.Test.YtocpcnmnhckcpaaGreatYScriptSteps3
import Derived.Test.YtocpcnmnhckcpaaGreatYScriptSteps4
import Derived.Test.YtocpcnmnhckcpaaGreatYScriptSteps5
import Derived.Test.YtocpcnmnhckcpaaGreatYScriptSteps6
set_option linter.unusedVariables false
set_option linter.unusedSimpArgs false
namespace Go.Proofs.YtocpcnmnhckcpaaGreat.Gen
open RowKit YtocpcnmnhckcpaaGreatW.PrintWords YtocpcnmnhckcpaaGreatW.PrintLast YtocpcnmnhckcpaaGreatW.PrintMore YtocpcnmnhckcpaaGreat.Prt
def OkInS (x:S34):Prop:=(Lit.int .i64 x.f0).wf=true∧(Lit.int .i64 x.f1).wf=true∧(Lit.int .i64 x.f2).wf=true∧(Lit.int .i64 x.f3).wf=true∧x.f4.size≤maxLen∧(x.f5.f0.size≤maxLen∧x.f5.f1.size≤maxLen∧(∀ z ∈ x.f5.f2,z.size≤maxLen)∧(∀ z ∈ x.f5.f3,z.f0.size≤maxLen∧(Lit.int .i64 z.f1).wf=true))∧OkInQ x.f6.f0
theorem opens_step0:Opens Tryz.prog 34 k34 (fun x=>(Lit.int .i64 x.f0).wf=true∧(Lit.int .i64 x.f1).wf=true∧(Lit.int .i64 x.f2).wf=true∧(Lit.int .i64 x.f3).wf=true∧x.f4.size≤maxLen∧(x.f5.f0.size≤maxLen∧x.f5.f1.size≤maxLen∧(∀ z ∈ x.f5.f2,z.size≤maxLen)∧(∀ z ∈ x.f5.f3,z.f0.size≤maxLen∧(Lit.int .i64 z.f1).wf=true))∧OkInQ x.f6.f0):=by
 intro H enc w base spare held fuel cs y h
 obtain ⟨xs,n,_,_,hl,hlen,hf⟩:=DataW.trod_struct Tryz.underlying34 h
 rw [show Tryz.prog.cellsOf 34=10 from by kernel_rfl] at hl
 have hlen':xs.length=7:=hlen
 have h0:=hf 0 _ rfl
 rw [List.getElem?_eq_getElem (l:=xs) (i:=0) (by omega)] at h0
 replace h0:DataW.trod enc Tryz.prog w base spare held n 3 ((cs.drop 0).take (Tryz.prog.cellsOf 3))=some xs[0]:=h0
 rw [show Tryz.prog.cellsOf 3=1 from by kernel_rfl] at h0
 obtain ⟨x0,K0,o0⟩:=opens_i64 enc w base spare held n _ _ h0
 have h1:=hf 1 _ rfl
 rw [List.getElem?_eq_getElem (l:=xs) (i:=1) (by omega)] at h1
 replace h1:DataW.trod enc Tryz.prog w base spare held n 3 ((cs.drop 1).take (Tryz.prog.cellsOf 3))=some xs[1]:=h1
 rw [show Tryz.prog.cellsOf 3=1 from by kernel_rfl] at h1
 obtain ⟨x1,K1,o1⟩:=opens_i64 enc w base spare held n _ _ h1
 have h2:=hf 2 _ rfl
 rw [List.getElem?_eq_getElem (l:=xs) (i:=2) (by omega)] at h2
 replace h2:DataW.trod enc Tryz.prog w base spare held n 3 ((cs.drop 2).take (Tryz.prog.cellsOf 3))=some xs[2]:=h2
 rw [show Tryz.prog.cellsOf 3=1 from by kernel_rfl] at h2
 obtain ⟨x2,K2,o2⟩:=opens_i64 enc w base spare held n _ _ h2
 have h3:=hf 3 _ rfl
 rw [List.getElem?_eq_getElem (l:=xs) (i:=3) (by omega)] at h3
 replace h3:DataW.trod enc Tryz.prog w base spare held n 3 ((cs.drop 3).take (Tryz.prog.cellsOf 3))=some xs[3]:=h3
 rw [show Tryz.prog.cellsOf 3=1 from by kernel_rfl] at h3
 obtain ⟨x3,K3,o3⟩:=opens_i64 enc w base spare held n _ _ h3
 have h4:=hf 4 _ rfl
 rw [List.getElem?_eq_getElem (l:=xs) (i:=4) (by omega)] at h4
 replace h4:DataW.trod enc Tryz.prog w base spare held n 9 ((cs.drop 4).take (Tryz.prog.cellsOf 9))=some xs[4]:=h4
 rw [show Tryz.prog.cellsOf 9=1 from by kernel_rfl] at h4
 obtain ⟨x4,K4,o4⟩:=opens_str enc w base spare held n _ _ h4
 have h5:=hf 5 _ rfl
 rw [List.getElem?_eq_getElem (l:=xs) (i:=5) (by omega)] at h5
 replace h5:DataW.trod enc Tryz.prog w base spare held n 29 ((cs.drop 5).take (Tryz.prog.cellsOf 29))=some xs[5]:=h5
 rw [show Tryz.prog.cellsOf 29=4 from by kernel_rfl] at h5
 obtain ⟨x5,K5,o5⟩:=opens_event enc w base spare held n _ _ h5
 have h6:=hf 6 _ rfl
 rw [List.getElem?_eq_getElem (l:=xs) (i:=6) (by omega)] at h6
 replace h6:DataW.trod enc Tryz.prog w base spare held n 32 ((cs.drop 9).take (Tryz.prog.cellsOf 32))=some xs[6]:=h6
 rw [show Tryz.prog.cellsOf 32=1 from by kernel_rfl] at h6
 obtain ⟨x6,K6,o6⟩:=opens_query enc w base spare held n _ _ h6
 have e:cs=(cs.drop 0).take 1++((cs.drop 1).take 1++((cs.drop 2).take 1++((cs.drop 3).take 1++((cs.drop 4).take 1++((cs.drop 5).take 4++((cs.drop 9).take 1)))))):=by
  have g0:cs.drop 0=(cs.drop 0).take 1++cs.drop 1:=by rw [show cs.drop 1=(cs.drop 0).drop 1 from by rw [List.drop_drop],List.take_append_drop]
  have g1:cs.drop 1=(cs.drop 1).take 1++cs.drop 2:=by rw [show cs.drop 2=(cs.drop 1).drop 1 from by rw [List.drop_drop],List.take_append_drop]
  have g2:cs.drop 2=(cs.drop 2).take 1++cs.drop 3:=by rw [show cs.drop 3=(cs.drop 2).drop 1 from by rw [List.drop_drop],List.take_append_drop]
  have g3:cs.drop 3=(cs.drop 3).take 1++cs.drop 4:=by rw [show cs.drop 4=(cs.drop 3).drop 1 from by rw [List.drop_drop],List.take_append_drop]
  have g4:cs.drop 4=(cs.drop 4).take 1++cs.drop 5:=by rw [show cs.drop 5=(cs.drop 4).drop 1 from by rw [List.drop_drop],List.take_append_drop]
  have g5:cs.drop 5=(cs.drop 5).take 4++cs.drop 9:=by rw [show cs.drop 9=(cs.drop 5).drop 4 from by rw [List.drop_drop],List.take_append_drop]
  have g6:cs.drop 9=(cs.drop 9).take 1++cs.drop 10:=by rw [show cs.drop 10=(cs.drop 9).drop 1 from by rw [List.drop_drop],List.take_append_drop]
  have z:cs.drop 10=[]:=List.drop_eq_nil_of_le (by omega)
  rw [z,List.append_nil] at g6
  calc cs=cs.drop 0:=rfl
   _=(cs.drop 0).take 1++((cs.drop 1).take 1++((cs.drop 2).take 1++((cs.drop 3).take 1++((cs.drop 4).take 1++((cs.drop 5).take 4++((cs.drop 9).take 1)))))):=by rw [←g6,←g5,←g4,←g3,←g2,←g1];exact g0
 refine ⟨⟨x0,x1,x2,x3,x4,x5,x6⟩,?_,o0,o1,o2,o3,o4,o5,o6⟩
 rw [e]
 exact ⟨_,_,rfl,K0,⟨_,_,rfl,K1,⟨_,_,rfl,K2,⟨_,_,rfl,K3,⟨_,_,rfl,K4,⟨_,_,rfl,K5,K6⟩⟩⟩⟩⟩⟩
theorem opens_step:Opens Tryz.prog 34 k34 OkInS:=opens_step0
theorem opens_steps:Opens Tryz.prog 22 (Kd.slice 34 k34) (fun l=>∀ x ∈ l,OkInS x):=opens_slice Tryz.underlying22 (by kernel_rfl) opens_step
end Go.Proofs.YtocpcnmnhckcpaaGreat.Gen
namespace Go.Proofs.YtocpcnmnhckcpaaGreat.Prt
open RowKit YtocpcnmnhckcpaaGreatW.PrintWords YtocpcnmnhckcpaaGreatW.PrintLast YtocpcnmnhckcpaaGreatW.PrintMore YtocpcnmnhckcpaaGreat.Num YtocpcnmnhckcpaaGreat.Nam
theorem i64_wf {x:Int} (h:(Lit.int .i64 x).wf=true):i64 x:=by
 show -9223372036854775808≤x∧x≤9223372036854775807
 simp [Lit.wf,IntKind.min,IntKind.max,IntKind.bits,IntKind.signed] at h
 omega
theorem inS_of {x:S34} (h:Gen.OkInS x):InS x:=by
 obtain ⟨h0,h1,h2,h3,h4,⟨e0,e1,e2,e3⟩,hq⟩:=h
 exact ⟨i64_wf h0,i64_wf h1,i64_wf h2,i64_wf h3,e0,e1,e2,fun z hz=>(e3 z hz).1,hq⟩
theorem isBytes_wf22 {l:List Int} (h:∀ n ∈ l,(Lit.int .u8 n).wf=true):isBytes l:=by
 intro c hc
 have h1:=h c hc
 simp [Lit.wf,IntKind.min,IntKind.max,IntKind.bits,IntKind.signed] at h1
 omega
theorem okS_lens {t:S34} (h:OkS t):LenS t:=by
 have hv:t.f5.f2.length≤1000000∧t.f5.f3.length≤1000000:=by
  by_cases h0:noV t.f5=true
  ·rw [(noV_iff t.f5).1 h0];exact ⟨Nat.zero_le _,Nat.zero_le _⟩
  ·have he:=mayV_ok h.hv h0
   exact ⟨Nat.le_trans he.ht6 (by decide),Nat.le_trans he.hf4 (by decide)⟩
 by_cases h0:t.f6.f0.length=0
 ·have e:=List.eq_nil_of_length_eq_zero h0
  exact ⟨hv.1,hv.2,by rw [h0];exact Nat.zero_le _,by rw [e];rfl⟩
 ·have hq:=mayW_ok h.hq h0
  refine ⟨hv.1,hv.2,Nat.le_trans hq.h4 (by decide),List.all_eq_true.2 fun x hx=>?_⟩
  have h1:=(hq.hc x hx).h0
  have h2:=(hq.hc x hx).h1
  unfold lenC
  rw [Bool.and_eq_true,decide_eq_true_iff,decide_eq_true_iff];omega
theorem takeS_lens {l:List Int} (hb:isBytes l) (hl:l.length≤1000000000) {x:S34} {xe:Int} (h:takeS l=(x,xe)):∀ t ∈ [x],LenS t:=fun t ht=>by
 rw [List.mem_singleton.1 ht]
 rcases takeS_code l with hc | ⟨u,hu⟩
 ·rw [hc] at h
  simp only [Prod.mk.injEq] at h
  rw [←h.1]
  exact ⟨Nat.zero_le _,Nat.zero_le _,Nat.zero_le _,rfl⟩
 ·rw [hu] at h
  simp only [Prod.mk.injEq] at h
  rw [←h.1]
  exact okS_lens (takeS_good hb (by omega) hu).1
set_option maxRecDepth 100000 in
set_option maxHeartbeats 8000000 in
theorem scriptSteps_walk (A0:Option Addr) (c0:Nat) (l:List S34) (A1:Option Addr) (len1 cap1:Nat) (z1:List Int) (w:World) (hC:Kd.C k34 w A0 l.length l) (hc:l.length≤c0) (hi:∀ x ∈ l,InS x) (w1:(A1=none∧len1=0∧cap1=0∧z1=[])∨∃ x,A1=some x∧len1≤cap1∧cap1≤maxLen∧z1.length=cap1∧(∀ i,i < z1.length→w.cell? (x.add i)=some (.int .u8 (z1.getD i 0)))∧∀ n ∈ z1,(Lit.int .u8 n).wf=true) (y1:len1 * 1≤140737488351232) :
  Calls Tryz.prog 3 #[.slice A0 l.length c0,.slice A1 len1 cap1] w fun e w'=>e = .returned (.bool true)∧Below w.heap.size w w':=by
 obtain ⟨l1,rfl,hr,hm1,hw,hc1⟩:=ReadsInt.ofRowC w1
 have hC:=Kd.C_of_reads (d:=(0:Int)) (h1:=fun _=>rfl) hr
 have HR1:=Ak hC
 have HBY1:=Ak (isBytes_wf22 hw)
 clear w1 hr hw hC
 clear y1
 have HC:=Ak (And.intro hc hC)
 have HI:=Ak (fun t ht=>fewL_fit hi (t:=t) ht)
 have hfl:=fewL_len l
 have hu34:=Tryz.underlying34
 clear hC hc hi
 go_enter Tryz.func3,Tryz.ntmps3
 go_wp2_with fail
 refine (shown_calls22 w).mono ?_
 rintro e w1 ⟨rfl,hb⟩
 have HB1:=Ak hb
 clear hb
 go_wp2_with fail
 refine (few_calls22 A0 c0 l w1 (Kd.C_below HC.out.2 HB1.out) HC.out.1).mono ?_
 rintro e w2 ⟨Af,cf,rfl,hcf,hCf,hb⟩
 obtain ⟨F,hF⟩:∃ F,F=fewL l:=⟨_,rfl⟩
 rw [←hF] at hcf hCf HI hfl ⊢
 have HF:=Ak (And.intro hcf hCf)
 have HB2:=Ak (below_step HB1.out hb)
 clear hcf hCf hb HB1 HC hF
 go_upto_if 25 with (fail)
 obtain ⟨n1,hn⟩:∃ n,n=min 600 l1.length:=⟨_,rfl⟩
 have hna1:n1≤600:=by omega
 have hnb1:n1≤l1.length:=by omega
 go_cut [1] (fun vc wc=>vc = .slice A1 n1 cap1∧w2=wc)
 case first=>
  by_cases hb_:600 < l1.length
  ·have e:n1=600:=by omega
   subst e
   clear hn
   go_wp2
   go_meet
   case rel=>exact ⟨rfl,rfl⟩
  ·have e:n1=l1.length:=by omega
   subst e
   clear hn
   go_wp2
   go_meet
   case rel=>exact ⟨rfl,rfl⟩
 case rest=>
 obtain ⟨rfl,rfl⟩:=hcut
 have hcap1:n1≤cap1:=by omega
 obtain ⟨lb,hlb⟩:∃ lb,lb=l1.take n1:=⟨_,rfl⟩
 have hlen:lb.length=n1:=by rw [hlb,List.length_take];omega
 have HLB1:=Ak (show (Kd.int .u8).C w A1 lb.length lb by rw [hlen,hlb];exact take_C HR1.out hnb1)
 have HBZ1:=Ak (show isBytes lb by rw [hlb];exact isBytes_take HBY1.out n1)
 clear hlb hn HR1 HBY1
 subst hlen
 have HLB2:=Ak (Kd.C_below HLB1.out HB2.out)
 have HL:=Ak (Below.refl w2.heap.size w2)
 obtain ⟨⟨x,xe⟩,hx⟩:∃ q,takeS lb=q:=⟨_,rfl⟩
 have HX:=Ak hx
 have HXL:=Ak (takeS_lens HBZ1.out (by omega) hx)
 clear hx
 go_wp2_with (first | ((with_reducible refine gate_dst (N:=29) rfl ?_);refine Kd.R_lit (Kd.int .u8) (w0:=w2) w2.heap.size 5 ?hg (N:=29) ?hd (xs:=[]) (inner:=[]) (ok:=fun _=>True) (okp:=fun _=>True) ?hr ?hp (fun _ hk=>hk) trivial ?hB ?hS (by simp) ?_;(case hd=>rfl);(case hg=>rfl);(case hr=>(go_simp;done));(case hp=>exact (Reps.none _ _));(case hB=>exact HL.out);(case hS=>exact (below_size HL.out));intro v7 w7 ho hb hg hat;have n0_:=Ak (hb);have n1_:=Ak (ho);clear HL;have HL:=n0_;have HO7:=n1_;clear n0_ n1_;clear ho hb hg hat) | ((with_reducible refine gate_builtin (b:=.append) (xs:=#[.tmp 29,.tmp 30]) rfl ?_);at_builtin;refine Kd.R_append_rows (Kd.int .u8) (w0:=w2) w2.heap.size rfl (.tmp 29) (.tmp 30) 23 5 (.int .u8 0) 1 rfl Tryz.underlying23 info_u8 rfl (by decide) (by omega) v7 [] lb _ _ _ (fun _=>True) (fun _=>False) rfl rfl ?aO ?aR (fun _ _ h=>h) (fun _ h=>h.elim) ?aF ?aB ?aS ?aL ?_;(case aR=>exact (by repeat (exact (Kd.C_below HLB2.out HL.out))));(case aB=>exact HL.out);(case aF=>exact (fun _ _=>trivial));(case aO=>exact HO7.out);(case aS=>exact (below_size HL.out));(case aL=>simp only [List.length_nil];omega);intro v8 w8 ho hb hg hat;have n0_:=Ak (hb);have n1_:=Ak (ho);clear HL;clear HO7;have HL:=n0_;have HO8:=n1_;clear n0_ n1_;clear ho hb hg hat;obtain ⟨A4,c4,e4,hc4,hC4⟩:=Kd.R_reads HO8.out;subst e4;have HC4:=Ak (by rw [List.nil_append] at hC4;exact hC4:Kd.C (Kd.int .u8) w8 A4 lb.length lb);have HK4:=Ak (by rw [List.nil_append] at hc4;exact hc4:lb.length≤c4);clear hC4 hc4;try rw [List.nil_append]))
 have HB8:=Ak (below_then HB2.out HB2.out.size (HL.out:Below w2.heap.size w2 w8))
 have HBL8:=Ak (HL.out:Below w2.heap.size w2 w8)
 refine (take_calls22 A4 c4 lb w8 HC4.out HK4.out HBZ1.out (by omega) x xe HX.out).mono ?_
 rintro e w9 ⟨v7_,v8_,v9_,rfl,h7,h8,h9,hb⟩
 obtain ⟨A7,c7,rfl⟩:=Kd.R_slice h7
 obtain ⟨A8,c8,rfl⟩:=Kd.R_slice h8
 obtain ⟨A9,c9,rfl⟩:=Kd.S_slice h9
 have H7:=Ak h7
 have H8:=Ak h8
 have H9:=Ak h9
 have HB9:=Ak (below_step HB8.out hb)
 have HF9:=Ak (Kd.C_below (Kd.C_below HF.out.2 HBL8.out) hb)
 clear h7 h8 h9 hb HL HO8 HC4 HK4 HB8 HBL8
 go_upto_region 6 with (((with_reducible refine gate_dst (N:=6) rfl ?_);(try (refine gate_guard (by rfl) ?_;dsimp only));refine box_event ?hg (N:=6) ?hd (cs:=#[.int .i64 0,.int .i64 0,.int .i64 0,.int .i64 0,.string ⟨#[]⟩,.string ⟨#[]⟩,.string ⟨#[]⟩,.slice none 0 0,.slice none 0 0,.slice none 0 0]) (t:=34) ?hr ?_;(case hd=>rfl);(case hg=>rfl);(case hr=>(go_simp;done));intro X hg_ wa hbox_ hb_;have HBX:=Ak hbox_;have HXN:=Ak hg_;have HXB:=Ak hb_;clear hbox_ hg_ hb_;obtain ⟨hc0,hc1,hc2,hc3,hc4,hc5,hc6,hc7,hc8,hc9⟩:=cl10 HBX.out;obtain ⟨hf0,hf1,hf2,hf3,hf4,hf5,hf6,hf7,hf8,hf9⟩:=fr10 HBX.out))
 have HX5:=Ak (bp10 HBX.out (.int .i64 x.f0) (.int .i64 x.f1) (.int .i64 x.f2) (.int .i64 x.f3) (.string x.f4) (.string x.f5.f0) (.string x.f5.f1) (.slice A7 x.f5.f2.length c7) (.slice A8 x.f5.f3.length c8) (.slice A9 x.f6.f0.length c9))
 have HXB5:=Ak (bb10 HXB.out (Nat.le_of_eq HXN.out.symm) (.int .i64 x.f0) (.int .i64 x.f1) (.int .i64 x.f2) (.int .i64 x.f3) (.string x.f4) (.string x.f5.f0) (.string x.f5.f1) (.slice A7 x.f5.f2.length c7) (.slice A8 x.f5.f3.length c8) (.slice A9 x.f6.f0.length c9))
 clear HBX HXN HXB hc0 hf0 hc1 hf1 hc2 hf2 hc3 hf3 hc4 hf4 hc5 hf5 hc6 hf6 hc7 hf7 hc8 hf8 hc9 hf9
 generalize ((((((((((wa.setCell ⟨X,0,none⟩ (.int .i64 x.f0)).setCell ⟨X,1,none⟩ (.int .i64 x.f1)).setCell ⟨X,2,none⟩ (.int .i64 x.f2)).setCell ⟨X,3,none⟩ (.int .i64 x.f3)).setCell ⟨X,4,none⟩ (.string x.f4)).setCell ⟨X,5,none⟩ (.string x.f5.f0)).setCell ⟨X,6,none⟩ (.string x.f5.f1)).setCell ⟨X,7,none⟩ (.slice A7 x.f5.f2.length c7)).setCell ⟨X,8,none⟩ (.slice A8 x.f5.f3.length c8)).setCell ⟨X,9,none⟩ (.slice A9 x.f6.f0.length c9))=wb at *
 have H7b:=Ak (Kd.R_below H7.out HXB5.out)
 have H8b:=Ak (Kd.R_below H8.out HXB5.out)
 have H9b:=Ak (Kd.S_below H9.out HXB5.out)
 have HBb:=Ak (below_step HB9.out HXB5.out)
 have HFb:=Ak (Kd.C_below HF9.out HXB5.out)
 have HLBb:=Ak (Kd.C_below HLB1.out HBb.out)
 clear H7 H8 H9 HB9 HF9 HXB5 HLB2
 go_wp2_with fail
 refine (refTake_calls22 A1 cap1 lb wb HLBb.out (by omega) HBZ1.out (by omega) x xe HX.out).mono ?_
 rintro e wc ⟨v7_,v8_,v9_,rfl,h7,h8,h9,hb⟩
 obtain ⟨B7,d7,rfl⟩:=Kd.R_slice h7
 obtain ⟨B8,d8,rfl⟩:=Kd.R_slice h8
 obtain ⟨B9,d9,rfl⟩:=Kd.S_slice h9
 have G7:=Ak h7
 have G8:=Ak h8
 have G9:=Ak h9
 have H7c:=Ak (Kd.R_below H7b.out hb)
 have H8c:=Ak (Kd.R_below H8b.out hb)
 have H9c:=Ak (Kd.S_below H9b.out hb)
 have HBc:=Ak (below_step HBb.out hb)
 have HFc:=Ak (Kd.C_below HFb.out hb)
 have HXc:=Ak (blk_below HX5.out hb)
 clear h7 h8 h9 hb H7b H8b H9b HBb HFb HX5 HLBb HLB1
 go_upto_region 7 with (((with_reducible refine gate_dst (N:=8) rfl ?_);(try (refine gate_guard (by rfl) ?_;dsimp only));refine box_event ?hg (N:=8) ?hd (cs:=#[.int .i64 0,.int .i64 0,.int .i64 0,.int .i64 0,.string ⟨#[]⟩,.string ⟨#[]⟩,.string ⟨#[]⟩,.slice none 0 0,.slice none 0 0,.slice none 0 0]) (t:=34) ?hr ?_;(case hd=>rfl);(case hg=>rfl);(case hr=>(go_simp;done));intro Y hg_ wd hbox_ hb_;have HBX:=Ak hbox_;have HXN:=Ak hg_;have HXB:=Ak hb_;clear hbox_ hg_ hb_;obtain ⟨hc0,hc1,hc2,hc3,hc4,hc5,hc6,hc7,hc8,hc9⟩:=cl10 HBX.out;obtain ⟨hf0,hf1,hf2,hf3,hf4,hf5,hf6,hf7,hf8,hf9⟩:=fr10 HBX.out))
 have HY5:=Ak (bp10 HBX.out (.int .i64 x.f0) (.int .i64 x.f1) (.int .i64 x.f2) (.int .i64 x.f3) (.string x.f4) (.string x.f5.f0) (.string x.f5.f1) (.slice B7 x.f5.f2.length d7) (.slice B8 x.f5.f3.length d8) (.slice B9 x.f6.f0.length d9))
 have HXB5:=Ak (bb10 HXB.out (Nat.le_of_eq HXN.out.symm) (.int .i64 x.f0) (.int .i64 x.f1) (.int .i64 x.f2) (.int .i64 x.f3) (.string x.f4) (.string x.f5.f0) (.string x.f5.f1) (.slice B7 x.f5.f2.length d7) (.slice B8 x.f5.f3.length d8) (.slice B9 x.f6.f0.length d9))
 clear HBX HXN HXB hc0 hf0 hc1 hf1 hc2 hf2 hc3 hf3 hc4 hf4 hc5 hf5 hc6 hf6 hc7 hf7 hc8 hf8 hc9 hf9
 generalize ((((((((((wd.setCell ⟨Y,0,none⟩ (.int .i64 x.f0)).setCell ⟨Y,1,none⟩ (.int .i64 x.f1)).setCell ⟨Y,2,none⟩ (.int .i64 x.f2)).setCell ⟨Y,3,none⟩ (.int .i64 x.f3)).setCell ⟨Y,4,none⟩ (.string x.f4)).setCell ⟨Y,5,none⟩ (.string x.f5.f0)).setCell ⟨Y,6,none⟩ (.string x.f5.f1)).setCell ⟨Y,7,none⟩ (.slice B7 x.f5.f2.length d7)).setCell ⟨Y,8,none⟩ (.slice B8 x.f5.f3.length d8)).setCell ⟨Y,9,none⟩ (.slice B9 x.f6.f0.length d9))=we at *
 have G7e:=Ak (Kd.R_below G7.out HXB5.out)
 have G8e:=Ak (Kd.R_below G8.out HXB5.out)
 have G9e:=Ak (Kd.S_below G9.out HXB5.out)
 have H7e:=Ak (Kd.R_below H7c.out HXB5.out)
 have H8e:=Ak (Kd.R_below H8c.out HXB5.out)
 have H9e:=Ak (Kd.S_below H9c.out HXB5.out)
 have HBe:=Ak (below_step HBc.out HXB5.out)
 have HFe:=Ak (Kd.C_below HFc.out HXB5.out)
 have HXe:=Ak (blk_below HXc.out HXB5.out)
 have HFX:Aside0 (Kd.FK k34 we (fun _=>True) x [.int .i64 x.f0,.int .i64 x.f1,.int .i64 x.f2,.int .i64 x.f3,.string x.f4,.string x.f5.f0,.string x.f5.f1,.slice A7 x.f5.f2.length c7,.slice A8 x.f5.f3.length c8,.slice A9 x.f6.f0.length c9]):=⟨Kd.FK_mono (Kd.FK_of_M (k34_mkM we _ (fun _=>True) x H7e.out H8e.out (Kd.S_R H9e.out))) (fun _ _=>trivial)⟩
 clear G7 G8 G9 H7c H8c H9c HBc HFc HXc HXB5 H7e H8e H9e
 have hx0:=blk_cell HXe.out 0
 have hy0:=blk_cell HY5.out 0
 have hx1:=blk_cell HXe.out 1
 have hy1:=blk_cell HY5.out 1
 have hx2:=blk_cell HXe.out 2
 have hy2:=blk_cell HY5.out 2
 have hx3:=blk_cell HXe.out 3
 have hy3:=blk_cell HY5.out 3
 have hx4:=blk_cell HXe.out 4
 have hy4:=blk_cell HY5.out 4
 have hx5:=blk_cell HXe.out 5
 have hy5:=blk_cell HY5.out 5
 have hx6:=blk_cell HXe.out 6
 have hy6:=blk_cell HY5.out 6
 have hx7:=blk_cell HXe.out 7
 have hy7:=blk_cell HY5.out 7
 have hx8:=blk_cell HXe.out 8
 have hy8:=blk_cell HY5.out 8
 have hx9:=blk_cell HXe.out 9
 have hy9:=blk_cell HY5.out 9
 go_wp2_with (first | ((with_reducible refine gate_dst (N:=41) rfl ?_);refine Kd.N_lit k34 (w0:=we) we.heap.size 34 ?hg (N':=41) ?hd (xs:=[x]) (inner:=[.int .i64 x.f0,.int .i64 x.f1,.int .i64 x.f2,.int .i64 x.f3,.string x.f4,.string x.f5.f0,.string x.f5.f1,.slice A7 x.f5.f2.length c7,.slice A8 x.f5.f3.length c8,.slice A9 x.f6.f0.length c9]) (ok:=fun _=>True) (okp:=fun _=>True) ?hr ?hp (fun _ _=>trivial) trivial (Below.refl _ _) (Nat.le_refl _) (by simp) ?_;(case hd=>rfl);(case hg=>rfl);(case hr=>(go_simp;done));(case hp=>exact Reps.snoc (Reps.none _ _) HFX.out rfl);intro v41_ w41_ ho hb hg hat;obtain ⟨A41_,c41_,e_,hc_,hC_⟩:=Kd.N_reads ho;subst e_;have HN41:=Ak (And.intro hc_ hC_);have HBL41:=Ak hb;clear ho hb hg hat hc_ hC_;replace hy0:=pw_cell_below HBL41.out hy0;replace hy1:=pw_cell_below HBL41.out hy1;replace hy2:=pw_cell_below HBL41.out hy2;replace hy3:=pw_cell_below HBL41.out hy3;replace hy4:=pw_cell_below HBL41.out hy4;replace hy5:=pw_cell_below HBL41.out hy5;replace hy6:=pw_cell_below HBL41.out hy6;replace hy7:=pw_cell_below HBL41.out hy7;replace hy8:=pw_cell_below HBL41.out hy8;replace hy9:=pw_cell_below HBL41.out hy9) | ((with_reducible refine gate_dst (N:=43) rfl ?_);refine Kd.N_lit k34 (w0:=w41_) w41_.heap.size 34 ?hg (N':=43) ?hd (xs:=[x]) (inner:=[.int .i64 x.f0,.int .i64 x.f1,.int .i64 x.f2,.int .i64 x.f3,.string x.f4,.string x.f5.f0,.string x.f5.f1,.slice B7 x.f5.f2.length d7,.slice B8 x.f5.f3.length d8,.slice B9 x.f6.f0.length d9]) (ok:=fun _=>True) (okp:=fun _=>True) ?hr ?hp (fun _ _=>trivial) trivial (Below.refl _ _) (Nat.le_refl _) (by simp) ?_;(case hd=>rfl);(case hg=>rfl);(case hr=>(go_simp;done));(case hp=>exact Reps.snoc (Reps.none _ _) (Kd.FK_mono (Kd.FK_of_M (k34_mkM w41_ _ (fun _=>True) x (Kd.R_below G7e.out HBL41.out) (Kd.R_below G8e.out HBL41.out) (Kd.S_R (Kd.S_below G9e.out HBL41.out)))) (fun _ _=>trivial)) rfl);intro v43_ w43_ ho hb hg hat;obtain ⟨A43_,c43_,e_,hc_,hC_⟩:=Kd.N_reads ho;subst e_;have HN43:=Ak (And.intro hc_ hC_);have HBL43:=Ak hb;clear ho hb hg hat hc_ hC_))
 have HB43:=Ak (below_step (below_step HBe.out HBL41.out) HBL43.out)
 have HF43:=Ak (Kd.C_below (Kd.C_below HFe.out HBL41.out) HBL43.out)
 clear hx0 hx1 hx2 hx3 hx4 hx5 hx6 hx7 hx8 hx9 hy0 hy1 hy2 hy3 hy4 hy5 hy6 hy7 hy8 hy9 HXe HY5 G7e G8e G9e HFX
 refine (same_calls22 A41_ c41_ [x] A43_ c43_ [x] w43_ (Kd.C_below HN41.out.2 HBL43.out) HN41.out.1 HN43.out.2 HN43.out.1 HXL.out true (eqT_self [x])).mono ?_
 rintro e ws ⟨rfl,hb⟩
 have HBs:=Ak (below_step HB43.out hb)
 have HFs:=Ak (And.intro HF.out.1 (Kd.C_below HF43.out hb))
 clear hb HN41 HN43 HBL41 HBL43 HB43 HF43 HBe HFe HF
 go_wp2_with fail
 go_loopg [11] F.length (fun gk v11 w'=>∃ i:Nat,v11 = .int .i64 (i:Int)∧Aside0 (i+gk=F.length)∧Aside0 (Below ws.heap.size ws w'))
 case atStart=>exact ⟨0,rfl,⟨by omega⟩,⟨by repeat (exact Below.refl _ _)⟩⟩
 case round=>
  obtain ⟨i,rfl,HE,HBR⟩:=hrel
  have HBW:=Ak (below_step HBs.out HBR.out)
  have HFr:=Ak (Kd.C_below HFs.out.2 HBR.out)
  by_cases hlt:i < F.length
  case neg=>
   have hb1:decide ((i:Int) < (F.length:Int))=false:=decide_eq_false (by omega)
   have hb1n:decide (i < F.length)=false:=decide_eq_false hlt
   have HFP:=Ak (show FitP F from fun t ht=>⟨(HI.out t ht).1,Nat.le_trans (HI.out t ht).2 (by decide)⟩)
   obtain ⟨⟨p,pe⟩,hp⟩:∃ q,printS F=q:=⟨_,rfl⟩
   have HP:=Ak hp
   clear hp hlt
   go_wp2_with fail
   refine (print_calls22 Af cf F _ HFr.out HFs.out.1 HFP.out p pe HP.out).mono ?_
   rintro e w3 ⟨rfl,hb⟩
   have HB3:=Ak (below_step HBW.out hb)
   have HF3:=Ak (Kd.C_below HFr.out hb)
   clear hb
   go_wp2_with fail
   refine (refPrint_calls22 Af cf F w3 HF3.out HFs.out.1 HFP.out p pe HP.out).mono ?_
   rintro e w4 ⟨rfl,hb⟩
   have HB4:=Ak (below_step HB3.out hb)
   obtain ⟨u,hu⟩:∃ u,u=strOfNums p:=⟨_,rfl⟩
   rw [←hu]
   have hse:(u.toList == u.toList)=true:=by simp
   have hse1:(xe == xe)=true:=by simp
   have hse2:(pe == pe)=true:=by simp
   clear hb hu
   go_wp2
   go_ret
   exact ⟨rfl,HB4.out⟩
  have hb1:decide ((i:Int) < (F.length:Int))=true:=decide_eq_true (by omega)
  have hb1n:decide (i < F.length)=true:=decide_eq_true hlt
  obtain ⟨ad,a7,c7_,a8,c8_,a9,c9_,e_,hx0,hx1,hx2,hx3,hx4,hx5,hx6,hx7,hx8,hx9,l7,g7,l8,g8,l9,g9⟩:=at_T34 HFr.out (i:Int) (by omega) (by omega)
  cases e_
  rw [Int.toNat_natCast] at hx0 hx1 hx2 hx3 hx4 hx5 hx6 hx7 hx8 hx9
  obtain ⟨t,ht⟩:∃ t,t=rd_T34 F (i:Int):=⟨_,rfl⟩
  have HTF:=Ak (show FitS t by rw [ht];exact (HI.out _ (rd_mem hlt)).1)
  rw [←ht] at hx0 hx1 hx2 hx3 hx4 hx5 hx6 hx7 hx8 hx9 l7 g7 l8 g8 l9 g9
  have HSC:=Ak (StC.mk (w:=wr) (t:=t) g7 l7 g8 l8 g9 l9)
  obtain ⟨⟨p,pe⟩,hp⟩:∃ q,putS t=q:=⟨_,rfl⟩
  have HP:=Ak hp
  have HPB:=Ak (show isBytes p by have h:=putS_bytes t;rw [hp] at h;exact h)
  have hib:(i:Int) * 10≤300:=by omega
  clear ht hp g7 l7 g8 l8 g9 l9
  go_wp2_with fail
  refine (put_C22 t a7 c7_ a8 c8_ a9 c9_ wr HSC.out HTF.out p pe HP.out).mono ?_
  rintro e w3 ⟨P,cp,rfl,hp1,hp2,hb⟩
  have HB3:=Ak (below_step HBR.out hb)
  have HSC3:=Ak (StC.mk (w:=w3) (t:=t) (Kd.C_below HSC.out.h7 hb) HSC.out.l7 (Kd.C_below HSC.out.h8 hb) HSC.out.l8 (Kd.C_below HSC.out.h9 hb) HSC.out.l9)
  have HPC:=Ak hp2
  replace hx0:=pw_cell_below hb hx0
  replace hx1:=pw_cell_below hb hx1
  replace hx2:=pw_cell_below hb hx2
  replace hx3:=pw_cell_below hb hx3
  replace hx4:=pw_cell_below hb hx4
  replace hx5:=pw_cell_below hb hx5
  replace hx6:=pw_cell_below hb hx6
  replace hx7:=pw_cell_below hb hx7
  replace hx8:=pw_cell_below hb hx8
  replace hx9:=pw_cell_below hb hx9
  clear hb hp1 hp2
  go_wp2_with fail
  refine (refPut_calls22 t a7 c7_ a8 c8_ a9 c9_ w3 HSC3.out HTF.out p pe HP.out).mono ?_
  rintro e w4 ⟨Q,cq,rfl,hq1,hq2,hb⟩
  have HB4:=Ak (below_step HB3.out hb)
  have HPC4:=Ak (Kd.C_below HPC.out hb)
  have HQC4:=Ak hq2
  clear hb hq1 hq2 hx0 hx1 hx2 hx3 hx4 hx5 hx6 hx7 hx8 hx9
  have CV1:=Kd.C_string (P:=Tryz.prog) (c:=cp) Tryz.underlying23 Tryz.underlying5 Tryz.underlying9 HPC4.out
  have CV2:=Kd.C_string (P:=Tryz.prog) (c:=cq) Tryz.underlying23 Tryz.underlying5 Tryz.underlying9 HQC4.out
  have hse:((strOfNums p).toList == (strOfNums p).toList)=true:=by simp
  have hse2:((strOfNums p).toList != (strOfNums p).toList)=false:=by simp
  have hpe1:(pe != pe)=false:=by simp
  go_wp2_with fail
  go_roundg (F.length - (i+1))
  case measure=>have:=HE.out;omega
  case rel=>exact ⟨i+1,by go_num,⟨by have:=HE.out;omega⟩,by exact HB4⟩
theorem scriptSteps_law (vs:Value) (x:List S34) (A0:Option Addr) (len cap:Nat) (z:List Int) (w:World) (y:(Kd.slice 34 k34).K w x [vs]) (hx:∀ t ∈ x,Gen.OkInS t) (w1:(A0=none∧len=0∧cap=0∧z=[])∨∃ x,A0=some x∧len≤cap∧cap≤maxLen∧z.length=cap∧(∀ i,i < z.length→w.cell? (x.add i)=some (.int .u8 (z.getD i 0)))∧∀ n ∈ z,(Lit.int .u8 n).wf=true) (y1:len * 1≤140737488351232) :
  Calls Tryz.prog 3 #[vs,.slice A0 len cap] w fun e w'=>e = .returned (.bool true)∧Below w.heap.size w w':=by
 obtain ⟨A,c,e,hc,hC⟩:=y
 obtain rfl:vs = .slice A x.length c:=by simpa using e
 exact scriptSteps_walk A c x A0 len cap z w hC hc (fun t ht=>inS_of (hx t ht)) w1 y1
end Go.Proofs.YtocpcnmnhckcpaaGreat.Prt
