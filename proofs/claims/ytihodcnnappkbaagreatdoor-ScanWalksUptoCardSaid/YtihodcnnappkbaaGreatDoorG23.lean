/-
  The walks of the reference's within, index and Wrong of a frame. Condition: the frame reads, its capacity is Go's, the tables of unicode/utf8 are as laid. The walks of the reference's numbers and Checked. Condition: the slices read, the numbers are of 63 bits. The walk of the reference's Body of a frame. Condition: the frame reads, its capacities are Go's, nothing is wrong with it, the tables of unicode/utf8 are as laid. The walk of the document's Stuff. Condition: the bytes read as a list. The walk of the reference's Encode of a frame. Condition: the frame reads, its capacities are Go's, the tables of unicode/utf8 are as laid.
-/
import Derived.Test.YtihodcnnappkbaaGreatDoorG7
import Derived.Test.YtihodcnnappkbaaGreatDoorG22
import Derived.Test.YtihodcnnappkbaaGreatDoorG8
import Derived.Test.YtihodcnnappkbaaGreatDoorG20
import Derived.Deep.RegionHeld3
import Derived.Test.YtihodcnnappkbaaGreatDoorG6
import Derived.Test.YtihodcnnappkbaaGreatDoorG1
namespace Go.Proofs.YtihodcnnappkbaaGreatDoor
open Go.RowKit Go.BigFrame
set_option linter.unusedVariables false
set_option linter.unusedSimpArgs false
attribute [local go_sem] run_storeF
set_option maxHeartbeats 400000 in
theorem refWithin_calls (n m:Int) (w:World):Calls Tryz.prog 120 #[.int .i64 n,.int .i64 m] w fun e w'=>e=.returned (.bool (!(outOf m n)))∧w=w':=by
 by_cases h0:0≤n
 · have q0:decide (0≤n)=true:=by rw [decide_eq_true_eq];exact h0
   by_cases h1:n<m
   · have q1:decide (n<m)=true:=by rw [decide_eq_true_eq];exact h1
     have hE:outOf m n=false:=by unfold outOf;rw [decide_eq_false (by omega),decide_eq_false (by omega)];rfl
     rw [hE]
     clear hE
     go_enter Tryz.func120,Tryz.ntmps120
     go_wp2
     go_ret
     exact ⟨rfl,rfl⟩
   · have q1:decide (n<m)=false:=by rw [decide_eq_false_iff_not];exact h1
     have hE:outOf m n=true:=by unfold outOf;rw [decide_eq_false (by omega),decide_eq_true (by omega)];rfl
     rw [hE]
     clear hE
     go_enter Tryz.func120,Tryz.ntmps120
     go_wp2
     go_ret
     exact ⟨rfl,rfl⟩
 · have q0:decide (0≤n)=false:=by rw [decide_eq_false_iff_not];exact h0
   have hE:outOf m n=true:=by unfold outOf;rw [decide_eq_true (by omega)];rfl
   rw [hE]
   clear hE
   go_enter Tryz.func120,Tryz.ntmps120
   go_wp2
   go_ret
   exact ⟨rfl,rfl⟩
set_option maxRecDepth 20000 in
set_option maxHeartbeats 2000000 in
theorem refIndex_calls (A B E:Option Addr) (k:Nat) (f:Fr) (w:World) (hf:FrS w (fun b=>b<w.heap.size) A B E f) :
 Calls Tryz.prog 121 #[.agg (ixCells E k f)] w fun e w'=>e=.returned (.int .i64 (idxWrong f))∧Keeps w w':=by
 obtain ⟨W,hW⟩:∃ W,W=w.alloc (.cells (ixCells E k f) 34):=⟨_,rfl⟩
 have hk0:Keeps w W:=by rw [hW];exact (Keeps.refl w).alloc _
 have b0:W.heap[w.heap.size]? = some (.cells (ixCells E k f) 34):=by rw [hW];exact obj_new w _
 have hne:=hf.lenE
 obtain ⟨R,hR⟩:∃ R,R=idxWrong f:=⟨_,rfl⟩
 rw [← hR]
 have HF:=Hi hf
 have HB:=Hi b0
 have HK:=Hi hk0
 unfold ixCells at *
 unfold idxWrong at hR
 have HR:=Hi hR
 clear hf b0 hk0 hR
 generalize hL:f.ents.length=N at *
 have HL:=Hi hL
 clear hL
 have HW:=Hi hW
 clear hW
 cases ha:outOf 1099511627776 f.spot <;> cases hb:outOf 1099511627776 f.frames <;> cases hc:outOf 1099511627776 f.irows
 case false.false.false=>
  have HR1:Hid (R=if 64<N then 3 else if f.ents.any entBad then 7 else 0):=Hi (by rw [HR.out];simp [ha,hb,hc])
  clear HR
  by_cases h64:64<N
  · have HE:Hid (R=3):=Hi (by rw [HR1.out,if_pos h64])
    clear HR1
    go_enter Tryz.func121,Tryz.ntmps121
    go_wp2_with (go_at_call 120;refine (refWithin_calls _ _ _).mono ?_;rintro e w1 ⟨rfl,rfl⟩)
    go_ret
    exact ⟨by rw [HE.out];rfl,(Keeps.refl w).alloc _⟩
  · have HR2:Hid (R=if (f.ents.drop 0).any entBad=true then 7 else 0):=Hi (by rw [HR1.out,if_neg h64];rfl)
    clear HR1
    go_enter Tryz.func121,Tryz.ntmps121
    go_wp2_with (go_at_call 120;refine (refWithin_calls _ _ _).mono ?_;rintro e w1 ⟨rfl,rfl⟩)
    go_loopw [6] (fun i wr=>∃ j:Nat,j≤N∧i=.int .i64 (j:Int)∧R=(if (f.ents.drop j).any entBad=true then 7 else 0)∧wr=W) (fun i _=>N-(intOf i).toNat)
    case atStart=>exact ⟨0,by omega,rfl,HR2.out,by rw [HW.out]⟩
    case round=>
     obtain ⟨j,hj,rfl,hres,rfl⟩:=hrel
     have c3:wr.cell? ⟨w.heap.size,3,none⟩=some (.slice E N k):=by rw [obj_cell HB.out];rfl
     have u0:=obj_lt HB.out
     by_cases hlt:j<N
     · have hlt1:j<f.ents.length:=by rw [HL.out];exact hlt
       rw [any_drop _ _ j hlt1] at hres
       obtain ⟨ad,rfl,_,e0,e1,e2⟩:=(HF.out.later HK.out.below).ent_at j hlt1
       have hbad:entBad (f.ents[j]'hlt1)=(outOf 1099511627776 (f.ents[j]'hlt1).spot||(outOf 1099511627776 (f.ents[j]'hlt1).row||(outOf 1099511627776 (f.ents[j]'hlt1).sch||false))):=rfl
       rw [hbad] at hres
       generalize (f.ents[j]'hlt1).spot=p at *
       generalize (f.ents[j]'hlt1).row=q at *
       generalize (f.ents[j]'hlt1).sch=r at *
       have HRES:=Hi hres
       clear hres hbad hlt1
       cases pa:outOf 1099511627776 p <;> cases pb:outOf 1099511627776 q <;> cases pc:outOf 1099511627776 r
       case false.false.false=>
        have HRR:Hid (R=if (f.ents.drop (j+1)).any entBad=true then 7 else 0):=Hi (by rw [HRES.out,pa,pb,pc];simp)
        go_wp2_with (go_at_call 120;refine (refWithin_calls _ _ _).mono ?_;rintro e w1 ⟨rfl,rfl⟩)
        first
         | exact ⟨⟨j+1,by omega,by go_num,HRR.out,trivial⟩,by simp [intOf];omega⟩
         | (go_roundw
            case rel=>exact ⟨j+1,by omega,by go_num,HRR.out,rfl⟩
            case measure=>simp [intOf];omega)
       all_goals
        have HRR:Hid (R=7):=Hi (by rw [HRES.out,pa,pb,pc];simp)
        go_wp2_with (go_at_call 120;refine (refWithin_calls _ _ _).mono ?_;rintro e w1 ⟨rfl,rfl⟩)
        go_ret
        exact ⟨by rw [HRR.out];rfl,HK.out⟩
     · have e:f.ents.drop j=[]:=List.drop_eq_nil_of_le (by rw [HL.out];omega)
       rw [e] at hres
       simp only [List.any_nil,Bool.false_eq_true,if_false] at hres
       have HRES:=Hi hres
       clear hres e
       go_wp2
       go_ret
       exact ⟨by rw [HRES.out];rfl,HK.out⟩
 all_goals
  have HE:Hid (R=7):=Hi (by rw [HR.out];simp [ha,hb,hc])
  clear HR
  go_enter Tryz.func121,Tryz.ntmps121
  go_wp2_with (go_at_call 120;refine (refWithin_calls _ _ _).mono ?_;rintro e w1 ⟨rfl,rfl⟩)
  go_ret
  exact ⟨by rw [HE.out];rfl,(Keeps.refl w).alloc _⟩
set_option maxRecDepth 20000 in
set_option maxHeartbeats 2000000 in
theorem refWrong_calls (A B E:Option Addr) (c d k:Nat) (f:Fr) (w:World) (hcap:f.cols.length≤c) (hf:FrS w (fun b=>b<w.heap.size) A B E f) (hw:f.wf) (htb:Tabs w) :
 Calls Tryz.prog 86 #[.agg (frCells A c B d E k f)] w fun e w'=>e=.returned (.int .i64 (frWrong f))∧Keeps w w':=by
 obtain ⟨W,hW⟩:∃ W,W=w.alloc (.cells (frCells A c B d E k f) 36):=⟨_,rfl⟩
 have hk0:Keeps w W:=by rw [hW];exact (Keeps.refl w).alloc _
 obtain ⟨R,hR⟩:∃ R,R=frWrong f:=⟨_,rfl⟩
 rw [← hR]
 have hchk:=refCheck_calls A c f.cols W hcap ((hf.later hk0.below).sch.mono fun b hb _=>hb) hw.dflt (htb.below hk0.below)
 have hix:=refIndex_calls A B E k f W (by
  have h:=hf.later hk0.below
  exact ⟨h.sch.mono fun b hb _=>hb,h.blk,fun a e hn=>Nat.lt_of_lt_of_le (h.blkS a e hn) hk0.size,h.ent,fun a e hn=>Nat.lt_of_lt_of_le (h.entS a e hn) hk0.size,h.lenB,h.lenE⟩)
 have HCHK:=Hi hchk
 have HIX:=Hi hix
 have HK:=Hi hk0
 unfold frCells at *
 unfold ixCells at *
 unfold frWrong schWrong datWrong at hR
 have HR:=Hi hR
 clear hchk hix hk0 hR hf hw htb hcap
 generalize f.cols.length=NC at *
 generalize f.block.length=NB at *
 generalize f.ents.length=NE at *
 generalize f.kind=kd at *
 by_cases h1:kd=1
 · subst h1
   cases ha:outOf 2147483648 f.number with
   | true=>
     have HE:Hid (R=7):=Hi (by rw [HR.out,if_pos rfl,if_pos ha])
     clear HR HCHK HIX HK hW
     go_enter Tryz.func86,Tryz.ntmps86
     go_wp2_with (go_at_call 120;refine (refWithin_calls _ _ _).mono ?_;rintro e w1 ⟨rfl,rfl⟩)
     go_ret
     exact ⟨by rw [HE.out];rfl,(Keeps.refl w).alloc _⟩
   | false=>
     have HE:Hid (R=schCheck f.cols):=Hi (by rw [HR.out,if_pos rfl,ha];rfl)
     clear HR HIX
     go_enter Tryz.func86,Tryz.ntmps86
     go_wp2_with fail
     refine (refWithin_calls _ _ _).mono ?_
     rintro e w1 ⟨rfl,rfl⟩
     go_wp2_with fail
     rw [← hW]
     clear hW
     refine HCHK.out.mono ?_
     rintro e w1 ⟨rfl,hk1⟩
     have HK1:=Hi (HK.out.trans hk1)
     clear hk1
     go_wp2
     go_ret
     exact ⟨by rw [HE.out];rfl,HK1.out⟩
 by_cases h2:kd=2
 · subst h2
   have HR2:Hid (R=if outOf 2147483648 f.number||(outOf 1099511627776 f.seq||outOf 1099511627776 f.first)||decide (f.rows<1)||decide (64<f.rows) then 7 else 0):=Hi (by rw [HR.out,if_neg (by omega),if_pos rfl])
   clear HR HCHK HIX HK hW h1
   obtain ⟨b1,q1⟩:∃ b,decide (f.rows<1)=b:=⟨_,rfl⟩
   obtain ⟨b2,q2⟩:∃ b,decide (64<f.rows)=b:=⟨_,rfl⟩
   cases ha:outOf 2147483648 f.number <;> cases hb:outOf 1099511627776 f.seq <;> cases hc:outOf 1099511627776 f.first <;> cases b1 <;> cases b2
   case false.false.false.false.false=>
    have HE:Hid (R=0):=Hi (by rw [HR2.out,ha,hb,hc,q1,q2];rfl)
    clear HR2
    go_enter Tryz.func86,Tryz.ntmps86
    go_wp2_with (go_at_call 120;refine (refWithin_calls _ _ _).mono ?_;rintro e w1 ⟨rfl,rfl⟩)
    go_ret
    exact ⟨by rw [HE.out];rfl,(Keeps.refl w).alloc _⟩
   all_goals
    have HE:Hid (R=7):=Hi (by rw [HR2.out,ha,hb,hc,q1,q2];rfl)
    clear HR2
    go_enter Tryz.func86,Tryz.ntmps86
    go_wp2_with (go_at_call 120;refine (refWithin_calls _ _ _).mono ?_;rintro e w1 ⟨rfl,rfl⟩)
    go_ret
    exact ⟨by rw [HE.out];rfl,(Keeps.refl w).alloc _⟩
 by_cases h3:kd=3
 · subst h3
   have HE:Hid (R=idxWrong f):=Hi (by rw [HR.out,if_neg (by omega),if_neg (by omega),if_pos rfl])
   clear HR HCHK h1 h2
   go_enter Tryz.func86,Tryz.ntmps86
   go_wp2_with fail
   rw [← hW]
   clear hW
   refine HIX.out.mono ?_
   rintro e w1 ⟨rfl,hk1⟩
   have HK1:=Hi (HK.out.trans hk1)
   clear hk1
   go_wp2
   go_ret
   exact ⟨by rw [HE.out];rfl,HK1.out⟩
 · have HE:Hid (R=60):=Hi (by rw [HR.out,if_neg h1,if_neg h2,if_neg h3])
   have q1:(kd==1)=false:=by simpa using h1
   have q2:(kd==2)=false:=by simpa using h2
   have q3:(kd==3)=false:=by simpa using h3
   clear HR HCHK HIX HK hW h1 h2 h3
   go_enter Tryz.func86,Tryz.ntmps86
   go_wp2
   go_ret
   exact ⟨by rw [HE.out];rfl,(Keeps.refl w).alloc _⟩
set_option maxRecDepth 20000 in
set_option maxHeartbeats 1000000 in
theorem refNumbers_calls (A:Option Addr) (c:Nat) (l:List Nat) (w:World) (hl:l.length≤100000) (hn:∀ n∈l,n<9223372036854775808) (hr:RowAt w A (n64s l)) :
 Calls Tryz.prog 122 #[.slice A l.length c] w (NewB w (lebs l)):=by
 have HRW:=Hi hr
 have HNM:=Hi hn
 clear hr hn
 generalize hL:l.length=N at hl ⊢
 have HL:=Hi hL
 clear hL
 go_enter Tryz.func122,Tryz.ntmps122
 go_wp2_with fail
 go_loopw [3,4] (fun b i wr=>∃ (m:Nat) (A':Option Addr) (c' M:Nat),m≤N∧i=.int .i64 (m:Int)∧b=.slice A' M c'∧OwnB 5 wr w.heap.size (.slice A' M c') (lebs (l.take m))∧Keeps w wr) (fun _ i _=>N-(intOf i).toNat)
 case atStart=>exact ⟨0,none,0,0,Nat.zero_le _,rfl,rfl,OwnB.nil _ _ _,Keeps.refl _⟩
 case round=>
  obtain ⟨m,A',c',M,hm,rfl,rfl,hown,hk⟩:=hrel
  by_cases hlt:m<N
  · have hlt1:m<l.length:=by rw [HL.out];exact hlt
    obtain ⟨ad,rfl,hc⟩:=row_n64 (HRW.out.below hk.below) m hlt1
    have hx:=HNM.out _ (List.getElem_mem hlt1)
    have htk:=lebs_take l m hlt1
    have hle:(lebs (l.take m)).length≤10*(l.take m).length:=lebs_le _ fun n hn=>HNM.out n (List.mem_of_mem_take hn)
    rw [List.length_take] at hle
    obtain ⟨x,hx2⟩:∃ x,x=l[m]'hlt1:=⟨_,rfl⟩
    rw [← hx2] at hc hx htk
    have hl10:=leb_le x (by omega)
    have HP:=Hi (ref3Put_calls x (by omega) wr)
    have HTK:=Hi htk
    have HLE:=Hi hle
    have H10:=Hi hl10
    have HO:=Hi hown
    have HK:=Hi hk
    clear htk hle hl10 hown hk hx2 hlt1
    go_wp2_with fail
    refine HP.out.mono ?_
    rintro e w1 ⟨v1,rfl,hown1,hk1⟩
    obtain ⟨A1,M1,c1,rfl,HM1,HR1⟩:=hown1.seen
    have HO1:=Hi (HO.out.below hk1)
    have HK1:=Hi (HK.out.trans hk1)
    clear hown1 hk1 HP
    go_wp2_with (at_builtin;refine wpList_append_bytes (w0:=w) w.heap.size rfl _ _ 31 5 rfl Tryz.underlying31 info_u8b (.slice A' M c') (lebs (l.take m)) (leb x) rfl HO1.out A1 c1 (by rw [HM1.out];rfl) HR1.out ?c2 HK1.out.size HK1.out ?_)
    case c2=>have:=HLE.out;have:=H10.out;omega
    intro v2 w2 hown2 hb2 _ _
    obtain ⟨A2,M2,c2,rfl,hown2'⟩:=hown2.named HTK.out.symm
    have HO2:=Hi hown2'
    have HB2:=Hi hb2
    clear hown2 hown2' hb2
    go_wp2
    exact ⟨⟨m+1,A2,c2,M2,by omega,by go_num,rfl,HO2.out,HB2.out⟩,by simp [intOf];omega⟩
  · have e:l.take m=l:=List.take_of_length_le (by rw [HL.out];omega)
    rw [e] at hown
    have HO:=Hi hown
    have HK:=Hi hk
    clear hown hk e
    go_wp2
    go_ret
    exact ⟨_,rfl,HO.out,HK.out⟩
theorem le4_take (S k:Nat) (h:k<4):(le4 S).take (k+1)=(le4 S).take k++[UInt8.ofNat (S / 256 ^ k % 256)]:=by
 obtain rfl | rfl | rfl | rfl:k=0∨k=1∨k=2∨k=3:=by omega
 all_goals simp [le4]
set_option maxRecDepth 20000 in
set_option maxHeartbeats 1000000 in
theorem refChecked_calls (A:Option Addr) (c:Nat) (l:List UInt8) (w:World) (hl:l.length≤140737488350000) (hr:Reads w A l) :
 Calls Tryz.prog 124 #[.slice A l.length c] w (NewB w (l++le4 (Crc.sum (nats l)))):=by
 have hs:=refSum_calls A c l w (by omega) hr
 have hlt:Crc.sum (nats l)<4294967296:=Crc.upd_lt _ (by omega) (nats_lt l)
 generalize Crc.sum (nats l)=S at hs hlt ⊢
 have HS:=Hi hs
 have HR:=Hi hr
 clear hs hr
 generalize hL:l.length=N at hl HS ⊢
 have HL:=Hi hL
 clear hL
 go_enter Tryz.func124,Tryz.ntmps124
 go_wp2_with fail
 refine HS.out.mono ?_
 rintro e w1 ⟨rfl,hk⟩
 have hkk:Keeps w w1:=by first | exact hk | (subst hk;exact Keeps.refl _) | exact hk.below _ | (obtain ⟨n,rfl⟩:=hk;exact (Quiet.below ⟨n,rfl⟩ _))
 have HK:=Hi hkk
 have HR1:=Hi (HR.out.below hkk.below)
 clear hkk hk HS
 go_wp2_with (at_builtin;refine wpList_append_bytes (w0:=w) w.heap.size rfl _ _ 31 5 rfl Tryz.underlying31 info_u8b (.slice none 0 0) [] l rfl (OwnB.nil _ _ _) A c (by rw [HL.out];rfl) HR1.out ?c2 HK.out.size HK.out ?_)
 case c2=>have:=HL.out;simp;omega
 intro v2 w2 hown2 hb2 _ _
 obtain ⟨A2,M2,c2,rfl,hown2'⟩:=hown2.named (l':=l++(le4 S).take 0) (by simp)
 have HO2:=Hi hown2'
 have HB2:=Hi hb2
 clear hown2 hown2' hb2
 go_wp2_with fail
 go_loopw [3,4,5] (fun x b i wr=>∃ (k:Nat) (A':Option Addr) (c' M:Nat),k≤4∧i=.int .i64 (k:Int)∧x=.int .u32 ((S / 256 ^ k:Nat):Int)∧b=.slice A' M c'∧OwnB 5 wr w.heap.size (.slice A' M c') (l++(le4 S).take k)∧Keeps w wr) (fun _ _ i _=>4-(intOf i).toNat)
 case atStart=>exact ⟨0,A2,c2,M2,by omega,rfl,by simp,rfl,HO2.out,HB2.out⟩
 case round=>
  obtain ⟨k,A',c',M,hk,rfl,rfl,rfl,hown,hkp⟩:=hrel
  have HO:=Hi hown
  have HKP:=Hi hkp
  clear hown hkp
  by_cases hlt4:k<4
  · have HT:=Hi (le4_take S k hlt4)
    have hdiv:S / 256 ^ (k+1)=S / 256 ^ k / 256:=by rw [Nat.pow_succ,Nat.div_div_eq_div_mul]
    have hM:S / 256 ^ k<4294967296:=Nat.lt_of_le_of_lt (Nat.div_le_self _ _) hlt
    generalize S / 256 ^ k=X at HT hdiv hM ⊢
    have HD:=Hi hdiv
    clear hdiv
    obtain ⟨W1,hW1⟩:∃ W1,W1=wr.alloc (.cells #[.int .u8 ((X:Int) % 256)] 5):=⟨_,rfl⟩
    have hk1:Keeps wr W1:=by rw [hW1];exact (Keeps.refl wr).alloc _
    have hr1:Reads W1 (some ⟨wr.heap.size,0,none⟩) [UInt8.ofNat (X % 256)]:=by
     rw [hW1];exact Reads.new _ _ _ _ _ (by show [Value.int .u8 ((X:Int) % 256)]=[Value.int .u8 (((UInt8.ofNat (X % 256)).toNat:Nat):Int)];rw [byte_of])
    have hw8:IntKind.u8.wrap ((X:Int) % 256)=(X:Int) % 256:=by simp [IntKind.wrap,IntKind.bits,IntKind.signed]
    have HK1:=Hi (HKP.out.trans hk1)
    have HO1:=Hi (HO.out.below hk1)
    have HRR:=Hi hr1
    have HW1:=Hi hW1
    clear hk1 hr1 hW1
    go_wp2_with (at_builtin;rw [← HW1.out];refine wpList_append_bytes (w0:=w) w.heap.size rfl _ _ 31 5 rfl Tryz.underlying31 info_u8b (.slice A' M c') (l++(le4 S).take k) [UInt8.ofNat (X % 256)] rfl HO1.out (some ⟨wr.heap.size,0,none⟩) 1 rfl HRR.out ?d2 HK1.out.size HK1.out ?_)
    case d2=>have:=HL.out;rw [List.length_append,List.length_take];simp;omega
    intro v3 w3 hown3 hb3 _ _
    obtain ⟨A3,M3,c3,rfl,hown3'⟩:=hown3.named (l':=l++(le4 S).take (k+1)) (by rw [HT.out];try simp only [List.append_assoc])
    have HO3:=Hi hown3'
    have HB3:=Hi hb3
    clear hown3 hown3' hb3
    go_wp2
    exact ⟨⟨k+1,A3,c3,M3,by omega,by go_num,by rw [HD.out];go_num,rfl,HO3.out,HB3.out⟩,by simp [intOf];omega⟩
  · obtain rfl:k=4:=by omega
    have e8:(le4 S).take 4=le4 S:=rfl
    rw [e8] at HO
    clear e8
    go_wp2
    go_ret
    exact ⟨_,rfl,HO.out,HKP.out⟩
theorem Keeps.read {w w':World} (h:Keeps w w') {p:Addr} {v:Value} (hc:w.cell? p=some v):w'.cell? p=some v:=by
 rw [h.below.cell (World.block_lt_of_cell? w _ hc)];exact hc
set_option maxRecDepth 20000 in
set_option maxHeartbeats 2000000 in
theorem refBody_sch (A B E:Option Addr) (c d k:Nat) (f:Fr) (w:World) (h1:f.kind=1) (h0:schWrong f=0) (hcap:f.cols.length≤c) (hf:FrS w (fun b=>b<w.heap.size) A B E f) (hw:f.wf) (htb:Tabs w) :
 Calls Tryz.prog 87 #[.agg (frCells A c B d E k f)] w (NewB w (frBody f++le4 (Crc.sum (nats (frBody f))))):=by
 obtain ⟨n,hn,hn1,hsc⟩:=schWrong_no h0
 have hb:frBody f=[1]++(lebs [n]++putS f.cols):=by
  have:f.number.toNat=n:=by rw [hn];rfl
  simp [frBody,frPut,schPut,h1,this]
 rw [hb]
 have hpl:=schCheck_len hsc
 have hl10:=lebs_le [n] (fun m hm=>by simp at hm;omega)
 simp only [List.length_cons,List.length_nil] at hl10
 obtain ⟨W,hW⟩:∃ W,W=((w.alloc (.cells (frCells A c B d E k f) 36)).alloc (.cells #[.int .u8 1] 5)).alloc (.cells #[.int .i64 (n:Int)] 2):=⟨_,rfl⟩
 have hk0:Keeps w W:=by rw [hW];exact (((Keeps.refl w).alloc _).alloc _).alloc _
 have b0:W.heap[w.heap.size]? = some (.cells (frCells A c B d E k f) 36):=by rw [hW];exact obj_old (obj_old (obj_new w _) _) _
 have b2:W.heap[w.heap.size+2]? = some (.cells #[.int .i64 (n:Int)] 2):=by rw [hW];exact obj_new_at _ _ _ (by simp)
 have hown:OwnB 5 W w.heap.size (.slice (some ⟨w.heap.size+1,0,none⟩) 1 1) [1]:=by
  rw [hW]
  exact (OwnB.new1 _ 1 _ rfl _ _ (by simp) (by omega)).below ((Keeps.refl _).alloc _).below
 have hnum:=refNumbers_calls (some ⟨w.heap.size+2,0,none⟩) 1 [n] W (by simp) (fun m hm=>by simp at hm;omega) (n64_one b2)
 have henc:=fun w3 (hk:Keeps w w3)=>refSchEncode_calls A c f.cols w3 hcap ((hf.later hk.below).sch.mono fun b hb _=>hb) hw.dflt (htb.below hk.below)
 have henc2:∀ w3,Keeps w w3→Calls Tryz.prog 123 #[.agg #[.slice A f.cols.length c]] w3 fun e w'=>∃ A' M c',e=.returned (.tuple #[.slice A' M c',.int .i64 0])∧Hid ((putS f.cols).length=M)∧OwnB 5 w' w3.heap.size (.slice A' M c') (putS f.cols)∧Keeps w3 w':=fun w3 hk=>(henc w3 hk).mono fun e w' h=>by
  unfold EncPost at h
  rw [if_pos hsc] at h
  obtain ⟨A',c',e1,h2,h3⟩:=h
  exact ⟨A',_,c',e1,Hi rfl,h2,h3⟩
 have HENC:=Hi henc2
 have HNUM:=Hi hnum
 have HB:=Hi b0
 have HK:=Hi hk0
 have HO:=Hi hown
 have HPL:=Hi hpl
 have H10:=Hi hl10
 unfold frCells at *
 rw [h1,hn] at hW HB ⊢
 clear henc henc2 hnum b0 b2 hk0 hown hpl hl10 hf hw htb hcap h0 hb hn h1 hsc
 generalize putS f.cols=P at *
 generalize f.cols.length=NC at *
 generalize f.block.length=NB at *
 generalize f.ents.length=NE at *
 go_enter Tryz.func87,Tryz.ntmps87
 go_wp2_with fail
 rw [← hW]
 clear hW
 refine HNUM.out.mono ?_
 rintro e w2 ⟨v2,rfl,hown2,hk2⟩
 obtain ⟨A2,M2,c2,rfl,HM2,HR2⟩:=hown2.seen
 have HO2:=Hi (HO.out.below hk2)
 have HK2:=Hi (HK.out.trans hk2)
 have HB2:=Hi ((hk2.below.block _ (obj_lt HB.out)).trans HB.out)
 clear hown2 hk2 HNUM HO HB
 go_wp2_with (at_builtin;refine wpList_append_bytes (w0:=w) w.heap.size rfl _ _ 31 5 rfl Tryz.underlying31 info_u8b (.slice (some ⟨w.heap.size+1,0,none⟩) 1 1) [1] (lebs [n]) rfl HO2.out A2 c2 (by rw [HM2.out];rfl) HR2.out ?c2 HK2.out.size HK2.out ?_)
 case c2=>have:=H10.out;simp;omega
 intro v3 w3 hown3 hb3 hg3 _
 have hbb:w3.heap[w.heap.size]? = _:=(hg3.block _ (obj_lt HB2.out) (by simp [Value.ownBlock])).trans HB2.out
 have d2:w3.cell? ⟨w.heap.size,2,none⟩=some (.slice A NC c):=by rw [obj_cell hbb];rfl
 have u3:=obj_lt hbb
 obtain ⟨A3,M3,c3,rfl,hown3'⟩:=hown3.named (l':=[1]++lebs [n]) rfl
 have HO3:=Hi hown3'
 have HK3:Hid (Keeps w w3):=Hi hb3
 clear hown3 hown3' hb3 hg3 hbb HB2 HK2 HO2
 go_wp2_with fail
 refine (HENC.out w3 HK3.out).mono ?_
 rintro e w4 ⟨A4,M4,c4,rfl,HM4,hown4,hk4⟩
 have HR4:=Hi hown4.form.choose_spec
 obtain ⟨A5,M5,c5,e5,HM5,HR5⟩:=hown4.seen
 injection e5 with g1 g2 g3
 subst g1 g2 g3
 have HO4:=Hi (HO3.out.below hk4)
 have HK4:=Hi (HK3.out.trans hk4)
 clear hown4 hk4 HENC HR4 d2 u3
 go_wp2_with (at_builtin;refine wpList_append_bytes (w0:=w) w.heap.size rfl _ _ 31 5 rfl Tryz.underlying31 info_u8b (.slice A3 M3 c3) ([1]++lebs [n]) P rfl HO4.out A4 c4 (by rw [HM4.out];rfl) HR5.out ?d2 HK4.out.size HK4.out ?_)
 case d2=>have:=H10.out;have:=HPL.out;rw [List.length_append];simp;omega
 intro v6 w6 hown6 hb6 hg6 _
 obtain ⟨A6,M6,c6,rfl,hown6'⟩:=hown6.named (l':=[1]++(lebs [n]++P)) (by simp)
 obtain ⟨A7,M7,c7,e7,HM7,HR7⟩:=hown6'.seen
 injection e7 with g1 g2 g3
 subst g1 g2 g3
 have hchk:=refChecked_calls A6 c6 ([1]++(lebs [n]++P)) w6 (by have:=H10.out;have:=HPL.out;rw [List.length_append,List.length_append];simp;omega) HR7.out
 rw [HM7.out] at hchk
 have HCHK:=Hi hchk
 have HK6:Hid (Keeps w w6):=Hi hb6
 clear hown6 hown6' hb6 hg6 hchk
 go_wp2_with fail
 refine HCHK.out.mono ?_
 rintro e w7 ⟨v7,rfl,hown7,hk7⟩
 have HO7:=Hi (hown7.weaken HK6.out.size)
 have HK7:=Hi (HK6.out.trans hk7)
 clear hown7 hk7 HCHK
 go_wp2
 go_ret
 exact ⟨v7,rfl,HO7.out,HK7.out⟩
set_option maxRecDepth 20000 in
set_option maxHeartbeats 2000000 in
theorem refBody_dat (A B E:Option Addr) (c d k:Nat) (f:Fr) (w:World) (h1:f.kind=2) (h0:datWrong f=0) (hf:FrS w (fun b=>b<w.heap.size) A B E f) :
 Calls Tryz.prog 87 #[.agg (frCells A c B d E k f)] w (NewB w (frBody f++le4 (Crc.sum (nats (frBody f))))):=by
 obtain ⟨n,s,t,r,hn,hs,ht,hr,hn1,hs1,ht1,_,hr1⟩:=datWrong_no h0
 have hb:frBody f=[2]++(lebs [n,s,t,r]++f.block):=by
  have e1:f.number.toNat=n:=by rw [hn];rfl
  have e2:f.seq.toNat=s:=by rw [hs];rfl
  have e3:f.first.toNat=t:=by rw [ht];rfl
  have e4:f.rows.toNat=r:=by rw [hr];rfl
  simp [frBody,frPut,datPut,h1,e1,e2,e3,e4]
 rw [hb]
 have hlb:=hf.lenB
 have hl10:=lebs_le [n,s,t,r] (fun m hm=>by simp at hm;omega)
 simp only [List.length_cons,List.length_nil] at hl10
 obtain ⟨W,hW⟩:∃ W,W=((w.alloc (.cells (frCells A c B d E k f) 36)).alloc (.cells #[.int .u8 2] 5)).alloc (.cells #[.int .i64 (n:Int),.int .i64 (s:Int),.int .i64 (t:Int),.int .i64 (r:Int)] 2):=⟨_,rfl⟩
 have hk0:Keeps w W:=by rw [hW];exact (((Keeps.refl w).alloc _).alloc _).alloc _
 have b0:W.heap[w.heap.size]? = some (.cells (frCells A c B d E k f) 36):=by rw [hW];exact obj_old (obj_old (obj_new w _) _) _
 have b2:W.heap[w.heap.size+2]? = some (.cells #[.int .i64 (n:Int),.int .i64 (s:Int),.int .i64 (t:Int),.int .i64 (r:Int)] 2):=by rw [hW];exact obj_new_at _ _ _ (by simp)
 have hown:OwnB 5 W w.heap.size (.slice (some ⟨w.heap.size+1,0,none⟩) 1 1) [2]:=by
  rw [hW]
  exact (OwnB.new1 _ 2 _ rfl _ _ (by simp) (by omega)).below ((Keeps.refl _).alloc _).below
 have hnum:=refNumbers_calls (some ⟨w.heap.size+2,0,none⟩) 4 [n,s,t,r] W (by simp) (fun m hm=>by simp at hm;omega) (n64_four b2)
 have HNUM:=Hi hnum
 have HB:=Hi b0
 have HK:=Hi hk0
 have HO:=Hi hown
 have HRB:=Hi hf.blk
 have H10:=Hi hl10
 have HLB:=Hi hlb
 unfold frCells at *
 rw [h1,hn,hs,ht,hr] at hW HB ⊢
 clear hnum b0 b2 hk0 hown hl10 hf h0 hb hn hs ht hr h1 hlb
 generalize f.cols.length=NC at *
 generalize hNB:f.block.length=NB at *
 have HNB:=Hi hNB
 clear hNB
 generalize f.ents.length=NE at *
 go_enter Tryz.func87,Tryz.ntmps87
 go_wp2_with fail
 rw [← hW]
 clear hW
 refine HNUM.out.mono ?_
 rintro e w2 ⟨v2,rfl,hown2,hk2⟩
 obtain ⟨A2,M2,c2,rfl,HM2,HR2⟩:=hown2.seen
 have HO2:=Hi (HO.out.below hk2)
 have HK2:=Hi (HK.out.trans hk2)
 have HB2:=Hi ((hk2.below.block _ (obj_lt HB.out)).trans HB.out)
 clear hown2 hk2 HNUM HO HB
 go_wp2_with (at_builtin;refine wpList_append_bytes (w0:=w) w.heap.size rfl _ _ 31 5 rfl Tryz.underlying31 info_u8b (.slice (some ⟨w.heap.size+1,0,none⟩) 1 1) [2] (lebs [n,s,t,r]) rfl HO2.out A2 c2 (by rw [HM2.out];rfl) HR2.out ?c2 HK2.out.size HK2.out ?_)
 case c2=>have:=H10.out;simp;omega
 intro v3 w3 hown3 hb3 hg3 _
 have hbb:w3.heap[w.heap.size]? = _:=(hg3.block _ (obj_lt HB2.out) (by simp [Value.ownBlock])).trans HB2.out
 have d2:w3.cell? ⟨w.heap.size,6,none⟩=some (.slice B NB d):=by rw [obj_cell hbb];rfl
 have u3:=obj_lt hbb
 obtain ⟨A3,M3,c3,rfl,hown3'⟩:=hown3.named (l':=[2]++lebs [n,s,t,r]) rfl
 have HO3:=Hi hown3'
 have HK3:Hid (Keeps w w3):=Hi hb3
 have HRB3:=Hi (HRB.out.below hb3)
 clear hown3 hown3' hb3 hg3 hbb HB2 HK2 HO2
 go_wp2_with (at_builtin;refine wpList_append_bytes (w0:=w) w.heap.size rfl _ _ 31 5 rfl Tryz.underlying31 info_u8b (.slice A3 M3 c3) ([2]++lebs [n,s,t,r]) f.block rfl HO3.out B d (by rw [HNB.out];rfl) HRB3.out ?d2 HK3.out.size HK3.out ?_)
 case d2=>have:=H10.out;have:=HLB.out;have:=HNB.out;rw [List.length_append];simp;omega
 intro v6 w6 hown6 hb6 hg6 _
 obtain ⟨A6,M6,c6,rfl,hown6'⟩:=hown6.named (l':=[2]++(lebs [n,s,t,r]++f.block)) (by simp)
 obtain ⟨A7,M7,c7,e7,HM7,HR7⟩:=hown6'.seen
 injection e7 with g1 g2 g3
 subst g1 g2 g3
 have hchk:=refChecked_calls A6 c6 ([2]++(lebs [n,s,t,r]++f.block)) w6 (by have:=H10.out;have:=HLB.out;have:=HNB.out;rw [List.length_append,List.length_append];simp;omega) HR7.out
 rw [HM7.out] at hchk
 have HCHK:=Hi hchk
 have HK6:Hid (Keeps w w6):=Hi hb6
 clear hown6 hown6' hb6 hg6 hchk
 go_wp2_with fail
 refine HCHK.out.mono ?_
 rintro e w7 ⟨v7,rfl,hown7,hk7⟩
 have HO7:=Hi (hown7.weaken HK6.out.size)
 have HK7:=Hi (HK6.out.trans hk7)
 clear hown7 hk7 HCHK
 go_wp2
 go_ret
 exact ⟨v7,rfl,HO7.out,HK7.out⟩
set_option maxRecDepth 20000 in
set_option maxHeartbeats 4000000 in
theorem refBody_idx (A B E:Option Addr) (c d k:Nat) (f:Fr) (w:World) (h1:f.kind=3) (h0:idxWrong f=0) (hf:FrS w (fun b=>b<w.heap.size) A B E f) :
 Calls Tryz.prog 87 #[.agg (frCells A c B d E k f)] w (NewB w (frBody f++le4 (Crc.sum (nats (frBody f))))):=by
 obtain ⟨n,s,t,hn,hs,ht,hn1,hs1,ht1,hN64,hEB⟩:=idxWrong_no h0
 have hb:frBody f=[3]++(lebs [n,s,t,f.ents.length]++f.ents.flatMap entPut):=by
  have e1:f.spot.toNat=n:=by rw [hn];rfl
  have e2:f.frames.toNat=s:=by rw [hs];rfl
  have e3:f.irows.toNat=t:=by rw [ht];rfl
  simp [frBody,frPut,idxPut,h1,e1,e2,e3]
 rw [hb]
 have hl10:=lebs_le [n,s,t,f.ents.length] (fun m hm=>by simp at hm;omega)
 simp only [List.length_cons,List.length_nil] at hl10
 obtain ⟨W,hW⟩:∃ W,W=(((w.alloc (.cells (frCells A c B d E k f) 36)).alloc (.cells #[.int .u8 3] 5)).alloc (.cells (ixCells E k f) 34)).alloc (.cells #[.int .i64 (n:Int),.int .i64 (s:Int),.int .i64 (t:Int),.int .i64 (f.ents.length:Int)] 2):=⟨_,rfl⟩
 have hk0:Keeps w W:=by rw [hW];exact ((((Keeps.refl w).alloc _).alloc _).alloc _).alloc _
 have b0:W.heap[w.heap.size+2]? = some (.cells (ixCells E k f) 34):=by rw [hW];exact obj_old (obj_new_at _ _ _ (by simp)) _
 have b2:W.heap[w.heap.size+3]? = some (.cells #[.int .i64 (n:Int),.int .i64 (s:Int),.int .i64 (t:Int),.int .i64 (f.ents.length:Int)] 2):=by rw [hW];exact obj_new_at _ _ _ (by simp)
 have hown:OwnB 5 W w.heap.size (.slice (some ⟨w.heap.size+1,0,none⟩) 1 1) [3]:=by
  rw [hW]
  exact (OwnB.new1 _ 3 _ rfl _ _ (by simp) (by omega)).below (((Keeps.refl _).alloc _).alloc _).below
 have hnum:=refNumbers_calls (some ⟨w.heap.size+3,0,none⟩) 4 [n,s,t,f.ents.length] W (by simp) (fun m hm=>by simp at hm;omega) (n64_four b2)
 have HNUM:=Hi hnum
 have HB:=Hi b0
 have HK:=Hi hk0
 have HO:=Hi hown
 have HF:=Hi hf
 have HEB:=Hi hEB
 have H10:=Hi hl10
 have HLE:=Hi (entsPut_le f.ents hEB)
 unfold frCells ixCells at *
 rw [h1,hn,hs,ht] at hW
 rw [h1,hn,hs,ht]
 rw [hn,hs,ht] at HB
 clear hnum b0 b2 hk0 hown hl10 hf h0 hb hn hs ht h1 hEB
 generalize f.cols.length=NC at *
 generalize f.block.length=NB at *
 generalize hNE:f.ents.length=NE at *
 have HNE:=Hi hNE
 clear hNE
 go_enter Tryz.func87,Tryz.ntmps87
 go_wp2_with fail
 rw [← hW]
 clear hW
 refine HNUM.out.mono ?_
 rintro e w2 ⟨v2,rfl,hown2,hk2⟩
 obtain ⟨A2,M2,c2,rfl,HM2,HR2⟩:=hown2.seen
 have HO2:=Hi (HO.out.below hk2)
 have HK2:=Hi (HK.out.trans hk2)
 have HB2:=Hi ((hk2.below.block _ (obj_lt HB.out)).trans HB.out)
 clear hown2 hk2 HNUM HO HB
 go_wp2_with (at_builtin;refine wpList_append_bytes (w0:=w) w.heap.size rfl _ _ 31 5 rfl Tryz.underlying31 info_u8b (.slice (some ⟨w.heap.size+1,0,none⟩) 1 1) [3] (lebs [n,s,t,NE]) rfl HO2.out A2 c2 (by rw [HM2.out];rfl) HR2.out ?c2 HK2.out.size HK2.out ?_)
 case c2=>have:=H10.out;simp;omega
 intro v3 w3 hown3 hb3 hg3 _
 have hbb:w3.heap[w.heap.size+2]? = _:=(hg3.block _ (obj_lt HB2.out) (by simp [Value.ownBlock])).trans HB2.out
 obtain ⟨A3,M3,c3,rfl,hown3'⟩:=hown3.named (l':=[3]++lebs [n,s,t,NE]) rfl
 have HO3:=Hi hown3'
 have HK3:Hid (Keeps w w3):=Hi hb3
 have HB3:=Hi hbb
 clear hown3 hown3' hb3 hg3 hbb HB2 HK2 HO2
 go_wp2_with fail
 go_loopw [4,6] (fun b i wr=>∃ (j:Nat) (A':Option Addr) (c' M:Nat),j≤NE∧i=.int .i64 (j:Int)∧b=.slice A' M c'∧OwnB 5 wr w3.heap.size (.slice A' M c') ((f.ents.take j).flatMap entPut)∧Keeps w3 wr) (fun _ i _=>NE-(intOf i).toNat)
 case atStart=>exact ⟨0,none,0,0,Nat.zero_le _,rfl,rfl,OwnB.nil _ _ _,Keeps.refl _⟩
 case round=>
  obtain ⟨j,A',c',M,hj,rfl,rfl,hown,hkp⟩:=hrel
  have hbr:=(hkp.below.block _ (obj_lt HB3.out)).trans HB3.out
  have d3:wr.cell? ⟨w.heap.size+2,3,none⟩=some (.slice E NE k):=by rw [obj_cell hbr];rfl
  have u3:=obj_lt hbr
  by_cases hlt:j<NE
  · have hlt1:j<f.ents.length:=by rw [HNE.out];exact hlt
    obtain ⟨ad,rfl,_,e0,e1,e2⟩:=(HF.out.later (HK3.out.trans hkp).below).ent_at j hlt1
    obtain ⟨x,y,z,hxyz,hx,hy,hz⟩:=entBad_no (HEB.out _ (List.getElem_mem hlt1))
    rw [hxyz] at e0 e1 e2
    simp only at e0 e1 e2
    have htk:=entsPut_take f.ents j hlt1
    rw [hxyz] at htk
    have hep:entPut ⟨(x:Int),(y:Int),(z:Int)⟩=lebs [x,y,z]:=rfl
    rw [hep] at htk
    have hte:=entsPut_le (f.ents.take j) (fun e he=>HEB.out e (List.mem_of_mem_take he))
    rw [List.length_take] at hte
    have hl3:=lebs_le [x,y,z] (fun m hm=>by simp at hm;omega)
    simp only [List.length_cons,List.length_nil] at hl3
    have v0:=World.block_lt_of_cell? wr _ e0
    obtain ⟨W2,hW2⟩:∃ W2,W2=(wr.alloc (.cells #[.int .i64 (x:Int),.int .i64 (y:Int),.int .i64 (z:Int)] 2)).drew:=⟨_,rfl⟩
    have hk2:Keeps wr W2:=by rw [hW2];exact ((Keeps.refl wr).alloc _).trans (Keeps.drew _)
    have hb2:W2.heap[wr.heap.size]? = some (.cells #[.int .i64 (x:Int),.int .i64 (y:Int),.int .i64 (z:Int)] 2):=by rw [hW2];exact obj_new wr _
    have hnum:=refNumbers_calls (some ⟨wr.heap.size,0,none⟩) 3 [x,y,z] W2 (by simp) (fun m hm=>by simp at hm;omega) (n64_three hb2)
    have HNUM:=Hi hnum
    have HTK:=Hi htk
    have HTE:=Hi hte
    have HL3:=Hi hl3
    have HKW:=Hi (hkp.trans hk2)
    have HOW:=Hi (hown.below hk2)
    have HW2:=Hi hW2
    have HKR:=Hi hk2
    have D3:=Hi d3
    have E0:=Hi e0
    have E1:=Hi e1
    have E2:=Hi e2
    clear hnum htk hte hl3 hkp hk2 hown hep hxyz hb2 hbr hW2 hx hy hz hlt1
    go_wp2_with fail
    go_region_held3 (fun w'=>w'.cell? ⟨w.heap.size+2,3,none⟩=some (.slice (some ad) NE k)∧w'.cell? (ad.add (j*3))=some (.int .i64 (x:Int))∧w'.cell? ⟨(ad.add (j*3)).block,(ad.add (j*3)).off+1,none⟩=some (.int .i64 (y:Int))∧w'.cell? ⟨(ad.add (j*3)).block,(ad.add (j*3)).off+2,none⟩=some (.int .i64 (z:Int))) (go_keep) (
     (go_simp;go_at_call 122;rw [← HW2.out];refine HNUM.out.mono ?_;rintro e w4 ⟨v4,rfl,hown4,hk4⟩
      have HK24:=Hi hk4
      have hk14:Keeps wr w4:=HKR.out.trans hk4
      have d3':w4.cell? ⟨w.heap.size+2,3,none⟩=some (.slice (some ad) NE k):=hk14.read D3.out
      have e0':w4.cell? (ad.add (j*3))=some (.int .i64 (x:Int)):=hk14.read E0.out
      have e1':w4.cell? ⟨(ad.add (j*3)).block,(ad.add (j*3)).off+1,none⟩=some (.int .i64 (y:Int)):=hk14.read E1.out
      have e2':w4.cell? ⟨(ad.add (j*3)).block,(ad.add (j*3)).off+2,none⟩=some (.int .i64 (z:Int)):=hk14.read E2.out
      clear hk14))
    all_goals
     obtain ⟨A4,M4,c4,rfl,HM4,HR4⟩:=hown4.seen
     have HK4:=Hi (HKW.out.trans hk4)
     have HO4:=Hi (HOW.out.below hk4)
     clear hown4 hk4
     go_wp2_with (at_builtin;refine wpList_append_bytes (w0:=w3) w3.heap.size rfl _ _ 31 5 rfl Tryz.underlying31 info_u8b (.slice A' M c') ((f.ents.take j).flatMap entPut) (lebs [x,y,z]) rfl HO4.out A4 c4 (by rw [HM4.out];rfl) HR4.out (by have:=HTE.out;have:=HL3.out;omega) HK4.out.size HK4.out ?_)
     intro v5 w5 hown5 hb5 _ _
     obtain ⟨A5,M5,c5,rfl,hown5'⟩:=hown5.named HTK.out.symm
     have HO5:=Hi hown5'
     have HK5:Hid (Keeps w3 w5):=Hi hb5
     clear hown5 hown5' hb5
     go_wp2
     exact ⟨⟨j+1,A5,c5,M5,by omega,by go_num,rfl,HO5.out,HK5.out⟩,by simp [intOf];omega⟩
  · have e:f.ents.take j=f.ents:=List.take_of_length_le (by rw [HNE.out];omega)
    rw [e] at hown
    have hl:=HLE.out
    obtain ⟨A5,M5,c5,e5,HM5,HR5⟩:=hown.seen
    injection e5 with g1 g2 g3
    subst g1 g2 g3
    have HLP:=Hi (show (f.ents.flatMap entPut).length≤30*64 by have:=HNE.out;omega)
    generalize f.ents.flatMap entPut=P at *
    have HO4:=Hi (HO3.out.below hkp)
    have HK4:=Hi (HK3.out.trans hkp)
    clear hown hkp e hbr hl
    go_wp2_with (at_builtin;refine wpList_append_bytes (w0:=w) w.heap.size rfl _ _ 31 5 rfl Tryz.underlying31 info_u8b (.slice A3 M3 c3) ([3]++lebs [n,s,t,NE]) P rfl HO4.out A' c' (by rw [HM5.out];rfl) HR5.out ?d2 HK4.out.size HK4.out ?_)
    case d2=>have:=H10.out;have:=HLP.out;rw [List.length_append];simp;omega
    intro v6 w6 hown6 hb6 hg6 _
    obtain ⟨A6,M6,c6,rfl,hown6'⟩:=hown6.named (l':=[3]++(lebs [n,s,t,NE]++P)) (by simp)
    obtain ⟨A7,M7,c7,e7,HM7,HR7⟩:=hown6'.seen
    injection e7 with g1 g2 g3
    subst g1 g2 g3
    have hchk:=refChecked_calls A6 c6 ([3]++(lebs [n,s,t,NE]++P)) w6 (by have:=H10.out;have:=HLP.out;rw [List.length_append,List.length_append];simp;omega) HR7.out
    rw [HM7.out] at hchk
    have HCHK:=Hi hchk
    have HK6:Hid (Keeps w w6):=Hi hb6
    clear hown6 hown6' hb6 hg6 hchk
    go_wp2_with fail
    refine HCHK.out.mono ?_
    rintro e w7 ⟨v7,rfl,hown7,hk7⟩
    have HO7:=Hi (hown7.weaken HK6.out.size)
    have HK7:=Hi (HK6.out.trans hk7)
    clear hown7 hk7 HCHK
    go_wp2
    go_ret
    exact ⟨v7,rfl,HO7.out,HK7.out⟩
end Go.Proofs.YtihodcnnappkbaaGreatDoor
namespace Go.Proofs.YtihodcnnappkbaaGreatDoor
open Go.RowKit Go.BigFrame
set_option linter.unusedVariables false
set_option linter.unusedSimpArgs false
set_option linter.unusedSectionVars false
structure RefRel (w:World) (b:List UInt8) (v a o:Value) (wr:World):Prop where
 out:∃ (at_:Nat) (st:List UInt8) (op:Bool),at_≤b.length∧a=.int .i64 (at_:Int)∧o=.bool op∧OwnB 5 wr w.heap.size v st∧st.length≤2*at_+2 ∧
  (if op=true then st++stuffOf (b.drop at_)=stuffOf b∧st.length≤2*at_ else st=stuffOf b)∧Keeps w wr
def openV (n:Nat) (a o:Value):Nat:=match o with | .bool true=>n-(intOf a).toNat+1 | _=>0
theorem grp_get (l:List UInt8) (k:Nat) (h:k<(grp l).length):∃ h2:k<l.length,l[k]'h2≠0∧l[k]'h2=(grp l)[k]'h:=by
 have hl:=grp_le l
 have h2:k<l.length:=by omega
 have e:l[k]? = (grp l++l.drop (grp l).length)[k]?:=congrArg (fun x:List UInt8=>x[k]?) (grp_append l)
 rw [List.getElem?_append_left h,List.getElem?_eq_getElem h2,List.getElem?_eq_getElem h] at e
 injection e with e
 refine ⟨h2,?_,e⟩
 rw [e]
 intro e0
 exact grp_no l (by rw [← e0];exact List.getElem_mem h)
theorem step_last {st l S:List UInt8} {cb:UInt8} (h:l.length≤(grp l).length) (hs:st++stuffOf l=S) (hc:cb=UInt8.ofNat ((grp l).length+1)):st++[cb]++grp l=S:=by
 obtain ⟨e1,e2⟩:=stuff_last l h
 rw [← hs,e2,hc,e1]
 simp
theorem step_less {st l S:List UInt8} {cb:UInt8} (h:(grp l).length<l.length) (h2:(grp l).length<254) (hs:st++stuffOf l=S) (hc:cb=UInt8.ofNat ((grp l).length+1)):st++[cb]++grp l++stuffOf (l.drop ((grp l).length+1))=S:=by
 rw [← hs,(stuff_less l h h2).2,hc]
 simp
theorem step_full {st l S:List UInt8} {cb:UInt8} (h:(grp l).length<l.length) (h2:(grp l).length=254) (hs:st++stuffOf l=S) (hc:cb=UInt8.ofNat ((grp l).length+1)):st++[cb]++grp l++stuffOf (l.drop (grp l).length)=S:=by
 rw [← hs,(stuff_full l h h2).2.2,hc,h2]
 simp
section
variable {w wr:World} {b l st:List UInt8} {cb:UInt8} {v:Value} {at_ q:Nat} (hN:q=(grp l).length) (hLL:at_+l.length=b.length) (hL:l=b.drop at_) (hS:st++stuffOf l=stuffOf b) (hC:cb=UInt8.ofNat (q+1)) (hsl:st.length≤2*at_)
 (hF:OwnB 5 wr w.heap.size v (st++[cb]++grp l)) (hK:Keeps w wr)
include hN hLL hL hS hC hsl hF hK
theorem len_step:(st++[cb]++grp l).length=st.length+1+q:=by rw [List.length_append,List.length_append,← hN];rfl
theorem close_last (h:¬at_+q<b.length):RefRel w b v (.int .i64 ((at_:Int)+(q:Int))) (.bool (decide ((at_:Int)+(q:Int)<(b.length:Int)))) wr ∧
 openV b.length (.int .i64 ((at_:Int)+(q:Int))) (.bool (decide ((at_:Int)+(q:Int)<(b.length:Int))))<openV b.length (.int .i64 (at_:Int)) (.bool true):=by
 have hd:decide ((at_:Int)+(q:Int)<(b.length:Int))=false:=by rw [decide_eq_false_iff_not];omega
 have hq:=(grp_le l).2
 have hlen:=len_step hN hLL hL hS hC hsl hF hK
 rw [hd]
 refine ⟨.mk ⟨at_+q,_,false,by omega,by go_num,rfl,hF,by rw [hlen];omega,?_,hK⟩,by simp [openV]⟩
 simp only [Bool.false_eq_true,if_false]
 exact step_last (by omega) hS (by rw [hC,hN])
theorem close_full (h:at_+q<b.length) (h2:¬q<254):RefRel w b v (.int .i64 ((at_:Int)+(q:Int))) (.bool true) wr ∧
 openV b.length (.int .i64 ((at_:Int)+(q:Int))) (.bool true)<openV b.length (.int .i64 (at_:Int)) (.bool true):=by
 have hq:=grp_le l
 have hlen:=len_step hN hLL hL hS hC hsl hF hK
 refine ⟨.mk ⟨at_+q,_,true,by omega,by go_num,rfl,hF,by rw [hlen];omega,?_,hK⟩,by simp [openV,intOf];omega⟩
 simp only [if_true]
 refine ⟨?_,by rw [hlen];omega⟩
 have:=step_full (st:=st) (cb:=cb) (by omega) (by omega) hS (by rw [hC,hN])
 rw [← hN] at this
 rw [← this,hL,List.drop_drop]
theorem close_less (h:at_+q<b.length) (h2:q<254):RefRel w b v (.int .i64 ((at_:Int)+(q:Int)+1)) (.bool true) wr ∧
 openV b.length (.int .i64 ((at_:Int)+(q:Int)+1)) (.bool true)<openV b.length (.int .i64 (at_:Int)) (.bool true):=by
 have hq:=grp_le l
 have hlen:=len_step hN hLL hL hS hC hsl hF hK
 refine ⟨.mk ⟨at_+q+1,_,true,by omega,by go_num,rfl,hF,by rw [hlen];omega,?_,hK⟩,by simp [openV,intOf];omega⟩
 simp only [if_true]
 refine ⟨?_,by rw [hlen];omega⟩
 have:=step_less (st:=st) (cb:=cb) (by omega) (by omega) hS (by rw [hC,hN])
 rw [← hN] at this
 rw [← this,hL,List.drop_drop]
 rfl
end
set_option maxRecDepth 100000 in
set_option maxHeartbeats 4000000 in
theorem refStuff_calls (A:Option Addr) (c:Nat) (b:List UInt8) (w:World) (hl:b.length≤274877906944) (hr:Reads w A b) :
 Calls Tryz.prog 88 #[.slice A b.length c] w fun e w'=>∃ v,e=.returned v∧OwnB 5 w' w.heap.size v (stuffOf b)∧Keeps w w':=by
 have HR:=Hi hr
 clear hr
 go_enter Tryz.func88,Tryz.ntmps88
 go_wp2
 go_loopw [3,4,5] (fun v a o wr=>RefRel w b v a o wr) (fun _ a o _=>openV b.length a o)
 case atStart=>exact ⟨0,[],true,Nat.zero_le _,rfl,rfl,OwnB.nil _ _ _,by simp,by simp,Keeps.refl _⟩
 case round=>
  obtain ⟨at_,st,op,hat,rfl,rfl,hown,hsl,hop,hk⟩:=hrel
  have HO:=Hi hown
  have HK:=Hi hk
  clear hown hk
  cases op with
  | false=>
    have HOP:=Hi (show st=stuffOf b by simpa using hop)
    clear hop
    go_wp2
    go_ret
    refine ⟨_,rfl,?_,HK.out⟩
    rw [← HOP.out]
    exact HO.out
  | true=>
    obtain ⟨hst,hsl2⟩:st++stuffOf (b.drop at_)=stuffOf b∧st.length≤2*at_:=by simpa using hop
    obtain ⟨l,hl1⟩:∃ l,l=b.drop at_:=⟨_,rfl⟩
    rw [← hl1] at hst
    have hll:at_+l.length=b.length:=by rw [hl1,List.length_drop];omega
    have hgl:=grp_le l
    have hgget:∀ k (h:k<(grp l).length),∃ hb:at_+k<b.length,b[at_+k]'hb≠0∧b[at_+k]'hb=(grp l)[k]'h:=by
     intro k h
     obtain ⟨h2,h3,h4⟩:=grp_get l k h
     have e:∀ hb:at_+k<b.length,b[at_+k]'hb=l[k]'h2:=by intro hb;subst hl1;rw [List.getElem_drop]
     exact ⟨by omega,by rw [e];exact h3,by rw [e];exact h4⟩
    have hgstop:(grp l).length<254→(grp l).length<l.length→∃ hb:at_+(grp l).length<b.length,b[at_+(grp l).length]'hb=0:=by
     intro h1 h2
     have:=grp_stop l h1 h2
     subst hl1
     rw [List.getElem_drop] at this
     exact ⟨by omega,this⟩
    have HST:=Hi hst
    have HG:=Hi hgget
    have HS:=Hi hgstop
    have HL1:=Hi hl1
    have HLL:=Hi hll
    clear hst hgget hgstop hop hl1
    have hgb:at_+(grp l).length≤b.length:=by omega
    clear hll
    obtain ⟨n,hn⟩:∃ n,n=(grp l).length:=⟨_,rfl⟩
    rw [← hn] at hgl hgb
    have HN:=Hi hn
    clear hn
    go_wp2
    go_loopw [6] (fun k wz=>∃ q:Nat,q≤n∧k=.int .i64 (q:Int)∧wz=wr) (fun k _=>n-(intOf k).toNat)
    case atStart=>exact ⟨0,Nat.zero_le _,rfl,rfl⟩
    case round=>
     obtain ⟨q,hq,rfl,rfl⟩:=hrel
     by_cases hqn:q<n
     · obtain ⟨hb,h1,h2⟩:=HG.out q (by rw [← HN.out];exact hqn)
       obtain ⟨ad,rfl,hc⟩:=(HR.out.below HK.out.below).out (at_+q) hb
       have hz:((((b[at_+q]'hb).toNat:Nat):Int) != 0)=true:=by
        rw [bne_iff_ne];intro e;apply h1;exact UInt8.toNat_inj.1 (by simpa using e)
       clear h1 h2
       go_wp2
       exact ⟨⟨q+1,by omega,by go_num,trivial⟩,by simp [intOf];omega⟩
     · obtain rfl:q=n:=by omega
       clear hqn hq
       obtain ⟨cb,hcb⟩:∃ cb,cb=UInt8.ofNat (q+1):=⟨_,rfl⟩
       have HU:=Hi (show cb.toNat=q+1 by rw [hcb];exact ofNat_toNat q hgl.1)
       have HCB:=Hi hcb
       have hcv:IntKind.u8.wrap ((q:Int)+1)=(q:Int)+1:=by simp [IntKind.wrap,IntKind.bits,IntKind.signed];omega
       clear hcb
       have hcase:(¬q<254∧¬at_+q<b.length)∨(¬q<254∧at_+q<b.length)∨(q<254∧¬at_+q<b.length)∨(q<254∧at_+q<b.length∧∃ ad,A=some ad∧wr.cell? (ad.add (at_+q))=some (.int .u8 0)):=by
        by_cases h1:q<254
        · by_cases h2:at_+q<b.length
          · refine .inr (.inr (.inr ⟨h1,h2,?_⟩))
            obtain ⟨hb,hz⟩:=HS.out (by rw [← HN.out];exact h1) (by rw [← HN.out];have:=HLL.out;omega)
            simp only [← HN.out] at hb hz
            obtain ⟨ad,e,hc⟩:=(HR.out.below HK.out.below).out (at_+q) hb
            rw [hz] at hc
            exact ⟨ad,e,hc⟩
          · exact .inr (.inr (.inl ⟨h1,h2⟩))
        · by_cases h2:at_+q<b.length
          · exact .inr (.inl ⟨h1,h2⟩)
          · exact .inl ⟨h1,h2⟩
       rcases hcase with ⟨k1,k2⟩ | ⟨k1,k2⟩ | ⟨k1,k2⟩ | ⟨k1,k2,ad,rfl,k3⟩
       all_goals
        go_wp2_with (at_builtin;refine wpList_append_bytes (w0:=w) w.heap.size rfl _ _ 31 5 rfl Tryz.underlying31 info_u8 _ st [cb] rfl (HO.out.below ((Keeps.refl _).alloc _).below) _ 1 rfl (Reads.new_at _ [cb] 5 (0,0) #[.int .u8 ((q:Int)+1)] (by rw [show u8s [cb]=[.int .u8 ((cb.toNat:Nat):Int)] from rfl,HU.out];rfl) _ (by simp)) (by simp;omega) (by have:=HK.out.size;simp;omega) (HK.out.alloc _) ?_)
        intro v1 w1 hown1 hb1 _ _
        have HO1:=Hi hown1
        have HK1:=Hi (show Keeps w w1 from hb1)
        clear hown1 hb1 hcv
        go_wp2
        go_loopw [3,7] (fun v i wz=>∃ m:Nat,m≤q∧i=.int .i64 (m:Int)∧OwnB 5 wz w.heap.size v (st++[cb]++(grp l).take m)∧Keeps w wz) (fun _ i _=>q-(intOf i).toNat)
        case atStart=>exact ⟨0,Nat.zero_le _,rfl,by simpa using HO1.out,HK1.out⟩
       all_goals
        obtain ⟨m,hm,rfl,ho2,hk2⟩:=hrel
        have HO2:=Hi ho2
        have HK2:=Hi hk2
        clear ho2 hk2
        by_cases hmq:m<q
        · obtain ⟨hb,h1,h2⟩:=HG.out m (by rw [← HN.out];exact hmq)
          obtain ⟨ad2,e,hc⟩:=(HR.out.below HK2.out.below).out (at_+m) hb
          cases e
          have hlen2:((grp l).take m).length≤254:=by rw [List.length_take];omega
          have hnx:(grp l).take (m+1)=(grp l).take m++[b[at_+m]'hb]:=by rw [List.take_succ_eq_append_getElem (by rw [← HN.out];exact hmq),h2]
          have HNX:=Hi hnx
          clear h1 h2 hnx
          go_wp2_with (at_builtin;refine wpList_append_bytes (w0:=w) w.heap.size rfl _ _ 31 5 rfl Tryz.underlying31 info_u8 _ (st++[cb]++(grp l).take m) [b[at_+m]'hb] rfl (HO2.out.below ((Keeps.refl _).alloc _).below) _ 1 rfl (Reads.new_at _ [b[at_+m]'hb] 5 (0,0) #[.int .u8 (((b[at_+m]'hb).toNat:Nat):Int)] rfl _ (by simp)) (by rw [List.length_append,List.length_append];simp only [List.length_cons,List.length_nil];omega) (by have:=HK2.out.size;simp;omega) (HK2.out.alloc _) ?_)
          intro v2 w2 hown2 hb2 _ _
          have HO3:=Hi hown2
          have HK3:=Hi (show Keeps w w2 from hb2)
          clear hown2 hb2
          go_wp2
          exact ⟨⟨m+1,by omega,by go_num,by rw [HNX.out];have:=HO3.out;simpa [List.append_assoc] using this,HK3.out⟩,by simp [intOf];omega⟩
        · have hfin:=HO2.out
          rw [List.take_of_length_le (by rw [← HN.out];omega)] at hfin
          have HF:=Hi hfin
          clear hfin HO2
          go_wp2
          all_goals first
           | exact close_last HN.out HLL.out HL1.out HST.out HCB.out hsl2 HF.out HK2.out k2
           | exact close_full HN.out HLL.out HL1.out HST.out HCB.out hsl2 HF.out HK2.out k2 k1
           | exact close_less HN.out HLL.out HL1.out HST.out HCB.out hsl2 HF.out HK2.out k2 k1
end Go.Proofs.YtihodcnnappkbaaGreatDoor
namespace Go.Proofs.YtihodcnnappkbaaGreatDoor
open Go.RowKit Go.BigFrame
set_option linter.unusedVariables false
set_option linter.unusedSimpArgs false
attribute [local go_sem] run_storeF
theorem FrS.at_later {w w1:World} {A B E:Option Addr} {f:Fr} (hf:FrS w (fun b=>b<w.heap.size) A B E f) (hk:Keeps w w1):FrS w1 (fun b=>b<w1.heap.size) A B E f:=by
 have h:=hf.later hk.below
 exact ⟨h.sch.mono fun b hb _=>hb,h.blk,fun a e hn=>Nat.lt_of_lt_of_le (h.blkS a e hn) hk.size,h.ent,fun a e hn=>Nat.lt_of_lt_of_le (h.entS a e hn) hk.size,h.lenB,h.lenE⟩
theorem frBody_len {w:World} {A B E:Option Addr} {f:Fr} (hf:FrS w (fun b=>b<w.heap.size) A B E f) (h0:frWrong f=0):(frBody f).length≤34359738368:=by
 unfold frWrong at h0
 have hlb:=hf.lenB
 split at h0
 · rename_i h1
   obtain ⟨n,hn,hn1,hsc⟩:=schWrong_no h0
   have h2:=schCheck_len hsc
   have h3:=lebs_le [f.number.toNat] (fun m hm=>by simp at hm;omega)
   simp only [List.length_cons,List.length_nil] at h3
   have e:frPut f=schPut f:=by unfold frPut;rw [if_pos h1]
   simp only [frBody,e,schPut,List.length_append,List.length_cons,List.length_nil]
   omega
 split at h0
 · rename_i h1 h2
   obtain ⟨n,s,t,r,hn,hs,ht,hr,hn1,hs1,ht1,_,hr1⟩:=datWrong_no h0
   have h3:=lebs_le [f.number.toNat,f.seq.toNat,f.first.toNat,f.rows.toNat] (fun m hm=>by simp at hm;omega)
   simp only [List.length_cons,List.length_nil] at h3
   have e:frPut f=datPut f:=by unfold frPut;rw [if_neg h1,if_pos h2]
   simp only [frBody,e,datPut,List.length_append,List.length_cons,List.length_nil]
   omega
 split at h0
 · rename_i h1 h2 h4
   obtain ⟨n,s,t,hn,hs,ht,hn1,hs1,ht1,hN,hEB⟩:=idxWrong_no h0
   have h3:=lebs_le [f.spot.toNat,f.frames.toNat,f.irows.toNat,f.ents.length] (fun m hm=>by simp at hm;omega)
   have h5:=entsPut_le f.ents hEB
   simp only [List.length_cons,List.length_nil] at h3
   have e:frPut f=idxPut f:=by unfold frPut;rw [if_neg h1,if_neg h2]
   simp only [frBody,e,idxPut,List.length_append,List.length_cons,List.length_nil]
   omega
 · omega
theorem refBody_calls (A B E:Option Addr) (c d k:Nat) (f:Fr) (w:World) (h0:frWrong f=0) (hcap:f.cols.length≤c) (hf:FrS w (fun b=>b<w.heap.size) A B E f) (hw:f.wf) (htb:Tabs w) :
 Calls Tryz.prog 87 #[.agg (frCells A c B d E k f)] w (NewB w (frBody f++le4 (Crc.sum (nats (frBody f))))):=by
 unfold frWrong at h0
 by_cases h1:f.kind=1
 · rw [if_pos h1] at h0
   exact refBody_sch A B E c d k f w h1 h0 hcap hf hw htb
 by_cases h2:f.kind=2
 · rw [if_neg h1,if_pos h2] at h0
   exact refBody_dat A B E c d k f w h2 h0 hf
 by_cases h3:f.kind=3
 · rw [if_neg h1,if_neg h2,if_pos h3] at h0
   exact refBody_idx A B E c d k f w h3 h0 hf
 · rw [if_neg h1,if_neg h2,if_neg h3] at h0
   omega
set_option maxRecDepth 20000 in
set_option maxHeartbeats 2000000 in
theorem refEncode_calls (A B E:Option Addr) (c d k:Nat) (f:Fr) (w:World) (hcap:f.cols.length≤c) (hf:FrS w (fun b=>b<w.heap.size) A B E f) (hw:f.wf) (htb:Tabs w) :
 Calls Tryz.prog 44 #[.agg (frCells A c B d E k f)] w (FPost w (encF f)):=by
 obtain ⟨W,hW⟩:∃ W,W=w.alloc (.cells (frCells A c B d E k f) 36):=⟨_,rfl⟩
 have hk0:Keeps w W:=by rw [hW];exact (Keeps.refl w).alloc _
 have b0:W.heap[w.heap.size]? = some (.cells (frCells A c B d E k f) 36):=by rw [hW];exact obj_new w _
 have hwr:=refWrong_calls A B E c d k f W hcap (hf.at_later hk0) hw (htb.below hk0.below)
 have hbd:=fun w1 (hk:Keeps W w1) (h0:frWrong f=0)=>refBody_calls A B E c d k f w1 h0 hcap (hf.at_later (hk0.trans hk)) hw (htb.below (hk0.trans hk).below)
 have hlen:frWrong f=0→(frBody f).length≤34359738368:=frBody_len hf
 obtain ⟨R,hR⟩:∃ R,R=encF f:=⟨_,rfl⟩
 rw [← hR]
 unfold encF at hR
 have HW:=Hi hwr
 have HBD:=Hi hbd
 have HB:=Hi b0
 have HK:=Hi hk0
 have HLEN:=Hi hlen
 have HR:=Hi hR
 unfold frCells at *
 clear hwr hbd b0 hk0 hlen hR hf hw htb hcap
 generalize f.cols.length=NC at *
 generalize f.block.length=NB at *
 generalize f.ents.length=NE at *
 by_cases h0:frWrong f=0
 · rw [h0] at HW
   have HR1:Hid (R=encFin (frBody f++le4 (Crc.sum (nats (frBody f))))):=Hi (by rw [HR.out,if_pos h0])
   have hl4:(frBody f++le4 (Crc.sum (nats (frBody f)))).length≤34359738372:=by rw [List.length_append];have:=HLEN.out h0;have e:(le4 (Crc.sum (nats (frBody f)))).length=4:=rfl;omega
   have HBD1:=Hi (fun w1 hk=>HBD.out w1 hk h0)
   clear HR HLEN HBD h0
   generalize frBody f++le4 (Crc.sum (nats (frBody f)))=Q at *
   go_enter Tryz.func44,Tryz.ntmps44
   go_wp2_with fail
   rw [← hW]
   clear hW
   refine HW.out.mono ?_
   rintro e w1 ⟨rfl,hk1⟩
   have hbb:=(hk1.below.block _ (obj_lt HB.out)).trans HB.out
   obtain ⟨d0,d1,d2,d3,d4,d5,d6,d7,d8,d9,d10⟩:=cells11 hbb
   have u1:=obj_lt hbb
   have HC:=Hi (HBD1.out w1 hk1)
   have HK1:=Hi (HK.out.trans hk1)
   clear hk1 hbb HBD1 HW HB
   go_wp2_with fail
   refine HC.out.mono ?_
   rintro e w2 ⟨v2,rfl,hown2,hk2⟩
   obtain ⟨A2,M2,c2,rfl,HM2,HR2⟩:=hown2.seen
   have hst:=refStuff_calls A2 c2 Q w2 (by omega) HR2.out
   rw [HM2.out] at hst
   have HST:=Hi hst
   have HK2:=Hi (HK1.out.trans hk2)
   clear hst hown2 hk2 HC d0 d1 d2 d3 d4 d5 d6 d7 d8 d9 d10 u1
   go_wp2_with fail
   refine HST.out.mono ?_
   rintro e w3 ⟨v3,rfl,hown3,hk3⟩
   obtain ⟨A3,M3,c3,rfl,HM3,HR3⟩:=hown3.seen
   have HK3:=Hi (HK2.out.trans hk3)
   clear hown3 hk3 HST
   by_cases hL:2200<M3
   · have HE:Hid (R=.error 2):=Hi (by rw [HR1.out];unfold encFin;rw [if_pos (by rw [HM3.out];exact hL)])
     clear HR1
     go_wp2
     go_ret2
     rw [HE.out]
     exact ⟨rfl,HK3.out⟩
   · have HE:Hid (R=.ok (0 :: (stuffOf Q++[0]))):=Hi (by rw [HR1.out];unfold encFin;rw [if_neg (by rw [HM3.out];exact hL)])
     have hM3:M3≤2200:=by omega
     have HM3L:=Hi hM3
     clear HR1
     obtain ⟨W4,hW4⟩:∃ W4,W4=w3.alloc (.cells #[.int .u8 0] 5):=⟨_,rfl⟩
     have hk4:Keeps w3 W4:=by rw [hW4];exact (Keeps.refl w3).alloc _
     have hown4:OwnB 5 W4 w.heap.size (.slice (some ⟨w3.heap.size,0,none⟩) 1 1) [0]:=by
      rw [hW4];exact OwnB.new1 _ 0 _ rfl _ _ rfl HK3.out.size
     have HO4:=Hi hown4
     have HK4:=Hi (HK3.out.trans hk4)
     have HR4:=Hi (HR3.out.below hk4)
     have HW4:=Hi hW4
     clear hk4 hown4 hW4
     go_wp2_with (at_builtin;rw [← HW4.out];refine wpList_append_bytes (w0:=w) w.heap.size rfl _ _ 31 5 rfl Tryz.underlying31 info_u8b (.slice (some ⟨w3.heap.size,0,none⟩) 1 1) [0] (stuffOf Q) rfl HO4.out A3 c3 (by rw [HM3.out];rfl) HR4.out ?c2 HK4.out.size HK4.out ?_)
     case c2=>have:=HM3.out;have:=HM3L.out;simp;omega
     intro v5 w5 hown5 hb5 _ _
     obtain ⟨A5,M5,c5,rfl,hown5'⟩:=hown5.named (l':=[0]++stuffOf Q) rfl
     have hk5:Keeps w w5:=hb5
     obtain ⟨W6,hW6⟩:∃ W6,W6=w5.alloc (.cells #[.int .u8 0] 5):=⟨_,rfl⟩
     have hk6:Keeps w5 W6:=by rw [hW6];exact (Keeps.refl w5).alloc _
     have HR6:=Hi (show Reads W6 (some ⟨w5.heap.size,0,none⟩) [0] by rw [hW6];exact Reads.new _ _ _ _ _ rfl)
     have HO6:=Hi (hown5'.below hk6)
     have HK6:=Hi (hk5.trans hk6)
     have HW6:=Hi hW6
     clear hown5 hown5' hb5 hk5 hk6 hW6
     go_wp2_with (at_builtin;rw [← HW6.out];refine wpList_append_bytes (w0:=w) w.heap.size rfl _ _ 31 5 rfl Tryz.underlying31 info_u8b (.slice A5 M5 c5) ([0]++stuffOf Q) [0] rfl HO6.out (some ⟨w5.heap.size,0,none⟩) 1 rfl HR6.out ?e2 HK6.out.size HK6.out ?_)
     case e2=>have:=HM3.out;have:=HM3L.out;rw [List.length_append];simp;omega
     intro v7 w7 hown7 hb7 _ _
     obtain ⟨A7,M7,c7,rfl,hown7'⟩:=hown7.named (l':=0 :: (stuffOf Q++[0])) (by simp)
     have HO7:=Hi hown7'
     have HK7:Hid (Keeps w w7):=Hi hb7
     clear hown7 hown7' hb7
     go_wp2
     go_ret2
     rw [HE.out]
     exact ⟨_,rfl,HO7.out,HK7.out⟩
 · have HE:Hid (R=.error (frWrong f)):=Hi (by rw [HR.out,if_neg h0])
   have qe:(frWrong f != 0)=true:=by simpa using h0
   generalize frWrong f=X at *
   clear HR HLEN HBD h0
   go_enter Tryz.func44,Tryz.ntmps44
   go_wp2_with fail
   rw [← hW]
   clear hW
   refine HW.out.mono ?_
   rintro e w1 ⟨rfl,hk1⟩
   have HK1:=Hi (HK.out.trans hk1)
   clear hk1
   go_wp2
   go_ret2
   rw [HE.out]
   exact ⟨rfl,HK1.out⟩
end Go.Proofs.YtihodcnnappkbaaGreatDoor
