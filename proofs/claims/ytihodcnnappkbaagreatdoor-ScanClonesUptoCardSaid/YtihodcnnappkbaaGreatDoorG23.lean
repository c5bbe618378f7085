/-
  The walks of the reference's within, index and Wrong of a frame. Condition: the frame reads, its capacity is Go's, the tables of unicode/utf8 are as laid. The walks of the reference's numbers and Checked. Condition: the slices read, the numbers are of 63 bits. The walk of the reference's Body of a frame. Condition: the frame reads, its capacities are Go's, nothing is wrong with it, the tables of unicode/utf8 are as laid. The walk of the document's Stuff. Condition: the bytes read as a list. The walk of the reference's Encode of a frame. Condition: the frame reads, its capacities are Go's, the tables of unicode/utf8 are as laid.
-/
import Derived.Test.YtihodcnnappkbaaGreatDoorG7
import Derived.Test.YtihodcnnappkbaaGreatDoorG22
import Derived.Test.YtihodcnnappkbaaGreatDoorG8
import Derived.Test.YtihodcnnappkbaaGreatDoorG20
import Derived.Deep.RegionHeld3
import Derived.Test.YtihodcnnappkbaaGreatDoorG6
import Derived.Test.YtihodcnnappkbaaGreatDoorG1
namespace Go.Proofs.YtihodcnnappkbaaGreatDoor
open Go.RowKit Go.BigFrame
set_option linter.unusedVariables false
set_option linter.unusedSimpArgs false
attribute [local go_sem] run_storeF
set_option maxHeartbeats 400000 in
theorem refWithin_calls (n m:Int) (w:World):Calls Tryz.prog 120 #[.int .i64 n,.int .i64 m] w fun e w'=>e=.returned (.bool (!(outOf m n)))∧w=w':=by
 by_cases h0:0≤n
 · have q0:decide (0≤n)=true:=by rw [decide_eq_true_eq];exact h0
   by_cases h1:n<m
   · have q1:decide (n<m)=true:=by rw [decide_eq_true_eq];exact h1
     have hE:outOf m n=false:=by unfold outOf;rw [decide_eq_false (by omega),decide_eq_false (by omega)];rfl
     rw [hE]
     clear hE
     go_enter Tryz.func120,Tryz.ntmps120
     go_wp2
     go_ret
     exact ⟨rfl,rfl⟩
   · have q1:decide (n<m)=false:=by rw [decide_eq_false_iff_not];exact h1
     have hE:outOf m n=true:=by unfold outOf;rw [decide_eq_false (by omega),decide_eq_true (by omega)];rfl
     rw [hE]
     clear hE
     go_enter Tryz.func120,Tryz.ntmps120
     go_wp2
     go_ret
     exact ⟨rfl,rfl⟩
 · have q0:decide (0≤n)=false:=by rw [decide_eq_false_iff_not];exact h0
   have hE:outOf m n=true:=by unfold outOf;rw [decide_eq_true (by omega)];rfl
   rw [hE]
   clear hE
   go_enter Tryz.func120,Tryz.ntmps120
   go_wp2
   go_ret
   exact ⟨rfl,rfl⟩
set_option maxRecDepth 20000 in
set_option maxHeartbeats 2000000 in
theorem refIndex_calls (A B E:Option Addr) (k:Nat) (f:Fr) (w:World) (hf:FrS w (fun b=>b<w.heap.size) A B E f) :
 Calls Tryz.prog 121 #[.agg (ixCells E k f)] w fun e w'=>e=.returned (.int .i64 (idxWrong f))∧Keeps w w':=by
 obtain ⟨W,hW⟩:∃ W,W=w.alloc (.cells (ixCells E k f) 34):=⟨_,rfl⟩
 have ac:Keeps w W:=by rw [hW];exact (Keeps.refl w).alloc _
 have b0:W.heap[w.heap.size]? = some (.cells (ixCells E k f) 34):=by rw [hW];exact obj_new w _
 have cW:=hf.lenE
 obtain ⟨R,hR⟩:∃ R,R=idxWrong f:=⟨_,rfl⟩
 rw [← hR]
 have HF:=Hi hf
 have HB:=Hi b0
 have HK:=Hi ac
 unfold ixCells at *
 unfold idxWrong at hR
 have HR:=Hi hR
 clear hf b0 ac hR
 generalize hL:f.ents.length=N at *
 have HL:=Hi hL
 clear hL
 have HW:=Hi hW
 clear hW
 cases ha:outOf 1099511627776 f.spot <;> cases hb:outOf 1099511627776 f.frames <;> cases hc:outOf 1099511627776 f.irows
 case false.false.false=>
  have aA:Hid (R=if 64<N then 3 else if f.ents.any entBad then 7 else 0):=Hi (by rw [HR.out];simp [ha,hb,hc])
  clear HR
  by_cases bZ:64<N
  · have HE:Hid (R=3):=Hi (by rw [aA.out,if_pos bZ])
    clear aA
    go_enter Tryz.func121,Tryz.ntmps121
    go_wp2_with (go_at_call 120;refine (refWithin_calls _ _ _).mono ?_;rintro e w1 ⟨rfl,rfl⟩)
    go_ret
    exact ⟨by rw [HE.out];rfl,(Keeps.refl w).alloc _⟩
  · have aw:Hid (R=if (f.ents.drop 0).any entBad=true then 7 else 0):=Hi (by rw [aA.out,if_neg bZ];rfl)
    clear aA
    go_enter Tryz.func121,Tryz.ntmps121
    go_wp2_with (go_at_call 120;refine (refWithin_calls _ _ _).mono ?_;rintro e w1 ⟨rfl,rfl⟩)
    go_loopw [6] (fun i wr=>∃ j:Nat,j≤N∧i=.int .i64 (j:Int)∧R=(if (f.ents.drop j).any entBad=true then 7 else 0)∧wr=W) (fun i _=>N-(intOf i).toNat)
    case atStart=>exact ⟨0,by omega,rfl,aw.out,by rw [HW.out]⟩
    case round=>
     obtain ⟨j,hj,rfl,ao,rfl⟩:=hrel
     have c3:wr.cell? ⟨w.heap.size,3,none⟩=some (.slice E N k):=by rw [obj_cell HB.out];rfl
     have u0:=obj_lt HB.out
     by_cases aN:j<N
     · have a4:j<f.ents.length:=by rw [HL.out];exact aN
       rw [any_drop _ _ j a4] at ao
       obtain ⟨ad,rfl,_,e0,e1,e2⟩:=(HF.out.later HK.out.below).ent_at j a4
       have bf:entBad (f.ents[j]'a4)=(outOf 1099511627776 (f.ents[j]'a4).spot||(outOf 1099511627776 (f.ents[j]'a4).row||(outOf 1099511627776 (f.ents[j]'a4).sch||false))):=rfl
       rw [bf] at ao
       generalize (f.ents[j]'a4).spot=p at *
       generalize (f.ents[j]'a4).row=q at *
       generalize (f.ents[j]'a4).sch=r at *
       have aK:=Hi ao
       clear ao bf a4
       cases pa:outOf 1099511627776 p <;> cases pb:outOf 1099511627776 q <;> cases pc:outOf 1099511627776 r
       case false.false.false=>
        have b8:Hid (R=if (f.ents.drop (j+1)).any entBad=true then 7 else 0):=Hi (by rw [aK.out,pa,pb,pc];simp)
        go_wp2_with (go_at_call 120;refine (refWithin_calls _ _ _).mono ?_;rintro e w1 ⟨rfl,rfl⟩)
        first
         | exact ⟨⟨j+1,by omega,by go_num,b8.out,trivial⟩,by simp [intOf];omega⟩
         | (go_roundw
            case rel=>exact ⟨j+1,by omega,by go_num,b8.out,rfl⟩
            case measure=>simp [intOf];omega)
       all_goals
        have b8:Hid (R=7):=Hi (by rw [aK.out,pa,pb,pc];simp)
        go_wp2_with (go_at_call 120;refine (refWithin_calls _ _ _).mono ?_;rintro e w1 ⟨rfl,rfl⟩)
        go_ret
        exact ⟨by rw [b8.out];rfl,HK.out⟩
     · have e:f.ents.drop j=[]:=List.drop_eq_nil_of_le (by rw [HL.out];omega)
       rw [e] at ao
       simp only [List.any_nil,Bool.false_eq_true,if_false] at ao
       have aK:=Hi ao
       clear ao e
       go_wp2
       go_ret
       exact ⟨by rw [aK.out];rfl,HK.out⟩
 all_goals
  have HE:Hid (R=7):=Hi (by rw [HR.out];simp [ha,hb,hc])
  clear HR
  go_enter Tryz.func121,Tryz.ntmps121
  go_wp2_with (go_at_call 120;refine (refWithin_calls _ _ _).mono ?_;rintro e w1 ⟨rfl,rfl⟩)
  go_ret
  exact ⟨by rw [HE.out];rfl,(Keeps.refl w).alloc _⟩
set_option maxRecDepth 20000 in
set_option maxHeartbeats 2000000 in
theorem refWrong_calls (A B E:Option Addr) (c d k:Nat) (f:Fr) (w:World) (af:f.cols.length≤c) (hf:FrS w (fun b=>b<w.heap.size) A B E f) (hw:f.wf) (aE:Tabs w) :
 Calls Tryz.prog 86 #[.agg (frCells A c B d E k f)] w fun e w'=>e=.returned (.int .i64 (frWrong f))∧Keeps w w':=by
 obtain ⟨W,hW⟩:∃ W,W=w.alloc (.cells (frCells A c B d E k f) 36):=⟨_,rfl⟩
 have ac:Keeps w W:=by rw [hW];exact (Keeps.refl w).alloc _
 obtain ⟨R,hR⟩:∃ R,R=frWrong f:=⟨_,rfl⟩
 rw [← hR]
 have a9:=refCheck_calls A c f.cols W af ((hf.later ac.below).sch.mono fun b hb _=>hb) hw.dflt (aE.below ac.below)
 have ce:=refIndex_calls A B E k f W (by
  have h:=hf.later ac.below
  exact ⟨h.sch.mono fun b hb _=>hb,h.blk,fun a e hn=>Nat.lt_of_lt_of_le (h.blkS a e hn) ac.size,h.ent,fun a e hn=>Nat.lt_of_lt_of_le (h.entS a e hn) ac.size,h.lenB,h.lenE⟩)
 have a8:=Hi a9
 have bp:=Hi ce
 have HK:=Hi ac
 unfold frCells at *
 unfold ixCells at *
 unfold frWrong schWrong datWrong at hR
 have HR:=Hi hR
 clear a9 ce ac hR hf hw aE af
 generalize f.cols.length=NC at *
 generalize f.block.length=NB at *
 generalize f.ents.length=NE at *
 generalize f.kind=kd at *
 by_cases h1:kd=1
 · subst h1
   cases ha:outOf 2147483648 f.number with
   | true=>
     have HE:Hid (R=7):=Hi (by rw [HR.out,if_pos rfl,if_pos ha])
     clear HR a8 bp HK hW
     go_enter Tryz.func86,Tryz.ntmps86
     go_wp2_with (go_at_call 120;refine (refWithin_calls _ _ _).mono ?_;rintro e w1 ⟨rfl,rfl⟩)
     go_ret
     exact ⟨by rw [HE.out];rfl,(Keeps.refl w).alloc _⟩
   | false=>
     have HE:Hid (R=schCheck f.cols):=Hi (by rw [HR.out,if_pos rfl,ha];rfl)
     clear HR bp
     go_enter Tryz.func86,Tryz.ntmps86
     go_wp2_with fail
     refine (refWithin_calls _ _ _).mono ?_
     rintro e w1 ⟨rfl,rfl⟩
     go_wp2_with fail
     rw [← hW]
     clear hW
     refine a8.out.mono ?_
     rintro e w1 ⟨rfl,aj⟩
     have au:=Hi (HK.out.trans aj)
     clear aj
     go_wp2
     go_ret
     exact ⟨by rw [HE.out];rfl,au.out⟩
 by_cases h2:kd=2
 · subst h2
   have aw:Hid (R=if outOf 2147483648 f.number||(outOf 1099511627776 f.seq||outOf 1099511627776 f.first)||decide (f.rows<1)||decide (64<f.rows) then 7 else 0):=Hi (by rw [HR.out,if_neg (by omega),if_pos rfl])
   clear HR a8 bp HK hW h1
   obtain ⟨b1,q1⟩:∃ b,decide (f.rows<1)=b:=⟨_,rfl⟩
   obtain ⟨b2,q2⟩:∃ b,decide (64<f.rows)=b:=⟨_,rfl⟩
   cases ha:outOf 2147483648 f.number <;> cases hb:outOf 1099511627776 f.seq <;> cases hc:outOf 1099511627776 f.first <;> cases b1 <;> cases b2
   case false.false.false.false.false=>
    have HE:Hid (R=0):=Hi (by rw [aw.out,ha,hb,hc,q1,q2];rfl)
    clear aw
    go_enter Tryz.func86,Tryz.ntmps86
    go_wp2_with (go_at_call 120;refine (refWithin_calls _ _ _).mono ?_;rintro e w1 ⟨rfl,rfl⟩)
    go_ret
    exact ⟨by rw [HE.out];rfl,(Keeps.refl w).alloc _⟩
   all_goals
    have HE:Hid (R=7):=Hi (by rw [aw.out,ha,hb,hc,q1,q2];rfl)
    clear aw
    go_enter Tryz.func86,Tryz.ntmps86
    go_wp2_with (go_at_call 120;refine (refWithin_calls _ _ _).mono ?_;rintro e w1 ⟨rfl,rfl⟩)
    go_ret
    exact ⟨by rw [HE.out];rfl,(Keeps.refl w).alloc _⟩
 by_cases h3:kd=3
 · subst h3
   have HE:Hid (R=idxWrong f):=Hi (by rw [HR.out,if_neg (by omega),if_neg (by omega),if_pos rfl])
   clear HR a8 h1 h2
   go_enter Tryz.func86,Tryz.ntmps86
   go_wp2_with fail
   rw [← hW]
   clear hW
   refine bp.out.mono ?_
   rintro e w1 ⟨rfl,aj⟩
   have au:=Hi (HK.out.trans aj)
   clear aj
   go_wp2
   go_ret
   exact ⟨by rw [HE.out];rfl,au.out⟩
 · have HE:Hid (R=60):=Hi (by rw [HR.out,if_neg h1,if_neg h2,if_neg h3])
   have q1:(kd==1)=false:=by simpa using h1
   have q2:(kd==2)=false:=by simpa using h2
   have q3:(kd==3)=false:=by simpa using h3
   clear HR a8 bp HK hW h1 h2 h3
   go_enter Tryz.func86,Tryz.ntmps86
   go_wp2
   go_ret
   exact ⟨by rw [HE.out];rfl,(Keeps.refl w).alloc _⟩
set_option maxRecDepth 20000 in
set_option maxHeartbeats 1000000 in
theorem refNumbers_calls (A:Option Addr) (c:Nat) (l:List Nat) (w:World) (hl:l.length≤100000) (hn:∀ n∈l,n<9223372036854775808) (hr:RowAt w A (n64s l)) :
 Calls Tryz.prog 122 #[.slice A l.length c] w (NewB w (lebs l)):=by
 have cO:=Hi hr
 have cq:=Hi hn
 clear hr hn
 generalize hL:l.length=N at hl ⊢
 have HL:=Hi hL
 clear hL
 go_enter Tryz.func122,Tryz.ntmps122
 go_wp2_with fail
 go_loopw [3,4] (fun b i wr=>∃ (m:Nat) (A':Option Addr) (c' M:Nat),m≤N∧i=.int .i64 (m:Int)∧b=.slice A' M c'∧OwnB 5 wr w.heap.size (.slice A' M c') (lebs (l.take m))∧Keeps w wr) (fun _ i _=>N-(intOf i).toNat)
 case atStart=>exact ⟨0,none,0,0,Nat.zero_le _,rfl,rfl,OwnB.nil _ _ _,Keeps.refl _⟩
 case round=>
  obtain ⟨m,A',c',M,hm,rfl,rfl,a1,hk⟩:=hrel
  by_cases aN:m<N
  · have a4:m<l.length:=by rw [HL.out];exact aN
    obtain ⟨ad,rfl,hc⟩:=row_n64 (cO.out.below hk.below) m a4
    have hx:=cq.out _ (List.getElem_mem a4)
    have aQ:=lebs_take l m a4
    have bG:(lebs (l.take m)).length≤10*(l.take m).length:=lebs_le _ fun n hn=>cq.out n (List.mem_of_mem_take hn)
    rw [List.length_take] at bG
    obtain ⟨x,c8⟩:∃ x,x=l[m]'a4:=⟨_,rfl⟩
    rw [← c8] at hc hx aQ
    have a7:=leb_le x (by omega)
    have HP:=Hi (ref3Put_calls x (by omega) wr)
    have bO:=Hi aQ
    have bR:=Hi bG
    have ay:=Hi a7
    have HO:=Hi a1
    have HK:=Hi hk
    clear aQ bG a7 a1 hk c8 a4
    go_wp2_with fail
    refine HP.out.mono ?_
    rintro e w1 ⟨v1,rfl,an,aj⟩
    obtain ⟨A1,M1,c1,rfl,cP,aA⟩:=an.seen
    have bm:=Hi (HO.out.below aj)
    have au:=Hi (HK.out.trans aj)
    clear an aj HP
    go_wp2_with (at_builtin;refine wpList_append_bytes (w0:=w) w.heap.size rfl _ _ 31 5 rfl Tryz.underlying31 info_u8b (.slice A' M c') (lebs (l.take m)) (leb x) rfl bm.out A1 c1 (by rw [cP.out];rfl) aA.out ?c2 au.out.size au.out ?_)
    case c2=>have:=bR.out;have:=ay.out;omega
    intro v2 w2 a0 aC _ _
    obtain ⟨A2,M2,c2,rfl,ai⟩:=a0.named bO.out.symm
    have aq:=Hi ai
    have ar:=Hi aC
    clear a0 ai aC
    go_wp2
    exact ⟨⟨m+1,A2,c2,M2,by omega,by go_num,rfl,aq.out,ar.out⟩,by simp [intOf];omega⟩
  · have e:l.take m=l:=List.take_of_length_le (by rw [HL.out];omega)
    rw [e] at a1
    have HO:=Hi a1
    have HK:=Hi hk
    clear a1 hk e
    go_wp2
    go_ret
    exact ⟨_,rfl,HO.out,HK.out⟩
theorem le4_take (S k:Nat) (h:k<4):(le4 S).take (k+1)=(le4 S).take k++[UInt8.ofNat (S / 256 ^ k % 256)]:=by
 obtain rfl | rfl | rfl | rfl:k=0∨k=1∨k=2∨k=3:=by omega
 all_goals simp [le4]
set_option maxRecDepth 20000 in
set_option maxHeartbeats 1000000 in
theorem refChecked_calls (A:Option Addr) (c:Nat) (l:List UInt8) (w:World) (hl:l.length≤140737488350000) (hr:Reads w A l) :
 Calls Tryz.prog 124 #[.slice A l.length c] w (NewB w (l++le4 (Crc.sum (nats l)))):=by
 have hs:=refSum_calls A c l w (by omega) hr
 have aN:Crc.sum (nats l)<4294967296:=Crc.upd_lt _ (by omega) (nats_lt l)
 generalize Crc.sum (nats l)=S at hs aN ⊢
 have HS:=Hi hs
 have HR:=Hi hr
 clear hs hr
 generalize hL:l.length=N at hl HS ⊢
 have HL:=Hi hL
 clear hL
 go_enter Tryz.func124,Tryz.ntmps124
 go_wp2_with fail
 refine HS.out.mono ?_
 rintro e w1 ⟨rfl,hk⟩
 have bM:Keeps w w1:=by first | exact hk | (subst hk;exact Keeps.refl _) | exact hk.below _ | (obtain ⟨n,rfl⟩:=hk;exact (Quiet.below ⟨n,rfl⟩ _))
 have HK:=Hi bM
 have aA:=Hi (HR.out.below bM.below)
 clear bM hk HS
 go_wp2_with (at_builtin;refine wpList_append_bytes (w0:=w) w.heap.size rfl _ _ 31 5 rfl Tryz.underlying31 info_u8b (.slice none 0 0) [] l rfl (OwnB.nil _ _ _) A c (by rw [HL.out];rfl) aA.out ?c2 HK.out.size HK.out ?_)
 case c2=>have:=HL.out;simp;omega
 intro v2 w2 a0 aC _ _
 obtain ⟨A2,M2,c2,rfl,ai⟩:=a0.named (l':=l++(le4 S).take 0) (by simp)
 have aq:=Hi ai
 have ar:=Hi aC
 clear a0 ai aC
 go_wp2_with fail
 go_loopw [3,4,5] (fun x b i wr=>∃ (k:Nat) (A':Option Addr) (c' M:Nat),k≤4∧i=.int .i64 (k:Int)∧x=.int .u32 ((S / 256 ^ k:Nat):Int)∧b=.slice A' M c'∧OwnB 5 wr w.heap.size (.slice A' M c') (l++(le4 S).take k)∧Keeps w wr) (fun _ _ i _=>4-(intOf i).toNat)
 case atStart=>exact ⟨0,A2,c2,M2,by omega,rfl,by simp,rfl,aq.out,ar.out⟩
 case round=>
  obtain ⟨k,A',c',M,hk,rfl,rfl,rfl,a1,aJ⟩:=hrel
  have HO:=Hi a1
  have co:=Hi aJ
  clear a1 aJ
  by_cases bP:k<4
  · have HT:=Hi (le4_take S k bP)
    have aY:S / 256 ^ (k+1)=S / 256 ^ k / 256:=by rw [Nat.pow_succ,Nat.div_div_eq_div_mul]
    have hM:S / 256 ^ k<4294967296:=Nat.lt_of_le_of_lt (Nat.div_le_self _ _) aN
    generalize S / 256 ^ k=X at HT aY hM ⊢
    have HD:=Hi aY
    clear aY
    obtain ⟨W1,bA⟩:∃ W1,W1=wr.alloc (.cells #[.int .u8 ((X:Int) % 256)] 5):=⟨_,rfl⟩
    have aj:Keeps wr W1:=by rw [bA];exact (Keeps.refl wr).alloc _
    have bt:Reads W1 (some ⟨wr.heap.size,0,none⟩) [UInt8.ofNat (X % 256)]:=by
     rw [bA];exact Reads.new _ _ _ _ _ (by show [Value.int .u8 ((X:Int) % 256)]=[Value.int .u8 (((UInt8.ofNat (X % 256)).toNat:Nat):Int)];rw [byte_of])
    have cV:IntKind.u8.wrap ((X:Int) % 256)=(X:Int) % 256:=by simp [IntKind.wrap,IntKind.bits,IntKind.signed]
    have au:=Hi (co.out.trans aj)
    have bm:=Hi (HO.out.below aj)
    have b8:=Hi bt
    have cA:=Hi bA
    clear aj bt bA
    go_wp2_with (at_builtin;rw [← cA.out];refine wpList_append_bytes (w0:=w) w.heap.size rfl _ _ 31 5 rfl Tryz.underlying31 info_u8b (.slice A' M c') (l++(le4 S).take k) [UInt8.ofNat (X % 256)] rfl bm.out (some ⟨wr.heap.size,0,none⟩) 1 rfl b8.out ?d2 au.out.size au.out ?_)
    case d2=>have:=HL.out;rw [List.length_append,List.length_take];simp;omega
    intro v3 w3 a3 aB _ _
    obtain ⟨A3,M3,c3,rfl,a2⟩:=a3.named (l':=l++(le4 S).take (k+1)) (by rw [HT.out];try simp only [List.append_assoc])
    have aL:=Hi a2
    have br:=Hi aB
    clear a3 a2 aB
    go_wp2
    exact ⟨⟨k+1,A3,c3,M3,by omega,by go_num,by rw [HD.out];go_num,rfl,aL.out,br.out⟩,by simp [intOf];omega⟩
  · obtain rfl:k=4:=by omega
    have e8:(le4 S).take 4=le4 S:=rfl
    rw [e8] at HO
    clear e8
    go_wp2
    go_ret
    exact ⟨_,rfl,HO.out,co.out⟩
theorem Keeps.read {w w':World} (h:Keeps w w') {p:Addr} {v:Value} (hc:w.cell? p=some v):w'.cell? p=some v:=by
 rw [h.below.cell (World.block_lt_of_cell? w _ hc)];exact hc
set_option maxRecDepth 20000 in
set_option maxHeartbeats 2000000 in
theorem refBody_sch (A B E:Option Addr) (c d k:Nat) (f:Fr) (w:World) (h1:f.kind=1) (h0:schWrong f=0) (af:f.cols.length≤c) (hf:FrS w (fun b=>b<w.heap.size) A B E f) (hw:f.wf) (aE:Tabs w) :
 Calls Tryz.prog 87 #[.agg (frCells A c B d E k f)] w (NewB w (frBody f++le4 (Crc.sum (nats (frBody f))))):=by
 obtain ⟨n,hn,bi,be⟩:=schWrong_no h0
 have hb:frBody f=[1]++(lebs [n]++putS f.cols):=by
  have:f.number.toNat=n:=by rw [hn];rfl
  simp [frBody,frPut,schPut,h1,this]
 rw [hb]
 have bY:=schCheck_len be
 have a7:=lebs_le [n] (fun m hm=>by simp at hm;omega)
 simp only [List.length_cons,List.length_nil] at a7
 obtain ⟨W,hW⟩:∃ W,W=((w.alloc (.cells (frCells A c B d E k f) 36)).alloc (.cells #[.int .u8 1] 5)).alloc (.cells #[.int .i64 (n:Int)] 2):=⟨_,rfl⟩
 have ac:Keeps w W:=by rw [hW];exact (((Keeps.refl w).alloc _).alloc _).alloc _
 have b0:W.heap[w.heap.size]? = some (.cells (frCells A c B d E k f) 36):=by rw [hW];exact obj_old (obj_old (obj_new w _) _) _
 have b2:W.heap[w.heap.size+2]? = some (.cells #[.int .i64 (n:Int)] 2):=by rw [hW];exact obj_new_at _ _ _ (by simp)
 have a1:OwnB 5 W w.heap.size (.slice (some ⟨w.heap.size+1,0,none⟩) 1 1) [1]:=by
  rw [hW]
  exact (OwnB.new1 _ 1 _ rfl _ _ (by simp) (by omega)).below ((Keeps.refl _).alloc _).below
 have ag:=refNumbers_calls (some ⟨w.heap.size+2,0,none⟩) 1 [n] W (by simp) (fun m hm=>by simp at hm;omega) (n64_one b2)
 have bh:=fun w3 (hk:Keeps w w3)=>refSchEncode_calls A c f.cols w3 af ((hf.later hk.below).sch.mono fun b hb _=>hb) hw.dflt (aE.below hk.below)
 have aS:∀ w3,Keeps w w3→Calls Tryz.prog 123 #[.agg #[.slice A f.cols.length c]] w3 fun e w'=>∃ A' M c',e=.returned (.tuple #[.slice A' M c',.int .i64 0])∧Hid ((putS f.cols).length=M)∧OwnB 5 w' w3.heap.size (.slice A' M c') (putS f.cols)∧Keeps w3 w':=fun w3 hk=>(bh w3 hk).mono fun e w' h=>by
  unfold EncPost at h
  rw [if_pos be] at h
  obtain ⟨A',c',e1,h2,h3⟩:=h
  exact ⟨A',_,c',e1,Hi rfl,h2,h3⟩
 have bl:=Hi aS
 have al:=Hi ag
 have HB:=Hi b0
 have HK:=Hi ac
 have HO:=Hi a1
 have ck:=Hi bY
 have ay:=Hi a7
 unfold frCells at *
 rw [h1,hn] at hW HB ⊢
 clear bh aS ag b0 b2 ac a1 bY a7 hf hw aE af h0 hb hn h1 be
 generalize putS f.cols=P at *
 generalize f.cols.length=NC at *
 generalize f.block.length=NB at *
 generalize f.ents.length=NE at *
 go_enter Tryz.func87,Tryz.ntmps87
 go_wp2_with fail
 rw [← hW]
 clear hW
 refine al.out.mono ?_
 rintro e w2 ⟨v2,rfl,a0,ae⟩
 obtain ⟨A2,M2,c2,rfl,aT,aw⟩:=a0.seen
 have aq:=Hi (HO.out.below ae)
 have am:=Hi (HK.out.trans ae)
 have ar:=Hi ((ae.below.block _ (obj_lt HB.out)).trans HB.out)
 clear a0 ae al HO HB
 go_wp2_with (at_builtin;refine wpList_append_bytes (w0:=w) w.heap.size rfl _ _ 31 5 rfl Tryz.underlying31 info_u8b (.slice (some ⟨w.heap.size+1,0,none⟩) 1 1) [1] (lebs [n]) rfl aq.out A2 c2 (by rw [aT.out];rfl) aw.out ?c2 am.out.size am.out ?_)
 case c2=>have:=ay.out;simp;omega
 intro v3 w3 a3 aB aR _
 have av:w3.heap[w.heap.size]? = _:=(aR.block _ (obj_lt ar.out) (by simp [Value.ownBlock])).trans ar.out
 have d2:w3.cell? ⟨w.heap.size,2,none⟩=some (.slice A NC c):=by rw [obj_cell av];rfl
 have u3:=obj_lt av
 obtain ⟨A3,M3,c3,rfl,a2⟩:=a3.named (l':=[1]++lebs [n]) rfl
 have aL:=Hi a2
 have ax:Hid (Keeps w w3):=Hi aB
 clear a3 a2 aB aR av ar am aq
 go_wp2_with fail
 refine (bl.out w3 ax.out).mono ?_
 rintro e w4 ⟨A4,M4,c4,rfl,bT,aa,az⟩
 have bc:=Hi aa.form.choose_spec
 obtain ⟨A5,M5,c5,e5,cf,bJ⟩:=aa.seen
 injection e5 with g1 g2 g3
 subst g1 g2 g3
 have aV:=Hi (aL.out.below az)
 have aH:=Hi (ax.out.trans az)
 clear aa az bl bc d2 u3
 go_wp2_with (at_builtin;refine wpList_append_bytes (w0:=w) w.heap.size rfl _ _ 31 5 rfl Tryz.underlying31 info_u8b (.slice A3 M3 c3) ([1]++lebs [n]) P rfl aV.out A4 c4 (by rw [bT.out];rfl) bJ.out ?d2 aH.out.size aH.out ?_)
 case d2=>have:=ay.out;have:=ck.out;rw [List.length_append];simp;omega
 intro v6 w6 ab aM b9 _
 obtain ⟨A6,M6,c6,rfl,a5⟩:=ab.named (l':=[1]++(lebs [n]++P)) (by simp)
 obtain ⟨A7,M7,c7,e7,bg,bb⟩:=a5.seen
 injection e7 with g1 g2 g3
 subst g1 g2 g3
 have a9:=refChecked_calls A6 c6 ([1]++(lebs [n]++P)) w6 (by have:=ay.out;have:=ck.out;rw [List.length_append,List.length_append];simp;omega) bb.out
 rw [bg.out] at a9
 have a8:=Hi a9
 have aI:Hid (Keeps w w6):=Hi aM
 clear ab a5 aM b9 a9
 go_wp2_with fail
 refine a8.out.mono ?_
 rintro e w7 ⟨v7,rfl,a6,aP⟩
 have aW:=Hi (a6.weaken aI.out.size)
 have b5:=Hi (aI.out.trans aP)
 clear a6 aP a8
 go_wp2
 go_ret
 exact ⟨v7,rfl,aW.out,b5.out⟩
set_option maxRecDepth 20000 in
set_option maxHeartbeats 2000000 in
theorem refBody_dat (A B E:Option Addr) (c d k:Nat) (f:Fr) (w:World) (h1:f.kind=2) (h0:datWrong f=0) (hf:FrS w (fun b=>b<w.heap.size) A B E f) :
 Calls Tryz.prog 87 #[.agg (frCells A c B d E k f)] w (NewB w (frBody f++le4 (Crc.sum (nats (frBody f))))):=by
 obtain ⟨n,s,t,r,hn,hs,ht,hr,bi,bF,bN,_,bt⟩:=datWrong_no h0
 have hb:frBody f=[2]++(lebs [n,s,t,r]++f.block):=by
  have e1:f.number.toNat=n:=by rw [hn];rfl
  have e2:f.seq.toNat=s:=by rw [hs];rfl
  have e3:f.first.toNat=t:=by rw [ht];rfl
  have e4:f.rows.toNat=r:=by rw [hr];rfl
  simp [frBody,frPut,datPut,h1,e1,e2,e3,e4]
 rw [hb]
 have bS:=hf.lenB
 have a7:=lebs_le [n,s,t,r] (fun m hm=>by simp at hm;omega)
 simp only [List.length_cons,List.length_nil] at a7
 obtain ⟨W,hW⟩:∃ W,W=((w.alloc (.cells (frCells A c B d E k f) 36)).alloc (.cells #[.int .u8 2] 5)).alloc (.cells #[.int .i64 (n:Int),.int .i64 (s:Int),.int .i64 (t:Int),.int .i64 (r:Int)] 2):=⟨_,rfl⟩
 have ac:Keeps w W:=by rw [hW];exact (((Keeps.refl w).alloc _).alloc _).alloc _
 have b0:W.heap[w.heap.size]? = some (.cells (frCells A c B d E k f) 36):=by rw [hW];exact obj_old (obj_old (obj_new w _) _) _
 have b2:W.heap[w.heap.size+2]? = some (.cells #[.int .i64 (n:Int),.int .i64 (s:Int),.int .i64 (t:Int),.int .i64 (r:Int)] 2):=by rw [hW];exact obj_new_at _ _ _ (by simp)
 have a1:OwnB 5 W w.heap.size (.slice (some ⟨w.heap.size+1,0,none⟩) 1 1) [2]:=by
  rw [hW]
  exact (OwnB.new1 _ 2 _ rfl _ _ (by simp) (by omega)).below ((Keeps.refl _).alloc _).below
 have ag:=refNumbers_calls (some ⟨w.heap.size+2,0,none⟩) 4 [n,s,t,r] W (by simp) (fun m hm=>by simp at hm;omega) (n64_four b2)
 have al:=Hi ag
 have HB:=Hi b0
 have HK:=Hi ac
 have HO:=Hi a1
 have cE:=Hi hf.blk
 have ay:=Hi a7
 have cd:=Hi bS
 unfold frCells at *
 rw [h1,hn,hs,ht,hr] at hW HB ⊢
 clear ag b0 b2 ac a1 a7 hf h0 hb hn hs ht hr h1 bS
 generalize f.cols.length=NC at *
 generalize ct:f.block.length=NB at *
 have bH:=Hi ct
 clear ct
 generalize f.ents.length=NE at *
 go_enter Tryz.func87,Tryz.ntmps87
 go_wp2_with fail
 rw [← hW]
 clear hW
 refine al.out.mono ?_
 rintro e w2 ⟨v2,rfl,a0,ae⟩
 obtain ⟨A2,M2,c2,rfl,aT,aw⟩:=a0.seen
 have aq:=Hi (HO.out.below ae)
 have am:=Hi (HK.out.trans ae)
 have ar:=Hi ((ae.below.block _ (obj_lt HB.out)).trans HB.out)
 clear a0 ae al HO HB
 go_wp2_with (at_builtin;refine wpList_append_bytes (w0:=w) w.heap.size rfl _ _ 31 5 rfl Tryz.underlying31 info_u8b (.slice (some ⟨w.heap.size+1,0,none⟩) 1 1) [2] (lebs [n,s,t,r]) rfl aq.out A2 c2 (by rw [aT.out];rfl) aw.out ?c2 am.out.size am.out ?_)
 case c2=>have:=ay.out;simp;omega
 intro v3 w3 a3 aB aR _
 have av:w3.heap[w.heap.size]? = _:=(aR.block _ (obj_lt ar.out) (by simp [Value.ownBlock])).trans ar.out
 have d2:w3.cell? ⟨w.heap.size,6,none⟩=some (.slice B NB d):=by rw [obj_cell av];rfl
 have u3:=obj_lt av
 obtain ⟨A3,M3,c3,rfl,a2⟩:=a3.named (l':=[2]++lebs [n,s,t,r]) rfl
 have aL:=Hi a2
 have ax:Hid (Keeps w w3):=Hi aB
 have bL:=Hi (cE.out.below aB)
 clear a3 a2 aB aR av ar am aq
 go_wp2_with (at_builtin;refine wpList_append_bytes (w0:=w) w.heap.size rfl _ _ 31 5 rfl Tryz.underlying31 info_u8b (.slice A3 M3 c3) ([2]++lebs [n,s,t,r]) f.block rfl aL.out B d (by rw [bH.out];rfl) bL.out ?d2 ax.out.size ax.out ?_)
 case d2=>have:=ay.out;have:=cd.out;have:=bH.out;rw [List.length_append];simp;omega
 intro v6 w6 ab aM b9 _
 obtain ⟨A6,M6,c6,rfl,a5⟩:=ab.named (l':=[2]++(lebs [n,s,t,r]++f.block)) (by simp)
 obtain ⟨A7,M7,c7,e7,bg,bb⟩:=a5.seen
 injection e7 with g1 g2 g3
 subst g1 g2 g3
 have a9:=refChecked_calls A6 c6 ([2]++(lebs [n,s,t,r]++f.block)) w6 (by have:=ay.out;have:=cd.out;have:=bH.out;rw [List.length_append,List.length_append];simp;omega) bb.out
 rw [bg.out] at a9
 have a8:=Hi a9
 have aI:Hid (Keeps w w6):=Hi aM
 clear ab a5 aM b9 a9
 go_wp2_with fail
 refine a8.out.mono ?_
 rintro e w7 ⟨v7,rfl,a6,aP⟩
 have aW:=Hi (a6.weaken aI.out.size)
 have b5:=Hi (aI.out.trans aP)
 clear a6 aP a8
 go_wp2
 go_ret
 exact ⟨v7,rfl,aW.out,b5.out⟩
set_option maxRecDepth 20000 in
set_option maxHeartbeats 4000000 in
theorem refBody_idx (A B E:Option Addr) (c d k:Nat) (f:Fr) (w:World) (h1:f.kind=3) (h0:idxWrong f=0) (hf:FrS w (fun b=>b<w.heap.size) A B E f) :
 Calls Tryz.prog 87 #[.agg (frCells A c B d E k f)] w (NewB w (frBody f++le4 (Crc.sum (nats (frBody f))))):=by
 obtain ⟨n,s,t,hn,hs,ht,bi,bF,bN,cB,bq⟩:=idxWrong_no h0
 have hb:frBody f=[3]++(lebs [n,s,t,f.ents.length]++f.ents.flatMap entPut):=by
  have e1:f.spot.toNat=n:=by rw [hn];rfl
  have e2:f.frames.toNat=s:=by rw [hs];rfl
  have e3:f.irows.toNat=t:=by rw [ht];rfl
  simp [frBody,frPut,idxPut,h1,e1,e2,e3]
 rw [hb]
 have a7:=lebs_le [n,s,t,f.ents.length] (fun m hm=>by simp at hm;omega)
 simp only [List.length_cons,List.length_nil] at a7
 obtain ⟨W,hW⟩:∃ W,W=(((w.alloc (.cells (frCells A c B d E k f) 36)).alloc (.cells #[.int .u8 3] 5)).alloc (.cells (ixCells E k f) 34)).alloc (.cells #[.int .i64 (n:Int),.int .i64 (s:Int),.int .i64 (t:Int),.int .i64 (f.ents.length:Int)] 2):=⟨_,rfl⟩
 have ac:Keeps w W:=by rw [hW];exact ((((Keeps.refl w).alloc _).alloc _).alloc _).alloc _
 have b0:W.heap[w.heap.size+2]? = some (.cells (ixCells E k f) 34):=by rw [hW];exact obj_old (obj_new_at _ _ _ (by simp)) _
 have b2:W.heap[w.heap.size+3]? = some (.cells #[.int .i64 (n:Int),.int .i64 (s:Int),.int .i64 (t:Int),.int .i64 (f.ents.length:Int)] 2):=by rw [hW];exact obj_new_at _ _ _ (by simp)
 have a1:OwnB 5 W w.heap.size (.slice (some ⟨w.heap.size+1,0,none⟩) 1 1) [3]:=by
  rw [hW]
  exact (OwnB.new1 _ 3 _ rfl _ _ (by simp) (by omega)).below (((Keeps.refl _).alloc _).alloc _).below
 have ag:=refNumbers_calls (some ⟨w.heap.size+3,0,none⟩) 4 [n,s,t,f.ents.length] W (by simp) (fun m hm=>by simp at hm;omega) (n64_four b2)
 have al:=Hi ag
 have HB:=Hi b0
 have HK:=Hi ac
 have HO:=Hi a1
 have HF:=Hi hf
 have cl:=Hi bq
 have ay:=Hi a7
 have bR:=Hi (entsPut_le f.ents bq)
 unfold frCells ixCells at *
 rw [h1,hn,hs,ht] at hW
 rw [h1,hn,hs,ht]
 rw [hn,hs,ht] at HB
 clear ag b0 b2 ac a1 a7 hf h0 hb hn hs ht h1 bq
 generalize f.cols.length=NC at *
 generalize f.block.length=NB at *
 generalize ca:f.ents.length=NE at *
 have bU:=Hi ca
 clear ca
 go_enter Tryz.func87,Tryz.ntmps87
 go_wp2_with fail
 rw [← hW]
 clear hW
 refine al.out.mono ?_
 rintro e w2 ⟨v2,rfl,a0,ae⟩
 obtain ⟨A2,M2,c2,rfl,aT,aw⟩:=a0.seen
 have aq:=Hi (HO.out.below ae)
 have am:=Hi (HK.out.trans ae)
 have ar:=Hi ((ae.below.block _ (obj_lt HB.out)).trans HB.out)
 clear a0 ae al HO HB
 go_wp2_with (at_builtin;refine wpList_append_bytes (w0:=w) w.heap.size rfl _ _ 31 5 rfl Tryz.underlying31 info_u8b (.slice (some ⟨w.heap.size+1,0,none⟩) 1 1) [3] (lebs [n,s,t,NE]) rfl aq.out A2 c2 (by rw [aT.out];rfl) aw.out ?c2 am.out.size am.out ?_)
 case c2=>have:=ay.out;simp;omega
 intro v3 w3 a3 aB aR _
 have av:w3.heap[w.heap.size+2]? = _:=(aR.block _ (obj_lt ar.out) (by simp [Value.ownBlock])).trans ar.out
 obtain ⟨A3,M3,c3,rfl,a2⟩:=a3.named (l':=[3]++lebs [n,s,t,NE]) rfl
 have aL:=Hi a2
 have ax:Hid (Keeps w w3):=Hi aB
 have br:=Hi av
 clear a3 a2 aB aR av ar am aq
 go_wp2_with fail
 go_loopw [4,6] (fun b i wr=>∃ (j:Nat) (A':Option Addr) (c' M:Nat),j≤NE∧i=.int .i64 (j:Int)∧b=.slice A' M c'∧OwnB 5 wr w3.heap.size (.slice A' M c') ((f.ents.take j).flatMap entPut)∧Keeps w3 wr) (fun _ i _=>NE-(intOf i).toNat)
 case atStart=>exact ⟨0,none,0,0,Nat.zero_le _,rfl,rfl,OwnB.nil _ _ _,Keeps.refl _⟩
 case round=>
  obtain ⟨j,A',c',M,hj,rfl,rfl,a1,aJ⟩:=hrel
  have bw:=(aJ.below.block _ (obj_lt br.out)).trans br.out
  have d3:wr.cell? ⟨w.heap.size+2,3,none⟩=some (.slice E NE k):=by rw [obj_cell bw];rfl
  have u3:=obj_lt bw
  by_cases aN:j<NE
  · have a4:j<f.ents.length:=by rw [bU.out];exact aN
    obtain ⟨ad,rfl,_,e0,e1,e2⟩:=(HF.out.later (ax.out.trans aJ).below).ent_at j a4
    obtain ⟨x,y,z,b4,hx,hy,hz⟩:=entBad_no (cl.out _ (List.getElem_mem a4))
    rw [b4] at e0 e1 e2
    simp only at e0 e1 e2
    have aQ:=entsPut_take f.ents j a4
    rw [b4] at aQ
    have ci:entPut ⟨(x:Int),(y:Int),(z:Int)⟩=lebs [x,y,z]:=rfl
    rw [ci] at aQ
    have bK:=entsPut_le (f.ents.take j) (fun e he=>cl.out e (List.mem_of_mem_take he))
    rw [List.length_take] at bK
    have bC:=lebs_le [x,y,z] (fun m hm=>by simp at hm;omega)
    simp only [List.length_cons,List.length_nil] at bC
    have v0:=World.block_lt_of_cell? wr _ e0
    obtain ⟨W2,bs⟩:∃ W2,W2=(wr.alloc (.cells #[.int .i64 (x:Int),.int .i64 (y:Int),.int .i64 (z:Int)] 2)).drew:=⟨_,rfl⟩
    have ae:Keeps wr W2:=by rw [bs];exact ((Keeps.refl wr).alloc _).trans (Keeps.drew _)
    have aC:W2.heap[wr.heap.size]? = some (.cells #[.int .i64 (x:Int),.int .i64 (y:Int),.int .i64 (z:Int)] 2):=by rw [bs];exact obj_new wr _
    have ag:=refNumbers_calls (some ⟨wr.heap.size,0,none⟩) 3 [x,y,z] W2 (by simp) (fun m hm=>by simp at hm;omega) (n64_three aC)
    have al:=Hi ag
    have bO:=Hi aQ
    have cC:=Hi bK
    have cM:=Hi bC
    have cF:=Hi (aJ.trans ae)
    have cI:=Hi (a1.below ae)
    have cz:=Hi bs
    have cS:=Hi ae
    have D3:=Hi d3
    have E0:=Hi e0
    have E1:=Hi e1
    have E2:=Hi e2
    clear ag aQ bK bC aJ ae a1 ci b4 aC bw bs hx hy hz a4
    go_wp2_with fail
    go_region_held3 (fun w'=>w'.cell? ⟨w.heap.size+2,3,none⟩=some (.slice (some ad) NE k)∧w'.cell? (ad.add (j*3))=some (.int .i64 (x:Int))∧w'.cell? ⟨(ad.add (j*3)).block,(ad.add (j*3)).off+1,none⟩=some (.int .i64 (y:Int))∧w'.cell? ⟨(ad.add (j*3)).block,(ad.add (j*3)).off+2,none⟩=some (.int .i64 (z:Int))) (go_keep) (
     (go_simp;go_at_call 122;rw [← cz.out];refine al.out.mono ?_;rintro e w4 ⟨v4,rfl,aa,az⟩
      have cv:=Hi az
      have aF:Keeps wr w4:=cS.out.trans az
      have d3':w4.cell? ⟨w.heap.size+2,3,none⟩=some (.slice (some ad) NE k):=aF.read D3.out
      have e0':w4.cell? (ad.add (j*3))=some (.int .i64 (x:Int)):=aF.read E0.out
      have e1':w4.cell? ⟨(ad.add (j*3)).block,(ad.add (j*3)).off+1,none⟩=some (.int .i64 (y:Int)):=aF.read E1.out
      have e2':w4.cell? ⟨(ad.add (j*3)).block,(ad.add (j*3)).off+2,none⟩=some (.int .i64 (z:Int)):=aF.read E2.out
      clear aF))
    all_goals
     obtain ⟨A4,M4,c4,rfl,bT,bc⟩:=aa.seen
     have aH:=Hi (cF.out.trans az)
     have aV:=Hi (cI.out.below az)
     clear aa az
     go_wp2_with (at_builtin;refine wpList_append_bytes (w0:=w3) w3.heap.size rfl _ _ 31 5 rfl Tryz.underlying31 info_u8b (.slice A' M c') ((f.ents.take j).flatMap entPut) (lebs [x,y,z]) rfl aV.out A4 c4 (by rw [bT.out];rfl) bc.out (by have:=cC.out;have:=cM.out;omega) aH.out.size aH.out ?_)
     intro v5 w5 ap bn _ _
     obtain ⟨A5,M5,c5,rfl,ah⟩:=ap.named bO.out.symm
     have cR:=Hi ah
     have cy:Hid (Keeps w3 w5):=Hi bn
     clear ap ah bn
     go_wp2
     exact ⟨⟨j+1,A5,c5,M5,by omega,by go_num,rfl,cR.out,cy.out⟩,by simp [intOf];omega⟩
  · have e:f.ents.take j=f.ents:=List.take_of_length_le (by rw [bU.out];omega)
    rw [e] at a1
    have hl:=bR.out
    obtain ⟨A5,M5,c5,e5,cf,bJ⟩:=a1.seen
    injection e5 with g1 g2 g3
    subst g1 g2 g3
    have cc:=Hi (show (f.ents.flatMap entPut).length≤30*64 by have:=bU.out;omega)
    generalize f.ents.flatMap entPut=P at *
    have aV:=Hi (aL.out.below aJ)
    have aH:=Hi (ax.out.trans aJ)
    clear a1 aJ e bw hl
    go_wp2_with (at_builtin;refine wpList_append_bytes (w0:=w) w.heap.size rfl _ _ 31 5 rfl Tryz.underlying31 info_u8b (.slice A3 M3 c3) ([3]++lebs [n,s,t,NE]) P rfl aV.out A' c' (by rw [cf.out];rfl) bJ.out ?d2 aH.out.size aH.out ?_)
    case d2=>have:=ay.out;have:=cc.out;rw [List.length_append];simp;omega
    intro v6 w6 ab aM b9 _
    obtain ⟨A6,M6,c6,rfl,a5⟩:=ab.named (l':=[3]++(lebs [n,s,t,NE]++P)) (by simp)
    obtain ⟨A7,M7,c7,e7,bg,bb⟩:=a5.seen
    injection e7 with g1 g2 g3
    subst g1 g2 g3
    have a9:=refChecked_calls A6 c6 ([3]++(lebs [n,s,t,NE]++P)) w6 (by have:=ay.out;have:=cc.out;rw [List.length_append,List.length_append];simp;omega) bb.out
    rw [bg.out] at a9
    have a8:=Hi a9
    have aI:Hid (Keeps w w6):=Hi aM
    clear ab a5 aM b9 a9
    go_wp2_with fail
    refine a8.out.mono ?_
    rintro e w7 ⟨v7,rfl,a6,aP⟩
    have aW:=Hi (a6.weaken aI.out.size)
    have b5:=Hi (aI.out.trans aP)
    clear a6 aP a8
    go_wp2
    go_ret
    exact ⟨v7,rfl,aW.out,b5.out⟩
end Go.Proofs.YtihodcnnappkbaaGreatDoor
namespace Go.Proofs.YtihodcnnappkbaaGreatDoor
open Go.RowKit Go.BigFrame
set_option linter.unusedVariables false
set_option linter.unusedSimpArgs false
set_option linter.unusedSectionVars false
structure RefRel (w:World) (b:List UInt8) (v a o:Value) (wr:World):Prop where
 out:∃ (at_:Nat) (st:List UInt8) (op:Bool),at_≤b.length∧a=.int .i64 (at_:Int)∧o=.bool op∧OwnB 5 wr w.heap.size v st∧st.length≤2*at_+2 ∧
  (if op=true then st++stuffOf (b.drop at_)=stuffOf b∧st.length≤2*at_ else st=stuffOf b)∧Keeps w wr
def openV (n:Nat) (a o:Value):Nat:=match o with | .bool true=>n-(intOf a).toNat+1 | _=>0
theorem grp_get (l:List UInt8) (k:Nat) (h:k<(grp l).length):∃ h2:k<l.length,l[k]'h2≠0∧l[k]'h2=(grp l)[k]'h:=by
 have hl:=grp_le l
 have h2:k<l.length:=by omega
 have e:l[k]? = (grp l++l.drop (grp l).length)[k]?:=congrArg (fun x:List UInt8=>x[k]?) (grp_append l)
 rw [List.getElem?_append_left h,List.getElem?_eq_getElem h2,List.getElem?_eq_getElem h] at e
 injection e with e
 refine ⟨h2, ?_,e⟩
 rw [e]
 intro e0
 exact grp_no l (by rw [← e0];exact List.getElem_mem h)
theorem step_last {st l S:List UInt8} {cb:UInt8} (h:l.length≤(grp l).length) (hs:st++stuffOf l=S) (hc:cb=UInt8.ofNat ((grp l).length+1)):st++[cb]++grp l=S:=by
 obtain ⟨e1,e2⟩:=stuff_last l h
 rw [← hs,e2,hc,e1]
 simp
theorem step_less {st l S:List UInt8} {cb:UInt8} (h:(grp l).length<l.length) (h2:(grp l).length<254) (hs:st++stuffOf l=S) (hc:cb=UInt8.ofNat ((grp l).length+1)):st++[cb]++grp l++stuffOf (l.drop ((grp l).length+1))=S:=by
 rw [← hs,(stuff_less l h h2).2,hc]
 simp
theorem step_full {st l S:List UInt8} {cb:UInt8} (h:(grp l).length<l.length) (h2:(grp l).length=254) (hs:st++stuffOf l=S) (hc:cb=UInt8.ofNat ((grp l).length+1)):st++[cb]++grp l++stuffOf (l.drop (grp l).length)=S:=by
 rw [← hs,(stuff_full l h h2).2.2,hc,h2]
 simp
section
variable {w wr:World} {b l st:List UInt8} {cb:UInt8} {v:Value} {at_ q:Nat} (hN:q=(grp l).length) (bu:at_+l.length=b.length) (hL:l=b.drop at_) (hS:st++stuffOf l=stuffOf b) (hC:cb=UInt8.ofNat (q+1)) (bk:st.length≤2*at_)
 (hF:OwnB 5 wr w.heap.size v (st++[cb]++grp l)) (hK:Keeps w wr)
include hN bu hL hS hC bk hF hK
theorem len_step:(st++[cb]++grp l).length=st.length+1+q:=by rw [List.length_append,List.length_append,← hN];rfl
theorem close_last (h:¬at_+q<b.length):RefRel w b v (.int .i64 ((at_:Int)+(q:Int))) (.bool (decide ((at_:Int)+(q:Int)<(b.length:Int)))) wr ∧
 openV b.length (.int .i64 ((at_:Int)+(q:Int))) (.bool (decide ((at_:Int)+(q:Int)<(b.length:Int))))<openV b.length (.int .i64 (at_:Int)) (.bool true):=by
 have hd:decide ((at_:Int)+(q:Int)<(b.length:Int))=false:=by rw [decide_eq_false_iff_not];omega
 have hq:=(grp_le l).2
 have ak:=len_step hN bu hL hS hC bk hF hK
 rw [hd]
 refine ⟨.mk ⟨at_+q,_,false,by omega,by go_num,rfl,hF,by rw [ak];omega, ?_,hK⟩,by simp [openV]⟩
 simp only [Bool.false_eq_true,if_false]
 exact step_last (by omega) hS (by rw [hC,hN])
theorem close_full (h:at_+q<b.length) (h2:¬q<254):RefRel w b v (.int .i64 ((at_:Int)+(q:Int))) (.bool true) wr ∧
 openV b.length (.int .i64 ((at_:Int)+(q:Int))) (.bool true)<openV b.length (.int .i64 (at_:Int)) (.bool true):=by
 have hq:=grp_le l
 have ak:=len_step hN bu hL hS hC bk hF hK
 refine ⟨.mk ⟨at_+q,_,true,by omega,by go_num,rfl,hF,by rw [ak];omega, ?_,hK⟩,by simp [openV,intOf];omega⟩
 simp only [if_true]
 refine ⟨?_,by rw [ak];omega⟩
 have:=step_full (st:=st) (cb:=cb) (by omega) (by omega) hS (by rw [hC,hN])
 rw [← hN] at this
 rw [← this,hL,List.drop_drop]
theorem close_less (h:at_+q<b.length) (h2:q<254):RefRel w b v (.int .i64 ((at_:Int)+(q:Int)+1)) (.bool true) wr ∧
 openV b.length (.int .i64 ((at_:Int)+(q:Int)+1)) (.bool true)<openV b.length (.int .i64 (at_:Int)) (.bool true):=by
 have hq:=grp_le l
 have ak:=len_step hN bu hL hS hC bk hF hK
 refine ⟨.mk ⟨at_+q+1,_,true,by omega,by go_num,rfl,hF,by rw [ak];omega, ?_,hK⟩,by simp [openV,intOf];omega⟩
 simp only [if_true]
 refine ⟨?_,by rw [ak];omega⟩
 have:=step_less (st:=st) (cb:=cb) (by omega) (by omega) hS (by rw [hC,hN])
 rw [← hN] at this
 rw [← this,hL,List.drop_drop]
 rfl
end
set_option maxRecDepth 100000 in
set_option maxHeartbeats 4000000 in
theorem refStuff_calls (A:Option Addr) (c:Nat) (b:List UInt8) (w:World) (hl:b.length≤274877906944) (hr:Reads w A b) :
 Calls Tryz.prog 88 #[.slice A b.length c] w fun e w'=>∃ v,e=.returned v∧OwnB 5 w' w.heap.size v (stuffOf b)∧Keeps w w':=by
 have HR:=Hi hr
 clear hr
 go_enter Tryz.func88,Tryz.ntmps88
 go_wp2
 go_loopw [3,4,5] (fun v a o wr=>RefRel w b v a o wr) (fun _ a o _=>openV b.length a o)
 case atStart=>exact ⟨0,[],true,Nat.zero_le _,rfl,rfl,OwnB.nil _ _ _,by simp,by simp,Keeps.refl _⟩
 case round=>
  obtain ⟨at_,st,op,cU,rfl,rfl,a1,bk,bx,hk⟩:=hrel
  have HO:=Hi a1
  have HK:=Hi hk
  clear a1 hk
  cases op with
  | false=>
    have cK:=Hi (show st=stuffOf b by simpa using bx)
    clear bx
    go_wp2
    go_ret
    refine ⟨_,rfl, ?_,HK.out⟩
    rw [← cK.out]
    exact HO.out
  | true=>
    obtain ⟨aU,aZ⟩:st++stuffOf (b.drop at_)=stuffOf b∧st.length≤2*at_:=by simpa using bx
    obtain ⟨l,b7⟩:∃ l,l=b.drop at_:=⟨_,rfl⟩
    rw [← b7] at aU
    have cp:at_+l.length=b.length:=by rw [b7,List.length_drop];omega
    have ch:=grp_le l
    have aO:∀ k (h:k<(grp l).length),∃ hb:at_+k<b.length,b[at_+k]'hb≠0∧b[at_+k]'hb=(grp l)[k]'h:=by
     intro k h
     obtain ⟨h2,h3,h4⟩:=grp_get l k h
     have e:∀ hb:at_+k<b.length,b[at_+k]'hb=l[k]'h2:=by intro hb;subst b7;rw [List.getElem_drop]
     exact ⟨by omega,by rw [e];exact h3,by rw [e];exact h4⟩
    have aG:(grp l).length<254→(grp l).length<l.length→∃ hb:at_+(grp l).length<b.length,b[at_+(grp l).length]'hb=0:=by
     intro h1 h2
     have:=grp_stop l h1 h2
     subst b7
     rw [List.getElem_drop] at this
     exact ⟨by omega,this⟩
    have b6:=Hi aU
    have HG:=Hi aO
    have HS:=Hi aG
    have bD:=Hi b7
    have bB:=Hi cp
    clear aU aO aG bx b7
    have cL:at_+(grp l).length≤b.length:=by omega
    clear cp
    obtain ⟨n,hn⟩:∃ n,n=(grp l).length:=⟨_,rfl⟩
    rw [← hn] at ch cL
    have HN:=Hi hn
    clear hn
    go_wp2
    go_loopw [6] (fun k wz=>∃ q:Nat,q≤n∧k=.int .i64 (q:Int)∧wz=wr) (fun k _=>n-(intOf k).toNat)
    case atStart=>exact ⟨0,Nat.zero_le _,rfl,rfl⟩
    case round=>
     obtain ⟨q,hq,rfl,rfl⟩:=hrel
     by_cases c9:q<n
     · obtain ⟨hb,h1,h2⟩:=HG.out q (by rw [← HN.out];exact c9)
       obtain ⟨ad,rfl,hc⟩:=(HR.out.below HK.out.below).out (at_+q) hb
       have hz:((((b[at_+q]'hb).toNat:Nat):Int) != 0)=true:=by
        rw [bne_iff_ne];intro e;apply h1;exact UInt8.toNat_inj.1 (by simpa using e)
       clear h1 h2
       go_wp2
       exact ⟨⟨q+1,by omega,by go_num,trivial⟩,by simp [intOf];omega⟩
     · obtain rfl:q=n:=by omega
       clear c9 hq
       obtain ⟨cb,bQ⟩:∃ cb,cb=UInt8.ofNat (q+1):=⟨_,rfl⟩
       have HU:=Hi (show cb.toNat=q+1 by rw [bQ];exact ofNat_toNat q ch.1)
       have bE:=Hi bQ
       have cw:IntKind.u8.wrap ((q:Int)+1)=(q:Int)+1:=by simp [IntKind.wrap,IntKind.bits,IntKind.signed];omega
       clear bQ
       have bj:(¬q<254∧¬at_+q<b.length)∨(¬q<254∧at_+q<b.length)∨(q<254∧¬at_+q<b.length)∨(q<254∧at_+q<b.length∧∃ ad,A=some ad∧wr.cell? (ad.add (at_+q))=some (.int .u8 0)):=by
        by_cases h1:q<254
        · by_cases h2:at_+q<b.length
          · refine .inr (.inr (.inr ⟨h1,h2, ?_⟩))
            obtain ⟨hb,hz⟩:=HS.out (by rw [← HN.out];exact h1) (by rw [← HN.out];have:=bB.out;omega)
            simp only [← HN.out] at hb hz
            obtain ⟨ad,e,hc⟩:=(HR.out.below HK.out.below).out (at_+q) hb
            rw [hz] at hc
            exact ⟨ad,e,hc⟩
          · exact .inr (.inr (.inl ⟨h1,h2⟩))
        · by_cases h2:at_+q<b.length
          · exact .inr (.inl ⟨h1,h2⟩)
          · exact .inl ⟨h1,h2⟩
       rcases bj with ⟨k1,k2⟩ | ⟨k1,k2⟩ | ⟨k1,k2⟩ | ⟨k1,k2,ad,rfl,k3⟩
       all_goals
        go_wp2_with (at_builtin;refine wpList_append_bytes (w0:=w) w.heap.size rfl _ _ 31 5 rfl Tryz.underlying31 info_u8 _ st [cb] rfl (HO.out.below ((Keeps.refl _).alloc _).below) _ 1 rfl (Reads.new_at _ [cb] 5 (0,0) #[.int .u8 ((q:Int)+1)] (by rw [show u8s [cb]=[.int .u8 ((cb.toNat:Nat):Int)] from rfl,HU.out];rfl) _ (by simp)) (by simp;omega) (by have:=HK.out.size;simp;omega) (HK.out.alloc _) ?_)
        intro v1 w1 an cm _ _
        have bm:=Hi an
        have au:=Hi (show Keeps w w1 from cm)
        clear an cm cw
        go_wp2
        go_loopw [3,7] (fun v i wz=>∃ m:Nat,m≤q∧i=.int .i64 (m:Int)∧OwnB 5 wz w.heap.size v (st++[cb]++(grp l).take m)∧Keeps w wz) (fun _ i _=>q-(intOf i).toNat)
        case atStart=>exact ⟨0,Nat.zero_le _,rfl,by simpa using bm.out,au.out⟩
       all_goals
        obtain ⟨m,hm,rfl,cu,ae⟩:=hrel
        have aq:=Hi cu
        have am:=Hi ae
        clear cu ae
        by_cases bW:m<q
        · obtain ⟨hb,h1,h2⟩:=HG.out m (by rw [← HN.out];exact bW)
          obtain ⟨ad2,e,hc⟩:=(HR.out.below am.out.below).out (at_+m) hb
          cases e
          have cs:((grp l).take m).length≤254:=by rw [List.length_take];omega
          have c0:(grp l).take (m+1)=(grp l).take m++[b[at_+m]'hb]:=by rw [List.take_succ_eq_append_getElem (by rw [← HN.out];exact bW),h2]
          have cN:=Hi c0
          clear h1 h2 c0
          go_wp2_with (at_builtin;refine wpList_append_bytes (w0:=w) w.heap.size rfl _ _ 31 5 rfl Tryz.underlying31 info_u8 _ (st++[cb]++(grp l).take m) [b[at_+m]'hb] rfl (aq.out.below ((Keeps.refl _).alloc _).below) _ 1 rfl (Reads.new_at _ [b[at_+m]'hb] 5 (0,0) #[.int .u8 (((b[at_+m]'hb).toNat:Nat):Int)] rfl _ (by simp)) (by rw [List.length_append,List.length_append];simp only [List.length_cons,List.length_nil];omega) (by have:=am.out.size;simp;omega) (am.out.alloc _) ?_)
          intro v2 w2 a0 aC _ _
          have aL:=Hi a0
          have ax:=Hi (show Keeps w w2 from aC)
          clear a0 aC
          go_wp2
          exact ⟨⟨m+1,by omega,by go_num,by rw [cN.out];have:=aL.out;simpa [List.append_assoc] using this,ax.out⟩,by simp [intOf];omega⟩
        · have b3:=aq.out
          rw [List.take_of_length_le (by rw [← HN.out];omega)] at b3
          have HF:=Hi b3
          clear b3 aq
          go_wp2
          all_goals first
           | exact close_last HN.out bB.out bD.out b6.out bE.out aZ HF.out am.out k2
           | exact close_full HN.out bB.out bD.out b6.out bE.out aZ HF.out am.out k2 k1
           | exact close_less HN.out bB.out bD.out b6.out bE.out aZ HF.out am.out k2 k1
end Go.Proofs.YtihodcnnappkbaaGreatDoor
namespace Go.Proofs.YtihodcnnappkbaaGreatDoor
open Go.RowKit Go.BigFrame
set_option linter.unusedVariables false
set_option linter.unusedSimpArgs false
attribute [local go_sem] run_storeF
theorem FrS.at_later {w w1:World} {A B E:Option Addr} {f:Fr} (hf:FrS w (fun b=>b<w.heap.size) A B E f) (hk:Keeps w w1):FrS w1 (fun b=>b<w1.heap.size) A B E f:=by
 have h:=hf.later hk.below
 exact ⟨h.sch.mono fun b hb _=>hb,h.blk,fun a e hn=>Nat.lt_of_lt_of_le (h.blkS a e hn) hk.size,h.ent,fun a e hn=>Nat.lt_of_lt_of_le (h.entS a e hn) hk.size,h.lenB,h.lenE⟩
theorem frBody_len {w:World} {A B E:Option Addr} {f:Fr} (hf:FrS w (fun b=>b<w.heap.size) A B E f) (h0:frWrong f=0):(frBody f).length≤34359738368:=by
 unfold frWrong at h0
 have bS:=hf.lenB
 split at h0
 · rename_i h1
   obtain ⟨n,hn,bi,be⟩:=schWrong_no h0
   have h2:=schCheck_len be
   have h3:=lebs_le [f.number.toNat] (fun m hm=>by simp at hm;omega)
   simp only [List.length_cons,List.length_nil] at h3
   have e:frPut f=schPut f:=by unfold frPut;rw [if_pos h1]
   simp only [frBody,e,schPut,List.length_append,List.length_cons,List.length_nil]
   omega
 split at h0
 · rename_i h1 h2
   obtain ⟨n,s,t,r,hn,hs,ht,hr,bi,bF,bN,_,bt⟩:=datWrong_no h0
   have h3:=lebs_le [f.number.toNat,f.seq.toNat,f.first.toNat,f.rows.toNat] (fun m hm=>by simp at hm;omega)
   simp only [List.length_cons,List.length_nil] at h3
   have e:frPut f=datPut f:=by unfold frPut;rw [if_neg h1,if_pos h2]
   simp only [frBody,e,datPut,List.length_append,List.length_cons,List.length_nil]
   omega
 split at h0
 · rename_i h1 h2 h4
   obtain ⟨n,s,t,hn,hs,ht,bi,bF,bN,hN,bq⟩:=idxWrong_no h0
   have h3:=lebs_le [f.spot.toNat,f.frames.toNat,f.irows.toNat,f.ents.length] (fun m hm=>by simp at hm;omega)
   have h5:=entsPut_le f.ents bq
   simp only [List.length_cons,List.length_nil] at h3
   have e:frPut f=idxPut f:=by unfold frPut;rw [if_neg h1,if_neg h2]
   simp only [frBody,e,idxPut,List.length_append,List.length_cons,List.length_nil]
   omega
 · omega
theorem refBody_calls (A B E:Option Addr) (c d k:Nat) (f:Fr) (w:World) (h0:frWrong f=0) (af:f.cols.length≤c) (hf:FrS w (fun b=>b<w.heap.size) A B E f) (hw:f.wf) (aE:Tabs w) :
 Calls Tryz.prog 87 #[.agg (frCells A c B d E k f)] w (NewB w (frBody f++le4 (Crc.sum (nats (frBody f))))):=by
 unfold frWrong at h0
 by_cases h1:f.kind=1
 · rw [if_pos h1] at h0
   exact refBody_sch A B E c d k f w h1 h0 af hf hw aE
 by_cases h2:f.kind=2
 · rw [if_neg h1,if_pos h2] at h0
   exact refBody_dat A B E c d k f w h2 h0 hf
 by_cases h3:f.kind=3
 · rw [if_neg h1,if_neg h2,if_pos h3] at h0
   exact refBody_idx A B E c d k f w h3 h0 hf
 · rw [if_neg h1,if_neg h2,if_neg h3] at h0
   omega
set_option maxRecDepth 20000 in
set_option maxHeartbeats 2000000 in
theorem refEncode_calls (A B E:Option Addr) (c d k:Nat) (f:Fr) (w:World) (af:f.cols.length≤c) (hf:FrS w (fun b=>b<w.heap.size) A B E f) (hw:f.wf) (aE:Tabs w) :
 Calls Tryz.prog 44 #[.agg (frCells A c B d E k f)] w (FPost w (encF f)):=by
 obtain ⟨W,hW⟩:∃ W,W=w.alloc (.cells (frCells A c B d E k f) 36):=⟨_,rfl⟩
 have ac:Keeps w W:=by rw [hW];exact (Keeps.refl w).alloc _
 have b0:W.heap[w.heap.size]? = some (.cells (frCells A c B d E k f) 36):=by rw [hW];exact obj_new w _
 have cj:=refWrong_calls A B E c d k f W af (hf.at_later ac) hw (aE.below ac.below)
 have cn:=fun w1 (hk:Keeps W w1) (h0:frWrong f=0)=>refBody_calls A B E c d k f w1 h0 af (hf.at_later (ac.trans hk)) hw (aE.below (ac.trans hk).below)
 have ak:frWrong f=0→(frBody f).length≤34359738368:=frBody_len hf
 obtain ⟨R,hR⟩:∃ R,R=encF f:=⟨_,rfl⟩
 rw [← hR]
 unfold encF at hR
 have HW:=Hi cj
 have bV:=Hi cn
 have HB:=Hi b0
 have HK:=Hi ac
 have aX:=Hi ak
 have HR:=Hi hR
 unfold frCells at *
 clear cj cn b0 ac ak hR hf hw aE af
 generalize f.cols.length=NC at *
 generalize f.block.length=NB at *
 generalize f.ents.length=NE at *
 by_cases h0:frWrong f=0
 · rw [h0] at HW
   have aA:Hid (R=encFin (frBody f++le4 (Crc.sum (nats (frBody f))))):=Hi (by rw [HR.out,if_pos h0])
   have cT:(frBody f++le4 (Crc.sum (nats (frBody f)))).length≤34359738372:=by rw [List.length_append];have:=aX.out h0;have e:(le4 (Crc.sum (nats (frBody f)))).length=4:=rfl;omega
   have bo:=Hi (fun w1 hk=>bV.out w1 hk h0)
   clear HR aX bV h0
   generalize frBody f++le4 (Crc.sum (nats (frBody f)))=Q at *
   go_enter Tryz.func44,Tryz.ntmps44
   go_wp2_with fail
   rw [← hW]
   clear hW
   refine HW.out.mono ?_
   rintro e w1 ⟨rfl,aj⟩
   have av:=(aj.below.block _ (obj_lt HB.out)).trans HB.out
   obtain ⟨d0,d1,d2,d3,d4,d5,d6,d7,d8,d9,d10⟩:=cells11 av
   have u1:=obj_lt av
   have HC:=Hi (bo.out w1 aj)
   have au:=Hi (HK.out.trans aj)
   clear aj av bo HW HB
   go_wp2_with fail
   refine HC.out.mono ?_
   rintro e w2 ⟨v2,rfl,a0,ae⟩
   obtain ⟨A2,M2,c2,rfl,aT,aw⟩:=a0.seen
   have aU:=refStuff_calls A2 c2 Q w2 (by omega) aw.out
   rw [aT.out] at aU
   have b6:=Hi aU
   have am:=Hi (au.out.trans ae)
   clear aU a0 ae HC d0 d1 d2 d3 d4 d5 d6 d7 d8 d9 d10 u1
   go_wp2_with fail
   refine b6.out.mono ?_
   rintro e w3 ⟨v3,rfl,a3,cr⟩
   obtain ⟨A3,M3,c3,rfl,ba,cQ⟩:=a3.seen
   have ax:=Hi (am.out.trans cr)
   clear a3 cr b6
   by_cases hL:2200<M3
   · have HE:Hid (R=.error 2):=Hi (by rw [aA.out];unfold encFin;rw [if_pos (by rw [ba.out];exact hL)])
     clear aA
     go_wp2
     go_ret2
     rw [HE.out]
     exact ⟨rfl,ax.out⟩
   · have HE:Hid (R=.ok (0 :: (stuffOf Q++[0]))):=Hi (by rw [aA.out];unfold encFin;rw [if_neg (by rw [ba.out];exact hL)])
     have cG:M3≤2200:=by omega
     have bd:=Hi cG
     clear aA
     obtain ⟨W4,bz⟩:∃ W4,W4=w3.alloc (.cells #[.int .u8 0] 5):=⟨_,rfl⟩
     have az:Keeps w3 W4:=by rw [bz];exact (Keeps.refl w3).alloc _
     have aa:OwnB 5 W4 w.heap.size (.slice (some ⟨w3.heap.size,0,none⟩) 1 1) [0]:=by
      rw [bz];exact OwnB.new1 _ 0 _ rfl _ _ rfl ax.out.size
     have aV:=Hi aa
     have aH:=Hi (ax.out.trans az)
     have bc:=Hi (cQ.out.below az)
     have cD:=Hi bz
     clear az aa bz
     go_wp2_with (at_builtin;rw [← cD.out];refine wpList_append_bytes (w0:=w) w.heap.size rfl _ _ 31 5 rfl Tryz.underlying31 info_u8b (.slice (some ⟨w3.heap.size,0,none⟩) 1 1) [0] (stuffOf Q) rfl aV.out A3 c3 (by rw [ba.out];rfl) bc.out ?c2 aH.out.size aH.out ?_)
     case c2=>have:=ba.out;have:=bd.out;simp;omega
     intro v5 w5 ap bn _ _
     obtain ⟨A5,M5,c5,rfl,ah⟩:=ap.named (l':=[0]++stuffOf Q) rfl
     have bX:Keeps w w5:=bn
     obtain ⟨W6,bv⟩:∃ W6,W6=w5.alloc (.cells #[.int .u8 0] 5):=⟨_,rfl⟩
     have bI:Keeps w5 W6:=by rw [bv];exact (Keeps.refl w5).alloc _
     have cJ:=Hi (show Reads W6 (some ⟨w5.heap.size,0,none⟩) [0] by rw [bv];exact Reads.new _ _ _ _ _ rfl)
     have cx:=Hi (ah.below bI)
     have aI:=Hi (bX.trans bI)
     have cH:=Hi bv
     clear ap ah bn bX bI bv
     go_wp2_with (at_builtin;rw [← cH.out];refine wpList_append_bytes (w0:=w) w.heap.size rfl _ _ 31 5 rfl Tryz.underlying31 info_u8b (.slice A5 M5 c5) ([0]++stuffOf Q) [0] rfl cx.out (some ⟨w5.heap.size,0,none⟩) 1 rfl cJ.out ?e2 aI.out.size aI.out ?_)
     case e2=>have:=ba.out;have:=bd.out;rw [List.length_append];simp;omega
     intro v7 w7 a6 cg _ _
     obtain ⟨A7,M7,c7,rfl,aD⟩:=a6.named (l':=0 :: (stuffOf Q++[0])) (by simp)
     have aW:=Hi aD
     have b5:Hid (Keeps w w7):=Hi cg
     clear a6 aD cg
     go_wp2
     go_ret2
     rw [HE.out]
     exact ⟨_,rfl,aW.out,b5.out⟩
 · have HE:Hid (R=.error (frWrong f)):=Hi (by rw [HR.out,if_neg h0])
   have qe:(frWrong f != 0)=true:=by simpa using h0
   generalize frWrong f=X at *
   clear HR aX bV h0
   go_enter Tryz.func44,Tryz.ntmps44
   go_wp2_with fail
   rw [← hW]
   clear hW
   refine HW.out.mono ?_
   rintro e w1 ⟨rfl,aj⟩
   have au:=Hi (HK.out.trans aj)
   clear aj
   go_wp2
   go_ret2
   rw [HE.out]
   exact ⟨rfl,au.out⟩
end Go.Proofs.YtihodcnnappkbaaGreatDoor
