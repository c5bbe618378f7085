/-
  The walks of the reference's within, index and Wrong of a frame. Condition: the frame reads, its capacity is Go's, the tables of unicode/utf8 are as laid. The walks of the reference's numbers and Checked. Condition: the slices read, the numbers are of 63 bits. The walk of the reference's Body of a frame. Condition: the frame reads, its capacities are Go's, nothing is wrong with it, the tables of unicode/utf8 are as laid. The walk of the document's Stuff. Condition: the bytes read as a list. The walk of the reference's Encode of a frame. Condition: the frame reads, its capacities are Go's, the tables of unicode/utf8 are as laid.
-/
import Derived.Test.YtihodcnnappkbaaGreatDoorG7
import Derived.Test.YtihodcnnappkbaaGreatDoorG22
import Derived.Test.YtihodcnnappkbaaGreatDoorG8
import Derived.Test.YtihodcnnappkbaaGreatDoorG20
import Derived.Deep.RegionHeld3
import Derived.Test.YtihodcnnappkbaaGreatDoorG6
import Derived.Test.YtihodcnnappkbaaGreatDoorG1
set_option linter.unusedVariables false
set_option linter.unusedSimpArgs false
set_option maxHeartbeats 4000000
set_option maxRecDepth 100000
namespace Go.Proofs.YtihodcnnappkbaaGreatDoor
section
open Go.RowKit Go.BigFrame
attribute [local go_sem] run_storeF
theorem refWithin_calls (n m:Int) (w:World):Calls Tryz.prog 120 #[.int .i64 n,.int .i64 m] w fun e w'=>e=.returned (.bool (!(outOf m n)))∧w=w':=by
 by_cases h0:0≤n
 · have q0:decide (0≤n)=true:=by rw [decide_eq_true_eq];exact h0
   by_cases h1:n<m
   · have q1:decide (n<m)=true:=by rw [decide_eq_true_eq];exact h1
     have hE:outOf m n=false:=by unfold outOf;rw [decide_eq_false (by omega),decide_eq_false (by omega)];rfl
     rw [hE]
     clear hE
     go_enter Tryz.func120,Tryz.ntmps120
     go_wp2
     go_ret
     exact ⟨rfl,rfl⟩
   · have q1:decide (n<m)=false:=by rw [decide_eq_false_iff_not];exact h1
     have hE:outOf m n=true:=by unfold outOf;rw [decide_eq_false (by omega),decide_eq_true (by omega)];rfl
     rw [hE]
     clear hE
     go_enter Tryz.func120,Tryz.ntmps120
     go_wp2
     go_ret
     exact ⟨rfl,rfl⟩
 · have q0:decide (0≤n)=false:=by rw [decide_eq_false_iff_not];exact h0
   have hE:outOf m n=true:=by unfold outOf;rw [decide_eq_true (by omega)];rfl
   rw [hE]
   clear hE
   go_enter Tryz.func120,Tryz.ntmps120
   go_wp2
   go_ret
   exact ⟨rfl,rfl⟩
theorem refIndex_calls (A B E:Option Addr) (k:Nat) (f:Fr) (w:World) (hf:FrS w (fun b=>b<w.heap.size) A B E f) :
 Calls Tryz.prog 121 #[.agg (ixCells E k f)] w fun e w'=>e=.returned (.int .i64 (idxWrong f))∧Keeps w w':=by
 obtain ⟨W,hW⟩:∃ W,W=w.alloc (.cells (ixCells E k f) 34):=⟨_,rfl⟩
 have ab:Keeps w W:=by rw [hW];exact (Keeps.refl w).alloc _
 have b0:W.heap[w.heap.size]? = some (.cells (ixCells E k f) 34):=by rw [hW];exact obj_new w _
 have cV:=hf.lenE
 obtain ⟨R,hR⟩:∃ R,R=idxWrong f:=⟨_,rfl⟩
 rw [← hR]
 have HF:=Hi hf
 have HB:=Hi b0
 have HK:=Hi ab
 unfold ixCells at *
 unfold idxWrong at hR
 have HR:=Hi hR
 clear hf b0 ab hR
 generalize hL:f.ents.length=N at *
 have HL:=Hi hL
 clear hL
 have HW:=Hi hW
 clear hW
 cases ha:outOf 1099511627776 f.spot <;> cases hb:outOf 1099511627776 f.frames <;> cases hc:outOf 1099511627776 f.irows
 case false.false.false=>
  have ay:Hid (R=if 64<N then 3 else if f.ents.any entBad then 7 else 0):=Hi (by rw [HR.out];simp [ha,hb,hc])
  clear HR
  by_cases ch:64<N
  · have HE:Hid (R=3):=Hi (by rw [ay.out,if_pos ch])
    clear ay
    go_enter Tryz.func121,Tryz.ntmps121
    go_wp2_with (go_at_call 120;refine (refWithin_calls _ _ _).mono ?_;rintro e w1 ⟨rfl,rfl⟩)
    go_ret
    exact ⟨by rw [HE.out];rfl,(Keeps.refl w).alloc _⟩
  · have av:Hid (R=if (f.ents.drop 0).any entBad=true then 7 else 0):=Hi (by rw [ay.out,if_neg ch];rfl)
    clear ay
    go_enter Tryz.func121,Tryz.ntmps121
    go_wp2_with (go_at_call 120;refine (refWithin_calls _ _ _).mono ?_;rintro e w1 ⟨rfl,rfl⟩)
    go_loopw [6] (fun i wr=>∃ j:Nat,j≤N∧i=.int .i64 (j:Int)∧R=(if (f.ents.drop j).any entBad=true then 7 else 0)∧wr=W) (fun i _=>N-(intOf i).toNat)
    case atStart=>exact ⟨0,by omega,rfl,av.out,by rw [HW.out]⟩
    case round=>
     obtain ⟨j,hj,rfl,ao,rfl⟩:=hrel
     have c3:wr.cell? ⟨w.heap.size,3,none⟩=some (.slice E N k):=by rw [obj_cell HB.out];rfl
     have u0:=obj_lt HB.out
     by_cases aP:j<N
     · have a4:j<f.ents.length:=by rw [HL.out];exact aP
       rw [any_drop _ _ j a4] at ao
       obtain ⟨ad,rfl,_,e0,e1,e2⟩:=(HF.out.later HK.out.below).ent_at j a4
       have bn:entBad (f.ents[j]'a4)=(outOf 1099511627776 (f.ents[j]'a4).spot||(outOf 1099511627776 (f.ents[j]'a4).row||(outOf 1099511627776 (f.ents[j]'a4).sch||false))):=rfl
       rw [bn] at ao
       generalize (f.ents[j]'a4).spot=p at *
       generalize (f.ents[j]'a4).row=q at *
       generalize (f.ents[j]'a4).sch=r at *
       have aL:=Hi ao
       clear ao bn a4
       cases pa:outOf 1099511627776 p <;> cases pb:outOf 1099511627776 q <;> cases pc:outOf 1099511627776 r
       case false.false.false=>
        have b7:Hid (R=if (f.ents.drop (j+1)).any entBad=true then 7 else 0):=Hi (by rw [aL.out,pa,pb,pc];simp)
        go_wp2_with (go_at_call 120;refine (refWithin_calls _ _ _).mono ?_;rintro e w1 ⟨rfl,rfl⟩)
        first
         | exact ⟨⟨j+1,by omega,by go_num,b7.out,trivial⟩,by simp [intOf];omega⟩
         | (go_roundw
            case rel=>exact ⟨j+1,by omega,by go_num,b7.out,rfl⟩
            case measure=>simp [intOf];omega)
       all_goals
        have b7:Hid (R=7):=Hi (by rw [aL.out,pa,pb,pc];simp)
        go_wp2_with (go_at_call 120;refine (refWithin_calls _ _ _).mono ?_;rintro e w1 ⟨rfl,rfl⟩)
        go_ret
        exact ⟨by rw [b7.out];rfl,HK.out⟩
     · have e:f.ents.drop j=[]:=List.drop_eq_nil_of_le (by rw [HL.out];omega)
       rw [e] at ao
       simp only [List.any_nil,Bool.false_eq_true,if_false] at ao
       have aL:=Hi ao
       clear ao e
       go_wp2
       go_ret
       exact ⟨by rw [aL.out];rfl,HK.out⟩
 all_goals
  have HE:Hid (R=7):=Hi (by rw [HR.out];simp [ha,hb,hc])
  clear HR
  go_enter Tryz.func121,Tryz.ntmps121
  go_wp2_with (go_at_call 120;refine (refWithin_calls _ _ _).mono ?_;rintro e w1 ⟨rfl,rfl⟩)
  go_ret
  exact ⟨by rw [HE.out];rfl,(Keeps.refl w).alloc _⟩
theorem refWrong_calls (A B E:Option Addr) (c d k:Nat) (f:Fr) (w:World) (af:f.cols.length≤c) (hf:FrS w (fun b=>b<w.heap.size) A B E f) (hw:f.wf) (aG:Tabs w) :
 Calls Tryz.prog 86 #[.agg (frCells A c B d E k f)] w fun e w'=>e=.returned (.int .i64 (frWrong f))∧Keeps w w':=by
 obtain ⟨W,hW⟩:∃ W,W=w.alloc (.cells (frCells A c B d E k f) 36):=⟨_,rfl⟩
 have ab:Keeps w W:=by rw [hW];exact (Keeps.refl w).alloc _
 obtain ⟨R,hR⟩:∃ R,R=frWrong f:=⟨_,rfl⟩
 rw [← hR]
 have a8:=refCheck_calls A c f.cols W af ((hf.later ab.below).sch.mono fun b hb _=>hb) hw.dflt (aG.below ab.below)
 have cu:=refIndex_calls A B E k f W (by
  have h:=hf.later ab.below
  exact ⟨h.sch.mono fun b hb _=>hb,h.blk,fun a e hn=>Nat.lt_of_lt_of_le (h.blkS a e hn) ab.size,h.ent,fun a e hn=>Nat.lt_of_lt_of_le (h.entS a e hn) ab.size,h.lenB,h.lenE⟩)
 have a9:=Hi a8
 have bh:=Hi cu
 have HK:=Hi ab
 unfold frCells at *
 unfold ixCells at *
 unfold frWrong schWrong datWrong at hR
 have HR:=Hi hR
 clear a8 cu ab hR hf hw aG af
 generalize f.cols.length=NC at *
 generalize f.block.length=NB at *
 generalize f.ents.length=NE at *
 generalize f.kind=kd at *
 by_cases h1:kd=1
 · subst h1
   cases ha:outOf 2147483648 f.number with
   | true=>
     have HE:Hid (R=7):=Hi (by rw [HR.out,if_pos rfl,if_pos ha])
     clear HR a9 bh HK hW
     go_enter Tryz.func86,Tryz.ntmps86
     go_wp2_with (go_at_call 120;refine (refWithin_calls _ _ _).mono ?_;rintro e w1 ⟨rfl,rfl⟩)
     go_ret
     exact ⟨by rw [HE.out];rfl,(Keeps.refl w).alloc _⟩
   | false=>
     have HE:Hid (R=schCheck f.cols):=Hi (by rw [HR.out,if_pos rfl,ha];rfl)
     clear HR bh
     go_enter Tryz.func86,Tryz.ntmps86
     go_wp2_with fail
     refine (refWithin_calls _ _ _).mono ?_
     rintro e w1 ⟨rfl,rfl⟩
     go_wp2_with fail
     rw [← hW]
     clear hW
     refine a9.out.mono ?_
     rintro e w1 ⟨rfl,al⟩
     have au:=Hi (HK.out.trans al)
     clear al
     go_wp2
     go_ret
     exact ⟨by rw [HE.out];rfl,au.out⟩
 by_cases h2:kd=2
 · subst h2
   have av:Hid (R=if outOf 2147483648 f.number||(outOf 1099511627776 f.seq||outOf 1099511627776 f.first)||decide (f.rows<1)||decide (64<f.rows) then 7 else 0):=Hi (by rw [HR.out,if_neg (by omega),if_pos rfl])
   clear HR a9 bh HK hW h1
   obtain ⟨b1,q1⟩:∃ b,decide (f.rows<1)=b:=⟨_,rfl⟩
   obtain ⟨b2,q2⟩:∃ b,decide (64<f.rows)=b:=⟨_,rfl⟩
   cases ha:outOf 2147483648 f.number <;> cases hb:outOf 1099511627776 f.seq <;> cases hc:outOf 1099511627776 f.first <;> cases b1 <;> cases b2
   case false.false.false.false.false=>
    have HE:Hid (R=0):=Hi (by rw [av.out,ha,hb,hc,q1,q2];rfl)
    clear av
    go_enter Tryz.func86,Tryz.ntmps86
    go_wp2_with (go_at_call 120;refine (refWithin_calls _ _ _).mono ?_;rintro e w1 ⟨rfl,rfl⟩)
    go_ret
    exact ⟨by rw [HE.out];rfl,(Keeps.refl w).alloc _⟩
   all_goals
    have HE:Hid (R=7):=Hi (by rw [av.out,ha,hb,hc,q1,q2];rfl)
    clear av
    go_enter Tryz.func86,Tryz.ntmps86
    go_wp2_with (go_at_call 120;refine (refWithin_calls _ _ _).mono ?_;rintro e w1 ⟨rfl,rfl⟩)
    go_ret
    exact ⟨by rw [HE.out];rfl,(Keeps.refl w).alloc _⟩
 by_cases h3:kd=3
 · subst h3
   have HE:Hid (R=idxWrong f):=Hi (by rw [HR.out,if_neg (by omega),if_neg (by omega),if_pos rfl])
   clear HR a9 h1 h2
   go_enter Tryz.func86,Tryz.ntmps86
   go_wp2_with fail
   rw [← hW]
   clear hW
   refine bh.out.mono ?_
   rintro e w1 ⟨rfl,al⟩
   have au:=Hi (HK.out.trans al)
   clear al
   go_wp2
   go_ret
   exact ⟨by rw [HE.out];rfl,au.out⟩
 · have HE:Hid (R=60):=Hi (by rw [HR.out,if_neg h1,if_neg h2,if_neg h3])
   have q1:(kd==1)=false:=by simpa using h1
   have q2:(kd==2)=false:=by simpa using h2
   have q3:(kd==3)=false:=by simpa using h3
   clear HR a9 bh HK hW h1 h2 h3
   go_enter Tryz.func86,Tryz.ntmps86
   go_wp2
   go_ret
   exact ⟨by rw [HE.out];rfl,(Keeps.refl w).alloc _⟩
theorem refNumbers_calls (A:Option Addr) (c:Nat) (l:List Nat) (w:World) (hl:l.length≤100000) (hn:∀ n∈l,n<9223372036854775808) (hr:RowAt w A (n64s l)) :
 Calls Tryz.prog 122 #[.slice A l.length c] w (NewB w (lebs l)):=by
 have cJ:=Hi hr
 have cs:=Hi hn
 clear hr hn
 generalize hL:l.length=N at hl ⊢
 have HL:=Hi hL
 clear hL
 go_enter Tryz.func122,Tryz.ntmps122
 go_wp2_with fail
 go_loopw [3,4] (fun b i wr=>∃ (m:Nat) (A':Option Addr) (c' M:Nat),m≤N∧i=.int .i64 (m:Int)∧b=.slice A' M c'∧OwnB 5 wr w.heap.size (.slice A' M c') (lebs (l.take m))∧Keeps w wr) (fun _ i _=>N-(intOf i).toNat)
 case atStart=>exact ⟨0,none,0,0,Nat.zero_le _,rfl,rfl,OwnB.nil _ _ _,Keeps.refl _⟩
 case round=>
  obtain ⟨m,A',c',M,hm,rfl,rfl,a1,hk⟩:=hrel
  by_cases aP:m<N
  · have a4:m<l.length:=by rw [HL.out];exact aP
    obtain ⟨ad,rfl,hc⟩:=row_n64 (cJ.out.below hk.below) m a4
    have hx:=cs.out _ (List.getElem_mem a4)
    have aO:=lebs_take l m a4
    have bD:(lebs (l.take m)).length≤10*(l.take m).length:=lebs_le _ fun n hn=>cs.out n (List.mem_of_mem_take hn)
    rw [List.length_take] at bD
    obtain ⟨x,cn⟩:∃ x,x=l[m]'a4:=⟨_,rfl⟩
    rw [← cn] at hc hx aO
    have aa:=leb_le x (by omega)
    have HP:=Hi (ref3Put_calls x (by omega) wr)
    have bE:=Hi aO
    have bU:=Hi bD
    have az:=Hi aa
    have HO:=Hi a1
    have HK:=Hi hk
    clear aO bD aa a1 hk cn a4
    go_wp2_with fail
    refine HP.out.mono ?_
    rintro e w1 ⟨v1,rfl,ap,al⟩
    obtain ⟨A1,M1,c1,rfl,cP,ay⟩:=ap.seen
    have bm:=Hi (HO.out.below al)
    have au:=Hi (HK.out.trans al)
    clear ap al HP
    go_wp2_with (at_builtin;refine wpList_append_bytes (w0:=w) w.heap.size rfl _ _ 31 5 rfl Tryz.underlying31 info_u8b (.slice A' M c') (lebs (l.take m)) (leb x) rfl bm.out A1 c1 (by rw [cP.out];rfl) ay.out ?c2 au.out.size au.out ?_)
    case c2=>have:=bU.out;have:=az.out;omega
    intro v2 w2 a0 aH _ _
    obtain ⟨A2,M2,c2,rfl,ai⟩:=a0.named bE.out.symm
    have aq:=Hi ai
    have ar:=Hi aH
    clear a0 ai aH
    go_wp2
    exact ⟨⟨m+1,A2,c2,M2,by omega,by go_num,rfl,aq.out,ar.out⟩,by simp [intOf];omega⟩
  · have e:l.take m=l:=List.take_of_length_le (by rw [HL.out];omega)
    rw [e] at a1
    have HO:=Hi a1
    have HK:=Hi hk
    clear a1 hk e
    go_wp2
    go_ret
    exact ⟨_,rfl,HO.out,HK.out⟩
theorem le4_take (S k:Nat) (h:k<4):(le4 S).take (k+1)=(le4 S).take k++[UInt8.ofNat (S / 256 ^ k % 256)]:=by
 obtain rfl | rfl | rfl | rfl:k=0∨k=1∨k=2∨k=3:=by omega
 all_goals simp [le4]
theorem refChecked_calls (A:Option Addr) (c:Nat) (l:List UInt8) (w:World) (hl:l.length≤140737488350000) (hr:Reads w A l) :
 Calls Tryz.prog 124 #[.slice A l.length c] w (NewB w (l++le4 (Crc.sum (nats l)))):=by
 have hs:=refSum_calls A c l w (by omega) hr
 have aP:Crc.sum (nats l)<4294967296:=Crc.upd_lt _ (by omega) (nats_lt l)
 generalize Crc.sum (nats l)=S at hs aP ⊢
 have HS:=Hi hs
 have HR:=Hi hr
 clear hs hr
 generalize hL:l.length=N at hl HS ⊢
 have HL:=Hi hL
 clear hL
 go_enter Tryz.func124,Tryz.ntmps124
 go_wp2_with fail
 refine HS.out.mono ?_
 rintro e w1 ⟨rfl,hk⟩
 have bP:Keeps w w1:=by first | exact hk | (subst hk;exact Keeps.refl _) | exact hk.below _ | (obtain ⟨n,rfl⟩:=hk;exact (Quiet.below ⟨n,rfl⟩ _))
 have HK:=Hi bP
 have ay:=Hi (HR.out.below bP.below)
 clear bP hk HS
 go_wp2_with (at_builtin;refine wpList_append_bytes (w0:=w) w.heap.size rfl _ _ 31 5 rfl Tryz.underlying31 info_u8b (.slice none 0 0) [] l rfl (OwnB.nil _ _ _) A c (by rw [HL.out];rfl) ay.out ?c2 HK.out.size HK.out ?_)
 case c2=>have:=HL.out;simp;omega
 intro v2 w2 a0 aH _ _
 obtain ⟨A2,M2,c2,rfl,ai⟩:=a0.named (l':=l++(le4 S).take 0) (by simp)
 have aq:=Hi ai
 have ar:=Hi aH
 clear a0 ai aH
 go_wp2_with fail
 go_loopw [3,4,5] (fun x b i wr=>∃ (k:Nat) (A':Option Addr) (c' M:Nat),k≤4∧i=.int .i64 (k:Int)∧x=.int .u32 ((S / 256 ^ k:Nat):Int)∧b=.slice A' M c'∧OwnB 5 wr w.heap.size (.slice A' M c') (l++(le4 S).take k)∧Keeps w wr) (fun _ _ i _=>4-(intOf i).toNat)
 case atStart=>exact ⟨0,A2,c2,M2,by omega,rfl,by simp,rfl,aq.out,ar.out⟩
 case round=>
  obtain ⟨k,A',c',M,hk,rfl,rfl,rfl,a1,aJ⟩:=hrel
  have HO:=Hi a1
  have cg:=Hi aJ
  clear a1 aJ
  by_cases bL:k<4
  · have HT:=Hi (le4_take S k bL)
    have aZ:S / 256 ^ (k+1)=S / 256 ^ k / 256:=by rw [Nat.pow_succ,Nat.div_div_eq_div_mul]
    have hM:S / 256 ^ k<4294967296:=Nat.lt_of_le_of_lt (Nat.div_le_self _ _) aP
    generalize S / 256 ^ k=X at HT aZ hM ⊢
    have HD:=Hi aZ
    clear aZ
    obtain ⟨W1,bx⟩:∃ W1,W1=wr.alloc (.cells #[.int .u8 ((X:Int) % 256)] 5):=⟨_,rfl⟩
    have al:Keeps wr W1:=by rw [bx];exact (Keeps.refl wr).alloc _
    have br:Reads W1 (some ⟨wr.heap.size,0,none⟩) [UInt8.ofNat (X % 256)]:=by
     rw [bx];exact Reads.new _ _ _ _ _ (by show [Value.int .u8 ((X:Int) % 256)]=[Value.int .u8 (((UInt8.ofNat (X % 256)).toNat:Nat):Int)];rw [byte_of])
    have cT:IntKind.u8.wrap ((X:Int) % 256)=(X:Int) % 256:=by simp [IntKind.wrap,IntKind.bits,IntKind.signed]
    have au:=Hi (cg.out.trans al)
    have bm:=Hi (HO.out.below al)
    have b7:=Hi br
    have cO:=Hi bx
    clear al br bx
    go_wp2_with (at_builtin;rw [← cO.out];refine wpList_append_bytes (w0:=w) w.heap.size rfl _ _ 31 5 rfl Tryz.underlying31 info_u8b (.slice A' M c') (l++(le4 S).take k) [UInt8.ofNat (X % 256)] rfl bm.out (some ⟨wr.heap.size,0,none⟩) 1 rfl b7.out ?d2 au.out.size au.out ?_)
    case d2=>have:=HL.out;rw [List.length_append,List.length_take];simp;omega
    intro v3 w3 a3 aB _ _
    obtain ⟨A3,M3,c3,rfl,a2⟩:=a3.named (l':=l++(le4 S).take (k+1)) (by rw [HT.out];try simp only [List.append_assoc])
    have aK:=Hi a2
    have bs:=Hi aB
    clear a3 a2 aB
    go_wp2
    exact ⟨⟨k+1,A3,c3,M3,by omega,by go_num,by rw [HD.out];go_num,rfl,aK.out,bs.out⟩,by simp [intOf];omega⟩
  · obtain rfl:k=4:=by omega
    have e8:(le4 S).take 4=le4 S:=rfl
    rw [e8] at HO
    clear e8
    go_wp2
    go_ret
    exact ⟨_,rfl,HO.out,cg.out⟩
theorem Keeps.read {w w':World} (h:Keeps w w') {p:Addr} {v:Value} (hc:w.cell? p=some v):w'.cell? p=some v:=by
 rw [h.below.cell (World.block_lt_of_cell? w _ hc)];exact hc
theorem refBody_sch (A B E:Option Addr) (c d k:Nat) (f:Fr) (w:World) (h1:f.kind=1) (h0:schWrong f=0) (af:f.cols.length≤c) (hf:FrS w (fun b=>b<w.heap.size) A B E f) (hw:f.wf) (aG:Tabs w) :
 Calls Tryz.prog 87 #[.agg (frCells A c B d E k f)] w (NewB w (frBody f++le4 (Crc.sum (nats (frBody f))))):=by
 obtain ⟨n,hn,bg,bi⟩:=schWrong_no h0
 have hb:frBody f=[1]++(lebs [n]++putS f.cols):=by
  have:f.number.toNat=n:=by rw [hn];rfl
  simp [frBody,frPut,schPut,h1,this]
 rw [hb]
 have c9:=schCheck_len bi
 have aa:=lebs_le [n] (fun m hm=>by simp at hm;omega)
 simp only [List.length_cons,List.length_nil] at aa
 obtain ⟨W,hW⟩:∃ W,W=((w.alloc (.cells (frCells A c B d E k f) 36)).alloc (.cells #[.int .u8 1] 5)).alloc (.cells #[.int .i64 (n:Int)] 2):=⟨_,rfl⟩
 have ab:Keeps w W:=by rw [hW];exact (((Keeps.refl w).alloc _).alloc _).alloc _
 have b0:W.heap[w.heap.size]? = some (.cells (frCells A c B d E k f) 36):=by rw [hW];exact obj_old (obj_old (obj_new w _) _) _
 have b2:W.heap[w.heap.size+2]? = some (.cells #[.int .i64 (n:Int)] 2):=by rw [hW];exact obj_new_at _ _ _ (by simp)
 have a1:OwnB 5 W w.heap.size (.slice (some ⟨w.heap.size+1,0,none⟩) 1 1) [1]:=by
  rw [hW]
  exact (OwnB.new1 _ 1 _ rfl _ _ (by simp) (by omega)).below ((Keeps.refl _).alloc _).below
 have ah:=refNumbers_calls (some ⟨w.heap.size+2,0,none⟩) 1 [n] W (by simp) (fun m hm=>by simp at hm;omega) (n64_one b2)
 have bf:=fun w3 (hk:Keeps w w3)=>refSchEncode_calls A c f.cols w3 af ((hf.later hk.below).sch.mono fun b hb _=>hb) hw.dflt (aG.below hk.below)
 have aQ:∀ w3,Keeps w w3→Calls Tryz.prog 123 #[.agg #[.slice A f.cols.length c]] w3 fun e w'=>∃ A' M c',e=.returned (.tuple #[.slice A' M c',.int .i64 0])∧Hid ((putS f.cols).length=M)∧OwnB 5 w' w3.heap.size (.slice A' M c') (putS f.cols)∧Keeps w3 w':=fun w3 hk=>(bf w3 hk).mono fun e w' h=>by
  unfold EncPost at h
  rw [if_pos bi] at h
  obtain ⟨A',c',e1,h2,h3⟩:=h
  exact ⟨A',_,c',e1,Hi rfl,h2,h3⟩
 have bk:=Hi aQ
 have ak:=Hi ah
 have HB:=Hi b0
 have HK:=Hi ab
 have HO:=Hi a1
 have co:=Hi c9
 have az:=Hi aa
 unfold frCells at *
 rw [h1,hn] at hW HB ⊢
 clear bf aQ ah b0 b2 ab a1 c9 aa hf hw aG af h0 hb hn h1 bi
 generalize putS f.cols=P at *
 generalize f.cols.length=NC at *
 generalize f.block.length=NB at *
 generalize f.ents.length=NE at *
 go_enter Tryz.func87,Tryz.ntmps87
 go_wp2_with fail
 rw [← hW]
 clear hW
 refine ak.out.mono ?_
 rintro e w2 ⟨v2,rfl,a0,ae⟩
 obtain ⟨A2,M2,c2,rfl,aX,av⟩:=a0.seen
 have aq:=Hi (HO.out.below ae)
 have am:=Hi (HK.out.trans ae)
 have ar:=Hi ((ae.below.block _ (obj_lt HB.out)).trans HB.out)
 clear a0 ae ak HO HB
 go_wp2_with (at_builtin;refine wpList_append_bytes (w0:=w) w.heap.size rfl _ _ 31 5 rfl Tryz.underlying31 info_u8b (.slice (some ⟨w.heap.size+1,0,none⟩) 1 1) [1] (lebs [n]) rfl aq.out A2 c2 (by rw [aX.out];rfl) av.out ?c2 am.out.size am.out ?_)
 case c2=>have:=az.out;simp;omega
 intro v3 w3 a3 aB aS _
 have ax:w3.heap[w.heap.size]? = _:=(aS.block _ (obj_lt ar.out) (by simp [Value.ownBlock])).trans ar.out
 have d2:w3.cell? ⟨w.heap.size,2,none⟩=some (.slice A NC c):=by rw [obj_cell ax];rfl
 have u3:=obj_lt ax
 obtain ⟨A3,M3,c3,rfl,a2⟩:=a3.named (l':=[1]++lebs [n]) rfl
 have aK:=Hi a2
 have aw:Hid (Keeps w w3):=Hi aB
 clear a3 a2 aB aS ax ar am aq
 go_wp2_with fail
 refine (bk.out w3 aw.out).mono ?_
 rintro e w4 ⟨A4,M4,c4,rfl,bG,a7,aA⟩
 have bc:=Hi a7.form.choose_spec
 obtain ⟨A5,M5,c5,e5,cj,bO⟩:=a7.seen
 injection e5 with g1 g2 g3
 subst g1 g2 g3
 have aT:=Hi (aK.out.below aA)
 have aD:=Hi (aw.out.trans aA)
 clear a7 aA bk bc d2 u3
 go_wp2_with (at_builtin;refine wpList_append_bytes (w0:=w) w.heap.size rfl _ _ 31 5 rfl Tryz.underlying31 info_u8b (.slice A3 M3 c3) ([1]++lebs [n]) P rfl aT.out A4 c4 (by rw [bG.out];rfl) bO.out ?d2 aD.out.size aD.out ?_)
 case d2=>have:=az.out;have:=co.out;rw [List.length_append];simp;omega
 intro v6 w6 ac aR bd _
 obtain ⟨A6,M6,c6,rfl,a6⟩:=ac.named (l':=[1]++(lebs [n]++P)) (by simp)
 obtain ⟨A7,M7,c7,e7,b9,bq⟩:=a6.seen
 injection e7 with g1 g2 g3
 subst g1 g2 g3
 have a8:=refChecked_calls A6 c6 ([1]++(lebs [n]++P)) w6 (by have:=az.out;have:=co.out;rw [List.length_append,List.length_append];simp;omega) bq.out
 rw [b9.out] at a8
 have a9:=Hi a8
 have aI:Hid (Keeps w w6):=Hi aR
 clear ac a6 aR bd a8
 go_wp2_with fail
 refine a9.out.mono ?_
 rintro e w7 ⟨v7,rfl,a5,aN⟩
 have aY:=Hi (a5.weaken aI.out.size)
 have b3:=Hi (aI.out.trans aN)
 clear a5 aN a9
 go_wp2
 go_ret
 exact ⟨v7,rfl,aY.out,b3.out⟩
theorem refBody_dat (A B E:Option Addr) (c d k:Nat) (f:Fr) (w:World) (h1:f.kind=2) (h0:datWrong f=0) (hf:FrS w (fun b=>b<w.heap.size) A B E f) :
 Calls Tryz.prog 87 #[.agg (frCells A c B d E k f)] w (NewB w (frBody f++le4 (Crc.sum (nats (frBody f))))):=by
 obtain ⟨n,s,t,r,hn,hs,ht,hr,bg,bC,bM,_,br⟩:=datWrong_no h0
 have hb:frBody f=[2]++(lebs [n,s,t,r]++f.block):=by
  have e1:f.number.toNat=n:=by rw [hn];rfl
  have e2:f.seq.toNat=s:=by rw [hs];rfl
  have e3:f.first.toNat=t:=by rw [ht];rfl
  have e4:f.rows.toNat=r:=by rw [hr];rfl
  simp [frBody,frPut,datPut,h1,e1,e2,e3,e4]
 rw [hb]
 have bK:=hf.lenB
 have aa:=lebs_le [n,s,t,r] (fun m hm=>by simp at hm;omega)
 simp only [List.length_cons,List.length_nil] at aa
 obtain ⟨W,hW⟩:∃ W,W=((w.alloc (.cells (frCells A c B d E k f) 36)).alloc (.cells #[.int .u8 2] 5)).alloc (.cells #[.int .i64 (n:Int),.int .i64 (s:Int),.int .i64 (t:Int),.int .i64 (r:Int)] 2):=⟨_,rfl⟩
 have ab:Keeps w W:=by rw [hW];exact (((Keeps.refl w).alloc _).alloc _).alloc _
 have b0:W.heap[w.heap.size]? = some (.cells (frCells A c B d E k f) 36):=by rw [hW];exact obj_old (obj_old (obj_new w _) _) _
 have b2:W.heap[w.heap.size+2]? = some (.cells #[.int .i64 (n:Int),.int .i64 (s:Int),.int .i64 (t:Int),.int .i64 (r:Int)] 2):=by rw [hW];exact obj_new_at _ _ _ (by simp)
 have a1:OwnB 5 W w.heap.size (.slice (some ⟨w.heap.size+1,0,none⟩) 1 1) [2]:=by
  rw [hW]
  exact (OwnB.new1 _ 2 _ rfl _ _ (by simp) (by omega)).below ((Keeps.refl _).alloc _).below
 have ah:=refNumbers_calls (some ⟨w.heap.size+2,0,none⟩) 4 [n,s,t,r] W (by simp) (fun m hm=>by simp at hm;omega) (n64_four b2)
 have ak:=Hi ah
 have HB:=Hi b0
 have HK:=Hi ab
 have HO:=Hi a1
 have cG:=Hi hf.blk
 have az:=Hi aa
 have c8:=Hi bK
 unfold frCells at *
 rw [h1,hn,hs,ht,hr] at hW HB ⊢
 clear ah b0 b2 ab a1 aa hf h0 hb hn hs ht hr h1 bK
 generalize f.cols.length=NC at *
 generalize ca:f.block.length=NB at *
 have bV:=Hi ca
 clear ca
 generalize f.ents.length=NE at *
 go_enter Tryz.func87,Tryz.ntmps87
 go_wp2_with fail
 rw [← hW]
 clear hW
 refine ak.out.mono ?_
 rintro e w2 ⟨v2,rfl,a0,ae⟩
 obtain ⟨A2,M2,c2,rfl,aX,av⟩:=a0.seen
 have aq:=Hi (HO.out.below ae)
 have am:=Hi (HK.out.trans ae)
 have ar:=Hi ((ae.below.block _ (obj_lt HB.out)).trans HB.out)
 clear a0 ae ak HO HB
 go_wp2_with (at_builtin;refine wpList_append_bytes (w0:=w) w.heap.size rfl _ _ 31 5 rfl Tryz.underlying31 info_u8b (.slice (some ⟨w.heap.size+1,0,none⟩) 1 1) [2] (lebs [n,s,t,r]) rfl aq.out A2 c2 (by rw [aX.out];rfl) av.out ?c2 am.out.size am.out ?_)
 case c2=>have:=az.out;simp;omega
 intro v3 w3 a3 aB aS _
 have ax:w3.heap[w.heap.size]? = _:=(aS.block _ (obj_lt ar.out) (by simp [Value.ownBlock])).trans ar.out
 have d2:w3.cell? ⟨w.heap.size,6,none⟩=some (.slice B NB d):=by rw [obj_cell ax];rfl
 have u3:=obj_lt ax
 obtain ⟨A3,M3,c3,rfl,a2⟩:=a3.named (l':=[2]++lebs [n,s,t,r]) rfl
 have aK:=Hi a2
 have aw:Hid (Keeps w w3):=Hi aB
 have bI:=Hi (cG.out.below aB)
 clear a3 a2 aB aS ax ar am aq
 go_wp2_with (at_builtin;refine wpList_append_bytes (w0:=w) w.heap.size rfl _ _ 31 5 rfl Tryz.underlying31 info_u8b (.slice A3 M3 c3) ([2]++lebs [n,s,t,r]) f.block rfl aK.out B d (by rw [bV.out];rfl) bI.out ?d2 aw.out.size aw.out ?_)
 case d2=>have:=az.out;have:=c8.out;have:=bV.out;rw [List.length_append];simp;omega
 intro v6 w6 ac aR bd _
 obtain ⟨A6,M6,c6,rfl,a6⟩:=ac.named (l':=[2]++(lebs [n,s,t,r]++f.block)) (by simp)
 obtain ⟨A7,M7,c7,e7,b9,bq⟩:=a6.seen
 injection e7 with g1 g2 g3
 subst g1 g2 g3
 have a8:=refChecked_calls A6 c6 ([2]++(lebs [n,s,t,r]++f.block)) w6 (by have:=az.out;have:=c8.out;have:=bV.out;rw [List.length_append,List.length_append];simp;omega) bq.out
 rw [b9.out] at a8
 have a9:=Hi a8
 have aI:Hid (Keeps w w6):=Hi aR
 clear ac a6 aR bd a8
 go_wp2_with fail
 refine a9.out.mono ?_
 rintro e w7 ⟨v7,rfl,a5,aN⟩
 have aY:=Hi (a5.weaken aI.out.size)
 have b3:=Hi (aI.out.trans aN)
 clear a5 aN a9
 go_wp2
 go_ret
 exact ⟨v7,rfl,aY.out,b3.out⟩
theorem refBody_idx (A B E:Option Addr) (c d k:Nat) (f:Fr) (w:World) (h1:f.kind=3) (h0:idxWrong f=0) (hf:FrS w (fun b=>b<w.heap.size) A B E f) :
 Calls Tryz.prog 87 #[.agg (frCells A c B d E k f)] w (NewB w (frBody f++le4 (Crc.sum (nats (frBody f))))):=by
 obtain ⟨n,s,t,hn,hs,ht,bg,bC,bM,cA,bj⟩:=idxWrong_no h0
 have hb:frBody f=[3]++(lebs [n,s,t,f.ents.length]++f.ents.flatMap entPut):=by
  have e1:f.spot.toNat=n:=by rw [hn];rfl
  have e2:f.frames.toNat=s:=by rw [hs];rfl
  have e3:f.irows.toNat=t:=by rw [ht];rfl
  simp [frBody,frPut,idxPut,h1,e1,e2,e3]
 rw [hb]
 have aa:=lebs_le [n,s,t,f.ents.length] (fun m hm=>by simp at hm;omega)
 simp only [List.length_cons,List.length_nil] at aa
 obtain ⟨W,hW⟩:∃ W,W=(((w.alloc (.cells (frCells A c B d E k f) 36)).alloc (.cells #[.int .u8 3] 5)).alloc (.cells (ixCells E k f) 34)).alloc (.cells #[.int .i64 (n:Int),.int .i64 (s:Int),.int .i64 (t:Int),.int .i64 (f.ents.length:Int)] 2):=⟨_,rfl⟩
 have ab:Keeps w W:=by rw [hW];exact ((((Keeps.refl w).alloc _).alloc _).alloc _).alloc _
 have b0:W.heap[w.heap.size+2]? = some (.cells (ixCells E k f) 34):=by rw [hW];exact obj_old (obj_new_at _ _ _ (by simp)) _
 have b2:W.heap[w.heap.size+3]? = some (.cells #[.int .i64 (n:Int),.int .i64 (s:Int),.int .i64 (t:Int),.int .i64 (f.ents.length:Int)] 2):=by rw [hW];exact obj_new_at _ _ _ (by simp)
 have a1:OwnB 5 W w.heap.size (.slice (some ⟨w.heap.size+1,0,none⟩) 1 1) [3]:=by
  rw [hW]
  exact (OwnB.new1 _ 3 _ rfl _ _ (by simp) (by omega)).below (((Keeps.refl _).alloc _).alloc _).below
 have ah:=refNumbers_calls (some ⟨w.heap.size+3,0,none⟩) 4 [n,s,t,f.ents.length] W (by simp) (fun m hm=>by simp at hm;omega) (n64_four b2)
 have ak:=Hi ah
 have HB:=Hi b0
 have HK:=Hi ab
 have HO:=Hi a1
 have HF:=Hi hf
 have bY:=Hi bj
 have az:=Hi aa
 have bU:=Hi (entsPut_le f.ents bj)
 unfold frCells ixCells at *
 rw [h1,hn,hs,ht] at hW
 rw [h1,hn,hs,ht]
 rw [hn,hs,ht] at HB
 clear ah b0 b2 ab a1 aa hf h0 hb hn hs ht h1 bj
 generalize f.cols.length=NC at *
 generalize f.block.length=NB at *
 generalize cr:f.ents.length=NE at *
 have bR:=Hi cr
 clear cr
 go_enter Tryz.func87,Tryz.ntmps87
 go_wp2_with fail
 rw [← hW]
 clear hW
 refine ak.out.mono ?_
 rintro e w2 ⟨v2,rfl,a0,ae⟩
 obtain ⟨A2,M2,c2,rfl,aX,av⟩:=a0.seen
 have aq:=Hi (HO.out.below ae)
 have am:=Hi (HK.out.trans ae)
 have ar:=Hi ((ae.below.block _ (obj_lt HB.out)).trans HB.out)
 clear a0 ae ak HO HB
 go_wp2_with (at_builtin;refine wpList_append_bytes (w0:=w) w.heap.size rfl _ _ 31 5 rfl Tryz.underlying31 info_u8b (.slice (some ⟨w.heap.size+1,0,none⟩) 1 1) [3] (lebs [n,s,t,NE]) rfl aq.out A2 c2 (by rw [aX.out];rfl) av.out ?c2 am.out.size am.out ?_)
 case c2=>have:=az.out;simp;omega
 intro v3 w3 a3 aB aS _
 have ax:w3.heap[w.heap.size+2]? = _:=(aS.block _ (obj_lt ar.out) (by simp [Value.ownBlock])).trans ar.out
 obtain ⟨A3,M3,c3,rfl,a2⟩:=a3.named (l':=[3]++lebs [n,s,t,NE]) rfl
 have aK:=Hi a2
 have aw:Hid (Keeps w w3):=Hi aB
 have bs:=Hi ax
 clear a3 a2 aB aS ax ar am aq
 go_wp2_with fail
 go_loopw [4,6] (fun b i wr=>∃ (j:Nat) (A':Option Addr) (c' M:Nat),j≤NE∧i=.int .i64 (j:Int)∧b=.slice A' M c'∧OwnB 5 wr w3.heap.size (.slice A' M c') ((f.ents.take j).flatMap entPut)∧Keeps w3 wr) (fun _ i _=>NE-(intOf i).toNat)
 case atStart=>exact ⟨0,none,0,0,Nat.zero_le _,rfl,rfl,OwnB.nil _ _ _,Keeps.refl _⟩
 case round=>
  obtain ⟨j,A',c',M,hj,rfl,rfl,a1,aJ⟩:=hrel
  have bu:=(aJ.below.block _ (obj_lt bs.out)).trans bs.out
  have d3:wr.cell? ⟨w.heap.size+2,3,none⟩=some (.slice E NE k):=by rw [obj_cell bu];rfl
  have u3:=obj_lt bu
  by_cases aP:j<NE
  · have a4:j<f.ents.length:=by rw [bR.out];exact aP
    obtain ⟨ad,rfl,_,e0,e1,e2⟩:=(HF.out.later (aw.out.trans aJ).below).ent_at j a4
    obtain ⟨x,y,z,aU,hx,hy,hz⟩:=entBad_no (bY.out _ (List.getElem_mem a4))
    rw [aU] at e0 e1 e2
    simp only at e0 e1 e2
    have aO:=entsPut_take f.ents j a4
    rw [aU] at aO
    have ck:entPut ⟨(x:Int),(y:Int),(z:Int)⟩=lebs [x,y,z]:=rfl
    rw [ck] at aO
    have bJ:=entsPut_le (f.ents.take j) (fun e he=>bY.out e (List.mem_of_mem_take he))
    rw [List.length_take] at bJ
    have bF:=lebs_le [x,y,z] (fun m hm=>by simp at hm;omega)
    simp only [List.length_cons,List.length_nil] at bF
    have v0:=World.block_lt_of_cell? wr _ e0
    obtain ⟨W2,bt⟩:∃ W2,W2=(wr.alloc (.cells #[.int .i64 (x:Int),.int .i64 (y:Int),.int .i64 (z:Int)] 2)).drew:=⟨_,rfl⟩
    have ae:Keeps wr W2:=by rw [bt];exact ((Keeps.refl wr).alloc _).trans (Keeps.drew _)
    have aH:W2.heap[wr.heap.size]? = some (.cells #[.int .i64 (x:Int),.int .i64 (y:Int),.int .i64 (z:Int)] 2):=by rw [bt];exact obj_new wr _
    have ah:=refNumbers_calls (some ⟨wr.heap.size,0,none⟩) 3 [x,y,z] W2 (by simp) (fun m hm=>by simp at hm;omega) (n64_three aH)
    have ak:=Hi ah
    have bE:=Hi aO
    have cz:=Hi bJ
    have cQ:=Hi bF
    have cD:=Hi (aJ.trans ae)
    have cF:=Hi (a1.below ae)
    have cH:=Hi bt
    have cK:=Hi ae
    have D3:=Hi d3
    have E0:=Hi e0
    have E1:=Hi e1
    have E2:=Hi e2
    clear ah aO bJ bF aJ ae a1 ck aU aH bu bt hx hy hz a4
    go_wp2_with fail
    go_region_held3 (fun w'=>w'.cell? ⟨w.heap.size+2,3,none⟩=some (.slice (some ad) NE k)∧w'.cell? (ad.add (j*3))=some (.int .i64 (x:Int))∧w'.cell? ⟨(ad.add (j*3)).block,(ad.add (j*3)).off+1,none⟩=some (.int .i64 (y:Int))∧w'.cell? ⟨(ad.add (j*3)).block,(ad.add (j*3)).off+2,none⟩=some (.int .i64 (z:Int))) (go_keep) (
     (go_simp;go_at_call 122;rw [← cH.out];refine ak.out.mono ?_;rintro e w4 ⟨v4,rfl,a7,aA⟩
      have cS:=Hi aA
      have aC:Keeps wr w4:=cK.out.trans aA
      have d3':w4.cell? ⟨w.heap.size+2,3,none⟩=some (.slice (some ad) NE k):=aC.read D3.out
      have e0':w4.cell? (ad.add (j*3))=some (.int .i64 (x:Int)):=aC.read E0.out
      have e1':w4.cell? ⟨(ad.add (j*3)).block,(ad.add (j*3)).off+1,none⟩=some (.int .i64 (y:Int)):=aC.read E1.out
      have e2':w4.cell? ⟨(ad.add (j*3)).block,(ad.add (j*3)).off+2,none⟩=some (.int .i64 (z:Int)):=aC.read E2.out
      clear aC))
    all_goals
     obtain ⟨A4,M4,c4,rfl,bG,bc⟩:=a7.seen
     have aD:=Hi (cD.out.trans aA)
     have aT:=Hi (cF.out.below aA)
     clear a7 aA
     go_wp2_with (at_builtin;refine wpList_append_bytes (w0:=w3) w3.heap.size rfl _ _ 31 5 rfl Tryz.underlying31 info_u8b (.slice A' M c') ((f.ents.take j).flatMap entPut) (lebs [x,y,z]) rfl aT.out A4 c4 (by rw [bG.out];rfl) bc.out (by have:=cz.out;have:=cQ.out;omega) aD.out.size aD.out ?_)
     intro v5 w5 an bb _ _
     obtain ⟨A5,M5,c5,rfl,ag⟩:=an.named bE.out.symm
     have cw:=Hi ag
     have cx:Hid (Keeps w3 w5):=Hi bb
     clear an ag bb
     go_wp2
     exact ⟨⟨j+1,A5,c5,M5,by omega,by go_num,rfl,cw.out,cx.out⟩,by simp [intOf];omega⟩
  · have e:f.ents.take j=f.ents:=List.take_of_length_le (by rw [bR.out];omega)
    rw [e] at a1
    have hl:=bU.out
    obtain ⟨A5,M5,c5,e5,cj,bO⟩:=a1.seen
    injection e5 with g1 g2 g3
    subst g1 g2 g3
    have bZ:=Hi (show (f.ents.flatMap entPut).length≤30*64 by have:=bR.out;omega)
    generalize f.ents.flatMap entPut=P at *
    have aT:=Hi (aK.out.below aJ)
    have aD:=Hi (aw.out.trans aJ)
    clear a1 aJ e bu hl
    go_wp2_with (at_builtin;refine wpList_append_bytes (w0:=w) w.heap.size rfl _ _ 31 5 rfl Tryz.underlying31 info_u8b (.slice A3 M3 c3) ([3]++lebs [n,s,t,NE]) P rfl aT.out A' c' (by rw [cj.out];rfl) bO.out ?d2 aD.out.size aD.out ?_)
    case d2=>have:=az.out;have:=bZ.out;rw [List.length_append];simp;omega
    intro v6 w6 ac aR bd _
    obtain ⟨A6,M6,c6,rfl,a6⟩:=ac.named (l':=[3]++(lebs [n,s,t,NE]++P)) (by simp)
    obtain ⟨A7,M7,c7,e7,b9,bq⟩:=a6.seen
    injection e7 with g1 g2 g3
    subst g1 g2 g3
    have a8:=refChecked_calls A6 c6 ([3]++(lebs [n,s,t,NE]++P)) w6 (by have:=az.out;have:=bZ.out;rw [List.length_append,List.length_append];simp;omega) bq.out
    rw [b9.out] at a8
    have a9:=Hi a8
    have aI:Hid (Keeps w w6):=Hi aR
    clear ac a6 aR bd a8
    go_wp2_with fail
    refine a9.out.mono ?_
    rintro e w7 ⟨v7,rfl,a5,aN⟩
    have aY:=Hi (a5.weaken aI.out.size)
    have b3:=Hi (aI.out.trans aN)
    clear a5 aN a9
    go_wp2
    go_ret
    exact ⟨v7,rfl,aY.out,b3.out⟩
end
section
open Go.RowKit Go.BigFrame
set_option linter.unusedSectionVars false
structure RefRel (w:World) (b:List UInt8) (v a o:Value) (wr:World):Prop where
 out:∃ (at_:Nat) (st:List UInt8) (op:Bool),at_≤b.length∧a=.int .i64 (at_:Int)∧o=.bool op∧OwnB 5 wr w.heap.size v st∧st.length≤2*at_+2 ∧
  (if op=true then st++stuffOf (b.drop at_)=stuffOf b∧st.length≤2*at_ else st=stuffOf b)∧Keeps w wr
def openV (n:Nat) (a o:Value):Nat:=match o with | .bool true=>n-(intOf a).toNat+1 | _=>0
theorem grp_get (l:List UInt8) (k:Nat) (h:k<(grp l).length):∃ h2:k<l.length,l[k]'h2≠0∧l[k]'h2=(grp l)[k]'h:=by
 have hl:=grp_le l
 have h2:k<l.length:=by omega
 have e:l[k]? = (grp l++l.drop (grp l).length)[k]?:=congrArg (fun x:List UInt8=>x[k]?) (grp_append l)
 rw [List.getElem?_append_left h,List.getElem?_eq_getElem h2,List.getElem?_eq_getElem h] at e
 injection e with e
 refine ⟨h2, ?_,e⟩
 rw [e]
 intro e0
 exact grp_no l (by rw [← e0];exact List.getElem_mem h)
theorem step_last {st l S:List UInt8} {cb:UInt8} (h:l.length≤(grp l).length) (hs:st++stuffOf l=S) (hc:cb=UInt8.ofNat ((grp l).length+1)):st++[cb]++grp l=S:=by
 obtain ⟨e1,e2⟩:=stuff_last l h
 rw [← hs,e2,hc,e1]
 simp
theorem step_less {st l S:List UInt8} {cb:UInt8} (h:(grp l).length<l.length) (h2:(grp l).length<254) (hs:st++stuffOf l=S) (hc:cb=UInt8.ofNat ((grp l).length+1)):st++[cb]++grp l++stuffOf (l.drop ((grp l).length+1))=S:=by
 rw [← hs,(stuff_less l h h2).2,hc]
 simp
theorem step_full {st l S:List UInt8} {cb:UInt8} (h:(grp l).length<l.length) (h2:(grp l).length=254) (hs:st++stuffOf l=S) (hc:cb=UInt8.ofNat ((grp l).length+1)):st++[cb]++grp l++stuffOf (l.drop (grp l).length)=S:=by
 rw [← hs,(stuff_full l h h2).2.2,hc,h2]
 simp
section
variable {w wr:World} {b l st:List UInt8} {cb:UInt8} {v:Value} {at_ q:Nat} (hN:q=(grp l).length) (bz:at_+l.length=b.length) (hL:l=b.drop at_) (hS:st++stuffOf l=stuffOf b) (hC:cb=UInt8.ofNat (q+1)) (bp:st.length≤2*at_)
 (hF:OwnB 5 wr w.heap.size v (st++[cb]++grp l)) (hK:Keeps w wr)
include hN bz hL hS hC bp hF hK
theorem len_step:(st++[cb]++grp l).length=st.length+1+q:=by rw [List.length_append,List.length_append,← hN];rfl
theorem close_last (h:¬at_+q<b.length):RefRel w b v (.int .i64 ((at_:Int)+(q:Int))) (.bool (decide ((at_:Int)+(q:Int)<(b.length:Int)))) wr ∧
 openV b.length (.int .i64 ((at_:Int)+(q:Int))) (.bool (decide ((at_:Int)+(q:Int)<(b.length:Int))))<openV b.length (.int .i64 (at_:Int)) (.bool true):=by
 have hd:decide ((at_:Int)+(q:Int)<(b.length:Int))=false:=by rw [decide_eq_false_iff_not];omega
 have hq:=(grp_le l).2
 have aj:=len_step hN bz hL hS hC bp hF hK
 rw [hd]
 refine ⟨.mk ⟨at_+q,_,false,by omega,by go_num,rfl,hF,by rw [aj];omega, ?_,hK⟩,by simp [openV]⟩
 simp only [Bool.false_eq_true,if_false]
 exact step_last (by omega) hS (by rw [hC,hN])
theorem close_full (h:at_+q<b.length) (h2:¬q<254):RefRel w b v (.int .i64 ((at_:Int)+(q:Int))) (.bool true) wr ∧
 openV b.length (.int .i64 ((at_:Int)+(q:Int))) (.bool true)<openV b.length (.int .i64 (at_:Int)) (.bool true):=by
 have hq:=grp_le l
 have aj:=len_step hN bz hL hS hC bp hF hK
 refine ⟨.mk ⟨at_+q,_,true,by omega,by go_num,rfl,hF,by rw [aj];omega, ?_,hK⟩,by simp [openV,intOf];omega⟩
 simp only [if_true]
 refine ⟨?_,by rw [aj];omega⟩
 have:=step_full (st:=st) (cb:=cb) (by omega) (by omega) hS (by rw [hC,hN])
 rw [← hN] at this
 rw [← this,hL,List.drop_drop]
theorem close_less (h:at_+q<b.length) (h2:q<254):RefRel w b v (.int .i64 ((at_:Int)+(q:Int)+1)) (.bool true) wr ∧
 openV b.length (.int .i64 ((at_:Int)+(q:Int)+1)) (.bool true)<openV b.length (.int .i64 (at_:Int)) (.bool true):=by
 have hq:=grp_le l
 have aj:=len_step hN bz hL hS hC bp hF hK
 refine ⟨.mk ⟨at_+q+1,_,true,by omega,by go_num,rfl,hF,by rw [aj];omega, ?_,hK⟩,by simp [openV,intOf];omega⟩
 simp only [if_true]
 refine ⟨?_,by rw [aj];omega⟩
 have:=step_less (st:=st) (cb:=cb) (by omega) (by omega) hS (by rw [hC,hN])
 rw [← hN] at this
 rw [← this,hL,List.drop_drop]
 rfl
end
theorem refStuff_calls (A:Option Addr) (c:Nat) (b:List UInt8) (w:World) (hl:b.length≤274877906944) (hr:Reads w A b) :
 Calls Tryz.prog 88 #[.slice A b.length c] w fun e w'=>∃ v,e=.returned v∧OwnB 5 w' w.heap.size v (stuffOf b)∧Keeps w w':=by
 have HR:=Hi hr
 clear hr
 go_enter Tryz.func88,Tryz.ntmps88
 go_wp2
 go_loopw [3,4,5] (fun v a o wr=>RefRel w b v a o wr) (fun _ a o _=>openV b.length a o)
 case atStart=>exact ⟨0,[],true,Nat.zero_le _,rfl,rfl,OwnB.nil _ _ _,by simp,by simp,Keeps.refl _⟩
 case round=>
  obtain ⟨at_,st,op,cU,rfl,rfl,a1,bp,bA,hk⟩:=hrel
  have HO:=Hi a1
  have HK:=Hi hk
  clear a1 hk
  cases op with
  | false=>
    have cR:=Hi (show st=stuffOf b by simpa using bA)
    clear bA
    go_wp2
    go_ret
    refine ⟨_,rfl, ?_,HK.out⟩
    rw [← cR.out]
    exact HO.out
  | true=>
    obtain ⟨aW,b5⟩:st++stuffOf (b.drop at_)=stuffOf b∧st.length≤2*at_:=by simpa using bA
    obtain ⟨l,b8⟩:∃ l,l=b.drop at_:=⟨_,rfl⟩
    rw [← b8] at aW
    have cf:at_+l.length=b.length:=by rw [b8,List.length_drop];omega
    have c0:=grp_le l
    have aM:∀ k (h:k<(grp l).length),∃ hb:at_+k<b.length,b[at_+k]'hb≠0∧b[at_+k]'hb=(grp l)[k]'h:=by
     intro k h
     obtain ⟨h2,h3,h4⟩:=grp_get l k h
     have e:∀ hb:at_+k<b.length,b[at_+k]'hb=l[k]'h2:=by intro hb;subst b8;rw [List.getElem_drop]
     exact ⟨by omega,by rw [e];exact h3,by rw [e];exact h4⟩
    have aF:(grp l).length<254→(grp l).length<l.length→∃ hb:at_+(grp l).length<b.length,b[at_+(grp l).length]'hb=0:=by
     intro h1 h2
     have:=grp_stop l h1 h2
     subst b8
     rw [List.getElem_drop] at this
     exact ⟨by omega,this⟩
    have b6:=Hi aW
    have HG:=Hi aM
    have HS:=Hi aF
    have bS:=Hi b8
    have bv:=Hi cf
    clear aW aM aF bA b8
    have cM:at_+(grp l).length≤b.length:=by omega
    clear cf
    obtain ⟨n,hn⟩:∃ n,n=(grp l).length:=⟨_,rfl⟩
    rw [← hn] at c0 cM
    have HN:=Hi hn
    clear hn
    go_wp2
    go_loopw [6] (fun k wz=>∃ q:Nat,q≤n∧k=.int .i64 (q:Int)∧wz=wr) (fun k _=>n-(intOf k).toNat)
    case atStart=>exact ⟨0,Nat.zero_le _,rfl,rfl⟩
    case round=>
     obtain ⟨q,hq,rfl,rfl⟩:=hrel
     by_cases cp:q<n
     · obtain ⟨hb,h1,h2⟩:=HG.out q (by rw [← HN.out];exact cp)
       obtain ⟨ad,rfl,hc⟩:=(HR.out.below HK.out.below).out (at_+q) hb
       have hz:((((b[at_+q]'hb).toNat:Nat):Int) != 0)=true:=by
        rw [bne_iff_ne];intro e;apply h1;exact UInt8.toNat_inj.1 (by simpa using e)
       clear h1 h2
       go_wp2
       exact ⟨⟨q+1,by omega,by go_num,trivial⟩,by simp [intOf];omega⟩
     · obtain rfl:q=n:=by omega
       clear cp hq
       obtain ⟨cb,bQ⟩:∃ cb,cb=UInt8.ofNat (q+1):=⟨_,rfl⟩
       have HU:=Hi (show cb.toNat=q+1 by rw [bQ];exact ofNat_toNat q c0.1)
       have bT:=Hi bQ
       have cI:IntKind.u8.wrap ((q:Int)+1)=(q:Int)+1:=by simp [IntKind.wrap,IntKind.bits,IntKind.signed];omega
       clear bQ
       have bo:(¬q<254∧¬at_+q<b.length)∨(¬q<254∧at_+q<b.length)∨(q<254∧¬at_+q<b.length)∨(q<254∧at_+q<b.length∧∃ ad,A=some ad∧wr.cell? (ad.add (at_+q))=some (.int .u8 0)):=by
        by_cases h1:q<254
        · by_cases h2:at_+q<b.length
          · refine .inr (.inr (.inr ⟨h1,h2, ?_⟩))
            obtain ⟨hb,hz⟩:=HS.out (by rw [← HN.out];exact h1) (by rw [← HN.out];have:=bv.out;omega)
            simp only [← HN.out] at hb hz
            obtain ⟨ad,e,hc⟩:=(HR.out.below HK.out.below).out (at_+q) hb
            rw [hz] at hc
            exact ⟨ad,e,hc⟩
          · exact .inr (.inr (.inl ⟨h1,h2⟩))
        · by_cases h2:at_+q<b.length
          · exact .inr (.inl ⟨h1,h2⟩)
          · exact .inl ⟨h1,h2⟩
       rcases bo with ⟨k1,k2⟩ | ⟨k1,k2⟩ | ⟨k1,k2⟩ | ⟨k1,k2,ad,rfl,k3⟩
       all_goals
        go_wp2_with (at_builtin;refine wpList_append_bytes (w0:=w) w.heap.size rfl _ _ 31 5 rfl Tryz.underlying31 info_u8 _ st [cb] rfl (HO.out.below ((Keeps.refl _).alloc _).below) _ 1 rfl (Reads.new_at _ [cb] 5 (0,0) #[.int .u8 ((q:Int)+1)] (by rw [show u8s [cb]=[.int .u8 ((cb.toNat:Nat):Int)] from rfl,HU.out];rfl) _ (by simp)) (by simp;omega) (by have:=HK.out.size;simp;omega) (HK.out.alloc _) ?_)
        intro v1 w1 ap bW _ _
        have bm:=Hi ap
        have au:=Hi (show Keeps w w1 from bW)
        clear ap bW cI
        go_wp2
        go_loopw [3,7] (fun v i wz=>∃ m:Nat,m≤q∧i=.int .i64 (m:Int)∧OwnB 5 wz w.heap.size v (st++[cb]++(grp l).take m)∧Keeps w wz) (fun _ i _=>q-(intOf i).toNat)
        case atStart=>exact ⟨0,Nat.zero_le _,rfl,by simpa using bm.out,au.out⟩
       all_goals
        obtain ⟨m,hm,rfl,cq,ae⟩:=hrel
        have aq:=Hi cq
        have am:=Hi ae
        clear cq ae
        by_cases ce:m<q
        · obtain ⟨hb,h1,h2⟩:=HG.out m (by rw [← HN.out];exact ce)
          obtain ⟨ad2,e,hc⟩:=(HR.out.below am.out.below).out (at_+m) hb
          cases e
          have cc:((grp l).take m).length≤254:=by rw [List.length_take];omega
          have ct:(grp l).take (m+1)=(grp l).take m++[b[at_+m]'hb]:=by rw [List.take_succ_eq_append_getElem (by rw [← HN.out];exact ce),h2]
          have cE:=Hi ct
          clear h1 h2 ct
          go_wp2_with (at_builtin;refine wpList_append_bytes (w0:=w) w.heap.size rfl _ _ 31 5 rfl Tryz.underlying31 info_u8 _ (st++[cb]++(grp l).take m) [b[at_+m]'hb] rfl (aq.out.below ((Keeps.refl _).alloc _).below) _ 1 rfl (Reads.new_at _ [b[at_+m]'hb] 5 (0,0) #[.int .u8 (((b[at_+m]'hb).toNat:Nat):Int)] rfl _ (by simp)) (by rw [List.length_append,List.length_append];simp only [List.length_cons,List.length_nil];omega) (by have:=am.out.size;simp;omega) (am.out.alloc _) ?_)
          intro v2 w2 a0 aH _ _
          have aK:=Hi a0
          have aw:=Hi (show Keeps w w2 from aH)
          clear a0 aH
          go_wp2
          exact ⟨⟨m+1,by omega,by go_num,by rw [cE.out];have:=aK.out;simpa [List.append_assoc] using this,aw.out⟩,by simp [intOf];omega⟩
        · have aV:=aq.out
          rw [List.take_of_length_le (by rw [← HN.out];omega)] at aV
          have HF:=Hi aV
          clear aV aq
          go_wp2
          all_goals first
           | exact close_last HN.out bv.out bS.out b6.out bT.out b5 HF.out am.out k2
           | exact close_full HN.out bv.out bS.out b6.out bT.out b5 HF.out am.out k2 k1
           | exact close_less HN.out bv.out bS.out b6.out bT.out b5 HF.out am.out k2 k1
end
section
open Go.RowKit Go.BigFrame
attribute [local go_sem] run_storeF
theorem FrS.at_later {w w1:World} {A B E:Option Addr} {f:Fr} (hf:FrS w (fun b=>b<w.heap.size) A B E f) (hk:Keeps w w1):FrS w1 (fun b=>b<w1.heap.size) A B E f:=by
 have h:=hf.later hk.below
 exact ⟨h.sch.mono fun b hb _=>hb,h.blk,fun a e hn=>Nat.lt_of_lt_of_le (h.blkS a e hn) hk.size,h.ent,fun a e hn=>Nat.lt_of_lt_of_le (h.entS a e hn) hk.size,h.lenB,h.lenE⟩
theorem frBody_len {w:World} {A B E:Option Addr} {f:Fr} (hf:FrS w (fun b=>b<w.heap.size) A B E f) (h0:frWrong f=0):(frBody f).length≤34359738368:=by
 unfold frWrong at h0
 have bK:=hf.lenB
 split at h0
 · rename_i h1
   obtain ⟨n,hn,bg,bi⟩:=schWrong_no h0
   have h2:=schCheck_len bi
   have h3:=lebs_le [f.number.toNat] (fun m hm=>by simp at hm;omega)
   simp only [List.length_cons,List.length_nil] at h3
   have e:frPut f=schPut f:=by unfold frPut;rw [if_pos h1]
   simp only [frBody,e,schPut,List.length_append,List.length_cons,List.length_nil]
   omega
 split at h0
 · rename_i h1 h2
   obtain ⟨n,s,t,r,hn,hs,ht,hr,bg,bC,bM,_,br⟩:=datWrong_no h0
   have h3:=lebs_le [f.number.toNat,f.seq.toNat,f.first.toNat,f.rows.toNat] (fun m hm=>by simp at hm;omega)
   simp only [List.length_cons,List.length_nil] at h3
   have e:frPut f=datPut f:=by unfold frPut;rw [if_neg h1,if_pos h2]
   simp only [frBody,e,datPut,List.length_append,List.length_cons,List.length_nil]
   omega
 split at h0
 · rename_i h1 h2 h4
   obtain ⟨n,s,t,hn,hs,ht,bg,bC,bM,hN,bj⟩:=idxWrong_no h0
   have h3:=lebs_le [f.spot.toNat,f.frames.toNat,f.irows.toNat,f.ents.length] (fun m hm=>by simp at hm;omega)
   have h5:=entsPut_le f.ents bj
   simp only [List.length_cons,List.length_nil] at h3
   have e:frPut f=idxPut f:=by unfold frPut;rw [if_neg h1,if_neg h2]
   simp only [frBody,e,idxPut,List.length_append,List.length_cons,List.length_nil]
   omega
 · omega
theorem refBody_calls (A B E:Option Addr) (c d k:Nat) (f:Fr) (w:World) (h0:frWrong f=0) (af:f.cols.length≤c) (hf:FrS w (fun b=>b<w.heap.size) A B E f) (hw:f.wf) (aG:Tabs w) :
 Calls Tryz.prog 87 #[.agg (frCells A c B d E k f)] w (NewB w (frBody f++le4 (Crc.sum (nats (frBody f))))):=by
 unfold frWrong at h0
 by_cases h1:f.kind=1
 · rw [if_pos h1] at h0
   exact refBody_sch A B E c d k f w h1 h0 af hf hw aG
 by_cases h2:f.kind=2
 · rw [if_neg h1,if_pos h2] at h0
   exact refBody_dat A B E c d k f w h2 h0 hf
 by_cases h3:f.kind=3
 · rw [if_neg h1,if_neg h2,if_pos h3] at h0
   exact refBody_idx A B E c d k f w h3 h0 hf
 · rw [if_neg h1,if_neg h2,if_neg h3] at h0
   omega
theorem refEncode_calls (A B E:Option Addr) (c d k:Nat) (f:Fr) (w:World) (af:f.cols.length≤c) (hf:FrS w (fun b=>b<w.heap.size) A B E f) (hw:f.wf) (aG:Tabs w) :
 Calls Tryz.prog 44 #[.agg (frCells A c B d E k f)] w (FPost w (encF f)):=by
 obtain ⟨W,hW⟩:∃ W,W=w.alloc (.cells (frCells A c B d E k f) 36):=⟨_,rfl⟩
 have ab:Keeps w W:=by rw [hW];exact (Keeps.refl w).alloc _
 have b0:W.heap[w.heap.size]? = some (.cells (frCells A c B d E k f) 36):=by rw [hW];exact obj_new w _
 have cm:=refWrong_calls A B E c d k f W af (hf.at_later ab) hw (aG.below ab.below)
 have cd:=fun w1 (hk:Keeps W w1) (h0:frWrong f=0)=>refBody_calls A B E c d k f w1 h0 af (hf.at_later (ab.trans hk)) hw (aG.below (ab.trans hk).below)
 have aj:frWrong f=0→(frBody f).length≤34359738368:=frBody_len hf
 obtain ⟨R,hR⟩:∃ R,R=encF f:=⟨_,rfl⟩
 rw [← hR]
 unfold encF at hR
 have HW:=Hi cm
 have bH:=Hi cd
 have HB:=Hi b0
 have HK:=Hi ab
 have b4:=Hi aj
 have HR:=Hi hR
 unfold frCells at *
 clear cm cd b0 ab aj hR hf hw aG af
 generalize f.cols.length=NC at *
 generalize f.block.length=NB at *
 generalize f.ents.length=NE at *
 by_cases h0:frWrong f=0
 · rw [h0] at HW
   have ay:Hid (R=encFin (frBody f++le4 (Crc.sum (nats (frBody f))))):=Hi (by rw [HR.out,if_pos h0])
   have cW:(frBody f++le4 (Crc.sum (nats (frBody f)))).length≤34359738372:=by rw [List.length_append];have:=b4.out h0;have e:(le4 (Crc.sum (nats (frBody f)))).length=4:=rfl;omega
   have be:=Hi (fun w1 hk=>bH.out w1 hk h0)
   clear HR b4 bH h0
   generalize frBody f++le4 (Crc.sum (nats (frBody f)))=Q at *
   go_enter Tryz.func44,Tryz.ntmps44
   go_wp2_with fail
   rw [← hW]
   clear hW
   refine HW.out.mono ?_
   rintro e w1 ⟨rfl,al⟩
   have ax:=(al.below.block _ (obj_lt HB.out)).trans HB.out
   obtain ⟨d0,d1,d2,d3,d4,d5,d6,d7,d8,d9,d10⟩:=cells11 ax
   have u1:=obj_lt ax
   have HC:=Hi (be.out w1 al)
   have au:=Hi (HK.out.trans al)
   clear al ax be HW HB
   go_wp2_with fail
   refine HC.out.mono ?_
   rintro e w2 ⟨v2,rfl,a0,ae⟩
   obtain ⟨A2,M2,c2,rfl,aX,av⟩:=a0.seen
   have aW:=refStuff_calls A2 c2 Q w2 (by omega) av.out
   rw [aX.out] at aW
   have b6:=Hi aW
   have am:=Hi (au.out.trans ae)
   clear aW a0 ae HC d0 d1 d2 d3 d4 d5 d6 d7 d8 d9 d10 u1
   go_wp2_with fail
   refine b6.out.mono ?_
   rintro e w3 ⟨v3,rfl,a3,ci⟩
   obtain ⟨A3,M3,c3,rfl,ba,cB⟩:=a3.seen
   have aw:=Hi (am.out.trans ci)
   clear a3 ci b6
   by_cases hL:2200<M3
   · have HE:Hid (R=.error 2):=Hi (by rw [ay.out];unfold encFin;rw [if_pos (by rw [ba.out];exact hL)])
     clear ay
     go_wp2
     go_ret2
     rw [HE.out]
     exact ⟨rfl,aw.out⟩
   · have HE:Hid (R=.ok (0 :: (stuffOf Q++[0]))):=Hi (by rw [ay.out];unfold encFin;rw [if_neg (by rw [ba.out];exact hL)])
     have cL:M3≤2200:=by omega
     have bl:=Hi cL
     clear ay
     obtain ⟨W4,bB⟩:∃ W4,W4=w3.alloc (.cells #[.int .u8 0] 5):=⟨_,rfl⟩
     have aA:Keeps w3 W4:=by rw [bB];exact (Keeps.refl w3).alloc _
     have a7:OwnB 5 W4 w.heap.size (.slice (some ⟨w3.heap.size,0,none⟩) 1 1) [0]:=by
      rw [bB];exact OwnB.new1 _ 0 _ rfl _ _ rfl aw.out.size
     have aT:=Hi a7
     have aD:=Hi (aw.out.trans aA)
     have bc:=Hi (cB.out.below aA)
     have cN:=Hi bB
     clear aA a7 bB
     go_wp2_with (at_builtin;rw [← cN.out];refine wpList_append_bytes (w0:=w) w.heap.size rfl _ _ 31 5 rfl Tryz.underlying31 info_u8b (.slice (some ⟨w3.heap.size,0,none⟩) 1 1) [0] (stuffOf Q) rfl aT.out A3 c3 (by rw [ba.out];rfl) bc.out ?c2 aD.out.size aD.out ?_)
     case c2=>have:=ba.out;have:=bl.out;simp;omega
     intro v5 w5 an bb _ _
     obtain ⟨A5,M5,c5,rfl,ag⟩:=an.named (l':=[0]++stuffOf Q) rfl
     have cl:Keeps w w5:=bb
     obtain ⟨W6,bw⟩:∃ W6,W6=w5.alloc (.cells #[.int .u8 0] 5):=⟨_,rfl⟩
     have bN:Keeps w5 W6:=by rw [bw];exact (Keeps.refl w5).alloc _
     have cv:=Hi (show Reads W6 (some ⟨w5.heap.size,0,none⟩) [0] by rw [bw];exact Reads.new _ _ _ _ _ rfl)
     have cC:=Hi (ag.below bN)
     have aI:=Hi (cl.trans bN)
     have cy:=Hi bw
     clear an ag bb cl bN bw
     go_wp2_with (at_builtin;rw [← cy.out];refine wpList_append_bytes (w0:=w) w.heap.size rfl _ _ 31 5 rfl Tryz.underlying31 info_u8b (.slice A5 M5 c5) ([0]++stuffOf Q) [0] rfl cC.out (some ⟨w5.heap.size,0,none⟩) 1 rfl cv.out ?e2 aI.out.size aI.out ?_)
     case e2=>have:=ba.out;have:=bl.out;rw [List.length_append];simp;omega
     intro v7 w7 a5 bX _ _
     obtain ⟨A7,M7,c7,rfl,aE⟩:=a5.named (l':=0 :: (stuffOf Q++[0])) (by simp)
     have aY:=Hi aE
     have b3:Hid (Keeps w w7):=Hi bX
     clear a5 aE bX
     go_wp2
     go_ret2
     rw [HE.out]
     exact ⟨_,rfl,aY.out,b3.out⟩
 · have HE:Hid (R=.error (frWrong f)):=Hi (by rw [HR.out,if_neg h0])
   have qe:(frWrong f != 0)=true:=by simpa using h0
   generalize frWrong f=X at *
   clear HR b4 bH h0
   go_enter Tryz.func44,Tryz.ntmps44
   go_wp2_with fail
   rw [← hW]
   clear hW
   refine HW.out.mono ?_
   rintro e w1 ⟨rfl,al⟩
   have au:=Hi (HK.out.trans al)
   clear al
   go_wp2
   go_ret2
   rw [HE.out]
   exact ⟨rfl,au.out⟩
end
end Go.Proofs.YtihodcnnappkbaaGreatDoor
