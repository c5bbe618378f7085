/-
  The reference's way to read a number in base 128: plain. No condition. The walk of the reference's Put of leb. Condition: the number is of 64 bits. The walk of the reference's some: so many numbers, each below its limit. Condition: the slices read, the limits are small. The walks of the document's Update and Sum of the check. Condition: the slice reads as a list of bytes. One step of right UTF-8, by the leading byte: plain. No condition. The walk of the reference's Utf. Condition: the text's length is Go's. The reference's Zig, Zag, Of, Fix, flag, typeAt, CheckType: their walks. Condition of the types': the value stands for the type.
-/
import Derived.Test.YtihodcnnappkbaaGreatDoorG2
import Derived.Test.YtihodcnnappkbaaGreatDoorG1
import Derived.Test.YtihodcnnappkbaaGreatDoorG6
import Derived.Test.YtihodcnnappkbaaGreatDoorG8
import Derived.Test.YtihodcnnappkbaaGreatDoorG7
import Derived.IntWalk
import Derived.Test.YtihodcnnappkbaaGreatDoorG4
import Derived.Test.YtihodcnnappkbaaGreatDoorG3
set_option linter.unusedVariables false
set_option linter.unusedSimpArgs false
set_option maxHeartbeats 4000000
set_option maxRecDepth 20000
namespace Go.Proofs.YtihodcnnappkbaaGreatDoor
def hk:List UInt8→Nat→Nat
 | [],_=>0
 | _ :: _,0=>0
 | c :: s,f+1=>if 127<c.toNat then hk s f+1 else 0
def val:List UInt8→Nat→Nat
 | [],_=>0
 | c :: _,0=>c.toNat % 128
 | c :: s,k+1=>c.toNat % 128+128*val s k
section
open Go.RowKit
theorem ref3Put_calls (n:Nat) (hn:n<18446744073709551616) (w:World) :
 Calls Tryz.prog 143 #[.int .u64 (n:Int)] w fun e w'=>∃ v,e=.returned v∧OwnB 5 w' w.heap.size v (leb n)∧Keeps w w':=by
 have aC:=leb_le n hn
 have HL:=Hi aC
 have HN:=Hi hn
 clear aC hn
 go_enter Tryz.func143,Tryz.ntmps143
 go_wp2_with fail
 go_loopw [0,3] (fun i b wr=>∃ (m:Nat) (pre:List UInt8) (A:Option Addr) (c:Nat),i=.int .u64 (m:Int)∧b=.slice A pre.length c∧m<18446744073709551616∧pre++leb m=leb n∧OwnB 5 wr w.heap.size (.slice A pre.length c) pre∧Keeps w wr) (fun i _ _=>(intOf i).toNat)
 case atStart=>exact ⟨n,[],none,0,rfl,rfl,HN.out,rfl,OwnB.nil _ _ _,Keeps.refl w⟩
 case round=>
  obtain ⟨m,pre,A,c,rfl,rfl,hm,ay,aD,hk⟩:=hrel
  have aW:pre.length≤9:=by
   have h1:=congrArg List.length ay
   have h2:=leb_pos m
   have h3:=HL.out
   rw [List.length_append] at h1
   omega
  have HP:=Hi ay
  have HO:=Hi aD
  have HK:=Hi hk
  clear ay aD hk
  generalize aM:pre.length=pl at aW HO
  have aT:=Hi aM
  clear aM
  by_cases a8:m<128
  · have ab:∀ wr:World,Reads (wr.alloc (.cells #[.int .u8 (m:Int)] 5)) (some ⟨wr.heap.size,0,none⟩) [UInt8.ofNat m]:=fun wr=>Reads.new wr _ _ _ _ (by show [Value.int .u8 (m:Int)]=[Value.int .u8 (((UInt8.ofNat m).toNat:Nat):Int)];rw [byte_last m a8])
    have HR:=Hi (ab wr)
    clear ab
    go_wp2_with (at_builtin;refine wpList_append_bytes (w0:=wr) w.heap.size rfl _ _ 31 5 rfl Tryz.underlying31 info_byte (.slice A pl c) pre [UInt8.ofNat m] rfl ?c0 (some ⟨wr.heap.size,0,none⟩) 1 rfl HR.out ?c2 ?c3 ?c4 ?_)
    case c0=>exact OwnB.below HO.out ((Below.refl _ wr).alloc (Nat.le_refl _) _)
    case c2=>have:=aT.out;simp;omega
    case c3=>have:=HK.out.size;simp;omega
    case c4=>exact (Below.refl _ wr).alloc (by have:=HK.out.size;omega) _
    intro v1 w1 a9 aB _ _
    go_wp2
    go_ret
    refine ⟨_,rfl, ?_, ?_⟩
    · have:=HP.out
      rw [leb_small a8] at this
      rw [← this]
      exact a9
    · exact Below.trans HK.out.below aB
  · have e1:IntKind.u8.wrap ((m:Int) % 128+128)=((m % 128+128:Nat):Int):=by
     unfold IntKind.wrap
     simp [IntKind.bits,IntKind.signed]
     omega
    have ab:∀ wr:World,Reads (wr.alloc (.cells #[.int .u8 ((m % 128+128:Nat):Int)] 5)) (some ⟨wr.heap.size,0,none⟩) [UInt8.ofNat (m % 128+128)]:=fun wr=>Reads.new wr _ _ _ _ (by show [Value.int .u8 ((m % 128+128:Nat):Int)]=[Value.int .u8 (((UInt8.ofNat (m % 128+128)).toNat:Nat):Int)];rw [byte_more m])
    have HR:=Hi (ab wr)
    clear ab
    generalize hM:m % 128+128=M at e1 HR
    have HM:=Hi hM
    clear hM
    go_wp2_with (at_builtin;refine wpList_append_bytes (w0:=wr) w.heap.size rfl _ _ 31 5 rfl Tryz.underlying31 info_byte (.slice A pl c) pre [UInt8.ofNat M] rfl ?d0 (some ⟨wr.heap.size,0,none⟩) 1 rfl HR.out ?d2 ?d3 ?d4 ?_)
    case d0=>exact OwnB.below HO.out ((Below.refl _ wr).alloc (Nat.le_refl _) _)
    case d2=>have:=aT.out;simp;omega
    case d3=>have:=HK.out.size;simp;omega
    case d4=>exact (Below.refl _ wr).alloc (by have:=HK.out.size;omega) _
    intro v1 w1 a9 aB _ _
    obtain ⟨A1,c1,rfl,_,_,_,_⟩:=a9.form
    have b4:=Hi a9
    have b1:=Hi aB
    clear a9 aB
    go_wp2
    refine ⟨⟨m / 128,pre++[UInt8.ofNat M],A1,c1, ?_,rfl,by omega, ?_,b4.out,Below.trans HK.out.below b1.out⟩, ?_⟩
    · rw [show (m:Int) / 128=((m / 128:Nat):Int) by omega]
    · have:=HP.out
      rw [leb_step a8,HM.out] at this
      rw [← this]
      simp
    · simp [intOf]
      omega
end
section
open Go.RowKit Go.BigFrame
theorem info_i64b:(Tryz.prog.info? 2).map (fun i=>(i.zero,i.size,i.bytes))=some (some (.int .i64 0),1,8):=by kernel_rfl
end
section
open Go.RowKit
theorem bit_parts (X:Nat) (hX:X<4294967296):∃ d Y:Nat,bits BinOp.and IntKind.u32 (X:Int) 1=((X % 2:Nat):Int)∧(X:Int) % 2=((X % 2:Nat):Int)∧(X:Int) / 2=(d:Int)∧bits BinOp.xor IntKind.u32 (d:Int) 3988292384=(Y:Int) ∧
 Crc.bit X<4294967296∧(X % 2=1→Crc.bit X=Y)∧(X % 2≠1→Crc.bit X=d):=by
 refine ⟨X / 2,X / 2 ^^^ 3988292384, ?_,by omega,by omega, ?_,Crc.bit_lt hX,fun h=>by simp [Crc.bit,h],fun h=>by simp [Crc.bit,h]⟩
 · have:=u32_and_nat X 1 hX (by omega)
   rw [show X % 2=X &&& 1 from (Nat.and_two_pow_sub_one_eq_mod X 1).symm]
   exact this
 · exact xor_u32 _ 3988292384 (by omega) (by omega)
theorem nats_slow_step (s1:Nat) (l:List UInt8) (k:Nat) (a8:k<l.length):Crc.slow s1 ((nats l).take (k+1))=Crc.bits 8 (Crc.slow s1 ((nats l).take k) ^^^ (l[k]'a8).toNat):=by
 rw [nats_snoc l k a8]
 simp only [Crc.slow,List.foldl_append,List.foldl_cons,List.foldl_nil]
 rfl
theorem refUpdate_calls (s:Nat) (hs:s<4294967296) (A:Option Addr) (c:Nat) (l:List UInt8) (w:World) (hl:l.length≤9223372036854775807) (hr:Reads w A l) :
 Calls Tryz.prog 127 #[.int .u32 (s:Int),.slice A l.length c] w fun e w'=>e=.returned (.int .u32 ((Crc.upd s (nats l):Nat):Int))∧w=w':=by
 have aq:=not_u32 s hs
 have aN:4294967295 ^^^ s<4294967296:=Crc.xor_lt (by omega) hs
 have hu:Crc.upd s (nats l)=4294967295 ^^^ Crc.slow (4294967295 ^^^ s) (nats l):=by
  unfold Crc.upd;rw [Crc.fast_slow]
 generalize 4294967295 ^^^ s=s1 at aq aN hu
 have HU:=Hi hu
 have HR:=Hi hr
 clear hr hu
 go_enter Tryz.func127,Tryz.ntmps127
 go_wp2
 go_loop [5,6] (fun r i=>∃ k:Nat,k≤l.length∧i=.int .i64 k∧r=.int .u32 ((Crc.slow s1 ((nats l).take k):Nat):Int)) (fun _ i=>l.length-(intOf i).toNat)
 case atStart=>exact ⟨0,Nat.zero_le _,rfl,rfl⟩
 case round=>
  obtain ⟨k,hk,rfl,rfl⟩:=hrel
  clear aq
  by_cases a8:k<l.length
  · obtain ⟨ad,rfl,hc⟩:=HR.out.out k a8
    have hn:=nats_slow_step s1 l k a8
    have hb:Crc.slow s1 ((nats l).take k)<4294967296:=Crc.slow_lt _ aN (nats_take_lt l k)
    have aj:(l[k]'a8).toNat<4294967296:=by have:=(l[k]'a8).toNat_lt;omega
    generalize Crc.slow s1 ((nats l).take k)=R at hn hb ⊢
    generalize (l[k]'a8).toNat=cb at hn hc aj
    have e0:=mod_u32 cb aj
    have e1:=xor_u32 R cb hb aj
    have hX:R ^^^ cb<4294967296:=Crc.xor_lt hb aj
    generalize R ^^^ cb=X at e1 hX hn
    have HN:=Hi hn
    clear hn
    go_wp2
    go_loop [5,7] (fun r i=>∃ j:Nat,j≤8∧i=.int .i64 j∧r=.int .u32 ((Crc.bits j X:Nat):Int)) (fun _ i=>8-(intOf i).toNat)
    case atStart=>exact ⟨0,Nat.zero_le _,rfl,rfl⟩
    case round=>
     obtain ⟨j,hj,rfl,rfl⟩:=hrel
     clear e0 e1 hc
     by_cases b6:j<8
     · have hB:Crc.bits j X<4294967296:=Crc.bits_lt j hX
       have hs:Crc.bits (j+1) X=Crc.bit (Crc.bits j X):=by rw [Crc.bits_add];rfl
       generalize Crc.bits j X=B at hB hs ⊢
       obtain ⟨d,Y,g1,g2,g3,g4,aP,ac,ag⟩:=bit_parts B hB
       clear g1
       by_cases hm:B % 2=1
       · have hy:=ac hm
         rw [hm] at g2
         rw [hy] at hs
         have HS:=Hi hs
         clear hm hy ac ag hs aP
         go_wp2
         go_round
         case rel=>exact ⟨j+1,by omega,by go_num,by rw [HS.out]⟩
         case measure=>simp [intOf];omega
       · have aR:B % 2=0:=by omega
         have hy:=ag hm
         rw [aR] at g2
         rw [hy] at hs
         have HS:=Hi hs
         clear hm aR hy ac ag hs aP
         go_wp2
         go_round
         case rel=>exact ⟨j+1,by omega,by go_num,by rw [HS.out]⟩
         case measure=>simp [intOf];omega
     · obtain rfl:j=8:=by omega
       go_wp2
       go_round
       case rel=>exact ⟨k+1,by omega,by go_num,by rw [HN.out]⟩
       case measure=>simp [intOf];omega
  · go_wp2
    go_ret
    refine ⟨?_,rfl⟩
    have:k=l.length:=by omega
    subst this
    rw [List.take_of_length_le (by rw [nats_length];omega),not_u32 _ (Crc.slow_lt _ aN (nats_lt l)),HU.out]
    exact ret_int rfl
theorem refSum_calls (A:Option Addr) (c:Nat) (l:List UInt8) (w:World) (hl:l.length≤9223372036854775807) (hr:Reads w A l) :
 Calls Tryz.prog 95 #[.slice A l.length c] w fun e w'=>e=.returned (.int .u32 ((Crc.sum (nats l):Nat):Int))∧w=w':=by
 have HR:=Hi hr
 clear hr
 go_enter Tryz.func95,Tryz.ntmps95
 go_wp2_with (go_at_call 127;refine (refUpdate_calls 0 (by omega) A c l _ hl HR.out).mono ?_;rintro e w' ⟨rfl,rfl⟩)
 go_ret
 exact ⟨rfl,rfl⟩
end
section
open Go
def cb (s:ByteArray) (i:Nat):Nat:=(s.get! i).toNat
def cont (s:ByteArray) (i:Nat):Bool:=decide (i<s.size)&&(decide (128≤cb s i)&&decide (cb s i<192))
theorem cb_lt (s:ByteArray) (i:Nat):cb s i<256:=(s.get! i).toNat_lt
theorem cont_model (s:ByteArray) (i:Nat):(decide (i<s.size)&&(s.get! i).toNat / 64==2)=cont s i:=by
 unfold cont
 have h:=cb_lt s i
 change (decide (i<s.size)&&(cb s i / 64==2))=_
 congr 1
 rw [Bool.eq_iff_iff]
 simp only [beq_iff_eq,Bool.and_eq_true,decide_eq_true_eq]
 omega
theorem decode_eq (s:ByteArray) (p:Nat):Utf8.decode s p =
 if cb s p<128 then (cb s p,1)
 else if (cb s p / 32==6&&cont s (p+1))=true then (if (cb s p % 32)*64+cb s (p+1) % 64≥128 then ((cb s p % 32)*64+cb s (p+1) % 64,2) else (65533,1))
 else if (cb s p / 16==14&&cont s (p+1)&&cont s (p+2))=true then (if ((cb s p % 16)*4096+(cb s (p+1) % 64)*64+cb s (p+2) % 64≥2048&&Utf8.valid (((cb s p % 16)*4096+(cb s (p+1) % 64)*64+cb s (p+2) % 64:Nat):Int))=true then ((cb s p % 16)*4096+(cb s (p+1) % 64)*64+cb s (p+2) % 64,3) else (65533,1))
 else if (cb s p / 8==30&&cont s (p+1)&&cont s (p+2)&&cont s (p+3))=true then (if ((cb s p % 8)*262144+(cb s (p+1) % 64)*4096+(cb s (p+2) % 64)*64+cb s (p+3) % 64≥65536&&Utf8.valid (((cb s p % 8)*262144+(cb s (p+1) % 64)*4096+(cb s (p+2) % 64)*64+cb s (p+3) % 64:Nat):Int))=true then ((cb s p % 8)*262144+(cb s (p+1) % 64)*4096+(cb s (p+2) % 64)*64+cb s (p+3) % 64,4) else (65533,1))
 else (65533,1):=by
 simp only [← cont_model]
 rfl
theorem utf_step {s:ByteArray} {p:Nat} (f:Nat) (h:p<s.size):utfGo s (f+1) p=if (Utf8.decode s p).1=65533∧(Utf8.decode s p).2=1 then false else utfGo s f (p+(Utf8.decode s p).2):=by
 rw [utfGo,if_pos h]
theorem utf_bad {s:ByteArray} {p:Nat} (f:Nat) (h:p<s.size) (hd:Utf8.decode s p=(65533,1)):utfGo s (f+1) p=false:=by
 rw [utf_step f h,hd,if_pos ⟨rfl,rfl⟩]
theorem utf_good {s:ByteArray} {p c n:Nat} (f:Nat) (h:p<s.size) (hd:Utf8.decode s p=(c,n)) (hn:n≠1∨c<128):utfGo s (f+1) p=utfGo s f (p+n):=by
 rw [utf_step f h,hd,if_neg (fun ⟨a,b⟩=>by simp only at a b;omega)]
theorem utf_one {s:ByteArray} {p:Nat} (f:Nat) (h:p<s.size) (h0:cb s p<128):utfGo s (f+1) p=utfGo s f (p+1):=
 utf_good f h (by rw [decode_eq,if_pos h0]) (.inr h0)
theorem utf_none {s:ByteArray} {p:Nat} (f:Nat) (h:p<s.size) (h0:128≤cb s p) (h1:cb s p<192∨248≤cb s p):utfGo s (f+1) p=false:=by
 have h2:=cb_lt s p
 refine utf_bad f h ?_
 have e6:(cb s p / 32==6)=false:=by rw [beq_eq_false_iff_ne];omega
 have e14:(cb s p / 16==14)=false:=by rw [beq_eq_false_iff_ne];omega
 have e30:(cb s p / 8==30)=false:=by rw [beq_eq_false_iff_ne];omega
 rw [decode_eq,if_neg (by omega),e6,e14,e30]
 simp
def v2 (s:ByteArray) (p:Nat):Nat:=(cb s p-192)*64+(cb s (p+1)-128)
def v3 (s:ByteArray) (p:Nat):Nat:=((cb s p-224)*64+(cb s (p+1)-128))*64+(cb s (p+2)-128)
def v4 (s:ByteArray) (p:Nat):Nat:=(((cb s p-240)*64+(cb s (p+1)-128))*64+(cb s (p+2)-128))*64+(cb s (p+3)-128)
theorem cont_out {s:ByteArray} {i:Nat} (h:cont s i=true):i<s.size∧128≤cb s i∧cb s i<192:=by
 unfold cont at h
 simpa only [Bool.and_eq_true,decide_eq_true_eq] using h
theorem valid_nat (n:Nat):Utf8.valid (n:Int)=decide (n<55296∨57344≤n∧n≤1114111):=by
 rw [Bool.eq_iff_iff]
 unfold Utf8.valid
 simp only [Bool.or_eq_true,Bool.and_eq_true,decide_eq_true_eq]
 omega
theorem utf_two {s:ByteArray} {p:Nat} (f:Nat) (h:p<s.size) (h0:192≤cb s p) (h1:cb s p<224) :
 utfGo s (f+1) p=if cont s (p+1)=true∧128≤v2 s p then utfGo s f (p+2) else false:=by
 have e6:(cb s p / 32==6)=true:=by rw [beq_iff_eq];omega
 have e14:(cb s p / 16==14)=false:=by rw [beq_eq_false_iff_ne];omega
 have e30:(cb s p / 8==30)=false:=by rw [beq_eq_false_iff_ne];omega
 have hd:=decode_eq s p
 rw [if_neg (by omega),e6,e14,e30] at hd
 simp only [Bool.true_and,Bool.false_and,Bool.false_eq_true,if_false] at hd
 by_cases hc:cont s (p+1)=true
 · obtain ⟨_,c1,c2⟩:=cont_out hc
   have hv:(cb s p % 32)*64+cb s (p+1) % 64=v2 s p:=by unfold v2;omega
   rw [if_pos hc,hv] at hd
   by_cases hk:128≤v2 s p
   · rw [if_pos hk] at hd
     rw [if_pos ⟨hc,hk⟩]
     exact utf_good f h hd (.inl (by omega))
   · rw [if_neg hk] at hd
     rw [if_neg (fun h=>hk h.2)]
     exact utf_bad f h hd
 · rw [if_neg hc] at hd
   rw [if_neg (fun h=>hc h.1)]
   exact utf_bad f h hd
theorem utf_three {s:ByteArray} {p:Nat} (f:Nat) (h:p<s.size) (h0:224≤cb s p) (h1:cb s p<240) :
 utfGo s (f+1) p=if cont s (p+1)=true∧cont s (p+2)=true∧2048≤v3 s p∧(v3 s p<55296∨57344≤v3 s p) then utfGo s f (p+3) else false:=by
 have e6:(cb s p / 32==6)=false:=by rw [beq_eq_false_iff_ne];omega
 have e14:(cb s p / 16==14)=true:=by rw [beq_iff_eq];omega
 have e30:(cb s p / 8==30)=false:=by rw [beq_eq_false_iff_ne];omega
 have hd:=decode_eq s p
 rw [if_neg (by omega),e6,e14,e30] at hd
 simp only [Bool.true_and,Bool.false_and,Bool.false_eq_true,if_false] at hd
 by_cases hc:cont s (p+1)=true∧cont s (p+2)=true
 · obtain ⟨aA,ax⟩:=hc
   obtain ⟨_,c1,c2⟩:=cont_out aA
   obtain ⟨_,c3,c4⟩:=cont_out ax
   have hv:(cb s p % 16)*4096+(cb s (p+1) % 64)*64+cb s (p+2) % 64=v3 s p:=by unfold v3;omega
   have hm:v3 s p<1114111:=by unfold v3;omega
   rw [if_pos (by rw [aA,ax];rfl),hv,valid_nat] at hd
   by_cases hk:2048≤v3 s p∧(v3 s p<55296∨57344≤v3 s p)
   · rw [if_pos (by simp only [ge_iff_le,Bool.and_eq_true,decide_eq_true_eq];omega)] at hd
     rw [if_pos ⟨aA,ax,hk⟩]
     exact utf_good f h hd (.inl (by omega))
   · rw [if_neg (by simp only [ge_iff_le,Bool.and_eq_true,decide_eq_true_eq];omega)] at hd
     rw [if_neg (fun h=>hk h.2.2)]
     exact utf_bad f h hd
 · rw [if_neg (by rw [Bool.and_eq_true];exact hc)] at hd
   rw [if_neg (fun h=>hc ⟨h.1,h.2.1⟩)]
   exact utf_bad f h hd
theorem utf_four {s:ByteArray} {p:Nat} (f:Nat) (h:p<s.size) (h0:240≤cb s p) (h1:cb s p<248) :
 utfGo s (f+1) p=if cont s (p+1)=true∧cont s (p+2)=true∧cont s (p+3)=true∧65536≤v4 s p∧v4 s p≤1114111 then utfGo s f (p+4) else false:=by
 have e6:(cb s p / 32==6)=false:=by rw [beq_eq_false_iff_ne];omega
 have e14:(cb s p / 16==14)=false:=by rw [beq_eq_false_iff_ne];omega
 have e30:(cb s p / 8==30)=true:=by rw [beq_iff_eq];omega
 have hd:=decode_eq s p
 rw [if_neg (by omega),e6,e14,e30] at hd
 simp only [Bool.true_and,Bool.false_and,Bool.false_eq_true,if_false] at hd
 by_cases hc:cont s (p+1)=true∧cont s (p+2)=true∧cont s (p+3)=true
 · obtain ⟨aA,ax,aL⟩:=hc
   obtain ⟨_,c1,c2⟩:=cont_out aA
   obtain ⟨_,c3,c4⟩:=cont_out ax
   obtain ⟨_,c5,c6⟩:=cont_out aL
   have hv:(cb s p % 8)*262144+(cb s (p+1) % 64)*4096+(cb s (p+2) % 64)*64+cb s (p+3) % 64=v4 s p:=by unfold v4;omega
   rw [if_pos (by rw [aA,ax,aL];rfl),hv,valid_nat] at hd
   by_cases hk:65536≤v4 s p∧v4 s p≤1114111
   · rw [if_pos (by simp only [ge_iff_le,Bool.and_eq_true,decide_eq_true_eq];omega)] at hd
     rw [if_pos ⟨aA,ax,aL,hk⟩]
     exact utf_good f h hd (.inl (by omega))
   · rw [if_neg (by simp only [ge_iff_le,Bool.and_eq_true,decide_eq_true_eq];omega)] at hd
     rw [if_neg (fun h=>hk h.2.2.2)]
     exact utf_bad f h hd
 · rw [if_neg (by simp only [Bool.and_eq_true];intro ⟨⟨a,b⟩,c⟩;exact hc ⟨a,b,c⟩)] at hd
   rw [if_neg (fun h=>hc ⟨h.1,h.2.1,h.2.2.1⟩)]
   exact utf_bad f h hd
def vk (s:ByteArray) (p b:Nat):Nat→Nat
 | 0=>cb s p-b
 | k+1=>vk s p b k*64+(cb s (p+(k+1))-128)
theorem vk_succ (s:ByteArray) (p b k:Nat):vk s p b (k+1)=vk s p b k*64+(cb s (p+(k+1))-128):=rfl
theorem vk_small {s:ByteArray} {p b:Nat} (h:cb s p-b≤63) (k:Nat) (hk:k≤3):vk s p b k≤134217728:=by
 have h0:vk s p b 0≤63:=h
 have h1:=vk_succ s p b 0
 have h2:=vk_succ s p b 1
 have h3:=vk_succ s p b 2
 have c1:=cb_lt s (p+(0+1))
 have c2:=cb_lt s (p+(1+1))
 have c3:=cb_lt s (p+(2+1))
 simp only [Nat.zero_add,Nat.reduceAdd] at h1 h2 h3 c1 c2 c3
 obtain rfl | rfl | rfl | rfl:k=0∨k=1∨k=2∨k=3:=by omega
 all_goals omega
def conts (s:ByteArray) (p k:Nat):Prop:=∀ j,j<k→cont s (p+(j+1))=true
theorem conts_zero (s:ByteArray) (p:Nat):conts s p 0:=fun j h=>by omega
theorem conts_succ {s:ByteArray} {p k:Nat} (h:conts s p k) (h1:cont s (p+(k+1))=true):conts s p (k+1):=fun j hj=>by
 by_cases e:j=k
 · subst e;exact h1
 · exact h j (by omega)
structure Seq (s:ByteArray) (f p b m least:Nat):Prop where
 no:∀ j,j<m→cont s (p+(j+1))=false→utfGo s (f+1) p=false
 low:conts s p m→vk s p b m<least→utfGo s (f+1) p=false
 high:conts s p m→1114111<vk s p b m→utfGo s (f+1) p=false
 mid:conts s p m→55296≤vk s p b m→vk s p b m≤57343→utfGo s (f+1) p=false
 yes:conts s p m→least≤vk s p b m→vk s p b m≤1114111→(vk s p b m<55296∨57343<vk s p b m)→utfGo s (f+1) p=utfGo s f (p+(m+1))
theorem seq2 {s:ByteArray} {p:Nat} (f:Nat) (h:p<s.size) (h0:192≤cb s p) (h1:cb s p<224):Seq s f p 192 1 128:=by
 have e:=utf_two f h h0 h1
 have hv:v2 s p=vk s p 192 1:=rfl
 have hb:cb s (p+1)<256:=cb_lt _ _
 have hm:vk s p 192 1<55296:=by rw [← hv];unfold v2;omega
 rw [hv] at e
 have hc:conts s p 1→cont s (p+1)=true:=fun h=>h 0 (by omega)
 refine ⟨fun j hj hn=>?_,fun a b=>?_,fun a b=>?_,fun a b c=>?_,fun a b c d=>?_⟩
 · obtain rfl:j=0:=by omega
   rw [e,if_neg (fun h=>by rw [hn] at h;exact absurd h.1 (by simp))]
 · rw [e,if_neg (fun h=>by have:=h.2;omega)]
 · omega
 · omega
 · rw [e,if_pos ⟨hc a,b⟩]
theorem seq3 {s:ByteArray} {p:Nat} (f:Nat) (h:p<s.size) (h0:224≤cb s p) (h1:cb s p<240):Seq s f p 224 2 2048:=by
 have e:=utf_three f h h0 h1
 have hv:v3 s p=vk s p 224 2:=rfl
 have aB:cb s (p+1)<256:=cb_lt _ _
 have b8:cb s (p+2)<256:=cb_lt _ _
 have hm:vk s p 224 2<1114111:=by rw [← hv];unfold v3;omega
 rw [hv] at e
 have hc:conts s p 2→cont s (p+1)=true∧cont s (p+2)=true:=fun h=>⟨h 0 (by omega),h 1 (by omega)⟩
 refine ⟨fun j hj hn=>?_,fun a b=>?_,fun a b=>?_,fun a b c=>?_,fun a b c d=>?_⟩
 · obtain rfl | rfl:j=0∨j=1:=by omega
   · rw [e,if_neg (fun h=>by rw [hn] at h;exact absurd h.1 (by simp))]
   · rw [e,if_neg (fun h=>by rw [hn] at h;exact absurd h.2.1 (by simp))]
 · rw [e,if_neg (fun h=>by have:=h.2.2.1;omega)]
 · omega
 · rw [e,if_neg (fun h=>by have:=h.2.2.2;omega)]
 · rw [e,if_pos ⟨(hc a).1,(hc a).2,b,by omega⟩]
theorem seq4 {s:ByteArray} {p:Nat} (f:Nat) (h:p<s.size) (h0:240≤cb s p) (h1:cb s p<248):Seq s f p 240 3 65536:=by
 have e:=utf_four f h h0 h1
 have hv:v4 s p=vk s p 240 3:=rfl
 rw [hv] at e
 have hc:conts s p 3→cont s (p+1)=true∧cont s (p+2)=true∧cont s (p+3)=true:=fun h=>⟨h 0 (by omega),h 1 (by omega),h 2 (by omega)⟩
 refine ⟨fun j hj hn=>?_,fun a b=>?_,fun a b=>?_,fun a b c=>?_,fun a b c d=>?_⟩
 · obtain rfl | rfl | rfl:j=0∨j=1∨j=2:=by omega
   · rw [e,if_neg (fun h=>by rw [hn] at h;exact absurd h.1 (by simp))]
   · rw [e,if_neg (fun h=>by rw [hn] at h;exact absurd h.2.1 (by simp))]
   · rw [e,if_neg (fun h=>by rw [hn] at h;exact absurd h.2.2.1 (by simp))]
 · rw [e,if_neg (fun h=>by have:=h.2.2.2.1;omega)]
 · rw [e,if_neg (fun h=>by have:=h.2.2.2.2;omega)]
 · have b':55296≤vk s p 240 3:=b
   have c':vk s p 240 3≤57343:=c
   rw [e,if_neg (fun h=>by have:=h.2.2.2.1;omega)]
 · rw [e,if_pos ⟨(hc a).1,(hc a).2.1,(hc a).2.2,b,c⟩]
end
section
open Go.RowKit Go.Proofs
theorem cb_at {s:ByteArray} {i:Nat} (h:i<s.size):cb s i=(s[i]'h).toNat:=by
 unfold cb
 exact congrArg UInt8.toNat (get_at s i h)
theorem cont_yes {s:ByteArray} {i:Nat} (h:i<s.size) (h1:128≤(s[i]'h).toNat) (h2:(s[i]'h).toNat<192):cont s i=true:=by
 unfold cont
 rw [cb_at h]
 simp only [Bool.and_eq_true,decide_eq_true_eq]
 exact ⟨h,h1,h2⟩
theorem cont_no {s:ByteArray} {i:Nat} (h:i<s.size) (h1:¬(128≤(s[i]'h).toNat∧(s[i]'h).toNat<192)):cont s i=false:=by
 rw [← Bool.not_eq_true]
 intro hc
 have:=cont_out hc
 rw [cb_at h] at this
 exact h1 this.2
theorem cont_end {s:ByteArray} {i:Nat} (h:s.size≤i):cont s i=false:=by
 rw [← Bool.not_eq_true]
 intro hc
 have:=(cont_out hc).1
 omega
theorem refUtf_calls (s:ByteArray) (w:World) (hs:s.size≤140737488355328) :
 Calls Tryz.prog 181 #[.string s] w fun e w'=>e=.returned (.bool (utfOk s))∧w=w':=by
 go_enter Tryz.func181,Tryz.ntmps181
 go_wp2_with fail
 go_loopw [3] (fun a wr=>∃ p f:Nat,a=.int .i64 (p:Int)∧s.size≤p+f∧utfOk s=utfGo s f p∧p≤s.size∧wr=w) (fun a _=>s.size-(intOf a).toNat)
 case atStart=>exact ⟨0,s.size,rfl,by omega,rfl,by omega,rfl⟩
 case round=>
  obtain ⟨p,f0,rfl,hf,af,aM,rfl⟩:=hrel
  by_cases hp:p<s.size
  case neg=>
   rw [utfGo_end s f0 p hp] at af
   have HG:=Hi af
   clear af
   go_wp2
   go_ret
   exact ⟨ret_bool HG.out.symm,rfl⟩
  case pos=>
  obtain ⟨f,rfl⟩:∃ f,f0=f+1:=⟨f0-1,by omega⟩
  have aj:=cb_at hp
  have hx:(s[p]'hp).toNat<256:=(s[p]'hp).toNat_lt
  have ai:IntKind.i64.wrap ((s[p]'hp).toNat:Int)=((s[p]'hp).toNat:Int):=IntWalk.i64_in _ (by omega)
  by_cases ak:(s[p]'hp).toNat<128
  case pos=>
   have HG:=Hi (af.trans (utf_one f hp (by omega)))
   have q1:decide (((s[p]'hp).toNat:Int)<128)=true:=by rw [decide_eq_true_eq];omega
   have q2:decide (((s[p]'hp).toNat:Int)<0)=false:=by rw [decide_eq_false_iff_not];omega
   have q3:decide ((1114111:Int)<((s[p]'hp).toNat:Int))=false:=by rw [decide_eq_false_iff_not];omega
   have q4:decide ((55296:Int)≤((s[p]'hp).toNat:Int))=false:=by rw [decide_eq_false_iff_not];omega
   have i1:((s[p]'hp).toNat:Int)<128:=by omega
   have i3:¬(1114111:Int)<((s[p]'hp).toNat:Int):=by omega
   have i4:¬(55296:Int)≤((s[p]'hp).toNat:Int):=by omega
   clear af ak aj
   go_wp2_with fail
   refine wp_loop_rounds 1 ?_
   rw [rounds_succ]
   go_wp2
   exact ⟨⟨p+1,f,by go_num,by omega,HG.out,by omega,trivial⟩,by simp [intOf];omega⟩
  case neg=>
  by_cases aK:(s[p]'hp).toNat<192∨248≤(s[p]'hp).toNat
  case pos=>
   have HG:=Hi (af.trans (utf_none f hp (by omega) (by omega)))
   clear af aj
   have i1:¬((s[p]'hp).toNat:Int)<128:=by omega
   have q1:decide (((s[p]'hp).toNat:Int)<128)=false:=by rw [decide_eq_false_iff_not];omega
   rcases aK with aY | aS
   · have q2:decide ((192:Int)≤((s[p]'hp).toNat:Int))=false:=by rw [decide_eq_false_iff_not];omega
     have q3:decide ((224:Int)≤((s[p]'hp).toNat:Int))=false:=by rw [decide_eq_false_iff_not];omega
     have q4:decide ((240:Int)≤((s[p]'hp).toNat:Int))=false:=by rw [decide_eq_false_iff_not];omega
     go_wp2
     go_ret
     exact ⟨ret_bool HG.out.symm,rfl⟩
   · have q2:decide ((192:Int)≤((s[p]'hp).toNat:Int))=true:=by rw [decide_eq_true_eq];omega
     have q3:decide (((s[p]'hp).toNat:Int)<224)=false:=by rw [decide_eq_false_iff_not];omega
     have q4:decide ((224:Int)≤((s[p]'hp).toNat:Int))=true:=by rw [decide_eq_true_eq];omega
     have q5:decide (((s[p]'hp).toNat:Int)<240)=false:=by rw [decide_eq_false_iff_not];omega
     have q6:decide ((240:Int)≤((s[p]'hp).toNat:Int))=true:=by rw [decide_eq_true_eq];omega
     have q7:decide (((s[p]'hp).toNat:Int)<248)=false:=by rw [decide_eq_false_iff_not];omega
     go_wp2
     go_ret
     exact ⟨ret_bool HG.out.symm,rfl⟩
  case neg=>
  have i1:¬((s[p]'hp).toNat:Int)<128:=by omega
  have q1:decide (((s[p]'hp).toNat:Int)<128)=false:=by rw [decide_eq_false_iff_not];omega
  have q2:decide ((192:Int)≤((s[p]'hp).toNat:Int))=true:=by rw [decide_eq_true_eq];omega
  by_cases b3:(s[p]'hp).toNat<224
  case pos=>
   have a0:=Hi (seq2 f hp (by omega) (by omega))
   have HG:=Hi af
   have am:((s[p]'hp).toNat:Int)-192=((vk s p 192 0:Nat):Int):=by show _=((cb s p-192:Nat):Int);omega
   have ar:=Hi am
   have au:=fun k hk=>vk_small (s:=s) (p:=p) (b:=192) (by omega) k hk
   have aH:=Hi au
   have q3:decide (((s[p]'hp).toNat:Int)<224)=true:=by rw [decide_eq_true_eq];omega
   clear af am au aj aK ak
   go_wp2_with fail
   clear q3 i1 q1 q2 ai hx
   go_loopw [4,7] (fun v i wz=>∃ k:Nat,k≤1∧v=.int .i64 ((vk s p 192 k:Nat):Int)∧i=.int .i64 ((k+1:Nat):Int)∧conts s p k∧wz=wr) (fun _ i _=>2-(intOf i).toNat)
   case atStart=>exact ⟨0,by omega,by rw [← ar.out],rfl,conts_zero s p,rfl⟩
   case round=>
    obtain ⟨k,hk,rfl,rfl,an,rfl⟩:=hrel
    have a6:=Hi an
    clear an
    have hv:=aH.out k (by omega)
    obtain ⟨V,hV⟩:∃ V,V=vk s p 192 k:=⟨_,rfl⟩
    rw [← hV] at hv ⊢
    have HV:=Hi hV
    clear hV ar
    by_cases ae:k<1
    · have a8:(((k+1:Nat):Int))<2:=by omega
      obtain ⟨q,hq⟩:∃ q,q=p+(k+1):=⟨_,rfl⟩
      have aF:IntKind.i64.wrap ((p:Int)+((k+1:Nat):Int))=(q:Int):=by rw [IntWalk.i64_in _ (by omega)];omega
      have aG:IntKind.i64.wrap (((k+1:Nat):Int)+1)=((k+2:Nat):Int):=by rw [IntWalk.i64_in _ (by omega)];omega
      have HQ:=Hi hq
      clear hq
      generalize hj:k+1=j at a8 aF aG ⊢
      have HJ:=Hi hj
      clear hj
      by_cases a5:q<s.size
      · have aJ:decide (s.size≤q)=false:=by rw [decide_eq_false_iff_not];omega
        have aa:¬s.size≤q:=by omega
        have aV:(s[q]'a5).toNat<256:=(s[q]'a5).toNat_lt
        by_cases ac:(s[q]'a5).toNat<128
        · have r1:decide (((s[q]'a5).toNat:Int)<128)=true:=by rw [decide_eq_true_eq];omega
          have HE:=Hi (HG.out.trans (a0.out.no k ae (by rw [← HQ.out];exact cont_no a5 (by omega))))
          clear ac HG a0
          go_wp2
          go_ret
          exact ⟨ret_bool HE.out.symm,rfl⟩
        · have r1:decide (((s[q]'a5).toNat:Int)<128)=false:=by rw [decide_eq_false_iff_not];omega
          by_cases ag:(s[q]'a5).toNat<192
          · have r2:decide ((192:Int)≤((s[q]'a5).toNat:Int))=false:=by rw [decide_eq_false_iff_not];omega
            have ao:cont s (p+(k+1))=true:=by rw [← HQ.out];exact cont_yes a5 (by omega) (by omega)
            have aE:=Hi (conts_succ a6.out ao)
            have ap:vk s p 192 (k+1)=V*64+((s[q]'a5).toNat-128):=by rw [vk_succ,← HV.out,← HQ.out,cb_at a5]
            have w1:IntKind.i64.wrap ((V:Int)*64)=(V:Int)*64:=IntWalk.i64_in _ (by omega)
            have w2:IntKind.i64.wrap ((V:Int)*64+((s[q]'a5).toNat:Int))=(V:Int)*64+((s[q]'a5).toNat:Int):=IntWalk.i64_in _ (by omega)
            have w3:(V:Int)*64+((s[q]'a5).toNat:Int)-128=((vk s p 192 (k+1):Nat):Int):=by rw [ap];omega
            have aI:=Hi w3
            have c1:IntKind.i64.wrap ((s[q]'a5).toNat:Int)=((s[q]'a5).toNat:Int):=IntWalk.i64_in _ (by omega)
            clear ao ap w3 ac ag
            go_wp2
            exact ⟨⟨k+1,by omega,by rw [← aI.out],by go_num,aE.out,trivial⟩,by rw [← HJ.out];simp [intOf];omega⟩
          · have r2:decide ((192:Int)≤((s[q]'a5).toNat:Int))=true:=by rw [decide_eq_true_eq];omega
            have HE:=Hi (HG.out.trans (a0.out.no k ae (by rw [← HQ.out];exact cont_no a5 (by omega))))
            clear ac ag HG a0
            go_wp2
            go_ret
            exact ⟨ret_bool HE.out.symm,rfl⟩
      · have aJ:decide (s.size≤q)=true:=by rw [decide_eq_true_eq];omega
        have aa:s.size≤q:=by omega
        have HE:=Hi (HG.out.trans (a0.out.no k ae (by rw [← HQ.out];exact cont_end aa)))
        clear HG a0 a5
        go_wp2
        go_ret
        exact ⟨ret_bool HE.out.symm,rfl⟩
    · obtain rfl:k=1:=by omega
      clear ae hk
      have aQ:IntKind.i64.wrap ((p:Int)+2)=((p+2:Nat):Int):=by rw [IntWalk.i64_in _ (by omega)];omega
      by_cases a1:V<128
      · have r1:decide ((V:Int)<128)=true:=by rw [decide_eq_true_eq];omega
        have HE:=Hi (HG.out.trans (a0.out.low a6.out (by rw [← HV.out];exact a1)))
        clear HG a0 a1
        go_wp2
        go_ret
        exact ⟨ret_bool HE.out.symm,rfl⟩
      · have r1:decide ((V:Int)<128)=false:=by rw [decide_eq_false_iff_not];omega
        by_cases a2:1114111<V
        · have r2:decide ((1114111:Int)<(V:Int))=true:=by rw [decide_eq_true_eq];omega
          have HE:=Hi (HG.out.trans (a0.out.high a6.out (by rw [← HV.out];exact a2)))
          clear HG a0 a1 a2
          go_wp2
          go_ret
          exact ⟨ret_bool HE.out.symm,rfl⟩
        · have r2:decide ((1114111:Int)<(V:Int))=false:=by rw [decide_eq_false_iff_not];omega
          by_cases a3:55296≤V
          · have r3:decide ((55296:Int)≤(V:Int))=true:=by rw [decide_eq_true_eq];omega
            by_cases a4:V≤57343
            · have r4:decide ((V:Int)≤57343)=true:=by rw [decide_eq_true_eq];omega
              have HE:=Hi (HG.out.trans (a0.out.mid a6.out (by rw [← HV.out];exact a3) (by rw [← HV.out];exact a4)))
              clear HG a0 a1 a2 a3 a4
              go_wp2
              go_ret
              exact ⟨ret_bool HE.out.symm,rfl⟩
            · have r4:decide ((V:Int)≤57343)=false:=by rw [decide_eq_false_iff_not];omega
              have HE:=Hi (HG.out.trans (a0.out.yes a6.out (by rw [← HV.out];omega) (by rw [← HV.out];omega) (by rw [← HV.out];omega)))
              have a7:p+2≤s.size:=by have:=(cont_out (a6.out 0 (by omega))).1;omega
              clear HG a0 a1 a2 a3 a4
              go_wp2
              exact ⟨⟨p+2,f,by go_num,by omega,HE.out,a7,trivial⟩,by simp [intOf];omega⟩
          · have r3:decide ((55296:Int)≤(V:Int))=false:=by rw [decide_eq_false_iff_not];omega
            have HE:=Hi (HG.out.trans (a0.out.yes a6.out (by rw [← HV.out];omega) (by rw [← HV.out];omega) (by rw [← HV.out];omega)))
            have a7:p+2≤s.size:=by have:=(cont_out (a6.out 0 (by omega))).1;omega
            clear HG a0 a1 a2 a3
            go_wp2
            exact ⟨⟨p+2,f,by go_num,by omega,HE.out,a7,trivial⟩,by simp [intOf];omega⟩
  case neg=>
  by_cases b0:(s[p]'hp).toNat<240
  case pos=>
   have a0:=Hi (seq3 f hp (by omega) (by omega))
   have HG:=Hi af
   have am:((s[p]'hp).toNat:Int)-224=((vk s p 224 0:Nat):Int):=by show _=((cb s p-224:Nat):Int);omega
   have ar:=Hi am
   have au:=fun k hk=>vk_small (s:=s) (p:=p) (b:=224) (by omega) k hk
   have aH:=Hi au
   have q3:decide (((s[p]'hp).toNat:Int)<224)=false:=by rw [decide_eq_false_iff_not];omega
   have q4:decide ((224:Int)≤((s[p]'hp).toNat:Int))=true:=by rw [decide_eq_true_eq];omega
   have q5:decide (((s[p]'hp).toNat:Int)<240)=true:=by rw [decide_eq_true_eq];omega
   clear af am au aj aK ak
   go_wp2_with fail
   clear q3 q4 q5 i1 q1 q2 ai hx
   go_loopw [4,7] (fun v i wz=>∃ k:Nat,k≤2∧v=.int .i64 ((vk s p 224 k:Nat):Int)∧i=.int .i64 ((k+1:Nat):Int)∧conts s p k∧wz=wr) (fun _ i _=>3-(intOf i).toNat)
   case atStart=>exact ⟨0,by omega,by rw [← ar.out],rfl,conts_zero s p,rfl⟩
   case round=>
    obtain ⟨k,hk,rfl,rfl,an,rfl⟩:=hrel
    have a6:=Hi an
    clear an
    have hv:=aH.out k (by omega)
    obtain ⟨V,hV⟩:∃ V,V=vk s p 224 k:=⟨_,rfl⟩
    rw [← hV] at hv ⊢
    have HV:=Hi hV
    clear hV ar
    by_cases ae:k<2
    · have a8:(((k+1:Nat):Int))<3:=by omega
      obtain ⟨q,hq⟩:∃ q,q=p+(k+1):=⟨_,rfl⟩
      have aF:IntKind.i64.wrap ((p:Int)+((k+1:Nat):Int))=(q:Int):=by rw [IntWalk.i64_in _ (by omega)];omega
      have aG:IntKind.i64.wrap (((k+1:Nat):Int)+1)=((k+2:Nat):Int):=by rw [IntWalk.i64_in _ (by omega)];omega
      have HQ:=Hi hq
      clear hq
      generalize hj:k+1=j at a8 aF aG ⊢
      have HJ:=Hi hj
      clear hj
      by_cases a5:q<s.size
      · have aJ:decide (s.size≤q)=false:=by rw [decide_eq_false_iff_not];omega
        have aa:¬s.size≤q:=by omega
        have aV:(s[q]'a5).toNat<256:=(s[q]'a5).toNat_lt
        by_cases ac:(s[q]'a5).toNat<128
        · have r1:decide (((s[q]'a5).toNat:Int)<128)=true:=by rw [decide_eq_true_eq];omega
          have HE:=Hi (HG.out.trans (a0.out.no k ae (by rw [← HQ.out];exact cont_no a5 (by omega))))
          clear ac HG a0
          go_wp2
          go_ret
          exact ⟨ret_bool HE.out.symm,rfl⟩
        · have r1:decide (((s[q]'a5).toNat:Int)<128)=false:=by rw [decide_eq_false_iff_not];omega
          by_cases ag:(s[q]'a5).toNat<192
          · have r2:decide ((192:Int)≤((s[q]'a5).toNat:Int))=false:=by rw [decide_eq_false_iff_not];omega
            have ao:cont s (p+(k+1))=true:=by rw [← HQ.out];exact cont_yes a5 (by omega) (by omega)
            have aE:=Hi (conts_succ a6.out ao)
            have ap:vk s p 224 (k+1)=V*64+((s[q]'a5).toNat-128):=by rw [vk_succ,← HV.out,← HQ.out,cb_at a5]
            have w1:IntKind.i64.wrap ((V:Int)*64)=(V:Int)*64:=IntWalk.i64_in _ (by omega)
            have w2:IntKind.i64.wrap ((V:Int)*64+((s[q]'a5).toNat:Int))=(V:Int)*64+((s[q]'a5).toNat:Int):=IntWalk.i64_in _ (by omega)
            have w3:(V:Int)*64+((s[q]'a5).toNat:Int)-128=((vk s p 224 (k+1):Nat):Int):=by rw [ap];omega
            have aI:=Hi w3
            have c1:IntKind.i64.wrap ((s[q]'a5).toNat:Int)=((s[q]'a5).toNat:Int):=IntWalk.i64_in _ (by omega)
            clear ao ap w3 ac ag
            go_wp2
            exact ⟨⟨k+1,by omega,by rw [← aI.out],by go_num,aE.out,trivial⟩,by rw [← HJ.out];simp [intOf];omega⟩
          · have r2:decide ((192:Int)≤((s[q]'a5).toNat:Int))=true:=by rw [decide_eq_true_eq];omega
            have HE:=Hi (HG.out.trans (a0.out.no k ae (by rw [← HQ.out];exact cont_no a5 (by omega))))
            clear ac ag HG a0
            go_wp2
            go_ret
            exact ⟨ret_bool HE.out.symm,rfl⟩
      · have aJ:decide (s.size≤q)=true:=by rw [decide_eq_true_eq];omega
        have aa:s.size≤q:=by omega
        have HE:=Hi (HG.out.trans (a0.out.no k ae (by rw [← HQ.out];exact cont_end aa)))
        clear HG a0 a5
        go_wp2
        go_ret
        exact ⟨ret_bool HE.out.symm,rfl⟩
    · obtain rfl:k=2:=by omega
      clear ae hk
      have aQ:IntKind.i64.wrap ((p:Int)+3)=((p+3:Nat):Int):=by rw [IntWalk.i64_in _ (by omega)];omega
      by_cases a1:V<2048
      · have r1:decide ((V:Int)<2048)=true:=by rw [decide_eq_true_eq];omega
        have HE:=Hi (HG.out.trans (a0.out.low a6.out (by rw [← HV.out];exact a1)))
        clear HG a0 a1
        go_wp2
        go_ret
        exact ⟨ret_bool HE.out.symm,rfl⟩
      · have r1:decide ((V:Int)<2048)=false:=by rw [decide_eq_false_iff_not];omega
        by_cases a2:1114111<V
        · have r2:decide ((1114111:Int)<(V:Int))=true:=by rw [decide_eq_true_eq];omega
          have HE:=Hi (HG.out.trans (a0.out.high a6.out (by rw [← HV.out];exact a2)))
          clear HG a0 a1 a2
          go_wp2
          go_ret
          exact ⟨ret_bool HE.out.symm,rfl⟩
        · have r2:decide ((1114111:Int)<(V:Int))=false:=by rw [decide_eq_false_iff_not];omega
          by_cases a3:55296≤V
          · have r3:decide ((55296:Int)≤(V:Int))=true:=by rw [decide_eq_true_eq];omega
            by_cases a4:V≤57343
            · have r4:decide ((V:Int)≤57343)=true:=by rw [decide_eq_true_eq];omega
              have HE:=Hi (HG.out.trans (a0.out.mid a6.out (by rw [← HV.out];exact a3) (by rw [← HV.out];exact a4)))
              clear HG a0 a1 a2 a3 a4
              go_wp2
              go_ret
              exact ⟨ret_bool HE.out.symm,rfl⟩
            · have r4:decide ((V:Int)≤57343)=false:=by rw [decide_eq_false_iff_not];omega
              have HE:=Hi (HG.out.trans (a0.out.yes a6.out (by rw [← HV.out];omega) (by rw [← HV.out];omega) (by rw [← HV.out];omega)))
              have a7:p+3≤s.size:=by have:=(cont_out (a6.out 1 (by omega))).1;omega
              clear HG a0 a1 a2 a3 a4
              go_wp2
              exact ⟨⟨p+3,f,by go_num,by omega,HE.out,a7,trivial⟩,by simp [intOf];omega⟩
          · have r3:decide ((55296:Int)≤(V:Int))=false:=by rw [decide_eq_false_iff_not];omega
            have HE:=Hi (HG.out.trans (a0.out.yes a6.out (by rw [← HV.out];omega) (by rw [← HV.out];omega) (by rw [← HV.out];omega)))
            have a7:p+3≤s.size:=by have:=(cont_out (a6.out 1 (by omega))).1;omega
            clear HG a0 a1 a2 a3
            go_wp2
            exact ⟨⟨p+3,f,by go_num,by omega,HE.out,a7,trivial⟩,by simp [intOf];omega⟩
  case neg=>
  have a0:=Hi (seq4 f hp (by omega) (by omega))
  have HG:=Hi af
  have am:((s[p]'hp).toNat:Int)-240=((vk s p 240 0:Nat):Int):=by show _=((cb s p-240:Nat):Int);omega
  have ar:=Hi am
  have au:=fun k hk=>vk_small (s:=s) (p:=p) (b:=240) (by omega) k hk
  have aH:=Hi au
  have q3:decide (((s[p]'hp).toNat:Int)<224)=false:=by rw [decide_eq_false_iff_not];omega
  have q4:decide ((224:Int)≤((s[p]'hp).toNat:Int))=true:=by rw [decide_eq_true_eq];omega
  have q5:decide (((s[p]'hp).toNat:Int)<240)=false:=by rw [decide_eq_false_iff_not];omega
  have q6:decide ((240:Int)≤((s[p]'hp).toNat:Int))=true:=by rw [decide_eq_true_eq];omega
  have q7:decide (((s[p]'hp).toNat:Int)<248)=true:=by rw [decide_eq_true_eq];omega
  clear af am au aj aK ak
  go_wp2_with fail
  clear q3 q4 q5 q6 q7 i1 q1 q2 ai hx
  go_loopw [4,7] (fun v i wz=>∃ k:Nat,k≤3∧v=.int .i64 ((vk s p 240 k:Nat):Int)∧i=.int .i64 ((k+1:Nat):Int)∧conts s p k∧wz=wr) (fun _ i _=>4-(intOf i).toNat)
  case atStart=>exact ⟨0,by omega,by rw [← ar.out],rfl,conts_zero s p,rfl⟩
  case round=>
   obtain ⟨k,hk,rfl,rfl,an,rfl⟩:=hrel
   have a6:=Hi an
   clear an
   have hv:=aH.out k (by omega)
   obtain ⟨V,hV⟩:∃ V,V=vk s p 240 k:=⟨_,rfl⟩
   rw [← hV] at hv ⊢
   have HV:=Hi hV
   clear hV ar
   by_cases ae:k<3
   · have a8:(((k+1:Nat):Int))<4:=by omega
     obtain ⟨q,hq⟩:∃ q,q=p+(k+1):=⟨_,rfl⟩
     have aF:IntKind.i64.wrap ((p:Int)+((k+1:Nat):Int))=(q:Int):=by rw [IntWalk.i64_in _ (by omega)];omega
     have aG:IntKind.i64.wrap (((k+1:Nat):Int)+1)=((k+2:Nat):Int):=by rw [IntWalk.i64_in _ (by omega)];omega
     have HQ:=Hi hq
     clear hq
     generalize hj:k+1=j at a8 aF aG ⊢
     have HJ:=Hi hj
     clear hj
     by_cases a5:q<s.size
     · have aJ:decide (s.size≤q)=false:=by rw [decide_eq_false_iff_not];omega
       have aa:¬s.size≤q:=by omega
       have aV:(s[q]'a5).toNat<256:=(s[q]'a5).toNat_lt
       by_cases ac:(s[q]'a5).toNat<128
       · have r1:decide (((s[q]'a5).toNat:Int)<128)=true:=by rw [decide_eq_true_eq];omega
         have HE:=Hi (HG.out.trans (a0.out.no k ae (by rw [← HQ.out];exact cont_no a5 (by omega))))
         clear ac HG a0
         go_wp2
         go_ret
         exact ⟨ret_bool HE.out.symm,rfl⟩
       · have r1:decide (((s[q]'a5).toNat:Int)<128)=false:=by rw [decide_eq_false_iff_not];omega
         by_cases ag:(s[q]'a5).toNat<192
         · have r2:decide ((192:Int)≤((s[q]'a5).toNat:Int))=false:=by rw [decide_eq_false_iff_not];omega
           have ao:cont s (p+(k+1))=true:=by rw [← HQ.out];exact cont_yes a5 (by omega) (by omega)
           have aE:=Hi (conts_succ a6.out ao)
           have ap:vk s p 240 (k+1)=V*64+((s[q]'a5).toNat-128):=by rw [vk_succ,← HV.out,← HQ.out,cb_at a5]
           have w1:IntKind.i64.wrap ((V:Int)*64)=(V:Int)*64:=IntWalk.i64_in _ (by omega)
           have w2:IntKind.i64.wrap ((V:Int)*64+((s[q]'a5).toNat:Int))=(V:Int)*64+((s[q]'a5).toNat:Int):=IntWalk.i64_in _ (by omega)
           have w3:(V:Int)*64+((s[q]'a5).toNat:Int)-128=((vk s p 240 (k+1):Nat):Int):=by rw [ap];omega
           have aI:=Hi w3
           have c1:IntKind.i64.wrap ((s[q]'a5).toNat:Int)=((s[q]'a5).toNat:Int):=IntWalk.i64_in _ (by omega)
           clear ao ap w3 ac ag
           go_wp2
           exact ⟨⟨k+1,by omega,by rw [← aI.out],by go_num,aE.out,trivial⟩,by rw [← HJ.out];simp [intOf];omega⟩
         · have r2:decide ((192:Int)≤((s[q]'a5).toNat:Int))=true:=by rw [decide_eq_true_eq];omega
           have HE:=Hi (HG.out.trans (a0.out.no k ae (by rw [← HQ.out];exact cont_no a5 (by omega))))
           clear ac ag HG a0
           go_wp2
           go_ret
           exact ⟨ret_bool HE.out.symm,rfl⟩
     · have aJ:decide (s.size≤q)=true:=by rw [decide_eq_true_eq];omega
       have aa:s.size≤q:=by omega
       have HE:=Hi (HG.out.trans (a0.out.no k ae (by rw [← HQ.out];exact cont_end aa)))
       clear HG a0 a5
       go_wp2
       go_ret
       exact ⟨ret_bool HE.out.symm,rfl⟩
   · obtain rfl:k=3:=by omega
     clear ae hk
     have aQ:IntKind.i64.wrap ((p:Int)+4)=((p+4:Nat):Int):=by rw [IntWalk.i64_in _ (by omega)];omega
     by_cases a1:V<65536
     · have r1:decide ((V:Int)<65536)=true:=by rw [decide_eq_true_eq];omega
       have HE:=Hi (HG.out.trans (a0.out.low a6.out (by rw [← HV.out];exact a1)))
       clear HG a0 a1
       go_wp2
       go_ret
       exact ⟨ret_bool HE.out.symm,rfl⟩
     · have r1:decide ((V:Int)<65536)=false:=by rw [decide_eq_false_iff_not];omega
       by_cases a2:1114111<V
       · have r2:decide ((1114111:Int)<(V:Int))=true:=by rw [decide_eq_true_eq];omega
         have HE:=Hi (HG.out.trans (a0.out.high a6.out (by rw [← HV.out];exact a2)))
         clear HG a0 a1 a2
         go_wp2
         go_ret
         exact ⟨ret_bool HE.out.symm,rfl⟩
       · have r2:decide ((1114111:Int)<(V:Int))=false:=by rw [decide_eq_false_iff_not];omega
         by_cases a3:55296≤V
         · have r3:decide ((55296:Int)≤(V:Int))=true:=by rw [decide_eq_true_eq];omega
           by_cases a4:V≤57343
           · have r4:decide ((V:Int)≤57343)=true:=by rw [decide_eq_true_eq];omega
             have HE:=Hi (HG.out.trans (a0.out.mid a6.out (by rw [← HV.out];exact a3) (by rw [← HV.out];exact a4)))
             clear HG a0 a1 a2 a3 a4
             go_wp2
             go_ret
             exact ⟨ret_bool HE.out.symm,rfl⟩
           · have r4:decide ((V:Int)≤57343)=false:=by rw [decide_eq_false_iff_not];omega
             have HE:=Hi (HG.out.trans (a0.out.yes a6.out (by rw [← HV.out];omega) (by rw [← HV.out];omega) (by rw [← HV.out];omega)))
             have a7:p+4≤s.size:=by have:=(cont_out (a6.out 2 (by omega))).1;omega
             clear HG a0 a1 a2 a3 a4
             go_wp2
             exact ⟨⟨p+4,f,by go_num,by omega,HE.out,a7,trivial⟩,by simp [intOf];omega⟩
         · have r3:decide ((55296:Int)≤(V:Int))=false:=by rw [decide_eq_false_iff_not];omega
           have HE:=Hi (HG.out.trans (a0.out.yes a6.out (by rw [← HV.out];omega) (by rw [← HV.out];omega) (by rw [← HV.out];omega)))
           have a7:p+4≤s.size:=by have:=(cont_out (a6.out 2 (by omega))).1;omega
           clear HG a0 a1 a2 a3
           go_wp2
           exact ⟨⟨p+4,f,by go_num,by omega,HE.out,a7,trivial⟩,by simp [intOf];omega⟩
end
section
open Go.RowKit Go.BigFrame
theorem ref3Zig_calls (n:Int) (h1:-9223372036854775808≤n) (h2:n≤9223372036854775807) (w:World):Calls Tryz.prog 171 #[.int .i64 n] w fun e w'=>e=.returned (.int .u64 ((zig n:Nat):Int))∧w=w':=by
 by_cases h0:0≤n
 · have hz:zig n=2*n.toNat:=by unfold zig;rw [if_pos h0]
   have HZ:=Hi hz
   clear hz
   obtain ⟨m,hm⟩:∃ m:Nat,m=n.toNat:=⟨_,rfl⟩
   obtain rfl:n=(m:Int):=by omega
   have e1:IntKind.u64.wrap (m:Int)=(m:Int):=IntWalk.u64_in _ (by omega)
   have e2:IntKind.u64.wrap (2*(m:Int))=((2*m:Nat):Int):=by rw [IntWalk.u64_in _ (by omega)];omega
   clear hm
   go_enter Tryz.func171,Tryz.ntmps171
   go_wp2
   go_ret
   exact ⟨by rw [HZ.out];show Ending.returned (.int .u64 _)=_;congr 2 <;> omega,rfl⟩
 · have hz:zig n=2*(-(n+1)).toNat+1:=by unfold zig;rw [if_neg h0]
   have HZ:=Hi hz
   clear hz
   obtain ⟨m,hm⟩:∃ m:Nat,m=(-(n+1)).toNat:=⟨_,rfl⟩
   have aU:n = -(m:Int)-1:=by omega
   have HM:=Hi aU
   have e0:IntKind.i64.wrap (n+1) = -(m:Int):=by rw [IntWalk.i64_in _ (by omega)];omega
   have e1:IntKind.i64.wrap (-(-(m:Int)))=(m:Int):=by rw [IntWalk.i64_in _ (by omega)];omega
   have e1w:wrap64 (m:Int)=(m:Int):=by unfold wrap64;omega
   have e1b:IntKind.u64.wrap (m:Int)=(m:Int):=IntWalk.u64_in _ (by omega)
   have e2:IntKind.u64.wrap (2*(m:Int))=((2*m:Nat):Int):=by rw [IntWalk.u64_in _ (by omega)];omega
   have e3:IntKind.u64.wrap (2*(m:Int)+1)=2*(m:Int)+1:=IntWalk.u64_in _ (by omega)
   clear hm aU
   go_enter Tryz.func171,Tryz.ntmps171
   go_wp2
   go_ret
   exact ⟨by rw [HZ.out];show Ending.returned (.int .u64 _)=_;congr 2 <;> (have:=HM.out;omega),rfl⟩
theorem refFlag_calls (b:Bool) (w:World):Calls Tryz.prog 145 #[.bool b] w fun e w'=>e=.returned (.int .u8 (if b then 1 else 0))∧w=w':=by
 cases b
 all_goals
  go_enter Tryz.func145,Tryz.ntmps145
  go_wp2
  go_ret
  exact ⟨rfl,rfl⟩
theorem refTypeAt_calls (n:Nat):∀ (t:Ty) (d:Nat) (v:Value) (w:World),SizeOf.sizeOf t<n→d≤5→TyAt w v t →
 Calls Tryz.prog 168 #[v,.int .i64 (d:Int)] w fun e w'=>e=.returned (.int .i64 (tyCheck t d))∧Keeps w w':=by
 induction n with
 | zero=>intro t d v w hn;exact absurd hn (by omega)
 | succ n ih=>
   intro t d v w hn hd ht
   cases t with
   | mk k ts=>
     obtain ⟨A,c,rfl⟩:=ht.form
     show Calls _ _ #[.agg #[.int .i64 k,.slice A ts.length c],_] _ _
     change TyAt w (.agg #[.int .i64 k,.slice A ts.length c]) _ at ht
     by_cases h4:4<d
     · have he:tyCheck (.mk k ts) d=62:=by rw [tyCheck,if_pos h4]
       rw [he]
       clear he ih ht hn
       generalize ts.length=L
       go_enter Tryz.func168,Tryz.ntmps168
       go_wp2
       go_ret
       exact ⟨rfl,(Keeps.refl w).alloc _⟩
     have b5:d≤4:=by omega
     by_cases ah:k<1∨7<k
     · have he:tyCheck (.mk k ts) d=60:=by rw [tyCheck,if_neg h4,if_pos ah]
       rw [he]
       clear he ih ht hn h4
       generalize ts.length=L
       have q6:(k==6)=false:=by rw [beq_eq_false_iff_ne];omega
       have q7:(k==7)=false:=by rw [beq_eq_false_iff_ne];omega
       rcases ah with ah | ah
       all_goals
        go_enter Tryz.func168,Tryz.ntmps168
        go_wp2
        go_ret
        exact ⟨rfl,(Keeps.refl w).alloc _⟩
     · have b7:1≤k:=by omega
       have b9:k≤7:=by omega
       by_cases av:k=6∨k=7
       · by_cases hl:ts.length=1
         · obtain ⟨t,rfl⟩:=List.length_eq_one_iff.1 hl
           have he:tyCheck (.mk k [t]) d=tyCheck t (d+1):=by rw [tyCheck,if_neg h4,if_neg ah,if_pos av,if_pos hl,tyHead]
           rw [he]
           change TyAt w (.agg #[.int .i64 k,.slice A 1 c]) _ at ht
           change Calls _ _ #[.agg #[.int .i64 k,.slice A 1 c],_] _ _
           have b2:SizeOf.sizeOf t<n:=by
            simp only [Ty.mk.sizeOf_spec,List.cons.sizeOf_spec,List.nil.sizeOf_spec] at hn
            omega
           obtain ⟨W0,al⟩:∃ W0,W0=w.alloc (.cells #[.int .i64 k,.slice A 1 c] 97):=⟨_,rfl⟩
           have aw:Keeps w W0:=by rw [al];exact (Keeps.refl w).alloc _
           obtain ⟨ad,k',s',rfl,a8,c0,c1,az⟩:=(TyS.of_at ht).elem
           obtain ⟨A2,c2,n2,rfl⟩:∃ A2 c2 n2,s'=Value.slice A2 n2 c2:=by
            obtain ⟨A2,c2,e⟩:=az.form
            simp only [Value.agg.injEq,Array.mk.injEq,List.cons.injEq] at e
            exact ⟨A2,c2,_,e.2.1⟩
           have hc:=ih t (d+1) _ W0 b2 (by omega) (az.later aw.below).at
           rw [show (((d+1:Nat):Int))=(d:Int)+1 by omega,al] at hc
           have HC:=Hi hc
           have aO:=Hi aw
           have aZ:=Hi al
           clear he ih ht hn h4 ah hl aw al az hc
           rcases av with rfl | rfl
           all_goals
            go_enter Tryz.func168,Tryz.ntmps168
            go_wp2_with (go_at_call 168;refine HC.out.mono ?_;rintro e w2 ⟨rfl,aX⟩)
            go_ret
            exact ⟨rfl,aO.out.trans (aZ.out▸aX)⟩
         · have he:tyCheck (.mk k ts) d=60:=by rw [tyCheck,if_neg h4,if_neg ah,if_pos av,if_neg hl]
           rw [he]
           have q1:((ts.length:Int) != 1)=true:=by rw [bne_iff_ne];omega
           clear he ih ht hn h4 ah hl
           generalize ts.length=L at q1 ⊢
           rcases av with rfl | rfl
           all_goals
            go_enter Tryz.func168,Tryz.ntmps168
            go_wp2
            go_ret
            exact ⟨rfl,(Keeps.refl w).alloc _⟩
       · have q6:(k==6)=false:=by rw [beq_eq_false_iff_ne];omega
         have q7:(k==7)=false:=by rw [beq_eq_false_iff_ne];omega
         by_cases hl:ts.length=0
         · have he:tyCheck (.mk k ts) d=0:=by rw [tyCheck,if_neg h4,if_neg ah,if_neg av,if_pos hl]
           rw [he,hl]
           clear he ih ht hn h4 ah hl av
           go_enter Tryz.func168,Tryz.ntmps168
           go_wp2
           go_ret
           exact ⟨rfl,(Keeps.refl w).alloc _⟩
         · have he:tyCheck (.mk k ts) d=60:=by rw [tyCheck,if_neg h4,if_neg ah,if_neg av,if_neg hl]
           rw [he]
           have q1:((ts.length:Int) != 0)=true:=by rw [bne_iff_ne];omega
           clear he ih ht hn h4 ah hl av
           generalize ts.length=L at q1 ⊢
           go_enter Tryz.func168,Tryz.ntmps168
           go_wp2
           go_ret
           exact ⟨rfl,(Keeps.refl w).alloc _⟩
theorem refCheckType_calls (t:Ty) (v:Value) (w:World) (ht:TyAt w v t) :
 Calls Tryz.prog 140 #[v] w fun e w'=>e=.returned (.int .i64 (tyCheck t 1))∧Keeps w w':=by
 obtain ⟨A,c,rfl⟩:=ht.form
 obtain ⟨W0,al⟩:∃ W0,W0=w.alloc (.cells #[.int .i64 t.kind,.slice A t.of.length c] 97):=⟨_,rfl⟩
 have aw:Keeps w W0:=by rw [al];exact (Keeps.refl w).alloc _
 have HC:Hid (Calls Tryz.prog 168 #[.agg #[.int .i64 t.kind,.slice A t.of.length c],.int .i64 1] W0 fun e w'=>e=.returned (.int .i64 (tyCheck t 1))∧Keeps W0 w'):=Hi (refTypeAt_calls (SizeOf.sizeOf t+1) t 1 _ W0 (by omega) (by omega) (ht.later aw.below))
 have aO:=Hi aw
 clear ht aw
 go_enter Tryz.func140,Tryz.ntmps140
 go_wp2_with fail
 rw [← al]
 clear al
 refine HC.out.mono ?_
 rintro e w2 ⟨rfl,hk⟩
 go_wp2
 go_ret
 exact ⟨rfl,aO.out.trans hk⟩
end
end Go.Proofs.YtihodcnnappkbaaGreatDoor
