/-
  The walk of schema.PutValue at the kinds without items. Condition: the row is the call's own, the numbers are of 64 bits. The walk of schema.PutValue. Condition: the row is the call's own, the value's blocks lie below it, the numbers are of 64 bits. The walk of schema.put. Condition: the columns' types may be, the numbers are of 64 bits. The walk of value.own. No condition. The walks of value.check and Check. Condition: the value stands for a tree, the tables of unicode/utf8 are as laid. The walk of schema.of. Condition: the value and the type may be. Why a schema may not be, and how long its bytes are: plain. Condition of the lengths: the numbers are of 64 bits.
-/
import Derived.Test.YtihodcnnappkbaaGreatDoorG4
import Derived.Test.YtihodcnnappkbaaGreatDoorG3
import Derived.Test.YtihodcnnappkbaaGreatDoorG2
import Derived.Maps.Own
import Derived.Maps.OwnSet
import Derived.Maps.Views
set_option linter.unusedVariables false
set_option linter.unusedSimpArgs false
set_option maxHeartbeats 4000000
set_option maxRecDepth 20000
namespace Go.Proofs.YtihodcnnappkbaaGreatDoor
section
open Go.RowKit Go.BigFrame
attribute [local go_sem] run_storeF
def le8 (n:Nat):List UInt8:=(List.range 8).map fun i=>UInt8.ofNat (n / 256 ^ i % 256)
theorem le8_length (n:Nat):(le8 n).length=8:=by simp [le8]
theorem le8_take (n k:Nat) (h:k<8):(le8 n).take (k+1)=(le8 n).take k++[UInt8.ofNat (n / 256 ^ k % 256)]:=by
 rw [List.take_succ_eq_append_getElem (by rw [le8_length];exact h)]
 simp [le8]
mutual
def putVa:Va→List UInt8
 | .mk k i f t l=>if k=1 then [if i=1 then 1 else 0] else if k=2 then leb (zig i) else if k=3 then le8 (fbits f) else if k=4∨k=5 then textBytes t else if k=6 then (if l.length=1 then 1 else 0) :: putVas l else leb l.length++putVas l
def putVas:List Va→List UInt8
 | []=>[]
 | v :: l=>putVa v++putVas l
end
mutual
def Va.wf:Va→Prop
 | .mk _ i f _ l=>-9223372036854775808≤i∧i≤9223372036854775807∧f<18446744073709551616∧Va.wfs l
def Va.wfs:List Va→Prop
 | []=>True
 | v :: l=>Va.wf v∧Va.wfs l
end
theorem Va.wfs_get:∀ (l:List Va) (j:Nat) (h:j<l.length),Va.wfs l→Va.wf (l[j]'h)
 | v :: l,0,h,hw=>by rw [Va.wfs] at hw;exact hw.1
 | v :: l,j+1,h,hw=>by rw [Va.wfs] at hw;exact Va.wfs_get l j (by simpa using h) hw.2
theorem putVas_append:∀ (l m:List Va),putVas (l++m)=putVas l++putVas m
 | [],m=>by simp [putVas]
 | v :: l,m=>by rw [List.cons_append,putVas,putVas,putVas_append l m,List.append_assoc]
theorem putVas_take (l:List Va) (k:Nat) (h:k<l.length):putVas (l.take (k+1))=putVas (l.take k)++putVa (l[k]'h):=by
 rw [List.take_succ_eq_append_getElem h,putVas_append,putVas,putVas,List.append_nil]
theorem putVas_le:∀ (l:List Va) (k:Nat),(putVas (l.take k)).length≤(putVas l).length:=by
 intro l k
 have:=putVas_append (l.take k) (l.drop k)
 rw [List.take_append_drop] at this
 rw [this,List.length_append]
 omega
theorem putValue_one (i:Int) (f:Nat) (t:ByteArray) (B:Option Addr) (nb cb:Nat) (base:Nat) (v:Value) (l:List UInt8) (w:World) (a3:OwnB 5 w base v l) (ab:base≤w.heap.size) (a4:l.length+1≤140737488355000) :
 Calls Tryz.prog 138 #[v,.agg #[.int .i64 1,.int .i64 i,.float .f64 f,.string t,.slice B nb cb]] w fun e w'=>∃ v',e=.returned v'∧Grows w w' base v v' (l++[if i=1 then 1 else 0]):=by
 obtain ⟨W0,a5⟩:∃ W0,W0=w.alloc (.cells #[.int .i64 1,.int .i64 i,.float .f64 f,.string t,.slice B nb cb] 101):=⟨_,rfl⟩
 have ag:Keeps w W0:=by rw [a5];exact (Keeps.refl w).alloc _
 have hc:=putBit_calls base v l (i==1) W0 (a3.below ag) (by have:=ag.size;omega) (by omega)
 have e1:(if (i==1)=true then (1:UInt8) else 0)=if i=1 then 1 else 0:=by simp
 rw [e1] at hc
 obtain ⟨A,c,rfl,_⟩:=a3.form
 generalize (if i=1 then (1:UInt8) else 0)=y at hc e1 ⊢
 have HC:=Hi hc
 have aj:=Hi ag
 clear hc ag e1 a3
 go_enter Tryz.func138,Tryz.ntmps138
 go_wp2_with fail
 rw [← a5]
 clear a5
 refine HC.out.mono ?_
 rintro e w1 ⟨v1,rfl,hg⟩
 have HG:=Hi hg
 clear hg HC
 go_wp2
 go_ret
 exact ⟨v1,rfl,Grows.first aj.out HG.out⟩
theorem putValue_two (i:Int) (b4:-9223372036854775808≤i) (bP:i≤9223372036854775807) (f:Nat) (t:ByteArray) (B:Option Addr) (nb cb:Nat) (base:Nat) (v:Value) (l:List UInt8) (w:World) (a3:OwnB 5 w base v l) (ab:base≤w.heap.size) (a4:l.length+(leb (zig i)).length≤140737488355000) :
 Calls Tryz.prog 138 #[v,.agg #[.int .i64 2,.int .i64 i,.float .f64 f,.string t,.slice B nb cb]] w fun e w'=>∃ v',e=.returned v'∧Grows w w' base v v' (l++leb (zig i)):=by
 obtain ⟨W0,a5⟩:∃ W0,W0=w.alloc (.cells #[.int .i64 2,.int .i64 i,.float .f64 f,.string t,.slice B nb cb] 101):=⟨_,rfl⟩
 have ag:Keeps w W0:=by rw [a5];exact (Keeps.refl w).alloc _
 have hz:=zig_calls i b4 bP W0
 have hp:=lebPut_calls (zig i) (zig_lt b4 bP) W0
 obtain ⟨A,c,rfl,b5,_⟩:=a3.form
 have HO:=Hi a3
 have HZ:=Hi hz
 have HP:=Hi hp
 have aj:=Hi ag
 have bK:=Hi a4
 clear a3 hz hp ag a4
 generalize hL:l.length=L at HO b5
 have HL:=Hi hL
 clear hL
 go_enter Tryz.func138,Tryz.ntmps138
 go_wp2_with fail
 rw [← a5]
 clear a5
 refine HZ.out.mono ?_
 rintro e w1 ⟨rfl,rfl⟩
 go_wp2_with fail
 refine HP.out.mono ?_
 rintro e w1 ⟨v1,rfl,ah,a7⟩
 obtain ⟨A1,c1,rfl,al,aN,_,_⟩:=ah.form
 have b8:=Hi aN
 have aA:=Hi (aj.out.trans a7)
 clear ah aN a7 HZ HP
 generalize hm:(leb (zig i)).length=m at al
 have HM:=Hi hm
 clear hm
 go_wp2_with (at_builtin;refine wpList_append_bytes (w0:=w1) base rfl _ _ 31 5 rfl Tryz.underlying31 info_u8b (.slice A L c) l (leb (zig i)) rfl ?c0 A1 c1 (by rw [HM.out];rfl) b8.out ?c2 ?c3 ?c4 ?_)
 case c0=>exact HO.out.below aA.out
 case c2=>have:=bK.out;omega
 case c3=>have:=aA.out.size;omega
 case c4=>exact Below.refl _ _
 intro v2 w2 ae _ aw aS
 have HG:=Hi (Grows.first aA.out (Grows.of ae aw aS))
 clear ae aw aS
 go_wp2
 go_ret
 exact ⟨v2,rfl,HG.out⟩
theorem putValue_text (k:Int) (hk:k=4∨k=5) (i:Int) (f:Nat) (t:ByteArray) (B:Option Addr) (nb cb:Nat) (base:Nat) (v:Value) (l:List UInt8) (w:World) (a3:OwnB 5 w base v l) (ab:base≤w.heap.size) (a4:l.length+t.size≤140737488355000) :
 Calls Tryz.prog 138 #[v,.agg #[.int .i64 k,.int .i64 i,.float .f64 f,.string t,.slice B nb cb]] w fun e w'=>∃ v',e=.returned v'∧Grows w w' base v v' (l++textBytes t):=by
 obtain ⟨W0,a5⟩:∃ W0,W0=w.alloc (.cells #[.int .i64 k,.int .i64 i,.float .f64 f,.string t,.slice B nb cb] 101):=⟨_,rfl⟩
 have ag:Keeps w W0:=by rw [a5];exact (Keeps.refl w).alloc _
 have hc:=putText_calls base v l t W0 (a3.below ag) (by have:=ag.size;omega) a4
 obtain ⟨A,c,rfl,_⟩:=a3.form
 have HC:=Hi hc
 have aj:=Hi ag
 clear hc ag a3 a4
 rcases hk with rfl | rfl
 all_goals
  go_enter Tryz.func138,Tryz.ntmps138
  go_wp2_with fail
  rw [← a5]
  clear a5
  refine HC.out.mono ?_
  rintro e w1 ⟨v1,rfl,hg⟩
  have HG:=Hi hg
  clear hg HC
  go_wp2
  go_ret
  exact ⟨v1,rfl,Grows.first aj.out HG.out⟩
theorem byte_of (M:Nat):(((UInt8.ofNat (M % 256)).toNat:Nat):Int)=((M:Int) % 256):=by simp
theorem putValue_three (i:Int) (f:Nat) (hf:f<18446744073709551616) (t:ByteArray) (B:Option Addr) (nb cb:Nat) (base:Nat) (v:Value) (l:List UInt8) (w:World) (a3:OwnB 5 w base v l) (ab:base≤w.heap.size) (a4:l.length+8≤140737488355000) :
 Calls Tryz.prog 138 #[v,.agg #[.int .i64 3,.int .i64 i,.float .f64 f,.string t,.slice B nb cb]] w fun e w'=>∃ v',e=.returned v'∧Grows w w' base v v' (l++le8 (fbits f)):=by
 obtain ⟨W0,a5⟩:∃ W0,W0=w.alloc (.cells #[.int .i64 3,.int .i64 i,.float .f64 f,.string t,.slice B nb cb] 101):=⟨_,rfl⟩
 have ag:Keeps w W0:=by rw [a5];exact (Keeps.refl w).alloc _
 have hc:=realBits_calls f W0
 have hN:fbits f<18446744073709551616:=by unfold fbits;split <;> omega
 obtain ⟨A,c,rfl,b5,_⟩:=a3.form
 have HO:=Hi (a3.below ag)
 have HC:=Hi hc
 have aj:=Hi ag
 clear a3 hc ag
 generalize fbits f=N at HC hN ⊢
 generalize hL:l.length=L at HO b5 a4
 have HL:=Hi hL
 clear hL
 go_enter Tryz.func138,Tryz.ntmps138
 go_wp2_with fail
 rw [← a5]
 clear a5
 refine HC.out.mono ?_
 rintro e w1 ⟨rfl,rfl⟩
 clear HC
 go_wp2_with fail
 go_loopw [0,5,37] (fun b x j wr=>∃ (k:Nat) (A':Option Addr) (c':Nat),k≤8∧j=.int .i64 (k:Int)∧x=.int .u64 ((N / 256 ^ k:Nat):Int)∧b=.slice A' (L+k) c'∧L+k≤c'∧Grows w wr base (.slice A L c) (.slice A' (L+k) c') (l++(le8 N).take k)) (fun _ _ j _=>8-(intOf j).toNat)
 case atStart=>exact ⟨0,A,c,by omega,rfl,by simp,rfl,b5,by simpa using Grows.first aj.out (Grows.refl HO.out)⟩
 case round=>
  obtain ⟨k,A',c',hk,rfl,rfl,rfl,ck,hg⟩:=hrel
  have HG:=Hi hg
  clear hg
  by_cases ay:k<8
  · have HT:=Hi (le8_take N k ay)
    have aX:N / 256 ^ (k+1)=N / 256 ^ k / 256:=by rw [Nat.pow_succ,Nat.div_div_eq_div_mul]
    have hM:N / 256 ^ k<18446744073709551616:=Nat.lt_of_le_of_lt (Nat.div_le_self _ _) hN
    generalize N / 256 ^ k=M at HT aX hM
    have HD:=Hi aX
    clear aX
    obtain ⟨W1,ao⟩:∃ W1,W1=wr.alloc (.cells #[.int .u8 ((M:Int) % 256)] 5):=⟨_,rfl⟩
    have a7:Keeps wr W1:=by rw [ao];exact (Keeps.refl wr).alloc _
    have aN:Reads W1 (some ⟨wr.heap.size,0,none⟩) [UInt8.ofNat (M % 256)]:=by
     rw [ao];exact Reads.new _ _ _ _ _ (by show [Value.int .u8 ((M:Int) % 256)]=[Value.int .u8 (((UInt8.ofNat (M % 256)).toNat:Nat):Int)];rw [byte_of])
    have aA:=Hi a7
    have b8:=Hi aN
    have cz:=Hi ao
    clear a7 aN ao
    go_wp2_with (at_builtin;rw [← cz.out];refine wpList_append_bytes (w0:=W1) base rfl _ _ 31 5 rfl Tryz.underlying31 info_u8b (.slice A' (L+k) c') (l++(le8 N).take k) [UInt8.ofNat (M % 256)] rfl ?c0 (some ⟨wr.heap.size,0,none⟩) 1 rfl b8.out ?c2 ?c3 ?c4 ?_)
    case c0=>exact HG.out.own.below aA.out
    case c2=>have:=HL.out;rw [List.length_append,List.length_take,le8_length];simp;omega
    case c3=>have:=aA.out.size;have:=HG.out.touch.size;omega
    case c4=>exact Below.refl _ _
    intro v2 w2 ae _ aw aS
    have bF:=HG.out.trans (Grows.first aA.out (Grows.of ae aw aS))
    have b3:(l++((le8 N).take k++[UInt8.ofNat (M % 256)])).length=L+(k+1):=by
     have:=HL.out
     rw [List.length_append,List.length_append,List.length_take,le8_length];simp;omega
    obtain ⟨A2,c2,e2,bd,_⟩:=ae.form
    rw [b3] at e2 bd
    subst e2
    rw [← HT.out] at bF
    have co:=Hi bF
    clear ae aw aS bF b3
    go_wp2
    exact ⟨⟨k+1,A2,c2,by omega,by go_num,by rw [HD.out];go_num,by rfl,bd,co.out⟩,by simp [intOf];omega⟩
  · have h8:k=8:=by omega
    subst h8
    have e8:(le8 N).take 8=le8 N:=List.take_of_length_le (by rw [le8_length];exact Nat.le_refl _)
    rw [e8] at HG
    clear e8
    go_wp2
    go_ret
    exact ⟨_,rfl,HG.out⟩
theorem VaS.elem {w:World} {S:Nat→Prop} {k i:Int} {f:Nat} {tx:ByteArray} {A:Option Addr} {n c:Nat} {l:List Va} (h:VaS w S (.agg #[.int .i64 k,.int .i64 i,.float .f64 f,.string tx,.slice A n c]) (.mk k i f tx l)) (j:Nat) (hj:j<l.length) :
 ∃ ad A1 c1,A=some ad∧S ad.block∧w.cell? (ad.add (j*5))=some (.int .i64 (l[j]'hj).kind)∧w.cell? ⟨(ad.add (j*5)).block,(ad.add (j*5)).off+1,none⟩=some (.int .i64 (l[j]'hj).int)∧w.cell? ⟨(ad.add (j*5)).block,(ad.add (j*5)).off+2,none⟩=some (.float .f64 (l[j]'hj).fl) ∧
   w.cell? ⟨(ad.add (j*5)).block,(ad.add (j*5)).off+3,none⟩=some (.string (l[j]'hj).text)∧w.cell? ⟨(ad.add (j*5)).block,(ad.add (j*5)).off+4,none⟩=some (.slice A1 (l[j]'hj).items.length c1) ∧
   VaS w S (.agg #[.int .i64 (l[j]'hj).kind,.int .i64 (l[j]'hj).int,.float .f64 (l[j]'hj).fl,.string (l[j]'hj).text,.slice A1 (l[j]'hj).items.length c1]) (l[j]'hj):=by
 generalize hv:Value.agg #[.int .i64 k,.int .i64 i,.float .f64 f,.string tx,.slice A n c]=v at h
 generalize hq:Va.mk k i f tx l=q at h
 cases h with
 | mk k2 i2 f2 t2 A2 c2 l2 vs hn h0 h1=>
   simp only [Value.agg.injEq,Array.mk.injEq,List.cons.injEq,Value.slice.injEq] at hv
   obtain ⟨_,_,_,_,⟨e2,_,_⟩,_⟩:=hv
   subst e2
   injection hq with _ _ _ _ e5
   subst e5
   obtain ⟨ad,k',i',f',t',s',e,hs,c1,c2,c3,c4,c5,cx⟩:=h0 j hj
   have an:=h1 j hj
   rw [cx] at an
   obtain ⟨A1,d1,e1⟩:=an.form
   simp only [Value.agg.injEq,Array.mk.injEq,List.cons.injEq,Value.int.injEq,Value.float.injEq,Value.string.injEq,true_and,and_true] at e1
   obtain ⟨rfl,rfl,rfl,rfl,rfl⟩:=e1
   have hp:∀ {m:Nat} {u:Value},0<m→w.cell? (ad.add (5*j+m))=some u→w.cell? ⟨(ad.add (j*5)).block,(ad.add (j*5)).off+m,none⟩=some u:=fun hm hc=>by
    rw [← addr_add_pos _ _ hm,addr_add_add,Nat.mul_comm j 5];exact hc
   exact ⟨ad,A1,d1,e,hs,by rw [Nat.mul_comm];exact c1,hp (by omega) c2,hp (by omega) c3,hp (by omega) c4,hp (by omega) c5,an⟩
def PutV (n:Nat):Prop:=∀ (x:Va) (xv:Value) (base:Nat) (v:Value) (l:List UInt8) (w:World),SizeOf.sizeOf x<n→x.wf→VaS w (fun b=>b<base) xv x→OwnB 5 w base v l→base≤w.heap.size→l.length+(putVa x).length≤140737488355000 →
    Calls Tryz.prog 138 #[v,xv] w fun e w'=>∃ v',e=.returned v'∧Grows w w' base v v' (l++putVa x)
theorem putValue_items (k:Int) (hk:¬(1≤k∧k≤5)) (n:Nat) (ih:PutV n) (i:Int) (f:Nat) (t:ByteArray) (B:Option Addr) (cb:Nat) (items:List Va) (base:Nat) (v:Value) (l:List UInt8) (w:World)
 (hn:SizeOf.sizeOf (Va.mk k i f t items)<n+1) (aL:(Va.mk k i f t items).wf) (hv:VaS w (fun b=>b<base) (.agg #[.int .i64 k,.int .i64 i,.float .f64 f,.string t,.slice B items.length cb]) (.mk k i f t items)) (a3:OwnB 5 w base v l) (ab:base≤w.heap.size) (a4:l.length+(putVa (.mk k i f t items)).length≤140737488355000) :
 Calls Tryz.prog 138 #[v,.agg #[.int .i64 k,.int .i64 i,.float .f64 f,.string t,.slice B items.length cb]] w fun e w'=>∃ v',e=.returned v'∧Grows w w' base v v' (l++putVa (.mk k i f t items)):=by
 obtain ⟨W0,a5⟩:∃ W0,W0=w.alloc (.cells #[.int .i64 k,.int .i64 i,.float .f64 f,.string t,.slice B items.length cb] 101):=⟨_,rfl⟩
 have ag:Keeps w W0:=by rw [a5];exact (Keeps.refl w).alloc _
 have aR:W0.heap[w.heap.size]? = some (.cells #[.int .i64 k,.int .i64 i,.float .f64 f,.string t,.slice B items.length cb] 101):=by rw [a5];exact obj_new w _
 have aE:=hv.at.bound
 change items.length≤_ at aE
 have bb:Va.wfs items:=by rw [Va.wf] at aL;exact aL.2.2.2
 obtain ⟨head,af⟩:∃ head,head=if k=6 then [if items.length=1 then (1:UInt8) else 0] else leb items.length:=⟨_,rfl⟩
 have aH:putVa (.mk k i f t items)=head++putVas items:=by
  rw [putVa,af]
  simp only [show ¬k=1 by omega,show ¬k=2 by omega,show ¬k=3 by omega,show ¬(k=4∨k=5) by omega,if_false]
  split <;> simp
 generalize hP:putVa (.mk k i f t items)=P at aH a4 ⊢
 have ap:l.length+head.length+(putVas items).length≤140737488355000:=by
  rw [aH,List.length_append] at a4
  omega
 clear hP a4
 obtain ⟨A,c,rfl,b5,_⟩:=a3.form
 have q1:(k==1)=false:=by simp;omega
 have q2:(k==2)=false:=by simp;omega
 have q3:(k==3)=false:=by simp;omega
 have q4:(k==4)=false:=by simp;omega
 have q5:(k==5)=false:=by simp;omega
 have HO:=Hi (a3.below ag)
 have HV:=Hi hv
 have bA:=Hi a3
 have ac:=Hi aR
 have aj:=Hi ag
 have bf:=Hi aH
 have bX:=Hi bb
 have cf:=Hi hn
 have IH:=Hi ih
 have aB:=Hi ap
 clear a3 hv aR ag aH bb aL hn ih ap hk
 generalize hL:l.length=L at b5 HO aB bA
 have HL:=Hi hL
 clear hL
 generalize hN:items.length=N at aE HV ac a5 af ⊢
 have HN:=Hi hN
 clear hN
 by_cases h6:k=6
 · subst h6
   rw [if_pos rfl] at af
   have hc:=putBit_calls base (.slice A L c) l ((N:Int)==1) W0 HO.out (by have:=aj.out.size;omega) (by have:=HL.out;have:=aB.out;omega)
   have e1:[if ((N:Int)==1)=true then (1:UInt8) else 0]=head:=by rw [af];congr 1;simp only [beq_iff_eq];by_cases h:N=1 <;> simp [h];omega
   rw [e1] at hc
   have HC:=Hi hc
   clear hc e1 af
   go_enter Tryz.func138,Tryz.ntmps138
   go_wp2_with fail
   rw [← a5]
   clear a5
   refine HC.out.mono ?_
   rintro e w1 ⟨v1,rfl,hg⟩
   have a8:=hg.touch.obj ac.out (fun e=>own_obj_ne HO.out ac.out (by decide) e)
   obtain ⟨d0,d1,d2,d3,d4,z0,z1,z2,z3,z4⟩:=cells5 a8
   have u1:=obj_lt a8
   obtain ⟨A1,c1,e1,al,_⟩:=hg.own.form
   generalize (l++head).length=M1 at e1 al
   subst e1
   have HG:=Hi (Grows.first aj.out hg)
   clear hg a8 HC ac
   go_wp2_with fail
   go_loopw [0,66] (fun b j wr=>∃ (m:Nat) (A':Option Addr) (c' M:Nat),m≤N∧j=.int .i64 (m:Int)∧b=.slice A' M c'∧Grows w wr base (.slice A L c) (.slice A' M c') (l++(head++putVas (items.take m)))) (fun _ j _=>N-(intOf j).toNat)
   case atStart=>exact ⟨0,A1,c1,_,Nat.zero_le _,rfl,rfl,by simpa [putVas] using HG.out⟩
   case round=>
    obtain ⟨m,A',c',M,hm,rfl,rfl,hg⟩:=hrel
    by_cases ay:m<N
    · have a0:m<items.length:=by rw [HN.out];exact ay
      obtain ⟨ad,A2,c2,rfl,_,x0,x1,x2,x3,x4,an⟩:=(HV.out.touch hg.touch (fun b hb e=>by have:=bA.out.ge b e;omega)).elem m a0
      have cj:=hg.touch.size
      obtain ⟨W2,a6⟩:∃ W2,W2=wr.alloc (.cells #[.int .i64 (items[m]'a0).kind,.int .i64 (items[m]'a0).int,.float .f64 (items[m]'a0).fl,.string (items[m]'a0).text,.slice A2 (items[m]'a0).items.length c2] 101):=⟨_,rfl⟩
      have aa:Keeps wr W2:=by rw [a6];exact (Keeps.refl wr).alloc _
      have aC:=putVas_take items m a0
      have aF:=putVas_le items (m+1)
      rw [aC,List.length_append] at aF
      have aq:SizeOf.sizeOf (items[m]'a0)<n:=by
       have h1:=List.sizeOf_lt_of_mem (List.getElem_mem a0)
       have h2:=cf.out
       simp only [Va.mk.sizeOf_spec] at h2
       omega
      have hc:=IH.out (items[m]'a0) _ base (.slice A' M c') _ W2 aq (Va.wfs_get items m a0 bX.out) (an.later aa.below) (hg.own.below aa.below) (by have:=aa.size;omega) (by
       have h1:=aB.out
       have h2:=HL.out
       rw [List.length_append,List.length_append]
       omega)
      have aM:=Hi aC
      clear an aC aF aq
      obtain ⟨x,hx⟩:∃ x,x=items[m]'a0:=⟨_,rfl⟩
      rw [← hx] at x0 x1 x2 x3 x4 hc a6 aM
      have HC:=Hi hc
      have HG:=Hi (hg.later aa)
      clear hc hg hx a0 aa
      generalize x.items.length=nx at x4 HC a6
      generalize x.kind=kx at x0 HC a6
      generalize x.int=ix at x1 HC a6
      generalize x.fl=fx at x2 HC a6
      generalize x.text=tx at x3 HC a6
      go_wp2_with fail
      rw [← a6]
      clear a6
      refine HC.out.mono ?_
      rintro e w3 ⟨v3,rfl,az⟩
      obtain ⟨A3,c3,e3,_⟩:=az.own.form
      generalize (l++(head++putVas (items.take m))++putVa x).length=M3 at e3
      subst e3
      have av:=HG.out.trans az
      rw [List.append_assoc,List.append_assoc,← aM.out] at av
      have aJ:=Hi av
      clear az av HG HC
      go_wp2
      first
       | exact ⟨⟨m+1,A3,c3,M3,by omega,by go_num,rfl,aJ.out⟩,by simp [intOf];omega⟩
       | (go_roundw
          case rel=>exact ⟨m+1,A3,c3,M3,by omega,by go_num,rfl,aJ.out⟩
          case measure=>simp [intOf];omega)
    · have e8:items.take m=items:=List.take_of_length_le (by rw [HN.out];omega)
      rw [e8] at hg
      have aJ:=Hi hg
      clear hg e8
      go_wp2
      go_ret
      exact ⟨_,rfl,by rw [bf.out];exact aJ.out⟩
 · rw [if_neg h6] at af
   have q6:(k==6)=false:=by simp;omega
   have bD:N<18446744073709551616:=by omega
   have hp:=lebPut_calls N bD W0
   rw [← af] at hp
   have HP:=Hi hp
   have HH:=Hi af
   have ax:=Hi (aj.out.size)
   clear hp h6 af
   go_enter Tryz.func138,Tryz.ntmps138
   go_wp2_with fail
   rw [← a5]
   clear a5
   refine HP.out.mono ?_
   rintro e w1 ⟨v1,rfl,ah,a7⟩
   obtain ⟨A1,c1,rfl,al,aN,_,_⟩:=ah.form
   have b8:=Hi aN
   have aA:=Hi a7
   clear ah aN a7 HP
   generalize hm:head.length=mm at al
   have HM:=Hi hm
   clear hm
   go_wp2_with (at_builtin;refine wpList_append_bytes (w0:=w1) base rfl _ _ 31 5 rfl Tryz.underlying31 info_u8b (.slice A L c) l head rfl ?c0 A1 c1 (by rw [HM.out];rfl) b8.out ?c2 ?c3 ?c4 ?_)
   case c0=>exact HO.out.below aA.out
   case c2=>have:=aB.out;have:=HL.out;omega
   case c3=>have:=aA.out.size;have:=ax.out;omega
   case c4=>exact Below.refl _ _
   intro v2 w2 ae _ aw aS
   have hg:=Grows.first aA.out (Grows.of ae aw aS)
   have HC:=True.intro
   clear ae aw aS al
   have a8:=hg.touch.obj ac.out (fun e=>own_obj_ne HO.out ac.out (by decide) e)
   obtain ⟨d0,d1,d2,d3,d4,z0,z1,z2,z3,z4⟩:=cells5 a8
   have u1:=obj_lt a8
   obtain ⟨A1,c1,e1,al,_⟩:=hg.own.form
   generalize (l++head).length=M1 at e1 al
   subst e1
   have HG:=Hi (Grows.first aj.out hg)
   clear hg a8 HC ac
   go_wp2_with fail
   go_loopw [0,66] (fun b j wr=>∃ (m:Nat) (A':Option Addr) (c' M:Nat),m≤N∧j=.int .i64 (m:Int)∧b=.slice A' M c'∧Grows w wr base (.slice A L c) (.slice A' M c') (l++(head++putVas (items.take m)))) (fun _ j _=>N-(intOf j).toNat)
   case atStart=>exact ⟨0,A1,c1,_,Nat.zero_le _,rfl,rfl,by simpa [putVas] using HG.out⟩
   case round=>
    obtain ⟨m,A',c',M,hm,rfl,rfl,hg⟩:=hrel
    by_cases ay:m<N
    · have a0:m<items.length:=by rw [HN.out];exact ay
      obtain ⟨ad,A2,c2,rfl,_,x0,x1,x2,x3,x4,an⟩:=(HV.out.touch hg.touch (fun b hb e=>by have:=bA.out.ge b e;omega)).elem m a0
      have cj:=hg.touch.size
      obtain ⟨W2,a6⟩:∃ W2,W2=wr.alloc (.cells #[.int .i64 (items[m]'a0).kind,.int .i64 (items[m]'a0).int,.float .f64 (items[m]'a0).fl,.string (items[m]'a0).text,.slice A2 (items[m]'a0).items.length c2] 101):=⟨_,rfl⟩
      have aa:Keeps wr W2:=by rw [a6];exact (Keeps.refl wr).alloc _
      have aC:=putVas_take items m a0
      have aF:=putVas_le items (m+1)
      rw [aC,List.length_append] at aF
      have aq:SizeOf.sizeOf (items[m]'a0)<n:=by
       have h1:=List.sizeOf_lt_of_mem (List.getElem_mem a0)
       have h2:=cf.out
       simp only [Va.mk.sizeOf_spec] at h2
       omega
      have hc:=IH.out (items[m]'a0) _ base (.slice A' M c') _ W2 aq (Va.wfs_get items m a0 bX.out) (an.later aa.below) (hg.own.below aa.below) (by have:=aa.size;omega) (by
       have h1:=aB.out
       have h2:=HL.out
       rw [List.length_append,List.length_append]
       omega)
      have aM:=Hi aC
      clear an aC aF aq
      obtain ⟨x,hx⟩:∃ x,x=items[m]'a0:=⟨_,rfl⟩
      rw [← hx] at x0 x1 x2 x3 x4 hc a6 aM
      have HC:=Hi hc
      have HG:=Hi (hg.later aa)
      clear hc hg hx a0 aa
      generalize x.items.length=nx at x4 HC a6
      generalize x.kind=kx at x0 HC a6
      generalize x.int=ix at x1 HC a6
      generalize x.fl=fx at x2 HC a6
      generalize x.text=tx at x3 HC a6
      go_wp2_with fail
      rw [← a6]
      clear a6
      refine HC.out.mono ?_
      rintro e w3 ⟨v3,rfl,az⟩
      obtain ⟨A3,c3,e3,_⟩:=az.own.form
      generalize (l++(head++putVas (items.take m))++putVa x).length=M3 at e3
      subst e3
      have av:=HG.out.trans az
      rw [List.append_assoc,List.append_assoc,← aM.out] at av
      have aJ:=Hi av
      clear az av HG HC
      go_wp2
      first
       | exact ⟨⟨m+1,A3,c3,M3,by omega,by go_num,rfl,aJ.out⟩,by simp [intOf];omega⟩
       | (go_roundw
          case rel=>exact ⟨m+1,A3,c3,M3,by omega,by go_num,rfl,aJ.out⟩
          case measure=>simp [intOf];omega)
    · have e8:items.take m=items:=List.take_of_length_le (by rw [HN.out];omega)
      rw [e8] at hg
      have aJ:=Hi hg
      clear hg e8
      go_wp2
      go_ret
      exact ⟨_,rfl,by rw [bf.out];exact aJ.out⟩
theorem putValue_calls (n:Nat):PutV n:=by
 induction n with
 | zero=>intro x xv base v l w hn;exact absurd hn (by omega)
 | succ n ih=>
   intro x xv base v l w hn aL hv a3 ab a4
   cases x with
   | mk k i f t items=>
     obtain ⟨B,cb,rfl⟩:=hv.form
     change VaS w _ (.agg #[.int .i64 k,.int .i64 i,.float .f64 f,.string t,.slice B items.length cb]) _ at hv
     show Calls _ _ #[v,.agg #[.int .i64 k,.int .i64 i,.float .f64 f,.string t,.slice B items.length cb]] _ _
     by_cases hk:¬(1≤k∧k≤5)
     · exact putValue_items k hk n ih i f t B cb items base v l w hn aL hv a3 ab a4
     · have hp:putVa (.mk k i f t items)=if k=1 then [if i=1 then 1 else 0] else if k=2 then leb (zig i) else if k=3 then le8 (fbits f) else textBytes t:=by
        rw [putVa]
        by_cases h4:k=4∨k=5
        · rw [if_pos h4]
        · rw [if_neg h4]
          have:k=1∨k=2∨k=3:=by omega
          rcases this with h | h | h <;> simp [h]
       rw [hp] at a4 ⊢
       rw [Va.wf] at aL
       by_cases h1:k=1
       · subst h1
         simp only [if_true] at a4 ⊢
         exact putValue_one i f t B _ cb base v l w a3 ab (by simpa using a4)
       by_cases h2:k=2
       · subst h2
         simp only [show ¬(2:Int)=1 by omega,if_false,if_true] at a4 ⊢
         exact putValue_two i aL.1 aL.2.1 f t B _ cb base v l w a3 ab a4
       by_cases h3:k=3
       · subst h3
         simp only [show ¬(3:Int)=1 by omega,show ¬(3:Int)=2 by omega,if_false,if_true] at a4 ⊢
         exact putValue_three i f aL.2.2.1 t B _ cb base v l w a3 ab (by rw [le8_length] at a4;exact a4)
       · simp only [h1,h2,h3,if_false] at a4 ⊢
         exact putValue_text k (by omega) i f t B _ cb base v l w a3 ab (by
          unfold textBytes at a4
          rw [List.length_append] at a4
          have:t.data.toList.length=t.size:=rfl
          omega)
def putCol (c:Col):List UInt8:=textBytes c.name++(putTy c.ty++((if c.has then 1 else 0) :: if c.has then putVa c.dflt else []))
def putCols:List Col→List UInt8
 | []=>[]
 | c :: l=>putCol c++putCols l
def putS (l:List Col):List UInt8:=leb l.length++putCols l
theorem putCols_append:∀ (l m:List Col),putCols (l++m)=putCols l++putCols m
 | [],m=>by simp [putCols]
 | v :: l,m=>by rw [List.cons_append,putCols,putCols,putCols_append l m,List.append_assoc]
theorem putCols_take (l:List Col) (k:Nat) (h:k<l.length):putCols (l.take (k+1))=putCols (l.take k)++putCol (l[k]'h):=by
 rw [List.take_succ_eq_append_getElem h,putCols_append,putCols,putCols,List.append_nil]
theorem putCols_le:∀ (l:List Col) (k:Nat),(putCols (l.take k)).length≤(putCols l).length:=by
 intro l k
 have:=putCols_append (l.take k) (l.drop k)
 rw [List.take_append_drop] at this
 rw [this,List.length_append]
 omega
def Col.puts (c:Col):Prop:=tyCheck c.ty 1=0∧c.dflt.wf
theorem Keeps.grow {w wr w':World} {base:Nat} {v v':Value} {l:List UInt8} (hk:Keeps w wr) (hg:Grows wr w' base v v' l) (ho:∀ k,v.ownBlock=some k→w.heap.size≤k):Keeps w w':=
 Touch.nothing ((Touch.of_below (F:=fun b=>w.heap.size≤b) hk.below fun k _ h=>h).trans hg.touch fun i _ e=>ho i e) fun k hk h=>by omega
theorem put_calls (A:Option Addr) (c:Nat) (l:List Col) (w:World) (hs:SchS w (fun b=>b<w.heap.size) A l) (hc:∀ j (h:j<l.length),(l[j]'h).puts) (a4:(putS l).length≤140737488354000) :
 Calls Tryz.prog 104 #[.agg #[.slice A l.length c]] w fun e w'=>∃ v',e=.returned v'∧OwnB 5 w' w.heap.size v' (putS l)∧Keeps w w':=by
 obtain ⟨W0,a5⟩:∃ W0,W0=w.alloc (.cells #[.slice A l.length c] 30):=⟨_,rfl⟩
 have ag:Keeps w W0:=by rw [a5];exact (Keeps.refl w).alloc _
 have ca:W0.heap.size=w.heap.size+1:=by rw [a5];simp
 have aR:W0.heap[w.heap.size]? = some (.cells #[.slice A l.length c] 30):=by rw [a5];exact obj_new w _
 have aE:=hs.len
 have hp:=lebPut_calls l.length (by omega) W0
 have hP:putS l=leb l.length++putCols l:=rfl
 generalize putS l=P at hP a4 ⊢
 have ap:(leb l.length).length+(putCols l).length≤140737488354000:=by rw [hP,List.length_append] at a4;exact a4
 have HS:=Hi hs
 have HC:=Hi hc
 have HP:=Hi hp
 have bR:=Hi hP
 have aB:=Hi ap
 have aj:=Hi ag
 have ac:=Hi aR
 have cF:=Hi ca
 clear hs hc hp hP ap ag aR a4 ca
 generalize hN:l.length=N at aE HP bR aB ac a5 ⊢
 have HN:=Hi hN
 clear hN
 go_enter Tryz.func104,Tryz.ntmps104
 go_wp2_with fail
 rw [← a5]
 clear a5
 refine HP.out.mono ?_
 rintro e w1 ⟨v1,rfl,ah,a7⟩
 have au:OwnB 5 w1 w.heap.size v1 (leb N):=ah.weaken aj.out.size
 have a8:w1.heap[w.heap.size]? = some (.cells #[.slice A N c] 30):=by rw [a7.below.block _ (obj_lt ac.out)];exact ac.out
 obtain ⟨t0,_⟩:=cells1 a8
 have u1:=obj_lt a8
 obtain ⟨A1,c1,e1,al,_⟩:=au.form
 generalize (leb N).length=M1 at e1 al
 subst e1
 have cA:=Hi au
 have aA:=Hi (aj.out.trans a7)
 clear ah au a7 HP a8 ac
 go_wp2_with fail
 go_loopw [3,14] (fun b j wr=>∃ (m:Nat) (A':Option Addr) (c' M:Nat),m≤N∧j=.int .i64 (m:Int)∧b=.slice A' M c'∧OwnB 5 wr w.heap.size (.slice A' M c') (leb N++putCols (l.take m))∧Keeps w wr) (fun _ j _=>N-(intOf j).toNat)
 case atStart=>exact ⟨0,A1,c1,M1,Nat.zero_le _,rfl,rfl,by simpa [putCols] using cA.out,aA.out⟩
 case round=>
  obtain ⟨m,A',c',M,hm,rfl,rfl,a3,hk⟩:=hrel
  by_cases ay:m<N
  · have a0:m<l.length:=by rw [HN.out];exact ay
    obtain ⟨ad,x0,x1,x2,x3,x4,x5,x6,x7,x8,rfl,_,ak,c0,c1,c2,c3,c4,c5,c6,c7,c8⟩:=(HS.out.later hk.below).get m a0
    have bC:=HC.out m a0
    have aC:=putCols_take l m a0
    have aF:=putCols_le l (m+1)
    rw [aC,List.length_append] at aF
    obtain ⟨y,hy⟩:∃ y,y=l[m]'a0:=⟨_,rfl⟩
    rw [← hy] at ak bC aC aF
    clear hy a0
    obtain ⟨⟨A2,k2,e2⟩,A8,k8,e8⟩:=ak.form
    have ci:=ak.nm;have bG:=ak.tk;have cn:=ak.hs;have cw:=ak.dk;have cq:=ak.di;have cv:=ak.df;have cs:=ak.dt
    subst ci bG e2 cn cw cq cv cs e8
    have aq:=hk.size
    obtain ⟨W1,ao⟩:∃ W1,W1=wr.alloc (.cells #[.string y.name,.int .i64 y.ty.kind,.slice A2 y.ty.of.length k2,.bool y.has,.int .i64 y.dflt.kind,.int .i64 y.dflt.int,.float .f64 y.dflt.fl,.string y.dflt.text,.slice A8 y.dflt.items.length k8] 103):=⟨_,rfl⟩
    have aT:Keeps wr W1:=by rw [ao];exact (Keeps.refl wr).alloc _
    have cg:W1.heap[wr.heap.size]? = some (.cells #[.string y.name,.int .i64 y.ty.kind,.slice A2 y.ty.of.length k2,.bool y.has,.int .i64 y.dflt.kind,.int .i64 y.dflt.int,.float .f64 y.dflt.fl,.string y.dflt.text,.slice A8 y.dflt.items.length k8] 103):=by rw [ao];exact obj_new wr _
    have bs:Grows wr W1 w.heap.size (.slice A' M c') (.slice A' M c') (leb N++putCols (l.take m)):=(Grows.refl a3).later aT
    have bT:(putCol y).length=(textBytes y.name).length+((putTy y.ty).length+(1+(if y.has=true then putVa y.dflt else []).length)):=by
     unfold putCol;rw [List.length_append,List.length_append,List.length_cons];omega
    have cp:y.name.size≤(textBytes y.name).length:=by unfold textBytes;rw [List.length_append];show y.name.data.toList.length≤_;omega
    have b0:w.heap.size≤W1.heap.size:=Nat.le_trans aq aT.size
    have cm:=aB.out
    have bw:(leb N++putCols (l.take m)).length=(leb N).length+(putCols (l.take m)).length:=List.length_append
    have bZ:=putText_calls w.heap.size (.slice A' M c') (leb N++putCols (l.take m)) y.name W1 bs.own b0 (by omega)
    have bY:=Hi bZ
    have ax:=Hi a3
    have cc:=Hi bs
    have bN:=Hi cg
    have aM:=Hi aC
    have be:=Hi ak
    have HK:=Hi hk
    have ch:=Hi bC
    have bL:=Hi bT
    have bJ:=Hi aF
    have bx:=Hi bw
    clear bZ bs cg aC ak hk bC a3 aT aF cm bw bT cp
    go_wp2_with fail
    rw [← ao]
    clear ao
    refine bY.out.mono ?_
    rintro e w2 ⟨v2,rfl,aw⟩
    have cl:=Hi aB.out
    have aQ:=aw.touch.obj bN.out (fun e=>own_obj_ne cc.out.own bN.out (by decide) e)
    obtain ⟨⟨d0,d1,d2,d3,d4,d5,d6,d7,d8⟩,_⟩:=cells9 aQ
    have u2:=obj_lt aQ
    obtain ⟨A2',c2',e2,_⟩:=aw.own.form
    generalize (leb N++putCols (l.take m)++textBytes y.name).length=M2 at e2
    subst e2
    have bk:=cc.out.trans aw
    have bW:=putType_calls 4 y.ty 1 w.heap.size (.slice A2' M2 c2') (.agg #[.int .i64 y.ty.kind,.slice A2 y.ty.of.length k2]) (leb N++putCols (l.take m)++textBytes y.name) w2 (by omega) ch.out.1 (be.out.ty.touch bk.touch (fun b hb e=>by have:=ax.out.ge b e;omega)) aw.own (by have:=bk.touch.size;omega) (by have h1:=aB.out;have h2:=bx.out;have h3:=bL.out;have h4:=bJ.out;rw [List.length_append];omega)
    have bv:=Hi bk
    have bz:=Hi aQ
    have bS:=Hi bW
    clear aw aQ bk bW bY bN
    go_wp2_with fail
    refine bS.out.mono ?_
    rintro e w3 ⟨v3,rfl,az⟩
    clear d0 d1 d2 d3 d4 d5 d6 d7 d8 u2
    have bp:=az.touch.obj bz.out (fun e=>own_obj_ne bv.out.own bz.out (by decide) e)
    obtain ⟨⟨d0,d1,d2,d3,d4,d5,d6,d7,d8⟩,_⟩:=cells9 bp
    have u3:=obj_lt bp
    obtain ⟨A3',c3',e3,_⟩:=az.own.form
    generalize (leb N++putCols (l.take m)++textBytes y.name++putTy y.ty).length=M3 at e3
    subst e3
    have bI:=bv.out.trans az
    have ce:=putBit_calls w.heap.size (.slice A3' M3 c3') (leb N++putCols (l.take m)++textBytes y.name++putTy y.ty) y.has w3 az.own (by have:=bI.touch.size;omega) (by have h1:=aB.out;have h2:=bx.out;have h3:=bL.out;have h4:=bJ.out;rw [List.length_append,List.length_append];omega)
    have bo:=Hi bI
    have bi:=Hi bp
    have bH:=Hi ce
    clear az bp bI ce bS bz bv
    go_wp2_with fail
    refine bH.out.mono ?_
    rintro e w4 ⟨v4,rfl,av⟩
    clear d0 d1 d2 d3 d4 d5 d6 d7 d8 u3
    have bj:=av.touch.obj bi.out (fun e=>own_obj_ne bo.out.own bi.out (by decide) e)
    obtain ⟨⟨d0,d1,d2,d3,d4,d5,d6,d7,d8⟩,_⟩:=cells9 bj
    have u4:=obj_lt bj
    obtain ⟨A4',c4',e4,_⟩:=av.own.form
    generalize (leb N++putCols (l.take m)++textBytes y.name++putTy y.ty++[if y.has=true then 1 else 0]).length=M4 at e4
    subst e4
    have aU:=bo.out.trans av
    cases hh:y.has with
    | true=>
      have b7:=putValue_calls (SizeOf.sizeOf y.dflt+1) y.dflt (.agg #[.int .i64 y.dflt.kind,.int .i64 y.dflt.int,.float .f64 y.dflt.fl,.string y.dflt.text,.slice A8 y.dflt.items.length k8]) w.heap.size (.slice A4' M4 c4') (leb N++putCols (l.take m)++textBytes y.name++putTy y.ty++[if y.has=true then 1 else 0]) w4 (by omega) ch.out.2 (be.out.dv.touch aU.touch (fun b hb e=>by have:=ax.out.ge b e;omega)) av.own (by have:=aU.touch.size;omega) (by have h1:=aB.out;have h2:=bx.out;have h3:=bL.out;have h4:=bJ.out;rw [hh,if_pos rfl] at h3;rw [List.length_append,List.length_append,List.length_append];simp only [List.length_cons,List.length_nil];omega)
      rw [hh] at d3
      have bQ:=Hi b7
      have bc:=Hi aU
      have HH:=Hi hh
      clear b7 aU av bj bH bi bo hh
      go_wp2_with fail
      refine bQ.out.mono ?_
      rintro e w5 ⟨v5,rfl,br⟩
      obtain ⟨A5',c5',e5,_⟩:=br.own.form
      generalize (leb N++putCols (l.take m)++textBytes y.name++putTy y.ty++[if y.has=true then 1 else 0]++putVa y.dflt).length=M5 at e5
      subst e5
      have bE:=bc.out.trans br
      have hE:leb N++putCols (l.take (m+1))=leb N++putCols (l.take m)++textBytes y.name++putTy y.ty++[if y.has=true then 1 else 0]++putVa y.dflt:=by
       rw [aM.out];unfold putCol;rw [HH.out];simp
      rw [← hE] at bE
      have bV:=Hi bE
      clear bE br hE bQ bc
      go_wp2
      exact ⟨⟨m+1,A5',c5',M5,by omega,by go_num,rfl,bV.out.own,HK.out.grow bV.out ax.out.ge⟩,by simp [intOf];omega⟩
    | false=>
      rw [hh] at d3
      have hE:leb N++putCols (l.take (m+1))=leb N++putCols (l.take m)++textBytes y.name++putTy y.ty++[if y.has=true then 1 else 0]:=by
       rw [aM.out];unfold putCol;rw [hh];simp
      rw [← hE] at aU
      have bc:=Hi aU
      clear aU av bj bH bi bo hh hE
      go_wp2
      exact ⟨⟨m+1,A4',c4',M4,by omega,by go_num,rfl,bc.out.own,HK.out.grow bc.out ax.out.ge⟩,by simp [intOf];omega⟩
  · have e8:l.take m=l:=List.take_of_length_le (by rw [HN.out];omega)
    rw [e8] at a3
    have HO:=Hi a3
    have HK:=Hi hk
    clear a3 hk e8
    go_wp2
    go_ret
    exact ⟨_,rfl,by rw [bR.out];exact HO.out,HK.out⟩
def vaOwn:Va→Bool
 | .mk k i f t l=>
   if k=1 then (decide (i=0)||decide (i=1))&&(decide (fbits f=0)&&(decide (t.size=0)&&decide (l.length=0)))
   else if k=2 then decide (fbits f=0)&&(decide (t.size=0)&&decide (l.length=0))
   else if k=3 then decide (i=0)&&(decide (t.size=0)&&decide (l.length=0))
   else if k=4∨k=5 then decide (i=0)&&(decide (fbits f=0)&&decide (l.length=0))
   else if k=6 then decide (l.length≤1)&&(decide (i=0)&&(decide (fbits f=0)&&decide (t.size=0)))
   else if k=7 then decide (i=0)&&(decide (fbits f=0)&&decide (t.size=0))
   else false
theorem fbits_zero:fbits 0=0:=by decide +kernel
theorem empty_iff (t:ByteArray):t.toList.isEmpty=decide (t.size=0):=by
 by_cases h:t.size=0
 · rw [str_empty t h];simp [h]
 · rw [str_some t (by omega)];simp [h]
theorem empty_eq (t:ByteArray):(t.toList==(⟨#[]⟩:ByteArray).toList)=decide (t.size=0):=by
 rw [← empty_iff]
 have:(⟨#[]⟩:ByteArray).toList=[]:=by rw [ByteArray.toList_eq]
 rw [this]
 cases t.toList <;> rfl
theorem same_zero (f:Nat) (w:World):Calls Tryz.prog 131 #[.float .f64 f,.float .f64 0] w fun e w'=>e=.returned (.bool (decide (fbits f=0)))∧w=w':=by
 have:=realSame_calls f 0 w
 rw [fbits_zero] at this
 exact this
theorem same_self (f:Nat) (w:World):Calls Tryz.prog 131 #[.float .f64 f,.float .f64 f] w fun e w'=>e=.returned (.bool true)∧w=w':=by
 have:=realSame_calls f f w
 rw [decide_eq_true rfl] at this
 exact this
theorem own_one (k:Int) (hk:k=1) (i:Int) (f:Nat) (t:ByteArray) (B:Option Addr) (cb:Nat) (l:List Va) (w:World) :
 Calls Tryz.prog 164 #[.agg #[.int .i64 k,.int .i64 i,.float .f64 f,.string t,.slice B l.length cb]] w fun e w'=>e=.returned (.bool (vaOwn (.mk k i f t l)))∧Keeps w w':=by
 obtain ⟨R,hR⟩:∃ R,R=vaOwn (.mk k i f t l):=⟨_,rfl⟩
 rw [← hR]
 obtain ⟨i0,am⟩:∃ b,b=decide (i=0):=⟨_,rfl⟩
 have q0:(i==0)=i0:=by rw [am];rfl
 have q0':(i != 0) = !i0:=by rw [bne,q0]
 obtain ⟨i1,b4⟩:∃ b,b=decide (i=1):=⟨_,rfl⟩
 have q1:(i != 1) = !i1:=by rw [bne,b4];rfl
 obtain ⟨r,hr⟩:∃ b,b=decide (fbits f=0):=⟨_,rfl⟩
 obtain ⟨bt,ai⟩:∃ b,b=decide (t.size=0):=⟨_,rfl⟩
 have q2:t.toList.isEmpty=bt:=by rw [ai];exact empty_iff t
 have q2':(t.toList==(⟨#[]⟩:ByteArray).toList)=bt:=by rw [ai];exact empty_eq t
 obtain ⟨bl,ar⟩:∃ b,b=decide (l.length=0):=⟨_,rfl⟩
 have q3:((l.length:Int)==0)=bl:=by rw [ar,Bool.eq_iff_iff];simp
 have hE:R=((i0||i1)&&(r&&(bt&&bl))):=by
  rw [hR,vaOwn,← am,← b4,← hr,← ai,← ar]
  rcases hk with rfl <;> simp
 have HE:=Hi hE
 have hf:=same_zero f
 rw [← hr] at hf
 have HF:=Hi hf
 clear hf
 clear hR hE am b4 hr ai ar
 have hN:l.length≤l.length:=Nat.le_refl _
 generalize l.length=N at *
 cases i0 <;> cases i1 <;> cases r <;> cases bt <;> cases bl
 all_goals rcases hk with rfl
 all_goals
  go_enter Tryz.func164,Tryz.ntmps164
  go_wp2_with (go_at_call 131;refine (HF.out _).mono ?_;rintro e w2 ⟨rfl,rfl⟩)
  go_ret
  exact ⟨by rw [HE.out];rfl,((Keeps.refl w).alloc _).alloc _⟩
theorem own_two (k:Int) (hk:k=2) (i:Int) (f:Nat) (t:ByteArray) (B:Option Addr) (cb:Nat) (l:List Va) (w:World) :
 Calls Tryz.prog 164 #[.agg #[.int .i64 k,.int .i64 i,.float .f64 f,.string t,.slice B l.length cb]] w fun e w'=>e=.returned (.bool (vaOwn (.mk k i f t l)))∧Keeps w w':=by
 obtain ⟨R,hR⟩:∃ R,R=vaOwn (.mk k i f t l):=⟨_,rfl⟩
 rw [← hR]
 obtain ⟨r,hr⟩:∃ b,b=decide (fbits f=0):=⟨_,rfl⟩
 obtain ⟨bt,ai⟩:∃ b,b=decide (t.size=0):=⟨_,rfl⟩
 have q2:t.toList.isEmpty=bt:=by rw [ai];exact empty_iff t
 have q2':(t.toList==(⟨#[]⟩:ByteArray).toList)=bt:=by rw [ai];exact empty_eq t
 obtain ⟨bl,ar⟩:∃ b,b=decide (l.length=0):=⟨_,rfl⟩
 have q3:((l.length:Int)==0)=bl:=by rw [ar,Bool.eq_iff_iff];simp
 have hE:R=(r&&(bt&&bl)):=by
  rw [hR,vaOwn,← hr,← ai,← ar]
  rcases hk with rfl <;> simp
 have HE:=Hi hE
 have hf:=same_zero f
 rw [← hr] at hf
 have HF:=Hi hf
 clear hf
 clear hR hE hr ai ar
 have hN:l.length≤l.length:=Nat.le_refl _
 generalize l.length=N at *
 cases r <;> cases bt <;> cases bl
 all_goals rcases hk with rfl
 all_goals
  go_enter Tryz.func164,Tryz.ntmps164
  go_wp2_with (go_at_call 131;refine (HF.out _).mono ?_;rintro e w2 ⟨rfl,rfl⟩)
  go_ret
  exact ⟨by rw [HE.out];rfl,((Keeps.refl w).alloc _).alloc _⟩
theorem own_three (k:Int) (hk:k=3) (i:Int) (f:Nat) (t:ByteArray) (B:Option Addr) (cb:Nat) (l:List Va) (w:World) :
 Calls Tryz.prog 164 #[.agg #[.int .i64 k,.int .i64 i,.float .f64 f,.string t,.slice B l.length cb]] w fun e w'=>e=.returned (.bool (vaOwn (.mk k i f t l)))∧Keeps w w':=by
 obtain ⟨R,hR⟩:∃ R,R=vaOwn (.mk k i f t l):=⟨_,rfl⟩
 rw [← hR]
 obtain ⟨i0,am⟩:∃ b,b=decide (i=0):=⟨_,rfl⟩
 have q0:(i==0)=i0:=by rw [am];rfl
 obtain ⟨bt,ai⟩:∃ b,b=decide (t.size=0):=⟨_,rfl⟩
 have q2:t.toList.isEmpty=bt:=by rw [ai];exact empty_iff t
 have q2':(t.toList==(⟨#[]⟩:ByteArray).toList)=bt:=by rw [ai];exact empty_eq t
 obtain ⟨bl,ar⟩:∃ b,b=decide (l.length=0):=⟨_,rfl⟩
 have q3:((l.length:Int)==0)=bl:=by rw [ar,Bool.eq_iff_iff];simp
 have hE:R=(i0&&(bt&&bl)):=by
  rw [hR,vaOwn,← am,← ai,← ar]
  rcases hk with rfl <;> simp
 have HE:=Hi hE
 have HF:=Hi (same_self f)
 clear hR hE am ai ar
 have hN:l.length≤l.length:=Nat.le_refl _
 generalize l.length=N at *
 cases i0 <;> cases bt <;> cases bl
 all_goals rcases hk with rfl
 all_goals
  go_enter Tryz.func164,Tryz.ntmps164
  go_wp2_with (go_at_call 131;refine (HF.out _).mono ?_;rintro e w2 ⟨rfl,rfl⟩)
  go_ret
  exact ⟨by rw [HE.out];rfl,((Keeps.refl w).alloc _).alloc _⟩
theorem own_text (k:Int) (hk:k=4∨k=5) (i:Int) (f:Nat) (t:ByteArray) (B:Option Addr) (cb:Nat) (l:List Va) (w:World) :
 Calls Tryz.prog 164 #[.agg #[.int .i64 k,.int .i64 i,.float .f64 f,.string t,.slice B l.length cb]] w fun e w'=>e=.returned (.bool (vaOwn (.mk k i f t l)))∧Keeps w w':=by
 obtain ⟨R,hR⟩:∃ R,R=vaOwn (.mk k i f t l):=⟨_,rfl⟩
 rw [← hR]
 obtain ⟨i0,am⟩:∃ b,b=decide (i=0):=⟨_,rfl⟩
 have q0:(i==0)=i0:=by rw [am];rfl
 obtain ⟨r,hr⟩:∃ b,b=decide (fbits f=0):=⟨_,rfl⟩
 obtain ⟨bl,ar⟩:∃ b,b=decide (l.length=0):=⟨_,rfl⟩
 have q3:((l.length:Int)==0)=bl:=by rw [ar,Bool.eq_iff_iff];simp
 have hE:R=(i0&&(r&&bl)):=by
  rw [hR,vaOwn,← am,← hr,← ar]
  rcases hk with rfl | rfl <;> simp
 have HE:=Hi hE
 have hf:=same_zero f
 rw [← hr] at hf
 have HF:=Hi hf
 clear hf
 clear hR hE am hr ar
 have hN:l.length≤l.length:=Nat.le_refl _
 generalize l.length=N at *
 cases i0 <;> cases r <;> cases bl
 all_goals rcases hk with rfl | rfl
 all_goals
  go_enter Tryz.func164,Tryz.ntmps164
  go_wp2_with (go_at_call 131;refine (HF.out _).mono ?_;rintro e w2 ⟨rfl,rfl⟩)
  go_ret
  exact ⟨by rw [HE.out];rfl,((Keeps.refl w).alloc _).alloc _⟩
theorem own_six (k:Int) (hk:k=6) (i:Int) (f:Nat) (t:ByteArray) (B:Option Addr) (cb:Nat) (l:List Va) (w:World) :
 Calls Tryz.prog 164 #[.agg #[.int .i64 k,.int .i64 i,.float .f64 f,.string t,.slice B l.length cb]] w fun e w'=>e=.returned (.bool (vaOwn (.mk k i f t l)))∧Keeps w w':=by
 obtain ⟨R,hR⟩:∃ R,R=vaOwn (.mk k i f t l):=⟨_,rfl⟩
 rw [← hR]
 obtain ⟨i0,am⟩:∃ b,b=decide (i=0):=⟨_,rfl⟩
 have q0:(i==0)=i0:=by rw [am];rfl
 obtain ⟨r,hr⟩:∃ b,b=decide (fbits f=0):=⟨_,rfl⟩
 obtain ⟨bt,ai⟩:∃ b,b=decide (t.size=0):=⟨_,rfl⟩
 have q2:t.toList.isEmpty=bt:=by rw [ai];exact empty_iff t
 have q2':(t.toList==(⟨#[]⟩:ByteArray).toList)=bt:=by rw [ai];exact empty_eq t
 obtain ⟨b1,a8⟩:∃ b,b=decide (l.length≤1):=⟨_,rfl⟩
 have q4:decide ((1:Int)<(l.length:Int)) = !b1:=by rw [a8,Bool.eq_iff_iff];simp;omega
 have q4':decide (1<l.length) = !b1:=by rw [a8,Bool.eq_iff_iff];simp
 have hE:R=(b1&&(i0&&(r&&bt))):=by
  rw [hR,vaOwn,← am,← hr,← ai,← a8]
  rcases hk with rfl <;> simp
 have HE:=Hi hE
 have hf:=same_zero f
 rw [← hr] at hf
 have HF:=Hi hf
 clear hf
 clear hR hE am hr ai a8
 have hN:l.length≤l.length:=Nat.le_refl _
 generalize l.length=N at *
 cases i0 <;> cases r <;> cases bt <;> cases b1
 all_goals rcases hk with rfl
 all_goals
  go_enter Tryz.func164,Tryz.ntmps164
  go_wp2_with (go_at_call 131;refine (HF.out _).mono ?_;rintro e w2 ⟨rfl,rfl⟩)
  go_ret
  exact ⟨by rw [HE.out];rfl,((Keeps.refl w).alloc _).alloc _⟩
theorem own_seven (k:Int) (hk:k=7) (i:Int) (f:Nat) (t:ByteArray) (B:Option Addr) (cb:Nat) (l:List Va) (w:World) :
 Calls Tryz.prog 164 #[.agg #[.int .i64 k,.int .i64 i,.float .f64 f,.string t,.slice B l.length cb]] w fun e w'=>e=.returned (.bool (vaOwn (.mk k i f t l)))∧Keeps w w':=by
 obtain ⟨R,hR⟩:∃ R,R=vaOwn (.mk k i f t l):=⟨_,rfl⟩
 rw [← hR]
 obtain ⟨i0,am⟩:∃ b,b=decide (i=0):=⟨_,rfl⟩
 have q0:(i==0)=i0:=by rw [am];rfl
 obtain ⟨r,hr⟩:∃ b,b=decide (fbits f=0):=⟨_,rfl⟩
 obtain ⟨bt,ai⟩:∃ b,b=decide (t.size=0):=⟨_,rfl⟩
 have q2:t.toList.isEmpty=bt:=by rw [ai];exact empty_iff t
 have q2':(t.toList==(⟨#[]⟩:ByteArray).toList)=bt:=by rw [ai];exact empty_eq t
 have hE:R=(i0&&(r&&bt)):=by
  rw [hR,vaOwn,← am,← hr,← ai]
  rcases hk with rfl <;> simp
 have HE:=Hi hE
 have hf:=same_zero f
 rw [← hr] at hf
 have HF:=Hi hf
 clear hf
 clear hR hE am hr ai
 have hN:l.length≤l.length:=Nat.le_refl _
 generalize l.length=N at *
 cases i0 <;> cases r <;> cases bt
 all_goals rcases hk with rfl
 all_goals
  go_enter Tryz.func164,Tryz.ntmps164
  go_wp2_with (go_at_call 131;refine (HF.out _).mono ?_;rintro e w2 ⟨rfl,rfl⟩)
  go_ret
  exact ⟨by rw [HE.out];rfl,((Keeps.refl w).alloc _).alloc _⟩
theorem own_other (k:Int) (hk:¬(1≤k∧k≤7)) (i:Int) (f:Nat) (t:ByteArray) (B:Option Addr) (cb:Nat) (l:List Va) (w:World) :
 Calls Tryz.prog 164 #[.agg #[.int .i64 k,.int .i64 i,.float .f64 f,.string t,.slice B l.length cb]] w fun e w'=>e=.returned (.bool (vaOwn (.mk k i f t l)))∧Keeps w w':=by
 have hE:vaOwn (.mk k i f t l)=false:=by
  rw [vaOwn]
  simp only [show ¬k=1 by omega,show ¬k=2 by omega,show ¬k=3 by omega,show ¬(k=4∨k=5) by omega,show ¬k=6 by omega,show ¬k=7 by omega,if_false]
 rw [hE]
 have q1:(k==1)=false:=by simp;omega
 have q2:(k==2)=false:=by simp;omega
 have q3:(k==3)=false:=by simp;omega
 have q4:(k==4)=false:=by simp;omega
 have q5:(k==5)=false:=by simp;omega
 have q6:(k==6)=false:=by simp;omega
 have q7:(k==7)=false:=by simp;omega
 clear hE hk
 generalize l.length=N
 go_enter Tryz.func164,Tryz.ntmps164
 go_wp2
 go_ret
 exact ⟨rfl,((Keeps.refl w).alloc _).alloc _⟩
theorem own_calls (x:Va) (v:Value) (w:World) (h:VaAt w v x):Calls Tryz.prog 164 #[v] w fun e w'=>e=.returned (.bool (vaOwn x))∧Keeps w w':=by
 obtain ⟨B,cb,rfl⟩:=h.form
 cases x with
 | mk k i f t l=>
   show Calls _ _ #[.agg #[.int .i64 k,.int .i64 i,.float .f64 f,.string t,.slice B l.length cb]] _ _
   by_cases hk:1≤k∧k≤7
   · have:k=1∨k=2∨k=3∨(k=4∨k=5)∨k=6∨k=7:=by omega
     rcases this with h | h | h | h | h | h
     · exact own_one k h i f t B cb l w
     · exact own_two k h i f t B cb l w
     · exact own_three k h i f t B cb l w
     · exact own_text k h i f t B cb l w
     · exact own_six k h i f t B cb l w
     · exact own_seven k h i f t B cb l w
   · exact own_other k hk i f t B cb l w
mutual
def vaCheck:Va→Nat→Int
 | .mk k i f t l,d=>if 4<d then 62 else if vaOwn (.mk k i f t l)=false then 60 else if 1024<t.size then 2 else if 256<l.length then 3 else if k=4∧utfOk t=false then 61 else vaChecks l (d+1)
def vaChecks:List Va→Nat→Int
 | [],_=>0
 | v :: l,d=>if vaCheck v d=0 then vaChecks l d else vaCheck v d
end
theorem vaChecks_drop (l:List Va) (m d:Nat) (h:m<l.length):vaChecks (l.drop m) d=if vaCheck (l[m]'h) d=0 then vaChecks (l.drop (m+1)) d else vaCheck (l[m]'h) d:=by
 rw [List.drop_eq_getElem_cons h,vaChecks]
def CheckV (n:Nat):Prop:=∀ (x:Va) (v:Value) (d:Nat) (w:World),SizeOf.sizeOf x<n→VaAt w v x→Tabs w→d≤5 →
    Calls Tryz.prog 133 #[v,.int .i64 (d:Int)] w fun e w'=>e=.returned (.int .i64 (vaCheck x d))∧Keeps w w'
theorem vaCheck_calls (n:Nat):CheckV n:=by
 induction n with
 | zero=>intro x v d w hn;exact absurd hn (by omega)
 | succ n ih=>
   intro x v d w hn hv b6 hd
   obtain ⟨B,cb,rfl⟩:=hv.form
   cases x with
   | mk k i f t l=>
     change VaAt w (.agg #[.int .i64 k,.int .i64 i,.float .f64 f,.string t,.slice B l.length cb]) _ at hv
     show Calls _ _ #[.agg #[.int .i64 k,.int .i64 i,.float .f64 f,.string t,.slice B l.length cb],_] _ _
     obtain ⟨R,hR⟩:∃ R,R=vaCheck (.mk k i f t l) d:=⟨_,rfl⟩
     rw [← hR]
     rw [vaCheck] at hR
     have aE:=hv.bound
     change l.length≤_ at aE
     by_cases h4:4<d
     · rw [if_pos h4] at hR
       subst hR
       clear ih hv hn b6
       generalize l.length=N at aE ⊢
       go_enter Tryz.func133,Tryz.ntmps133
       go_wp2
       go_ret
       exact ⟨rfl,(Keeps.refl w).alloc _⟩
     rw [if_neg h4] at hR
     have cD:d≤4:=by omega
     obtain ⟨W0,a5⟩:∃ W0,W0=w.alloc (.cells #[.int .i64 k,.int .i64 i,.float .f64 f,.string t,.slice B l.length cb] 101):=⟨_,rfl⟩
     have ag:Keeps w W0:=by rw [a5];exact (Keeps.refl w).alloc _
     have aR:W0.heap[w.heap.size]? = some (.cells #[.int .i64 k,.int .i64 i,.float .f64 f,.string t,.slice B l.length cb] 101):=by rw [a5];exact obj_new w _
     have ho:=own_calls (.mk k i f t l) _ W0 (hv.later ag.below)
     have HV:=Hi hv
     have ac:=Hi aR
     have aj:=Hi ag
     have bn:=Hi b6
     have HN:=Hi hn
     have IH:=Hi ih
     clear ih hv aR ag b6 hn h4
     cases aG:vaOwn (.mk k i f t l) with
     | false=>
       rw [if_pos aG] at hR
       subst hR
       rw [aG] at ho
       have HO:=Hi ho
       clear ho aG IH
       generalize l.length=N at aE a5 HO ac ⊢
       go_enter Tryz.func133,Tryz.ntmps133
       go_wp2_with fail
       rw [← a5]
       clear a5
       refine HO.out.mono ?_
       rintro e w1 ⟨rfl,a7⟩
       go_wp2
       go_ret
       exact ⟨rfl,aj.out.trans a7⟩
     | true=>
     rw [if_neg (by rw [aG];simp)] at hR
     rw [aG] at ho
     have HO:=Hi ho
     clear ho aG
     by_cases ht:1024<t.size
     · rw [if_pos ht] at hR
       subst hR
       clear IH
       generalize l.length=N at aE a5 HO ac HV ⊢
       go_enter Tryz.func133,Tryz.ntmps133
       go_wp2_with fail
       rw [← a5]
       clear a5
       refine HO.out.mono ?_
       rintro e w1 ⟨rfl,a7⟩
       have a8:=(a7.below.block _ (obj_lt ac.out)).trans ac.out
       obtain ⟨d0,d1,d2,d3,d4,_⟩:=cells5 a8
       have u1:=obj_lt a8
       clear a8
       go_wp2
       go_ret
       exact ⟨rfl,aj.out.trans a7⟩
     rw [if_neg ht] at hR
     have cE:t.size≤1024:=by omega
     clear ht
     by_cases hl:256<l.length
     · rw [if_pos hl] at hR
       subst hR
       clear IH
       generalize l.length=N at aE a5 HO ac HV hl ⊢
       go_enter Tryz.func133,Tryz.ntmps133
       go_wp2_with fail
       rw [← a5]
       clear a5
       refine HO.out.mono ?_
       rintro e w1 ⟨rfl,a7⟩
       have a8:=(a7.below.block _ (obj_lt ac.out)).trans ac.out
       obtain ⟨d0,d1,d2,d3,d4,_⟩:=cells5 a8
       have u1:=obj_lt a8
       clear a8
       go_wp2
       go_ret
       exact ⟨rfl,aj.out.trans a7⟩
     rw [if_neg hl] at hR
     have b3:l.length≤256:=by omega
     clear hl aE
     by_cases hk:k=4
     · subst hk
       cases hu:utfOk t with
       | false=>
         rw [if_pos ⟨rfl,hu⟩] at hR
         subst hR
         clear IH
         have b2:=fun (wx:World) (hx:Keeps w wx)=>utf_calls t wx (bn.out.below hx.below) (by omega)
         rw [hu] at b2
         have HU:=Hi b2
         clear b2 hu
         generalize l.length=N at b3 a5 HO ac HV ⊢
         go_enter Tryz.func133,Tryz.ntmps133
         go_wp2_with fail
         rw [← a5]
         clear a5
         refine HO.out.mono ?_
         rintro e w1 ⟨rfl,a7⟩
         have a8:=(a7.below.block _ (obj_lt ac.out)).trans ac.out
         obtain ⟨d0,d1,d2,d3,d4,_⟩:=cells5 a8
         have u1:=obj_lt a8
         clear a8
         go_wp2_with fail
         refine (HU.out w1 (aj.out.trans a7)).mono ?_
         rintro e w2 ⟨rfl,aa⟩
         go_wp2
         go_ret
         exact ⟨rfl,(aj.out.trans a7).trans aa⟩
       | true=>
         rw [if_neg (fun h=>by rw [hu] at h;exact absurd h.2 (by simp))] at hR
         have b2:=fun (wx:World) (hx:Keeps w wx)=>utf_calls t wx (bn.out.below hx.below) (by omega)
         rw [hu] at b2
         have HU:=Hi b2
         clear b2 hu
         have HR:=Hi hR
         clear hR
         generalize aO:l.length=N at b3 a5 HO ac HV ⊢
         have HL:=Hi aO
         clear aO
         go_enter Tryz.func133,Tryz.ntmps133
         go_wp2_with fail
         rw [← a5]
         clear a5
         refine HO.out.mono ?_
         rintro e w1 ⟨rfl,a7⟩
         have a8:=(a7.below.block _ (obj_lt ac.out)).trans ac.out
         obtain ⟨d0,d1,d2,d3,d4,_⟩:=cells5 a8
         have u1:=obj_lt a8
         go_wp2_with fail
         refine (HU.out w1 (aj.out.trans a7)).mono ?_
         rintro e w2 ⟨rfl,aa⟩
         have b9:=(aj.out.trans a7).trans aa
         have aQ:=(aa.below.block _ u1).trans a8
         clear d0 d1 d2 d3 d4 u1 a8 a7 aa ac HO HU
         obtain ⟨d0,d1,d2,d3,d4,_⟩:=cells5 aQ
         have u1:=obj_lt aQ
         clear aQ
         have bM:=Hi b9
         clear b9
         go_wp2_with fail
         go_loopw [38] (fun j wr=>∃ m:Nat,m≤N∧j=.int .i64 (m:Int)∧R=vaChecks (l.drop m) (d+1)∧Keeps w wr) (fun j _=>N-(intOf j).toNat)
         case atStart=>exact ⟨0,Nat.zero_le _,rfl,HR.out,bM.out⟩
         case round=>
          obtain ⟨m,hm,rfl,a2,hk⟩:=hrel
          by_cases ay:m<N
          · have a0:m<l.length:=by rw [HL.out];exact ay
            obtain ⟨ad,A2,c2,rfl,_,x0,x1,x2,x3,x4,an⟩:=(VaS.of_at (HV.out.later hk.below)).elem m a0
            obtain ⟨W2,a6⟩:∃ W2,W2=wr.alloc (.cells #[.int .i64 (l[m]'a0).kind,.int .i64 (l[m]'a0).int,.float .f64 (l[m]'a0).fl,.string (l[m]'a0).text,.slice A2 (l[m]'a0).items.length c2] 101):=⟨_,rfl⟩
            have aa:Keeps wr W2:=by rw [a6];exact (Keeps.refl wr).alloc _
            have aP:=vaChecks_drop l m (d+1) a0
            have aq:SizeOf.sizeOf (l[m]'a0)<n:=by
             have h1:=List.sizeOf_lt_of_mem (List.getElem_mem a0)
             have h2:=HN.out
             simp only [Va.mk.sizeOf_spec] at h2
             omega
            have hc:=IH.out (l[m]'a0) _ (d+1) W2 aq (an.later aa.below).at (bn.out.below (hk.trans aa).below) (by omega)
            rw [show (((d+1:Nat):Int))=(d:Int)+1 by omega] at hc
            rw [aP] at a2
            clear an aq aP
            obtain ⟨x,hx⟩:∃ x,x=l[m]'a0:=⟨_,rfl⟩
            rw [← hx] at x0 x1 x2 x3 x4 hc a6 a2
            have HC:=Hi hc
            have aW:=Hi (hk.trans aa)
            clear hc hx a0 aa hk
            generalize vaCheck x (d+1)=E at HC a2
            generalize x.items.length=nx at x4 HC a6
            generalize x.kind=kx at x0 HC a6
            generalize x.int=ix at x1 HC a6
            generalize x.fl=fx at x2 HC a6
            generalize x.text=tx at x3 HC a6
            by_cases he:E=0
            · rw [if_pos he] at a2
              subst he
              have a9:=Hi a2
              clear a2
              go_wp2_with fail
              rw [← a6]
              clear a6
              refine HC.out.mono ?_
              rintro e w3 ⟨rfl,aD⟩
              have aK:=Hi aD
              clear aD HC
              go_wp2
              exact ⟨⟨m+1,by omega,by go_num,a9.out,aW.out.trans aK.out⟩,by simp [intOf];omega⟩
            · rw [if_neg he] at a2
              have qe:(E != 0)=true:=by simpa using he
              have a9:=Hi a2
              clear a2 he
              go_wp2_with fail
              rw [← a6]
              clear a6
              refine HC.out.mono ?_
              rintro e w3 ⟨rfl,aD⟩
              have aK:=Hi aD
              clear aD HC
              go_wp2
              go_ret
              exact ⟨by rw [a9.out];rfl,aW.out.trans aK.out⟩
          · have e:l.drop m=[]:=List.drop_eq_nil_of_le (by rw [HL.out];omega)
            rw [e,vaChecks] at a2
            have a9:=Hi a2
            clear a2 e
            go_wp2
            go_ret
            exact ⟨by rw [a9.out];rfl,hk⟩
     · rw [if_neg (fun h=>hk h.1)] at hR
       have qk:(k==4)=false:=by simpa using hk
       clear hk
       have HR:=Hi hR
       clear hR
       generalize aO:l.length=N at b3 a5 HO ac HV ⊢
       have HL:=Hi aO
       clear aO
       go_enter Tryz.func133,Tryz.ntmps133
       go_wp2_with fail
       rw [← a5]
       clear a5
       refine HO.out.mono ?_
       rintro e w1 ⟨rfl,a7⟩
       have a8:=(a7.below.block _ (obj_lt ac.out)).trans ac.out
       obtain ⟨d0,d1,d2,d3,d4,_⟩:=cells5 a8
       have u1:=obj_lt a8
       have b9:=aj.out.trans a7
       clear a8 a7 ac HO
       have bM:=Hi b9
       clear b9
       go_wp2_with fail
       go_loopw [38] (fun j wr=>∃ m:Nat,m≤N∧j=.int .i64 (m:Int)∧R=vaChecks (l.drop m) (d+1)∧Keeps w wr) (fun j _=>N-(intOf j).toNat)
       case atStart=>exact ⟨0,Nat.zero_le _,rfl,HR.out,bM.out⟩
       case round=>
        obtain ⟨m,hm,rfl,a2,hk⟩:=hrel
        by_cases ay:m<N
        · have a0:m<l.length:=by rw [HL.out];exact ay
          obtain ⟨ad,A2,c2,rfl,_,x0,x1,x2,x3,x4,an⟩:=(VaS.of_at (HV.out.later hk.below)).elem m a0
          obtain ⟨W2,a6⟩:∃ W2,W2=wr.alloc (.cells #[.int .i64 (l[m]'a0).kind,.int .i64 (l[m]'a0).int,.float .f64 (l[m]'a0).fl,.string (l[m]'a0).text,.slice A2 (l[m]'a0).items.length c2] 101):=⟨_,rfl⟩
          have aa:Keeps wr W2:=by rw [a6];exact (Keeps.refl wr).alloc _
          have aP:=vaChecks_drop l m (d+1) a0
          have aq:SizeOf.sizeOf (l[m]'a0)<n:=by
           have h1:=List.sizeOf_lt_of_mem (List.getElem_mem a0)
           have h2:=HN.out
           simp only [Va.mk.sizeOf_spec] at h2
           omega
          have hc:=IH.out (l[m]'a0) _ (d+1) W2 aq (an.later aa.below).at (bn.out.below (hk.trans aa).below) (by omega)
          rw [show (((d+1:Nat):Int))=(d:Int)+1 by omega] at hc
          rw [aP] at a2
          clear an aq aP
          obtain ⟨x,hx⟩:∃ x,x=l[m]'a0:=⟨_,rfl⟩
          rw [← hx] at x0 x1 x2 x3 x4 hc a6 a2
          have HC:=Hi hc
          have aW:=Hi (hk.trans aa)
          clear hc hx a0 aa hk
          generalize vaCheck x (d+1)=E at HC a2
          generalize x.items.length=nx at x4 HC a6
          generalize x.kind=kx at x0 HC a6
          generalize x.int=ix at x1 HC a6
          generalize x.fl=fx at x2 HC a6
          generalize x.text=tx at x3 HC a6
          by_cases he:E=0
          · rw [if_pos he] at a2
            subst he
            have a9:=Hi a2
            clear a2
            go_wp2_with fail
            rw [← a6]
            clear a6
            refine HC.out.mono ?_
            rintro e w3 ⟨rfl,aD⟩
            have aK:=Hi aD
            clear aD HC
            go_wp2
            exact ⟨⟨m+1,by omega,by go_num,a9.out,aW.out.trans aK.out⟩,by simp [intOf];omega⟩
          · rw [if_neg he] at a2
            have qe:(E != 0)=true:=by simpa using he
            have a9:=Hi a2
            clear a2 he
            go_wp2_with fail
            rw [← a6]
            clear a6
            refine HC.out.mono ?_
            rintro e w3 ⟨rfl,aD⟩
            have aK:=Hi aD
            clear aD HC
            go_wp2
            go_ret
            exact ⟨by rw [a9.out];rfl,aW.out.trans aK.out⟩
        · have e:l.drop m=[]:=List.drop_eq_nil_of_le (by rw [HL.out];omega)
          rw [e,vaChecks] at a2
          have a9:=Hi a2
          clear a2 e
          go_wp2
          go_ret
          exact ⟨by rw [a9.out];rfl,hk⟩
theorem vaCheckTop_calls (x:Va) (v:Value) (w:World) (hv:VaAt w v x) (b6:Tabs w) :
 Calls Tryz.prog 102 #[v] w fun e w'=>e=.returned (.int .i64 (vaCheck x 1))∧Keeps w w':=by
 have HC:Hid (∀ W0,Keeps w W0→Calls Tryz.prog 133 #[v,.int .i64 1] W0 fun e w'=>e=.returned (.int .i64 (vaCheck x 1))∧Keeps W0 w'):=Hi fun W0 hk=>vaCheck_calls (SizeOf.sizeOf x+1) x v 1 W0 (by omega) (hv.later hk.below) (b6.below hk.below) (by omega)
 obtain ⟨A,c,rfl⟩:=hv.form
 clear hv b6
 generalize x.items.length=N at *
 go_enter Tryz.func102,Tryz.ntmps102
 go_wp2_with fail
 refine (HC.out _ ((Keeps.refl w).alloc _)).mono ?_
 rintro e w2 ⟨rfl,hk⟩
 go_wp2
 go_ret
 exact ⟨rfl,((Keeps.refl w).alloc _).trans hk⟩
def tyHd:List Ty→Ty
 | []=>.mk 0 []
 | t :: _=>t
mutual
def vaOf:Va→Ty→Bool
 | .mk k _ _ _ l,t=>decide (k=t.kind)&&vasOf l (tyHd t.of)
def vasOf:List Va→Ty→Bool
 | [],_=>true
 | v :: l,t=>vaOf v t&&vasOf l t
end
theorem vasOf_drop (l:List Va) (m:Nat) (t:Ty) (h:m<l.length):vasOf (l.drop m) t=(vaOf (l[m]'h) t&&vasOf (l.drop (m+1)) t):=by
 rw [List.drop_eq_getElem_cons h,vasOf]
theorem vaChecks_get:∀ (l:List Va) (d j:Nat) (h:j<l.length),vaChecks l d=0→vaCheck (l[j]'h) d=0
 | v :: l,d,0,h,hc=>by
   rw [vaChecks] at hc
   split at hc
   · assumption
   · contradiction
 | v :: l,d,j+1,h,hc=>by
   rw [vaChecks] at hc
   split at hc
   · exact vaChecks_get l d j (by simpa using h) hc
   · contradiction
theorem vaCheck_ok {k i:Int} {f:Nat} {t:ByteArray} {l:List Va} {d:Nat} (h:vaCheck (.mk k i f t l) d=0):d≤4∧vaOwn (.mk k i f t l)=true∧t.size≤1024∧l.length≤256∧(k=4→utfOk t=true)∧vaChecks l (d+1)=0:=by
 rw [vaCheck] at h
 split at h
 · omega
 split at h
 · omega
 split at h
 · omega
 split at h
 · omega
 split at h
 · omega
 · rename_i h1 h2 h3 h4 h5
   refine ⟨by omega,by simpa using h2,by omega,by omega,fun hk=>?_,h⟩
   cases hu:utfOk t with
   | true=>rfl
   | false=>exact absurd ⟨hk,hu⟩ h5
theorem vaOwn_items {k i:Int} {f:Nat} {t:ByteArray} {l:List Va} (h:vaOwn (.mk k i f t l)=true) (hl:l≠[]):k=6∨k=7:=by
 have hn:¬l.length=0:=fun e=>hl (List.eq_nil_of_length_eq_zero e)
 rw [vaOwn] at h
 simp only [hn,decide_false,Bool.and_false] at h
 split at h
 · cases h
 split at h
 · cases h
 split at h
 · cases h
 split at h
 · cases h
 split at h
 · exact .inl (by assumption)
 split at h
 · exact .inr (by assumption)
 · cases h
def OfV (n:Nat):Prop:=∀ (x:Va) (t:Ty) (v tv:Value) (d d':Nat) (w:World),SizeOf.sizeOf x<n→VaAt w v x→TyAt w tv t→vaCheck x d=0→tyCheck t d'=0 →
    Calls Tryz.prog 103 #[v,tv] w fun e w'=>e=.returned (.bool (vaOf x t))∧Keeps w w'
theorem of_calls (n:Nat):OfV n:=by
 induction n with
 | zero=>intro x t v tv d d' w hn;exact absurd hn (by omega)
 | succ n ih=>
   intro x t v tv d d' w hn hv ht b7 bq
   obtain ⟨B,cb,rfl⟩:=hv.form
   obtain ⟨D,cd,rfl⟩:=ht.form
   cases x with
   | mk k i f tx l=>
   cases t with
   | mk k' ts=>
     change VaAt w (.agg #[.int .i64 k,.int .i64 i,.float .f64 f,.string tx,.slice B l.length cb]) _ at hv
     change TyAt w (.agg #[.int .i64 k',.slice D ts.length cd]) _ at ht
     show Calls _ _ #[.agg #[.int .i64 k,.int .i64 i,.float .f64 f,.string tx,.slice B l.length cb],.agg #[.int .i64 k',.slice D ts.length cd]] _ _
     obtain ⟨R,hR⟩:∃ R,R=vaOf (.mk k i f tx l) (.mk k' ts):=⟨_,rfl⟩
     rw [← hR]
     rw [vaOf] at hR
     change R=(decide (k=k')&&vasOf l (tyHd ts)) at hR
     obtain ⟨_,aG,_,bh,_,bg⟩:=vaCheck_ok b7
     by_cases hk:k=k'
     · subst hk
       rw [decide_eq_true rfl,Bool.true_and] at hR
       have c9:l≠[]→∃ t,ts=[t]∧tyCheck t (d'+1)=0:=fun hn=>(tyCheck_ok bq).2.2.2.1 (vaOwn_items aG hn)
       have q1:(k != k)=false:=by simp
       have HR:=Hi hR
       have HV:=Hi hv
       have HT:=Hi ht
       have ct:=Hi c9
       have cu:=Hi bg
       have HN:=Hi hn
       have IH:=Hi ih
       clear hR hv ht c9 bg hn ih aG b7 bq
       generalize aO:l.length=N at bh HV ⊢
       have HL:=Hi aO
       clear aO
       generalize bU:ts.length=M at HT ⊢
       have cy:=Hi bU
       clear bU
       go_enter Tryz.func103,Tryz.ntmps103
       go_wp2_with fail
       go_loopw [15] (fun j wr=>∃ m:Nat,m≤N∧j=.int .i64 (m:Int)∧R=vasOf (l.drop m) (tyHd ts)∧Keeps ((w.alloc (.cells #[.int .i64 k,.int .i64 i,.float .f64 f,.string tx,.slice B N cb] 101)).alloc (.cells #[.int .i64 k,.slice D M cd] 97)) wr) (fun j _=>N-(intOf j).toNat)
       case atStart=>exact ⟨0,Nat.zero_le _,rfl,HR.out,Keeps.refl _⟩
       case round=>
        obtain ⟨m,hm,rfl,a2,bm⟩:=hrel
        have ba:Keeps w wr:=(((Keeps.refl w).alloc _).alloc _).trans bm
        by_cases ay:m<N
        · have a0:m<l.length:=by rw [HL.out];exact ay
          obtain ⟨t1,cr,bO⟩:=ct.out (fun e=>by rw [e] at a0;simp at a0)
          subst cr
          obtain rfl:M=1:=cy.out.symm
          obtain ⟨a1,A2,c2,rfl,_,x0,x1,x2,x3,x4,an⟩:=(VaS.of_at (HV.out.later ba.below)).elem m a0
          obtain ⟨b1,k3,s3,rfl,_,y1,y2,aV⟩:=(TyS.of_at (HT.out.later ba.below)).elem
          obtain ⟨A3,c3,n3,rfl⟩:∃ A3 c3 n3,s3=Value.slice A3 n3 c3:=by
           obtain ⟨A3,c3,e⟩:=aV.form
           simp only [Value.agg.injEq,Array.mk.injEq,List.cons.injEq] at e
           exact ⟨A3,c3,_,e.2.1⟩
          have z1:wr.cell? ⟨w.heap.size+1,1,none⟩=some (.slice (some b1) 1 cd):=by
           rw [bm.below.cell (by simp)]
           rw [obj_cell (obj_new_at _ _ (w.heap.size+1) (by simp)) 1];rfl
          have u1:w.heap.size+1<wr.heap.size:=World.block_lt_of_cell? _ _ z1
          have aP:=vasOf_drop l m t1 a0
          have aq:SizeOf.sizeOf (l[m]'a0)<n:=by
           have h1:=List.sizeOf_lt_of_mem (List.getElem_mem a0)
           have h2:=HN.out
           simp only [Va.mk.sizeOf_spec] at h2
           omega
          change R=vasOf (l.drop m) t1 at a2
          rw [aP] at a2
          obtain ⟨W1,ao⟩:∃ W1,W1=wr.alloc (.cells #[.int .i64 (l[m]'a0).kind,.int .i64 (l[m]'a0).int,.float .f64 (l[m]'a0).fl,.string (l[m]'a0).text,.slice A2 (l[m]'a0).items.length c2] 101):=⟨_,rfl⟩
          have a7:Keeps wr W1:=by rw [ao];exact (Keeps.refl wr).alloc _
          have aY:W1.heap[wr.heap.size]? = some (.cells #[.int .i64 (l[m]'a0).kind,.int .i64 (l[m]'a0).int,.float .f64 (l[m]'a0).fl,.string (l[m]'a0).text,.slice A2 (l[m]'a0).items.length c2] 101):=by rw [ao];exact obj_new wr _
          have hc:=(IH.out (l[m]'a0) t1 _ _ (d+1) (d'+1) W1.drew aq (((an.later a7.below).later (Keeps.drew W1).below).at) (((aV.later a7.below).later (Keeps.drew W1).below).at) (vaChecks_get l _ m a0 cu.out) bO).mono fun e w' h=>(⟨h.1,(Keeps.drew W1).trans h.2⟩:_∧Keeps W1 w')
          obtain ⟨x,hx⟩:∃ x,x=l[m]'a0:=⟨_,rfl⟩
          rw [← hx] at x0 x1 x2 x3 x4 hc ao a2 aY
          obtain ⟨m0,m1,m2,m3,m4,_⟩:=cells5 aY
          have aI:∀ {p:Addr} {u:Value},wr.cell? p=some u→W1.cell? p=some u:=fun hc=>by rw [a7.below.cell (World.block_lt_of_cell? _ _ hc)];exact hc
          have Y1:=aI y1
          have Y2:=aI y2
          have Z1:=aI z1
          have aW:=Hi (bm.trans a7)
          have bB:=Hi (ba.trans a7)
          clear an aV aP aq aI aY a7 bm ba y1 y2 z1 u1 hx a0 bO
          generalize hE:vaOf x t1=E at hc a2
          clear hE
          have a9:=Hi a2
          clear a2
          cases E with
          | false=>
            have HC:=Hi hc
            clear hc
            go_wp2_with fail
            rw [← ao]
            clear ao x0 x1 x2 x3 x4 HV HT IH
            go_region_law (go_simp;go_at_call 103;refine HC.out.mono ?_;rintro e w2 ⟨rfl,aa⟩)
            all_goals
             go_wp2
             go_ret
             refine ⟨ret_bool ?_,bB.out.trans aa⟩
             rw [a9.out]
             simp
          | true=>
            have HC:=Hi hc
            clear hc
            go_wp2_with fail
            rw [← ao]
            clear ao x0 x1 x2 x3 x4
            go_region_law (go_simp;go_at_call 103;refine HC.out.mono ?_;rintro e w2 ⟨rfl,aa⟩)
            all_goals
             have aK:=Hi (aW.out.trans aa)
             clear aa
             go_wp2
             refine ⟨⟨m+1,by omega,by go_num, ?_,aK.out⟩,by simp [intOf];omega⟩
             rw [a9.out]
             simp [tyHd]
        · have e:l.drop m=[]:=List.drop_eq_nil_of_le (by rw [HL.out];omega)
          rw [e,vasOf] at a2
          have a9:=Hi a2
          clear a2 e
          go_wp2
          go_ret
          exact ⟨ret_bool a9.out.symm,ba⟩
     · have q1:(k != k')=true:=by rw [bne_iff_ne];exact hk
       rw [decide_eq_false hk,Bool.false_and] at hR
       subst hR
       clear hv ht hn ih aG b7 bq bg hk
       generalize l.length=N
       generalize ts.length=M
       go_enter Tryz.func103,Tryz.ntmps103
       go_wp2_with fail
       go_ret
       exact ⟨rfl,((Keeps.refl w).alloc _).alloc _⟩
end
section
open Go.RowKit
def nameIn (names:List ByteArray) (s:ByteArray):Bool:=names.any fun x=>decide (x=s)
theorem nameIn_append (names:List ByteArray) (a s:ByteArray):nameIn (names++[a]) s=(nameIn names s||decide (a=s)):=by
 unfold nameIn
 rw [List.any_append]
 simp
def colCheck (names:List ByteArray) (c:Col):Int:=
 if nameOk c.name=false then 70 else if nameIn names c.name=true then 71 else if tyCheck c.ty 1≠0 then tyCheck c.ty 1
 else if c.has=false then (if Va.same c.dflt vaZero=true then 0 else 80)
 else if vaCheck c.dflt 1≠0 then vaCheck c.dflt 1 else if vaOf c.dflt c.ty=true then 0 else 80
def colsCheck:List ByteArray→List Col→Int
 | _,[]=>0
 | names,c :: l=>if colCheck names c=0 then colsCheck (names++[c.name]) l else colCheck names c
def schCheck (l:List Col):Int:=
 if l.length=0 then 4 else if 16<l.length then 3 else if colsCheck [] l=0 then (if 1024<(putS l).length then 2 else 0) else colsCheck [] l
theorem colsCheck_drop (l:List Col) (k:Nat) (h:k<l.length):colsCheck ((l.take k).map Col.name) (l.drop k)=if colCheck ((l.take k).map Col.name) (l[k]'h)=0 then colsCheck ((l.take (k+1)).map Col.name) (l.drop (k+1)) else colCheck ((l.take k).map Col.name) (l[k]'h):=by
 rw [List.drop_eq_getElem_cons h,colsCheck,List.take_succ_eq_append_getElem h,List.map_append]
 rfl
theorem colCheck_ok {names:List ByteArray} {c:Col} (h:colCheck names c=0):nameOk c.name=true∧nameIn names c.name=false∧tyCheck c.ty 1=0∧(c.has=false→Va.same c.dflt vaZero=true)∧(c.has=true→vaCheck c.dflt 1=0∧vaOf c.dflt c.ty=true):=by
 unfold colCheck at h
 split at h
 · omega
 split at h
 · omega
 split at h
 · contradiction
 rename_i h1 h2 h3
 refine ⟨by simpa using h1,by simpa using h2,by simpa using h3,fun hh=>?_,fun hh=>?_⟩
 · rw [if_pos hh] at h
   split at h
   · assumption
   · omega
 · rw [if_neg (by rw [hh];simp)] at h
   split at h
   · contradiction
   rename_i h4
   split at h
   · exact ⟨by simpa using h4,by assumption⟩
   · omega
theorem colsCheck_ok:∀ (l:List Col) (names:List ByteArray),colsCheck names l=0→∀ c∈l,∃ ns,colCheck ns c=0
 | [],_,_,c,hc=>by simp at hc
 | x :: l,names,h,c,hc=>by
   rw [colsCheck] at h
   split at h
   · rename_i h1
     rcases List.mem_cons.1 hc with rfl | hc
     · exact ⟨names,h1⟩
     · exact colsCheck_ok l _ h c hc
   · contradiction
theorem textBytes_length (s:ByteArray) (h:s.size≤1024):(textBytes s).length≤1034:=by
 unfold textBytes
 rw [List.length_append]
 have h1:=leb_le s.size (by omega)
 have h2:s.data.toList.length=s.size:=rfl
 omega
theorem putVas_bound (B:Nat):∀ (l:List Va),(∀ j (h:j<l.length),(putVa (l[j]'h)).length≤B)→(putVas l).length≤l.length*B
 | [],_=>by simp [putVas]
 | v :: l,h=>by
   rw [putVas,List.length_append,List.length_cons,Nat.add_mul]
   have h0:=h 0 (by simp)
   have h1:=putVas_bound B l (fun j hj=>h (j+1) (by simpa using hj))
   simp only [List.getElem_cons_zero] at h0
   omega
theorem putVa_bound:∀ (n:Nat) (x:Va) (d:Nat),n+d=5→vaCheck x d=0→x.wf→(putVa x).length≤1034*257 ^ n
 | 0,.mk k i f t l,d,hd,h,_=>by have:=(vaCheck_ok h).1;omega
 | n+1,.mk k i f t l,d,hd,h,hw=>by
   obtain ⟨_,_,ht,hl,_,bg⟩:=vaCheck_ok h
   rw [Va.wf] at hw
   have hp:1≤257 ^ n:=Nat.pos_of_ne_zero (by simp)
   have bu:1034*257 ^ (n+1)=257*(1034*257 ^ n):=by rw [Nat.pow_succ];omega
   have aZ:(putVas l).length≤256*(1034*257 ^ n):=by
    have h1:=putVas_bound (1034*257 ^ n) l (fun j hj=>putVa_bound n _ (d+1) (by omega) (vaChecks_get l _ j hj bg) (Va.wfs_get l j hj hw.2.2.2))
    have h2:l.length*(1034*257 ^ n)≤256*(1034*257 ^ n):=Nat.mul_le_mul_right _ hl
    omega
   have cC:=textBytes_length t ht
   have hz:=leb_le (zig i) (zig_lt hw.1 hw.2.1)
   have bw:=leb_le l.length (by omega)
   rw [bu]
   have hB:1034≤1034*257 ^ n:=Nat.le_mul_of_pos_right _ hp
   generalize 1034*257 ^ n=B at aZ hB
   rw [putVa]
   split
   · simp;omega
   split
   · omega
   split
   · rw [le8_length];omega
   split
   · omega
   split
   · rw [List.length_cons];omega
   · rw [List.length_append];omega
theorem putCol_bound {ns:List ByteArray} {c:Col} (h:colCheck ns c=0) (hw:c.dflt.wf):(putCol c).length≤4510794400000:=by
 obtain ⟨hn,_,ht,_,hv⟩:=colCheck_ok h
 have hs:c.name.size≤16:=by
  unfold nameOk at hn
  simp only [Bool.and_eq_true,decide_eq_true_eq] at hn
  exact hn.1.2
 have h1:=textBytes_length c.name (by omega)
 have h2:=putTy_length 4 c.ty 1 (by omega) ht
 have h3:(if c.has=true then putVa c.dflt else []).length≤4510794394634:=by
  split
  · rename_i hh
    have:=putVa_bound 4 c.dflt 1 (by omega) (hv hh).1 hw
    have e:1034*257 ^ 4=4510794394634:=by decide
    omega
  · simp
 unfold putCol
 rw [List.length_append,List.length_append,List.length_cons]
 omega
theorem putCols_bound:∀ (l:List Col),(∀ c∈l,(putCol c).length≤4510794400000)→(putCols l).length≤l.length*4510794400000
 | [],_=>by simp [putCols]
 | c :: l,h=>by
   rw [putCols,List.length_append,List.length_cons,Nat.add_mul]
   have h0:=h c (by simp)
   have h1:=putCols_bound l (fun x hx=>h x (by simp [hx]))
   omega
theorem putS_bound {l:List Col} (hl:l.length≤16) (h:colsCheck [] l=0) (hw:∀ c∈l,c.dflt.wf):(putS l).length≤140737488354000:=by
 have h1:=putCols_bound l (fun c hc=>by obtain ⟨ns,cB⟩:=colsCheck_ok l [] h c hc;exact putCol_bound cB (hw c hc))
 have h2:=leb_le l.length (by omega)
 have h3:l.length*4510794400000≤16*4510794400000:=Nat.mul_le_mul_right _ hl
 unfold putS
 rw [List.length_append]
 omega
structure NamesMap (w:World) (b n:Nat) (names:List ByteArray):Prop where
 ex:∃ D:DataW Unit,w.ownsMap Tryz.prog 9 (plainElem Tryz.prog 3) b n D∧∀ s:ByteArray,Maps.has D (.string s.data.toList)=nameIn names s
theorem ownsMap_heap {w w':World} {P:Program} {k:TypeId} {R:Value→Option (DataW Unit×List MemPlace)} {b n:Nat} {D:DataW Unit} (h:w.ownsMap P k R b n D) (hb:w'.heap[b]? = w.heap[b]?):w'.ownsMap P k R b n D:=by
 obtain ⟨es,clock,h1,h2⟩:=h
 exact ⟨es,clock,by rw [hb];exact h1,h2⟩
theorem ownsMap_lt {w:World} {P:Program} {k:TypeId} {R:Value→Option (DataW Unit×List MemPlace)} {b n:Nat} {D:DataW Unit} (h:w.ownsMap P k R b n D):b<w.heap.size:=by
 obtain ⟨es,clock,h1,_⟩:=h
 exact obj_lt h1
theorem NamesMap.keeps {w w':World} {b n:Nat} {names:List ByteArray} (h:NamesMap w b n names) (hk:Keeps w w'):NamesMap w' b n names:=by
 obtain ⟨D,h1,h2⟩:=h.ex
 exact ⟨D,ownsMap_heap h1 (hk.below.block b (ownsMap_lt h1)),h2⟩
theorem bytes_lit {s t:ByteArray} (h:s≠t):Lit.string s.data.toList≠Lit.string t.data.toList:=fun e=>by
 injection e with e
 apply h
 cases s;cases t
 simpa using e
theorem names_put {D:DataW Unit} {names:List ByteArray} (hm:Maps.IsMap D) (h:∀ s:ByteArray,Maps.has D (.string s.data.toList)=nameIn names s) (nm:ByteArray) (d:DataW Unit) :
 ∀ s:ByteArray,Maps.has (D.put (.string nm.data.toList) d) (.string s.data.toList)=nameIn (names++[nm]) s:=by
 intro s
 by_cases e:s=nm
 · subst e
   rw [Maps.has_put_same hm (k:=.string s.data.toList) True.intro,nameIn_append];simp
 · rw [Maps.has_put_other (bytes_lit e),h s,nameIn_append]
   have:¬nm=s:=fun h=>e h.symm
   simp [this]
end
end Go.Proofs.YtihodcnnappkbaaGreatDoor
