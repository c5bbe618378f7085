/-
  The reader of schema's bytes: its type. Condition: the block stands for the reader. The reader of schema's bytes: its float; real.Of. Condition: the block stands for the reader. Numbers with a sign taken to such without, and back: plain, and the walks of leb.Zig and leb.Zag. Condition: the numbers are of 64 bits. Reading a value of a type: plain. No condition. The reader of schema's bytes: a value of a kind without items. Condition: the block stands for the reader, the tables of unicode/utf8 are as laid. The reader of schema's bytes: a value of whatever type. Condition: the block stands for the reader, the tables of unicode/utf8 are as laid, what is of another type has one. Columns and schemas in memory; finding a column: plain. No condition. The walk of schema.Find. Condition: the slice stands for columns.
-/
import Derived.Test.YtihodcnnappkbaaGreatDoorG2
import Derived.Test.YtihodcnnappkbaaGreatDoorG1
import Derived.IntWalk
set_option linter.unusedVariables false
set_option linter.unusedSimpArgs false
set_option maxHeartbeats 2000000
set_option maxRecDepth 100000
namespace Go.Proofs.YtihodcnnappkbaaGreatDoor
section
open Go.RowKit Go.BigFrame
def rKindOf (x:Nat):Except Int (Ty×Nat)→Except Int (Ty×Nat)
 | .error e=>.error e
 | .ok (t,j)=>.ok (.mk x [t],j)
def rKind:Nat→List UInt8→Nat→Except Int (Ty×Nat)
 | 0,_,_=>.error 62
 | n+1,l,a=>
   match rByte l a with
   | .error e=>.error e
   | .ok (c,k)=>
     if c<1∨7<c then .error 60
     else if c=6∨c=7 then rKindOf c (rKind n l k)
     else .ok (.mk c [],k)
theorem nested_calls (k:Int) (w:World) :
 Calls Tryz.prog 162 #[.int .i64 k] w fun e w'=>e=.returned (.bool (decide (k=6)||decide (k=7)))∧w=w':=by
 by_cases h6:k=6
 · subst h6
   go_enter Tryz.func162,Tryz.ntmps162
   go_wp2
   go_ret
   exact ⟨rfl,rfl⟩
 · have q6:(k==6)=false:=by simpa using h6
   have HE:=Hi (show (decide (k=6)||decide (k=7))=(k==7) by simp only [h6,decide_false,Bool.false_or];rfl)
   clear h6
   go_enter Tryz.func162,Tryz.ntmps162
   go_wp2
   go_ret
   exact ⟨by rw [HE.out];rfl,rfl⟩
theorem rByte_lt {l:List UInt8} {a x k:Nat} (h:rByte l a=.ok (x,k)):x<256:=by
 unfold rByte at h
 split at h
 · injection h with h;injection h with h1 h2
   rw [← h1]
   exact UInt8.toNat_lt _
 · cases h
theorem RdAt.low {w:World} {g:Nat} {A:Option Addr} {c:Nat} {l:List UInt8} {a:Nat} (h:RdAt w g A c l a):∀ b,A=some b→l≠[]→b.block<w.heap.size:=by
 intro b e hn
 have hp:0<l.length:=List.length_pos_iff.2 hn
 obtain ⟨ad,e1,hc⟩:=h.reads.out 0 hp
 rw [e] at e1
 cases e1
 have:=World.block_lt_of_cell? w _ hc
 rwa [addr_add_block] at this
theorem RdAt.newer {F:Nat→Prop} {w w1 w':World} {g:Nat} {A:Option Addr} {c:Nat} {l:List UInt8} {a k:Nat} (h:RdAt w g A c l a) (h1:RdAt w1 g A c l k) (ht:Touch F w1 w') (hF:∀ k,F k→w.heap.size≤k):RdAt w' g A c l k:=
 h1.touch ht (fun hf=>by have:=hF _ hf;have:=obj_lt h.obj;omega) (fun b e hn hf=>by have:=hF _ hf;have:=h.low b e hn;omega)
def KindPost (w:World) (g:Nat) (A:Option Addr) (c:Nat) (l:List UInt8) (r:Except Int (Ty×Nat)) (e:Ending) (w':World):Prop:=
 match r with
 | .error er=>e=raised er∧Touch (At g) w w'
 | .ok (t,k)=>∃ v,e=.returned v∧TyS w' (fun b=>w.heap.size≤b) v t∧RdAt w' g A c l k∧Touch (At g) w w'
theorem kind_calls (n:Nat):∀ (d:Nat) (g:Nat) (A:Option Addr) (c:Nat) (l:List UInt8) (a:Nat) (w:World),n+d=5→RdAt w g A c l a →
 Calls Tryz.prog 153 #[.pointer (some ⟨g,0,none⟩),.int .i64 (d:Int)] w (KindPost w g A c l (rKind n l a)):=by
 induction n with
 | zero=>
   intro d g A c l a w hd hr
   have ct:5≤d:=by omega
   have cH:d≤5:=by omega
   clear hd hr
   go_enter Tryz.func153,Tryz.ntmps153
   go_wp2_with fail
   refine (must_noB _ _ _ _ (by simp <;> omega)).mono ?_
   rintro e w2 ⟨rfl,rfl⟩
   go_wp2
   exact ⟨rfl,rfl,(Touch.refl _ w).alloc _⟩
 | succ n ih=>
   intro d g A c l a w hd hr
   have ct:d≤4:=by omega
   have hg:=obj_lt hr.obj
   have an:=Hi hr
   obtain ⟨W0,aH⟩:∃ W0,W0=w.alloc (.cells #[.int .i64 0,.slice none 0 0] 97):=⟨_,rfl⟩
   have aa:RdAt W0 g A c l a:=by rw [aH];exact hr.below ((Keeps.refl w).alloc _).below
   have bO:W0.heap[w.heap.size]? = some (.cells #[.int .i64 0,.slice none 0 0] 97):=by rw [aH];exact obj_new w _
   have ai:Touch (At g) w W0:=by rw [aH];exact (Touch.refl _ w).alloc _
   have IH:=Hi ih
   have HD:=Hi hd
   clear ih hd hr
   cases hb:rByte l a with
   | error er=>
     have hc:=byte_no g A c l a er W0 aa hb
     have hp:rKind (n+1) l a=.error er:=by rw [rKind,hb]
     rw [hp]
     rw [aH] at hc
     have HC:=Hi hc
     have HT:=Hi ai
     clear hc aa bO hb hp IH
     go_enter Tryz.func153,Tryz.ntmps153
     go_wp2_with fail
     refine (must_okB _ _ _ _ (by simp <;> omega)).mono ?_
     rintro e w2 ⟨rfl,rfl⟩
     go_wp2_with fail
     refine HC.out.mono ?_
     rintro e w2 ⟨rfl,ht⟩
     go_wp2
     exact ⟨rfl,rfl,HT.out.then (aH▸ht)⟩
   | ok r=>
     obtain ⟨x,k⟩:=r
     have hx:=rByte_lt hb
     have hc:=byte_ok g A c l a x k W0 aa hb
     have aZ:w.heap.size≠g:=by omega
     have hp:rKind (n+1) l a=if x<1∨7<x then .error 60 else if x=6∨x=7 then rKindOf x (rKind n l k) else .ok (.mk x [],k):=by rw [rKind,hb]
     rw [hp]
     rw [aH] at hc
     have HC:=Hi hc
     have HT:=Hi ai
     have bC:=Hi bO
     clear hc aa ai bO hb hp
     by_cases h1:x<1∨7<x
     · rw [if_pos h1]
       clear IH
       rcases h1 with h1 | h1
       all_goals
        go_enter Tryz.func153,Tryz.ntmps153
        go_wp2_with fail
        refine (must_okB _ _ _ _ (by simp <;> omega)).mono ?_
        rintro e w2 ⟨rfl,rfl⟩
        go_wp2_with fail
        refine HC.out.mono ?_
        rintro e w1 ⟨rfl,af,aF⟩
        have b7:=Hi aF
        clear aF af HC
        go_wp2_with fail
        refine (must_noB _ _ _ _ (by simp <;> omega)).mono ?_
        rintro e w2 ⟨rfl,rfl⟩
        go_wp2
        exact ⟨rfl,rfl,(HT.out.then (aH▸b7.out)).alloc _⟩
     · rw [if_neg h1]
       have cG:1≤x:=by omega
       have cE:x≤7:=by omega
       clear h1
       by_cases h2:x=6∨x=7
       · rw [if_pos h2]
         generalize aP:rKindOf x (rKind n l k)=R
         have am:=Hi aP.symm
         clear aP
         go_enter Tryz.func153,Tryz.ntmps153
         go_wp2_with fail
         refine (must_okB _ _ _ _ (by simp <;> omega)).mono ?_
         rintro e w2 ⟨rfl,rfl⟩
         go_wp2_with fail
         refine HC.out.mono ?_
         rintro e w1 ⟨rfl,af,aF⟩
         rw [← aH] at aF
         have ag:=aF.obj bC.out aZ
         have bi:=obj_lt ag
         have b7:=Hi aF
         have az:=Hi af
         have bD:=Hi ag
         clear aF af HC ag
         go_wp2_with fail
         refine (must_okB _ _ _ _ (by simp <;> omega)).mono ?_
         rintro e w2 ⟨rfl,rfl⟩
         go_wp2_with fail
         refine (nested_calls _ _).mono ?_
         rintro e w2 ⟨rfl,rfl⟩
         have hn:(decide ((x:Int)=6)||decide ((x:Int)=7))=true:=by simp;omega
         obtain ⟨W2,ao⟩:∃ W2,W2=w1.alloc (.cells #[.int .i64 (x:Int),.slice none 0 0] 97):=⟨_,rfl⟩
         have aY:RdAt W2 g A c l k:=by rw [ao];exact az.out.below ((Keeps.refl w1).alloc _).below
         have bZ:Touch (At g) w W2:=by rw [ao];exact (HT.out.then b7.out).alloc _
         have ah:W2.heap[w.heap.size]? = some (.cells #[.int .i64 0,.slice none 0 0] 97):=by rw [ao];exact obj_old bD.out _
         have b9:W2.heap[w1.heap.size]? = some (.cells #[.int .i64 (x:Int),.slice none 0 0] 97):=by rw [ao];exact obj_new w1 _
         have b5:=IH.out (d+1) g A c l k W2 (by have:=HD.out;omega) aY
         have bj:W2.heap.size=w1.heap.size+1:=by rw [ao];simp
         rw [show (((d+1:Nat):Int))=(d:Int)+1 by omega] at b5
         have c9:=Hi aY
         have bq:=Hi bZ
         have b4:=Hi ah
         have ci:=Hi b9
         have bA:=Hi bj
         clear aY bZ ah b9 bj b7 az bD HT bC IH
         cases hk:rKind n l k with
         | error er=>
           rw [hk] at b5
           have bm:=Hi b5
           rw [hk] at am
           clear b5 hk
           go_wp2_with fail
           rw [← ao]
           refine bm.out.mono ?_
           rintro e w3 ⟨rfl,ak⟩
           go_wp2
           exact ⟨rfl,by rw [am.out];exact ⟨rfl,bq.out.then ak⟩⟩
         | ok r=>
           obtain ⟨t,j⟩:=r
           rw [hk] at b5
           have bm:=Hi b5
           rw [hk] at am
           clear b5 hk
           go_wp2_with fail
           rw [← ao]
           refine bm.out.mono ?_
           rintro e w3 ⟨v3,rfl,bE,aA,ak⟩
           have bU:W2.heap.size≤w3.heap.size:=ak.size
           have ab:=ak.obj b4.out aZ
           have au:=ak.obj ci.out (by show w1.heap.size≠g;omega)
           obtain ⟨d0,d1,z0,z1⟩:=cells2 ab
           obtain ⟨e0,e1,y0,y1⟩:=cells2 au
           have u0:=obj_lt ab
           have u1:=obj_lt au
           obtain ⟨A3,c3,rfl⟩:=bE.form
           have ck:=Hi bE
           have b2:=Hi aA
           have aW:=Hi ak
           have cm:=Hi bU
           have cL:=Hi ao
           have cC:=Hi aH
           clear bE aA ak bU bm ab au ao aH
           go_wp2_with fail
           refine bodyPost_ret (v:=.agg #[.int .i64 (x:Int),.slice (some ⟨w3.heap.size,0,none⟩) 1 1]) (by simp [results,Tryz.results153,go_sem,u0,u1,d0,d1]) rfl ?_
           have hF:∀ k,(k=w1.heap.size∨k=w.heap.size)→w.heap.size≤k:=fun k hk=>by omega
           have ht:Touch (fun k=>k=w1.heap.size∨k=w.heap.size) w3 ((((w3.setCell ⟨w1.heap.size,1,none⟩ (.slice (some ⟨w3.heap.size,0,none⟩) 1 1)).setCell ⟨w.heap.size,0,none⟩ (.int .i64 (x:Int))).setCell ⟨w.heap.size,1,none⟩ (.slice (some ⟨w3.heap.size,0,none⟩) 1 1)).alloc (.cells #[.int .i64 t.kind,.slice A3 t.of.length c3] 97)):=
            ((((Touch.refl _ w3).setCell _ _ fun _=>.inl rfl).setCell _ _ fun _=>.inr rfl).setCell _ _ fun _=>.inr rfl).alloc _
           rw [am.out]
           refine ⟨_,rfl, ?_,an.out.newer b2.out ht hF,(bq.out.then aW.out).trans ht (fun k hk h=>by omega)⟩
           have hz:=cm.out
           have cJ:=bA.out
           refine TyS.one (k1:=t.kind) (s1:=.slice A3 t.of.length c3) ?_ _ _ _ (by show w.heap.size≤w3.heap.size;omega) ?_ ?_
           · exact (ck.out.touch ht (fun k hk h=>by omega)).mono (fun k _ hk=>by omega)
           · simp [go_sem,addr_add_zero]
           · rw [addr_add_mk];simp [go_sem]
       · rw [if_neg h2]
         clear IH
         go_enter Tryz.func153,Tryz.ntmps153
         go_wp2_with fail
         refine (must_okB _ _ _ _ (by simp <;> omega)).mono ?_
         rintro e w2 ⟨rfl,rfl⟩
         go_wp2_with fail
         refine HC.out.mono ?_
         rintro e w1 ⟨rfl,af,aF⟩
         rw [← aH] at aF
         have ag:=aF.obj bC.out aZ
         have bi:=obj_lt ag
         obtain ⟨d0,d1,z0,z1⟩:=cells2 ag
         have b7:=Hi aF
         have az:=Hi af
         have bD:=Hi ag
         clear aF af HC ag
         go_wp2_with fail
         refine (must_okB _ _ _ _ (by simp <;> omega)).mono ?_
         rintro e w2 ⟨rfl,rfl⟩
         go_wp2_with fail
         refine (nested_calls _ _).mono ?_
         rintro e w2 ⟨rfl,rfl⟩
         have hn:(decide ((x:Int)=6)||decide ((x:Int)=7))=false:=by simp;omega
         go_wp2_with fail
         refine bodyPost_ret (v:=.agg #[.int .i64 (x:Int),.slice none 0 0]) (by simp [results,Tryz.results153,go_sem,bi,d0,d1]) rfl ?_
         have ht:Touch (At w.heap.size) w1 (((w1.setCell ⟨w.heap.size,0,none⟩ (.int .i64 (x:Int))).setCell ⟨w.heap.size,1,none⟩ (.slice none 0 0)).alloc (.cells #[.int .i64 (x:Int),.slice none 0 0] 97)):=
          (((Touch.refl _ w1).set 0 _).set 1 _).alloc _
         exact ⟨_,rfl,TyS.leaf _ _ _ _ _,an.out.newer az.out ht (fun k hk=>by rw [At] at hk;omega),(HT.out.then b7.out).trans ht (fun k hk h=>by rw [At] at h;omega)⟩
theorem run_from_any (P:Program) (x:Nat) (w:World):(Extern.MathFloatBits.float64frombits #[.int .u64 (x:Int)]).run P w=.ok (.float .f64 x) w:=rfl
theorem realOf_calls (x:Nat) (w:World):Calls Tryz.prog 182 #[.int .u64 (x:Int)] w fun e w'=>e=.returned (.float .f64 (fbits x))∧w=w':=by
 have HC:=Hi (realFix_calls x)
 go_enter Tryz.func182,Tryz.ntmps182
 go_wp2
 rw [run_callFunc_extern Tryz.func185 (by kernel_rfl) (by kernel_rfl) (by kernel_rfl) (e:=Extern.MathFloatBits.float64frombits) (by kernel_rfl),run_from_any]
 simp only [Result.andThen]
 rw [Oper.upon_value]
 go_wp2_with fail
 refine (HC.out w).mono ?_
 rintro e w1 ⟨rfl,rfl⟩
 go_wp2
 go_ret
 exact ⟨rfl,rfl⟩
theorem nan_self:(FloatKind.f64.format.order 9221120237041090560 9221120237041090560==some .eq)=false:=by decide +kernel
theorem fbits_idem (x:Nat):fbits (fbits x)=fbits x:=by
 by_cases h:(FloatKind.f64.format.order x x==some .eq)=true
 · have:fbits x=x:=by unfold fbits;rw [if_pos h]
   rw [this,this]
 · have:fbits x=9221120237041090560:=by unfold fbits;rw [if_neg h]
   rw [this]
   unfold fbits
   rw [if_neg (by rw [nan_self];simp)]
def le:List UInt8→Nat
 | []=>0
 | c :: l=>c.toNat+256*le l
theorem le_snoc (l:List UInt8) (c:UInt8):le (l++[c])=le l+c.toNat*256 ^ l.length:=by
 induction l with
 | nil=>simp [le]
 | cons b l ih=>
   simp only [List.cons_append,le,ih,List.length_cons,Nat.pow_succ]
   generalize c.toNat=x
   generalize 256 ^ l.length=y
   generalize le l=z
   have:x*(y*256)=256*(x*y):=by rw [← Nat.mul_assoc,Nat.mul_comm]
   rw [this]
   omega
theorem le_lt (l:List UInt8):le l<256 ^ l.length:=by
 induction l with
 | nil=>simp [le]
 | cons b l ih=>
   simp only [le,List.length_cons,Nat.pow_succ]
   have:=b.toNat_lt
   omega
theorem or_addB {n k c:Nat} (hn:n<256 ^ k) (hs:n+c*256 ^ k<18446744073709551616):bits BinOp.or IntKind.u64 (n:Int) ((c*256 ^ k:Nat):Int)=((n+c*256 ^ k:Nat):Int):=by
 have h1:n ||| c*256 ^ k=n+c*256 ^ k:=by
  have e:(256:Nat) ^ k=2 ^ (8*k):=by rw [Nat.pow_mul]
  rw [e] at hn ⊢
  rw [Nat.or_comm,Nat.mul_comm,← Nat.two_pow_add_eq_or_of_lt hn,Nat.add_comm]
 rw [u64_or_nat _ _ (by omega) (by omega),h1]
theorem shl_wrapB (c k:Nat) (hs:c*256 ^ k<18446744073709551616):IntKind.u64.wrap ((c:Int)*2 ^ (8*k))=((c*256 ^ k:Nat):Int):=by
 have e2:(c:Int)*2 ^ (8*k)=((c*256 ^ k:Nat):Int):=by
  have:(256:Nat) ^ k=2 ^ (8*k):=by rw [Nat.pow_mul]
  rw [this]
  simp
 rw [e2,IntWalk.u64_in _ (by omega)]
theorem roomB {n k c:Nat} (hk:k<8) (hn:n<256 ^ k) (hc:c<256):n+c*256 ^ k<18446744073709551616:=by
 have h1:n+c*256 ^ k<256 ^ (k+1):=by
  rw [Nat.pow_succ]
  have:c*256 ^ k≤255*256 ^ k:=Nat.mul_le_mul_right _ (by omega)
  omega
 have h2:256 ^ (k+1)≤256 ^ 8:=Nat.pow_le_pow_right (by omega) (by omega)
 have:(256:Nat) ^ 8=18446744073709551616:=by decide
 omega
def rFloat (l:List UInt8) (a:Nat):Except Int (Nat×Nat):=
 if 8≤l.length-a then (if fbits (le ((l.drop a).take 8))=le ((l.drop a).take 8) then .ok (le ((l.drop a).take 8),a+8) else .error 5) else .error 30
def FloatPost (w:World) (g:Nat) (A:Option Addr) (c:Nat) (l:List UInt8) (r:Except Int (Nat×Nat)) (e:Ending) (w':World):Prop:=
 match r with
 | .error er=>e=raised er∧Touch (At g) w w'
 | .ok (x,k)=>e=.returned (.float .f64 x)∧RdAt w' g A c l k∧Touch (At g) w w'
theorem float_calls (g:Nat) (A:Option Addr) (c:Nat) (l:List UInt8) (a:Nat) (w:World) (hr:RdAt w g A c l a) :
 Calls Tryz.prog 175 #[.pointer (some ⟨g,0,none⟩)] w (FloatPost w g A c l (rFloat l a)):=by
 obtain ⟨c0,c1,fz⟩:=hr.cells
 have hg:=obj_lt hr.obj
 have av:=hr.len
 have aX:=hr.room
 have cq:=hr.cap
 have ca:=hr.within
 by_cases h8:8≤l.length-a
 · have hp:rFloat l a=if fbits (le ((l.drop a).take 8))=le ((l.drop a).take 8) then .ok (le ((l.drop a).take 8),a+8) else .error 5:=by rw [rFloat,if_pos h8]
   generalize aP:rFloat l a=R at hp ⊢
   clear aP
   have HR:=Hi hr
   clear hr
   have HL:=Hi (show a+8≤l.length by omega)
   generalize hL:l.length=L at c0 av h8 aX ca
   have HX:=Hi hL
   clear hL
   obtain ⟨Z,cw⟩:∃ Z,(if c=a then A else Option.map (fun x=>x.add a) A)=Z:=⟨_,rfl⟩
   have hz:Reads w Z ((l.drop a).take 8):=by
    have cI:=HL.out
    refine Reads.take (HR.out.reads.drop_any a Z fun aB ad e=>?_) 8
    rw [← cw,if_neg (by have:=HX.out;omega),e];rfl
   generalize hm:(l.drop a).take 8=m at hz hp
   have cb:m.length=8:=by rw [← hm,List.length_take,List.length_drop,HX.out];omega
   have HZ:=Hi hz
   have bk:=Hi cb
   have am:=Hi hp
   clear hz hm cb hp
   go_enter Tryz.func175,Tryz.ntmps175
   go_wp2_with fail
   have e1:IntKind.i64.wrap ((L:Int)-(a:Int))=(L:Int)-(a:Int):=IntWalk.i64_in _ (by omega)
   go_quiet ((go_at_call 150;exact quiet_eq (must_okB _ _ _ _ (by simp <;> omega))))
   clear e1
   revert nq
   intro na
   go_wp2_with fail
   have e1:IntKind.i64.wrap ((a:Int)+8)=(a:Int)+8:=IntWalk.i64_in _ (by omega)
   go_quiet (fail)
   clear e1
   go_wp2_with fail
   obtain ⟨W,hW⟩:∃ W,W=(w.drewN na).drewN nq:=⟨_,rfl⟩
   rw [← hW]
   have hR:RdAt W g A c l a:=by rw [hW];exact (HR.out.drewN na).drewN nq
   have hT:Touch (At g) w W:=by rw [hW];exact ((Touch.refl (At g) w).drewN na).drewN nq
   have hZ:Reads W Z m:=by rw [hW];exact HZ.out
   obtain ⟨b0,b1,bz⟩:=hR.cells
   have cD:=obj_lt hR.obj
   have c9:=Hi hR
   have bq:=Hi hT
   have bA:=Hi hZ
   clear hW hR hT HR c0 c1 fz hg HZ hZ
   go_loop [3,35] (fun s i=>∃ k:Nat,k≤8∧i=.int .i64 (k:Int)∧s=.int .u64 ((le (m.take k):Nat):Int)) (fun _ i=>8-(intOf i).toNat)
   case atStart=>exact ⟨0,by omega,rfl,rfl⟩
   case round=>
    obtain ⟨k,hk,rfl,rfl⟩:=hrel
    by_cases aB:k<8
    · have b6:k<m.length:=by rw [bk.out];exact aB
      obtain ⟨ad,ch,bf⟩:=bA.out.out k b6
      subst ch
      have bl:le (m.take (k+1))=le (m.take k)+(m[k]'b6).toNat*256 ^ k:=by
       rw [List.take_succ_eq_append_getElem b6,le_snoc,List.length_take,bk.out,Nat.min_eq_left (by omega)]
      have bn:le (m.take k)<256 ^ k:=by
       have:=le_lt (m.take k)
       rwa [List.length_take,bk.out,Nat.min_eq_left (by omega)] at this
      have hx:=(m[k]'b6).toNat_lt
      generalize (m[k]'b6).toNat=x at bf bl hx
      have bH:=roomB aB bn hx
      have cc:=or_addB bn bH
      have cf:=shl_wrapB x k (by omega)
      generalize le (m.take k)=s at bl bn bH cc
      have bT:=Hi bl
      clear bl bn bH b6
      generalize x*256 ^ k=M at cc cf bT
      go_wp2
      go_round
      case rel=>exact ⟨k+1,by omega,by go_num,by rw [bT.out];go_num⟩
      case measure=>simp [intOf];omega
    · have e8:m.take k=m:=List.take_of_length_le (by rw [bk.out];omega)
      rw [e8]
      clear e8
      have bJ:le m<18446744073709551616:=by
       have:=le_lt m
       rw [bk.out] at this
       have h2:(256:Nat) ^ 8=18446744073709551616:=by decide
       omega
      have aG:=realOf_calls (le m)
      have aC:=realBits_calls (fbits (le m))
      rw [fbits_idem] at aC
      have cn:k=8:=by omega
      subst cn
      generalize cv:le m=N at aG aC bJ am ⊢
      have cj:=Hi aG
      have cs:=Hi aC
      clear aG aC cv
      have e1:IntKind.i64.wrap ((a:Int)+8)=(a:Int)+8:=IntWalk.i64_in _ (by omega)
      obtain ⟨W3,aV⟩:∃ W3,W3=W.setCell ⟨g,1,none⟩ (.int .i64 ((a:Int)+8)):=⟨_,rfl⟩
      have cd:RdAt W3 g A c l (a+8):=by rw [aV];exact c9.out.put' (a+8) HL.out _ (by omega)
      have bV:Touch (At g) w W3:=by rw [aV];exact bq.out.set 1 _
      have b2:=Hi cd
      have aW:=Hi bV
      clear cd bV
      go_wp2_with fail
      rw [← aV]
      clear aV
      refine (cj.out W3).mono ?_
      rintro e w1 ⟨rfl,rfl⟩
      go_wp2_with fail
      refine (cs.out W3).mono ?_
      rintro e w1 ⟨rfl,rfl⟩
      by_cases hq:fbits N=N
      · rw [if_pos hq] at am
        have q1:(((fbits N:Nat):Int)==(N:Int))=true:=by rw [hq];simp
        generalize fbits N=B at hq q1
        have HQ:=Hi hq
        clear hq
        go_wp2_with fail
        refine (must_okB _ _ _ _ (by simp <;> omega)).mono ?_
        rintro e w2 ⟨rfl,rfl⟩
        go_wp2
        go_ret
        rw [am.out]
        exact ⟨by rw [← HQ.out];rfl,b2.out,aW.out⟩
      · rw [if_neg hq] at am
        have q1:(((fbits N:Nat):Int)==(N:Int))=false:=by
         rw [beq_eq_false_iff_ne];omega
        generalize fbits N=B at hq q1
        clear hq
        go_wp2_with fail
        refine (must_noB _ _ _ _ (by first | rfl | assumption)).mono ?_
        rintro e w2 ⟨rfl,rfl⟩
        go_wp2
        refine ⟨rfl, ?_⟩
        rw [am.out]
        exact ⟨rfl,aW.out⟩
 · have hp:rFloat l a=.error 30:=by rw [rFloat,if_neg h8]
   rw [hp]
   clear hp hr
   generalize hL:l.length=L at c0 av h8 aX ca
   clear hL
   have e1:IntKind.i64.wrap ((L:Int)-(a:Int))=(L:Int)-(a:Int):=IntWalk.i64_in _ (by omega)
   go_enter Tryz.func175,Tryz.ntmps175
   go_wp2_with fail
   go_region_dies
   all_goals
    refine (must_noB _ _ _ _ (by simp <;> omega)).mono ?_
    rintro e w2 ⟨rfl,rfl⟩
    go_wp2
    exact ⟨rfl,rfl,(Touch.refl (At g) w).drew⟩
end
section
open Go.RowKit
def zig (n:Int):Nat:=if 0≤n then 2*n.toNat else 2*(-(n+1)).toNat+1
def zag (u:Nat):Int:=if u % 2=0 then ((u / 2:Nat):Int) else -((u / 2:Nat):Int)-1
theorem zig_lt {n:Int} (h1:-9223372036854775808≤n) (h2:n≤9223372036854775807):zig n<18446744073709551616:=by unfold zig;split <;> omega
theorem zag_zig (n:Int):zag (zig n)=n:=by unfold zag zig;split <;> split <;> omega
theorem zig_zag (u:Nat):zig (zag u)=u:=by unfold zag zig;split <;> split <;> omega
theorem zag_in {u:Nat} (h:u<18446744073709551616):-9223372036854775808≤zag u∧zag u≤9223372036854775807:=by unfold zag;split <;> omega
theorem xor_zero64 (x:Nat) (h:x<9223372036854775808):bits BinOp.xor IntKind.i64 (x:Int) 0=(x:Int):=by
 have e:(BitVec.ofInt 64 (x:Int) ^^^ BitVec.ofInt 64 0).toNat=x:=by
  simp only [BitVec.ofInt_natCast,BitVec.toNat_xor,BitVec.toNat_ofNat]
  simp
  omega
 show IntKind.i64.wrap ((BitVec.ofInt 64 (x:Int) ^^^ BitVec.ofInt 64 0).toNat:Int)=_
 rw [e,IntWalk.i64_in _ (by omega)]
theorem xor_ones64 (x:Nat) (h:x<9223372036854775808):bits BinOp.xor IntKind.i64 (x:Int) (-1) = -(x:Int)-1:=by
 have e:(BitVec.ofInt 64 (x:Int) ^^^ BitVec.ofInt 64 (-1)).toNat=18446744073709551615-x:=by
  have h1:BitVec.ofInt 64 (-1)=BitVec.allOnes 64:=by decide
  rw [h1,BitVec.xor_allOnes,BitVec.toNat_not]
  simp only [BitVec.ofInt_natCast,BitVec.toNat_ofNat]
  rw [Nat.mod_eq_of_lt (by omega)]
 show IntKind.i64.wrap ((BitVec.ofInt 64 (x:Int) ^^^ BitVec.ofInt 64 (-1)).toNat:Int)=_
 rw [e,IntKind.wrap_i64]
 omega
theorem and_one64 (x:Nat) (h:x<18446744073709551616):bits BinOp.and IntKind.u64 (x:Int) 1=((x % 2:Nat):Int):=by
 have:=u64_and_nat x 1 h (by omega)
 rw [Nat.and_one_is_mod] at this
 exact this
theorem zag_calls (u:Nat) (hu:u<18446744073709551616) (w:World):Calls Tryz.prog 174 #[.int .u64 (u:Int)] w fun e w'=>e=.returned (.int .i64 (zag u))∧w=w':=by
 have ha:=and_one64 u hu
 have hd:(u:Int) / 2=((u / 2:Nat):Int):=by omega
 rcases Nat.mod_two_eq_zero_or_one u with h | h
 · have hz:zag u=((u / 2:Nat):Int):=by unfold zag;rw [if_pos h]
   have hx:=xor_zero64 (u / 2) (by omega)
   rw [h] at ha
   have hq:u / 2<9223372036854775808:=by omega
   have HZ:=Hi hz
   clear hz h
   generalize u / 2=q at hd hx hq HZ
   go_enter Tryz.func174,Tryz.ntmps174
   go_wp2
   go_ret
   exact ⟨by rw [HZ.out];rfl,rfl⟩
 · have hz:zag u = -((u / 2:Nat):Int)-1:=by unfold zag;rw [if_neg (by omega)]
   have hx:=xor_ones64 (u / 2) (by omega)
   rw [h] at ha
   have hq:u / 2<9223372036854775808:=by omega
   have HZ:=Hi hz
   clear hz h
   generalize u / 2=q at hd hx hq HZ
   go_enter Tryz.func174,Tryz.ntmps174
   go_wp2
   go_ret
   exact ⟨by rw [HZ.out];rfl,rfl⟩
end
section
open Go.RowKit
def rMany (f:Nat→Except Int (Va×Nat)):Nat→Nat→List Va→Except Int (List Va×Nat)
 | 0,a,vs=>.ok (vs,a)
 | n+1,a,vs=>
   match f a with
   | .error e=>.error e
   | .ok (v,k)=>rMany f n k (vs++[v])
theorem rMany_error {f:Nat→Except Int (Va×Nat)} {n a:Nat} {vs:List Va} {e:Int} (h:f a=.error e) (hn:0<n):rMany f n a vs=.error e:=by
 cases n with
 | zero=>omega
 | succ n=>rw [rMany,h]
theorem rMany_ok {f:Nat→Except Int (Va×Nat)} {n a k:Nat} {vs:List Va} {v:Va} (h:f a=.ok (v,k)) (hn:0<n):rMany f n a vs=rMany f (n-1) k (vs++[v]):=by
 cases n with
 | zero=>omega
 | succ n=>rw [rMany,h];rfl
def empty:ByteArray:=⟨#[]⟩
def rList (k:Int):Except Int (List Va×Nat)→Except Int (Va×Nat)
 | .error e=>.error e
 | .ok (vs,j)=>.ok (.mk k 0 0 empty vs,j)
def rKinds (k:Int) (f:Nat→Except Int (Va×Nat)) (l:List UInt8) (a:Nat):Except Int (Va×Nat):=
 if k=1 then (match rBit l a with | .error e=>.error e | .ok (x,j)=>.ok (.mk 1 x 0 empty [],j))
 else if k=2 then (match lebGet l a with | .error e=>.error e | .ok (n,j)=>.ok (.mk 2 (zag n) 0 empty [],j))
 else if k=3 then (match rFloat l a with | .error e=>.error e | .ok (x,j)=>.ok (.mk 3 0 x empty [],j))
 else if k=4 then (match rText 1024 2 l a with | .error e=>.error e | .ok (t,j)=>if utfOk (str t) then .ok (.mk 4 0 0 (str t) [],j) else .error 61)
 else if k=5 then (match rText 1024 2 l a with | .error e=>.error e | .ok (t,j)=>.ok (.mk 5 0 0 (str t) [],j))
 else if k=6 then (match rBit l a with | .error e=>.error e | .ok (x,j)=>rList 6 (rMany f x j []))
 else if k=7 then (match lebGet l a with | .error e=>.error e | .ok (n,j)=>if n≤256 then rList 7 (rMany f n j []) else .error 3)
 else .ok (.mk k 0 0 empty [],a)
mutual
def rValue:Ty→List UInt8→Nat→Except Int (Va×Nat)
 | .mk k ts,l,a=>rKinds k (rHead ts l) l a
def rHead:List Ty→List UInt8→Nat→Except Int (Va×Nat)
 | [],_,_=>.error 0
 | t :: _,l,a=>rValue t l a
end
mutual
def Ty.good:Ty→Bool
 | .mk k ts=>(decide (k=6∨k=7)==decide (ts.length=1))&&decide (ts.length≤1)&&Ty.goods ts
def Ty.goods:List Ty→Bool
 | []=>true
 | t :: ts=>Ty.good t&&Ty.goods ts
end
theorem rBit_lt {l:List UInt8} {a x k:Nat} (h:rBit l a=.ok (x,k)):x<2:=by
 unfold rBit at h
 split at h
 · cases h
 · split at h
   · injection h with h;injection h with h1 h2;omega
   · cases h
theorem rBit_err {l:List UInt8} {a:Nat} {e:Int} (h:rBit l a=.error e):e=30∨e=5:=by
 unfold rBit at h
 split at h
 · rename_i e1 hb
   unfold rByte at hb
   split at hb
   · cases hb
   · injection hb with hb;injection h with h;omega
 · split at h
   · cases h
   · injection h with h;omega
end
section
open Go.RowKit Go.BigFrame
def ValPost (w:World) (g:Nat) (A:Option Addr) (c:Nat) (l:List UInt8) (r:Except Int (Va×Nat)) (e:Ending) (w':World):Prop:=
 match r with
 | .error er=>e=raised er∧Touch (At g) w w'
 | .ok (t,k)=>∃ v,e=.returned v∧VaS w' (fun b=>w.heap.size≤b) v t∧RdAt w' g A c l k∧Touch (At g) w w'
abbrev valW (w:World) (k:Int) (s:Value):World:=
 ((w.alloc (.cells #[.int .i64 k,s] 97)).alloc (.cells #[.int .i64 0,.int .i64 0,.float .f64 0,.string ⟨#[]⟩,.slice none 0 0] 101)).alloc (.cells #[.int .i64 k,.int .i64 0,.float .f64 0,.string ⟨#[]⟩,.slice none 0 0] 101)
theorem run_storeF (P:Program) (w:World) (a:Addr) (m:Mode) (k:FloatKind) (x:Nat):(store a (.float k x) m).run P w=stored P w a (.float k x) m:=run_store P w a _ m rfl
attribute [local go_sem] run_storeF
theorem cells5 {w:World} {g:Nat} {a b c d e:Value} {t:TypeId} (h:w.heap[g]? = some (.cells #[a,b,c,d,e] t (0,0))) :
 w.cell? ⟨g,0,none⟩=some a∧w.cell? ⟨g,1,none⟩=some b∧w.cell? ⟨g,2,none⟩=some c∧w.cell? ⟨g,3,none⟩=some d∧w.cell? ⟨g,4,none⟩=some e ∧
 w.frozen? ⟨g,0,none⟩=false∧w.frozen? ⟨g,1,none⟩=false∧w.frozen? ⟨g,2,none⟩=false∧w.frozen? ⟨g,3,none⟩=false∧w.frozen? ⟨g,4,none⟩=false:=
 ⟨by rw [obj_cell h];rfl,by rw [obj_cell h];rfl,by rw [obj_cell h];rfl,by rw [obj_cell h];rfl,by rw [obj_cell h];rfl,obj_frozen h 0,obj_frozen h 1,obj_frozen h 2,obj_frozen h 3,obj_frozen h 4⟩
theorem valW_t (w:World) (k:Int) (s:Value):(valW w k s).heap[w.heap.size]? = some (.cells #[.int .i64 k,s] 97):=obj_old (obj_old (obj_new w _) _) _
theorem valW_r (w:World) (k:Int) (s:Value):(valW w k s).heap[w.heap.size+1]? = some (.cells #[.int .i64 0,.int .i64 0,.float .f64 0,.string ⟨#[]⟩,.slice none 0 0] 101):=obj_old (obj_new_at _ _ _ (by simp)) _
theorem valW_v (w:World) (k:Int) (s:Value):(valW w k s).heap[w.heap.size+1+1]? = some (.cells #[.int .i64 k,.int .i64 0,.float .f64 0,.string ⟨#[]⟩,.slice none 0 0] 101):=obj_new_at _ _ _ (by simp)
theorem valW_keeps (w:World) (k:Int) (s:Value):Keeps w (valW w k s):=(((Keeps.refl w).alloc _).alloc _).alloc _
def Own3 (w:World):Nat→Prop:=fun k=>k=w.heap.size∨k=w.heap.size+1∨k=w.heap.size+1+1
theorem Own3.low {w:World}:∀ k,Own3 w k→w.heap.size≤k:=fun k h=>by unfold Own3 at h;omega
theorem valEnd {w w0 w1 w':World} {g:Nat} {A:Option Addr} {c:Nat} {l:List UInt8} {a j:Nat} (k i:Int) (f:Nat) (t:ByteArray) (hr:RdAt w g A c l a) (h0:Touch (At g) w w0) (h1:RdAt w1 g A c l j) (h2:Touch (At g) w0 w1) (h3:Touch (Own3 w) w1 w') :
 ValPost w g A c l (.ok (.mk k i f t [],j)) (.returned (.agg #[.int .i64 k,.int .i64 i,.float .f64 f,.string t,.slice none 0 0])) w':=
 ⟨_,rfl,VaS.leaf _ _ _ _ _ _ _ _,hr.newer h1 h3 Own3.low,(h0.then h2).trans h3 (fun k hk h=>by have:=Own3.low k h;omega)⟩
theorem value_one (A1:Option Addr) (c1:Nat) (n1:Nat) (g:Nat) (A:Option Addr) (c:Nat) (l:List UInt8) (a:Nat) (w:World) (hr:RdAt w g A c l a) (f:Nat→Except Int (Va×Nat)) :
 Calls Tryz.prog 155 #[.pointer (some ⟨g,0,none⟩),.agg #[.int .i64 1,.slice A1 n1 c1]] w (ValPost w g A c l (rKinds 1 f l a)):=by
 have hp:rKinds 1 f l a=(match rBit l a with | .error e=>.error e | .ok (x,j)=>.ok (.mk 1 x 0 empty [],j)):=rfl
 have hg:=obj_lt hr.obj
 have aa:RdAt (valW w 1 (.slice A1 n1 c1)) g A c l a:=hr.below (valW_keeps w _ _).below
 have ai:Touch (At g) w (valW w 1 (.slice A1 n1 c1)):=Touch.of_below (valW_keeps w _ _).below fun k hk h=>by omega
 have an:=Hi hr
 have al:=Hi ai
 clear hr ai
 cases hb:rBit l a with
 | error er=>
   rw [hb] at hp
   rw [hp]
   have HC:=Hi (bit_no g A c l a er _ aa hb)
   clear hp hb aa
   go_enter Tryz.func155,Tryz.ntmps155
   go_wp2_with fail
   refine HC.out.mono ?_
   rintro e w1 ⟨rfl,ht⟩
   have HT:=Hi ht
   clear ht HC
   go_wp2
   exact ⟨rfl,rfl,al.out.then HT.out⟩
 | ok r=>
   obtain ⟨x,j⟩:=r
   rw [hb] at hp
   rw [hp]
   have HC:=Hi (bit_ok g A c l a x j _ aa hb)
   have hx:=rBit_lt hb
   clear hp hb aa
   go_enter Tryz.func155,Tryz.ntmps155
   go_wp2_with fail
   refine HC.out.mono ?_
   rintro e w1 ⟨rfl,af,ht⟩
   have ag:=ht.obj (valW_t w 1 (.slice A1 n1 c1)) (by show w.heap.size≠g;omega)
   have ah:=ht.obj (valW_r w 1 (.slice A1 n1 c1)) (by show w.heap.size+1≠g;omega)
   have ab:=ht.obj (valW_v w 1 (.slice A1 n1 c1)) (by show w.heap.size+1+1≠g;omega)
   obtain ⟨t0,t1,_,_⟩:=cells2 ag
   obtain ⟨d0,d1,d2,d3,d4,z0,z1,z2,z3,z4⟩:=cells5 ah
   obtain ⟨e0,e1,e2,e3,e4,y0,y1,y2,y3,y4⟩:=cells5 ab
   have u3:=obj_lt ab
   have b4:=Hi ah
   have aR:=Hi ab
   have az:=Hi af
   have HT:=Hi ht
   clear ht af ag ah ab
   clear HC
   go_wp2_with fail
   refine wp_loop_rounds 1 ?_
   rw [rounds_succ]
   go_wp2
   refine bodyPost_ret (v:=.agg #[.int .i64 1,.int .i64 (x:Int),.float .f64 0,.string ⟨#[]⟩,.slice none 0 0]) (by simp [results,Tryz.results155,go_sem,u3,d0,d1,d2,d3,d4,e0,e1,e2,e3,e4]) rfl ?_
   exact valEnd 1 (x:Int) 0 ⟨#[]⟩ an.out al.out az.out HT.out (((((((Touch.refl (Own3 w) w1).setCell _ _ fun _=>.inr (.inr rfl)).setCell _ _ fun _=>.inr (.inl rfl)).setCell _ _ fun _=>.inr (.inl rfl)).setCell _ _ fun _=>.inr (.inl rfl)).setCell _ _ fun _=>.inr (.inl rfl)).setCell _ _ fun _=>.inr (.inl rfl))
theorem value_two (A1:Option Addr) (c1:Nat) (n1:Nat) (g:Nat) (A:Option Addr) (c:Nat) (l:List UInt8) (a:Nat) (w:World) (hr:RdAt w g A c l a) (f:Nat→Except Int (Va×Nat)) :
 Calls Tryz.prog 155 #[.pointer (some ⟨g,0,none⟩),.agg #[.int .i64 2,.slice A1 n1 c1]] w (ValPost w g A c l (rKinds 2 f l a)):=by
 have hp:rKinds 2 f l a=(match lebGet l a with | .error e=>.error e | .ok (n,j)=>.ok (.mk 2 (zag n) 0 empty [],j)):=rfl
 have hg:=obj_lt hr.obj
 have aa:RdAt (valW w 2 (.slice A1 n1 c1)) g A c l a:=hr.below (valW_keeps w _ _).below
 have ai:Touch (At g) w (valW w 2 (.slice A1 n1 c1)):=Touch.of_below (valW_keeps w _ _).below fun k hk h=>by omega
 have an:=Hi hr
 have al:=Hi ai
 clear hr ai
 cases hb:lebGet l a with
 | error er=>
   rw [hb] at hp
   rw [hp]
   have HC:=Hi (number_no g A c l a er _ aa hb (lebGet_err hb))
   clear hp hb aa
   go_enter Tryz.func155,Tryz.ntmps155
   go_wp2_with fail
   refine HC.out.mono ?_
   rintro e w1 ⟨rfl,ht⟩
   have HT:=Hi ht
   clear ht HC
   go_wp2
   exact ⟨rfl,rfl,al.out.then HT.out⟩
 | ok r=>
   obtain ⟨x,j⟩:=r
   rw [hb] at hp
   rw [hp]
   have HC:=Hi (number_ok g A c l a x j _ aa hb)
   have hz:=zag_calls x (lebGet_num hb)
   have HZ:=Hi hz
   clear hz
   clear hp hb aa
   go_enter Tryz.func155,Tryz.ntmps155
   go_wp2_with fail
   refine HC.out.mono ?_
   rintro e w1 ⟨rfl,af,ht⟩
   have ag:=ht.obj (valW_t w 2 (.slice A1 n1 c1)) (by show w.heap.size≠g;omega)
   have ah:=ht.obj (valW_r w 2 (.slice A1 n1 c1)) (by show w.heap.size+1≠g;omega)
   have ab:=ht.obj (valW_v w 2 (.slice A1 n1 c1)) (by show w.heap.size+1+1≠g;omega)
   obtain ⟨t0,t1,_,_⟩:=cells2 ag
   obtain ⟨d0,d1,d2,d3,d4,z0,z1,z2,z3,z4⟩:=cells5 ah
   obtain ⟨e0,e1,e2,e3,e4,y0,y1,y2,y3,y4⟩:=cells5 ab
   have u3:=obj_lt ab
   have b4:=Hi ah
   have aR:=Hi ab
   have az:=Hi af
   have HT:=Hi ht
   clear ht af ag ah ab
   clear HC
   go_wp2_with fail
   refine (HZ.out w1).mono ?_
   rintro e w2 ⟨rfl,rfl⟩
   clear HZ
   go_wp2_with fail
   refine wp_loop_rounds 1 ?_
   rw [rounds_succ]
   go_wp2
   refine bodyPost_ret (v:=.agg #[.int .i64 2,.int .i64 (zag x),.float .f64 0,.string ⟨#[]⟩,.slice none 0 0]) (by simp [results,Tryz.results155,go_sem,u3,d0,d1,d2,d3,d4,e0,e1,e2,e3,e4]) rfl ?_
   exact valEnd 2 (zag x) 0 ⟨#[]⟩ an.out al.out az.out HT.out (((((((Touch.refl (Own3 w) w1).setCell _ _ fun _=>.inr (.inr rfl)).setCell _ _ fun _=>.inr (.inl rfl)).setCell _ _ fun _=>.inr (.inl rfl)).setCell _ _ fun _=>.inr (.inl rfl)).setCell _ _ fun _=>.inr (.inl rfl)).setCell _ _ fun _=>.inr (.inl rfl))
theorem value_three (A1:Option Addr) (c1:Nat) (n1:Nat) (g:Nat) (A:Option Addr) (c:Nat) (l:List UInt8) (a:Nat) (w:World) (hr:RdAt w g A c l a) (f:Nat→Except Int (Va×Nat)) :
 Calls Tryz.prog 155 #[.pointer (some ⟨g,0,none⟩),.agg #[.int .i64 3,.slice A1 n1 c1]] w (ValPost w g A c l (rKinds 3 f l a)):=by
 have hp:rKinds 3 f l a=(match rFloat l a with | .error e=>.error e | .ok (x,j)=>.ok (.mk 3 0 x empty [],j)):=rfl
 have hg:=obj_lt hr.obj
 have aa:RdAt (valW w 3 (.slice A1 n1 c1)) g A c l a:=hr.below (valW_keeps w _ _).below
 have ai:Touch (At g) w (valW w 3 (.slice A1 n1 c1)):=Touch.of_below (valW_keeps w _ _).below fun k hk h=>by omega
 have an:=Hi hr
 have al:=Hi ai
 clear hr ai
 have hc:=float_calls g A c l a _ aa
 cases hb:rFloat l a with
 | error er=>
   rw [hb] at hp hc
   rw [hp]
   have HC:=Hi hc
   clear hp hb aa hc
   go_enter Tryz.func155,Tryz.ntmps155
   go_wp2_with fail
   refine HC.out.mono ?_
   rintro e w1 ⟨rfl,ht⟩
   have HT:=Hi ht
   clear ht HC
   go_wp2
   exact ⟨rfl,rfl,al.out.then HT.out⟩
 | ok r=>
   obtain ⟨x,j⟩:=r
   rw [hb] at hp hc
   rw [hp]
   have HC:=Hi hc
   clear hp hb aa hc
   go_enter Tryz.func155,Tryz.ntmps155
   go_wp2_with fail
   refine HC.out.mono ?_
   rintro e w1 ⟨rfl,af,ht⟩
   have ag:=ht.obj (valW_t w 3 (.slice A1 n1 c1)) (by show w.heap.size≠g;omega)
   have ah:=ht.obj (valW_r w 3 (.slice A1 n1 c1)) (by show w.heap.size+1≠g;omega)
   have ab:=ht.obj (valW_v w 3 (.slice A1 n1 c1)) (by show w.heap.size+1+1≠g;omega)
   obtain ⟨t0,t1,_,_⟩:=cells2 ag
   obtain ⟨d0,d1,d2,d3,d4,z0,z1,z2,z3,z4⟩:=cells5 ah
   obtain ⟨e0,e1,e2,e3,e4,y0,y1,y2,y3,y4⟩:=cells5 ab
   have u3:=obj_lt ab
   have b4:=Hi ah
   have aR:=Hi ab
   have az:=Hi af
   have HT:=Hi ht
   clear ht af ag ah ab
   clear HC
   go_wp2_with fail
   refine wp_loop_rounds 1 ?_
   rw [rounds_succ]
   go_wp2
   refine bodyPost_ret (v:=.agg #[.int .i64 3,.int .i64 0,.float .f64 x,.string ⟨#[]⟩,.slice none 0 0]) (by simp [results,Tryz.results155,go_sem,u3,d0,d1,d2,d3,d4,e0,e1,e2,e3,e4]) rfl ?_
   exact valEnd 3 0 x ⟨#[]⟩ an.out al.out az.out HT.out (((((((Touch.refl (Own3 w) w1).setCell _ _ fun _=>.inr (.inr rfl)).setCell _ _ fun _=>.inr (.inl rfl)).setCell _ _ fun _=>.inr (.inl rfl)).setCell _ _ fun _=>.inr (.inl rfl)).setCell _ _ fun _=>.inr (.inl rfl)).setCell _ _ fun _=>.inr (.inl rfl))
theorem value_five (A1:Option Addr) (c1:Nat) (n1:Nat) (g:Nat) (A:Option Addr) (c:Nat) (l:List UInt8) (a:Nat) (w:World) (hr:RdAt w g A c l a) (f:Nat→Except Int (Va×Nat)) :
 Calls Tryz.prog 155 #[.pointer (some ⟨g,0,none⟩),.agg #[.int .i64 5,.slice A1 n1 c1]] w (ValPost w g A c l (rKinds 5 f l a)):=by
 have hp:rKinds 5 f l a=(match rText 1024 2 l a with | .error e=>.error e | .ok (t,j)=>.ok (.mk 5 0 0 (str t) [],j)):=rfl
 have hg:=obj_lt hr.obj
 have aa:RdAt (valW w 5 (.slice A1 n1 c1)) g A c l a:=hr.below (valW_keeps w _ _).below
 have ai:Touch (At g) w (valW w 5 (.slice A1 n1 c1)):=Touch.of_below (valW_keeps w _ _).below fun k hk h=>by omega
 have an:=Hi hr
 have al:=Hi ai
 clear hr ai
 cases hb:rText 1024 2 l a with
 | error er=>
   rw [hb] at hp
   rw [hp]
   have HC:=Hi (text_no g A c l a er 1024 2 _ (by omega) aa hb)
   clear hp hb aa
   go_enter Tryz.func155,Tryz.ntmps155
   go_wp2_with fail
   refine HC.out.mono ?_
   rintro e w1 ⟨rfl,ht⟩
   have HT:=Hi ht
   clear ht HC
   go_wp2
   exact ⟨rfl,rfl,al.out.then HT.out⟩
 | ok r=>
   obtain ⟨x,j⟩:=r
   rw [hb] at hp
   rw [hp]
   have HC:=Hi (text_ok g A c l x a j 1024 2 _ (by omega) aa hb)
   clear hp hb aa
   go_enter Tryz.func155,Tryz.ntmps155
   go_wp2_with fail
   refine HC.out.mono ?_
   rintro e w1 ⟨rfl,af,ht⟩
   have ag:=ht.obj (valW_t w 5 (.slice A1 n1 c1)) (by show w.heap.size≠g;omega)
   have ah:=ht.obj (valW_r w 5 (.slice A1 n1 c1)) (by show w.heap.size+1≠g;omega)
   have ab:=ht.obj (valW_v w 5 (.slice A1 n1 c1)) (by show w.heap.size+1+1≠g;omega)
   obtain ⟨t0,t1,_,_⟩:=cells2 ag
   obtain ⟨d0,d1,d2,d3,d4,z0,z1,z2,z3,z4⟩:=cells5 ah
   obtain ⟨e0,e1,e2,e3,e4,y0,y1,y2,y3,y4⟩:=cells5 ab
   have u3:=obj_lt ab
   have b4:=Hi ah
   have aR:=Hi ab
   have az:=Hi af
   have HT:=Hi ht
   clear ht af ag ah ab
   clear HC
   go_wp2_with fail
   refine (must_okB _ _ _ _ (by simp <;> omega)).mono ?_
   rintro e w2 ⟨rfl,rfl⟩
   go_wp2_with fail
   refine wp_loop_rounds 1 ?_
   rw [rounds_succ]
   go_wp2
   refine bodyPost_ret (v:=.agg #[.int .i64 5,.int .i64 0,.float .f64 0,.string (str x),.slice none 0 0]) (by simp [results,Tryz.results155,go_sem,u3,d0,d1,d2,d3,d4,e0,e1,e2,e3,e4]) rfl ?_
   exact valEnd 5 0 0 (str x) an.out al.out az.out HT.out (((((((Touch.refl (Own3 w) w1).setCell _ _ fun _=>.inr (.inr rfl)).setCell _ _ fun _=>.inr (.inl rfl)).setCell _ _ fun _=>.inr (.inl rfl)).setCell _ _ fun _=>.inr (.inl rfl)).setCell _ _ fun _=>.inr (.inl rfl)).setCell _ _ fun _=>.inr (.inl rfl))
theorem value_four (A1:Option Addr) (c1:Nat) (n1:Nat) (g:Nat) (A:Option Addr) (c:Nat) (l:List UInt8) (a:Nat) (w:World) (hr:RdAt w g A c l a) (bs:Tabs w) (aK:g≠3) (aM:g≠4) (f:Nat→Except Int (Va×Nat)) :
 Calls Tryz.prog 155 #[.pointer (some ⟨g,0,none⟩),.agg #[.int .i64 4,.slice A1 n1 c1]] w (ValPost w g A c l (rKinds 4 f l a)):=by
 have hp:rKinds 4 f l a=(match rText 1024 2 l a with | .error e=>.error e | .ok (t,j)=>if utfOk (str t) then .ok (.mk 4 0 0 (str t) [],j) else .error 61):=rfl
 have hg:=obj_lt hr.obj
 have aa:RdAt (valW w 4 (.slice A1 n1 c1)) g A c l a:=hr.below (valW_keeps w _ _).below
 have ai:Touch (At g) w (valW w 4 (.slice A1 n1 c1)):=Touch.of_below (valW_keeps w _ _).below fun k hk h=>by omega
 have an:=Hi hr
 have al:=Hi ai
 clear hr ai
 have bc:Tabs (valW w 4 (.slice A1 n1 c1)):=bs.below (valW_keeps w _ _).below
 have cl:=bs.lt
 have bg:=Hi bc
 clear bs bc
 cases hb:rText 1024 2 l a with
 | error er=>
   rw [hb] at hp
   rw [hp]
   have HC:=Hi (text_no g A c l a er 1024 2 _ (by omega) aa hb)
   clear hp hb aa
   go_enter Tryz.func155,Tryz.ntmps155
   go_wp2_with fail
   refine HC.out.mono ?_
   rintro e w1 ⟨rfl,ht⟩
   have HT:=Hi ht
   clear ht HC
   go_wp2
   exact ⟨rfl,rfl,al.out.then HT.out⟩
 | ok r=>
   obtain ⟨x,j⟩:=r
   have cM:=(rText_le aa.within hb).2
   rw [hb] at hp
   generalize aP:rKinds 4 f l a=R at hp ⊢
   have am:=Hi hp
   have HC:=Hi (text_ok g A c l x a j 1024 2 _ (by omega) aa hb)
   clear hp hb aa aP
   go_enter Tryz.func155,Tryz.ntmps155
   go_wp2_with fail
   refine HC.out.mono ?_
   rintro e w1 ⟨rfl,af,ht⟩
   have bd:Tabs w1:=bg.out.touch ht (fun h=>aK h.symm) (fun h=>aM h.symm)
   have ag:=ht.obj (valW_t w 4 (.slice A1 n1 c1)) (by show w.heap.size≠g;omega)
   have ah:=ht.obj (valW_r w 4 (.slice A1 n1 c1)) (by show w.heap.size+1≠g;omega)
   have ab:=ht.obj (valW_v w 4 (.slice A1 n1 c1)) (by show w.heap.size+1+1≠g;omega)
   obtain ⟨t0,t1,_,_⟩:=cells2 ag
   obtain ⟨d0,d1,d2,d3,d4,z0,z1,z2,z3,z4⟩:=cells5 ah
   obtain ⟨e0,e1,e2,e3,e4,y0,y1,y2,y3,y4⟩:=cells5 ab
   have u3:=obj_lt ab
   have b4:=Hi ah
   have aR:=Hi ab
   have az:=Hi af
   have HT:=Hi ht
   clear ht af ag ah ab
   have bQ:=Hi bd
   clear HC bd
   obtain ⟨W2,ao⟩:∃ W2,W2=w1.setCell ⟨w.heap.size+1+1,3,none⟩ (.string (str x)):=⟨_,rfl⟩
   have be:Tabs W2:=by rw [ao];exact bQ.out.touch ((Touch.refl (At (w.heap.size+1+1)) w1).set 3 _) (fun h=>by rw [At] at h;omega) (fun h=>by rw [At] at h;omega)
   have bW:=utf_calls (str x) W2 be (by show x.toArray.size≤_;simp;omega)
   have bp:=Hi bW
   clear bW be
   cases hu:utfOk (str x) with
   | true=>
     rw [hu] at bp am
     clear hu
     go_wp2_with fail
     rw [← ao]
     refine bp.out.mono ?_
     rintro e w3 ⟨rfl,aD⟩
     have aI:Touch (Own3 w) w1 W2:=by rw [ao];exact (Touch.refl (Own3 w) w1).setCell _ _ fun _=>.inr (.inr rfl)
     have b9:W2.heap[w.heap.size+1+1]? = some (.cells #[.int .i64 4,.int .i64 0,.float .f64 0,.string (str x),.slice none 0 0] 101):=by rw [ao];exact obj_set aR.out 3 _
     have aY:W2.heap[w.heap.size+1]? = some (.cells #[.int .i64 0,.int .i64 0,.float .f64 0,.string ⟨#[]⟩,.slice none 0 0] 101):=by rw [ao];exact obj_far b4.out (by show w.heap.size+1≠w.heap.size+1+1;omega) _
     have au:=(Keeps.below aD).block _ (obj_lt b9)
     have aA:=(Keeps.below aD).block _ (obj_lt aY)
     rw [b9] at au
     rw [aY] at aA
     have bw:=Hi (aI.below aD)
     clear d0 d1 d2 d3 d4 z0 z1 z2 z3 z4 e0 e1 e2 e3 e4 y0 y1 y2 y3 y4 t0 t1 u3 aI b9 aY ao aD
     obtain ⟨d0,d1,d2,d3,d4,z0,z1,z2,z3,z4⟩:=cells5 aA
     obtain ⟨e0,e1,e2,e3,e4,y0,y1,y2,y3,y4⟩:=cells5 au
     have u3:=obj_lt au
     clear au aA
     go_wp2_with fail
     refine (must_okB _ _ _ _ (by simp <;> omega)).mono ?_
     rintro e w4 ⟨rfl,rfl⟩
     go_wp2_with fail
     refine wp_loop_rounds 1 ?_
     rw [rounds_succ]
     go_wp2
     refine bodyPost_ret (v:=.agg #[.int .i64 4,.int .i64 0,.float .f64 0,.string (str x),.slice none 0 0]) (by simp [results,Tryz.results155,go_sem,u3,d0,d1,d2,d3,d4,e0,e1,e2,e3,e4]) rfl ?_
     rw [am.out]
     exact valEnd 4 0 0 (str x) an.out al.out az.out HT.out ((((((bw.out.setCell _ _ fun _=>.inr (.inl rfl)).setCell _ _ fun _=>.inr (.inl rfl)).setCell _ _ fun _=>.inr (.inl rfl)).setCell _ _ fun _=>.inr (.inl rfl)).setCell _ _ fun _=>.inr (.inl rfl)))
   | false=>
     rw [hu] at bp am
     have aI:Touch (Own3 w) w1 W2:=by rw [ao];exact (Touch.refl (Own3 w) w1).setCell _ _ fun _=>.inr (.inr rfl)
     have HW:=Hi aI
     clear hu aI
     go_wp2_with fail
     rw [← ao]
     clear ao
     refine bp.out.mono ?_
     rintro e w3 ⟨rfl,aD⟩
     go_wp2_with fail
     refine (must_noB _ _ _ _ (by simp <;> omega)).mono ?_
     rintro e w4 ⟨rfl,rfl⟩
     go_wp2
     refine ⟨rfl, ?_⟩
     rw [am.out]
     exact ⟨rfl,(al.out.then HT.out).trans (HW.out.below aD) (fun k hk h=>by have:=Own3.low k h;omega)⟩
end
section
open Go.RowKit Go.BigFrame
attribute [local go_sem] run_storeF
theorem info_value:(Tryz.prog.info? 101).map (fun i=>(i.zero,i.size,i.bytes))=some (some (.agg #[.int .i64 0,.int .i64 0,.float .f64 0,.string ⟨#[]⟩,.slice none 0 0]),5,64):=by kernel_rfl
theorem TyS.elem {w:World} {S:Nat→Prop} {k:Int} {A:Option Addr} {c:Nat} {t:Ty} (h:TyS w S (.agg #[.int .i64 k,.slice A 1 c]) (.mk k [t])) :
 ∃ ad k' s',A=some ad∧S ad.block∧w.cell? ad=some (.int .i64 k')∧w.cell? ⟨ad.block,ad.off+1,none⟩=some s'∧TyS w S (.agg #[.int .i64 k',s']) t:=by
 generalize hv:Value.agg #[.int .i64 k,.slice A 1 c]=v at h
 generalize ht:Ty.mk k [t]=t' at h
 cases h with
 | mk k2 A2 c2 l vs hn h0 h1=>
   simp only [Value.agg.injEq,Array.mk.injEq,List.cons.injEq,Value.slice.injEq] at hv
   obtain ⟨_,⟨e2,_,_⟩,_⟩:=hv
   subst e2
   injection ht with e3 e4
   subst e4
   obtain ⟨ad,k',s',e,hs,c1,c2,cy⟩:=h0 0 (by simp)
   refine ⟨ad,k',s',e,hs,by simpa [addr_add_zero] using c1,by rw [← addr_add_pos _ 1 (by omega)];simpa using c2, ?_⟩
   rw [← cy]
   exact h1 0 (by simp)
def ReadV (n:Nat):Prop:=∀ (t:Ty) (v:Value) (g:Nat) (A:Option Addr) (c:Nat) (l:List UInt8) (a:Nat) (w:World),SizeOf.sizeOf t<n→t.good=true→TyS w (fun k=>k≠g) v t→RdAt w g A c l a→Tabs w→g≠3→g≠4 →
    Calls Tryz.prog 155 #[.pointer (some ⟨g,0,none⟩),v] w (ValPost w g A c l (rValue t l a))
structure ManyRel (w:World) (g:Nat) (A:Option Addr) (c:Nat) (l:List UInt8) (k:Int) (s:Value) (f:Nat→Except Int (Va×Nat)) (many:Nat) (R:Except Int (List Va×Nat)) (j:Nat) (Ar:Option Addr) (cr:Nat) (wr:World) (a:Nat) (vs:List Va) (xs:List Value):Prop where
 le:j≤many
 len:vs.length=j
 res:R=rMany f (many-j) a vs
 own:Loose wr (w.heap.size+3) 101 5 (.slice Ar j cr) j xs
 items:Items wr (fun b=>w.heap.size+3≤b∧blk (.slice Ar j cr)≠some b) xs vs
 rd:RdAt wr g A c l a
 bt:wr.heap[w.heap.size]? = some (.cells #[.int .i64 k,s] 97)
 br:wr.heap[w.heap.size+1]? = some (.cells #[.int .i64 0,.int .i64 0,.float .f64 0,.string ⟨#[]⟩,.slice none 0 0] 101)
 bv:wr.heap[w.heap.size+1+1]? = some (.cells #[.int .i64 k,.int .i64 0,.float .f64 0,.string ⟨#[]⟩,.slice Ar j cr] 101)
 touch:Touch (At g) w wr
theorem ManyRel.step {w:World} {g:Nat} {A:Option Addr} {c:Nat} {l:List UInt8} {k:Int} {s:Value} {f:Nat→Except Int (Va×Nat)} {many:Nat} {R:Except Int (List Va×Nat)} {j:Nat} {Ar:Option Addr} {cr:Nat} {wr:World} {a:Nat} {vs:List Va} {xs:List Value}
 (h:ManyRel w g A c l k s f many R j Ar cr wr a vs xs) {a0:Nat} (bB:RdAt w g A c l a0) (aB:j<many) (hg:g<w.heap.size) {y:Va} {k2:Nat} (hq:R=rMany f (many-j-1) k2 (vs++[y]))
 {w3:World} {A3:Option Addr} {c3:Nat} (au:VaS w3 (fun b=>wr.drew.heap.size≤b) (.agg #[.int .i64 y.kind,.int .i64 y.int,.float .f64 y.fl,.string y.text,.slice A3 y.items.length c3]) y)
 (aA:RdAt w3 g A c l k2) (ak:Touch (At g) wr.drew w3) {w4:World} {A4:Option Addr} {c4:Nat}
 (aO:Loose w4 (w.heap.size+3) 101 5 (.slice A4 (j+1) c4) (j+1) (xs++[.int .i64 y.kind,.int .i64 y.int,.float .f64 y.fl,.string y.text,.slice A3 y.items.length c3]))
 (aN:(w3.alloc (.cells #[.int .i64 y.kind,.int .i64 y.int,.float .f64 y.fl,.string y.text,.slice A3 y.items.length c3] 101)).grownBy w4 (blk (.slice Ar j cr)))
 (bS:blk (.slice A4 (j+1) c4)=blk (.slice Ar j cr)∨blk (.slice A4 (j+1) c4)=some (w3.alloc (.cells #[.int .i64 y.kind,.int .i64 y.int,.float .f64 y.fl,.string y.text,.slice A3 y.items.length c3] 101)).heap.size)
 (aL:w4.heap[w.heap.size+1+1]? = some (.cells #[.int .i64 k,.int .i64 0,.float .f64 0,.string ⟨#[]⟩,.slice Ar j cr] 101)) :
 ManyRel w g A c l k s f many R (j+1) A4 c4 (w4.setCell ⟨w.heap.size+1+1,4,none⟩ (.slice A4 (j+1) c4)) k2 (vs++[y]) (xs++[.int .i64 y.kind,.int .i64 y.int,.float .f64 y.fl,.string y.text,.slice A3 y.items.length c3]):=by
 have aQ:=h.own.lt
 have cB:=obj_lt h.bv
 have cx:wr.heap.size≤w3.heap.size:=ak.size
 obtain ⟨W3,aV⟩:∃ W3,W3=w3.alloc (.cells #[.int .i64 y.kind,.int .i64 y.int,.float .f64 y.fl,.string y.text,.slice A3 y.items.length c3] 101):=⟨_,rfl⟩
 rw [← aV] at aN bS
 have aD:Keeps w3 W3:=by rw [aV];exact (Keeps.refl w3).alloc _
 have cK:W3.heap.size=w3.heap.size+1:=by rw [aV];simp
 have aE:Touch (At g) wr w3:=(Touch.refl (At g) wr).drew.then ak
 have bP:=aO.lt
 have ba:Touch (fun b=>blk (.slice Ar j cr)=some b∨b=w.heap.size+1+1) W3 (w4.setCell ⟨w.heap.size+1+1,4,none⟩ (.slice A4 (j+1) c4)):=
  (Touch.of_grown aN fun b e=>.inl e).setCell _ _ fun _=>.inr rfl
 have aT:∀ b,(blk (.slice Ar j cr)=some b∨b=w.heap.size+1+1)→w.heap.size+1+1≤b:=fun b hb=>by
  rcases hb with hb | hb
  · have:=(aQ b hb).1;omega
  · omega
 have bR:Touch (At g) w (w4.setCell ⟨w.heap.size+1+1,4,none⟩ (.slice A4 (j+1) c4)):=
  ((h.touch.then aE).below aD).trans ba fun b hb h=>by have:=aT b h;omega
 have cz:blk (.slice A4 (j+1) c4)≠some (w.heap.size+1+1):=fun e=>by have:=(bP _ e).1;omega
 refine ⟨by omega,by simp [h.len],by rw [hq];congr 1, ?_, ?_, ?_, ?_, ?_, ?_,bR⟩
 · exact aO.far cz _
 · have cA:Items W3 (fun b=>w.heap.size+3≤b∧blk (.slice Ar j cr)≠some b) xs vs:=(h.items.touch aE (fun b hb e=>by rw [At] at e;omega)).below aD
   have co:VaS W3 (fun b=>w.heap.size+3≤b∧blk (.slice Ar j cr)≠some b) (.agg #[.int .i64 y.kind,.int .i64 y.int,.float .f64 y.fl,.string y.text,.slice A3 y.items.length c3]) y:=
    (au.later aD).mono fun b _ hb=>by
      have cP:wr.heap.size≤b:=hb
      exact ⟨by omega,fun e=>by have:=(aQ b e).2;omega⟩
   have bb:=cA.snoc co
   have hm:Items W3 (fun b=>w.heap.size+3≤b∧blk (.slice Ar j cr)≠some b∧blk (.slice A4 (j+1) c4)≠some b) (xs++[.int .i64 y.kind,.int .i64 y.int,.float .f64 y.fl,.string y.text,.slice A3 y.items.length c3]) (vs++[y]):=
    bb.mono fun b aB hb=>⟨hb.1,hb.2,fun e=>by
     rcases bS with h4 | h4
     · rw [h4] at e;exact hb.2 e
     · rw [h4] at e;injection e with e;omega⟩
   exact (hm.touch ba fun b hb hF=>by
    rcases hF with hF | hF
    · exact hb.2.1 hF
    · omega).mono fun b _ hb=>⟨hb.1,hb.2.2⟩
 · exact bB.newer (aA.below aD) ba fun b hb=>by have:=aT b hb;omega
 · exact ba.obj ((aD.below.block _ (by have:=aE.size;omega)).trans (aE.obj h.bt (by rw [At];omega))) fun hF=>by have:=aT _ hF;omega
 · exact ba.obj ((aD.below.block _ (by have:=aE.size;omega)).trans (aE.obj h.br (by rw [At];omega))) fun hF=>by have:=aT _ hF;omega
 · exact obj_set aL 4 _
theorem ManyRel.done {w:World} {g:Nat} {A:Option Addr} {c:Nat} {l:List UInt8} {k:Int} {s:Value} {f:Nat→Except Int (Va×Nat)} {many:Nat} {R:Except Int (List Va×Nat)} {j:Nat} {Ar:Option Addr} {cr:Nat} {wr:World} {a:Nat} {vs:List Va} {xs:List Value}
 (h:ManyRel w g A c l k s f many R j Ar cr wr a vs xs) {a0:Nat} (bB:RdAt w g A c l a0) (hg:g<w.heap.size) (av:vs.length=j) (hj:j≤256) {w':World} (ht:Touch (At (w.heap.size+1)) wr w') :
 ValPost w g A c l (rList k (.ok (vs,a))) (.returned (.agg #[.int .i64 k,.int .i64 0,.float .f64 0,.string ⟨#[]⟩,.slice Ar j cr])) w':=by
 subst av
 obtain ⟨_,_,e1,cF,bK,cN,_⟩:=h.own.form
 injection e1 with e1 e2 e3
 subst e1 e3
 have aQ:=h.own.lt
 refine ⟨_,rfl, ?_,bB.newer h.rd ht (fun b hb=>by rw [At] at hb;omega),h.touch.trans ht (fun b hb h=>by rw [At] at h;omega)⟩
 have hv:VaS wr (fun b=>w.heap.size+3≤b) (.agg #[.int .i64 k,.int .i64 0,.float .f64 0,.string ⟨#[]⟩,.slice Ar vs.length cr]) (.mk k 0 0 empty vs):=by
  refine VaS.of_items bK (h.items.mono fun b _ hb=>hb.1) (fun ad e hn=>?_) (by omega) _ _ _ _ _
  subst e
  have hp:0<vs.length:=List.length_pos_iff.2 hn
  exact (aQ ad.block (by unfold blk;simp;omega)).1
 exact (hv.touch ht fun b hb e=>by rw [At] at e;omega).mono fun b _ hb=>by omega
theorem value_seven (n:Nat) (ih:ReadV n) (t:Ty) (k1:Int) (A1:Option Addr) (c1:Nat) (g:Nat) (A:Option Addr) (c:Nat) (l:List UInt8) (a:Nat) (w:World) (hn:SizeOf.sizeOf t<n) (ac:t.good=true) (aS:TyS w (fun k=>k≠g) (.agg #[.int .i64 7,.slice A1 1 c1]) (.mk 7 [t])) (hr:RdAt w g A c l a)
 (aU:Tabs w) (aK:g≠3) (aM:g≠4) :
 Calls Tryz.prog 155 #[.pointer (some ⟨g,0,none⟩),.agg #[.int .i64 7,.slice A1 1 c1]] w (ValPost w g A c l (rKinds 7 (rValue t l) l a)):=by
 have hp:rKinds 7 (rValue t l) l a=(match lebGet l a with | .error e=>.error e | .ok (n,j)=>if n≤256 then rList 7 (rMany (rValue t l) n j []) else .error 3):=rfl
 have hg:=obj_lt hr.obj
 have aa:RdAt (valW w 7 (.slice A1 1 c1)) g A c l a:=hr.below (valW_keeps w _ _).below
 have ai:Touch (At g) w (valW w 7 (.slice A1 1 c1)):=Touch.of_below (valW_keeps w _ _).below fun k hk h=>by omega
 have an:=Hi hr
 have al:=Hi ai
 have bN:=Hi aS
 have bg:=Hi aU
 have HN:=Hi hn
 have bG:=Hi ac
 have IH:=Hi ih
 clear hr ai aS aU hn ac ih
 cases hb:lebGet l a with
 | error er=>
   rw [hb] at hp
   rw [hp]
   have HC:=Hi (number_no g A c l a er _ aa hb (lebGet_err hb))
   clear hp hb aa
   go_enter Tryz.func155,Tryz.ntmps155
   go_wp2_with fail
   refine HC.out.mono ?_
   rintro e w1 ⟨rfl,ht⟩
   have HT:=Hi ht
   clear ht HC
   go_wp2
   exact ⟨rfl,rfl,al.out.then HT.out⟩
 | ok r=>
   obtain ⟨x,j⟩:=r
   rw [hb] at hp
   have HC:=Hi (number_ok g A c l a x j _ aa hb)
   have cg:=lebGet_num hb
   clear hb aa
   by_cases hx:x≤256
   · simp only [hx,if_true] at hp
     generalize aP:rKinds 7 (rValue t l) l a=R at hp ⊢
     generalize hQ:rMany (rValue t l) x j []=Q at hp
     have am:=Hi hp
     have HQ:=Hi hQ.symm
     clear aP hp hQ
     go_enter Tryz.func155,Tryz.ntmps155
     go_wp2_with fail
     refine HC.out.mono ?_
     rintro e w1 ⟨rfl,af,ht⟩
     have ag:=ht.obj (valW_t w 7 (.slice A1 1 c1)) (by show w.heap.size≠g;omega)
     have ah:=ht.obj (valW_r w 7 (.slice A1 1 c1)) (by show w.heap.size+1≠g;omega)
     have ab:=ht.obj (valW_v w 7 (.slice A1 1 c1)) (by show w.heap.size+1+1≠g;omega)
     have aw:ManyRel w g A c l 7 (.slice A1 1 c1) (rValue t l) x Q 0 none 0 w1 j [] []:=
      ⟨by omega,rfl,HQ.out,Loose.empty _ _ _ _ none,Items.nil _ _,af,ag,ah,ab,al.out.then ht⟩
     have b8:=Hi aw
     clear af ht ag ah ab aw HC HQ
     go_wp2_with fail
     refine (must_okB _ _ _ _ (by simp <;> omega)).mono ?_
     rintro e w2 ⟨rfl,rfl⟩
     go_wp2_with fail
     go_loopw [58] (fun i wr=>∃ (j:Nat) (Ar:Option Addr) (cr a:Nat) (vs:List Va) (xs:List Value),i=.int .u64 (j:Int)∧ManyRel w g A c l 7 (.slice A1 1 c1) (rValue t l) x Q j Ar cr wr a vs xs) (fun i _=>x-(intOf i).toNat)
     case atStart=>exact ⟨0,none,0,j,[],[],rfl,b8.out⟩
     case round=>
      clear b8
      obtain ⟨j,Ar,cr,a,vs,xs,rfl,hrel⟩:=hrel
      by_cases aB:j<x
      · obtain ⟨ad,k',s',rfl,bx,x1,x2,ay⟩:=(bN.out.touch hrel.touch (fun k h=>h)).elem
        obtain ⟨A2,c2,n2,rfl⟩:∃ A2 c2 n2,s'=Value.slice A2 n2 c2:=by
         obtain ⟨A2,c2,e⟩:=ay.form
         simp only [Value.agg.injEq,Array.mk.injEq,List.cons.injEq] at e
         exact ⟨A2,c2,_,e.2.1⟩
        have hc:=IH.out t _ g A c l a wr.drew HN.out bG.out (ay.touch ((Touch.refl (At g) wr).drew) (fun k h=>h)) (hrel.rd.drewN 1) ((bg.out.touch hrel.touch (fun h=>aK h.symm) (fun h=>aM h.symm)).drewN 1) aK aM
        have a9:=hrel.res
        obtain ⟨t0,t1,_,_⟩:=cells2 hrel.bt
        obtain ⟨e0,e1,e2,e3,e4,y0,y1,y2,y3,y4⟩:=cells5 hrel.bv
        have u3:=obj_lt hrel.bv
        have ae:=Hi hrel
        clear ay hrel
        cases hq:rValue t l a with
        | error er=>
          rw [hq] at hc
          rw [rMany_error hq (by omega)] at a9
          have HC:=Hi hc
          have HE:Hid (R=.error er):=Hi (by rw [am.out,a9];rfl)
          clear hc a9 hq am IH
          go_wp2_with fail
          go_region_dies
          all_goals
           refine HC.out.mono ?_
           rintro e w3 ⟨rfl,ak⟩
           go_wp2
           refine ⟨rfl, ?_⟩
           rw [HE.out]
           exact ⟨rfl,ae.out.touch.drew.then ak⟩
        | ok r=>
          obtain ⟨y,k2⟩:=r
          rw [hq] at hc
          rw [rMany_ok hq (by omega)] at a9
          have HC:=Hi hc
          have ar:=Hi a9
          clear hc a9 hq IH
          go_wp2_with fail
          go_region_law (first
           | (go_simp;go_at_call 155;refine HC.out.mono ?_;rintro e w3 ⟨v3,rfl,au,aA,ak⟩;obtain ⟨A3,c3,rfl⟩:=au.form
              have ap:=ak.obj (w:=wr.drew) ae.out.bv (by show w.heap.size+1+1≠g;omega)
              obtain ⟨f0,f1,f2,f3,f4,x0,x1,x2,x3,x4⟩:=cells5 ap
              have u4:=obj_lt ap
              have ax:=ae.out.own.keep (w':=w3) (F:=At g) ((Touch.refl (At g) wr).drew.then ak) (fun k hk h=>by have:=(ae.out.own.lt k hk).1;rw [At] at h;omega)
              have bM:=Hi au;have b2:=Hi aA;have aW:=Hi ak;have bh:=Hi ax;have aR:=Hi ap
              clear au aA ak ax ap)
           | (refine step_append_rows (w.heap.size+3) (by rfl) _ _ 99 101 (.agg #[.int .i64 0,.int .i64 0,.float .f64 0,.string ⟨#[]⟩,.slice none 0 0]) 5 64 (by rfl) Tryz.underlying99 info_value rfl (by omega) (.slice Ar j cr) j xs (by rfl)
               (bh.out.below ((Keeps.refl w3).alloc _).below) (some ⟨w3.heap.size,0,none⟩) 1 1 [.int .i64 y.kind,.int .i64 y.int,.float .f64 y.fl,.string y.text,.slice A3 y.items.length c3] (by rfl) (by rfl) (RowAt.new_at w3 _ _ _ _ rfl _ rfl) (by simp [Value.oneCell']) (by simp only [maxLen];omega) (by omega) (by simp;omega) ?_
              intro v4 w4 aO aN aJ
              obtain ⟨A4,c4,rfl,_⟩:=aO.form
              have aL:=(aN.block (w.heap.size+1+1) (by simp;omega) (fun e=>by have:=(bh.out.lt _ e.symm).1;omega)).trans (obj_old aR.out _)
              obtain ⟨g0,g1,g2,g3,g4,_,_,_,_,w4z⟩:=cells5 aL
              have u5:=obj_lt aL
              have bu:=Hi aL;have bF:=Hi aO;have bL:=Hi aN;have bI:=Hi aJ
              clear aL aO aN aJ))
          all_goals
           go_wp2
           exact ⟨⟨j+1,A4,c4,k2,vs++[y],_,by go_num,ae.out.step an.out aB hg ar.out bM.out b2.out aW.out bF.out bL.out bI.out bu.out⟩,by simp [intOf];omega⟩
      · have ej:j=x:=by have:=hrel.le;omega
        subst ej
        have hq:=hrel.res
        rw [Nat.sub_self,rMany] at hq
        have hv:=hrel.len
        obtain ⟨d0,d1,d2,d3,d4,z0,z1,z2,z3,z4⟩:=cells5 hrel.br
        obtain ⟨e0,e1,e2,e3,e4,y0,y1,y2,y3,y4⟩:=cells5 hrel.bv
        have u3:=obj_lt hrel.bv
        have ae:=Hi hrel
        have HQ:=Hi hq
        have HV:=Hi hv
        clear hrel hq hv IH
        go_wp2
        refine bodyPost_ret (v:=.agg #[.int .i64 7,.int .i64 0,.float .f64 0,.string ⟨#[]⟩,.slice Ar j cr]) (by simp [results,Tryz.results155,go_sem,u3,d0,d1,d2,d3,d4,e0,e1,e2,e3,e4]) rfl ?_
        rw [am.out,HQ.out]
        exact ae.out.done an.out hg HV.out hx ((((((Touch.refl (At (w.heap.size+1)) wr).set 0 _).set 1 _).set 2 _).set 3 _).set 4 _)
   · simp only [hx,if_false] at hp
     rw [hp]
     have cO:256<x:=by omega
     clear hp hx
     go_enter Tryz.func155,Tryz.ntmps155
     go_wp2_with fail
     refine HC.out.mono ?_
     rintro e w1 ⟨rfl,af,ht⟩
     clear HC af
     go_wp2_with fail
     refine (must_noB _ _ _ _ (by simp <;> omega)).mono ?_
     rintro e w2 ⟨rfl,rfl⟩
     go_wp2
     exact ⟨rfl,rfl,al.out.then ht⟩
theorem value_six (n:Nat) (ih:ReadV n) (t:Ty) (k1:Int) (A1:Option Addr) (c1:Nat) (g:Nat) (A:Option Addr) (c:Nat) (l:List UInt8) (a:Nat) (w:World) (hn:SizeOf.sizeOf t<n) (ac:t.good=true) (aS:TyS w (fun k=>k≠g) (.agg #[.int .i64 6,.slice A1 1 c1]) (.mk 6 [t])) (hr:RdAt w g A c l a)
 (aU:Tabs w) (aK:g≠3) (aM:g≠4) :
 Calls Tryz.prog 155 #[.pointer (some ⟨g,0,none⟩),.agg #[.int .i64 6,.slice A1 1 c1]] w (ValPost w g A c l (rKinds 6 (rValue t l) l a)):=by
 have hp:rKinds 6 (rValue t l) l a=(match rBit l a with | .error e=>.error e | .ok (n,j)=>rList 6 (rMany (rValue t l) n j [])):=rfl
 have hg:=obj_lt hr.obj
 have aa:RdAt (valW w 6 (.slice A1 1 c1)) g A c l a:=hr.below (valW_keeps w _ _).below
 have ai:Touch (At g) w (valW w 6 (.slice A1 1 c1)):=Touch.of_below (valW_keeps w _ _).below fun k hk h=>by omega
 have an:=Hi hr
 have al:=Hi ai
 have bN:=Hi aS
 have bg:=Hi aU
 have HN:=Hi hn
 have bG:=Hi ac
 have IH:=Hi ih
 clear hr ai aS aU hn ac ih
 cases hb:rBit l a with
 | error er=>
   rw [hb] at hp
   rw [hp]
   have HC:=Hi (bit_no g A c l a er _ aa hb)
   clear hp hb aa
   go_enter Tryz.func155,Tryz.ntmps155
   go_wp2_with fail
   refine HC.out.mono ?_
   rintro e w1 ⟨rfl,ht⟩
   have HT:=Hi ht
   clear ht HC
   go_wp2
   exact ⟨rfl,rfl,al.out.then HT.out⟩
 | ok r=>
   obtain ⟨x,j⟩:=r
   rw [hb] at hp
   have HC:=Hi (bit_ok g A c l a x j _ aa hb)
   have hx:x≤256:=by have:=rBit_lt hb;omega
   clear hb aa
   · simp only at hp
     generalize aP:rKinds 6 (rValue t l) l a=R at hp ⊢
     generalize hQ:rMany (rValue t l) x j []=Q at hp
     have am:=Hi hp
     have HQ:=Hi hQ.symm
     clear aP hp hQ
     go_enter Tryz.func155,Tryz.ntmps155
     go_wp2_with fail
     refine HC.out.mono ?_
     rintro e w1 ⟨rfl,af,ht⟩
     have ag:=ht.obj (valW_t w 6 (.slice A1 1 c1)) (by show w.heap.size≠g;omega)
     have ah:=ht.obj (valW_r w 6 (.slice A1 1 c1)) (by show w.heap.size+1≠g;omega)
     have ab:=ht.obj (valW_v w 6 (.slice A1 1 c1)) (by show w.heap.size+1+1≠g;omega)
     have aw:ManyRel w g A c l 6 (.slice A1 1 c1) (rValue t l) x Q 0 none 0 w1 j [] []:=
      ⟨by omega,rfl,HQ.out,Loose.empty _ _ _ _ none,Items.nil _ _,af,ag,ah,ab,al.out.then ht⟩
     have b8:=Hi aw
     clear af ht ag ah ab aw HC HQ
     go_wp2_with fail
     go_loopw [58] (fun i wr=>∃ (j:Nat) (Ar:Option Addr) (cr a:Nat) (vs:List Va) (xs:List Value),i=.int .u64 (j:Int)∧ManyRel w g A c l 6 (.slice A1 1 c1) (rValue t l) x Q j Ar cr wr a vs xs) (fun i _=>x-(intOf i).toNat)
     case atStart=>exact ⟨0,none,0,j,[],[],rfl,b8.out⟩
     case round=>
      clear b8
      obtain ⟨j,Ar,cr,a,vs,xs,rfl,hrel⟩:=hrel
      by_cases aB:j<x
      · obtain ⟨ad,k',s',rfl,bx,x1,x2,ay⟩:=(bN.out.touch hrel.touch (fun k h=>h)).elem
        obtain ⟨A2,c2,n2,rfl⟩:∃ A2 c2 n2,s'=Value.slice A2 n2 c2:=by
         obtain ⟨A2,c2,e⟩:=ay.form
         simp only [Value.agg.injEq,Array.mk.injEq,List.cons.injEq] at e
         exact ⟨A2,c2,_,e.2.1⟩
        have hc:=IH.out t _ g A c l a wr.drew HN.out bG.out (ay.touch ((Touch.refl (At g) wr).drew) (fun k h=>h)) (hrel.rd.drewN 1) ((bg.out.touch hrel.touch (fun h=>aK h.symm) (fun h=>aM h.symm)).drewN 1) aK aM
        have a9:=hrel.res
        obtain ⟨t0,t1,_,_⟩:=cells2 hrel.bt
        obtain ⟨e0,e1,e2,e3,e4,y0,y1,y2,y3,y4⟩:=cells5 hrel.bv
        have u3:=obj_lt hrel.bv
        have ae:=Hi hrel
        clear ay hrel
        cases hq:rValue t l a with
        | error er=>
          rw [hq] at hc
          rw [rMany_error hq (by omega)] at a9
          have HC:=Hi hc
          have HE:Hid (R=.error er):=Hi (by rw [am.out,a9];rfl)
          clear hc a9 hq am IH
          go_wp2_with fail
          go_region_dies
          all_goals
           refine HC.out.mono ?_
           rintro e w3 ⟨rfl,ak⟩
           go_wp2
           refine ⟨rfl, ?_⟩
           rw [HE.out]
           exact ⟨rfl,ae.out.touch.drew.then ak⟩
        | ok r=>
          obtain ⟨y,k2⟩:=r
          rw [hq] at hc
          rw [rMany_ok hq (by omega)] at a9
          have HC:=Hi hc
          have ar:=Hi a9
          clear hc a9 hq IH
          go_wp2_with fail
          go_region_law (first
           | (go_simp;go_at_call 155;refine HC.out.mono ?_;rintro e w3 ⟨v3,rfl,au,aA,ak⟩;obtain ⟨A3,c3,rfl⟩:=au.form
              have ap:=ak.obj (w:=wr.drew) ae.out.bv (by show w.heap.size+1+1≠g;omega)
              obtain ⟨f0,f1,f2,f3,f4,x0,x1,x2,x3,x4⟩:=cells5 ap
              have u4:=obj_lt ap
              have ax:=ae.out.own.keep (w':=w3) (F:=At g) ((Touch.refl (At g) wr).drew.then ak) (fun k hk h=>by have:=(ae.out.own.lt k hk).1;rw [At] at h;omega)
              have bM:=Hi au;have b2:=Hi aA;have aW:=Hi ak;have bh:=Hi ax;have aR:=Hi ap
              clear au aA ak ax ap)
           | (refine step_append_rows (w.heap.size+3) (by rfl) _ _ 99 101 (.agg #[.int .i64 0,.int .i64 0,.float .f64 0,.string ⟨#[]⟩,.slice none 0 0]) 5 64 (by rfl) Tryz.underlying99 info_value rfl (by omega) (.slice Ar j cr) j xs (by rfl)
               (bh.out.below ((Keeps.refl w3).alloc _).below) (some ⟨w3.heap.size,0,none⟩) 1 1 [.int .i64 y.kind,.int .i64 y.int,.float .f64 y.fl,.string y.text,.slice A3 y.items.length c3] (by rfl) (by rfl) (RowAt.new_at w3 _ _ _ _ rfl _ rfl) (by simp [Value.oneCell']) (by simp only [maxLen];omega) (by omega) (by simp;omega) ?_
              intro v4 w4 aO aN aJ
              obtain ⟨A4,c4,rfl,_⟩:=aO.form
              have aL:=(aN.block (w.heap.size+1+1) (by simp;omega) (fun e=>by have:=(bh.out.lt _ e.symm).1;omega)).trans (obj_old aR.out _)
              obtain ⟨g0,g1,g2,g3,g4,_,_,_,_,w4z⟩:=cells5 aL
              have u5:=obj_lt aL
              have bu:=Hi aL;have bF:=Hi aO;have bL:=Hi aN;have bI:=Hi aJ
              clear aL aO aN aJ))
          all_goals
           go_wp2
           exact ⟨⟨j+1,A4,c4,k2,vs++[y],_,by go_num,ae.out.step an.out aB hg ar.out bM.out b2.out aW.out bF.out bL.out bI.out bu.out⟩,by simp [intOf];omega⟩
      · have ej:j=x:=by have:=hrel.le;omega
        subst ej
        have hq:=hrel.res
        rw [Nat.sub_self,rMany] at hq
        have hv:=hrel.len
        obtain ⟨d0,d1,d2,d3,d4,z0,z1,z2,z3,z4⟩:=cells5 hrel.br
        obtain ⟨e0,e1,e2,e3,e4,y0,y1,y2,y3,y4⟩:=cells5 hrel.bv
        have u3:=obj_lt hrel.bv
        have ae:=Hi hrel
        have HQ:=Hi hq
        have HV:=Hi hv
        clear hrel hq hv IH
        go_wp2
        refine bodyPost_ret (v:=.agg #[.int .i64 6,.int .i64 0,.float .f64 0,.string ⟨#[]⟩,.slice Ar j cr]) (by simp [results,Tryz.results155,go_sem,u3,d0,d1,d2,d3,d4,e0,e1,e2,e3,e4]) rfl ?_
        rw [am.out,HQ.out]
        exact ae.out.done an.out hg HV.out hx ((((((Touch.refl (At (w.heap.size+1)) wr).set 0 _).set 1 _).set 2 _).set 3 _).set 4 _)
theorem value_other (k:Int) (hk:¬(1≤k∧k≤7)) (A1:Option Addr) (c1:Nat) (n1:Nat) (g:Nat) (A:Option Addr) (c:Nat) (l:List UInt8) (a:Nat) (w:World) (hr:RdAt w g A c l a) (f:Nat→Except Int (Va×Nat)) :
 Calls Tryz.prog 155 #[.pointer (some ⟨g,0,none⟩),.agg #[.int .i64 k,.slice A1 n1 c1]] w (ValPost w g A c l (rKinds k f l a)):=by
 have hp:rKinds k f l a=.ok (.mk k 0 0 empty [],a):=by unfold rKinds;simp only [show ¬k=1 by omega,show ¬k=2 by omega,show ¬k=3 by omega,show ¬k=4 by omega,show ¬k=5 by omega,show ¬k=6 by omega,show ¬k=7 by omega,if_false]
 have q1:(k==1)=false:=by simp;omega
 have q2:(k==2)=false:=by simp;omega
 have q3:(k==3)=false:=by simp;omega
 have q4:(k==4)=false:=by simp;omega
 have q5:(k==5)=false:=by simp;omega
 have q6:(k==6)=false:=by simp;omega
 have q7:(k==7)=false:=by simp;omega
 rw [hp]
 have hg:=obj_lt hr.obj
 have aa:RdAt (valW w k (.slice A1 n1 c1)) g A c l a:=hr.below (valW_keeps w _ _).below
 have ai:Touch (At g) w (valW w k (.slice A1 n1 c1)):=Touch.of_below (valW_keeps w _ _).below fun k hk h=>by omega
 have an:=Hi hr
 have b8:=Hi aa
 have al:=Hi ai
 clear hr ai hp hk aa
 go_enter Tryz.func155,Tryz.ntmps155
 go_wp2_with fail
 refine wp_loop_rounds 1 ?_
 rw [rounds_succ]
 go_wp2
 refine bodyPost_ret (v:=.agg #[.int .i64 k,.int .i64 0,.float .f64 0,.string ⟨#[]⟩,.slice none 0 0]) (by simp [results,Tryz.results155,go_sem]) rfl ?_
 exact ⟨_,rfl,VaS.leaf _ _ _ _ _ _ _ _,an.out.below (((Keeps.refl w).alloc _).alloc _ |>.alloc _).below,(((Touch.refl _ w).alloc _).alloc _).alloc _⟩
theorem value_calls (n:Nat):ReadV n:=by
 induction n with
 | zero=>intro t v g A c l a w hn;exact absurd hn (by omega)
 | succ n ih=>
   intro t v g A c l a w hn ac aS hr aU aK aM
   cases t with
   | mk k ts=>
     obtain ⟨A1,c1,rfl⟩:=aS.form
     have hv:rValue (.mk k ts) l a=rKinds k (rHead ts l) l a:=by rw [rValue]
     rw [hv]
     show Calls _ _ #[_,.agg #[.int .i64 k,.slice A1 ts.length c1]] _ _
     by_cases h1:k=1
     · subst h1;exact value_one A1 c1 _ g A c l a w hr _
     by_cases h2:k=2
     · subst h2;exact value_two A1 c1 _ g A c l a w hr _
     by_cases h3:k=3
     · subst h3;exact value_three A1 c1 _ g A c l a w hr _
     by_cases h4:k=4
     · subst h4;exact value_four A1 c1 _ g A c l a w hr aU aK aM _
     by_cases h5:k=5
     · subst h5;exact value_five A1 c1 _ g A c l a w hr _
     by_cases ce:k=6∨k=7
     · have av:ts.length=1:=by
        simp only [Ty.good,Bool.and_eq_true,beq_iff_eq,decide_eq_decide] at ac
        exact ac.1.1.1 ce
       obtain ⟨t,rfl⟩:=List.length_eq_one_iff.1 av
       have bX:t.good=true:=by
        simp only [Ty.good,Ty.goods,Bool.and_eq_true] at ac
        exact ac.2.1
       have bi:SizeOf.sizeOf t<n:=by
        simp only [Ty.mk.sizeOf_spec,List.cons.sizeOf_spec,List.nil.sizeOf_spec] at hn
        omega
       have hf:rHead [t] l=rValue t l:=by funext a;rw [rHead]
       rw [hf]
       rcases ce with h | h
       · subst h;exact value_six n ih t 0 A1 c1 g A c l a w bi bX aS hr aU aK aM
       · subst h;exact value_seven n ih t 0 A1 c1 g A c l a w bi bX aS hr aU aK aM
     · exact value_other k (by omega) A1 c1 _ g A c l a w hr _
end
section
open Go.RowKit
structure Col where
 name:ByteArray
 ty:Ty
 has:Bool
 dflt:Va
structure ColC (w:World) (S:Nat→Prop) (x0 x1 x2 x3 x4 x5 x6 x7 x8:Value) (c:Col):Prop where
 nm:x0=.string c.name
 tk:x1=.int .i64 c.ty.kind
 hs:x3=.bool c.has
 dk:x4=.int .i64 c.dflt.kind
 di:x5=.int .i64 c.dflt.int
 df:x6=.float .f64 c.dflt.fl
 dt:x7=.string c.dflt.text
 ty:TyS w S (.agg #[x1,x2]) c.ty
 dv:VaS w S (.agg #[x4,x5,x6,x7,x8]) c.dflt
theorem ColC.mono {w:World} {S S':Nat→Prop} {x0 x1 x2 x3 x4 x5 x6 x7 x8:Value} {c:Col} (h:ColC w S x0 x1 x2 x3 x4 x5 x6 x7 x8 c) (hS:∀ k,k<w.heap.size→S k→S' k):ColC w S' x0 x1 x2 x3 x4 x5 x6 x7 x8 c:=
 ⟨h.nm,h.tk,h.hs,h.dk,h.di,h.df,h.dt,h.ty.mono hS,h.dv.mono hS⟩
theorem ColC.touch {F:Nat→Prop} {w w':World} {S:Nat→Prop} {x0 x1 x2 x3 x4 x5 x6 x7 x8:Value} {c:Col} (h:ColC w S x0 x1 x2 x3 x4 x5 x6 x7 x8 c) (ht:Touch F w w') (hF:∀ k,S k→¬F k):ColC w' S x0 x1 x2 x3 x4 x5 x6 x7 x8 c:=
 ⟨h.nm,h.tk,h.hs,h.dk,h.di,h.df,h.dt,h.ty.touch ht hF,h.dv.touch ht hF⟩
theorem ColC.later {w w':World} {S:Nat→Prop} {x0 x1 x2 x3 x4 x5 x6 x7 x8:Value} {c:Col} (h:ColC w S x0 x1 x2 x3 x4 x5 x6 x7 x8 c) (hb:Below w.heap.size w w'):ColC w' S x0 x1 x2 x3 x4 x5 x6 x7 x8 c:=
 ⟨h.nm,h.tk,h.hs,h.dk,h.di,h.df,h.dt,h.ty.later hb,h.dv.later hb⟩
theorem ColC.form {w:World} {S:Nat→Prop} {x0 x1 x2 x3 x4 x5 x6 x7 x8:Value} {c:Col} (h:ColC w S x0 x1 x2 x3 x4 x5 x6 x7 x8 c):(∃ A k,x2=.slice A c.ty.of.length k)∧∃ A k,x8=.slice A c.dflt.items.length k:=by
 obtain ⟨A,k,e⟩:=h.ty.form
 obtain ⟨B,m,e'⟩:=h.dv.form
 simp only [Value.agg.injEq,Array.mk.injEq,List.cons.injEq] at e e'
 exact ⟨⟨A,k,e.2.1⟩,B,m,e'.2.2.2.2.1⟩
def Cols (w:World) (S:Nat→Prop) (xs:List Value) (l:List Col):Prop:=
 xs.length=9*l.length∧∀ j,(h:j<l.length)→∃ x0 x1 x2 x3 x4 x5 x6 x7 x8,(xs[9*j]? = some x0∧xs[9*j+1]? = some x1∧xs[9*j+2]? = some x2∧xs[9*j+3]? = some x3∧xs[9*j+4]? = some x4∧xs[9*j+5]? = some x5∧xs[9*j+6]? = some x6∧xs[9*j+7]? = some x7∧xs[9*j+8]? = some x8) ∧
  ColC w S x0 x1 x2 x3 x4 x5 x6 x7 x8 (l[j]'h)
theorem Cols.nil (w:World) (S:Nat→Prop):Cols w S [] []:=⟨rfl,fun j h=>absurd h (by simp)⟩
theorem Cols.mono {w:World} {S S':Nat→Prop} {xs:List Value} {l:List Col} (h:Cols w S xs l) (hS:∀ k,k<w.heap.size→S k→S' k):Cols w S' xs l:=
 ⟨h.1,fun j hj=>by obtain ⟨x0,x1,x2,x3,x4,x5,x6,x7,x8,a,b⟩:=h.2 j hj;exact ⟨x0,x1,x2,x3,x4,x5,x6,x7,x8,a,b.mono hS⟩⟩
theorem Cols.touch {F:Nat→Prop} {w w':World} {S:Nat→Prop} {xs:List Value} {l:List Col} (h:Cols w S xs l) (ht:Touch F w w') (hF:∀ k,S k→¬F k):Cols w' S xs l:=
 ⟨h.1,fun j hj=>by obtain ⟨x0,x1,x2,x3,x4,x5,x6,x7,x8,a,b⟩:=h.2 j hj;exact ⟨x0,x1,x2,x3,x4,x5,x6,x7,x8,a,b.touch ht hF⟩⟩
theorem Cols.later {w w':World} {S:Nat→Prop} {xs:List Value} {l:List Col} (h:Cols w S xs l) (hb:Below w.heap.size w w'):Cols w' S xs l:=
 ⟨h.1,fun j hj=>by obtain ⟨x0,x1,x2,x3,x4,x5,x6,x7,x8,a,b⟩:=h.2 j hj;exact ⟨x0,x1,x2,x3,x4,x5,x6,x7,x8,a,b.later hb⟩⟩
theorem Cols.snoc {w:World} {S:Nat→Prop} {xs:List Value} {l:List Col} (h:Cols w S xs l) {x0 x1 x2 x3 x4 x5 x6 x7 x8:Value} {c:Col} (hc:ColC w S x0 x1 x2 x3 x4 x5 x6 x7 x8 c):Cols w S (xs++[x0,x1,x2,x3,x4,x5,x6,x7,x8]) (l++[c]):=by
 have hl:=h.1
 refine ⟨by rw [List.length_append,List.length_append,h.1];simp;omega,fun j hj=>?_⟩
 by_cases aB:j<l.length
 · obtain ⟨y0,y1,y2,y3,y4,y5,y6,y7,y8,⟨a0,a1,a2,a3,a4,a5,a6,a7,a8⟩,b⟩:=h.2 j aB
   refine ⟨y0,y1,y2,y3,y4,y5,y6,y7,y8,⟨?_, ?_, ?_, ?_, ?_, ?_, ?_, ?_, ?_⟩,by rw [List.getElem_append_left aB];exact b⟩
   all_goals rw [List.getElem?_append_left (by omega)];assumption
 · have e:j=l.length:=by rw [List.length_append] at hj;simp at hj;omega
   subst e
   refine ⟨x0,x1,x2,x3,x4,x5,x6,x7,x8,⟨?_, ?_, ?_, ?_, ?_, ?_, ?_, ?_, ?_⟩,by rw [List.getElem_append_right (by omega)];simpa using hc⟩
   all_goals rw [List.getElem?_append_right (by rw [h.1];omega),h.1]
   · simp
   · rw [show 9*l.length+1-9*l.length=1 by omega];rfl
   · rw [show 9*l.length+2-9*l.length=2 by omega];rfl
   · rw [show 9*l.length+3-9*l.length=3 by omega];rfl
   · rw [show 9*l.length+4-9*l.length=4 by omega];rfl
   · rw [show 9*l.length+5-9*l.length=5 by omega];rfl
   · rw [show 9*l.length+6-9*l.length=6 by omega];rfl
   · rw [show 9*l.length+7-9*l.length=7 by omega];rfl
   · rw [show 9*l.length+8-9*l.length=8 by omega];rfl
structure SchS (w:World) (S:Nat→Prop) (A:Option Addr) (l:List Col):Prop where
 ex:∃ xs,RowAt w A xs∧Cols w S xs l
 blk:∀ a,A=some a→l≠[]→S a.block
 len:l.length≤1152921504606846976
theorem SchS.nil (w:World) (S:Nat→Prop) (A:Option Addr):SchS w S A []:=⟨⟨[],RowAt.nil w A,Cols.nil w S⟩,fun _ _ h=>absurd rfl h,by simp⟩
theorem SchS.later {w w':World} {S:Nat→Prop} {A:Option Addr} {l:List Col} (h:SchS w S A l) (hb:Below w.heap.size w w'):SchS w' S A l:=by
 obtain ⟨xs,hr,hc⟩:=h.ex
 exact ⟨⟨xs,hr.below hb,hc.later hb⟩,h.blk,h.len⟩
theorem SchS.touch {F:Nat→Prop} {w w':World} {S:Nat→Prop} {A:Option Addr} {l:List Col} (h:SchS w S A l) (ht:Touch F w w') (hF:∀ k,S k→¬F k):SchS w' S A l:=by
 obtain ⟨xs,hr,hc⟩:=h.ex
 refine ⟨⟨xs,ht.row hr (fun a e hn=>?_),hc.touch ht hF⟩,h.blk,h.len⟩
 exact hF _ (h.blk a e (fun e=>by subst e;exact hn (List.eq_nil_of_length_eq_zero (by simpa using hc.1))))
theorem SchS.mono {w:World} {S S':Nat→Prop} {A:Option Addr} {l:List Col} (h:SchS w S A l) (hS:∀ k,k<w.heap.size→S k→S' k):SchS w S' A l:=by
 obtain ⟨xs,hr,hc⟩:=h.ex
 refine ⟨⟨xs,hr,hc.mono hS⟩,fun a e hn=>?_,h.len⟩
 have hp:0<l.length:=List.length_pos_iff.2 hn
 obtain ⟨x0,x1,x2,x3,x4,x5,x6,x7,x8,⟨a0,_⟩,_⟩:=hc.2 0 hp
 obtain ⟨ad,e',c0⟩:=hr _ _ a0
 have h1:=World.block_lt_of_cell? w _ c0
 rw [addr_add_block] at h1
 rw [e] at e'
 cases e'
 exact hS _ h1 (h.blk a e hn)
theorem SchS.get {w:World} {S:Nat→Prop} {A:Option Addr} {l:List Col} (h:SchS w S A l) (j:Nat) (hj:j<l.length) :
 ∃ ad x0 x1 x2 x3 x4 x5 x6 x7 x8,A=some ad∧S ad.block∧ColC w S x0 x1 x2 x3 x4 x5 x6 x7 x8 (l[j]'hj)∧w.cell? (ad.add (j*9))=some x0 ∧
   w.cell? ⟨(ad.add (j*9)).block,(ad.add (j*9)).off+1,none⟩=some x1∧w.cell? ⟨(ad.add (j*9)).block,(ad.add (j*9)).off+2,none⟩=some x2∧w.cell? ⟨(ad.add (j*9)).block,(ad.add (j*9)).off+3,none⟩=some x3 ∧
   w.cell? ⟨(ad.add (j*9)).block,(ad.add (j*9)).off+4,none⟩=some x4∧w.cell? ⟨(ad.add (j*9)).block,(ad.add (j*9)).off+5,none⟩=some x5∧w.cell? ⟨(ad.add (j*9)).block,(ad.add (j*9)).off+6,none⟩=some x6 ∧
   w.cell? ⟨(ad.add (j*9)).block,(ad.add (j*9)).off+7,none⟩=some x7∧w.cell? ⟨(ad.add (j*9)).block,(ad.add (j*9)).off+8,none⟩=some x8:=by
 obtain ⟨xs,hr,hc⟩:=h.ex
 obtain ⟨x0,x1,x2,x3,x4,x5,x6,x7,x8,⟨a0,a1,a2,a3,a4,a5,a6,a7,a8⟩,b⟩:=hc.2 j hj
 obtain ⟨ad,e,c0⟩:=hr _ _ a0
 subst e
 have hg:∀ {i:Nat} {u:Value},0<i→xs[9*j+i]? = some u→w.cell? ⟨(ad.add (j*9)).block,(ad.add (j*9)).off+i,none⟩=some u:=fun hi hx=>by
  obtain ⟨ad',e,cp⟩:=hr _ _ hx
  cases e
  rw [← addr_add_pos _ _ hi,addr_add_add,Nat.mul_comm j 9]
  exact cp
 exact ⟨ad,x0,x1,x2,x3,x4,x5,x6,x7,x8,rfl,h.blk ad rfl (fun e=>by rw [e] at hj;simp at hj),b,by rw [Nat.mul_comm];exact c0,hg (by omega) a1,hg (by omega) a2,hg (by omega) a3,hg (by omega) a4,hg (by omega) a5,hg (by omega) a6,hg (by omega) a7,hg (by omega) a8⟩
def findFrom:List Col→Nat→ByteArray→Nat×Bool
 | [],_,_=>(0,false)
 | c :: l,i,n=>if c.name=n then (i,true) else findFrom l (i+1) n
def findCol (l:List Col) (n:ByteArray):Nat×Bool:=findFrom l 0 n
end
section
open Go.RowKit Go.BigFrame
attribute [local go_sem] run_store_float
theorem find_calls (A:Option Addr) (c:Nat) (S:Nat→Prop) (l:List Col) (nm:ByteArray) (w:World) (hs:SchS w S A l) :
 Calls Tryz.prog 152 #[.agg #[.slice A l.length c],.string nm] w fun e w'=>e=.returned (.tuple #[.int .i64 (((findCol l nm).1:Nat):Int),.bool (findCol l nm).2])∧Keeps w w':=by
 have av:=hs.len
 generalize hL:l.length=L at av ⊢
 generalize hR:findCol l nm=R
 have HL:=Hi hL
 have HR:=Hi hR.symm
 have HS:=Hi hs
 clear hs hL hR
 go_enter Tryz.func152,Tryz.ntmps152
 go_wp2_with fail
 go_loopw [11] (fun i wr=>∃ k:Nat,k≤L∧i=.int .i64 (k:Int)∧R=findFrom (l.drop k) k nm∧Keeps w wr) (fun i _=>L-(intOf i).toNat)
 case atStart=>exact ⟨0,by omega,rfl,HR.out,(Keeps.refl w).alloc _⟩
 case round=>
  obtain ⟨k,hk,rfl,a9,bo⟩:=hrel
  by_cases aB:k<L
  · have aj:k<l.length:=by rw [HL.out];exact aB
    obtain ⟨ad,x0,x1,x2,x3,x4,x5,x6,x7,x8,rfl,_,aq,c0,c1,c2,c3,c4,c5,c6,c7,c8⟩:=(HS.out.later bo.below).get k aj
    have hd:findFrom (l.drop k) k nm=if (l[k]'aj).name=nm then (k,true) else findFrom (l.drop (k+1)) (k+1) nm:=by
     rw [List.drop_eq_getElem_cons aj,findFrom]
    rw [hd] at a9
    obtain ⟨⟨A2,k2,e2⟩,A8,k8,e8⟩:=aq.form
    rw [aq.nm] at c0
    rw [aq.tk] at c1
    rw [e2] at c2
    rw [aq.hs] at c3
    rw [aq.dk] at c4
    rw [aq.di] at c5
    rw [aq.df] at c6
    rw [aq.dt] at c7
    rw [e8] at c8
    clear aq e2 e8 hd
    generalize cu:(l[k]'aj).name=x at c0 a9
    generalize (l[k]'aj).ty.of.length=n2 at c2
    generalize (l[k]'aj).dflt.items.length=n8 at c8
    generalize (l[k]'aj).ty.kind=i1 at c1
    generalize (l[k]'aj).has=b3 at c3
    generalize (l[k]'aj).dflt.kind=i4 at c4
    generalize (l[k]'aj).dflt.int=i5 at c5
    generalize (l[k]'aj).dflt.fl=f6 at c6
    generalize (l[k]'aj).dflt.text=t7 at c7
    clear cu
    have bY:=Hi bo
    clear bo
    by_cases hq:x=nm
    · subst hq
      rw [if_pos rfl] at a9
      have ar:=Hi a9
      clear a9
      go_wp2
      go_ret2
      exact ⟨by rw [ar.out];rfl,bY.out.alloc _⟩
    · rw [if_neg hq] at a9
      have ar:=Hi a9
      have q4:=texts_ne hq
      clear a9 hq
      go_wp2
      exact ⟨⟨k+1,by omega,by go_num,ar.out,bY.out.alloc _⟩,by simp [intOf];omega⟩
  · have e:l.drop k=[]:=List.drop_eq_nil_of_le (by rw [HL.out];omega)
    rw [e,findFrom] at a9
    have ar:=Hi a9
    clear a9 e
    go_wp2
    go_ret2
    exact ⟨by rw [ar.out];rfl,bo⟩
end
end Go.Proofs.YtihodcnnappkbaaGreatDoor
