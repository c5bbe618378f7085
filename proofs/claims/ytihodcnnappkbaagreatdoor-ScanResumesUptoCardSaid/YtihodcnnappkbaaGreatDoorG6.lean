/-
  The walks of schema.Check and Encode. Condition: the slice stands for columns, the numbers are of 64 bits, the tables of unicode/utf8 are as laid. Stuffing as plain functions on lists of bytes: the groups, what is stuffed, what is taken back. No condition. The walks of bytes.IndexByte at a zero. Condition: the slices read as lists of bytes. The walks of groups, of Stuff and of Len. Condition: the bytes read as a list. The walk of Unstuff. Condition: the bytes read as a list.
-/
import Derived.Test.YtihodcnnappkbaaGreatDoorG5
import Derived.Test.YtihodcnnappkbaaGreatDoorG1
import Derived.Shelf.Bytes.SlIndexAt
set_option linter.unusedVariables false
set_option linter.unusedSimpArgs false
set_option maxHeartbeats 4000000
set_option maxRecDepth 100000
namespace Go.Proofs.YtihodcnnappkbaaGreatDoor
section
open Go.RowKit Go.BigFrame Go.WideMaps Go.Maps
attribute [local go_sem] run_storeF
theorem keyed_string:Maps.Keyed Tryz.prog 9:=Maps.string_keyed Tryz.underlying9
theorem zero_int (w:World):(zeroValue 3).run Tryz.prog w=.ok (.int .i64 0) w:=by kernel_rfl
theorem zero_at (w:World):VaAt w (.agg #[.int .i64 0,.int .i64 0,.float .f64 0,.string ⟨#[]⟩,.slice none 0 0]) vaZero:=(VaS.leaf w (fun _=>True) 0 0 0 ⟨#[]⟩ none 0).at
theorem check_calls (A:Option Addr) (c:Nat) (l:List Col) (w:World) (hs:SchS w (fun b=>b<w.heap.size) A l) (hw:∀ x∈l,x.dflt.wf) (bc:∀ x∈l,x.name.size≤140737488355328) (b8:Tabs w) :
 Calls Tryz.prog 68 #[.agg #[.slice A l.length c]] w fun e w'=>e=.returned (.int .i64 (schCheck l))∧Keeps w w':=by
 have eb:=@run_makeMap Tryz.prog
 obtain ⟨R,hR⟩:∃ R,R=schCheck l:=⟨_,rfl⟩
 rw [← hR]
 unfold schCheck at hR
 have dx:=hs.len
 by_cases h0:l.length=0
 · rw [if_pos h0] at hR
   subst hR
   rw [h0]
   clear hs hw bc b8 h0 dx
   go_enter Tryz.func68,Tryz.ntmps68
   go_wp2
   go_ret
   exact ⟨rfl,(Keeps.refl w).alloc _⟩
 by_cases bo:16<l.length
 · rw [if_neg h0,if_pos bo] at hR
   subst hR
   have q0:((l.length:Int)==0)=false:=by rw [beq_eq_false_iff_ne];omega
   clear hs hw bc b8 h0
   generalize l.length=N at *
   go_enter Tryz.func68,Tryz.ntmps68
   go_wp2
   go_ret
   exact ⟨rfl,(Keeps.refl w).alloc _⟩
 rw [if_neg h0,if_neg bo] at hR
 have bx:l.length≤16:=by omega
 have dV:1≤l.length:=by omega
 have q0:((l.length:Int)==0)=false:=by rw [beq_eq_false_iff_ne];omega
 have HR:=Hi hR
 have HS:=Hi hs
 have HW:=Hi hw
 have dQ:=Hi bc
 have dX:=Hi b8
 clear hR hs hw bc b8 h0 bo dx
 generalize bJ:l.length=N at bx dV q0 ⊢
 have HL:=Hi bJ
 clear bJ
 go_enter Tryz.func68,Tryz.ntmps68
 go_wp2_with fail
 go_loopw [24] (fun j wr=>∃ m:Nat,m≤N∧j=.int .i64 (m:Int)∧colsCheck [] l=colsCheck ((l.take m).map Col.name) (l.drop m)∧NamesMap wr (w.heap.size+1) m ((l.take m).map Col.name)∧Keeps (w.alloc (.cells #[.slice A N c] 30)) wr) (fun j _=>N-(intOf j).toNat)
 case atStart=>
  refine ⟨0,Nat.zero_le _,rfl,rfl,⟨.map [], ?_,fun s=>rfl⟩,(Keeps.refl _).alloc _⟩
  have:=World.ownsMap_made (w.alloc (.cells #[.slice A N c] 30)) Tryz.prog 9 (plainElem (H:=Unit) Tryz.prog 3)
  simpa using this
 case round=>
  obtain ⟨m,hm,rfl,ag,au,bQ⟩:=hrel
  have aW:Keeps w wr:=((Keeps.refl w).alloc _).trans bQ
  have dD:w.heap.size+1<wr.heap.size:=by obtain ⟨D,h,_⟩:=au.ex;exact ownsMap_lt h
  by_cases dU:m<N
  · have ae:m<l.length:=by rw [HL.out];exact dU
    obtain ⟨ad,x0,x1,x2,x3,x4,x5,x6,x7,x8,rfl,_,a9,c0,c1,c2,c3,c4,c5,c6,c7,c8⟩:=(HS.out.later aW.below).get m ae
    have bq:=colsCheck_drop l m ae
    have aa:(l[m]'ae)∈l:=List.getElem_mem ae
    have cG:=HW.out _ aa
    have bd:=dQ.out _ aa
    have bj:(l.take (m+1)).map Col.name=(l.take m).map Col.name++[(l[m]'ae).name]:=by rw [List.take_succ_eq_append_getElem ae,List.map_append];rfl
    rw [bq] at ag
    obtain ⟨y,hy⟩:∃ y,y=l[m]'ae:=⟨_,rfl⟩
    rw [← hy] at a9 ag cG bd bj
    clear hy ae bq aa
    obtain ⟨⟨A2,k2,e2⟩,A8,k8,e8⟩:=a9.form
    have dz:=a9.nm;have cK:=a9.tk;have dE:=a9.hs;have dT:=a9.dk;have dH:=a9.di;have dR:=a9.df;have dL:=a9.dt
    subst dz cK e2 dE dT dH dR dL e8
    obtain ⟨names,ar⟩:∃ names,names=(l.take m).map Col.name:=⟨_,rfl⟩
    rw [← ar] at ag au bj
    clear ar
    obtain ⟨W1,ca⟩:∃ W1,W1=wr.alloc (.cells #[.string y.name,.int .i64 y.ty.kind,.slice A2 y.ty.of.length k2,.bool y.has,.int .i64 y.dflt.kind,.int .i64 y.dflt.int,.float .f64 y.dflt.fl,.string y.dflt.text,.slice A8 y.dflt.items.length k8] 103):=⟨_,rfl⟩
    have ak:Keeps wr W1:=by rw [ca];exact (Keeps.refl wr).alloc _
    have dq:W1.heap[wr.heap.size]? = some (.cells #[.string y.name,.int .i64 y.ty.kind,.slice A2 y.ty.of.length k2,.bool y.has,.int .i64 y.dflt.kind,.int .i64 y.dflt.int,.float .f64 y.dflt.fl,.string y.dflt.text,.slice A8 y.dflt.items.length k8] 103):=by rw [ca];exact obj_new wr _
    have cR:=Hi dq
    have bL:=Hi a9
    have af:=Hi ag
    have bv:=Hi au
    have dI:=Hi bQ
    have bH:=Hi aW
    have aj:=Hi ak
    have ed:=Hi cG
    have cT:=Hi bj
    have dB:=Hi bd
    clear dq a9 ag au bQ aW ak cG bj bd
    go_wp2_with fail
    rw [← ca]
    clear ca c0 c1 c2 c3 c4 c5 c6 c7 c8
    refine (name_calls y.name W1).mono ?_
    rintro e w2 ⟨rfl,aD⟩
    have b9:=aj.out.trans aD
    have ax:=(aD.below.block _ (obj_lt cR.out)).trans cR.out
    obtain ⟨⟨d0,d1,d2,d3,d4,d5,d6,d7,d8⟩,_⟩:=cells9 ax
    have u2:=obj_lt ax
    obtain ⟨D,a6,hD⟩:=(bv.out.keeps b9).ex
    have cx:=Hi ax
    have aA:=Hi b9
    have ac:=Hi a6
    have HD:=Hi hD
    clear ax b9 a6 hD aD cR
    cases bi:nameOk y.name with
    | false=>
      have HE:Hid (R=70):=Hi (by
       have:colCheck names y=70:=by unfold colCheck;rw [if_pos bi]
       have h2:colsCheck [] l=70:=by rw [af.out,this];rfl
       rw [HR.out,h2];rfl)
      clear bi
      go_wp2
      go_ret
      exact ⟨by rw [HE.out];rfl,bH.out.trans aA.out⟩
    | true=>
    have bw:keyOf Tryz.prog 9 (.string y.name)=some (.string y.name.data.toList):=keyOf_string_mk Tryz.underlying9 (by have:=dB.out;unfold maxLen;omega)
    have aO:=HD.out y.name
    have aE:=Hi bw
    clear bw
    cases br:nameIn names y.name with
    | true=>
      rw [br] at aO
      have HE:Hid (R=71):=Hi (by
       have:colCheck names y=71:=by unfold colCheck;rw [if_neg (by rw [bi];simp),if_pos br]
       have h2:colsCheck [] l=71:=by rw [af.out,this];rfl
       rw [HR.out,h2];rfl)
      clear bi br
      go_wp2_with (at_lookup;refine wpList_lookup_own_ok_int _ rfl _ _ 142 rfl 9 3 .i64 keyed_string Tryz.underlying142 Tryz.underlying3 (zero_int _) (w.heap.size+1) m D rfl ac.out _ _ rfl aE.out ?_;intro cc _ dN)
      go_ret
      exact ⟨by rw [HE.out];rfl,bH.out.trans aA.out⟩
    | false=>
    rw [br] at aO
    have dn:(Lit.int .i64 (m:Int)).wf=true:=WalkArith.wf_i64 (by omega)
    go_wp2_with (first
     | (at_lookup;refine wpList_lookup_own_ok_int _ rfl _ _ 142 rfl 9 3 .i64 keyed_string Tryz.underlying142 Tryz.underlying3 (zero_int _) (w.heap.size+1) m D rfl ac.out _ _ rfl aE.out ?_;intro cc _ dN)
     | (at_mapUpdate;refine wpList_mapUpdate_own _ rfl _ _ _ 142 rfl 9 3 keyed_string Tryz.underlying142 (plainElem (H:=Unit) Tryz.prog 3) (w.heap.size+1) m D rfl ac.out (by unfold maxLen;omega) _ _ _ rfl rfl aE.out _ [] (plainElem_int Tryz.underlying3 dn) ?_))
    intro w3 aL cO
    have bZ:Touch (At (w.heap.size+1)) wr w3:=(Touch.of_below (F:=At (w.heap.size+1)) aA.out.below fun k hk h=>absurd hk (by omega)).then (Touch.of_grown cO fun k e=>by injection e with e;exact e.symm)
    have cj:=(cO.block _ (obj_lt cx.out) (fun e=>by injection e with e;omega)).trans cx.out
    obtain ⟨D3,dM⟩:∃ D3,D3=D.put (.string y.name.data.toList) (.lit (.int .i64 (m:Int)):DataW Unit):=⟨_,rfl⟩
    have bA:NamesMap w3 (w.heap.size+1) (m+1) (names++[y.name]):=⟨_,aL,names_put ac.out.isMap HD.out y.name _⟩
    have aT:Keeps (w.alloc (.cells #[.slice (some ad) N c] 30)) w3:=Touch.nothing (F:=At (w.heap.size+1)) ((Touch.of_below dI.out.below fun k hk h=>absurd hk (by omega)).then bZ) fun k hk h=>by rw [At] at h;simp at hk;omega
    have bz:Keeps w w3:=((Keeps.refl w).alloc _).trans aT
    have cr:TyAt w3 (.agg #[.int .i64 y.ty.kind,.slice A2 y.ty.of.length k2]) y.ty:=(bL.out.ty.touch bZ fun b hb h=>by rw [At] at h;omega).at
    have dj:VaAt w3 (.agg #[.int .i64 y.dflt.kind,.int .i64 y.dflt.int,.float .f64 y.dflt.fl,.string y.dflt.text,.slice A8 y.dflt.items.length k8]) y.dflt:=(bL.out.dv.touch bZ fun b hb h=>by rw [At] at h;omega).at
    have bg:=checkTypeTop_calls y.ty _ w3 cr
    clear d0 d1 d2 d3 d4 d5 d6 d7 d8 u2
    obtain ⟨⟨d0,d1,d2,d3,d4,d5,d6,d7,d8⟩,_⟩:=cells9 cj
    have u3:=obj_lt cj
    have bX:=Hi cj
    have aU:=Hi bA
    have aY:=Hi aT
    have aB:=Hi bz
    have cF:=Hi cr
    have cv:=Hi dj
    have bh:=Hi bi
    have bp:=Hi br
    clear cj bA aT bz cr dj bZ aL cO dM cx aA ac HD aO aE dn bi br bv
    by_cases aI:tyCheck y.ty 1=0
    case neg=>
     have HE:Hid (R=tyCheck y.ty 1):=Hi (by
      have:colCheck names y=tyCheck y.ty 1:=by unfold colCheck;rw [if_neg (by rw [bh.out];simp),if_neg (by rw [bp.out];simp),if_pos aI]
      have h2:colsCheck [] l=tyCheck y.ty 1:=by rw [af.out,this,if_neg aI]
      rw [HR.out,h2,if_neg aI])
     have qe:(tyCheck y.ty 1 != 0)=true:=by simpa using aI
     generalize tyCheck y.ty 1=E at bg HE qe
     have bF:=Hi bg
     clear bg aI
     go_wp2_with fail
     refine bF.out.mono ?_
     rintro e w4 ⟨rfl,ay⟩
     go_wp2
     go_ret
     exact ⟨by rw [HE.out];rfl,aB.out.trans ay⟩
    case pos=>
    rw [aI] at bg
    have bF:=Hi bg
    have bk:=Hi aI
    clear bg aI
    go_wp2_with fail
    refine bF.out.mono ?_
    rintro e w4 ⟨rfl,ay⟩
    have bD:=(ay.below.block _ (obj_lt bX.out)).trans bX.out
    have al:=cv.out.later ay.below
    have be:=cF.out.later ay.below
    clear d0 d1 d2 d3 d4 d5 d6 d7 d8 u3
    obtain ⟨⟨d0,d1,d2,d3,d4,d5,d6,d7,d8⟩,_⟩:=cells9 bD
    have u4:=obj_lt bD
    have cH:=Hi bD
    have b7:=Hi (aU.out.keeps ay)
    have ba:=Hi (aY.out.trans ay)
    have ap:=Hi (aB.out.trans ay)
    cases hh:y.has with
    | false=>
      rw [hh] at d3
      have bm:=sameValue_calls (SizeOf.sizeOf y.dflt+1) y.dflt vaZero _ _ w4 (by omega) al (zero_at w4)
      have HH:=Hi hh
      clear bD ay al be hh bX aU aY aB cF cv bF
      cases hs:Va.same y.dflt vaZero with
      | false=>
        rw [hs] at bm
        have HE:Hid (R=80):=Hi (by
         have:colCheck names y=80:=by unfold colCheck;rw [if_neg (by rw [bh.out];simp),if_neg (by rw [bp.out];simp),if_neg (by rw [bk.out];simp),if_pos HH.out,if_neg (by rw [hs];simp)]
         have h2:colsCheck [] l=80:=by rw [af.out,this];rfl
         rw [HR.out,h2];rfl)
        have ct:=Hi bm
        clear bm hs
        go_wp2_with fail
        refine ct.out.mono ?_
        rintro e w5 ⟨rfl,ai⟩
        go_wp2
        go_ret
        exact ⟨by rw [HE.out];rfl,ap.out.trans ai⟩
      | true=>
        rw [hs] at bm
        have HE:Hid (colsCheck [] l=colsCheck ((l.take (m+1)).map Col.name) (l.drop (m+1))):=Hi (by
         have:colCheck names y=0:=by unfold colCheck;rw [if_neg (by rw [bh.out];simp),if_neg (by rw [bp.out];simp),if_neg (by rw [bk.out];simp),if_pos HH.out,if_pos hs]
         rw [af.out,if_pos this])
        have ct:=Hi bm
        clear bm hs
        go_wp2_with fail
        refine ct.out.mono ?_
        rintro e w5 ⟨rfl,ai⟩
        have aZ:=Hi (b7.out.keeps ai)
        have aS:=Hi (ba.out.trans ai)
        clear ai
        go_wp2
        exact ⟨⟨m+1,by omega,by go_num,HE.out,by rw [cT.out];exact aZ.out,aS.out⟩,by simp [intOf];omega⟩
    | true=>
      rw [hh] at d3
      have bs:=vaCheckTop_calls y.dflt _ w4 al (dX.out.below ap.out.below)
      have HH:=Hi hh
      have bT:=Hi al
      have bC:=Hi be
      clear bD ay al be hh bX aU aY aB cF cv bF
      by_cases aK:vaCheck y.dflt 1=0
      case neg=>
       have HE:Hid (R=vaCheck y.dflt 1):=Hi (by
        have:colCheck names y=vaCheck y.dflt 1:=by unfold colCheck;rw [if_neg (by rw [bh.out];simp),if_neg (by rw [bp.out];simp),if_neg (by rw [bk.out];simp),if_neg (by rw [HH.out];simp),if_pos aK]
        have h2:colsCheck [] l=vaCheck y.dflt 1:=by rw [af.out,this,if_neg aK]
        rw [HR.out,h2,if_neg aK])
       have qe:(vaCheck y.dflt 1 != 0)=true:=by simpa using aK
       generalize vaCheck y.dflt 1=E at bs HE qe
       have ce:=Hi bs
       clear bs aK
       go_wp2_with fail
       refine ce.out.mono ?_
       rintro e w5 ⟨rfl,ai⟩
       go_wp2
       go_ret
       exact ⟨by rw [HE.out];rfl,ap.out.trans ai⟩
      case pos=>
      rw [aK] at bs
      have ce:=Hi bs
      have cS:=Hi aK
      clear bs aK
      go_wp2_with fail
      refine ce.out.mono ?_
      rintro e w5 ⟨rfl,ai⟩
      have cm:=(ai.below.block _ (obj_lt cH.out)).trans cH.out
      have bu:=of_calls (SizeOf.sizeOf y.dflt+1) y.dflt y.ty _ _ 1 1 w5 (by omega) (bT.out.later ai.below) (bC.out.later ai.below) cS.out bk.out
      clear d0 d1 d2 d3 d4 d5 d6 d7 d8 u4
      obtain ⟨⟨d0,d1,d2,d3,d4,d5,d6,d7,d8⟩,_⟩:=cells9 cm
      have u5:=obj_lt cm
      have aZ:=Hi (b7.out.keeps ai)
      have aS:=Hi (ba.out.trans ai)
      have cQ:=Hi (ap.out.trans ai)
      clear cm ai cH b7 ba ap ce bT bC
      cases hs:vaOf y.dflt y.ty with
      | false=>
        rw [hs] at bu
        have HE:Hid (R=80):=Hi (by
         have:colCheck names y=80:=by unfold colCheck;rw [if_neg (by rw [bh.out];simp),if_neg (by rw [bp.out];simp),if_neg (by rw [bk.out];simp),if_neg (by rw [HH.out];simp),if_neg (by rw [cS.out];simp),if_neg (by rw [hs];simp)]
         have h2:colsCheck [] l=80:=by rw [af.out,this];rfl
         rw [HR.out,h2];rfl)
        have cL:=Hi bu
        clear bu hs
        go_wp2_with fail
        refine cL.out.mono ?_
        rintro e w6 ⟨rfl,bG⟩
        go_wp2
        go_ret
        exact ⟨by rw [HE.out];rfl,cQ.out.trans bG⟩
      | true=>
        rw [hs] at bu
        have HE:Hid (colsCheck [] l=colsCheck ((l.take (m+1)).map Col.name) (l.drop (m+1))):=Hi (by
         have:colCheck names y=0:=by unfold colCheck;rw [if_neg (by rw [bh.out];simp),if_neg (by rw [bp.out];simp),if_neg (by rw [bk.out];simp),if_neg (by rw [HH.out];simp),if_neg (by rw [cS.out];simp),if_pos hs]
         rw [af.out,if_pos this])
        have cL:=Hi bu
        clear bu hs
        go_wp2_with fail
        refine cL.out.mono ?_
        rintro e w6 ⟨rfl,bG⟩
        have cq:=Hi (aZ.out.keeps bG)
        have cl:=Hi (aS.out.trans bG)
        clear bG
        go_wp2
        exact ⟨⟨m+1,by omega,by go_num,HE.out,by rw [cT.out];exact cq.out,cl.out⟩,by simp [intOf];omega⟩
  · have an:colsCheck [] l=0:=by
     rw [ag,List.drop_eq_nil_of_le (by rw [HL.out];omega),colsCheck]
    have hR:=HR.out
    rw [if_pos an] at hR
    have cB:wr.heap[w.heap.size]? = some (.cells #[.slice A N c] 30):=by
     rw [bQ.below.block w.heap.size (by simp)];exact obj_new w _
    obtain ⟨d0,_⟩:=cells1 cB
    have u1:=obj_lt cB
    have aH:=put_calls A c l wr ((HS.out.later aW.below).mono fun b _ hb=>by have:=aW.size;omega) (fun j hj=>by
     have aa:=List.getElem_mem hj
     obtain ⟨ns,bd⟩:=colsCheck_ok l [] an _ aa
     exact ⟨(colCheck_ok bd).2.2.1,HW.out _ aa⟩) (putS_bound (by rw [HL.out];exact bx) an HW.out)
    rw [HL.out] at aH
    generalize hP:putS l=P at aH hR
    have cw:=Hi aH
    have bI:=Hi hR
    have bH:=Hi aW
    clear aH hR aW bQ cB ag au an hP
    go_wp2_with fail
    refine cw.out.mono ?_
    rintro e w2 ⟨v2,rfl,a7,aD⟩
    obtain ⟨A',c',rfl,b5,_⟩:=a7.form
    clear a7
    generalize P.length=L at bI b5 ⊢
    by_cases hL:1024<L
    · have HE:Hid (R=2):=Hi (by rw [bI.out,if_pos hL])
      clear bI
      go_wp2
      go_ret
      exact ⟨by rw [HE.out];rfl,bH.out.trans aD⟩
    · have HE:Hid (R=0):=Hi (by rw [bI.out,if_neg hL])
      have e7:L≤1024:=by omega
      clear bI hL
      go_wp2
      go_ret
      exact ⟨by rw [HE.out];rfl,bH.out.trans aD⟩
def EncPost (w:World) (l:List Col) (e:Ending) (w':World):Prop:=
 if schCheck l=0 then ∃ A c,e=.returned (.tuple #[.slice A (putS l).length c,.int .i64 0])∧OwnB 5 w' w.heap.size (.slice A (putS l).length c) (putS l)∧Keeps w w'
 else e=.returned (.tuple #[.slice none 0 0,.int .i64 (schCheck l)])∧Keeps w w'
theorem schEncode_calls (A:Option Addr) (c:Nat) (l:List Col) (w:World) (hs:SchS w (fun b=>b<w.heap.size) A l) (hw:∀ x∈l,x.dflt.wf) (bc:∀ x∈l,x.name.size≤140737488355328) (b8:Tabs w) :
 Calls Tryz.prog 84 #[.agg #[.slice A l.length c]] w (EncPost w l):=by
 obtain ⟨W0,aF⟩:∃ W0,W0=w.alloc (.cells #[.slice A l.length c] 30):=⟨_,rfl⟩
 have c9:Keeps w W0:=by rw [aF];exact (Keeps.refl w).alloc _
 have dw:W0.heap[w.heap.size]? = some (.cells #[.slice A l.length c] 30):=by rw [aF];exact obj_new w _
 have aM:=(hs.later c9.below).mono (S':=fun b=>b<W0.heap.size) fun b hb _=>hb
 have an:=check_calls A c l W0 aM hw bc (b8.below c9.below)
 have dy:=Hi c9
 have bY:=Hi dw
 have ds:=Hi aM
 have HW:=Hi hw
 clear c9 dw aM hs bc b8
 by_cases hz:schCheck l=0
 · have b6:=hz
   unfold schCheck at b6
   have bo:l.length≤16:=by
    split at b6
    · omega
    split at b6
    · omega
    · omega
   have cy:colsCheck [] l=0:=by
    split at b6
    · omega
    split at b6
    · omega
    split at b6
    · assumption
    · contradiction
   have aN:∀ j (h:j<l.length),(l[j]'h).puts:=fun j hj=>by
    have aa:=List.getElem_mem hj
    obtain ⟨ns,bd⟩:=colsCheck_ok l [] cy _ aa
    exact ⟨(colCheck_ok bd).2.2.1,hw _ aa⟩
   have db:=putS_bound bo cy hw
   rw [hz] at an
   have HE:Hid (∀ e w',(∃ A c,e=.returned (.tuple #[.slice A (putS l).length c,.int .i64 0])∧OwnB 5 w' w.heap.size (.slice A (putS l).length c) (putS l)∧Keeps w w')→EncPost w l e w'):=Hi fun e w' h=>by unfold EncPost;rw [if_pos hz];exact h
   have bl:=Hi an
   have dG:=Hi aN
   have dC:=Hi db
   clear an aN db b6 cy hz hw
   generalize bJ:l.length=N at bo aF bY bl ⊢
   have HL:=Hi bJ
   clear bJ
   go_enter Tryz.func84,Tryz.ntmps84
   go_wp2_with fail
   rw [← aF]
   clear aF
   refine bl.out.mono ?_
   rintro e w1 ⟨rfl,ak⟩
   have az:=(ak.below.block _ (obj_lt bY.out)).trans bY.out
   obtain ⟨d0,_⟩:=cells1 az
   have u1:=obj_lt az
   have aH:=put_calls A c l w1 ((ds.out.later ak.below).mono fun b hb _=>hb) dG.out dC.out
   rw [HL.out] at aH
   have cw:=Hi aH
   have aj:=Hi (dy.out.trans ak)
   clear aH ak az bl
   go_wp2_with fail
   refine cw.out.mono ?_
   rintro e w2 ⟨v2,rfl,a7,aD⟩
   obtain ⟨A',c',rfl,b5,_⟩:=a7.form
   have a6:=a7.weaken aj.out.size
   have HO:=Hi a6
   have bN:=Hi (aj.out.trans aD)
   clear a7 aD a6
   go_wp2
   go_ret2
   exact HE.out _ _ ⟨A',c',rfl,HO.out,bN.out⟩
 · have HE:Hid (∀ e w',(e=.returned (.tuple #[.slice none 0 0,.int .i64 (schCheck l)])∧Keeps w w')→EncPost w l e w'):=Hi fun e w' h=>by unfold EncPost;rw [if_neg hz];exact h
   have qe:(schCheck l != 0)=true:=by simpa using hz
   generalize schCheck l=E at an qe HE
   have bl:=Hi an
   clear an hz hw bY ds HW
   generalize l.length=N at aF bl ⊢
   go_enter Tryz.func84,Tryz.ntmps84
   go_wp2_with fail
   rw [← aF]
   clear aF
   refine bl.out.mono ?_
   rintro e w1 ⟨rfl,ak⟩
   go_wp2
   go_ret2
   exact HE.out _ _ ⟨rfl,dy.out.trans ak⟩
end
def nz:List UInt8→List UInt8
 | []=>[]
 | b :: l=>if b=0 then [] else b :: nz l
def grp (l:List UInt8):List UInt8:=nz (l.take 254)
theorem nz_yes {b:UInt8} (l:List UInt8) (h:b=0):nz (b :: l)=[]:=by simp [nz,h]
theorem nz_on {b:UInt8} (l:List UInt8) (h:b≠0):nz (b :: l)=b :: nz l:=by simp [nz,h]
theorem nz_append (l:List UInt8):l=nz l++l.drop (nz l).length:=by
 induction l with
 | nil=>rfl
 | cons b l ih=>
   by_cases h:b=0
   · rw [nz_yes l h];rfl
   · rw [nz_on l h];simp only [List.cons_append,List.length_cons,List.drop_succ_cons];rw [← ih]
theorem nz_no (l:List UInt8):(0:UInt8)∉nz l:=by
 induction l with
 | nil=>simp [nz]
 | cons b l ih=>
   by_cases h:b=0
   · rw [nz_yes l h];simp
   · rw [nz_on l h]
     simp only [List.mem_cons,not_or]
     exact ⟨fun e=>h e.symm,ih⟩
theorem nz_stop (l:List UInt8) (h:(nz l).length<l.length):l.getD (nz l).length 1=0:=by
 induction l with
 | nil=>simp [nz] at h
 | cons b l ih=>
   by_cases hb:b=0
   · rw [nz_yes l hb]
     simpa using hb
   · rw [nz_on l hb] at h ⊢
     simp only [List.length_cons,List.getD_cons_succ] at h ⊢
     exact ih (by omega)
theorem nz_le (l:List UInt8):(nz l).length≤l.length:=by
 have:=congrArg List.length (nz_append l)
 rw [List.length_append] at this
 omega
theorem nz_all (l:List UInt8) (h:(0:UInt8)∉l):nz l=l:=by
 induction l with
 | nil=>rfl
 | cons b l ih=>
   simp only [List.mem_cons,not_or] at h
   rw [nz_on l (fun e=>h.1 e.symm),ih h.2]
theorem nz_zero (g r:List UInt8) (h:(0:UInt8)∉g):nz (g++0 :: r)=g:=by
 induction g with
 | nil=>simp [nz]
 | cons b g ih=>
   simp only [List.mem_cons,not_or] at h
   rw [List.cons_append,nz_on _ (fun e=>h.1 e.symm),ih h.2]
theorem grp_le (l:List UInt8):(grp l).length≤254∧(grp l).length≤l.length:=by
 have:=nz_le (l.take 254)
 rw [List.length_take] at this
 unfold grp
 omega
theorem grp_no (l:List UInt8):(0:UInt8)∉grp l:=nz_no _
theorem grp_append (l:List UInt8):l=grp l++l.drop (grp l).length:=by
 have h:=nz_append (l.take 254)
 have h2:=grp_le l
 have e:l.take (grp l).length=grp l:=by
  have:=congrArg (List.take (grp l).length) h
  rw [List.take_take,Nat.min_eq_left h2.1] at this
  rw [this]
  unfold grp
  rw [List.take_left]
 rw [← e,List.length_take,Nat.min_eq_left h2.2,List.take_append_drop]
theorem grp_stop (l:List UInt8) (h:(grp l).length<254) (h2:(grp l).length<l.length):l[(grp l).length]'h2=0:=by
 have hs:=nz_stop (l.take 254) (by rw [List.length_take];unfold grp at h h2;omega)
 rw [show (nz (l.take 254)).length=(grp l).length from rfl,List.getD_eq_getElem?_getD,List.getElem?_take,if_pos h,List.getElem?_eq_getElem h2] at hs
 exact hs
def groupsOf (l:List UInt8):List (List UInt8):=
 grp l :: (if h:l.length≤(grp l).length then [] else if (grp l).length<254 then groupsOf (l.drop ((grp l).length+1)) else groupsOf (l.drop 254))
termination_by l.length
decreasing_by all_goals (simp only [List.length_drop];omega)
theorem groups_last (l:List UInt8) (h:l.length≤(grp l).length):groupsOf l=[grp l]:=by rw [groupsOf,dif_pos h]
theorem groups_less (l:List UInt8) (h:(grp l).length<l.length) (h2:(grp l).length<254):groupsOf l=grp l :: groupsOf (l.drop ((grp l).length+1)):=by
 rw [groupsOf,dif_neg (by omega),if_pos h2]
theorem groups_full (l:List UInt8) (h:(grp l).length<l.length) (h2:(grp l).length=254):groupsOf l=grp l :: groupsOf (l.drop 254):=by
 rw [groupsOf,dif_neg (by omega),if_neg (by omega)]
def one (g:List UInt8):List UInt8:=UInt8.ofNat (g.length+1) :: g
def stuffed (gs:List (List UInt8)):List UInt8:=gs.flatMap one
def stuffOf (l:List UInt8):List UInt8:=stuffed (groupsOf l)
theorem stuffed_append (a b:List (List UInt8)):stuffed (a++b)=stuffed a++stuffed b:=by simp [stuffed]
theorem stuffed_snoc (a:List (List UInt8)) (g:List UInt8):stuffed (a++[g])=(stuffed a++[UInt8.ofNat (g.length+1)])++g:=by simp [stuffed,one]
theorem stuff_last (l:List UInt8) (h:l.length≤(grp l).length):grp l=l∧stuffOf l=UInt8.ofNat (l.length+1) :: l:=by
 have e:=grp_append l
 rw [List.drop_eq_nil_of_le h,List.append_nil] at e
 refine ⟨e.symm, ?_⟩
 unfold stuffOf
 rw [groups_last l h,← e]
 simp [stuffed,one]
theorem stuff_less (l:List UInt8) (h:(grp l).length<l.length) (h2:(grp l).length<254) :
 l=grp l++0 :: l.drop ((grp l).length+1)∧stuffOf l=UInt8.ofNat ((grp l).length+1) :: (grp l++stuffOf (l.drop ((grp l).length+1))):=by
 refine ⟨?_, ?_⟩
 · have e:=grp_append l
   rw [List.drop_eq_getElem_cons h,grp_stop l h2 h] at e
   exact e
 · unfold stuffOf
   rw [groups_less l h h2]
   simp [stuffed,one]
theorem stuff_full (l:List UInt8) (h:(grp l).length<l.length) (h2:(grp l).length=254) :
 l=grp l++l.drop 254∧l.drop 254≠[]∧stuffOf l=UInt8.ofNat 255 :: (grp l++stuffOf (l.drop 254)):=by
 refine ⟨?_, ?_, ?_⟩
 · have e:=grp_append l
   rw [h2] at e
   exact e
 · intro e
   have:=congrArg List.length e
   simp at this
   omega
 · unfold stuffOf
   rw [groups_full l h h2]
   simp [stuffed,one,h2]
theorem stuff_ne (l:List UInt8):stuffOf l≠[]:=by
 unfold stuffOf
 rw [groupsOf]
 simp [stuffed,one]
theorem by_groups {p:List UInt8→Prop} (h1:∀ l,l.length≤(grp l).length→p l) (h2:∀ l,(grp l).length<l.length→(grp l).length<254→p (l.drop ((grp l).length+1))→p l)
 (h3:∀ l,(grp l).length<l.length→(grp l).length=254→p (l.drop 254)→p l):∀ l,p l:=by
 have main:∀ n (l:List UInt8),l.length≤n→p l:=by
  intro n
  induction n with
  | zero=>intro l hl;exact h1 l (by omega)
  | succ n ih=>
    intro l hl
    by_cases a:l.length≤(grp l).length
    · exact h1 l a
    · by_cases b:(grp l).length<254
      · exact h2 l (by omega) b (ih _ (by rw [List.length_drop];omega))
      · have:=(grp_le l).1
        exact h3 l (by omega) (by omega) (ih _ (by rw [List.length_drop];omega))
 exact fun l=>main l.length l (Nat.le_refl _)
theorem ofNat_toNat (n:Nat) (h:n≤254):(UInt8.ofNat (n+1)).toNat=n+1:=by rw [UInt8.toNat_ofNat'];omega
theorem stuff_no (l:List UInt8):(0:UInt8)∉stuffOf l:=by
 have aw:∀ n,n≤254→(0:UInt8)≠UInt8.ofNat (n+1):=fun n hn e=>by
  have:=congrArg UInt8.toNat e
  rw [ofNat_toNat n hn] at this
  simp at this
 refine by_groups (p:=fun l=>(0:UInt8)∉stuffOf l) (fun l h=>?_) (fun l h h2 ih=>?_) (fun l h h2 ih=>?_) l
 · obtain ⟨e,e2⟩:=stuff_last l h
   have:=grp_no l
   have hl:=(grp_le l).1
   rw [e] at this hl
   rw [e2,List.mem_cons,not_or]
   exact ⟨aw _ hl,this⟩
 · obtain ⟨_,e2⟩:=stuff_less l h h2
   rw [e2,List.mem_cons,List.mem_append,not_or,not_or]
   exact ⟨aw _ (by omega),grp_no l,ih⟩
 · obtain ⟨_,_,e2⟩:=stuff_full l h h2
   rw [e2,List.mem_cons,List.mem_append,not_or,not_or]
   exact ⟨aw 254 (by omega),grp_no l,ih⟩
theorem stuff_length (l:List UInt8):l.length<(stuffOf l).length∧(stuffOf l).length≤l.length+1+l.length / 254:=by
 refine by_groups (p:=fun l=>l.length<(stuffOf l).length∧(stuffOf l).length≤l.length+1+l.length / 254) (fun l h=>?_) (fun l h h2 ih=>?_) (fun l h h2 ih=>?_) l
 · obtain ⟨e,e2⟩:=stuff_last l h
   rw [e2,List.length_cons]
   omega
 · obtain ⟨_,e2⟩:=stuff_less l h h2
   rw [e2,List.length_cons,List.length_append]
   rw [List.length_drop] at ih
   omega
 · obtain ⟨_,_,e2⟩:=stuff_full l h h2
   rw [e2,List.length_cons,List.length_append]
   rw [List.length_drop] at ih
   omega
/-! ### taken back -/
def unGo (s b:List UInt8) (full:Bool):List UInt8×Int:=
 match s with
 | []=>(b,0)
 | c :: t=>
   if t.length<c.toNat-1 then ([],30)
   else if t.length≤c.toNat-1 then (if full&&c.toNat-1==0 then ([],5) else (b++t.take (c.toNat-1),0))
   else unGo (t.drop (c.toNat-1)) (b++t.take (c.toNat-1)++(if c.toNat-1=254 then [] else [0])) (c.toNat-1==254)
termination_by s.length
decreasing_by (simp only [List.length_drop,List.length_cons];omega)
def unstuffOf (s:List UInt8):List UInt8×Int:=if 0∈s then ([],40) else if s.length=0 then ([],30) else unGo s [] false
theorem unGo_cons (c:UInt8) (t b:List UInt8) (full:Bool):unGo (c :: t) b full =
 if t.length<c.toNat-1 then ([],30)
 else if t.length≤c.toNat-1 then (if full&&c.toNat-1==0 then ([],5) else (b++t.take (c.toNat-1),0))
 else unGo (t.drop (c.toNat-1)) (b++t.take (c.toNat-1)++(if c.toNat-1=254 then [] else [0])) (c.toNat-1==254):=by rw [unGo]
theorem unGo_stuff (l:List UInt8):∀ (b:List UInt8) (full:Bool),(full=true→l≠[])→unGo (stuffOf l) b full=(b++l,0):=by
 refine by_groups (p:=fun l=>∀ (b:List UInt8) (full:Bool),(full=true→l≠[])→unGo (stuffOf l) b full=(b++l,0)) (fun l h b full hf=>?_) (fun l h h2 ih b full hf=>?_) (fun l h h2 ih b full hf=>?_) l
 · obtain ⟨e,e2⟩:=stuff_last l h
   have hl:=(grp_le l).1
   rw [e] at hl
   rw [e2,unGo_cons,ofNat_toNat _ hl,Nat.add_sub_cancel,if_neg (by omega),if_pos (Nat.le_refl _),List.take_length]
   rw [if_neg]
   intro hc
   simp only [Bool.and_eq_true,beq_iff_eq] at hc
   exact hf hc.1 (List.eq_nil_of_length_eq_zero hc.2)
 · obtain ⟨e1,e2⟩:=stuff_less l h h2
   have hn:=stuff_ne (l.drop ((grp l).length+1))
   have hp:=List.length_pos_iff.2 hn
   rw [e2,unGo_cons,ofNat_toNat _ (by omega),Nat.add_sub_cancel,if_neg (by rw [List.length_append];omega),if_neg (by rw [List.length_append];omega),List.drop_left,List.take_left,if_neg (by omega),
    show (((grp l).length==254)=false) by rw [beq_eq_false_iff_ne];omega,ih _ false (fun h=>by cases h)]
   rw [List.append_assoc,List.append_assoc]
   conv=>rhs;rw [e1]
   simp
 · obtain ⟨e1,e0,e2⟩:=stuff_full l h h2
   have hn:=stuff_ne (l.drop 254)
   have hp:=List.length_pos_iff.2 hn
   rw [e2,unGo_cons,ofNat_toNat 254 (by omega),show 254+1-1=(grp l).length by omega,if_neg (by rw [List.length_append];omega),if_neg (by rw [List.length_append];omega),List.drop_left,List.take_left,if_pos h2,
    show (((grp l).length==254)=true) by rw [beq_iff_eq];omega,ih _ true (fun _=>e0)]
   rw [List.append_nil,List.append_assoc]
   conv=>rhs;rw [e1]
theorem unstuff_stuff (l:List UInt8):unstuffOf (stuffOf l)=(l,0):=by
 have hp:=List.length_pos_iff.2 (stuff_ne l)
 unfold unstuffOf
 rw [if_neg (stuff_no l),if_neg (by omega),unGo_stuff l [] false (fun h=>by cases h)]
 rfl
theorem stuff_unGo:∀ (n:Nat) (s b:List UInt8) (full:Bool) (d:List UInt8),s.length≤n→(0:UInt8)∉s→s≠[]→unGo s b full=(d,0)→∃ e,d=b++e∧stuffOf e=s∧(full=true→e≠[]):=by
 intro n
 induction n with
 | zero=>intro s b full d hn h0 aw;exact absurd (List.eq_nil_of_length_eq_zero (by omega)) aw
 | succ n ih=>
   intro s b full d hn h0 aw h
   cases s with
   | nil=>exact absurd rfl aw
   | cons c t=>
     simp only [List.mem_cons,not_or] at h0
     have cZ:c.toNat≠0:=fun e=>h0.1 (UInt8.toNat_inj.1 (by simpa using e.symm))
     have de:c.toNat<256:=UInt8.toNat_lt c
     obtain ⟨k,hk⟩:∃ k,c.toNat=k+1:=⟨c.toNat-1,by omega⟩
     have dd:UInt8.ofNat (k+1)=c:=by apply UInt8.toNat_inj.1;rw [ofNat_toNat k (by omega),hk]
     rw [unGo_cons,hk,Nat.add_sub_cancel] at h
     by_cases a1:t.length<k
     · rw [if_pos a1] at h;simp at h
     · rw [if_neg a1] at h
       have cU:(0:UInt8)∉t.take k:=fun e=>h0.2 (List.mem_of_mem_take e)
       have bV:(t.take k).length=k:=by rw [List.length_take];omega
       have d9:t=t.take k++t.drop k:=(List.take_append_drop k t).symm
       by_cases a2:t.length≤k
       · rw [if_pos a2] at h
         have bj:t.take k=t:=List.take_of_length_le a2
         by_cases a3:(full&&k==0)=true
         · rw [if_pos a3] at h;simp at h
         · rw [if_neg a3,bj] at h
           have hd:d=b++t:=(Prod.mk.inj h).1.symm
           have aC:grp t=t:=by
            unfold grp
            rw [List.take_of_length_le (by omega)]
            exact nz_all t h0.2
           refine ⟨t,hd, ?_,fun hf e=>?_⟩
           · rw [(stuff_last t (by rw [aC];omega)).2,show t.length=k by omega,dd]
           · subst e
             simp only [List.length_nil] at a1
             simp [hf] at a3
             omega
       · rw [if_neg a2] at h
         have e4:t.drop k≠[]:=fun e=>by have:=congrArg List.length e;simp at this;omega
         have e3:(0:UInt8)∉t.drop k:=fun e=>h0.2 (List.mem_of_mem_drop e)
         obtain ⟨e,h1,h2,h3⟩:=ih (t.drop k) _ _ d (by rw [List.length_drop];simp only [List.length_cons] at hn;omega) e3 e4 h
         by_cases a3:k=254
         · subst a3
           rw [if_pos rfl,List.append_nil] at h1
           have dc:=h3 rfl
           have aQ:grp (t.take 254++e)=t.take 254:=by
            unfold grp
            rw [List.take_append_of_le_length (by omega),List.take_of_length_le (by omega)]
            exact nz_all _ cU
           have ee:=List.length_pos_iff.2 dc
           have aJ:=stuff_full (t.take 254++e) (by rw [aQ,List.length_append];omega) (by rw [aQ];exact bV)
           refine ⟨t.take 254++e,by rw [h1,List.append_assoc], ?_,fun _ h=>by simp at h;exact dc h.2⟩
           have bq:(t.take 254++e).drop 254=e:=by
            have hh:=List.drop_left (l₁:=t.take 254) (l₂:=e)
            rwa [bV] at hh
           rw [aJ.2.2,aQ,bq,h2,← d9]
           congr 1
         · rw [if_neg a3] at h1
           have aQ:grp (t.take k++0 :: e)=t.take k:=by
            unfold grp
            obtain ⟨m,hm⟩:∃ m,254=(t.take k).length+(m+1):=⟨254-k-1,by omega⟩
            rw [hm,List.take_append,List.take_of_length_le (by omega),Nat.add_sub_cancel_left,List.take_succ_cons]
            exact nz_zero _ _ cU
           have aJ:=stuff_less (t.take k++0 :: e) (by rw [aQ,List.length_append,List.length_cons];omega) (by rw [aQ];omega)
           refine ⟨t.take k++0 :: e,by rw [h1];simp, ?_,fun _ h=>by simp at h⟩
           have bq:(t.take k++0 :: e).drop ((t.take k).length+1)=e:=by
            rw [List.drop_append,List.drop_eq_nil_of_le (by omega),Nat.add_sub_cancel_left]
            rfl
           rw [aJ.2,aQ,bq,h2,← d9,bV,dd]
theorem stuff_unstuff (s d:List UInt8) (h:unstuffOf s=(d,0)):stuffOf d=s:=by
 unfold unstuffOf at h
 by_cases a:(0:UInt8)∈s
 · rw [if_pos a] at h;simp at h
 · rw [if_neg a] at h
   by_cases b:s.length=0
   · rw [if_pos b] at h;simp at h
   · rw [if_neg b] at h
     obtain ⟨e,h1,h2,_⟩:=stuff_unGo s.length s [] false d (Nat.le_refl _) a (fun e=>b (by rw [e];rfl)) h
     rw [h1,List.nil_append]
     exact h2
section
open Go.RowKit Go.BigFrame
def idx (l:List UInt8):Int:=if (nz l).length<l.length then ((nz l).length:Int) else -1
theorem idx_eq (l:List UInt8):Go.Lib.indexByte l 0=idx l:=by
 unfold idx
 induction l with
 | nil=>rfl
 | cons b l ih=>
   unfold Go.Lib.indexByte
   have e5:=nz_le l
   by_cases h:b=0
   · rw [nz_yes l h,if_pos (by rw [h];rfl)]
     simp
   · have hb:(b==(0:UInt8))=false:=by simpa using h
     rw [nz_on l h]
     simp only [hb,Bool.false_eq_true,if_false,List.length_cons]
     by_cases h2:(nz l).length<l.length
     · rw [if_pos h2] at ih
       rw [ih,if_neg (by rw [beq_iff_eq];omega),if_pos (by omega)]
       rfl
     · rw [if_neg h2] at ih
       rw [ih,if_pos (by rfl),if_neg (by omega)]
theorem bytesOf_nums (l:List UInt8):Go.Lib.bytesOf (l.map fun b=>((b.toNat:Nat):Int))=l:=by
 unfold Go.Lib.bytesOf
 rw [List.map_map]
 have:((fun n:Int=>UInt8.ofNat n.toNat) ∘ fun b:UInt8=>((b.toNat:Nat):Int))=id:=by
  funext b
  simp
 rw [this,List.map_id]
theorem info_u8:(Tryz.prog.info? 5).map (fun i=>(i.zero,i.size,i.bytes))=some (some (.int .u8 0),1,1):=by kernel_rfl
theorem idx_calls (A:Option Addr) (c:Nat) (l:List UInt8) (w:World) (hr:Reads w A l) :
 Calls Tryz.prog 61 #[.slice A l.length c,.int .u8 0] w fun e w'=>e=.returned (.int .i64 (idx l))∧w=w':=by
 have cu:(Extern.BytealgIndexByte.indexByte #[.slice A l.length c,.int .u8 0]).run Tryz.prog w=.ok (.int .i64 (idx l)) w:=by
  cases A with
  | none=>
    have:=hr.none
    subst this
    exact Go.Lib.run_indexByteNil w 0 c 0
  | some a=>
    have h:=Go.Lib.run_indexByteAt (P:=Tryz.prog) w a l.length c (l.map fun b=>((b.toNat:Nat):Int)) (by simp) (fun i hi=>by
     obtain ⟨ad,e,hc⟩:=hr.out i hi
     cases e
     rw [hc]
     simp [List.getD_eq_getElem?_getD,hi]) 0
    rw [bytesOf_nums] at h
    rw [h]
    have:((0:Int).toNat.toUInt8)=(0:UInt8):=rfl
    rw [this,idx_eq]
 clear hr
 go_enter Tryz.func61,Tryz.ntmps61
 go_wp2
 rw [run_callFunc_extern Tryz.func91 (by kernel_rfl) (by kernel_rfl) (by kernel_rfl) (e:=Extern.BytealgIndexByte.indexByte) (by kernel_rfl),cu]
 simp only [Result.andThen]
 rw [Oper.upon_value]
 go_wp2
 go_ret
 exact ⟨rfl,rfl⟩
def lenV:Value→Nat
 | .slice _ n _=>n
 | _=>0
theorem Reads.far {w:World} {Z:Option Addr} {l:List UInt8} (h:Reads w Z l) (n:Nat):Reads w (Option.map (fun x=>x.add n) Z) (l.drop n):=by
 refine h.drop_any n _ fun hn ad e=>?_
 subst e
 rfl
def far1A (c n:Nat) (Z:Option Addr):Option Addr:=if c-n=1 then Option.map (fun x=>x.add n) Z else Option.map ((fun x=>(⟨x.block,x.off+1,Option.none⟩:Addr)) ∘ fun x=>x.add n) Z
theorem Reads.far1 {w:World} {Z:Option Addr} {l:List UInt8} {c n:Nat} (h:Reads w Z l) (hc:l.length≤c):Reads w (far1A c n Z) (l.drop (n+1)):=by
 unfold far1A
 refine h.drop_any (n+1) _ fun hn ad e=>?_
 subst e
 rw [if_neg (by omega),← addr_add_add,addr_add_pos (ad.add n) 1 (by omega)]
 rfl
def Tells (F:Nat) (p:Addr) (w0:World) (N:Nat) (I:List (List UInt8)→World→Prop):Prop:=
 ∀ gs g A c w,I gs w→Reads w0 A g→g.length≤254→(stuffed (gs++[g])).length≤N→Calls Tryz.prog F #[.slice A g.length c,.pointer (some p)] w fun e w'=>e=.returned (.tuple #[])∧I (gs++[g]) w'
theorem groups_head (l:List UInt8):∃ r,groupsOf l=grp l :: r:=⟨_,by rw [groupsOf]⟩
theorem told_le {gs:List (List UInt8)} {l b:List UInt8} {N:Nat} (h:gs++groupsOf l=groupsOf b) (hN:(stuffOf b).length≤N):(stuffed (gs++[grp l])).length≤N:=by
 obtain ⟨r,hr⟩:=groups_head l
 unfold stuffOf at hN
 rw [← h,hr,show gs++grp l :: r=(gs++[grp l])++r by simp,stuffed_append,List.length_append] at hN
 omega
def GroupsRel (w0:World) (I:List (List UInt8)→World→Prop) (b:List UInt8) (s:Value) (wr:World):Prop:=
 ∃ (gs:List (List UInt8)) (l:List UInt8) (A:Option Addr) (c:Nat),s=.slice A l.length c∧l.length≤c∧Reads w0 A l∧I gs wr∧gs++groupsOf l=groupsOf b∧l.length≤b.length
theorem groups_calls (F:Nat) (bW:∀ (args:Array Value) (w:World),(callFunc F args).run Tryz.prog w=.ok (.enter F args) w) (p:Addr) (w0 w:World) (I:List (List UInt8)→World→Prop) (hI:∀ gs w',I gs w'→Keeps w0 w') (N:Nat) (hT:Tells F p w0 N I)
 (A:Option Addr) (c:Nat) (b:List UInt8) (hl:b.length≤1099511627776) (hN:(stuffOf b).length≤N) (hc:b.length≤c) (hr:Reads w0 A b) (h0:I [] w) :
 Calls Tryz.prog 108 #[.slice A b.length c,.func (.func F) #[] #[.pointer (some p)]] w fun e w'=>e=.returned (.tuple #[])∧I (groupsOf b) w':=by
 have HI:=Hi hI
 have HT:=Hi hT
 have HR:=Hi hr
 have H0:=Hi h0
 clear hI hT hr h0
 go_enter Tryz.func108,Tryz.ntmps108
 go_wp2
 go_loopw [0] (fun s wr=>GroupsRel w0 I b s wr) (fun s _=>lenV s)
 case atStart=>exact ⟨[],b,A,c,rfl,hc,HR.out,H0.out,rfl,Nat.le_refl _⟩
 case round=>
  obtain ⟨gs,l,A1,c1,rfl,b5,bf,cW,ci,ea⟩:=hrel
  have cd:=Hi bf
  have bU:=Hi cW
  have cg:=Hi ci
  clear bf cW ci H0
  have hK:=HI.out _ _ bU.out
  have cs:=Hi (told_le cg.out hN)
  have hm:(min ((l.length:Nat):Int) 254).toNat=(l.take 254).length:=by rw [List.length_take];omega
  have HM:=Hi hm
  have cV:Reads wr A1 (l.take 254):=(cd.out.below hK.below).take 254
  have aP:=Hi cV
  have bV:=grp_le l
  have dr:=nz_le (l.take 254)
  have dm:Reads w0 A1 (grp l):=by
   have e:l.take (grp l).length=grp l:=by
    have:=congrArg (List.take (grp l).length) (grp_append l)
    rwa [List.take_left] at this
   have h2:=cd.out.take (grp l).length
   rwa [e] at h2
  have ck:=Hi dm
  have e9:(l.take 254).length≤254∧(l.take 254).length≤l.length:=by rw [List.length_take];omega
  have aC:(grp l).length=(nz (l.take 254)).length:=rfl
  clear hm cV dm hK
  by_cases av:(grp l).length<l.length
  · by_cases bK:(grp l).length<254
    · have ah:(nz (l.take 254)).length<(l.take 254).length:=by rw [← aC,List.length_take];omega
      have ab:idx (l.take 254)=((grp l).length:Int):=by unfold idx;rw [if_pos ah];rfl
      have HG:=Hi (groups_less l av bK)
      have bO:=Hi ab
      have ec:(grp l).length<(l.take 254).length:=by rw [aC];exact ah
      clear ab aC ah
      generalize hn:(grp l).length=n at *
      have HN:=Hi hn
      clear hn
      go_wp2_with fail
      rw [HM.out]
      refine (at_value (b:=(n:Int)) bO.out (idx_calls A1 c1 _ wr aP.out)).mono ?_
      rintro e w1 ⟨rfl,rfl⟩
      go_wp2_with fail
      rw [← HN.out]
      refine (HT.out gs (grp l) A1 c1 wr bU.out ck.out (by rw [HN.out];omega) cs.out).mono ?_
      rintro e w1 ⟨rfl,aG⟩
      have bB:=Hi aG
      clear aG
      rw [HN.out]
      go_wp2
      refine ⟨⟨gs++[grp l],l.drop (n+1),far1A c1 n A1,c1-n-1, ?_, ?_, ?_,bB.out, ?_, ?_⟩, ?_⟩
      · unfold far1A;rw [List.length_drop,← Nat.sub_sub]
      · rw [List.length_drop];omega
      · exact cd.out.far1 b5
      · rw [List.append_assoc,← cg.out,HG.out];rfl
      · rw [List.length_drop];omega
      · simp [lenV];omega
    · have bb:(grp l).length=254:=by omega
      have bS:¬(nz (l.take 254)).length<(l.take 254).length:=by rw [← aC];omega
      have ab:idx (l.take 254) = -1:=by unfold idx;rw [if_neg bS]
      have HG:=Hi (groups_full l av bb)
      have bO:=Hi ab
      have cI:=Hi (show (l.take 254).length=(grp l).length by omega)
      clear ab aC bS dr
      generalize hn:(grp l).length=n at *
      have HN:=Hi hn
      have cP:=Hi bb
      clear hn bb
      go_wp2_with fail
      rw [HM.out]
      refine (at_value (b:=(-1:Int)) bO.out (idx_calls A1 c1 _ wr aP.out)).mono ?_
      rintro e w1 ⟨rfl,rfl⟩
      rw [cI.out]
      go_wp2_with fail
      rw [← HN.out]
      refine (HT.out gs (grp l) A1 c1 wr bU.out ck.out (by rw [HN.out];omega) cs.out).mono ?_
      rintro e w1 ⟨rfl,aG⟩
      have bB:=Hi aG
      clear aG
      rw [HN.out]
      go_wp2
      refine ⟨⟨gs++[grp l],l.drop n,Option.map (fun x=>x.add n) A1,c1-n, ?_, ?_, ?_,bB.out, ?_, ?_⟩, ?_⟩
      · rw [List.length_drop]
      · rw [List.length_drop];omega
      · exact cd.out.far n
      · rw [List.append_assoc,← cg.out,HG.out,cP.out];rfl
      · rw [List.length_drop];omega
      · simp [lenV];omega
  · have bM:l.length≤(grp l).length:=by omega
    have bS:¬(nz (l.take 254)).length<(l.take 254).length:=by rw [← aC];omega
    have ab:idx (l.take 254) = -1:=by unfold idx;rw [if_neg bS]
    have HG:=Hi (groups_last l bM)
    have bO:=Hi ab
    have cI:=Hi (show (l.take 254).length=(grp l).length by omega)
    have hz:l.length-(grp l).length=0:=by omega
    clear ab aC bS dr
    generalize hn:(grp l).length=n at *
    have HN:=Hi hn
    clear hn av
    go_wp2_with fail
    rw [HM.out]
    refine (at_value (b:=(-1:Int)) bO.out (idx_calls A1 c1 _ wr aP.out)).mono ?_
    rintro e w1 ⟨rfl,rfl⟩
    rw [cI.out]
    go_wp2_with fail
    rw [← HN.out]
    refine (HT.out gs (grp l) A1 c1 wr bU.out ck.out (by rw [HN.out];omega) cs.out).mono ?_
    rintro e w1 ⟨rfl,aG⟩
    have bB:=Hi (show I (groupsOf b) w1 by rw [← cg.out,HG.out];exact aG)
    clear aG
    rw [HN.out]
    go_wp2
    all_goals (refine bodyPost_ret (results_none rfl _ _ _) rfl ?_;exact ⟨rfl,bB.out⟩)
/-! ### the closures -/
def StuffInv (w:World) (g:Nat) (gs:List (List UInt8)) (w':World):Prop:=
 ∃ v,w'.heap[g]? = some (.cells #[v] 31 (0,0))∧OwnB 5 w' w.heap.size v (stuffed gs)∧Keeps w w'∧w.heap.size≤g
theorem one_cell {w:World} {g:Nat} {v:Value} {t:TypeId} (h:w.heap[g]? = some (.cells #[v] t (0,0))):w.cell? ⟨g,0,none⟩=some v∧w.frozen? ⟨g,0,none⟩=false:=
 ⟨by rw [obj_cell h];rfl,obj_frozen h 0⟩
theorem stuff1_calls (w0:World) (g:Nat) (gs:List (List UInt8)) (x:List UInt8) (A:Option Addr) (c:Nat) (w:World) (hI:StuffInv w0 g gs w) (hr:Reads w0 A x) (hx:x.length≤254) (hs:(stuffed gs).length≤1099511627776) :
 Calls Tryz.prog 111 #[.slice A x.length c,.pointer (some ⟨g,0,none⟩)] w fun e w'=>e=.returned (.tuple #[])∧StuffInv w0 g (gs++[x]) w':=by
 obtain ⟨v,hg,a7,hk,bn⟩:=hI
 obtain ⟨c0,f0⟩:=one_cell hg
 have aw:=own_obj_ne a7 hg (by decide)
 have ci:=obj_lt hg
 have HG:=Hi hg
 have HO:=Hi a7
 have HK:=Hi hk
 have HR:=Hi hr
 have dS:=Hi aw
 obtain ⟨cb,cC⟩:∃ cb,cb=UInt8.ofNat (x.length+1):=⟨_,rfl⟩
 have HU:=Hi (show cb.toNat=x.length+1 by rw [cC];exact ofNat_toNat x.length hx)
 have dY:=Hi cC
 have dW:IntKind.u8.wrap ((x.length:Int)+1)=(x.length:Int)+1:=by simp [IntKind.wrap,IntKind.bits,IntKind.signed];omega
 clear hg a7 hk hr aw cC
 go_enter Tryz.func111,Tryz.ntmps111
 go_wp2_with (at_builtin;refine wpList_append_bytes (w0:=w0) w0.heap.size rfl _ _ 31 5 rfl Tryz.underlying31 info_u8 _ (stuffed gs) [cb] rfl ?a0 _ 1 rfl ?a1 ?a2 ?a3 ?a4 ?_)
 case a0=>exact HO.out.below ((Keeps.refl _).alloc _).below
 case a1=>exact Reads.new_at _ [cb] 5 (0,0) #[.int .u8 ((x.length:Int)+1)] (by rw [show u8s [cb]=[.int .u8 ((cb.toNat:Nat):Int)] from rfl,HU.out];rfl) _ (by simp)
 case a2=>simp;omega
 case a3=>have:=HK.out.size;simp;omega
 case a4=>exact HK.out.alloc _
 intro v1 w1 a8 az dg cE
 have T1:Touch (fun j=>v.ownBlock=some j) w w1:=((Touch.refl _ w).alloc _).grown dg (fun j h _=>h)
 have aq:=T1.obj HG.out dS.out
 have aR:=own_obj_ne a8 aq (by decide)
 obtain ⟨st,aJ⟩:∃ st,st=stuffed gs++[cb]:=⟨_,rfl⟩
 rw [← aJ] at a8
 have ef:st.length≤1099511627777:=by rw [aJ];simp;omega
 have dJ:=Hi aJ
 clear aJ
 obtain ⟨d0,e0⟩:=one_cell aq
 have dO:=obj_lt aq
 obtain ⟨A1,m1,rfl,_⟩:=a8.form
 have bt:=Hi (own_far a8 (p:=⟨g,0,none⟩) aR (.slice A1 st.length m1))
 have dK:=Hi (obj_set aq 0 (.slice A1 st.length m1))
 have aj:=Hi (show Keeps w0 (w1.setCell ⟨g,0,none⟩ (.slice A1 st.length m1)) from ((Touch.of_below az (F:=fun j=>w0.heap.size≤j) (fun _ _ h=>h)).setCell _ _ (fun _=>bn)).to_below _ (fun _ h _=>h) (Nat.le_refl _))
 have cN:=Hi aR
 clear a8 az dg cE T1 aq aR c0 f0 dW
 go_wp2_with (at_builtin;refine wpList_append_bytes (w0:=w0) w0.heap.size rfl _ _ 31 5 rfl Tryz.underlying31 info_u8 _ st x rfl bt.out A c rfl ?b1 ?b2 ?b3 ?b4 ?_)
 case b1=>exact HR.out.below aj.out.below
 case b2=>omega
 case b3=>exact aj.out.size
 case b4=>exact aj.out
 intro v2 w2 a6 ax dl cp
 have T2:=Touch.of_grown (F:=fun j=>(Value.slice A1 st.length m1).ownBlock=some j) dl (fun j h=>h)
 have ao:=T2.obj dK.out cN.out
 have bP:=own_obj_ne a6 ao (by decide)
 obtain ⟨d2,e2⟩:=one_cell ao
 have dZ:=obj_lt ao
 obtain ⟨st2,aX⟩:∃ st2,st2=st++x:=⟨_,rfl⟩
 rw [← aX] at a6
 have cz:=Hi (show st2=stuffed (gs++[x]) by rw [aX,dJ.out,dY.out,stuffed_snoc])
 clear aX
 obtain ⟨A2,m2,rfl,_⟩:=a6.form
 have cn:=Hi (own_far a6 (p:=⟨g,0,none⟩) bP (.slice A2 st2.length m2))
 have dF:=Hi (obj_set ao 0 (.slice A2 st2.length m2))
 have bN:=Hi (show Keeps w0 (w2.setCell ⟨g,0,none⟩ (.slice A2 st2.length m2)) from ((Touch.of_below ax (F:=fun j=>w0.heap.size≤j) (fun _ _ h=>h)).setCell _ _ (fun _=>bn)).to_below _ (fun _ h _=>h) (Nat.le_refl _))
 clear a6 ax dl cp T2 ao bP
 go_wp2
 go_end0
 refine ⟨rfl,_,dF.out, ?_,bN.out,bn⟩
 rw [← cz.out]
 exact cn.out
def LenInv (w:World) (g:Nat) (gs:List (List UInt8)) (w':World):Prop:=
 w'.heap[g]? = some (.cells #[.int .i64 ((stuffed gs).length:Int)] 3 (0,0))∧Keeps w w'∧w.heap.size≤g
theorem len1_calls (w0:World) (g:Nat) (gs:List (List UInt8)) (x:List UInt8) (A:Option Addr) (c:Nat) (w:World) (hI:LenInv w0 g gs w) (hs:(stuffed (gs++[x])).length≤1099511627777777) :
 Calls Tryz.prog 109 #[.slice A x.length c,.pointer (some ⟨g,0,none⟩)] w fun e w'=>e=.returned (.tuple #[])∧LenInv w0 g (gs++[x]) w':=by
 obtain ⟨hg,hk,bn⟩:=hI
 obtain ⟨c0,f0⟩:=one_cell hg
 have ci:=obj_lt hg
 have am:(stuffed (gs++[x])).length=(stuffed gs).length+(1+x.length):=by rw [stuffed_snoc];simp;omega
 rw [am] at hs
 have HG:=Hi (show (w.setCell ⟨g,0,none⟩ (.int .i64 (((stuffed gs).length:Int)+(1+(x.length:Int))))).heap[g]? = some (.cells #[.int .i64 ((stuffed (gs++[x])).length:Int)] 3 (0,0)) by
  rw [am,show (((stuffed gs).length+(1+x.length):Nat):Int)=((stuffed gs).length:Int)+(1+(x.length:Int)) by omega]
  exact obj_set hg 0 _)
 have HK:=Hi (show Keeps w0 (w.setCell ⟨g,0,none⟩ (.int .i64 (((stuffed gs).length:Int)+(1+(x.length:Int))))) from ((Touch.of_below hk (F:=fun j=>w0.heap.size≤j) (fun _ _ h=>h)).setCell _ _ (fun _=>bn)).to_below _ (fun _ h _=>h) (Nat.le_refl _))
 clear hg hk am
 go_enter Tryz.func109,Tryz.ntmps109
 go_wp2
 go_end0
 exact ⟨rfl,HG.out,HK.out,bn⟩
theorem stuff_calls (A:Option Addr) (c:Nat) (b:List UInt8) (w:World) (hl:b.length≤549755813888) (hc:b.length≤c) (hr:Reads w A b) :
 Calls Tryz.prog 75 #[.slice A b.length c] w fun e w'=>∃ v,e=.returned v∧OwnB 5 w' w.heap.size v (stuffOf b)∧Keeps w w':=by
 have HR:=Hi hr
 have am:=stuff_length b
 have hN:(stuffOf b).length≤1099511627776:=by omega
 have bW:∀ (args:Array Value) (w:World),(callFunc 111 args).run Tryz.prog w=.ok (.enter 111 args) w:=run_callFunc_body Tryz.func111 (by kernel_rfl) (by kernel_rfl)
 clear hr
 go_enter Tryz.func75,Tryz.ntmps75
 go_wp2_with fail
 refine (groups_calls 111 bW ⟨w.heap.size,0,none⟩ w _ (StuffInv w w.heap.size) (fun gs w' h=>by obtain ⟨v,_,_,h,_⟩:=h;exact h) 1099511627776
  (fun gs g A c w1 h1 h2 h3 h4=>stuff1_calls w w.heap.size gs g A c w1 h1 h2 h3 (by rw [stuffed_append,List.length_append] at h4;omega)) A c b (by omega) hN hc HR.out
  ⟨.slice none 0 0,obj_new w _,OwnB.nil _ _ _,(Keeps.refl w).alloc _,Nat.le_refl _⟩).mono ?_
 rintro e w1 ⟨rfl,v,hg,a7,hk,_⟩
 obtain ⟨c0,f0⟩:=one_cell hg
 have HO:=Hi a7
 have HK:=Hi hk
 clear hg a7 hk
 go_wp2
 go_ret
 exact ⟨v,rfl,HO.out,HK.out⟩
theorem len_calls (A:Option Addr) (c:Nat) (b:List UInt8) (w:World) (hl:b.length≤549755813888) (hc:b.length≤c) (hr:Reads w A b) :
 Calls Tryz.prog 73 #[.slice A b.length c] w fun e w'=>e=.returned (.int .i64 ((stuffOf b).length:Int))∧Keeps w w':=by
 have HR:=Hi hr
 have am:=stuff_length b
 have hN:(stuffOf b).length≤1099511627776:=by omega
 have bW:∀ (args:Array Value) (w:World),(callFunc 109 args).run Tryz.prog w=.ok (.enter 109 args) w:=run_callFunc_body Tryz.func109 (by kernel_rfl) (by kernel_rfl)
 clear hr
 go_enter Tryz.func73,Tryz.ntmps73
 go_wp2_with fail
 refine (groups_calls 109 bW ⟨w.heap.size,0,none⟩ w _ (LenInv w w.heap.size) (fun gs w' h=>h.2.1) 1099511627776
  (fun gs g A c w1 h1 h2 h3 h4=>len1_calls w w.heap.size gs g A c w1 h1 (by omega)) A c b (by omega) hN hc HR.out
  ⟨obj_new w _,(Keeps.refl w).alloc _,Nat.le_refl _⟩).mono ?_
 rintro e w1 ⟨rfl,hg,hk,_⟩
 obtain ⟨c0,f0⟩:=one_cell hg
 have HK:=Hi hk
 clear hg hk
 go_wp2
 go_ret
 exact ⟨rfl,HK.out⟩
theorem nz_mem (s:List UInt8):(0:UInt8)∈s↔(nz s).length<s.length:=by
 constructor
 · intro h
   rcases Nat.lt_or_ge (nz s).length s.length with h2 | h2
   · exact h2
   · have e:=nz_append s
     rw [List.drop_eq_nil_of_le h2,List.append_nil] at e
     rw [e] at h
     exact absurd h (nz_no s)
 · intro h
   have:=nz_stop s h
   rw [List.getD_eq_getElem?_getD,List.getElem?_eq_getElem h] at this
   simp only [Option.getD_some] at this
   rw [← this]
   exact List.getElem_mem h
theorem Reads.if1 {w:World} {ad:Addr} {A2:Option Addr} {t:List UInt8} {c1 k n:Nat} (h:Reads w (some ⟨ad.block,ad.off+1,.none⟩) t) (hc:t.length+1≤c1) (bR:(if c1=n+1 then some ad else some (⟨ad.block,ad.off+(n+1),.none⟩:Addr))=A2):Reads w A2 (t.drop n):=by
 by_cases e:t.length≤n
 · rw [List.drop_eq_nil_of_le e];exact Reads.nil _ _
 · rw [if_neg (by omega)] at bR
   subst bR
   refine h.drop n fun i=>?_
   rw [addr_add_mk,addr_add_mk]
   congr 1
   omega
def UnPost (w:World) (r:List UInt8×Int) (e:Ending) (w':World):Prop:=
 ∃ v,e=.returned (.tuple #[v,.int .i64 r.2])∧OwnB 5 w' w.heap.size v r.1∧Keeps w w'
structure UnRel (w:World) (s:List UInt8) (s0 b0 f0:Value) (wr:World):Prop where
 out:∃ (l b:List UInt8) (full:Bool) (A:Option Addr) (c:Nat),s0=.slice A l.length c∧l.length≤c∧Reads w A l∧OwnB 5 wr w.heap.size b0 b∧f0=.bool full∧0<l.length∧(0:UInt8)∉l∧unGo l b full=unstuffOf s∧b.length+l.length≤s.length∧Keeps w wr
theorem unstuff_calls (A:Option Addr) (c:Nat) (s:List UInt8) (w:World) (hl:s.length≤549755813888) (hc:s.length≤c) (hr:Reads w A s) :
 Calls Tryz.prog 92 #[.slice A s.length c] w (UnPost w (unstuffOf s)):=by
 have HR:=Hi hr
 clear hr
 by_cases h0:(0:UInt8)∈s
 · have hu:unstuffOf s=([],40):=by unfold unstuffOf;rw [if_pos h0]
   have hi:idx s=((nz s).length:Int):=by unfold idx;rw [if_pos ((nz_mem s).1 h0)]
   have HI:=Hi hi
   have HU:=Hi hu
   clear hi hu h0
   go_enter Tryz.func92,Tryz.ntmps92
   go_wp2_with fail
   refine (at_value (b:=((nz s).length:Int)) HI.out (idx_calls A c s w HR.out)).mono ?_
   rintro e w1 ⟨rfl,rfl⟩
   go_wp2
   go_ret2
   rw [HU.out]
   exact ⟨_,rfl,OwnB.nil _ _ _,Keeps.refl _⟩
 · have hi:idx s = -1:=by unfold idx;rw [if_neg (fun h=>h0 ((nz_mem s).2 h))]
   have HI:=Hi hi
   have H0:=Hi h0
   clear hi h0
   by_cases aM:s.length=0
   · have hu:unstuffOf s=([],30):=by unfold unstuffOf;rw [if_neg H0.out,if_pos aM]
     have HU:=Hi hu
     clear hu
     go_enter Tryz.func92,Tryz.ntmps92
     go_wp2_with fail
     rw [← aM]
     refine (at_value (b:=(-1:Int)) HI.out (idx_calls A c s w HR.out)).mono ?_
     rintro e w1 ⟨rfl,rfl⟩
     go_wp2
     go_ret2
     rw [HU.out]
     exact ⟨_,rfl,OwnB.nil _ _ _,Keeps.refl _⟩
   · have hu:unGo s [] false=unstuffOf s:=by unfold unstuffOf;rw [if_neg H0.out,if_neg aM]
     have HU:=Hi hu
     have cD:0<s.length:=by omega
     have dA:((s.length:Int)==0)=false:=by rw [beq_eq_false_iff_ne];omega
     clear hu aM
     go_enter Tryz.func92,Tryz.ntmps92
     go_wp2_with fail
     refine (at_value (b:=(-1:Int)) HI.out (idx_calls A c s w HR.out)).mono ?_
     rintro e w1 ⟨rfl,rfl⟩
     go_wp2
     go_loopw [0,4,5] (fun s0 b0 f0 wr=>UnRel w s s0 b0 f0 wr) (fun s0 _ _ _=>lenV s0)
     case atStart=>exact ⟨s,[],false,A,c,rfl,hc,HR.out,OwnB.nil _ _ _,rfl,cD,H0.out,HU.out,by simp,Keeps.refl _⟩
     case round=>
      obtain ⟨l,b,full,A1,c1,rfl,b5,bf,a7,rfl,da,cf,cM,co,hk⟩:=hrel
      obtain ⟨ch,t,rfl⟩:∃ ch t,l=ch :: t:=by cases l with | nil=>simp at da | cons a t=>exact ⟨a,t,rfl⟩
      simp only [List.mem_cons,not_or,List.length_cons] at cf b5 da co
      have cZ:ch.toNat≠0:=fun e=>cf.1 (UInt8.toNat_inj.1 (by simpa using e.symm))
      have de:ch.toNat<256:=UInt8.toNat_lt ch
      obtain ⟨k,ak⟩:∃ k,ch.toNat=k+1:=⟨ch.toNat-1,by omega⟩
      rw [unGo_cons,ak,Nat.add_sub_cancel] at cM
      have du:k≤254:=by omega
      obtain ⟨ad,rfl,x0⟩:=bf.out 0 (by simp)
      simp only [List.getElem_cons_zero,ak] at x0
      have x0':wr.cell? (ad.add 0)=some (.int .u8 ((k:Int)+1)):=by rw [hk.below.cell (World.block_lt_of_cell? w _ x0)];exact x0
      have x1:wr.cell? ad=some (.int .u8 ((k:Int)+1)):=by rw [addr_add_zero] at x0';exact x0'
      have aP:=Hi (show Reads w (some ⟨ad.block,ad.off+1,none⟩) t from bf.drop 1 (addr_from ad 1 (by omega)))
      have aV:=Hi cM
      have HO:=Hi a7
      have HK:=Hi hk
      have cX:=Hi cf.2
      clear cM a7 hk cf cZ de ak x0 bf HU
      rw [List.length_cons]
      by_cases a1:t.length<k
      · have hr:=aV.out
        rw [if_pos a1] at hr
        have HU:=Hi hr
        clear hr aV
        go_wp2
        go_ret2
        rw [← HU.out]
        exact ⟨_,rfl,OwnB.nil _ _ _,HK.out⟩
      · obtain ⟨g,hg⟩:∃ g,g=t.take k:=⟨_,rfl⟩
        obtain rfl:k=g.length:=by rw [hg,List.length_take];omega
        obtain ⟨A2,bR⟩:∃ A2,(if c1=1 then some ad else some (⟨ad.block,ad.off+1,none⟩:Addr))=A2:=⟨_,rfl⟩
        have cY:Reads w A2 g:=by
         have:=(aP.out.if1 (k:=0) (n:=0) b5 bR).take g.length
         rwa [List.drop_zero,← hg] at this
        have dp:Reads w (some (ad.add (1+g.length))) (t.drop g.length):=aP.out.drop g.length fun i=>by
         rw [addr_add_mk,addr_add_add,addr_add_pos ad _ (by omega)]
         congr 1
         omega
        have dP:=Hi cY
        have dh:=Hi dp
        have HG:=Hi hg
        have cA:1+g.length-1=g.length:=by omega
        clear cY dp hg aP
        go_wp2_with (at_builtin;refine wpList_append_bytes (w0:=w) w.heap.size rfl _ _ 31 5 rfl Tryz.underlying31 info_u8 _ b g rfl HO.out A2 (c1-1) (by show Value.slice A2 (1+g.length-1) (c1-1)=_;rw [cA]) ?a1 ?a2 ?a3 ?a4 ?_)
        case a1=>exact dP.out.below HK.out.below
        case a2=>omega
        case a3=>exact HK.out.size
        case a4=>exact HK.out
        intro v1 w1 a8 az _ _
        have bt:=Hi a8
        have aj:=Hi (show Keeps w w1 from az)
        clear a8 az HO HK x0' x1 bR
        by_cases a2:t.length≤g.length
        · have hr:=aV.out
          rw [if_neg a1,if_pos a2,← HG.out] at hr
          have hz:t.length+1-(1+g.length)=0:=by omega
          by_cases a3:(full&&g.length==0)=true
          · rw [if_pos a3] at hr
            have HU:=Hi hr
            simp only [Bool.and_eq_true,beq_iff_eq] at a3
            obtain ⟨rfl,a4⟩:=a3
            clear hr aV
            have a4':((g.length:Int)==0)=true:=by rw [a4];rfl
            clear a4
            go_wp2
            all_goals (go_ret2;rw [← HU.out];exact ⟨_,rfl,OwnB.nil _ _ _,aj.out⟩)
          · rw [if_neg a3] at hr
            have HU:=Hi hr
            clear hr aV
            have bE:UnPost w (unstuffOf s) (.returned (.tuple #[v1,.int .i64 0])) w1:=by
             rw [← HU.out]
             exact ⟨_,rfl,bt.out,aj.out⟩
            have HF:=Hi bE
            clear bE
            cases full with
            | false=>
              clear a3
              go_wp2
              all_goals (go_ret2;exact HF.out)
            | true=>
              have a4':((g.length:Int)==0)=false:=by
               rw [beq_eq_false_iff_ne]
               intro e
               apply a3
               simp
               exact List.eq_nil_of_length_eq_zero (by omega)
              clear a3
              go_wp2
              all_goals (go_ret2;exact HF.out)
        · have hr:=aV.out
          rw [if_neg a1,if_neg a2,← HG.out] at hr
          have HU:=Hi hr
          clear hr aV
          have e6:(((t.length+1-(1+g.length):Nat):Int)==0)=false:=by rw [beq_eq_false_iff_ne];omega
          by_cases a5:g.length=254
          · have a5':((g.length:Int)==254)=true:=by rw [a5];rfl
            have cJ:=Hi (show unGo (t.drop g.length) (b++g) true=unstuffOf s by
             have:=HU.out
             rw [if_pos a5,List.append_nil] at this
             rw [← this]
             congr 1
             rw [a5];rfl)
            clear a5 HU
            go_wp2
            refine ⟨?relA, ?measA⟩
            case relA=>
             refine .mk ⟨t.drop g.length,b++g,true,some (ad.add (1+g.length)),c1-(1+g.length), ?_, ?_,dh.out,bt.out,rfl, ?_,fun h=>cX.out (List.mem_of_mem_drop h),cJ.out, ?_,aj.out⟩
             · rw [List.length_drop,show t.length+1-(1+g.length)=t.length-g.length by omega]
               try rw [if_neg (show ¬c1=1+g.length by omega)]
             · rw [List.length_drop];omega
             · rw [List.length_drop];omega
             · rw [List.length_drop,List.length_append];omega
            case measA=>simp [lenV];omega
          · have a5':((g.length:Int)==254)=false:=by rw [beq_eq_false_iff_ne];omega
            have cJ:=Hi (show unGo (t.drop g.length) (b++g++[0]) false=unstuffOf s by
             have:=HU.out
             rw [if_neg a5] at this
             rw [← this]
             congr 1
             rw [eq_comm,beq_eq_false_iff_ne];exact a5)
            clear HU
            go_wp2_with (at_builtin;refine wpList_append_bytes (w0:=w) w.heap.size rfl _ _ 31 5 rfl Tryz.underlying31 info_u8 _ (b++g) [0] rfl ?b0 _ 1 rfl ?b1 ?b2 ?b3 ?b4 ?_)
            case b0=>exact bt.out.below ((Keeps.refl _).alloc _).below
            case b1=>exact Reads.new_at _ [0] 5 (0,0) #[.int .u8 0] rfl _ (by simp)
            case b2=>simp;omega
            case b3=>have:=aj.out.size;simp;omega
            case b4=>exact aj.out.alloc _
            intro v2 w2 a6 ax _ _
            have cn:=Hi a6
            have bN:=Hi (show Keeps w w2 from ax)
            clear a6 ax bt aj
            go_wp2
            refine ⟨?relB, ?measB⟩
            case relB=>
             refine .mk ⟨t.drop g.length,b++g++[0],false,some (ad.add (1+g.length)),c1-(1+g.length), ?_, ?_,dh.out,(by rw [List.append_assoc];exact cn.out),rfl, ?_,fun h=>cX.out (List.mem_of_mem_drop h),cJ.out, ?_,bN.out⟩
             · rw [List.length_drop,show t.length+1-(1+g.length)=t.length-g.length by omega]
               try rw [if_neg (show ¬c1=1+g.length by omega)]
             · rw [List.length_drop];omega
             · rw [List.length_drop];omega
             · rw [List.length_drop,List.length_append,List.length_append];simp only [List.length_cons,List.length_nil];omega
            case measB=>simp [lenV];omega
end
end Go.Proofs.YtihodcnnappkbaaGreatDoor
