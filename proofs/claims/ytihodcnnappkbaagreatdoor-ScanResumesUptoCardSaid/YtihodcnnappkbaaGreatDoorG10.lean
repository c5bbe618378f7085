/-
  What is read is what was put: frames: plain. No condition. A frame's bytes and back: plain. No condition. What the laws of frames ask first: small, plain. Condition: the tables are as laid. What the laws of frames ask first: live. Condition: the tables are as laid. From what the rows list to the tables of crc and unicode/utf8. No condition. From a walk to a row: a law that returns true and leaves what was there as it was meets its row's closing condition; an argument that is a slice of bytes reads as a list of bytes. No condition.
-/
import Derived.Test.YtihodcnnappkbaaGreatDoorG9
import Derived.Test.YtihodcnnappkbaaGreatDoorG8
import Derived.Test.YtihodcnnappkbaaGreatDoorG7
import Derived.Deep.RegionHeld3
import Derived.Deep.DrawnRows
import Derived.Test.YtihodcnnappkbaaGreatDoorRows
import Derived.Test.YtihodcnnappkbaaGreatDoorG1
import Derived.Test.YtihodcnnappkbaaGreatDoorG2
import Derived.Lib.LaidU8T
import Derived.MakeChecks
import Derived.Lay
import Derived.ProofKit
import Derived.OpenShut
import Derived.JoinedCond
import Derived.Deep.DeepHandedRow
import Derived.SizedLaws
import Derived.Carry
set_option linter.unusedVariables false
set_option linter.unusedSimpArgs false
namespace Go.Proofs.YtihodcnnappkbaaGreatDoor
section
open Go.RowKit
theorem rnum_of {l:List UInt8} {m n a k:Nat} (h:Cut l a k (leb n)) (hn:n<m) (hm:m≤18446744073709551616):rnum l m (a,false)=((n:Int),(k,false)):=by
 unfold rnum
 simp only [lebGet_of h (by omega),Bool.false_eq_true,if_false]
 rw [if_neg (by omega)]
theorem schCheck_names {cols:List Col} (h:schCheck cols=0):∀ c∈cols,c.name.size≤140737488355328:=fun c hc=>by
 obtain ⟨ns,h1⟩:=colsCheck_ok cols [] (schCheck_no h).2.2.1 c hc
 have:=nameOk_size (colCheck_ok h1).1
 omega
theorem rent_of {l:List UInt8} {e:Ent} {a k:Nat} (he:entBad e=false) (h:Cut l a k (entPut e)):rent l (a,false)=(e,(k,false)):=by
 obtain ⟨x,y,z,rfl,hx,hy,hz⟩:=entBad_no he
 simp only [entPut,lebs,List.flatMap_cons,List.flatMap_nil,List.append_nil,Int.toNat_natCast] at h
 have h1:=rnum_of (m:=seqMax) h.first (by simpa using hx) (by decide)
 have h2:=rnum_of (m:=seqMax) h.rest.first (by simpa using hy) (by decide)
 have h3:=rnum_of (m:=seqMax) h.rest.rest (by simpa using hz) (by decide)
 unfold rent
 simp only [h1,h2,h3]
theorem rents_of {l:List UInt8}:∀ (es:List Ent) (a k:Nat),(∀ e∈es,entBad e=false)→Cut l a k (es.flatMap entPut)→rents l es.length (a,false)=(es,(k,false))
 | [],a,k,_,h=>by
   have:=h.to
   simp [rents,this]
 | e :: es,a,k,he,h=>by
   rw [List.flatMap_cons] at h
   rw [List.length_cons,rents_step _ _ _ rfl,rent_of (he e (by simp)) h.first]
   simp only
   rw [rents_of es _ k (fun x hx=>he x (by simp [hx])) h.rest]
theorem takeF_of {f:Fr} (h:frWrong f=0) (hw:f.wf):∃ f',takeF (frBody f)=.ok f'∧frSame f' f=true:=by
 unfold frWrong at h
 by_cases h1:f.kind=1
 · rw [if_pos h1] at h
   obtain ⟨n,hn,a2,ae⟩:=schWrong_no h
   obtain ⟨cols',d1,d2⟩:=decodeS_of ae hw.dflt
   have hb:frBody f=1 :: (leb n++putS f.cols):=by
    simp [frBody,frPut,schPut,h1,hn,lebs]
   rw [hb]
   have h0:=Cut.start ((1:UInt8) :: (leb n++putS f.cols))
   have c1:=Cut.rest (bs:=[(1:UInt8)]) h0
   have g1:=rnum_of (m:=2147483648) c1.first a2 (by decide)
   have e1:((1:UInt8) :: (leb n++putS f.cols)).drop (0+[(1:UInt8)].length+(leb n).length)=putS f.cols:=by
    have:=c1.rest.eq
    rw [this,List.drop_length,List.append_nil]
   rw [takeF,if_pos rfl]
   unfold takeS
   have g1':rnum ((1:UInt8) :: (leb n++putS f.cols)) 2147483648 (1,false)=((n:Int),(0+[(1:UInt8)].length+(leb n).length,false)):=g1
   simp only [g1',Bool.false_eq_true,if_false,e1,d1]
   exact ⟨_,rfl,by simp [frSame,h1,hn,d2]⟩
 rw [if_neg h1] at h
 by_cases h2:f.kind=2
 · rw [if_pos h2] at h
   obtain ⟨n,s,t,r,hn,hs,ht,hr,a2,a6,a7,al,an⟩:=datWrong_no h
   have hb:frBody f=2 :: (leb n++(leb s++(leb t++(leb r++f.block)))):=by
    simp [frBody,frPut,datPut,h2,hn,hs,ht,hr,lebs]
   rw [hb]
   generalize hL:(2:UInt8) :: (leb n++(leb s++(leb t++(leb r++f.block))))=L
   have h0:Cut L 0 L.length ([2]++(leb n++(leb s++(leb t++(leb r++f.block))))):=by
    rw [← hL];exact Cut.start _
   have c1:=h0.rest
   have g1:=rnum_of (m:=2147483648) c1.first a2 (by decide)
   have g2:=rnum_of (m:=seqMax) c1.rest.first (by simpa using a6) (by decide)
   have g3:=rnum_of (m:=seqMax) c1.rest.rest.first (by simpa using a7) (by decide)
   have g4:=rnum_of (m:=65) c1.rest.rest.rest.first (by omega) (by decide)
   have e1:=c1.rest.rest.rest.rest.eq
   rw [List.drop_length,List.append_nil] at e1
   have a5:takeF L=takeD L:=by rw [← hL,takeF,if_neg (by decide),if_pos rfl]
   rw [a5]
   unfold takeD
   have g1':rnum L 2147483648 (1,false)=_:=g1
   have ah:¬(r:Int)<1:=by omega
   simp only [g1',g2,g3,g4,e1,ah,decide_false,Bool.or_false,Bool.false_eq_true,if_false]
   exact ⟨_,rfl,by simp [frSame,h2,hn,hs,ht,hr]⟩
 rw [if_neg h2] at h
 by_cases h3:f.kind=3
 · rw [if_pos h3] at h
   obtain ⟨n,s,t,hn,hs,ht,a2,a6,a7,aa,ab⟩:=idxWrong_no h
   have hb:frBody f=3 :: (leb n++(leb s++(leb t++(leb f.ents.length++f.ents.flatMap entPut)))):=by
    simp [frBody,frPut,idxPut,h3,hn,hs,ht,lebs]
   rw [hb]
   generalize hL:(3:UInt8) :: (leb n++(leb s++(leb t++(leb f.ents.length++f.ents.flatMap entPut))))=L
   have h0:Cut L 0 L.length ([3]++(leb n++(leb s++(leb t++(leb f.ents.length++f.ents.flatMap entPut))))):=by
    rw [← hL];exact Cut.start _
   have c1:=h0.rest
   have g1:=rnum_of (m:=seqMax) c1.first (by simpa using a2) (by decide)
   have g2:=rnum_of (m:=seqMax) c1.rest.first (by simpa using a6) (by decide)
   have g3:=rnum_of (m:=seqMax) c1.rest.rest.first (by simpa using a7) (by decide)
   have g4:=rnum_of (m:=65) c1.rest.rest.rest.first (by omega) (by decide)
   have g5:=rents_of f.ents _ _ ab c1.rest.rest.rest.rest
   have a5:takeF L=takeI L:=by rw [← hL,takeF,if_neg (by decide),if_neg (by decide),if_pos rfl]
   rw [a5]
   have g1':rnum L seqMax (1,false)=_:=g1
   have aj:rindex L (1,false)=(⟨n,s,t,f.ents⟩,(L.length,false)):=by
    unfold rindex
    simp only [g1',g2,g3,g4,Int.toNat_natCast,g5]
    simp
   unfold takeI
   simp only [aj,Bool.false_eq_true,if_false]
   exact ⟨_,rfl,by simp [frSame,ixSame,h3,hn,hs,ht]⟩
 · rw [if_neg h3] at h
   omega
theorem le4_length (S:Nat):(le4 S).length=4:=rfl
theorem le_le4 (S:Nat) (h:S<4294967296):le (le4 S)=S:=by
 have hb:∀ m:Nat,(UInt8.ofNat (m % 256)).toNat=m % 256:=fun m=>by rw [UInt8.toNat_ofNat'];omega
 unfold le4
 rw [le_four]
 simp only [hb]
 omega
theorem sum_lt (l:List UInt8):Crc.sum (nats l)<4294967296:=Crc.upd_lt _ (by omega) (nats_lt l)
theorem frBody_pos (f:Fr):1≤(frBody f).length:=by simp [frBody]
def checked (b:List UInt8):List UInt8:=b++le4 (Crc.sum (nats b))
theorem decF_checked (b:List UInt8) (hb:1≤b.length) (hs:(stuffOf (checked b)).length≤2200):decF (stuffOf (checked b))=takeF b:=by
 unfold decF
 have hl:(checked b).length=b.length+4:=by unfold checked;rw [List.length_append,le4_length]
 rw [if_neg (by omega),unstuff_stuff]
 simp only [ne_eq,not_true,if_false]
 rw [hl,if_neg (by omega)]
 have e1:(checked b).take (b.length+4-4)=b:=by
  rw [Nat.add_sub_cancel]
  unfold checked
  rw [List.take_left]
 have e2:(checked b).drop (b.length+4-4)=le4 (Crc.sum (nats b)):=by
  rw [Nat.add_sub_cancel]
  unfold checked
  rw [List.drop_left]
 rw [e1,e2,le_le4 _ (sum_lt b)]
 simp
theorem encF_ok {f:Fr} {l:List UInt8} (h:encF f=.ok l):frWrong f=0∧(stuffOf (checked (frBody f))).length≤2200∧l=0 :: (stuffOf (checked (frBody f))++[0]):=by
 unfold encF at h
 split at h
 · rename_i h0
   unfold encFin at h
   split at h
   · cases h
   · rename_i h1
     injection h with h
     exact ⟨h0,by unfold checked;omega,h.symm⟩
 · cases h
theorem enc_back {f:Fr} {l:List UInt8} (hw:f.wf) (h:encF f=.ok l):∃ s,l=0 :: (s++[0])∧5≤s.length∧s.length≤2200∧(0:UInt8)∉s∧∃ f',decF s=.ok f'∧frSame f' f=true:=by
 obtain ⟨h0,h1,h2⟩:=encF_ok h
 obtain ⟨f',e1,e2⟩:=takeF_of h0 hw
 refine ⟨_,h2, ?_,h1,stuff_no _,f', ?_,e2⟩
 · have:=(stuff_length (checked (frBody f))).1
   have h3:(checked (frBody f)).length=(frBody f).length+4:=by unfold checked;rw [List.length_append,le4_length]
   have:=frBody_pos f
   omega
 · rw [decF_checked _ (frBody_pos f) h1,e1]
end
section
open Go.RowKit Go.BigFrame
def smallCol:Col:=⟨str [97],.mk 2 [],false,vaZero⟩
def smallF:Fr:={ frZero with kind:=1,cols:=[smallCol] }
theorem text_a:(textBytes (str [97])).length=2:=by
 have e1:(leb 1).length=1:=by rw [leb_small (by omega)];rfl
 unfold textBytes
 rw [List.length_append,show (str [97]).size=1 from rfl,e1]
 rfl
theorem schOk_small:schCheck [smallCol]=0:=by
 have h1:nameOk (str [97])=true:=by decide +kernel
 have h2:(putS [smallCol]).length≤1024:=by
  have e1:(leb 1).length=1:=by rw [leb_small (by omega)];rfl
  have e3:putS [smallCol]=leb 1++((textBytes (str [97])++([2]++[0]))++[]):=rfl
  rw [e3]
  simp only [List.length_append,List.length_cons,List.length_nil,e1,text_a]
  omega
 have h3:colsCheck [] [smallCol]=0:=by
  unfold colsCheck colCheck
  simp only [smallCol,h1,vaZero_self]
  simp [nameIn,tyCheck,colsCheck]
 unfold schCheck
 rw [if_pos h3]
 simp
 omega
theorem smallF_wf:smallF.wf:=⟨fun x hx=>by
 simp only [smallF,List.mem_cons,List.not_mem_nil,or_false] at hx
 subst hx
 exact vaZero_wf,fun x hx=>by
 simp only [smallF,List.mem_cons,List.not_mem_nil,or_false] at hx
 subst hx
 show 1≤_
 omega⟩
theorem smallF_ok:frWrong smallF=0:=by
 simp only [frWrong,smallF,if_true,schWrong,schOk_small]
 rfl
theorem small_body:(frBody smallF).length=7:=by
 have e0:(leb 0).length=1:=by rw [leb_small (by omega)];rfl
 have e1:(leb 1).length=1:=by rw [leb_small (by omega)];rfl
 have e3:frBody smallF=[1]++((leb 0++[])++(leb 1++((textBytes (str [97])++([2]++[0]))++[]))):=rfl
 rw [e3]
 simp only [List.length_append,List.length_cons,List.length_nil,e0,e1,text_a]
theorem small_enc:∃ l,encF smallF=.ok l∧3≤l.length∧l.length≤17:=by
 have hl:(checked (frBody smallF)).length=11:=by unfold checked;rw [List.length_append,le4_length,small_body]
 have hs:=stuff_length (checked (frBody smallF))
 refine ⟨0 :: (stuffOf (checked (frBody smallF))++[0]), ?_, ?_, ?_⟩
 · unfold encF encFin
   have e:frBody smallF++le4 (Crc.sum (nats (frBody smallF)))=checked (frBody smallF):=rfl
   rw [if_pos smallF_ok,e,if_neg (by omega)]
 · simp
   omega
 · simp
   omega
theorem FrS.mono {w:World} {S S':Nat→Prop} {A B E:Option Addr} {f:Fr} (h:FrS w S A B E f) (hS:∀ k,k<w.heap.size→S k→S' k):FrS w S' A B E f:=by
 refine ⟨h.sch.mono hS,h.blk,fun a e hn=>?_,h.ent,fun a e hn=>?_,h.lenB,h.lenE⟩
 · have hp:0<f.block.length:=List.length_pos_iff.2 hn
   obtain ⟨ad,e1,a0⟩:=h.blk.out 0 hp
   rw [e] at e1
   cases e1
   have:=World.block_lt_of_cell? w _ a0
   rw [addr_add_block] at this
   exact hS _ this (h.blkS _ e hn)
 · have hp:0<f.ents.length:=List.length_pos_iff.2 hn
   have hg:=(entCells_get f.ents 0 hp).1
   obtain ⟨ad,e1,a0⟩:=h.ent _ _ hg
   rw [e] at e1
   cases e1
   have:=World.block_lt_of_cell? w _ a0
   rw [addr_add_block] at this
   exact hS _ this (h.entS _ e hn)
theorem blk_of (a:Addr) (n c:Nat) (h:0<c):blk (.slice (some a) n c)=some a.block:=by
 simp [blk]
 omega
end
section
open Go.Shelf Go.Lib Go.Proofs
def frRen:Ren:=⟨fun n=>n,fun | 5=>5 | 119=>223 | 138=>225 | 139=>226 | n=>n,fun | 3=>3 | 4=>4 | n=>n⟩
theorem frTypes:U8Types Tryz.prog frRen:=⟨Tryz.underlying5,Tryz.underlying223,by kernel_rfl,Tryz.underlying226⟩
theorem frExtra:U8Extra Tryz.prog frRen:=⟨by kernel_rfl,by kernel_rfl,by kernel_rfl,by kernel_rfl,by kernel_rfl,by kernel_rfl,by kernel_rfl⟩
theorem gTab:Tryz.prog.globalNamed "gabion/crc.halves" = some 1:=by kernel_rfl
theorem gTabType:(Tryz.prog.globals[1]?).map (·.type)=some 190:=by kernel_rfl
theorem cellsTab:Tryz.prog.cellsOf 190=16:=by kernel_rfl
theorem cellsElem:Tryz.prog.cellsOf 122=1:=by kernel_rfl
theorem first_data:Go.Pinned.utf8First=firstData:=by kernel_rfl
theorem accept_data:(Rows.laid_unicode_utf8_acceptRanges:DataW Unit)=acceptData:=by kernel_rfl
theorem halves_data:(Rows.laid_gabion_crc_halves:DataW Unit)=tabData .u32 (Crc.tab.map fun n:Nat=>(n:Int)):=by kernel_rfl
def laidL:List (String×DataW Unit):=[("gabion/crc.halves",Rows.laid_gabion_crc_halves),("unicode/utf8.acceptRanges",Rows.laid_unicode_utf8_acceptRanges),("unicode/utf8.first",Rows.laid_unicode_utf8_first)]
theorem tables {W:World} (h:laidMetH Tryz.prog laidL W):Tabs W∧Table W:=by
 rw [MakeChecks.laidMetH_plain _ _ _ (by kernel_rfl)] at h
 have h1:VarReads Tryz.prog W "gabion/crc.halves" _:=laidMet.reads h (.head _)
 have h2:VarReads Tryz.prog W "unicode/utf8.acceptRanges" _:=laidMet.reads h (.tail _ (.head _))
 have h3:VarReads Tryz.prog W "unicode/utf8.first" _:=laidMet.reads h (.tail _ (.tail _ (.head _)))
 rw [halves_data] at h1
 rw [accept_data] at h2
 rw [show (Rows.laid_unicode_utf8_first:DataW Unit)=firstData from first_data] at h3
 refine ⟨utf8Tabs_of_readsT frTypes frExtra h3 h2, ?_⟩
 intro i hi
 obtain ⟨g,t,cs,fuel,p,hg,ac,a4,hd⟩:=h1
 obtain rfl:=Option.some.inj (gTab.symm.trans hg)
 obtain rfl:=Option.some.inj (gTabType.symm.trans ac)
 have ag:=cells_of_tab Tryz.underlying190 Tryz.underlying122 cellsElem cellsTab hd
 have:=World.var?_cell hg a4 i
 rw [this,← Array.getElem?_toList,ag]
 have hc:i<Crc.tab.length:=by simpa [Crc.tab] using hi
 simp [List.getD_eq_getElem?_getD,hc]
noncomputable def laidWorld (os:Os):World:=World.laidAll Tryz.prog os laidL
theorem laid_met (os:Os) (args:Array Value):laidMet Tryz.prog laidL ((laidWorld os).forCall (fun _ _=>0) ⟨#[],args,[]⟩).memory:=
 laidMet_laidAll args (by kernel_rfl) (by kernel_rfl)
end
section
open Go.RowKit Go.ChangeShapes Go.WideShapes Go.ChangeAt Go.WideElems
theorem own:ownKnob Tryz.prog.godebug=none:=by kernel_rfl
theorem laidOut:laidOutB Tryz.prog=true:=by kernel_rfl
theorem trodAll_below {H:Type} {enc:TypeId×Value→H} {P:Program} (hl:laidOutB P=true) {W W':World} (hb:Below W.heap.size W W') :
 ∀ {ts:List TypeId} {vs:List Value} {ds:List (DataW H)} {ps:List MemPlace},(ts.all fun t=>P.readableRec t&&decide (t<P.types.size))=true→DataW.TrodAll enc P W 0 (fun _=>true) true ts vs ds ps →
   DataW.TrodAll enc P W' 0 (fun b=>decide (b<W.heap.size)) true ts vs ds ps:=by
 intro ts
 induction ts with
 | nil=>
   intro vs ds ps _ h
   obtain ⟨rfl,rfl,rfl⟩:=trodAll_nil h
   exact trodAll_mk0
 | cons t ts ih=>
   intro vs ds ps hr h
   have a9:=h.lt
   obtain ⟨v,vs',d,ds',p,q,rfl,rfl,rfl,hd,a1⟩:=trodAll_cons h
   simp only [List.all_cons,Bool.and_eq_true,decide_eq_true_eq] at hr
   exact trodAll_cons_mk (Below.trod hl hr.1.1 hr.1.2 hd hb (fun x hx=>a9 x (List.mem_append.2 (.inl hx)))) (ih hr.2 a1)
theorem post_law {H:Type} {enc:TypeId×Value→H} {P:Program} (hl:laidOutB P=true) {f:Func} {s:ChangeSpec} {tb:TypeId} (a3:s.vars=[]) (a8:f.resultTypes=#[tb]) (ai:P.underlying tb=some .bool)
 (hr:(f.params.toList.all fun t=>P.readableRec t&&decide (t<P.types.size))=true) {W W':World} {args:Array Value} {ds gs:List (DataW H)} {before:List MemPlace}
 (hW:DataW.Whole enc P f.params.toList s.vars false W args.toList ds gs before) (hs:s.fn H (ds++gs) = { results:=[.lit (.bool true)],args:=ds }) (hb:Below W.heap.size W W') :
 s.post enc P f false true false false W args (.bool true) W':=by
 have af:=hW
 obtain ⟨p,q,hA,hV,rfl,am,ak⟩:=hW
 refine ⟨ds,gs,p++q,[],p,[],af, ?_, ?_, ?_,hb.frame _,fun h=>by cases h⟩
 · rw [hs,a8]
   exact trodAll_mk1 (shut_bool ai true)
 · rw [hs]
   exact trodAll_below hl hb hr hA
 · rw [hs,a3]
   exact rfl
end
end Go.Proofs.YtihodcnnappkbaaGreatDoor
