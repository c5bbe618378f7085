/-
  What is read is what was put: frames: plain. No condition. A frame's bytes and back: plain. No condition. What the laws of frames ask first: small, plain. Condition: the tables are as laid. What the laws of frames ask first: live. Condition: the tables are as laid. From what the rows list to the tables of crc and unicode/utf8. No condition. From a walk to a row: a law that returns true and leaves what was there as it was meets its row's closing condition; an argument that is a slice of bytes reads as a list of bytes. No condition.
-/
import Derived.Test.YtihodcnnappkbaaGreatDoorG9
import Derived.Test.YtihodcnnappkbaaGreatDoorG8
import Derived.Test.YtihodcnnappkbaaGreatDoorG7
import Derived.Deep.RegionHeld3
import Derived.Deep.DrawnRows
import Derived.Test.YtihodcnnappkbaaGreatDoorRows
import Derived.Test.YtihodcnnappkbaaGreatDoorG1
import Derived.Test.YtihodcnnappkbaaGreatDoorG2
import Derived.Lib.LaidU8T
import Derived.MakeChecks
import Derived.Lay
import Derived.ProofKit
import Derived.OpenShut
import Derived.JoinedCond
import Derived.Deep.DeepHandedRow
import Derived.SizedLaws
import Derived.Carry
namespace Go.Proofs.YtihodcnnappkbaaGreatDoor
open Go.RowKit
set_option linter.unusedSimpArgs false
set_option linter.unusedVariables false
theorem rnum_cut {l:List UInt8} {m:Nat} {s:Nat×Bool} (h:(rnum l m s).2.2=false):s.2=false∧∃ n:Nat,(rnum l m s).1=(n:Int)∧n<m∧Cut l s.1 (rnum l m s).2.1 (leb n):=by
 obtain ⟨a,b⟩:=s
 cases b with
 | true=>simp [rnum] at h
 | false=>
   cases hg:lebGet l a with
   | error e=>simp [rnum,hg] at h
   | ok r=>
     obtain ⟨n,k⟩:=r
     obtain ⟨c1,_⟩:=lebGet_cut hg
     by_cases hmn:m≤n
     · simp [rnum,hg,hmn] at h
     · have e:rnum l m (a,false)=((n:Int),(k,false)):=by simp [rnum,hg,hmn]
       rw [e]
       exact ⟨rfl,n,rfl,by omega,c1⟩
theorem rnum_of {l:List UInt8} {m n a k:Nat} (h:Cut l a k (leb n)) (hn:n<m) (hm:m≤18446744073709551616):rnum l m (a,false)=((n:Int),(k,false)):=by
 unfold rnum
 simp only [lebGet_of h (by omega),Bool.false_eq_true,if_false]
 rw [if_neg (by omega)]
theorem outOf_nat {n m:Nat} (h:n<m):outOf (m:Int) (n:Int)=false:=by
 unfold outOf
 rw [Bool.or_eq_false_iff,decide_eq_false_iff_not,decide_eq_false_iff_not]
 omega
def Fr.plain (f:Fr):Prop:=
 (f.kind≠1→f.cols=[])∧(f.kind≠2→f.seq=0∧f.first=0∧f.rows=0∧f.block=[])∧(f.kind≠3→f.spot=0∧f.frames=0∧f.irows=0∧f.ents=[])∧(f.kind≠1→f.kind≠2→f.number=0)
theorem schCheck_names {cols:List Col} (h:schCheck cols=0):∀ c∈cols,c.name.size≤140737488355328:=fun c hc=>by
 obtain ⟨ns,h1⟩:=colsCheck_ok cols [] (schCheck_no h).2.2.1 c hc
 have:=nameOk_size (colCheck_ok h1).1
 omega
theorem takeS_cut {b:UInt8} {t:List UInt8} {f:Fr} (hb:b=1) (h:takeS (b :: t)=.ok f):frWrong f=0∧frBody f=b :: t∧f.wf∧f.plain∧f.kind=1:=by
 unfold takeS at h
 simp only at h
 split at h
 · cases h
 rename_i hbad
 obtain ⟨_,n,e1,e2,e3⟩:=rnum_cut (l:=b :: t) (m:=2147483648) (s:=(1,false)) (by simpa using hbad)
 split at h
 · cases h
 rename_i cols hd
 injection h with h
 subst h
 obtain ⟨d1,d2,d3⟩:=decodeS_cut hd
 rw [e1]
 have hn:outOf 2147483648 (n:Int)=false:=outOf_nat (m:=2147483648) e2
 refine ⟨?_,?_,⟨d3,schCheck_names d2⟩,by simp [Fr.plain,frZero],rfl⟩
 · simp [frWrong,schWrong,hn,d2]
 · simp only [frBody,frPut,schPut,lebs,List.flatMap_cons,List.flatMap_nil,List.append_nil]
   rw [d1]
   have h0:Cut (b :: t) 0 1 [b]:=Cut.of (bs:=[b]) (r:=t) rfl
   have h1:=(h0.trans e3).trans (Cut.tail (l:=b :: t) (a:=(rnum (b :: t) 2147483648 (1,false)).2.1) (e3.le (leb_pos n)))
   conv=>rhs;rw [Cut.whole h1]
   subst hb
   simp
theorem takeD_cut {b:UInt8} {t:List UInt8} {f:Fr} (hb:b=2) (h:takeD (b :: t)=.ok f):frWrong f=0∧frBody f=b :: t∧f.wf∧f.plain∧f.kind=2:=by
 unfold takeD at h
 simp only at h
 split at h
 · cases h
 rename_i hbad
 rw [Bool.or_eq_true,not_or,decide_eq_true_eq] at hbad
 obtain ⟨hb4,hr⟩:=hbad
 obtain ⟨b3,n4,e4,f4,c4⟩:=rnum_cut (Bool.not_eq_true _▸hb4)
 obtain ⟨b2,n3,e3,f3,c3⟩:=rnum_cut b3
 obtain ⟨b1,n2,e2,f2,c2⟩:=rnum_cut b2
 obtain ⟨_,n1,e1,f1,c1⟩:=rnum_cut b1
 injection h with h
 subst h
 have h0:Cut (b :: t) 0 1 [b]:=Cut.of (bs:=[b]) (r:=t) rfl
 have h1:=((((h0.trans c1).trans c2).trans c3).trans c4).trans (Cut.tail (c4.le (leb_pos n4)))
 rw [e4] at hr
 rw [e1,e2,e3,e4]
 have o1:outOf 2147483648 (n1:Int)=false:=outOf_nat (m:=2147483648) f1
 have o2:outOf 1099511627776 (n2:Int)=false:=outOf_nat (m:=1099511627776) f2
 have o3:outOf 1099511627776 (n3:Int)=false:=outOf_nat (m:=1099511627776) f3
 refine ⟨?_,?_,⟨by simp [frZero],by simp [frZero]⟩,by simp [Fr.plain,frZero],rfl⟩
 · have o4:¬(n4:Int)<1:=hr
   have o5:¬(64:Int)<(n4:Int):=by omega
   simp [frWrong,datWrong,o1,o2,o3]
   omega
 · simp only [frBody,frPut,datPut,lebs,List.flatMap_cons,List.flatMap_nil,List.append_nil]
   conv=>rhs;rw [Cut.whole h1]
   subst hb
   simp
theorem rent_cut {l:List UInt8} {s:Nat×Bool} (h:(rent l s).2.2=false):s.2=false∧entBad (rent l s).1=false∧Cut l s.1 (rent l s).2.1 (entPut (rent l s).1):=by
 unfold rent at h ⊢
 simp only at h ⊢
 obtain ⟨b2,n3,e3,f3,c3⟩:=rnum_cut h
 obtain ⟨b1,n2,e2,f2,c2⟩:=rnum_cut b2
 obtain ⟨b0,n1,e1,f1,c1⟩:=rnum_cut b1
 have o1:outOf 1099511627776 (n1:Int)=false:=outOf_nat (m:=1099511627776) f1
 have o2:outOf 1099511627776 (n2:Int)=false:=outOf_nat (m:=1099511627776) f2
 have o3:outOf 1099511627776 (n3:Int)=false:=outOf_nat (m:=1099511627776) f3
 refine ⟨b0,?_,?_⟩
 · simp only [entBad,e1,e2,e3,List.any_cons,o1,o2,o3,List.any_nil,Bool.or_false]
 · simp only [entPut,e1,e2,e3,lebs,List.flatMap_cons,List.flatMap_nil,List.append_nil]
   have:=(c1.trans c2).trans c3
   simpa using this
theorem rents_cut {l:List UInt8}:∀ (n:Nat) (s:Nat×Bool),(rents l n s).2.2=false→s.2=false∧(rents l n s).1.length=n∧(∀ e∈(rents l n s).1,entBad e=false)∧Cut l s.1 (rents l n s).2.1 ((rents l n s).1.flatMap entPut)
 | 0,s,h=>⟨h,rfl,by simp [rents],Cut.none l _⟩
 | n+1,s,h=>by
   cases hs:s.2 with
   | true=>rw [rents_bad _ _ _ hs] at h;simp [hs] at h
   | false=>
     rw [rents_step _ _ _ hs] at h ⊢
     obtain ⟨h1,h2,h3,h4⟩:=rents_cut n _ h
     obtain ⟨_,h5,h6⟩:=rent_cut h1
     refine ⟨rfl,by simp [h2],?_,?_⟩
     · intro e he
       rcases List.mem_cons.1 he with rfl | he
       · exact h5
       · exact h3 e he
     · rw [List.flatMap_cons]
       exact h6.trans h4
theorem takeI_cut {b:UInt8} {t:List UInt8} {f:Fr} (hb:b=3) (h:takeI (b :: t)=.ok f):frWrong f=0∧frBody f=b :: t∧f.wf∧f.plain∧f.kind=3:=by
 unfold takeI at h
 simp only at h
 split at h
 · cases h
 rename_i hbad
 injection h with h
 have hbad':(rindex (b :: t) (1,false)).2.2=false:=by simpa using hbad
 unfold rindex at hbad' h
 simp only [Bool.or_eq_false_iff,bne_eq_false_iff_eq] at hbad'
 simp only at h
 obtain ⟨hb5,hend⟩:=hbad'
 obtain ⟨b4,hlen,hes,c5⟩:=rents_cut _ _ hb5
 obtain ⟨b3,n4,e4,f4,c4⟩:=rnum_cut b4
 obtain ⟨b2,n3,e3,f3,c3⟩:=rnum_cut b3
 obtain ⟨b1,n2,e2,f2,c2⟩:=rnum_cut b2
 obtain ⟨_,n1,e1,f1,c1⟩:=rnum_cut b1
 have h0:Cut (b :: t) 0 1 [b]:=Cut.of (bs:=[b]) (r:=t) rfl
 have h1:=((((h0.trans c1).trans c2).trans c3).trans c4).trans c5
 rw [hend] at h1
 have h2:=Cut.whole h1
 subst h
 rw [e1,e2,e3]
 rw [e4] at hlen hes h2 ⊢
 have e5:((n4:Int).toNat)=n4:=rfl
 rw [e5] at hlen hes h2 ⊢
 generalize hE:(rents (b :: t) n4 _).1=E at *
 have o1:outOf 1099511627776 (n1:Int)=false:=outOf_nat (m:=1099511627776) f1
 have o2:outOf 1099511627776 (n2:Int)=false:=outOf_nat (m:=1099511627776) f2
 have o3:outOf 1099511627776 (n3:Int)=false:=outOf_nat (m:=1099511627776) f3
 refine ⟨?_,?_,⟨by simp [frZero],by simp [frZero]⟩,by simp [Fr.plain,frZero],rfl⟩
 · have hany:E.any entBad=false:=by rw [List.any_eq_false];intro e he;rw [hes e he];simp
   have h64:¬ 64<E.length:=by omega
   simp [frWrong,idxWrong,o1,o2,o3,hany,h64]
 · simp only [frBody,frPut,idxPut,lebs,List.flatMap_cons,List.flatMap_nil,List.append_nil]
   conv=>rhs;rw [h2]
   subst hb
   rw [hlen]
   simp
theorem takeF_cut {l:List UInt8} {f:Fr} (h:takeF l=.ok f):frWrong f=0∧frBody f=l∧f.wf∧f.plain∧(f.kind=1∨f.kind=2∨f.kind=3):=by
 cases l with
 | nil=>cases h
 | cons b t=>
   rw [takeF] at h
   split at h
   · rename_i hb
     obtain ⟨h1,h2,h3,h4,h5⟩:=takeS_cut hb h
     exact ⟨h1,h2,h3,h4,.inl h5⟩
   split at h
   · rename_i hb
     obtain ⟨h1,h2,h3,h4,h5⟩:=takeD_cut hb h
     exact ⟨h1,h2,h3,h4,.inr (.inl h5)⟩
   split at h
   · rename_i hb
     obtain ⟨h1,h2,h3,h4,h5⟩:=takeI_cut hb h
     exact ⟨h1,h2,h3,h4,.inr (.inr h5)⟩
   · cases h
theorem rent_of {l:List UInt8} {e:Ent} {a k:Nat} (he:entBad e=false) (h:Cut l a k (entPut e)):rent l (a,false)=(e,(k,false)):=by
 obtain ⟨x,y,z,rfl,hx,hy,hz⟩:=entBad_no he
 simp only [entPut,lebs,List.flatMap_cons,List.flatMap_nil,List.append_nil,Int.toNat_natCast] at h
 have h1:=rnum_of (m:=seqMax) h.first (by simpa using hx) (by decide)
 have h2:=rnum_of (m:=seqMax) h.rest.first (by simpa using hy) (by decide)
 have h3:=rnum_of (m:=seqMax) h.rest.rest (by simpa using hz) (by decide)
 unfold rent
 simp only [h1,h2,h3]
theorem rents_of {l:List UInt8}:∀ (es:List Ent) (a k:Nat),(∀ e∈es,entBad e=false)→Cut l a k (es.flatMap entPut)→rents l es.length (a,false)=(es,(k,false))
 | [],a,k,_,h=>by
   have:=h.to
   simp [rents,this]
 | e :: es,a,k,he,h=>by
   rw [List.flatMap_cons] at h
   rw [List.length_cons,rents_step _ _ _ rfl,rent_of (he e (by simp)) h.first]
   simp only
   rw [rents_of es _ k (fun x hx=>he x (by simp [hx])) h.rest]
theorem takeF_of {f:Fr} (h:frWrong f=0) (hw:f.wf):∃ f',takeF (frBody f)=.ok f'∧frSame f' f=true:=by
 unfold frWrong at h
 by_cases h1:f.kind=1
 · rw [if_pos h1] at h
   obtain ⟨n,hn,hn2,hsc⟩:=schWrong_no h
   obtain ⟨cols',d1,d2⟩:=decodeS_of hsc hw.dflt
   have hb:frBody f=1 :: (leb n++putS f.cols):=by
    simp [frBody,frPut,schPut,h1,hn,lebs]
   rw [hb]
   have h0:=Cut.start ((1:UInt8) :: (leb n++putS f.cols))
   have c1:=Cut.rest (bs:=[(1:UInt8)]) h0
   have g1:=rnum_of (m:=2147483648) c1.first hn2 (by decide)
   have e1:((1:UInt8) :: (leb n++putS f.cols)).drop (0+[(1:UInt8)].length+(leb n).length)=putS f.cols:=by
    have:=c1.rest.eq
    rw [this,List.drop_length,List.append_nil]
   rw [takeF,if_pos rfl]
   unfold takeS
   have g1':rnum ((1:UInt8) :: (leb n++putS f.cols)) 2147483648 (1,false)=((n:Int),(0+[(1:UInt8)].length+(leb n).length,false)):=g1
   simp only [g1',Bool.false_eq_true,if_false,e1,d1]
   exact ⟨_,rfl,by simp [frSame,h1,hn,d2]⟩
 rw [if_neg h1] at h
 by_cases h2:f.kind=2
 · rw [if_pos h2] at h
   obtain ⟨n,s,t,r,hn,hs,ht,hr,hn2,hs2,ht2,hr1,hr2⟩:=datWrong_no h
   have hb:frBody f=2 :: (leb n++(leb s++(leb t++(leb r++f.block)))):=by
    simp [frBody,frPut,datPut,h2,hn,hs,ht,hr,lebs]
   rw [hb]
   generalize hL:(2:UInt8) :: (leb n++(leb s++(leb t++(leb r++f.block))))=L
   have h0:Cut L 0 L.length ([2]++(leb n++(leb s++(leb t++(leb r++f.block))))):=by
    rw [← hL];exact Cut.start _
   have c1:=h0.rest
   have g1:=rnum_of (m:=2147483648) c1.first hn2 (by decide)
   have g2:=rnum_of (m:=seqMax) c1.rest.first (by simpa using hs2) (by decide)
   have g3:=rnum_of (m:=seqMax) c1.rest.rest.first (by simpa using ht2) (by decide)
   have g4:=rnum_of (m:=65) c1.rest.rest.rest.first (by omega) (by decide)
   have e1:=c1.rest.rest.rest.rest.eq
   rw [List.drop_length,List.append_nil] at e1
   have ht':takeF L=takeD L:=by rw [← hL,takeF,if_neg (by decide),if_pos rfl]
   rw [ht']
   unfold takeD
   have g1':rnum L 2147483648 (1,false)=_:=g1
   have hr0:¬(r:Int)<1:=by omega
   simp only [g1',g2,g3,g4,e1,hr0,decide_false,Bool.or_false,Bool.false_eq_true,if_false]
   exact ⟨_,rfl,by simp [frSame,h2,hn,hs,ht,hr]⟩
 rw [if_neg h2] at h
 by_cases h3:f.kind=3
 · rw [if_pos h3] at h
   obtain ⟨n,s,t,hn,hs,ht,hn2,hs2,ht2,hlen,hes⟩:=idxWrong_no h
   have hb:frBody f=3 :: (leb n++(leb s++(leb t++(leb f.ents.length++f.ents.flatMap entPut)))):=by
    simp [frBody,frPut,idxPut,h3,hn,hs,ht,lebs]
   rw [hb]
   generalize hL:(3:UInt8) :: (leb n++(leb s++(leb t++(leb f.ents.length++f.ents.flatMap entPut))))=L
   have h0:Cut L 0 L.length ([3]++(leb n++(leb s++(leb t++(leb f.ents.length++f.ents.flatMap entPut))))):=by
    rw [← hL];exact Cut.start _
   have c1:=h0.rest
   have g1:=rnum_of (m:=seqMax) c1.first (by simpa using hn2) (by decide)
   have g2:=rnum_of (m:=seqMax) c1.rest.first (by simpa using hs2) (by decide)
   have g3:=rnum_of (m:=seqMax) c1.rest.rest.first (by simpa using ht2) (by decide)
   have g4:=rnum_of (m:=65) c1.rest.rest.rest.first (by omega) (by decide)
   have g5:=rents_of f.ents _ _ hes c1.rest.rest.rest.rest
   have ht':takeF L=takeI L:=by rw [← hL,takeF,if_neg (by decide),if_neg (by decide),if_pos rfl]
   rw [ht']
   have g1':rnum L seqMax (1,false)=_:=g1
   have hix:rindex L (1,false)=(⟨n,s,t,f.ents⟩,(L.length,false)):=by
    unfold rindex
    simp only [g1',g2,g3,g4,Int.toNat_natCast,g5]
    simp
   unfold takeI
   simp only [hix,Bool.false_eq_true,if_false]
   exact ⟨_,rfl,by simp [frSame,ixSame,h3,hn,hs,ht]⟩
 · rw [if_neg h3] at h
   omega
theorem le4_length (S:Nat):(le4 S).length=4:=rfl
theorem le_le4 (S:Nat) (h:S<4294967296):le (le4 S)=S:=by
 have hb:∀ m:Nat,(UInt8.ofNat (m % 256)).toNat=m % 256:=fun m=>by rw [UInt8.toNat_ofNat'];omega
 unfold le4
 rw [le_four]
 simp only [hb]
 omega
theorem le4_le (l:List UInt8) (h:l.length=4):le4 (le l)=l:=by
 match l,h with
 | [a,b,c,d],_=>
   have ha:a.toNat<256:=a.toNat_lt
   have hb:b.toNat<256:=b.toNat_lt
   have hc:c.toNat<256:=c.toNat_lt
   have hd:d.toNat<256:=d.toNat_lt
   have hx:∀ (x:UInt8) (m:Nat),m % 256=x.toNat→UInt8.ofNat (m % 256)=x:=fun x m h=>by rw [h];simp
   unfold le4
   rw [le_four,hx a _ (by omega),hx b _ (by omega),hx c _ (by omega),hx d _ (by omega)]
theorem sum_lt (l:List UInt8):Crc.sum (nats l)<4294967296:=Crc.upd_lt _ (by omega) (nats_lt l)
theorem frBody_pos (f:Fr):1≤(frBody f).length:=by simp [frBody]
def checked (b:List UInt8):List UInt8:=b++le4 (Crc.sum (nats b))
theorem decF_checked (b:List UInt8) (hb:1≤b.length) (hs:(stuffOf (checked b)).length≤2200):decF (stuffOf (checked b))=takeF b:=by
 unfold decF
 have hl:(checked b).length=b.length+4:=by unfold checked;rw [List.length_append,le4_length]
 rw [if_neg (by omega),unstuff_stuff]
 simp only [ne_eq,not_true,if_false]
 rw [hl,if_neg (by omega)]
 have e1:(checked b).take (b.length+4-4)=b:=by
  rw [Nat.add_sub_cancel]
  unfold checked
  rw [List.take_left]
 have e2:(checked b).drop (b.length+4-4)=le4 (Crc.sum (nats b)):=by
  rw [Nat.add_sub_cancel]
  unfold checked
  rw [List.drop_left]
 rw [e1,e2,le_le4 _ (sum_lt b)]
 simp
theorem encF_ok {f:Fr} {l:List UInt8} (h:encF f=.ok l):frWrong f=0∧(stuffOf (checked (frBody f))).length≤2200∧l=0 :: (stuffOf (checked (frBody f))++[0]):=by
 unfold encF at h
 split at h
 · rename_i h0
   unfold encFin at h
   split at h
   · cases h
   · rename_i h1
     injection h with h
     exact ⟨h0,by unfold checked;omega,h.symm⟩
 · cases h
theorem enc_back {f:Fr} {l:List UInt8} (hw:f.wf) (h:encF f=.ok l):∃ s,l=0 :: (s++[0])∧5≤s.length∧s.length≤2200∧(0:UInt8)∉s∧∃ f',decF s=.ok f'∧frSame f' f=true:=by
 obtain ⟨h0,h1,h2⟩:=encF_ok h
 obtain ⟨f',e1,e2⟩:=takeF_of h0 hw
 refine ⟨_,h2,?_,h1,stuff_no _,f',?_,e2⟩
 · have:=(stuff_length (checked (frBody f))).1
   have h3:(checked (frBody f)).length=(frBody f).length+4:=by unfold checked;rw [List.length_append,le4_length]
   have:=frBody_pos f
   omega
 · rw [decF_checked _ (frBody_pos f) h1,e1]
theorem decF_ok {run:List UInt8} {f:Fr} (h:decF run=.ok f):frWrong f=0∧f.wf∧f.plain∧(f.kind=1∨f.kind=2∨f.kind=3)∧run=stuffOf (checked (frBody f))∧run.length≤2200:=by
 unfold decF at h
 split at h
 · cases h
 rename_i h1
 split at h
 · cases h
 rename_i h2
 split at h
 · cases h
 rename_i h3
 split at h
 · cases h
 rename_i h4
 obtain ⟨t1,t2,t3,t4,t5⟩:=takeF_cut h
 have hu:=stuff_unstuff run (unstuffOf run).1 (by have:(unstuffOf run).2=0:=by simpa using h2
                                                  rw [← this])
 refine ⟨t1,t3,t4,t5,?_,by omega⟩
 have hd:((unstuffOf run).1.drop ((unstuffOf run).1.length-4)).length=4:=by rw [List.length_drop];omega
 have hs:Crc.sum (nats ((unstuffOf run).1.take ((unstuffOf run).1.length-4)))=le ((unstuffOf run).1.drop ((unstuffOf run).1.length-4)):=by simpa using h4
 have hc:checked (frBody f)=(unstuffOf run).1:=by
  unfold checked
  rw [t2,hs,le4_le _ hd,List.take_append_drop]
 rw [hc,hu]
end Go.Proofs.YtihodcnnappkbaaGreatDoor
namespace Go.Proofs.YtihodcnnappkbaaGreatDoor
open Go.RowKit Go.BigFrame
set_option linter.unusedVariables false
set_option linter.unusedSimpArgs false
def smallCol:Col:=⟨str [97],.mk 2 [],false,vaZero⟩
def smallF:Fr:={ frZero with kind:=1,cols:=[smallCol] }
theorem text_a:(textBytes (str [97])).length=2:=by
 have e1:(leb 1).length=1:=by rw [leb_small (by omega)];rfl
 unfold textBytes
 rw [List.length_append,show (str [97]).size=1 from rfl,e1]
 rfl
theorem schOk_small:schCheck [smallCol]=0:=by
 have h1:nameOk (str [97])=true:=by decide +kernel
 have h2:(putS [smallCol]).length≤1024:=by
  have e1:(leb 1).length=1:=by rw [leb_small (by omega)];rfl
  have e3:putS [smallCol]=leb 1++((textBytes (str [97])++([2]++[0]))++[]):=rfl
  rw [e3]
  simp only [List.length_append,List.length_cons,List.length_nil,e1,text_a]
  omega
 have h3:colsCheck [] [smallCol]=0:=by
  unfold colsCheck colCheck
  simp only [smallCol,h1,vaZero_self]
  simp [nameIn,tyCheck,colsCheck]
 unfold schCheck
 rw [if_pos h3]
 simp
 omega
theorem smallF_wf:smallF.wf:=⟨fun x hx=>by
 simp only [smallF,List.mem_cons,List.not_mem_nil,or_false] at hx
 subst hx
 exact vaZero_wf,fun x hx=>by
 simp only [smallF,List.mem_cons,List.not_mem_nil,or_false] at hx
 subst hx
 show 1≤_
 omega⟩
theorem smallF_ok:frWrong smallF=0:=by
 simp only [frWrong,smallF,if_true,schWrong,schOk_small]
 rfl
theorem small_body:(frBody smallF).length=7:=by
 have e0:(leb 0).length=1:=by rw [leb_small (by omega)];rfl
 have e1:(leb 1).length=1:=by rw [leb_small (by omega)];rfl
 have e3:frBody smallF=[1]++((leb 0++[])++(leb 1++((textBytes (str [97])++([2]++[0]))++[]))):=rfl
 rw [e3]
 simp only [List.length_append,List.length_cons,List.length_nil,e0,e1,text_a]
theorem small_enc:∃ l,encF smallF=.ok l∧3≤l.length∧l.length≤17:=by
 have hl:(checked (frBody smallF)).length=11:=by unfold checked;rw [List.length_append,le4_length,small_body]
 have hs:=stuff_length (checked (frBody smallF))
 refine ⟨0 :: (stuffOf (checked (frBody smallF))++[0]),?_,?_,?_⟩
 · unfold encF encFin
   have e:frBody smallF++le4 (Crc.sum (nats (frBody smallF)))=checked (frBody smallF):=rfl
   rw [if_pos smallF_ok,e,if_neg (by omega)]
 · simp
   omega
 · simp
   omega
theorem FrS.none {w:World} (S:Nat→Prop) (f:Fr) (h1:f.cols=[]) (h2:f.block=[]) (h3:f.ents=[]) (A B E:Option Addr):FrS w S A B E f:=by
 obtain ⟨kd,nm,cols,sq,fs,rw',bl,sp,fr,ir,es⟩:=f
 simp only at h1 h2 h3
 subst h1 h2 h3
 exact ⟨SchS.nil _ _ _,Reads.nil _ _,fun _ _ h=>absurd rfl h,RowAt.nil _ _,fun _ _ h=>absurd rfl h,by simp,by simp⟩
theorem FrS.mono {w:World} {S S':Nat→Prop} {A B E:Option Addr} {f:Fr} (h:FrS w S A B E f) (hS:∀ k,k<w.heap.size→S k→S' k):FrS w S' A B E f:=by
 refine ⟨h.sch.mono hS,h.blk,fun a e hn=>?_,h.ent,fun a e hn=>?_,h.lenB,h.lenE⟩
 · have hp:0<f.block.length:=List.length_pos_iff.2 hn
   obtain ⟨ad,e1,hcell⟩:=h.blk.out 0 hp
   rw [e] at e1
   cases e1
   have:=World.block_lt_of_cell? w _ hcell
   rw [addr_add_block] at this
   exact hS _ this (h.blkS _ e hn)
 · have hp:0<f.ents.length:=List.length_pos_iff.2 hn
   have hg:=(entCells_get f.ents 0 hp).1
   obtain ⟨ad,e1,hcell⟩:=h.ent _ _ hg
   rw [e] at e1
   cases e1
   have:=World.block_lt_of_cell? w _ hcell
   rw [addr_add_block] at this
   exact hS _ this (h.entS _ e hn)
theorem dec_len {run:List UInt8} {f:Fr} (h:decF run=.ok f):f.block.length≤2200∧f.ents.length≤64:=by
 obtain ⟨h0,_,⟨_,p2,p3,_⟩,hk,h2,h3⟩:=decF_ok h
 have h4:=(stuff_length (checked (frBody f))).1
 rw [← h2] at h4
 have h5:(checked (frBody f)).length=(frBody f).length+4:=by unfold checked;rw [List.length_append,le4_length]
 have h6:(frBody f).length=1+(frPut f).length:=by simp [frBody,Nat.add_comm]
 constructor
 · by_cases k2:f.kind=2
   · have h7:frPut f=datPut f:=by simp [frPut,k2]
     rw [h7] at h6
     unfold datPut at h6
     rw [List.length_append] at h6
     omega
   · rw [(p2 k2).2.2.2]
     simp
 · by_cases k3:f.kind=3
   · have h7:frWrong f=idxWrong f:=by simp [frWrong,k3]
     rw [h7] at h0
     obtain ⟨_,_,_,_,_,_,_,_,_,h8,_⟩:=idxWrong_no h0
     exact h8
   · rw [(p3 k3).2.2.2]
     simp
theorem blk_of (a:Addr) (n c:Nat) (h:0<c):blk (.slice (some a) n c)=some a.block:=by
 simp [blk]
 omega
theorem FrO.toS {w:World} {base:Nat} {A B E:Option Addr} {d k:Nat} {f:Fr} (h:FrO w base A B d E k f) (h1:f.block.length≤2200) (h2:f.ents.length≤64):FrS w (fun b=>base≤b) A B E f:=by
 refine ⟨h.sch,h.blk.reads,fun a e hn=>?_,?_,fun a e hn=>?_,by omega,by omega⟩
 · have hp:0<f.block.length:=List.length_pos_iff.2 hn
   obtain ⟨_,c',e1,hlc,_⟩:=h.blk.form
   injection e1 with e1 e2 e3
   subst e
   exact (h.blk.lt a.block (blk_of a _ _ (by omega))).1
 · obtain ⟨_,_,e1,hlc,hrow,_⟩:=h.ent.form
   injection e1 with e1 e2 e3
   subst e1 e3
   exact hrow
 · have hp:0<f.ents.length:=List.length_pos_iff.2 hn
   obtain ⟨_,c',e1,hlc,_⟩:=h.ent.form
   injection e1 with e1 e2 e3
   subst e
   exact (h.ent.lt a.block (blk_of a _ _ (by omega))).1
end Go.Proofs.YtihodcnnappkbaaGreatDoor
namespace Go.Proofs.YtihodcnnappkbaaGreatDoor
open Go.Shelf Go.Lib Go.Proofs
def frRen:Ren:=⟨fun n=>n,fun | 5=>5 | 119=>223 | 138=>225 | 139=>226 | n=>n,fun | 3=>3 | 4=>4 | n=>n⟩
theorem frTypes:U8Types Tryz.prog frRen:=⟨Tryz.underlying5,Tryz.underlying223,by kernel_rfl,Tryz.underlying226⟩
theorem frExtra:U8Extra Tryz.prog frRen:=⟨by kernel_rfl,by kernel_rfl,by kernel_rfl,by kernel_rfl,by kernel_rfl,by kernel_rfl,by kernel_rfl⟩
theorem gTab:Tryz.prog.globalNamed "gabion/crc.halves" = some 1:=by kernel_rfl
theorem gTabType:(Tryz.prog.globals[1]?).map (·.type)=some 190:=by kernel_rfl
theorem cellsTab:Tryz.prog.cellsOf 190=16:=by kernel_rfl
theorem cellsElem:Tryz.prog.cellsOf 122=1:=by kernel_rfl
theorem first_data:Go.Pinned.utf8First=firstData:=by kernel_rfl
theorem accept_data:(Rows.laid_unicode_utf8_acceptRanges:DataW Unit)=acceptData:=by kernel_rfl
theorem halves_data:(Rows.laid_gabion_crc_halves:DataW Unit)=tabData .u32 (Crc.tab.map fun n:Nat=>(n:Int)):=by kernel_rfl
def laidL:List (String×DataW Unit):=[("gabion/crc.halves",Rows.laid_gabion_crc_halves),("unicode/utf8.acceptRanges",Rows.laid_unicode_utf8_acceptRanges),("unicode/utf8.first",Rows.laid_unicode_utf8_first)]
theorem tables {W:World} (h:laidMetH Tryz.prog laidL W):Tabs W∧Table W:=by
 rw [MakeChecks.laidMetH_plain _ _ _ (by kernel_rfl)] at h
 have h1:VarReads Tryz.prog W "gabion/crc.halves" _:=laidMet.reads h (.head _)
 have h2:VarReads Tryz.prog W "unicode/utf8.acceptRanges" _:=laidMet.reads h (.tail _ (.head _))
 have h3:VarReads Tryz.prog W "unicode/utf8.first" _:=laidMet.reads h (.tail _ (.tail _ (.head _)))
 rw [halves_data] at h1
 rw [accept_data] at h2
 rw [show (Rows.laid_unicode_utf8_first:DataW Unit)=firstData from first_data] at h3
 refine ⟨utf8Tabs_of_readsT frTypes frExtra h3 h2,?_⟩
 intro i hi
 obtain ⟨g,t,cs,fuel,p,hg,hty,hvar,hd⟩:=h1
 obtain rfl:=Option.some.inj (gTab.symm.trans hg)
 obtain rfl:=Option.some.inj (gTabType.symm.trans hty)
 have hcs:=cells_of_tab Tryz.underlying190 Tryz.underlying122 cellsElem cellsTab hd
 have:=World.var?_cell hg hvar i
 rw [this,← Array.getElem?_toList,hcs]
 have hc:i<Crc.tab.length:=by simpa [Crc.tab] using hi
 simp [List.getD_eq_getElem?_getD,hc]
noncomputable def laidWorld (os:Os):World:=World.laidAll Tryz.prog os laidL
theorem laid_met (os:Os) (args:Array Value):laidMet Tryz.prog laidL ((laidWorld os).forCall (fun _ _=>0) ⟨#[],args,[]⟩).memory:=
 laidMet_laidAll args (by kernel_rfl) (by kernel_rfl)
end Go.Proofs.YtihodcnnappkbaaGreatDoor
namespace Go.Proofs.YtihodcnnappkbaaGreatDoor
open Go.RowKit Go.ChangeShapes Go.WideShapes Go.ChangeAt Go.WideElems
theorem own:ownKnob Tryz.prog.godebug=none:=by kernel_rfl
theorem laidOut:laidOutB Tryz.prog=true:=by kernel_rfl
theorem trodAll_below {H:Type} {enc:TypeId×Value→H} {P:Program} (hl:laidOutB P=true) {W W':World} (hb:Below W.heap.size W W') :
 ∀ {ts:List TypeId} {vs:List Value} {ds:List (DataW H)} {ps:List MemPlace},(ts.all fun t=>P.readableRec t&&decide (t<P.types.size))=true→DataW.TrodAll enc P W 0 (fun _=>true) true ts vs ds ps →
   DataW.TrodAll enc P W' 0 (fun b=>decide (b<W.heap.size)) true ts vs ds ps:=by
 intro ts
 induction ts with
 | nil=>
   intro vs ds ps _ h
   obtain ⟨rfl,rfl,rfl⟩:=trodAll_nil h
   exact trodAll_mk0
 | cons t ts ih=>
   intro vs ds ps hr h
   have hlt:=h.lt
   obtain ⟨v,vs',d,ds',p,q,rfl,rfl,rfl,hd,hrest⟩:=trodAll_cons h
   simp only [List.all_cons,Bool.and_eq_true,decide_eq_true_eq] at hr
   exact trodAll_cons_mk (Below.trod hl hr.1.1 hr.1.2 hd hb (fun x hx=>hlt x (List.mem_append.2 (.inl hx)))) (ih hr.2 hrest)
theorem post_law {H:Type} {enc:TypeId×Value→H} {P:Program} (hl:laidOutB P=true) {f:Func} {s:ChangeSpec} {tb:TypeId} (hvars:s.vars=[]) (hres:f.resultTypes=#[tb]) (htb:P.underlying tb=some .bool)
 (hr:(f.params.toList.all fun t=>P.readableRec t&&decide (t<P.types.size))=true) {W W':World} {args:Array Value} {ds gs:List (DataW H)} {before:List MemPlace}
 (hW:DataW.Whole enc P f.params.toList s.vars false W args.toList ds gs before) (hs:s.fn H (ds++gs) = { results:=[.lit (.bool true)],args:=ds }) (hb:Below W.heap.size W W') :
 s.post enc P f false true false false W args (.bool true) W':=by
 have hW':=hW
 obtain ⟨p,q,hA,hV,rfl,hfz,hnd⟩:=hW
 refine ⟨ds,gs,p++q,[],p,[],hW',?_,?_,?_,hb.frame _,fun h=>by cases h⟩
 · rw [hs,hres]
   exact trodAll_mk1 (shut_bool htb true)
 · rw [hs]
   exact trodAll_below hl hb hr hA
 · rw [hs,hvars]
   exact rfl
end Go.Proofs.YtihodcnnappkbaaGreatDoor
