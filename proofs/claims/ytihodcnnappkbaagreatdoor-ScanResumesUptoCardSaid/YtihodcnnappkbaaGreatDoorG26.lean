/-
  The walk of the reference's Next: what is refused. Condition: the walk stands for its lists; the frame reads; the tables are as laid. The walk of the reference's Next: what is taken. Condition: the walk stands for its lists; the frame reads; the tables are as laid. The walk of the reference's Next. Condition: the walk stands for its lists; the frame reads; the tables are as laid. The program's walk and the reference's, asked alike: plain. No condition. Rows that are written over: an entries' row, a schema's names. No condition.
-/
import Derived.Test.YtihodcnnappkbaaGreatDoorG25
import Derived.Test.YtihodcnnappkbaaGreatDoorG23
import Derived.Test.YtihodcnnappkbaaGreatDoorG18
import Derived.Test.YtihodcnnappkbaaGreatDoorG24
import Derived.Deep.RegionLawGrows
import Derived.Test.YtihodcnnappkbaaGreatDoorG17
import Derived.Test.YtihodcnnappkbaaGreatDoorG14
import Derived.Test.YtihodcnnappkbaaGreatDoorG8
set_option linter.unusedVariables false
set_option linter.unusedSimpArgs false
set_option maxHeartbeats 8000000
set_option maxRecDepth 20000
namespace Go.Proofs.YtihodcnnappkbaaGreatDoor
section
open Go.RowKit Go.BigFrame
attribute [local go_sem] run_storeF
theorem rkNext_out (g:Nat) (S T:Nat→Prop) (r:Rk) (A B E:Option Addr) (c d m:Nat) (f:Fr) (a:Int) (w:World) (hr:RkV w S g r) (a2:r.fit) (hf:FrS w T A B E f) (hT:∀ j,T j→j<w.heap.size) (a1:f.cols.length≤c) (a6:f.wf) (a5:Tabs w) (a0:outOf 1099511627776 a=true) :
 Calls Tryz.prog 14 #[.pointer (some ⟨g,0,none⟩),.agg (frCells A c B d E m f),.int .i64 a] w fun e w'=>e=.returned (.int .i64 143)∧Keeps w w':=by
 unfold outOf at a0
 simp only [Bool.or_eq_true,decide_eq_true_eq] at a0
 clear hr a2 hf hT a1 a6 a5
 unfold frCells
 generalize f.cols.length=n1 at *
 generalize f.block.length=n2 at *
 generalize f.ents.length=n3 at *
 by_cases h0:a<0
 · clear a0
   go_enter Tryz.func14,Tryz.ntmps14
   go_wp2
   go_ret
   exact ⟨rfl,(Keeps.refl w).alloc _⟩
 · have h1:(1099511627776:Int)≤a:=by omega
   clear a0
   go_enter Tryz.func14,Tryz.ntmps14
   go_wp2
   go_ret
   exact ⟨rfl,(Keeps.refl w).alloc _⟩
theorem rkNext_unencoded (g:Nat) (S T:Nat→Prop) (r:Rk) (A B E:Option Addr) (c d m:Nat) (f:Fr) (a:Int) (w:World) (hr:RkV w S g r) (a2:r.fit) (hf:FrS w T A B E f) (hT:∀ j,T j→j<w.heap.size) (a1:f.cols.length≤c) (a6:f.wf) (a5:Tabs w) (a0:outOf 1099511627776 a=false) (er:Int) (hq:encF f=.error er) :
 Calls Tryz.prog 14 #[.pointer (some ⟨g,0,none⟩),.agg (frCells A c B d E m f),.int .i64 a] w fun e w'=>e=.returned (.int .i64 143)∧Keeps w w':=by
 obtain ⟨W1,a4⟩:∃ W1,W1=w.alloc (.cells (frCells A c B d E m f) 36):=⟨_,rfl⟩
 have a8:Keeps w W1:=by rw [a4];exact (Keeps.refl w).alloc _
 have a7:W1.heap[w.heap.size]? = some (.cells (frCells A c B d E m f) 36 (0,0)):=by rw [a4];exact obj_new _ _
 have ai:∀ w2,Keeps w w2→Calls Tryz.prog 44 #[.agg (frCells A c B d E m f)] w2 (FPost w2 (encF f)):=fun w2 a3=>
  refEncode_calls A B E c d m f w2 a1 ((hf.later a3.below).mono fun j _ h=>Nat.lt_of_lt_of_le (hT j h) a3.size) a6 (a5.below a3.below)
 have hb:¬a<0∧¬(1099511627776:Int)≤a:=by
  unfold outOf at a0
  simp only [Bool.or_eq_false_iff,decide_eq_false_iff_not] at a0
  exact a0
 obtain ⟨be,bb⟩:=hb
 have b4:=encF_nz hq
 unfold frCells at *
 have ak:=Hi ai
 have ah:=Hi a7
 have aa:=Hi a8
 obtain ⟨⟨d0,d1,d2,d3,d4,d5,d6,d7,d8,d9,d10⟩,_⟩:=cells11 a7
 rw [a4] at d0 d1 d2 d3 d4 d5 d6 d7 d8 d9 d10
 clear hr a2 hf hT a6 a5 ai a7 a8 a0 a1
 generalize f.cols.length=n1 at *
 generalize f.block.length=n2 at *
 generalize f.ents.length=n3 at *
 go_enter Tryz.func14,Tryz.ntmps14
 go_wp2_with fail
 rw [← a4]
 clear a4
 refine (ak.out W1 aa.out).mono ?_
 intro e w3 hp
 rw [hq] at hp
 obtain ⟨rfl,ab⟩:=hp
 have q0:(er != 0)=true:=by simpa using b4
 clear b4 hq ak
 go_wp2
 go_ret
 exact ⟨rfl,aa.out.trans ab⟩
theorem rkNext_astray (g:Nat) (S T:Nat→Prop) (r:Rk) (A B E:Option Addr) (c d m:Nat) (f:Fr) (a:Int) (w:World) (hr:RkV w S g r) (a2:r.fit) (hf:FrS w T A B E f) (hT:∀ j,T j→j<w.heap.size) (a1:f.cols.length≤c) (a6:f.wf) (a5:Tabs w) (a0:outOf 1099511627776 a=false) (l:List UInt8) (hq:encF f=.ok l) (ag:r.follows f a=false) :
 Calls Tryz.prog 14 #[.pointer (some ⟨g,0,none⟩),.agg (frCells A c B d E m f),.int .i64 a] w fun e w'=>e=.returned (.int .i64 143)∧Keeps w w':=by
 obtain ⟨W1,a4⟩:∃ W1,W1=w.alloc (.cells (frCells A c B d E m f) 36):=⟨_,rfl⟩
 have a8:Keeps w W1:=by rw [a4];exact (Keeps.refl w).alloc _
 have a7:W1.heap[w.heap.size]? = some (.cells (frCells A c B d E m f) 36 (0,0)):=by rw [a4];exact obj_new _ _
 have ai:∀ w2,Keeps w w2→Calls Tryz.prog 44 #[.agg (frCells A c B d E m f)] w2 (FPost w2 (encF f)):=fun w2 a3=>
  refEncode_calls A B E c d m f w2 a1 ((hf.later a3.below).mono fun j _ h=>Nat.lt_of_lt_of_le (hT j h) a3.size) a6 (a5.below a3.below)
 have hb:¬a<0∧¬(1099511627776:Int)≤a:=by
  unfold outOf at a0
  simp only [Bool.or_eq_false_iff,decide_eq_false_iff_not] at a0
  exact a0
 obtain ⟨be,bb⟩:=hb
 obtain ⟨ay,h0⟩:=enc_kind hq
 have ao:∀ w2,Keeps w w2→Calls Tryz.prog 45 #[.pointer (some ⟨g,0,none⟩),.agg (frCells A c B d E m f),.int .i64 a] w2 fun e w'=>e=.returned (.bool (r.follows f a))∧Keeps w2 w':=fun w2 a3=>
  rkFollows_calls g S T r A B E c d m f a w2 (hr.below a3.below) a2 (hf.later a3.below) ay
 rw [ag] at ao
 unfold frCells at *
 have ak:=Hi ai
 have ah:=Hi a7
 have aa:=Hi a8
 have b0:=Hi ao
 obtain ⟨⟨d0,d1,d2,d3,d4,d5,d6,d7,d8,d9,d10⟩,_⟩:=cells11 a7
 rw [a4] at d0 d1 d2 d3 d4 d5 d6 d7 d8 d9 d10
 clear hr a2 hf hT a6 a5 ai a7 a8 a0 a1 ao ag
 generalize f.cols.length=n1 at *
 generalize f.block.length=n2 at *
 generalize f.ents.length=n3 at *
 go_enter Tryz.func14,Tryz.ntmps14
 go_wp2_with fail
 rw [← a4]
 clear a4
 refine (ak.out W1 aa.out).mono ?_
 intro e w3 hp
 rw [hq] at hp
 obtain ⟨v3,rfl,aJ,ab⟩:=hp
 have ap:=(ab.below.block _ (obj_lt ah.out)).trans ah.out
 clear d0 d1 d2 d3 d4 d5 d6 d7 d8 d9 d10 aJ
 obtain ⟨⟨d0,d1,d2,d3,d4,d5,d6,d7,d8,d9,d10⟩,_⟩:=cells11 ap
 have ax:=Hi (aa.out.trans ab)
 clear ab ap ak aa ah hq
 go_wp2_with fail
 refine (b0.out w3 ax.out).mono ?_
 rintro e w4 ⟨rfl,aH⟩
 go_wp2
 go_ret
 exact ⟨rfl,ax.out.trans aH⟩
theorem PlR.keep {F S:Nat→Prop} {w w':World} {cs:List Value} {p:Fr×Int} (h:PlR w S cs p) (ht:Touch F w w') (hF:∀ j,j<w.heap.size→S j→¬F j):PlR w' S cs p:=
 ((h.mono (T:=fun j=>S j∧j<w.heap.size) fun k hk hs=>⟨hs,hk⟩).touch ht fun j hj=>hF j hj.2 hj.1).mono fun _ _ h=>h.1
theorem rows_len {w:World} {S:Nat→Prop} {l:List (Fr×Int)}:∀ {rows:List (List Value)},(∀ cs∈rows,cs.length=12)→rows.flatten.length=rows.length*12
 | [],_=>rfl
 | x :: rows,h=>by
   rw [List.flatten_cons,List.length_append,rows_len (w:=w) (S:=S) (l:=l) fun cs hc=>h cs (List.mem_cons_of_mem _ hc),h x (List.mem_cons_self ..),List.length_cons]
   omega
theorem rkNext_taken (g:Nat) (S T:Nat→Prop) (r:Rk) (A B E:Option Addr) (c d m:Nat) (f:Fr) (a:Int) (w:World) (hr:RkV w S g r) (a2:r.fit) (hf:FrS w T A B E f) (hT:∀ j,T j→j<w.heap.size) (aE:∀ j,T j→j≠g) (a1:f.cols.length≤c) (a6:f.wf) (a5:Tabs w) (a0:outOf 1099511627776 a=false) (l:List UInt8) (hq:encF f=.ok l) (ag:r.follows f a=true) (af:r.L.length<1048576) :
 Calls Tryz.prog 14 #[.pointer (some ⟨g,0,none⟩),.agg (frCells A c B d E m f),.int .i64 a] w fun e w'=>e=.returned (.int .i64 0)∧RkV w' (fun j=>(S j∨T j)∨w.heap.size≤j) g (r.snoc (f,a))∧Touch (At g) w w':=by
 obtain ⟨W1,a4⟩:∃ W1,W1=w.alloc (.cells (frCells A c B d E m f) 36):=⟨_,rfl⟩
 have a8:Keeps w W1:=by rw [a4];exact (Keeps.refl w).alloc _
 have a7:W1.heap[w.heap.size]? = some (.cells (frCells A c B d E m f) 36 (0,0)):=by rw [a4];exact obj_new _ _
 have ai:∀ w2,Keeps w w2→Calls Tryz.prog 44 #[.agg (frCells A c B d E m f)] w2 (FPost w2 (encF f)):=fun w2 a3=>
  refEncode_calls A B E c d m f w2 a1 ((hf.later a3.below).mono fun j _ h=>Nat.lt_of_lt_of_le (hT j h) a3.size) a6 (a5.below a3.below)
 have hb:¬a<0∧¬(1099511627776:Int)≤a:=by
  unfold outOf at a0
  simp only [Bool.or_eq_false_iff,decide_eq_false_iff_not] at a0
  exact a0
 obtain ⟨be,bb⟩:=hb
 obtain ⟨ay,h0⟩:=enc_kind hq
 have ao:∀ w2,Keeps w w2→Calls Tryz.prog 45 #[.pointer (some ⟨g,0,none⟩),.agg (frCells A c B d E m f),.int .i64 a] w2 fun e w'=>e=.returned (.bool (r.follows f a))∧Keeps w2 w':=fun w2 a3=>
  rkFollows_calls g S T r A B E c d m f a w2 (hr.below a3.below) a2 (hf.later a3.below) ay
 rw [ag] at ao
 have bF:=hr.lt
 have ac:PlR w T (plCells A c B d E m (f,a)) (f,a):=⟨A,c,B,d,E,m,rfl,hf⟩
 unfold plCells at ac
 simp only at ac
 have aW:=Hi ac
 have bx:=Hi hr
 have b5:=Hi aE
 have bD:=Hi hT
 unfold frCells at *
 have ak:=Hi ai
 have ah:=Hi a7
 have aa:=Hi a8
 have b0:=Hi ao
 obtain ⟨⟨d0,d1,d2,d3,d4,d5,d6,d7,d8,d9,d10⟩,_⟩:=cells11 a7
 rw [a4] at d0 d1 d2 d3 d4 d5 d6 d7 d8 d9 d10
 clear hr a2 hf hT aE a6 a5 ai a7 a8 a0 a1 ao ag ac
 generalize f.cols.length=n1 at *
 generalize f.block.length=n2 at *
 generalize f.ents.length=n3 at *
 go_enter Tryz.func14,Tryz.ntmps14
 go_wp2_with fail
 rw [← a4]
 clear a4
 refine (ak.out W1 aa.out).mono ?_
 intro e w3 hp
 rw [hq] at hp
 obtain ⟨v3,rfl,aJ,ab⟩:=hp
 have ap:=(ab.below.block _ (obj_lt ah.out)).trans ah.out
 clear d0 d1 d2 d3 d4 d5 d6 d7 d8 d9 d10 aJ
 obtain ⟨⟨d0,d1,d2,d3,d4,d5,d6,d7,d8,d9,d10⟩,_⟩:=cells11 ap
 have b9:=Hi ap
 have ax:=Hi (aa.out.trans ab)
 clear ab ap ak aa ah hq
 go_wp2_with fail
 refine (b0.out w3 ax.out).mono ?_
 rintro e w4 ⟨rfl,aH⟩
 have an:=ax.out.trans aH
 have aT:=(aH.below.block _ (obj_lt b9.out)).trans b9.out
 clear d0 d1 d2 d3 d4 d5 d6 d7 d8 d9 d10
 obtain ⟨⟨d0,d1,d2,d3,d4,d5,d6,d7,d8,d9,d10⟩,_⟩:=cells11 aT
 obtain ⟨⟨A0,q0,E0,q1,B0,q2,aD,bG,bp,⟨ba,b7⟩,bc⟩,aB,bv,aX,aK⟩:=bx.out.below an.below
 obtain ⟨⟨rows,h1,h2,h3⟩,aR⟩:=bp
 obtain ⟨k0,k1,k2,k3,k4,fz⟩:=rk_cells aD
 have aU:=obj_lt aD
 have am:=rows_len (w:=w) (S:=S) (l:=r.L) (Places.all h1 h2)
 rw [h1] at am
 have aj:A0=none→r.L.length=0∧r.L.length=0:=fun e=>by
  rcases Nat.eq_zero_or_pos r.L.length with h | h
  · exact ⟨h,h⟩
  · have hp:0<rows.flatten.length:=by omega
    obtain ⟨ad,e1,_⟩:=h3 0 _ (List.getElem?_eq_getElem hp)
    rw [e] at e1
    cases e1
 obtain ⟨ti,bj,hz,aL,aO⟩:∃ i,Tryz.prog.info? 91=some i∧i.zero=some (.agg #[.int .i64 0,.int .i64 0,.slice none 0 0,.int .i64 0,.int .i64 0,.int .i64 0,.slice none 0 0,.int .i64 0,.int .i64 0,.int .i64 0,.slice none 0 0,.int .i64 0])∧i.size=12∧i.bytes=144:=by
  have h:=info_place
  cases hx:Tryz.prog.info? 91 with
  | none=>rw [hx] at h;cases h
  | some i=>
    rw [hx] at h
    simp only [Option.map_some,Option.some.injEq,Prod.mk.injEq] at h
    exact ⟨i,rfl,h⟩
 have bz:¬g=w.heap.size:=by omega
 have bl:¬w.heap.size=g:=by omega
 have aN:=Hi h3
 have aY:=Hi am
 have aw:=Hi aj
 have H1:=Hi h1
 have H2:=Hi h2
 have bm:=Hi aD
 have aG:=Hi (And.intro ba b7)
 have bn:=Hi bc
 have b2:=Hi an
 have b6:=Hi aT
 clear h1 h2 h3 am aj aD ba b7 bc an aT aR
 generalize hN:r.L.length=N at *
 have HN:=Hi hN
 clear hN
 go_wp2_with fail
 have bB:(N:Int)≤(q0:Int):=by omega
 refine wp_region_heldZ 23 (S:=fun w'=>w'.cell? ⟨g,0,none⟩=some (.slice A0 N q0)∧w'.cell? ⟨w.heap.size,0,none⟩=some (.int .i64 f.kind)∧w'.cell? ⟨w.heap.size,1,none⟩=some (.int .i64 f.number)∧w'.cell? ⟨w.heap.size,2,none⟩=some (.slice A n1 c)∧w'.cell? ⟨w.heap.size,3,none⟩=some (.int .i64 f.seq)∧w'.cell? ⟨w.heap.size,4,none⟩=some (.int .i64 f.first)∧w'.cell? ⟨w.heap.size,5,none⟩=some (.int .i64 f.rows)∧w'.cell? ⟨w.heap.size,6,none⟩=some (.slice B n2 d)∧w'.cell? ⟨w.heap.size,7,none⟩=some (.int .i64 f.spot)∧w'.cell? ⟨w.heap.size,8,none⟩=some (.int .i64 f.frames)∧w'.cell? ⟨w.heap.size,9,none⟩=some (.int .i64 f.irows)∧w'.cell? ⟨w.heap.size,10,none⟩=some (.slice E n3 m)) (by kernel_rfl) ?_ (fun hHeld=>?_)
 · (try dsimp only);(refine ⟨?_, ?_, ?_, ?_, ?_, ?_, ?_, ?_, ?_, ?_, ?_, ?_⟩ <;> first | assumption | go_keep)
 refine wpAnyZ_take 0 7 (v:=?_) rfl (by kernel_rfl) (by kernel_rfl) (by kernel_rfl) (fun _ _ _ h=>h) (by kernel_rfl) (by kernel_rfl) (Or.inl ⟨by first | kernel_rfl | rfl, ?_⟩) (by assumption) ?_
 rotate_left
 · (intro w h;(try dsimp only at h);go_simp;try with_reducible rfl)
 try simp only [Act.put,sT,sZ,sS]
 refine wpAnyZ_take 1 7 (v:=?_) rfl (by kernel_rfl) (by kernel_rfl) (by kernel_rfl) (fun _ _ _ h=>h) (by kernel_rfl) (by kernel_rfl) (Or.inl ⟨by first | kernel_rfl | rfl, ?_⟩) (by assumption) ?_
 rotate_left
 · (intro w h;(try dsimp only at h);go_simp;try with_reducible rfl)
 try simp only [Act.put,sT,sZ,sS]
 refine wpAnyZ_take 2 7 (v:=?_) rfl (by kernel_rfl) (by kernel_rfl) (by kernel_rfl) (fun _ _ _ h=>h) (by kernel_rfl) (by kernel_rfl) (Or.inl ⟨by first | kernel_rfl | rfl, ?_⟩) (by assumption) ?_
 rotate_left
 · (intro w h;(try dsimp only at h);go_simp;try with_reducible rfl)
 try simp only [Act.put,sT,sZ,sS]
 refine wpAnyZ_take 3 7 (v:=?_) rfl (by kernel_rfl) (by kernel_rfl) (by kernel_rfl) (fun _ _ _ h=>h) (by kernel_rfl) (by kernel_rfl) (Or.inl ⟨by first | kernel_rfl | rfl, ?_⟩) (by assumption) ?_
 rotate_left
 · (intro w h;(try dsimp only at h);go_simp;try with_reducible rfl)
 try simp only [Act.put,sT,sZ,sS]
 refine wpAnyZ_take 4 7 (v:=?_) rfl (by kernel_rfl) (by kernel_rfl) (by kernel_rfl) (fun _ _ _ h=>h) (by kernel_rfl) (by kernel_rfl) (Or.inl ⟨by first | kernel_rfl | rfl, ?_⟩) (by assumption) ?_
 rotate_left
 · (intro w h;(try dsimp only at h);go_simp;try with_reducible rfl)
 try simp only [Act.put,sT,sZ,sS]
 refine wpAnyZ_take 5 7 (v:=?_) rfl (by kernel_rfl) (by kernel_rfl) (by kernel_rfl) (fun _ _ _ h=>h) (by kernel_rfl) (by kernel_rfl) (Or.inl ⟨by first | kernel_rfl | rfl, ?_⟩) (by assumption) ?_
 rotate_left
 · (intro w h;(try dsimp only at h);go_simp;try with_reducible rfl)
 try simp only [Act.put,sT,sZ,sS]
 refine wpAnyZ_take 6 7 (v:=?_) rfl (by kernel_rfl) (by kernel_rfl) (by kernel_rfl) (fun _ _ _ h=>h) (by kernel_rfl) (by kernel_rfl) (Or.inl ⟨by first | kernel_rfl | rfl, ?_⟩) (by assumption) ?_
 rotate_left
 · (intro w h;(try dsimp only at h);go_simp;try with_reducible rfl)
 try simp only [Act.put,sT,sZ,sS]
 refine wpAnyZ_take 7 7 (v:=?_) rfl (by kernel_rfl) (by kernel_rfl) (by kernel_rfl) (fun _ _ _ h=>h) (by kernel_rfl) (by kernel_rfl) (Or.inl ⟨by first | kernel_rfl | rfl, ?_⟩) (by assumption) ?_
 rotate_left
 · (intro w h;(try dsimp only at h);go_simp;try with_reducible rfl)
 try simp only [Act.put,sT,sZ,sS]
 refine wpAnyZ_take 8 7 (v:=?_) rfl (by kernel_rfl) (by kernel_rfl) (by kernel_rfl) (fun _ _ _ h=>h) (by kernel_rfl) (by kernel_rfl) (Or.inl ⟨by first | kernel_rfl | rfl, ?_⟩) (by assumption) ?_
 rotate_left
 · (intro w h;(try dsimp only at h);go_simp;try with_reducible rfl)
 try simp only [Act.put,sT,sZ,sS]
 refine wpAnyZ_take 9 7 (v:=?_) rfl (by kernel_rfl) (by kernel_rfl) (by kernel_rfl) (fun _ _ _ h=>h) (by kernel_rfl) (by kernel_rfl) (Or.inl ⟨by first | kernel_rfl | rfl, ?_⟩) (by assumption) ?_
 rotate_left
 · (intro w h;(try dsimp only at h);go_simp;try with_reducible rfl)
 try simp only [Act.put,sT,sZ,sS]
 refine wpAnyZ_take 10 7 (v:=?_) rfl (by kernel_rfl) (by kernel_rfl) (by kernel_rfl) (fun _ _ _ h=>h) (by kernel_rfl) (by kernel_rfl) (Or.inl ⟨by first | kernel_rfl | rfl, ?_⟩) (by assumption) ?_
 rotate_left
 · (intro w h;(try dsimp only at h);go_simp;try with_reducible rfl)
 try simp only [Act.put,sT,sZ,sS]
 refine wpAnyZ_take 11 7 (v:=?_) rfl (by kernel_rfl) (by kernel_rfl) (by kernel_rfl) (fun _ _ _ h=>h) (by kernel_rfl) (by kernel_rfl) (Or.inl ⟨by first | kernel_rfl | rfl, ?_⟩) (by assumption) ?_
 rotate_left
 · (intro w h;(try dsimp only at h);go_simp;try with_reducible rfl)
 try simp only [Act.put,sT,sZ,sS]
 refine wpAnyZ_take 12 7 (v:=?_) rfl (by kernel_rfl) (by kernel_rfl) (by kernel_rfl) (fun _ _ _ h=>h) (by kernel_rfl) (by kernel_rfl) (Or.inl ⟨by first | kernel_rfl | rfl, ?_⟩) (by assumption) ?_
 rotate_left
 · (intro w h;(try dsimp only at h);go_simp;try with_reducible rfl)
 try simp only [Act.put,sT,sZ,sS]
 refine wpAnyZ_take 13 7 (v:=?_) rfl (by kernel_rfl) (by kernel_rfl) (by kernel_rfl) (fun _ _ _ h=>h) (by kernel_rfl) (by kernel_rfl) (Or.inl ⟨by first | kernel_rfl | rfl, ?_⟩) (by assumption) ?_
 rotate_left
 · (intro w h;(try dsimp only at h);go_simp;try with_reducible rfl)
 try simp only [Act.put,sT,sZ,sS]
 refine wpAnyZ_take 14 7 (v:=?_) rfl (by kernel_rfl) (by kernel_rfl) (by kernel_rfl) (fun _ _ _ h=>h) (by kernel_rfl) (by kernel_rfl) (Or.inl ⟨by first | kernel_rfl | rfl, ?_⟩) (by assumption) ?_
 rotate_left
 · (intro w h;(try dsimp only at h);go_simp;try with_reducible rfl)
 try simp only [Act.put,sT,sZ,sS]
 refine wpAnyZ_take 15 7 (v:=?_) rfl (by kernel_rfl) (by kernel_rfl) (by kernel_rfl) (fun _ _ _ h=>h) (by kernel_rfl) (by kernel_rfl) (Or.inl ⟨by first | kernel_rfl | rfl, ?_⟩) (by assumption) ?_
 rotate_left
 · (intro w h;(try dsimp only at h);go_simp;try with_reducible rfl)
 try simp only [Act.put,sT,sZ,sS]
 refine wpAnyZ_take 16 7 (v:=?_) rfl (by kernel_rfl) (by kernel_rfl) (by kernel_rfl) (fun _ _ _ h=>h) (by kernel_rfl) (by kernel_rfl) (Or.inl ⟨by first | kernel_rfl | rfl, ?_⟩) (by assumption) ?_
 rotate_left
 · (intro w h;(try dsimp only at h);go_simp;try with_reducible rfl)
 try simp only [Act.put,sT,sZ,sS]
 refine wpAnyZ_take 17 7 (v:=?_) rfl (by kernel_rfl) (by kernel_rfl) (by kernel_rfl) (fun _ _ _ h=>h) (by kernel_rfl) (by kernel_rfl) (Or.inl ⟨by first | kernel_rfl | rfl, ?_⟩) (by assumption) ?_
 rotate_left
 · (intro w h;(try dsimp only at h);go_simp;try with_reducible rfl)
 try simp only [Act.put,sT,sZ,sS]
 refine wpAnyZ_take 18 7 (v:=?_) rfl (by kernel_rfl) (by kernel_rfl) (by kernel_rfl) (fun _ _ _ h=>h) (by kernel_rfl) (by kernel_rfl) (Or.inl ⟨by first | kernel_rfl | rfl, ?_⟩) (by assumption) ?_
 rotate_left
 · (intro w h;(try dsimp only at h);go_simp;try with_reducible rfl)
 try simp only [Act.put,sT,sZ,sS]
 refine wpAnyZ_next 19 (by kernel_rfl) rfl (fun K hK=>?_)
 go_simp
 refine hK.out _ _ ?_ (fun hHeld=>?_)
 · (try dsimp only);(refine ⟨?_, ?_, ?_, ?_, ?_, ?_, ?_, ?_, ?_, ?_, ?_, ?_⟩ <;> first | assumption | go_keep)
 clear hK K
 try simp only [Act.put,sT,sZ,sS]
 refine wpAnyZ_next 20 (by kernel_rfl) rfl (fun K hK=>?_)
 refine Go.step_append_grows (by rfl) _ _ 83 (by rfl) 91 ti _ 12 144 Tryz.underlying83 bj hz aL aO rfl (by omega) A0 N N rows.flatten (by rfl) aw.out aY.out (fun b e j u hu=>by
  obtain ⟨ad,e1,hc⟩:=(aN.out.below (((Keeps.drew w4).alloc _).below)) j u hu
  rw [e] at e1
  cases e1
  exact hc) ⟨w4.heap.size,0,none⟩ 1 1 [.int .i64 f.kind,.int .i64 f.number,.slice A n1 c,.int .i64 f.seq,.int .i64 f.first,.int .i64 f.rows,.slice B n2 d,.int .i64 f.spot,.int .i64 f.frames,.int .i64 f.irows,.slice E n3 m,.int .i64 a] (by rfl) (by rfl) (fun j u hu=>by
  obtain ⟨ad,e1,hc⟩:=RowAt.new_at w4.drew _ _ _ [.int .i64 f.kind,.int .i64 f.number,.slice A n1 c,.int .i64 f.seq,.int .i64 f.first,.int .i64 f.rows,.slice B n2 d,.int .i64 f.spot,.int .i64 f.frames,.int .i64 f.irows,.slice E n3 m,.int .i64 a] rfl w4.heap.size rfl j u hu
  cases e1
  exact hc) (by simp [Value.oneCell']) (by omega) (by simp only [maxLen];omega) (by omega) ?_
 intro v6 w6 al ae
 have aQ:=Loose.of al
 obtain ⟨A6,c6,rfl,az,aA,_⟩:=aQ.form
 have ar:Keeps w4 (w4.drew.alloc (.cells (List.toArray [.int .i64 f.kind,.int .i64 f.number,.slice A n1 c,.int .i64 f.seq,.int .i64 f.first,.int .i64 f.rows,.slice B n2 d,.int .i64 f.spot,.int .i64 f.frames,.int .i64 f.irows,.slice E n3 m,.int .i64 a]) 91)):=(Keeps.drew w4).alloc _
 have aS:=(ae.block g (Nat.lt_of_lt_of_le aU ar.size) (by simp)).trans (obj_old (show w4.drew.heap[g]? = _ from bm.out) _)
 have bf:=(ae.block w.heap.size (Nat.lt_of_lt_of_le (obj_lt b6.out) ar.size) (by simp)).trans (obj_old (show w4.drew.heap[w.heap.size]? = _ from b6.out) _)
 obtain ⟨z0,z1,z2,z3,z4,zf⟩:=rk_cells aS
 obtain ⟨⟨y0,y1,y2,y3,y4,y5,y6,y7,y8,y9,y10⟩,_⟩:=cells11 bf
 have b1:=Hi aS
 have aV:=Hi aQ
 have bq:=Hi ae
 have av:=Hi az
 clear aQ aA ae al aS bf ar az
 refine hK.out _ _ ?_ (fun hHeld=>?_)
 · (try dsimp only);(refine ⟨?_, ?_, ?_, ?_, ?_, ?_, ?_, ?_, ?_, ?_, ?_, ?_⟩ <;> first | assumption | go_keep)
 clear hK K
 try simp only [Act.put,sT,sZ,sS]
 refine wpAnyZ_take 21 7 (v:=?_) rfl (by kernel_rfl) (by kernel_rfl) (by kernel_rfl) (fun _ _ _ h=>h) (by kernel_rfl) (by kernel_rfl) (Or.inl ⟨by first | kernel_rfl | rfl, ?_⟩) (by assumption) ?_
 rotate_left
 · (intro w h;(try dsimp only at h);go_simp;try with_reducible rfl)
 try simp only [Act.put,sT,sZ,sS]
 refine wpAnyZ_take 22 7 (v:=?_) rfl (by kernel_rfl) (by kernel_rfl) (by kernel_rfl) (fun _ _ _ h=>h) (by kernel_rfl) (by kernel_rfl) (Or.inl ⟨by first | kernel_rfl | rfl, ?_⟩) (by assumption) ?_
 rotate_left
 · (intro w h;(try dsimp only at h);go_simp;try with_reducible rfl)
 try simp only [Act.put,sT,sZ,sS]
 refine wpAnyZ_last (by kernel_rfl) (by kernel_rfl) rfl (fun K hK=>?_)
 go_simp
 refine hK.out _ _ ?_
 clear hK K
 try simp only [Act.put,sT,sZ,sS]
 go_wp2
 go_ret
 obtain ⟨W7,aZ⟩:∃ W7,W7=w6.setCell ⟨g,0,none⟩ (.slice A6 (N+1) c6):=⟨_,rfl⟩
 rw [← aZ]
 have ar:Keeps w4 (w4.drew.alloc (.cells (List.toArray [.int .i64 f.kind,.int .i64 f.number,.slice A n1 c,.int .i64 f.seq,.int .i64 f.first,.int .i64 f.rows,.slice B n2 d,.int .i64 f.spot,.int .i64 f.frames,.int .i64 f.irows,.slice E n3 m,.int .i64 a]) 91)):=(Keeps.drew w4).alloc _
 have au:Touch (At g) w6 W7:=by rw [aZ];exact (Touch.refl _ w6).set 0 _
 have aM:Touch (fun _=>False) w4 w6:=(Touch.of_below ar.below fun j hj h=>absurd hj (by omega)).grown bq.out fun j e _=>by cases e
 have aC:Touch (At g) w4 W7:=(aM.mono fun _ _ h=>h.elim).then au
 have b8:Touch (At g) w W7:=(Touch.of_below b2.out.below fun j hj h=>absurd hj (by omega)).then aC
 have bA:=b2.out.size
 have bk:W7.heap[g]? = some (.cells #[.slice A6 (N+1) c6,.int .i64 r.f0,.int .i64 r.r0,.slice E0 r.E0.length q1,.slice B0 r.S0.length q2] 85 (0,0)):=by rw [aZ];exact obj_set b1.out 0 (.slice A6 (N+1) c6)
 have br:=aV.out.keep au fun j hj e=>aV.out.ne b1.out (by decide) (by rw [hj];exact congrArg some e)
 obtain ⟨A7,c7,e7,_,aq,_⟩:=br.form
 injection e7 with e7 e8 e9
 subst e7 e9
 have b3:(r.snoc (f,a)).L=r.L++[(f,a)]:=rfl
 have a9:(r.snoc (f,a)).L.length=N+1:=by rw [b3,List.length_append,HN.out];rfl
 refine ⟨rfl,⟨⟨A6,c6,E0,q1,B0,q2,by rw [a9];exact bk,by rw [a9];exact av.out, ?_, ?_, ?_⟩,.inl (.inl aB),by rw [a9];omega,aX,aK⟩,b8⟩
 · rw [b3]
   refine ⟨⟨rows++[[.int .i64 f.kind,.int .i64 f.number,.slice A n1 c,.int .i64 f.seq,.int .i64 f.first,.int .i64 f.rows,.slice B n2 d,.int .i64 f.spot,.int .i64 f.frames,.int .i64 f.irows,.slice E n3 m,.int .i64 a]],by rw [List.length_append,List.length_append,H1.out,HN.out];rfl,fun i cs p hi hp=>?_, ?_⟩,fun ad e _=>?_⟩
   · by_cases aF:i<rows.length
     · rw [List.getElem?_append_left aF] at hi
       rw [List.getElem?_append_left (by rw [HN.out,← H1.out];exact aF)] at hp
       exact ((H2.out i cs p hi hp).keep aC fun j _ h e=>h.2 e).mono fun j _ h=>⟨.inl (.inl h.1),h.2⟩
     · rw [List.getElem?_append_right (by omega)] at hi
       rw [List.getElem?_append_right (by rw [HN.out,← H1.out];omega),HN.out,← H1.out] at hp
       cases hq:i-rows.length with
       | zero=>
         rw [hq] at hi hp
         simp only [List.getElem?_cons_zero,Option.some.injEq] at hi hp
         subst hi hp
         exact (aW.out.keep b8 fun j _ h e=>b5.out j h e).mono fun j _ h=>⟨.inl (.inr h),b5.out j h⟩
       | succ q=>
         rw [hq] at hi
         simp at hi
   · simp only [List.flatten_append,List.flatten_cons,List.flatten_nil,List.append_nil]
     exact aq
   · subst e
     have h7:blk (.slice (some ad) (N+1) c6)=some ad.block:=by
      unfold blk
      have:=av.out
      simp
      omega
     have h8:=(aV.out.lt ad.block h7).1
     simp at h8
     exact ⟨.inr (by omega),by omega⟩
 · refine ⟨aC.row aG.out.1 fun ad e hn e2=>(aG.out.2 ad e fun h0=>hn (by rw [show (r.snoc (f,a)).E0=r.E0 from rfl,h0];rfl)).2 e2,fun ad e hn=>⟨.inl (.inl (aG.out.2 ad e hn).1),(aG.out.2 ad e hn).2⟩⟩
 · exact (bn.out.keep aC fun j _ h e=>h.2 e).mono fun j _ h=>⟨.inl (.inl h.1),h.2⟩
end
section
open Go.RowKit Go.BigFrame
theorem rkNext_calls (g:Nat) (S T:Nat→Prop) (r:Rk) (A B E:Option Addr) (c d m:Nat) (f:Fr) (a:Int) (w:World) (hr:RkV w S g r) (a2:r.fit) (hf:FrS w T A B E f) (hT:∀ j,T j→j<w.heap.size) (aE:∀ j,T j→j≠g) (a1:f.cols.length≤c) (a6:f.wf) (a5:Tabs w) (af:r.L.length<1048576) :
 Calls Tryz.prog 14 #[.pointer (some ⟨g,0,none⟩),.agg (frCells A c B d E m f),.int .i64 a] w fun e w'=>e=.returned (.int .i64 (r.next f a).2)∧RkV w' (fun j=>(S j∨T j)∨w.heap.size≤j) g (r.next f a).1∧Touch (At g) w w':=by
 have quietly:∀ {e:Ending} {w':World},(e=.returned (.int .i64 143)∧Keeps w w')→e=.returned (.int .i64 143)∧RkV w' (fun j=>(S j∨T j)∨w.heap.size≤j) g r∧Touch (At g) w w':=fun h=>
  ⟨h.1,(hr.below h.2.below).mono fun j _ h=>.inl (.inl h),Touch.of_below h.2.below fun j hj h=>absurd hj (by omega)⟩
 unfold Rk.next
 cases a0:outOf 1099511627776 a with
 | true=>exact (rkNext_out g S T r A B E c d m f a w hr a2 hf hT a1 a6 a5 a0).mono fun e w' h=>quietly h
 | false=>
   simp only [Bool.false_eq_true,if_false]
   cases hq:encF f with
   | error er=>exact (rkNext_unencoded g S T r A B E c d m f a w hr a2 hf hT a1 a6 a5 a0 er hq).mono fun e w' h=>quietly h
   | ok l=>
     cases ag:r.follows f a with
     | false=>
       simp only [Bool.false_eq_true,if_false]
       exact (rkNext_astray g S T r A B E c d m f a w hr a2 hf hT a1 a6 a5 a0 l hq ag).mono fun e w' h=>quietly h
     | true=>
       simp only [if_true]
       exact rkNext_taken g S T r A B E c d m f a w hr a2 hf hT aE a1 a6 a5 a0 l hq ag af
def Wk.sound (k:Wk):Prop:=∀ x∈k.vs,schCheck x.1=0∧∀ c∈x.1,c.dflt.wf
theorem Wk.sound.fine {k:Wk} (h:k.sound):k.fine:=fun x hx=>⟨(h x hx).2,schCheck_names (h x hx).1⟩
theorem Wk.sound.put {k:Wk} (h:k.sound) (n:Int) (x:List Col×Int) (hx:schCheck x.1=0∧∀ c∈x.1,c.dflt.wf):(k.put n x).sound:=by
 unfold Wk.put
 split
 · intro y hy
   rcases List.mem_or_eq_of_mem_set hy with h1 | h1
   · exact h y h1
   · subst h1;exact hx
 · intro y hy
   rcases List.mem_append.1 hy with h1 | h1
   · exact h y h1
   · rw [List.mem_singleton.1 h1];exact hx
theorem Wk.sound.next {k:Wk} (h:k.sound) {f:Fr} (hw:f.wf) (a:Int):(k.next f a).1.sound:=by
 unfold Wk.next
 split
 · exact h
 · cases he:encF f with
   | error e=>exact h
   | ok l=>
     simp only
     split
     · obtain ⟨ay,h0⟩:=enc_kind he
       unfold frWrong at h0
       unfold Wk.take
       by_cases h1:f.kind=1
       · rw [if_pos h1] at h0 ⊢
         obtain ⟨n,hn,_,aI⟩:=schWrong_no h0
         obtain ⟨_,_,_,p4,p5⟩:=copyC_ok aI hw.dflt
         exact Wk.sound.put (k:={ k with number:=f.number,since:=0,closed:=false }) h f.number (copyC f.cols,a) ⟨p4,p5⟩
       · rw [if_neg h1]
         split
         · exact h
         · exact h
     · exact h
theorem Wk.sound.at {k:Wk} (h:k.sound) {n:Int} {x:List Col×Int} (hx:k.at n=some x):schCheck x.1=0∧∀ c∈x.1,c.dflt.wf:=by
 unfold Wk.at at hx
 cases hp:keyPos n k.ks 0 with
 | none=>rw [hp] at hx;cases hx
 | some j=>rw [hp] at hx;exact h x (List.mem_of_getElem? hx)
theorem Match.same {k:Wk} {r:Rk} (h:Match k r) (hs:k.sound) (n:Int):sameCols (k.schema n) (colsIn (r.schema n))=true:=by
 have h1:=(h.sc n).2
 unfold Wk.schema
 cases hx:k.at n with
 | none=>
   rw [hx] at h1
   have e:copyC (colsOf none)=[]:=by unfold copyC;split <;> first | rfl | (rename_i hc;exact absurd rfl (schCheck_no hc).1)
   rw [e]
   exact h1
 | some x=>
   rw [hx] at h1
   obtain ⟨p1,p2⟩:=hs.at hx
   exact sameCols_trans (copyC_ok p1 p2).2.1 h1
theorem Match.fit {k:Wk} {r:Rk} (h:Match k r) (hk:k.ok) (hr:r.ok):r.fit:=
 ⟨hr,by rw [h.num];exact hk.num,by rw [h.entries];have:=hk.en;omega⟩
theorem Rk.next_or (r:Rk) (f:Fr) (a:Int):r.next f a=(r,143)∨r.next f a=(r.snoc (f,a),0):=by
 unfold Rk.next
 split
 · exact .inl rfl
 · split
   · exact .inl rfl
   · split
     · exact .inr rfl
     · exact .inl rfl
theorem Rk.ok.next {r:Rk} (h:r.ok) (f:Fr) (a:Int):(r.next f a).1.ok:=by
 unfold Rk.next
 split
 · exact h
 · cases he:encF f with
   | error e=>exact h
   | ok l=>
     simp only
     split
     · obtain ⟨ay,h0⟩:=enc_kind he
       refine ⟨h.f0,h.r0,fun p hp hk=>?_⟩
       rcases List.mem_append.1 hp with h1 | h1
       · exact h.rows p h1 hk
       · rw [List.mem_singleton.1 h1] at hk ⊢
         unfold frWrong at h0
         have a3:f.kind=2:=hk
         rw [if_neg (by omega),if_pos a3] at h0
         obtain ⟨nn,ns,nt,nr,hn,hs,ht,hr,bH,bJ,bC,bE,bh⟩:=datWrong_no h0
         show 0≤f.rows∧f.rows≤64
         omega
     · exact h
theorem Rk.next_len (r:Rk) (f:Fr) (a:Int):(r.next f a).1.L.length≤r.L.length+1:=by
 rcases r.next_or f a with h | h
 · rw [h];simp
 · rw [h];simp [Rk.snoc]
structure Twin (k:Wk) (r:Rk):Prop where
 m:Match k r
 ok:k.ok
 sound:k.sound
 rok:r.ok
theorem Twin.fit {k:Wk} {r:Rk} (h:Twin k r):r.fit:=h.m.fit h.ok h.rok
theorem Twin.next {k:Wk} {r:Rk} (h:Twin k r) {f:Fr} (hw:f.wf) (a:Int):(r.next f a).2=(k.next f a).2∧Twin (k.next f a).1 (r.next f a).1:=
 ⟨(h.m.next hw a).1,(h.m.next hw a).2,h.ok.next f a,h.sound.next hw a,h.rok.next f a⟩
theorem frozen_setCell (w:World) (p:Addr) (u:Value) (a:Addr):(w.setCell p u).frozen? a=w.frozen? a:=by
 by_cases h:a.block=p.block
 · unfold World.setCell World.frozen?
   simp only [Array.getElem?_modify,h]
   cases w.heap[p.block]? with
   | none=>simp
   | some o=>cases o <;> simp
 · unfold World.frozen?
   rw [Below.heap_setCell w p u a.block h]
structure Wiped (w wr:World) (L:Option Addr) (lc:Nat):Prop where
 keeps:Keeps w wr
 room:∀ j,j<lc→∃ ad,L=some ad∧w.heap.size≤ad.block∧(∀ r,r<3→∃ u,wr.cell? ⟨ad.block,ad.off+j*3+r,none⟩=some u∧wr.frozen? ⟨ad.block,ad.off+j*3+r,none⟩=false)∧ad.spot=none
theorem Wiped.start {w w1:World} {e:TypeId} {v:Value} {n:Nat} {xs:List Value} (h:Loose w1 w.heap.size e 3 v n xs) (hk:Keeps w w1):∃ L lc,v=.slice L n lc∧n≤lc∧lc≤9223372036854775807∧RowAt w1 L xs∧Wiped w w1 L lc:=by
 have hf:=h.form
 rcases h with ⟨A,rfl,rfl,rfl⟩ | ⟨g,cap,rfl,hc,h⟩
 · exact ⟨A,0,rfl,Nat.le_refl _,by omega,RowAt.nil _ _,hk,fun j hj=>by omega⟩
 · obtain ⟨A,c,e1,bw,aP,bs,_⟩:=hf
   injection e1 with e1 e2 e3
   subst e1 e3
   refine ⟨_,cap,rfl,bw,bs,aP,hk,fun j hj=>?_⟩
   rcases h.2 with ⟨h1,_⟩ | ⟨g',cap',cur,h1,hb,hg,_,_,bu,_⟩
   · cases h1
   · injection h1 with h2 h3 h4
     injection h2 with h2
     injection h2 with h2
     subst h2 h4
     refine ⟨_,rfl,hb,fun r hr=>?_,rfl⟩
     have aF:0+j*3+r<cur.size:=by rw [bu];omega
     exact ⟨_,by rw [obj_cell hg];exact Array.getElem?_eq_getElem aF,obj_frozen hg _⟩
theorem Wiped.set {w wr:World} {L:Option Addr} {lc:Nat} (h:Wiped w wr L lc) {ad:Addr} (hL:L=some ad) {j r:Nat} (hj:j<lc) (hr:r<3) (u:Value):Wiped w (wr.setCell ⟨ad.block,ad.off+j*3+r,none⟩ u) L lc:=by
 obtain ⟨ad',e1,hb,hc,_⟩:=h.room j hj
 rw [hL] at e1
 cases e1
 refine ⟨new_keeps (g:=ad.block) h.keeps ((Touch.refl _ wr).setCell _ _ fun _=>At.self _) hb,fun m hm=>?_⟩
 obtain ⟨ad',e1,bd,bo,hs⟩:=h.room m hm
 refine ⟨ad',e1,bd,fun q hq=>?_,hs⟩
 rw [hL] at e1
 cases e1
 obtain ⟨x,hx,hz⟩:=bo q hq
 by_cases e:(⟨ad.block,ad.off+j*3+r,none⟩:Addr)=⟨ad.block,ad.off+m*3+q,none⟩
 · exact ⟨u,by rw [e,World.cell?_setCell_same' _ _ _ (by rw [hx];rfl)],by rw [frozen_setCell];exact hz⟩
 · exact ⟨x,by rw [World.cell?_setCell_other _ _ _ _ e];exact hx,by rw [frozen_setCell];exact hz⟩
theorem addr_add_n (b o n:Nat):(⟨b,o,none⟩:Addr).add n=⟨b,o+n,none⟩:=by
 unfold Addr.add
 split
 · rename_i h;subst h;rfl
 · rfl
theorem Wiped.get {w wr:World} {L:Option Addr} {lc:Nat} (h:Wiped w wr L lc) {j:Nat} (hj:j<lc) :
 ∃ ad u0 u1 u2,L=some ad∧(wr.cell? (ad.add (j*3))=some u0∧wr.cell? ⟨(ad.add (j*3)).block,(ad.add (j*3)).off+1,none⟩=some u1∧wr.cell? ⟨(ad.add (j*3)).block,(ad.add (j*3)).off+2,none⟩=some u2) ∧
   (wr.frozen? (ad.add (j*3))=false∧wr.frozen? ⟨(ad.add (j*3)).block,(ad.add (j*3)).off+1,none⟩=false∧wr.frozen? ⟨(ad.add (j*3)).block,(ad.add (j*3)).off+2,none⟩=false) ∧
   (∀ x,(wr.setCell (ad.add (j*3)) x).cell? ⟨(ad.add (j*3)).block,(ad.add (j*3)).off+1,none⟩=some u1∧(wr.setCell (ad.add (j*3)) x).frozen? ⟨(ad.add (j*3)).block,(ad.add (j*3)).off+1,none⟩=false) ∧
   (∀ x y,((wr.setCell (ad.add (j*3)) x).setCell ⟨(ad.add (j*3)).block,(ad.add (j*3)).off+1,none⟩ y).cell? ⟨(ad.add (j*3)).block,(ad.add (j*3)).off+2,none⟩=some u2∧((wr.setCell (ad.add (j*3)) x).setCell ⟨(ad.add (j*3)).block,(ad.add (j*3)).off+1,none⟩ y).frozen? ⟨(ad.add (j*3)).block,(ad.add (j*3)).off+2,none⟩=false) ∧
   ∀ x y z,Wiped w (((wr.setCell (ad.add (j*3)) x).setCell ⟨(ad.add (j*3)).block,(ad.add (j*3)).off+1,none⟩ y).setCell ⟨(ad.add (j*3)).block,(ad.add (j*3)).off+2,none⟩ z) L lc:=by
 obtain ⟨⟨b,o,s⟩,e1,hb,hc,hs⟩:=h.room j hj
 have bt:s=none:=hs
 subst bt
 obtain ⟨u0,c0,f0⟩:=hc 0 (by omega)
 obtain ⟨u1,c1,f1⟩:=hc 1 (by omega)
 obtain ⟨u2,c2,f2⟩:=hc 2 (by omega)
 refine ⟨_,u0,u1,u2,e1, ?_⟩
 rw [addr_add_n]
 have ne:∀ p q:Nat,p≠q→(⟨b,p,none⟩:Addr)≠⟨b,q,none⟩:=fun p q h e=>h (by injection e)
 refine ⟨⟨c0,c1,c2⟩,⟨f0,f1,f2⟩,fun x=>⟨?_,by rw [frozen_setCell];exact f1⟩,fun x y=>⟨?_,by rw [frozen_setCell,frozen_setCell];exact f2⟩,fun x y z=>?_⟩
 · rw [World.cell?_setCell_other _ _ _ _ (ne _ _ (by (try dsimp only);omega))];exact c1
 · rw [World.cell?_setCell_other _ _ _ _ (ne _ _ (by (try dsimp only);omega)),World.cell?_setCell_other _ _ _ _ (ne _ _ (by (try dsimp only);omega))];exact c2
 exact ((h.set e1 hj (r:=0) (by omega) x).set e1 hj (r:=1) (by omega) y).set e1 hj (r:=2) (by omega) z
structure Named (w wr:World) (X:Nat) (A:Option Addr) (N c:Nat):Prop where
 keeps:Keeps w wr
 cell:wr.cell? ⟨X,0,none⟩=some (.slice A N c)
 cols:∀ j,j<N→∃ ad,A=some ad∧w.heap.size≤ad.block∧ad.block≠X∧∃ x,wr.cell? (ad.add (j*9))=some x∧wr.frozen? (ad.add (j*9))=false
theorem Named.start {w w1 wr:World} {X:Nat} {A:Option Addr} {c:Nat} {l:List Col} (hs:SchS w1 (fun b=>w.heap.size≤b) A l) (hf:FreeC w1 A l) (h1:w1.heap.size≤X) (a8:Below w1.heap.size w1 wr) (hk:Keeps w wr) (hc:wr.cell? ⟨X,0,none⟩=some (.slice A l.length c)):Named w wr X A l.length c:=by
 refine ⟨hk,hc,fun j hj=>?_⟩
 obtain ⟨ad,x0,x1,x2,x3,x4,x5,x6,x7,x8,e,hS,_,c0,_⟩:=hs.get j hj
 have hb:=World.block_lt_of_cell? w1 _ c0
 rw [addr_add_block] at hb
 have bi:w1.frozen? (ad.add (j*9))=false:=by
  have h:=hf ad e (fun h0=>by rw [h0] at hj;simp at hj) (ad.add (j*9)).off
  unfold World.frozen? at h ⊢
  rw [addr_add_block]
  exact h
 refine ⟨ad,e,hS,by omega,x0, ?_, ?_⟩
 · rw [World.cell?_of_block (w:=w1) (a:=ad.add (j*9)) (a8.block _ (by rw [addr_add_block];exact hb))]
   exact c0
 · rw [World.frozen?_of_block (w:=w1) (a:=ad.add (j*9)) (a8.block _ (by rw [addr_add_block];exact hb))]
   exact bi
theorem Named.get {w wr:World} {X:Nat} {A:Option Addr} {N c:Nat} (h:Named w wr X A N c) {j:Nat} (hj:j<N) :
 ∃ ad x,A=some ad∧wr.cell? (ad.add (j*9))=some x∧wr.frozen? (ad.add (j*9))=false∧∀ u,Named w (wr.setCell (ad.add (j*9)) u) X A N c:=by
 obtain ⟨ad,e,hb,hX,x,hx,hf⟩:=h.cols j hj
 refine ⟨ad,x,e,hx,hf,fun u=>⟨?_, ?_,fun m hm=>?_⟩⟩
 · exact new_keeps (g:=ad.block) h.keeps ((Touch.refl _ wr).setCell _ _ fun _=>by rw [addr_add_block];exact At.self _) hb
 · rw [World.cell?_setCell_far _ _ _ _ (by rw [addr_add_block];exact hX)]
   exact h.cell
 · obtain ⟨ad',e',bd,bI,y,hy,bg⟩:=h.cols m hm
   rw [e] at e'
   cases e'
   refine ⟨ad,e,hb,hX, ?_⟩
   by_cases ee:ad.add (j*9)=ad.add (m*9)
   · exact ⟨u,by rw [ee,World.cell?_setCell_same' _ _ _ (by rw [hy];rfl)],by rw [frozen_setCell];exact bg⟩
   · exact ⟨y,by rw [World.cell?_setCell_other _ _ _ _ ee];exact hy,by rw [frozen_setCell];exact bg⟩
end
end Go.Proofs.YtihodcnnappkbaaGreatDoor
