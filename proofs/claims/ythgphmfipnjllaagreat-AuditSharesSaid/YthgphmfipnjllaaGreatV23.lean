/- Lemmas of the proof, with their conditions. -/
import Derived.Test.YthgphmfipnjllaaGreatV21
import Derived.Test.YthgphmfipnjllaaGreatV22
import Derived.Test.YthgphmfipnjllaaGreatV06
namespace Go.Proofs.YthgphmfipnjllaaGreat
set_option linter.unusedSimpArgs false
set_option linter.unusedVariables false
set_option maxHeartbeats 2000000
set_option maxRecDepth 20000
section
open Go.RowKit
structure PW where
 pos:PPos
 items:List PItem
 blocks:List (List UInt8)
structure WriterIs (w:World) (base p d g t:Nat) (I B:Value) (ls:List (Value×List UInt8)) (F:List Nat) (W:PW):Prop where
 blk:Blk w p 209 #[.pointer (some ⟨d,0,none⟩),.pointer (some ⟨g,0,none⟩),.pointer (some ⟨t,0,none⟩),.int .i64 W.pos.seg,.int .i64 W.pos.off,.int .i64 W.pos.lsn,.int .i64 W.pos.prev,.int .i64 W.pos.mount,I,B]
 its:w.ownsRow base 114 4 I W.items.length (W.items.flatMap itc)
 bls:w.ownsRow base 39 1 B ls.length (ls.map (·.1))
 dat:∀ q∈ls,w.ownsRow base 5 1 q.1 64 (bys q.2)
 snd:ls.map (·.2)=W.blocks
 foot:F=p :: (I.ownBlock.toList++(B.ownBlock.toList++ls.flatMap (fun q=>q.1.ownBlock.toList)))
 base:base≤p
def WriterAt (w:World) (base p d g t:Nat) (F:List Nat) (W:PW):Prop:=∃ I B ls,WriterIs w base p d g t I B ls F W
theorem JD {w:World} {g:Nat} {t:TypeId} {x0 x1 x2 x3 x4 x5 x6 x7 x8 x9:Value} (h:Blk w g t #[x0,x1,x2,x3,x4,x5,x6,x7,x8,x9]) :
 w.cell? ⟨g,0,none⟩=some x0∧w.cell? ⟨g,1,none⟩=some x1∧w.cell? ⟨g,2,none⟩=some x2∧w.cell? ⟨g,3,none⟩=some x3∧w.cell? ⟨g,4,none⟩=some x4∧w.cell? ⟨g,5,none⟩=some x5∧w.cell? ⟨g,6,none⟩=some x6∧w.cell? ⟨g,7,none⟩=some x7∧w.cell? ⟨g,8,none⟩=some x8∧w.cell? ⟨g,9,none⟩=some x9:=
 ⟨by simpa using h.cell 0,by simpa using h.cell 1,by simpa using h.cell 2,by simpa using h.cell 3,by simpa using h.cell 4,by simpa using h.cell 5,by simpa using h.cell 6,by simpa using h.cell 7,by simpa using h.cell 8,by simpa using h.cell 9⟩
namespace WriterIs
variable {w w':World} {base p d g t:Nat} {I B:Value} {ls:List (Value×List UInt8)} {F l:List Nat} {W:PW}
theorem mem (h:WriterIs w base p d g t I B ls F W) {x:Nat} (hx:x∈F):x=p∨x∈I.ownBlock.toList∨x∈B.ownBlock.toList∨∃ q∈ls,x∈q.1.ownBlock.toList:=by
 rw[h.foot] at hx
 simp only[List.mem_cons,List.mem_append,List.mem_flatMap] at hx
 exact hx
theorem inP (h:WriterIs w base p d g t I B ls F W):p∈F:=by rw[h.foot];simp
theorem inI (h:WriterIs w base p d g t I B ls F W):∀ x∈I.ownBlock.toList,x∈F:=fun x hx=>by rw[h.foot];exact List.mem_cons_of_mem _ (List.mem_append_left _ hx)
theorem inB (h:WriterIs w base p d g t I B ls F W):∀ x∈B.ownBlock.toList,x∈F:=fun x hx=>by rw[h.foot];exact List.mem_cons_of_mem _ (List.mem_append_right _ (List.mem_append_left _ hx))
theorem inQ (h:WriterIs w base p d g t I B ls F W) {q:Value×List UInt8} (hq:q∈ls):∀ x∈q.1.ownBlock.toList,x∈F:=fun x hx=>by
 rw[h.foot];exact List.mem_cons_of_mem _ (List.mem_append_right _ (List.mem_append_right _ (List.mem_flatMap.2 ⟨q,hq,hx⟩)))
theorem keep (h:WriterIs w base p d g t I B ls F W) (hk:Keep l w w') (ha:Apart F l):WriterIs w' base p d g t I B ls F W:=
 ⟨h.blk.keep hk (ha _ h.inP),KA h.its hk fun x hx=>ha _ (h.inI x (by simpa using hx)),KA h.bls hk fun x hx=>ha _ (h.inB x (by simpa using hx)),fun q hq=>KA (h.dat q hq) hk fun x hx=>ha _ (h.inQ hq x (by simpa using hx)),h.snd,h.foot,h.base⟩
theorem keep0 (h:WriterIs w base p d g t I B ls F W) (hk:Keep [] w w'):WriterIs w' base p d g t I B ls F W:=h.keep hk Apart.nil_right
theorem lt (h:WriterIs w base p d g t I B ls F W):∀ x∈F,x<w.heap.size:=by
 intro x hx
 rcases h.mem hx with rfl | hx | hx | ⟨q,hq,hx⟩
 · exact h.blk.lt
 · exact(own_mem h.its hx).2
 · exact(own_mem h.bls hx).2
 · exact(own_mem (h.dat q hq) hx).2
theorem ge (h:WriterIs w base p d g t I B ls F W):∀ x∈F,base≤x:=by
 intro x hx
 rcases h.mem hx with rfl | hx | hx | ⟨q,hq,hx⟩
 · exact h.base
 · exact(own_mem h.its hx).1
 · exact(own_mem h.bls hx).1
 · exact(own_mem (h.dat q hq) hx).1
theorem len (h:WriterIs w base p d g t I B ls F W):ls.length=W.blocks.length:=by rw[← h.snd];simp
theorem pI (h:WriterIs w base p d g t I B ls F W):p∉I.ownBlock.toList:=fun hm=>own_blk_ne h.its h.blk (by decide) (by simpa using hm)
theorem pB (h:WriterIs w base p d g t I B ls F W):p∉B.ownBlock.toList:=fun hm=>own_blk_ne h.bls h.blk (by decide) (by simpa using hm)
theorem pQ (h:WriterIs w base p d g t I B ls F W) {q:Value×List UInt8} (hq:q∈ls):p∉q.1.ownBlock.toList:=fun hm=>own_blk_ne (h.dat q hq) h.blk (by decide) (by simpa using hm)
theorem rws (h:WriterIs w base p d g t I B ls F W) {A:Option Addr} {c:Nat} (hB:B=.slice A ls.length c):Rws w A ls.length ls:=
 ⟨Rd.of_own (by rw[← hB];exact h.bls),fun q hq=>Bts.of_own (h.dat q hq) (by omega)⟩
theorem setPos (h:WriterIs w base p d g t I B ls F W) (P:PPos) (hb:Blk w' p 209 #[.pointer (some ⟨d,0,none⟩),.pointer (some ⟨g,0,none⟩),.pointer (some ⟨t,0,none⟩),.int .i64 P.seg,.int .i64 P.off,.int .i64 P.lsn,.int .i64 P.prev,.int .i64 P.mount,I,B]) (hk:Keep [p] w w') :
 WriterIs w' base p d g t I B ls F { W with pos:=P }:=
 ⟨hb,KA h.its hk fun x hx hm=>h.pI (by simp at hm;subst hm;simpa using hx),KA h.bls hk fun x hx hm=>h.pB (by simp at hm;subst hm;simpa using hx),fun q hq=>KA (h.dat q hq) hk fun x hx hm=>h.pQ hq (by simp at hm;subst hm;simpa using hx),h.snd,h.foot,h.base⟩
end WriterIs
namespace WriterAt
variable {w w':World} {base p d g t:Nat} {F l:List Nat} {W:PW}
theorem keep (h:WriterAt w base p d g t F W) (hk:Keep l w w') (ha:Apart F l):WriterAt w' base p d g t F W:=by obtain⟨I,B,ls,h⟩:=h;exact⟨I,B,ls,h.keep hk ha⟩
theorem keep0 (h:WriterAt w base p d g t F W) (hk:Keep [] w w'):WriterAt w' base p d g t F W:=h.keep hk Apart.nil_right
theorem lt (h:WriterAt w base p d g t F W):∀ x∈F,x<w.heap.size:=by obtain⟨I,B,ls,h⟩:=h;exact h.lt
theorem ge (h:WriterAt w base p d g t F W):∀ x∈F,base≤x:=by obtain⟨I,B,ls,h⟩:=h;exact h.ge
end WriterAt
def KB (off m:Nat):Nat:=max off 1+1+m
theorem XW (off m:Nat) (h1:off≤1000) (h2:m≤1000) (w:World):Calls Tryz.prog 245 #[.int .i64 (off:Nat),.int .i64 (m:Nat)] w fun e w'=>e=.returned (.int .i64 (KB off m:Nat))∧w=w':=by
 unfold KB
 by_cases h:off≤1
 · have e:max off 1=1:=by omega
   have hI:((off:Nat):Int)≤1:=by omega
   rw[e]
   have hm:max ((off:Nat):Int) 1=1:=by omega
   go_enter Tryz.func245,Tryz.ntmps245
   go_wp2
   go_ret
   exact⟨VI (by simp),rfl⟩
 · have e:max off 1=off:=by omega
   have hI:(1:Int)≤(off:Nat):=by omega
   rw[e]
   have hm:max ((off:Nat):Int) 1=(off:Nat):=by omega
   go_enter Tryz.func245,Tryz.ntmps245
   go_wp2
   go_ret
   exact⟨VI (by simp),rfl⟩
theorem Xd (w:World) (p g B:Nat) (cs:Array Value) (hp:Blk w p 209 cs) (hc:cs[1]? = some (.pointer (some ⟨g,0,none⟩))) (hg:GeomAt w g B) (off n m:Nat) (h1:off≤100) (h2:n≤7) (h3:m≤100) :
 Calls Tryz.prog 244 #[.pointer (some ⟨p,0,none⟩),.int .i64 (off:Nat),.int .i64 (n:Nat),.int .i64 (m:Nat)] w fun e w'=>e=.returned (.bool (decide (n≤6∧KB off m<24)))∧Keep [] w w':=by
 have c1:w.drew.cell? ⟨p,1,none⟩=some (.pointer (some ⟨g,0,none⟩)):=(hp.drew.cell 1).trans hc
 have hbe:=fun W=>XW off m (by omega) (by omega) W
 have hC:=fun W (hk:Keep [] w W)=>ConfigG_is W g B (hg.keep0 hk)
 have hfd:=fun W=>VF (P:=Tryz.prog) Tryz.underlying27 2 rfl Tryz.isAgg3 #[.int .i64 B,.int .i64 8,.int .i64 24] rfl W
 generalize KB off m=b at *
 by_cases h6:n≤6
 · have h6I:((n:Nat):Int)≤6:=by omega
   go_enter Tryz.func244,Tryz.ntmps244
   go_wp2_with fail
   refine ZT (fun w'=>w'.cell? ⟨p,1,none⟩=some (.pointer (some ⟨g,0,none⟩))) 10 [[0,1,2,3,4,6,7,8,9],[5]] c1 ?_
   simp only[PI]
   iterate 9 (refine ZH ?_;simp only[Act.put,PU])
   refine XB (by rfl) (fun K hK=>?_)
   go_wp2_with (refine(hbe _).mono ?_;clear hbe;rintro e w' ⟨rfl,rfl⟩)
   refine hK _ _ (c1) ?_
   clear hK K
   try simp only[Act.put,PU]
   refine JB ?_
   go_wp2_with (refine(hC _ (Keep.refl _ _).drew).mono ?_;clear hC;rintro e w' ⟨rfl,hk2⟩)
   go_ret
   exact⟨XK (by simp[h6];omega),(Keep.refl _ _).drew.trans0 hk2⟩
 · obtain rfl:n=7:=by omega
   clear h6
   go_enter Tryz.func244,Tryz.ntmps244
   go_wp2_with fail
   refine ZT (fun w'=>w'.cell? ⟨p,1,none⟩=some (.pointer (some ⟨g,0,none⟩))) 10 [[0,1,2,3,4,6,7,8,9],[5]] c1 ?_
   simp only[PI]
   iterate 3 (refine ZH ?_;simp only[Act.put,PU])
   iterate 6 (refine YT (by rfl) ?_;simp only[Act.put,PU])
   refine QU (by rfl) c1 ?_
   simp only[Act.put,PU]
   refine JB ?_
   go_wp2_with fail
   go_ret
   exact⟨XK (by simp),(Keep.refl _ _).drew⟩
theorem XAf (w:World) (p g B:Nat) (cs:Array Value) (hp:Blk w p 209 cs) (hc:cs[1]? = some (.pointer (some ⟨g,0,none⟩))) (seg off:Nat) (hs:seg≤7) (ho:off≤100) (hc3:cs[3]? = some (.int .i64 seg)) (hc4:cs[4]? = some (.int .i64 off)) (hg:GeomAt w g B) :
 Calls Tryz.prog 140 #[.pointer (some ⟨p,0,none⟩)] w fun e w'=>e=.returned (.int .i64 ((6+4*pgs B+24*seg+KB off 0:Nat)))∧Keep [] w w':=by
 have c1:w.drew.cell? ⟨p,1,none⟩=some (.pointer (some ⟨g,0,none⟩)):=(hp.drew.cell 1).trans hc
 have c3:w.drew.cell? ⟨p,3,none⟩=some (.int .i64 seg):=(hp.drew.cell 3).trans hc3
 have c4:w.drew.cell? ⟨p,4,none⟩=some (.int .i64 off):=(hp.drew.cell 4).trans hc4
 have hbe:=fun W=>XW off 0 (by omega) (by omega) W
 have hS:=fun W (hk:Keep [] w W)=>VQ W g B (hg.keep0 hk) seg hs
 have hpb:=(KC hg.pos hg.few).2
 have hbb:KB off 0≤1000:=by unfold KB;omega
 generalize pgs B=P at *
 generalize KB off 0=b at *
 go_enter Tryz.func140,Tryz.ntmps140
 go_wp2_with fail
 refine ZT (fun w'=>w'.cell? ⟨p,1,none⟩=some (.pointer (some ⟨g,0,none⟩))∧w'.cell? ⟨p,3,none⟩=some (.int .i64 seg)∧w'.cell? ⟨p,4,none⟩=some (.int .i64 off)) 15 [[0,1,2,3,4,5,6,7,8,10,11,12,13,14],[9]] ⟨c1,c3,c4⟩ ?_
 simp only[PI]
 iterate 14 (refine ZH ?_;simp only[Act.put,PU])
 refine XB (by rfl) (fun K hK=>?_)
 go_wp2_with (refine(hS _ (Keep.refl _ _).drew).mono ?_;rintro e w2 ⟨rfl,hk2⟩)
 refine hK _ _ (⟨(hk2.cell hp.lt (by simp) _).trans c1,(hk2.cell hp.lt (by simp) _).trans c3,(hk2.cell hp.lt (by simp) _).trans c4⟩) ?_
 clear hK K
 try simp only[Act.put,PU]
 refine JB ?_
 go_wp2_with (refine(hbe _).mono ?_;clear hbe;rintro e w' ⟨rfl,rfl⟩)
 go_ret
 exact⟨VI (by simp),(Keep.refl _ _).drew.trans0 hk2⟩
theorem QAw (w:World) (d g t B:Nat) (hg:GeomAt w g B) (P:PPos) (hP:P.May) :
 Calls Tryz.prog 130 #[.pointer (some ⟨d,0,none⟩),.pointer (some ⟨g,0,none⟩),.pointer (some ⟨t,0,none⟩),.agg P.cs.toArray] w fun e w'=>∃ p F,e=.returned (.pointer (some ⟨p,0,none⟩))∧WriterAt w' w.heap.size p d g t F ⟨P,[],[]⟩∧Keep [] w w':=by
 have hM:=fun W (hk:Keep [] w W)=>QAJ W g B (hg.keep0 hk) P hP
 obtain⟨seg,off,lsn,prev,mount⟩:=P
 simp only[PPos.cs] at *
 have hBk:=Blk.new w 72 #[.int .i64 seg,.int .i64 off,.int .i64 lsn,.int .i64 prev,.int .i64 mount]
 go_enter Tryz.func130,Tryz.ntmps130
 go_wp2_with (
  (refine(hM _ ((Keep.refl _ _).alloc _)).mono ?_)
  clear hM
  rintro e w2 ⟨rfl,hk2⟩
  have hB2:=hBk.keep0 hk2
  obtain⟨c0,c1,c2,c3,c4⟩:=ZC hB2
  have hlt:=hB2.lt)
 go_ret
 have hk:Keep [] w w2:=((Keep.refl _ _).alloc _).trans0 hk2
 exact⟨w2.heap.size,[w2.heap.size],rfl,⟨.slice none 0 0,.slice none 0 0,[],Blk.new _ _ _,World.ownsRow_nil _ _ _ _,World.ownsRow_nil _ _ _ _,by simp,rfl,rfl,hk.size⟩,hk.alloc _⟩
theorem QAv (w:World) (p:Nat) (x0 x1 x2 x8 x9:Value) (P:PPos) (hp:Blk w p 209 #[x0,x1,x2,.int .i64 P.seg,.int .i64 P.off,.int .i64 P.lsn,.int .i64 P.prev,.int .i64 P.mount,x8,x9]) :
 Calls Tryz.prog 95 #[.pointer (some ⟨p,0,none⟩)] w fun e w'=>e=.returned (.agg P.cs.toArray)∧Keep [] w w':=by
 obtain⟨c0,c1,c2,c3,c4,c5,c6,c7,c8,c9⟩:=JD hp
 have hlt:=hp.lt
 have hne:¬ p=w.heap.size:=by omega
 have hne2:¬ w.heap.size=p:=by omega
 obtain⟨seg,off,lsn,prev,mount⟩:=P
 simp only[PPos.cs] at *
 go_enter Tryz.func95,Tryz.ntmps95
 go_wp2
 refine bodyPost_ret (v:=.agg #[.int .i64 seg,.int .i64 off,.int .i64 lsn,.int .i64 prev,.int .i64 mount]) (by simp[results,Tryz.results95,go_sem]) rfl ?_
 exact⟨rfl,(Keep.refl _ _).alloc _⟩
end
end Go.Proofs.YthgphmfipnjllaaGreat
