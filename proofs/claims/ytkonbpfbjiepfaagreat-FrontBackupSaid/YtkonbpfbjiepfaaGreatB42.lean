/-
  A part of the proof: lemmas, and contracts of functions; their conditions stand in them.
-/
import Derived.Test.YtkonbpfbjiepfaaGreatB41
import Derived.Test.YtkonbpfbjiepfaaGreatB29
import Derived.Test.YtkonbpfbjiepfaaGreatB37
import Derived.Test.YtkonbpfbjiepfaaGreatB16
import Derived.Test.YtkonbpfbjiepfaaGreatB10
import Derived.Test.YtkonbpfbjiepfaaGreatB27
import Derived.Test.YtkonbpfbjiepfaaGreatB39
namespace Go.Proofs.YtkonbpfbjiepfaaGreat
set_option linter.unusedSimpArgs false
set_option linter.unusedVariables false
set_option maxHeartbeats 2000000
set_option maxRecDepth 50000
section
open Go.RowKit Go.Shelf
theorem VBL (w:World) (base p g c:Nat) (U:Value) (F:List Nat) (l:List Int) (ds:List Bool) (h:PagedIs w base p (.slice (some ⟨g,0,none⟩) l.length c) U F l ds) (k:Nat) (hk:k<ds.length) :
 Calls Tryz.prog 392 #[.pointer (some ⟨p,0,none⟩),.int .i64 (k:Nat)] w fun e w'=>e = .returned (.slice (some ⟨g,k*15,none⟩) (VV l k).length (c-k*15))∧w'=w.drew:=by
 have hT:=Km w base p F l ds ⟨_,_,h⟩
 obtain ⟨c0,c1,c2⟩:=h.cells
 have hpos:=h.pos
 have hfew:=h.few
 have hpgs:=h.pages
 have hb:15*pgs l.length≤l.length+14∧pgs l.length≤5:=by unfold pgs;omega
 rw [← hpgs] at hb
 have hcap:l.length≤c:=by
  rcases h.rl.2 with ⟨he,_⟩ | ⟨g',cap,cur,he,hb,hg,hn,hm,hs,ht⟩
  · cases he
  · cases he;exact hn
 obtain ⟨hi,hh1,hh2,hh3,hh4,hh5⟩:∃ hi:Nat,min (((k:Nat)+1)*15:Int) (l.length:Nat)=(hi:Nat)∧hi≤l.length∧k*15<hi∧hi≤k*15+15∧hi-k*15=min 15 (l.length-k*15):=⟨min ((k+1)*15) l.length,by omega,by omega,by omega,by omega,by omega⟩
 have hpl:(VV l k).length=hi-k*15:=by rw [QQ,hh5]
 rw [hpl]
 have hk5:((k:Nat):Int)<5:=by omega
 have hkI:((k:Nat):Int)<(ds.length:Nat):=by omega
 have hcu:cutA (some ⟨g,0,none⟩) (k*15) c=some ⟨g,k*15,none⟩:=by rw [XAc _ _ _ _ (by omega),Nat.zero_add]
 clear hpl hpgs h hh5
 generalize l.length=n at *
 generalize ds.length=q at *
 go_enter Tryz.func392,Tryz.ntmps392
 go_wp2_with (refine hT.mono ?_;clear hT;rintro e w' ⟨rfl,rfl⟩)
 refine KA (fun w'=>w'.cell? ⟨p,0,none⟩=some (.slice (some ⟨g,0,none⟩) n c)∧w'.cell? ⟨p,1,none⟩=some (.int .i64 15)) 23 [(0,false),(1,false),(2,false),(3,false),(4,false),(5,false),(6,false),(7,false),(8,false),(9,false),(10,false),(11,false),(12,false),(13,false),(14,false),(15,false),(16,false),(17,false),(18,false),(19,false),(20,false),(21,false),(22,false)]
  (by kernel_rfl) (by kernel_rfl) (fun _ _ d _ _ h=>by cases d <;> exact h) ⟨c0,c1⟩ ?_
 simp only [PI]
 iterate 23 (refine XB ?_ (by rfl) ?_ ?_;rotate_left;(focus (rintro W ⟨hW1,hW2⟩;go_simp;try with_reducible rfl));simp only [Act.put,PU])
 refine JC ?_
 go_wp2_with (refine VM rfl (.tmp 16) (some (.tmp 22)) (some (.tmp 35)) rfl (.slice (cutA (some ⟨g,0,none⟩) (k*15) c) (hi-k*15) (c-k*15)) ?hrun ?_)
 case hrun=>
  intro W
  have:=elemInts.run_lh (some ⟨g,0,none⟩) n c .i64 .i64 (((k:Nat):Int)*15) (hi:Nat) (by omega) (by omega) (by omega) W
  rw [show ((hi:Nat):Int).toNat-(((k:Nat):Int)*15).toNat=hi-k*15 by omega,show (((k:Nat):Int)*15).toNat=k*15 by omega] at this
  show Sem.run Tryz.prog (Instr.sliceAt 22 (.slice (some ⟨g,0,none⟩) n c) (some (.int .i64 (IntKind.i64.wrap (((k:Nat):Int)*15)))) (some (.int .i64 (min (IntKind.i64.wrap (IntKind.i64.wrap (((k:Nat):Int)+1)*15)) (n:Nat)))) none) W=_
  rw [YAO (by omega),VAg (by omega),XAD (by omega),hh1]
  exact this
 go_ret
 exact ⟨rfl,rfl⟩
theorem KAP {w w':World} {base n s g:Nat} {e:TypeId} {v:Value} {xs:List Value} (h:w.ownsRow base e s v n xs) (hv:v.ownBlock=some g) (hs:w'.heap[g]? = w.heap[g]?):w'.ownsRow base e s v n xs:=by
 refine ⟨h.1,?_⟩
 rcases h.2 with h | ⟨g',cap,cur,rfl,hb,hg,r⟩
 · exact .inl h
 · simp [Value.ownBlock] at hv
   subst hv
   exact .inr ⟨g',cap,cur,rfl,hb,hs.trans hg,r⟩
theorem PagedIs.same {w w':World} {base p g u c uc n m:Nat} {F:List Nat} {l:List Int} {ds:List Bool} (h:PagedIs w base p (.slice (some ⟨g,0,none⟩) n c) (.slice (some ⟨u,0,none⟩) m uc) F l ds) (hp:w'.heap[p]? = w.heap[p]?) (hg:w'.heap[g]? = w.heap[g]?) (hu:w'.heap[u]? = w.heap[u]?) :
 PagedIs w' base p (.slice (some ⟨g,0,none⟩) n c) (.slice (some ⟨u,0,none⟩) m uc) F l ds:=
 ⟨hp.trans h.blk,KAP h.rl (by simp [Value.ownBlock]) hg,KAP h.rd (by simp [Value.ownBlock]) hu,h.foot,h.base,h.pos,h.few,h.pages⟩
theorem XAH {α:Type} (L ys:List α) (o:Nat) (h:(L.drop o).take ys.length=ys):splice L o ys=L:=by
 have e:L=L.take o++(ys++(L.drop o).drop ys.length):=by
  conv=>lhs;rw [← List.take_append_drop o L,← List.take_append_drop ys.length (L.drop o),h]
 unfold splice
 conv=>rhs;rw [e]
 rw [List.drop_drop]
theorem Qw (w:World) (base p:Nat) (F:List Nat) (l:List Int) (ds:List Bool) (h:PagedAt w base p F l ds) (k:Nat) (hk:k<ds.length) (hd:ds[k]? = some false) (A:Option Addr) (n c2:Nat) (hn:n=(VV l k).length) (ha:Rd w A n (KJ (VV l k))) :
 Calls Tryz.prog 348 #[.pointer (some ⟨p,0,none⟩),.int .i64 (k:Nat),.slice A n c2] w fun e w'=>e = .returned (.bool true)∧PagedAt w' base p F l ds∧Keep F w w':=by
 obtain ⟨L,U,h⟩:=h
 obtain ⟨g,c,u,uc,rfl,rfl,hgu,hpg,hpu⟩:=h.forms
 have hT:=VBL w base p g c _ F l ds h k hk
 obtain ⟨c0,c1,c2'⟩:=h.cells
 have hpgs:=h.pages
 have hfew:=h.few
 have hb:15*pgs l.length≤l.length+14:=by unfold pgs;omega
 rw [← hpgs] at hb
 have hpl:(VV l k).length=min 15 (l.length-k*15):=QQ l k
 obtain ⟨cur,hcur,hcl,hct⟩:∃ cur:Array Value,Blk w g 3 cur∧k*15+n≤cur.size∧(cur.toList.drop (k*15)).take n=KJ (VV l k):=by
  rcases h.rl.2 with ⟨he,_⟩ | ⟨g',cap,cur,he,hb,hg,hn',hm,hs,ht⟩
  · cases he
  · cases he
    refine ⟨cur,hg,by omega,?_⟩
    have e:cur.toList.take l.length=KJ l:=by simpa using ht
    unfold VV KJ at *
    rw [List.map_take,List.map_drop,← e,List.drop_take,List.take_take]
    congr 1
    omega
 obtain ⟨cu,hcu,hck,hcz⟩:∃ cu:Array Value,Blk w u 4 cu∧k<cu.size∧cu[k]? = some (.bool false):=by
  rcases h.rd.2 with ⟨he,_⟩ | ⟨g',cap,cur,he,hb,hg,hn',hm,hs,ht⟩
  · cases he
  · cases he
    have e:cur.toList.take ds.length=ds.map .bool:=by simpa using ht
    refine ⟨cur,hg,by omega,?_⟩
    have e2:(cur.toList.take ds.length)[k]? = some (.bool false):=by rw [e,List.getElem?_map,hd];rfl
    rw [List.getElem?_take_of_lt hk] at e2
    simpa using e2
 have hn1:1≤n:=by omega
 have hn15:n≤15:=by omega
 have HN:=KB hn
 rw [← hn] at hT
 have hlen:(KJ (VV l k)).length=n:=by simp [KJ,hn]
 have hone:∀ v∈KJ (VV l k),v.oneCell'=true:=QAO _
 generalize KJ (VV l k)=ys at *
 clear hn hpl hb hd
 have hlk:((k:Nat):Int)<(ds.length:Nat):=by omega
 have hcD:Blk w.drew g 3 cur.toList.toArray:=by simpa using hcur.drew
 go_enter Tryz.func348,Tryz.ntmps348
 go_wp2_with (first
  | (go_at_call 392;refine hT.mono ?_;clear hT;rintro e w' ⟨rfl,rfl⟩)
  | (refine elemInts.wp_copy rfl (.tmp 21) (.tmp 22) rfl (some ⟨g,k*15,none⟩) A n (c-k*15) n c2 rfl rfl g (k*15) cur.toList 3 hcD (fun _=>rfl) (by simpa using hcl) ys ha.drew (fun v hv=>hone v (List.mem_of_mem_take hv)) ?_
     intro w2 hg2 hk2
     have q2:w2.cell? ⟨p,2,none⟩=some (.slice (some ⟨u,0,none⟩) ds.length uc):=by simpa using (h.blk.drew.keep hk2 (by simpa using hpg)).cell 2
     have hu2:=hcu.drew.keep hk2 (by simpa using fun e=>hgu e.symm)
     have q3:w2.cell? ⟨u,k,none⟩=some (.bool false):=(hu2.cell k).trans hcz
     have q4:=hu2.frozen k
     have hlu:=hu2.lt))
 rw [List.take_of_length_le (by omega),XAH _ _ _ (by rw [hlen];exact hct)] at hg2
 go_ret
 have hsu:=hu2.set k (.bool false)
 have hcs:cu.setIfInBounds k (.bool false)=cu:=by
  apply Array.ext_getElem?
  intro i
  rw [Array.getElem?_setIfInBounds]
  split
  · subst_vars;exact hcz.symm
  · rfl
 rw [hcs] at hsu
 have hks:Keep [u] w2 (w2.setCell ⟨u,k,none⟩ (.bool false)):=(Keep.refl _ _).setCell (p:=⟨u,k,none⟩) (.inl (by simp)) _
 have hP:=(h.blk.drew.keep hk2 (by simpa using hpg)).keep hks (by simpa using hpu)
 have hG:Blk (w2.setCell ⟨u,k,none⟩ (.bool false)) g 3 cur:=by simpa using hg2.keep hks (by simpa using hgu)
 refine ⟨rfl,⟨_,_,h.same (hP.trans h.blk.symm) (hG.trans hcur.symm) (hsu.trans hcu.symm)⟩,?_⟩
 have hf:=h.foot
 exact ((Keep.refl [] w).drew.zero.trans hk2 (fun x hx => .inl (by rw [hf];simp at hx;simp [hx,Value.ownBlock]))).trans hks (fun x hx => .inl (by rw [hf];simp at hx;simp [hx,Value.ownBlock]))
def XAn (over:Bool):Int:=if over then -1 else 0
theorem Vv (w:World) (m p k n c2:Nat) (over:Bool) (A:Option Addr) (zs:List Int) (hzl:zs.length=n) (hn:1≤n∧n≤15) (hc:n≤c2) (hz:∀ z∈zs,XAn over≤z∧z<4096) (Post:World→Prop) (ha:Rd w A n (KJ zs))
 (hT:Calls Tryz.prog 119 #[.pointer (some ⟨m,0,none⟩),.bool over] w fun e w'=>e = .returned (.pointer (some ⟨p,0,none⟩))∧w=w')
 (hPg:Calls Tryz.prog 346 #[.pointer (some ⟨p,0,none⟩),.int .i64 (k:Nat)] w fun e w'=>∃ u,e = .returned u∧w'.ownsRow w.heap.size 3 1 u n (KJ zs)∧Keep [] w w')
 (hL:∀ W,Keep [] w W→Calls Tryz.prog 348 #[.pointer (some ⟨p,0,none⟩),.int .i64 (k:Nat),.slice A n c2] W fun e w'=>e = .returned (.bool true)∧Post w') :
 Calls Tryz.prog 298 #[.pointer (some ⟨m,0,none⟩),.bool over,.int .i64 (k:Nat),.slice A n c2] w fun e w'=>e = .returned (.bool true)∧Post w':=by
 have hrun:=fun W=>elemInts.run_h A n c2 .i64 (n:Nat) (by omega) (by omega) W
 simp only [Int.toNat_natCast] at hrun
 obtain ⟨hn1,hn2⟩:=hn
 have hn0:((n:Nat):Int)≠0:=by omega
 have HZL:=KB hzl
 clear hzl
 go_enter Tryz.func298,Tryz.ntmps298
 rcases Bool.eq_false_or_eq_true over with ho | ho
 all_goals
  subst ho
  simp only [XAn,if_true,if_false,Bool.false_eq_true] at hz
  go_wp2_with (first
   | (go_at_call 119;refine hT.mono ?_;clear hT;rintro e w' ⟨rfl,rfl⟩)
   | (go_at_call 346;refine hPg.mono ?_;clear hPg;rintro e w1 ⟨u,rfl,hu,hk1⟩;obtain ⟨UA,uc,rfl,_⟩:=YB hu)
   | (refine VM rfl (.tmp 30) none (some (.tmp 31)) rfl (.slice A n c2) hrun ?_))
  go_loopw [13,34] (fun _ i wr=>∃ j:Nat,j≤n∧i = .int .i64 j∧w1=wr) (fun _ i _=>n-(intOf i).toNat)
  case atStart=>exact ⟨0,Nat.zero_le _,rfl,rfl⟩
  case round=>
   obtain ⟨j,hj,rfl,rfl⟩:=hrel
   by_cases hlt:j<n
   · have hltI:((j:Nat):Int)<(n:Nat):=by omega
     have hjl:j<zs.length:=by rw [XA HZL];exact hlt
     obtain ⟨b,o,q,rfl,hx,hb,hcell⟩:=(ha.keep hk1).at_ hlt
     simp only [KJ,List.getElem?_map,List.getElem?_eq_getElem hjl,Option.map_some,Option.some.injEq] at hx
     subst hx
     obtain ⟨z1,z2⟩:=hz _ (List.getElem_mem hjl)
     generalize zs[j]=z at *
     replace hcell:w1.cell? ⟨b,o+j,none⟩=some (.int .i64 z):=hcell
     have z3:¬ z<_:=Int.not_lt.2 z1
     have z4:¬ (4096:Int)≤z:=by omega
     go_wp2_with fail
     go_roundw
     case rel=>exact ⟨j+1,by omega,by go_num,trivial⟩
     case measure=>simp [intOf];omega
   · obtain rfl:j=n:=by omega
     have hLd:=hL _ hk1
     go_wp2_with (first
      | (refine VM rfl (.tmp 48) none (some (.tmp 49)) rfl (.slice A j c2) hrun ?_)
      | (go_at_call 348;refine hLd.mono ?_;clear hLd;rintro e w' ⟨rfl,hp⟩))
     go_ret
     exact ⟨rfl,hp⟩
theorem YAS (w:World) (base m:Nat) (F:List Nat) (I:PImage) (h:ImageAt w base m F I) (over:Bool) (k:Nat) (hk:k<(if over then I.od else I.bd).length) (hd:(if over then I.od else I.bd)[k]? = some false) (A:Option Addr) (n c2:Nat) (hn:n=(VV (if over then I.ol else I.bl) k).length) (hn1:1≤n) (hc:n≤c2) (ha:Rd w A n (KJ (VV (if over then I.ol else I.bl) k))) :
 Calls Tryz.prog 298 #[.pointer (some ⟨m,0,none⟩),.bool over,.int .i64 (k:Nat),.slice A n c2] w fun e w'=>e = .returned (.bool true)∧ImageAt w' base m F I∧Keep F w w':=by
 obtain ⟨p1,p2,F1,F2,h⟩:=h
 have hT:=VK w base m p1 p2 F F1 F2 I h over
 have hn15:n≤15:=by rw [hn,QQ];omega
 obtain ⟨e1,e2,e3⟩:=h.ok
 cases over
 · simp only [Bool.false_eq_true,if_false] at *
   refine Vv w m p1 k n c2 false A (VV I.bl k) hn.symm ⟨hn1,hn15⟩ hc (fun z hz=>e2 z (Vz hz)) (fun w'=>ImageAt w' base m F I∧Keep F w w') ha hT (by rw [hn];exact Vk w base p1 F1 I.bl I.bd h.b k hk) (fun W hW=>?_)
   have h':=h.keep0 hW
   refine (Qw W base p1 F1 I.bl I.bd h'.b k hk hd A n c2 hn (ha.keep hW)).mono ?_
   rintro e w' ⟨rfl,hp,hk2⟩
   have hkF:Keep F W w':=hk2.sub (fun x hx=>h.subB x hx)
   exact ⟨rfl,⟨p1,p2,F1,F2,⟨h'.blk.keep hk2 h.m1,hp,h'.o.keep hk2 (fun x hx hm=>h.apart x hm hx),h.apart,h.m1,h.m2,h.foot,h.base,h.ok⟩⟩,hW.zero.trans hkF (fun x hx => .inl hx)⟩
 · simp only [if_true] at *
   refine Vv w m p2 k n c2 true A (VV I.ol k) hn.symm ⟨hn1,hn15⟩ hc (fun z hz=>e3 z (Vz hz)) (fun w'=>ImageAt w' base m F I∧Keep F w w') ha hT (by rw [hn];exact Vk w base p2 F2 I.ol I.od h.o k hk) (fun W hW=>?_)
   have h':=h.keep0 hW
   refine (Qw W base p2 F2 I.ol I.od h'.o k hk hd A n c2 hn (ha.keep hW)).mono ?_
   rintro e w' ⟨rfl,hp,hk2⟩
   have hkF:Keep F W w':=hk2.sub (fun x hx=>h.subO x hx)
   exact ⟨rfl,⟨p1,p2,F1,F2,⟨h'.blk.keep hk2 h.m2,h'.b.keep hk2 (fun x hx hm=>h.apart x hx hm),hp,h.apart,h.m1,h.m2,h.foot,h.base,h.ok⟩⟩,hW.zero.trans hkF (fun x hx => .inl hx)⟩
end
section
open Go.RowKit Go.Shelf
theorem YAR (w:World) (g B:Nat) (h:GeomAt w g B) (x:Int) (hx:x<6+4*(pgs B:Nat)) :
 Calls Tryz.prog 19 #[.pointer (some ⟨g,0,none⟩),.int .i64 x] w fun e w'=>e = .returned (.tuple #[.int .i64 0,.int .i64 0,.bool false])∧Keep [] w w':=by
 have hS:=segsG_is w g B h
 have hN:=fun W (hk:Keep [] w W)=>SectorsG_is W g B (h.keep0 hk)
 have hb:=(ZD h.pos h.few).2
 have hT:=fun W=>XG x ((6+4*pgs B:Nat)) ((198+4*pgs B:Nat)-1) W
 rw [decide_eq_false (by omega)] at hT
 go_enter Tryz.func19,Tryz.ntmps19
 go_wp2_with (first
  | (go_at_call 74;refine hS.mono ?_;rintro e w1 ⟨rfl,hk1⟩)
  | (go_at_call 75;refine (hN _ hk1).mono ?_;rintro e w2 ⟨rfl,hk2⟩;replace hk2:=hk1.trans0 hk2)
  | (go_at_call 73;refine (hT _).mono ?_;rintro e w' ⟨rfl,rfl⟩))
 exact bodyPost_ret (v := .tuple #[.int .i64 0,.int .i64 0,.bool false]) (by simp [results,Tryz.results19,go_sem]) rfl ⟨rfl,hk2⟩
theorem JAv (w:World) (f g B:Nat) (cs:Array Value) (hb:Blk w f 311 cs) (hc:cs[1]? = some (.pointer (some ⟨g,0,none⟩))) (h:GeomAt w g B) (x:Int) (hx:x<1) :
 Calls Tryz.prog 297 #[.pointer (some ⟨f,0,none⟩),.int .i64 x] w fun e w'=>e = .returned (.bool true)∧Keep [] w w':=by
 have hW:=YAR w g B h x (by have:=(ZD h.pos h.few).1;omega)
 have c1:=(hb.cell 1).trans hc
 go_enter Tryz.func297,Tryz.ntmps297
 go_wp2_with (refine hW.mono ?_;clear hW;rintro e w' ⟨rfl,hk⟩)
 go_ret
 exact ⟨rfl,hk⟩
theorem KAb (w:World) (b f g B:Nat) (cs:Array Value) (hx:Boxed w b 309 (.pointer (some ⟨f,0,none⟩))) (hb:Blk w f 311 cs) (hc:cs[1]? = some (.pointer (some ⟨g,0,none⟩))) (h:GeomAt w g B) (x:Int) (hx1:x<1) :
 Calls Tryz.prog 296 #[.int .i64 x,.pointer (some ⟨b,0,none⟩)] w fun e w'=>e = .returned (.bool false)∧Keep [] w w':=by
 have hL:=JAv w f g B cs hb hc h x hx1
 have c:=hx.cell
 go_enter Tryz.func296,Tryz.ntmps296
 go_wp2_with (refine hL.mono ?_;clear hL;rintro e w' ⟨rfl,hk⟩)
 go_ret
 exact ⟨rfl,hk⟩
theorem XAj (w:World) (b f g B:Nat) (cs:Array Value) (hx:Boxed w b 309 (.pointer (some ⟨f,0,none⟩))) (hb:Blk w f 311 cs) (hc:cs[1]? = some (.pointer (some ⟨g,0,none⟩))) (h:GeomAt w g B)
 (A:Option Addr) (n c:Nat) (zs:List Int) (ha:Rd w A n (KJ zs)) (hz:∀ z∈zs,z<1) (hn:n≤15) :
 Calls Tryz.prog 295 #[.slice A n c,.func (.func 296) #[] #[.pointer (some ⟨b,0,none⟩)]] w fun e w'=>e = .returned (.bool false)∧Keep [] w w':=by
 have hT:Calls Tryz.prog 347 #[.slice A n c,.func (.func 296) #[] #[.pointer (some ⟨b,0,none⟩)]] w fun e w'=>e = .returned (.int .i64 (-1))∧Keep [] w w':=by
  have hl:zs.length=n:=by simpa [KJ] using ha.1
  have HL:=KB hl
  clear hl
  go_enter Tryz.func347,Tryz.ntmps347
  go_wp2_with fail
  go_loopw [5,8] (fun _ i wr=>∃ k:Nat,k≤n∧i = .int .i64 k∧Keep [] w wr) (fun _ i _=>n-(intOf i).toNat)
  case atStart=>exact ⟨0,Nat.zero_le _,rfl,Keep.refl _ _⟩
  case round=>
   obtain ⟨k,hk,rfl,hK⟩:=hrel
   by_cases hlt:k<n
   · have hkl:k<zs.length:=by rw [XA HL];exact hlt
     have hltI:((k:Nat):Int)<(n:Nat):=by omega
     obtain ⟨ab,o,u,rfl,hxv,hbb,hcc⟩:=(ha.keep hK).at_ hlt
     simp only [KJ,List.getElem?_map,List.getElem?_eq_getElem hkl,Option.map_some,Option.some.injEq] at hxv
     subst hxv
     have hT:=KAb wr b f g B cs (JA hx hK (by simp)) (hb.keep0 hK) hc (h.keep0 hK) zs[k] (hz _ (List.getElem_mem hkl))
     generalize zs[k]=z at *
     replace hcc:wr.cell? ⟨ab,o+k,none⟩=some (.int .i64 z):=hcc
     go_wp2_with (refine hT.mono ?_;rintro e w' ⟨rfl,hk2⟩)
     go_roundw
     case rel=>exact ⟨k+1,by omega,by go_num,hK.trans0 hk2⟩
     case measure=>simp [intOf];omega
   · obtain rfl:n=k:=by omega
     go_wp2
     go_ret
     exact ⟨rfl,hK⟩
 go_enter Tryz.func295,Tryz.ntmps295
 go_wp2_with (refine hT.mono ?_;clear hT;rintro e w' ⟨rfl,hk⟩)
 go_ret
 exact ⟨rfl,hk⟩
theorem XAU (B k:Nat) (x:Int):VV (List.replicate B x) k=List.replicate (min (B-15*k) 15) x:=by
 unfold VV
 rw [List.drop_replicate,List.take_replicate]
 congr 1
 omega
theorem JAC (w:World) (f d g m base mb B:Nat) (F Fm:List Nat) (D:PDisk) (cs:Array Value) (hf:Blk w f 311 cs) (hc0:cs[0]? = some (.pointer (some ⟨d,0,none⟩))) (hc1:cs[1]? = some (.pointer (some ⟨g,0,none⟩))) (hc6:cs[23]? = some (.pointer (some ⟨m,0,none⟩)))
 (h:DiskAt w base d F D) (hoff:D.off=false) (hfl:∀ k,k<D.n→D.faults[k]? = some false) (hn:D.n=198+4*pgs B) (hg:GeomAt w g B) (over:Bool) (x:Int) (hx:x=if over then -1 else 0) (I:PImage) (hI:ImageAt w mb m Fm I)
 (hbl:(if over then I.ol else I.bl)=List.replicate B x) (hbd:(if over then I.od else I.bd)=List.replicate (pgs B) false)
 (hpg:∀ k,k<pgs B→seg 64 D.now (6+2*(k+(if over then pgs B else 0)))=XS (List.replicate (min (B-15*k) 15) x)) (A:Option Addr) (c:Nat) (hA:Rd w A (pgs B) (ZI (List.replicate (pgs B) 0))) (hAm:∀ a,A=some a→a.block∉Fm) (hfm:f∉Fm) (hgm:g∉Fm) (hdm:Apart F Fm) :
 Calls Tryz.prog 220 #[.pointer (some ⟨f,0,none⟩),.bool over,.slice A (pgs B) c] w fun e w'=>e = .returned (.int .i64 0)∧ImageAt w' mb m Fm I∧Keep Fm w w':=by
 have hpb:=ZD hg.pos hg.few
 have hlen:=hI.lt
 have hPg:=fun (k:Nat) (hk:k<pgs B) W (hK:Keep Fm w W)=>Xy W g B (hg.keep hK hgm) over k 0 (by omega) hk
 have hRd:=fun (k:Nat) (hk:k<pgs B) W (hK:Keep Fm w W)=>Ya W base d F D (h.keep hK hdm) hoff (6+2*(k+(if over then pgs B else 0))+0) (by split <;> omega) (hfl _ (by split <;> omega))
 have hfd:=fun W (hK:Keep Fm w W)=>(⟨(hf.keep hK hfm).cell 0 |>.trans hc0,(hf.keep hK hfm).cell 1 |>.trans hc1,(hf.keep hK hfm).cell 23 |>.trans hc6⟩:W.cell? ⟨f,0,none⟩=some (.pointer (some ⟨d,0,none⟩))∧W.cell? ⟨f,1,none⟩=some (.pointer (some ⟨g,0,none⟩))∧W.cell? ⟨f,23,none⟩=some (.pointer (some ⟨m,0,none⟩)))
 have hx1:x<1:=by rw [hx];split <;> omega
 have hx0 : -1≤x:=by rw [hx];split <;> omega
 have hPi:=fun (k:Nat) (hk:k<pgs B) W (hi:ImageAt W mb m Fm I)=>Zy W mb m Fm I hi over k (by rw [hbd];simpa using hk)
 have hLd:=fun (k:Nat) (hk:k<pgs B) W (hi:ImageAt W mb m Fm I) (A:Option Addr) (n c2:Nat) hn=>YAS W mb m Fm I hi over k (by rw [hbd];simpa using hk) (by rw [hbd,List.getElem?_replicate,if_pos hk]) A n c2 hn
 simp only [hbl,XAU] at hPi hLd
 clear hx hbl hbd hlen hfl
 generalize hov:(if over then pgs B else 0)=ov at *
 have hkx:Keep [] w (w.alloc (.cells #[.pointer (some ⟨f,0,none⟩)] 309)):=(Keep.refl _ _).alloc _
 have hbx:Boxed (w.alloc (.cells #[.pointer (some ⟨f,0,none⟩)] 309)) w.heap.size 309 (.pointer (some ⟨f,0,none⟩)):=Boxed.new w _ _
 have hxm:w.heap.size∉Fm:=fun hm=>by have:=hI.lt _ hm;omega
 obtain ⟨P,hP⟩:∃ P,P=pgs B:=⟨_,rfl⟩
 rw [← hP] at hA hpb hPg hRd hPi hLd hpg ⊢
 have hBk:∀ k,k<P→1≤min (B-15*k) 15:=fun k hk=>by unfold pgs at hP;omega
 have HP:=KB hP
 clear hP
 go_enter Tryz.func220,Tryz.ntmps220
 go_wp2_with fail
 generalize w.alloc (.cells #[.pointer (some ⟨f,0,none⟩)] 309)=w1 at *
 go_loopw [7,8,9,10,11,14] (fun _ _ _ _ _ i wr=>∃ k:Nat,k≤P∧i = .int .i64 k∧ImageAt wr mb m Fm I∧Boxed wr w.heap.size 309 (.pointer (some ⟨f,0,none⟩))∧Keep Fm w wr) (fun _ _ _ _ _ i _=>P-(intOf i).toNat)
 case atStart=>exact ⟨0,Nat.zero_le _,rfl,hI.keep0 hkx,hbx,hkx.zero⟩
 case round=>
  clear hbx hkx
  obtain ⟨k,hk,rfl,hi,hb,hK⟩:=hrel
  by_cases hlt:k<P
  · have hltI:((k:Nat):Int)<(P:Nat):=by omega
    obtain ⟨ab,ao,au,rfl,hxv,hab,hac⟩:=(hA.keepIf hK (fun a ha hm=>hAm a ha hm)).at_ hlt
    simp only [ZI,List.map_replicate,List.getElem?_replicate,if_pos hlt,Option.some.injEq] at hxv
    subst hxv
    replace hac:wr.cell? ⟨ab,ao+k,none⟩=some (.int .i64 0):=hac
    have hn1:=hBk k hlt
    have hpgk:=hpg k hlt
    have hPg1:=hPg k hlt
    have hRd1:=hRd k hlt
    have hPi1:=hPi k hlt
    have hLd1:=hLd k hlt
    rw [Nat.add_zero] at hRd1
    rw [hpgk] at hRd1
    clear hPg hRd hPi hLd hpg hpgk hA hBk
    obtain ⟨nn,hnn⟩:∃ nn,nn=min (B-15*k) 15:=⟨_,rfl⟩
    rw [← hnn] at hn1 hRd1 hPi1 hLd1
    have hn15:nn≤15:=by omega
    rw [XAL x hn15] at hRd1
    clear hnn
    have hiD:ImageAt wr.drew mb m Fm I:=hi.keep0 (Keep.refl [] wr).drew
    have hbD:=JA hb (Keep.refl [] wr).drew (by simp)
    have hKD:=hK.drew
    have hcb:=hb.cell
    go_wp2_with fail
    refine KA (fun W=>W.cell? ⟨w.heap.size,0,none⟩=some (.pointer (some ⟨f,0,none⟩))∧W.cell? ⟨f,0,none⟩=some (.pointer (some ⟨d,0,none⟩))∧W.cell? ⟨f,1,none⟩=some (.pointer (some ⟨g,0,none⟩))) 17 [(0,false),(1,false),(2,false),(3,false),(4,false),(5,false),(6,false),(7,false),(8,false),(9,false),(10,false),(11,true),(12,true),(13,false),(14,false),(15,false),(16,false)]
     (by kernel_rfl) (by kernel_rfl) (fun _ _ d _ _ h=>by cases d <;> exact h) ⟨hbD.cell,(hfd _ hKD).1,(hfd _ hKD).2.1⟩ ?_
    simp only [PI]
    iterate 11 (refine XB ?_ (by rfl) ?_ ?_;rotate_left;(focus (rintro W ⟨hW0,hW1,hW2⟩;go_simp;try with_reducible rfl));simp only [Act.put,PU])
    refine JB (by rfl) (fun K hK=>?_)
    go_wp2_with (refine (hPg1 _ hKD).mono ?_;rintro e w2 ⟨rfl,hk2⟩)
    replace hiD:=hiD.keep0 hk2
    replace hbD:=JA hbD hk2 (by simp)
    replace hKD:=hKD.trans0 hk2
    clear hk2
    refine hK _ _ (⟨hbD.cell,(hfd _ hKD).1,(hfd _ hKD).2.1⟩) ?_
    clear hK K
    try simp only [Act.put,PU]
    refine JB (by rfl) (fun K hK=>?_)
    go_wp2_with (refine (hRd1 _ hKD).mono ?_;rintro e w3 ⟨ub,rfl,hub,hk3⟩;obtain ⟨BA,bc,rfl,_⟩:=YB hub)
    replace hiD:=hiD.keep0 hk3
    replace hbD:=JA hbD hk3 (by simp)
    replace hKD:=hKD.trans0 hk3
    clear hk3
    refine hK _ _ (⟨hbD.cell,(hfd _ hKD).1,(hfd _ hKD).2.1⟩) ?_
    clear hK K
    try simp only [Act.put,PU]
    iterate 4 (refine XB ?_ (by rfl) ?_ ?_;rotate_left;(focus (rintro W ⟨hW0,hW1,hW2⟩;go_simp;try with_reducible rfl));simp only [Act.put,PU])
    refine JC ?_
    have hDe:=QAu BA bc (Zj nn x) w3 (Rd.of_own hub) (Yw x hn15) (fun z hz=>by
     unfold Zj at hz
     rcases List.mem_append.1 hz with hz | hz
     · rw [List.eq_of_mem_replicate hz];omega
     · rw [List.eq_of_mem_replicate hz];omega)
    have hrun:=fun (UA:Option Addr) (uc:Nat) (h:15≤uc) W=>elemInts.run_h UA 15 uc .i64 (nn:Nat) (by omega) (by omega) W
    simp only [Int.toNat_natCast] at hrun
    go_wp2_with (first
     | (go_at_call 293
        refine hDe.mono ?_
        clear hDe hcb
        rintro e w4 ⟨u,rfl,hu,hk4⟩
        obtain ⟨UA,uc,rfl,huc,_⟩:=YB hu
        have hi4:=hiD.keep0 hk4
        have hb4:=JA hbD hk4 (by simp)
        have hK4:=hKD.trans0 hk4
        have hcb:=hb4.cell
        have hc23:=(hfd _ hK4).2.2
        have hPi2:=hPi1 _ hi4)
     | (go_at_call 294
        refine hPi2.mono ?_
        clear hPi2 hcb hc23
        rintro e w5 ⟨v,rfl,hv,hk5⟩
        obtain ⟨VA,vc,rfl,_⟩:=YB hv
        have hi5:=hi4.keep0 hk5
        have hb5:=JA hb4 hk5 (by simp)
        have hK5:=hK4.trans0 hk5
        have hu5:=QB hu hk5
        have hr5:Rd w5 UA nn (KJ (List.replicate nn x)):=by
         have:=(Rd.of_own hu5).take (k:=nn) hn15
         rwa [show (KJ (Zj nn x)).take nn=KJ (List.replicate nn x) by unfold KJ;rw [← List.map_take,VAF]] at this
        have hLi:=XAj w5 w.heap.size f g B cs hb5 (hf.keep hK5 hfm) hc1 (hg.keep hK5 hgm) UA nn uc (List.replicate nn x) hr5 (fun z hz=>by rw [List.eq_of_mem_replicate hz];exact hx1) hn15)
     | (refine VM rfl (.tmp 46) none (some (.tmp 54)) rfl (.slice UA nn uc) (hrun UA uc huc) ?_)
     | (go_at_call 295
        refine hLi.mono ?_
        clear hLi
        rintro e w6 ⟨rfl,hk6⟩
        have hi6:=hi5.keep0 hk6
        have hb6:=JA hb5 hk6 (by simp)
        have hK6:=hK5.trans0 hk6
        have hcb:=hb6.cell
        have hc23:=(hfd _ hK6).2.2
        have hLd2:=hLd1 _ hi6 UA nn uc (List.length_replicate ..).symm hn1 (by omega) (hr5.keep hk6))
     | (go_at_call 298
        refine hLd2.mono ?_
        clear hLd2 hcb hc23
        rintro e w7 ⟨rfl,hi7,hk7⟩
        have hb7:=JA hb6 hk7 hxm
        have hK7:=hK6.trans hk7 (fun y hy => .inl hy)))
    go_roundw
    case rel=>exact ⟨k+1,by omega,by go_num,hi7,hb7,hK7⟩
    case measure=>simp [intOf];omega
  · obtain rfl:k=P:=by omega
    go_wp2_with fail
    go_ret
    exact ⟨rfl,hi,hK⟩
end
section
open Go.RowKit
def YK (B s:Nat) (a:Int):Bool:=decide (0<a) && ((a.toNat-(6+4*pgs B)) / 24 == s)
theorem KAn {B s:Nat} {a:Int} (h:YK B s a=true):0<a∧(a.toNat-(6+4*pgs B)) / 24=s:=by
 simpa [YK] using h
theorem KH {B s:Nat} {a:Int} (h:a≤0):YK B s a=false:=by
 unfold YK
 rw [decide_eq_false (by omega)];rfl
def VX (B:Nat) (I:PImage) (s:Nat):Nat:=I.bl.countP (YK B s)+I.ol.countP (YK B s)
structure LiveOk (B:Nat) (lv:List Nat) (I:PImage):Prop where
 len:lv.length=8
 live:∀ s<8,lv.getD s 0=VX B I s
 diff:∀ i,0<I.ol.getD i 0→I.ol.getD i 0≠I.bl.getD i 0
structure Ext (B:Nat) (S:PS):Prop where
 segs:JP S.us S.W.pos.seg
 liv:LiveOk B S.lv S.I
 slot:S.slot≤1
 lie0:∀ x∈S.lie0,x≤1
 lie1:∀ x∈S.lie1,x≤1
theorem Xc (lv:List Nat) (s:Nat) (z:Int):(JK lv s z).length=lv.length:=by simp [JK]
theorem ZAU (lv:List Nat) (s k:Nat) (hl:lv.getD s 0≤1000000) (hs:s<lv.length):(JK lv s 1).getD k 0=lv.getD k 0+if k=s then 1 else 0:=by
 unfold JK
 rw [List.getD_eq_getElem?_getD,List.getElem?_set]
 by_cases h:k=s
 · subst h
   rw [if_pos rfl,if_pos hs,if_pos rfl,if_neg (by omega)]
   simp only [Option.getD_some]
   omega
 · rw [if_neg (by omega),if_neg h,← List.getD_eq_getElem?_getD];rfl
theorem XAC (lv:List Nat) (s k:Nat) (hk:k<lv.length) (hl:lv.getD s 0≤1000000):(JK lv s (-1)).getD k 0=lv.getD k 0-if s=k then 1 else 0:=by
 unfold JK
 rw [List.getD_eq_getElem?_getD,List.getElem?_set]
 by_cases h:s=k
 · subst h
   rw [if_pos rfl,if_pos hk,if_pos rfl,if_neg (by omega)]
   simp only [Option.getD_some]
   omega
 · rw [if_neg (by omega),if_neg h,← List.getD_eq_getElem?_getD];rfl
theorem KAB {B:Nat} (zs:List Int) (lv:List Nat) (h8:lv.length=8) (hm:∀ k,lv.getD k 0≤1000000) :
 (zs.foldl (fun lv x=>if 0<x then JK lv ((x.toNat-(6+4*pgs B)) / 24) (-1) else lv) lv).length=8∧∀ k<8,(zs.foldl (fun lv x=>if 0<x then JK lv ((x.toNat-(6+4*pgs B)) / 24) (-1) else lv) lv).getD k 0=lv.getD k 0-zs.countP (YK B k):=by
 induction zs generalizing lv with
 | nil=>exact ⟨h8,fun k hk=>by simp⟩
 | cons z zs ih=>
   simp only [List.foldl_cons]
   by_cases hz:0<z
   · rw [if_pos hz]
     have hd:=XAC lv ((z.toNat-(6+4*pgs B)) / 24)
     obtain ⟨i1,i2⟩:=ih (JK lv ((z.toNat-(6+4*pgs B)) / 24) (-1)) (by rw [Xc];exact h8) (fun k=>by
      by_cases hk:k<lv.length
      · rw [hd k hk (hm _)];have:=hm k;omega
      · rw [List.getD_eq_getElem?_getD,List.getElem?_eq_none (by rw [Xc];omega)];simp)
     refine ⟨i1,fun k hk=>?_⟩
     rw [i2 k hk,hd k (by omega) (hm _),List.countP_cons]
     unfold YK
     rw [decide_eq_true hz]
     simp only [Bool.true_and,beq_iff_eq]
     split <;> omega
   · rw [if_neg hz]
     obtain ⟨i1,i2⟩:=ih lv h8 hm
     refine ⟨i1,fun k hk=>?_⟩
     rw [i2 k hk,List.countP_cons,KH (by omega)]
     simp
theorem Ve {B:Nat} {lv:List Nat} {a:Nat} {zs:List Int} (h8:lv.length=8) (hm:∀ k,lv.getD k 0≤1000) (ha:(a-(6+4*pgs B)) / 24<8) :
 (Zb B lv a zs).length=8∧∀ k<8,(Zb B lv a zs).getD k 0=lv.getD k 0+(if YK B k (a:Nat) then 1 else 0)-zs.countP (YK B k):=by
 unfold Zb
 by_cases h0:a=0
 · subst h0
   rw [if_pos rfl]
   obtain ⟨i1,i2⟩:=KAB (B:=B) zs lv h8 (fun k=>by have:=hm k;omega)
   refine ⟨i1,fun k hk=>?_⟩
   rw [i2 k hk,KH (by omega)]
   simp
 · rw [if_neg h0]
   have hu:=fun k=>ZAU lv ((a-(6+4*pgs B)) / 24) k (by have:=hm ((a-(6+4*pgs B)) / 24);omega) (by omega)
   obtain ⟨i1,i2⟩:=KAB (B:=B) zs (JK lv ((a-(6+4*pgs B)) / 24) 1) (by rw [Xc];exact h8) (fun k=>by rw [hu];have:=hm k;split <;> omega)
   refine ⟨i1,fun k hk=>?_⟩
   rw [i2 k hk,hu]
   unfold YK
   rw [decide_eq_true (by omega)]
   simp only [Bool.true_and,beq_iff_eq,Int.toNat_natCast]
   congr 2
   by_cases e:k=(a-(6+4*pgs B)) / 24
   · rw [if_pos e,if_pos e.symm]
   · rw [if_neg e,if_neg (fun h=>e h.symm)]
theorem XAw {B:Nat} {S:PS} {k j s:Nat} (hg:Good B S k j) (hs:(S.us.getD s (0,0)).1=0):VX B S.I s=0:=by
 have key:∀ x:Int,x = -1∨RefOk B S x→YK B s x=false:=by
  intro x hx
  by_cases h:YK B s x=true
  · obtain ⟨h1,h2⟩:=KAn h
    rcases hx with rfl | rfl | ⟨_,hl⟩
    · omega
    · omega
    · have:=hl.used
      rw [h2] at this
      exact absurd hs this
  · simpa using h
 unfold VX
 rw [List.countP_eq_zero.2 (fun x hx=>by rw [key x (.inr (hg.brefs x hx))];simp),List.countP_eq_zero.2 (fun x hx=>by rw [key x (hg.orefs x hx)];simp)]
theorem YAz {B:Nat} {I:PImage} {a:Int} (ha:a∈I.bl∨a∈I.ol) (h0:0<a):0<VX B I ((a.toNat-(6+4*pgs B)) / 24):=by
 have hin:YK B ((a.toNat-(6+4*pgs B)) / 24) a=true:=by simp [YK,h0]
 unfold VX
 rcases ha with ha | ha
 · have:=List.countP_pos_iff.2 ⟨a,ha,hin⟩;omega
 · have:=List.countP_pos_iff.2 ⟨a,ha,hin⟩;omega
theorem YBF {B:Nat} {S:PS} {k j:Nat} (hg:Good B S k j) (s:Nat):VX B S.I s≤128:=by
 unfold VX
 have h1:=List.countP_le_length (p:=YK B s) (l:=S.I.bl)
 have h2:=List.countP_le_length (p:=YK B s) (l:=S.I.ol)
 have:=hg.bl;have:=hg.ol;have:=hg.b64
 omega
theorem LiveOk.small {B:Nat} {S:PS} {k j:Nat} (h:LiveOk B S.lv S.I) (hg:Good B S k j) (s:Nat):S.lv.getD s 0≤1000:=by
 by_cases hs:s<8
 · rw [h.live s hs];have:=YBF hg s;omega
 · rw [List.getD_eq_getElem?_getD,List.getElem?_eq_none (by have:=h.len;omega)];simp
theorem VAA {us:List (Nat×Nat)} {s t x:Nat} (h:JP us s) (hx:x≤2147483647):JP (YF us t x) s:=by
 obtain ⟨h1,h2,h3⟩:=h
 unfold YF
 refine ⟨by simpa using h1,fun u hu=>?_,fun k hk=>?_⟩
 · rcases List.mem_or_eq_of_mem_set hu with hu | rfl
   · exact h2 u hu
   · refine ⟨?_,hx⟩
     simp only
     by_cases ht:t<us.length
     · rw [ZG ht];exact (h2 _ (List.getElem_mem _)).1
     · rw [List.getD_eq_getElem?_getD,List.getElem?_eq_none (by omega)];simp
 · rw [List.getElem_set]
   split
   · rename_i e
     subst e
     simp only [List.length_set] at hk
     rw [ZG hk]
     exact h3 t hk
   · exact h3 k (by simpa using hk)
theorem Emitted.segs {B:Nat} {D D':PDisk} {us us':List (Nat×Nat)} {W W':PW} {s:Nat} (hE:Emitted B D us W D' us' W') (h:JP us s) (hl:W.pos.lsn≤2147483647):JP us' s:=by
 rcases hE with ⟨_,_,rfl,_⟩ | ⟨_,D1,W1,rs,sum,_,_,_,_,rfl,_⟩
 · exact h
 · exact VAA h hl
theorem Added.ext {B:Nat} {S:PS} {D':PDisk} {us':List (Nat×Nat)} {lv':List Nat} {W':PW} {k j a:Nat} {i:PItem} {bs:List UInt8} (hA:Added B S.D S.us S.lv S.W i bs D' us' lv' W' a) (hg:Good B S k j) (hk:k≤50) (hj:j≤100000) (hx:Ext B S) :
 JP us' W'.pos.seg∧LiveOk B lv' S.I:=by
 obtain ⟨W1,hR,rfl,ha⟩:=hA
 have hlsn:=hg.cap.lsn
 have hm:JU i≤1:=by unfold JU;split <;> omega
 rcases hR with ⟨hf,rfl,rfl,rfl,rfl⟩ | ⟨hnf,hf,hE,rfl⟩ | ⟨hnf,hf,rfl,D1,us1,W2,hE,hT⟩
 · exact ⟨hx.segs,hx.liv⟩
 · refine ⟨?_,hx.liv⟩
   have hs:=hE.segs hx.segs (by omega)
   obtain ⟨_,_,e3,_⟩:=hg.cap.emitted hE
   simp only
   rw [e3];exact hs
 · have hfree:=hg.cap.free hk hm hf
   obtain ⟨g1,g2⟩:=JT S.us (by omega)
   have hul:=hg.cap.ul
   have hsg:=hg.cap.seg
   have hl:=hx.liv.len
   refine ⟨?_,⟨by simpa using hl,fun s hs=>?_,hx.liv.diff⟩⟩
   · obtain ⟨rs,hd,sum,t1,t2,t3,rfl,rfl,rfl⟩:=hT
     obtain ⟨f1,f2,f3,f4,f5,f6,f7,f8,f9,f10,f11,f12⟩:=hE.facts hg.cap.ok
     simp only
     obtain ⟨h1,h2,h3⟩:=hx.segs
     have hul1:us1.length=8:=by rcases f10 with rfl | rfl <;> simpa using hul
     have hlsn2:W2.pos.lsn≤S.W.pos.lsn+1:=f6
     have hst:∀ q<8,(us1.getD q (0,0)).1=((XE S.us (KC S.us) 1).getD q (0,0)).1:=by
      intro q hq
      rcases f10 with rfl | rfl
      · rfl
      · rw [YI]
     have hne:S.W.pos.seg≠KC S.us:=by
      intro e
      have:=hg.cap.opn
      rw [e,g2] at this
      omega
     have hstp:∀ u∈us1,u.1≤2∧u.2≤2147483647:=by
      have h0:∀ u∈XE S.us (KC S.us) 1,u.1≤2∧u.2≤2147483647:=by
       intro u hu
       unfold XE at hu
       rcases List.mem_or_eq_of_mem_set hu with hu | rfl
       · exact h2 u hu
       · refine ⟨by simp,?_⟩
         simp only
         rw [ZG g1];exact (h2 _ (List.getElem_mem _)).2
      rcases f10 with rfl | rfl
      · exact h0
      · intro u hu
        unfold YF at hu
        rcases List.mem_or_eq_of_mem_set hu with hu | rfl
        · exact h0 u hu
        · refine ⟨?_,by simp only;omega⟩
          simp only
          rw [ZG (by simp [XE];omega)]
          exact (h0 _ (List.getElem_mem _)).1
     refine ⟨by simp [XE,YF];exact hul1,?_,?_⟩
     · intro u hu
       unfold XE at hu
       rcases List.mem_or_eq_of_mem_set hu with hu | rfl
       · unfold YF at hu
         rcases List.mem_or_eq_of_mem_set hu with hu | rfl
         · exact hstp u hu
         · refine ⟨?_,by simp only;omega⟩
           simp only
           rw [ZG (by omega)]
           exact (hstp _ (List.getElem_mem _)).1
       · refine ⟨by simp,?_⟩
         simp only
         rw [ZG (by simp [YF];omega)]
         unfold YF
         rw [List.getElem_set_self]
         simp only
         omega
     · intro q hq
       have hq8:q<8:=by simpa [XE,YF,hul1] using hq
       rw [← ZG hq,QG _ _ _ _ (by simp [YF];omega),YI,hst q hq8,QG _ _ _ _ g1]
       rw [f3]
       by_cases e:q=S.W.pos.seg
       · rw [if_pos e]
         subst e
         constructor
         · intro h;omega
         · intro h;exact absurd h hne
       · rw [if_neg e]
         by_cases e2:q=KC S.us
         · rw [if_pos e2];simp [e2]
         · rw [if_neg e2]
           rw [ZG (by omega),h3 q (by omega)]
           constructor
           · intro h;exact absurd h e
           · intro h;exact absurd h e2
   · rw [List.getD_eq_getElem?_getD,List.getElem?_set]
     split
     · rename_i e
       subst e
       rw [if_pos (by omega)]
       exact (XAw hg g2).symm
     · rw [← List.getD_eq_getElem?_getD]
       exact hx.liv.live s hs
theorem Vp {p:Int→Bool} {l:List Int} {i:Nat} {a:Int} (hi:i<l.length):(l.set i a).countP p+(if p l[i] then 1 else 0)=l.countP p+if p a then 1 else 0:=by
 have:=List.countP_set (p:=p) (l:=l) (i:=i) (a:=a) hi
 have h2:(if p l[i] then 1 else 0)≤l.countP p:=by
  split
  · exact List.countP_pos_iff.2 ⟨l[i],List.getElem_mem _,by assumption⟩
  · omega
 omega
theorem Zd {B s:Nat} {x z:Int} (h:0<x→x≠z):YK B s (ZE x z)=YK B s x:=by
 unfold ZE
 by_cases hx:0<x
 · rw [if_neg (h hx),show max x 0=x by omega]
 · rw [KH (a:=x) (by omega)]
   split
   · exact KH (by omega)
   · exact KH (by omega)
theorem Wrote.ext {B:Nat} {S S':PS} {b:Nat} {bs:List UInt8} {k j:Nat} (h:Wrote B S b bs S') (hg:Good B S k j) (hk:k≤50) (hj:j≤100000) (hb:b<B) (hx:Ext B S):Ext B S':=by
 obtain ⟨D',us',lv1,W',a,hA,rfl⟩:=h
 obtain ⟨hs,hl⟩:=hA.ext hg hk hj hx
 obtain ⟨r1,r2,r3,r4,r5⟩:=hA.reads hg.cap hk hg.now hg.many
 obtain ⟨ra,rb⟩:=r5 rfl
 have ha0:0<a:=by have:=ra.lo;omega
 have ha8:(a-(6+4*pgs B)) / 24<8:=by have:=ra.hi;omega
 have hol:=hg.ol
 have hne:∀ x:Int,x = -1∨RefOk B S x→0<x→x≠(a:Nat):=by
  intro x hx h0
  rcases hx with rfl | rfl | ⟨_,hy⟩
  · omega
  · omega
  · have:=(r4 _ hy).2.2 rfl
    omega
 have hm:=fun s=>LiveOk.small (S:={ S with lv:=lv1 }) hl ⟨hg.cap,hg.now,hg.many,hg.flt,hg.flen,hg.b1,hg.b64,hg.bl,hg.ol,hg.brefs,hg.orefs,hg.seq,hg.epoch,hg.done⟩ s
 obtain ⟨l1,l2⟩:=Ve (B:=B) (zs:=[ZE (S.I.ol.getD b 0) a]) hl.len hm ha8
 refine ⟨hs,⟨l1,fun s hs=>?_,fun i hi=>?_⟩,hx.slot,hx.lie0,hx.lie1⟩
 · rw [l2 s hs,hl.live s hs]
   unfold VX
   simp only
   have hc:=Vp (p:=YK B s) (l:=S.I.ol) (i:=b) (a:=(a:Nat)) (by omega)
   have hbo:S.I.ol.getD b 0=S.I.ol[b]:=Ym (by omega)
   rw [List.countP_cons,List.countP_nil,hbo,Zd (fun h0=>hne _ (hg.orefs _ (List.getElem_mem _)) h0)]
   have h2:(if YK B s S.I.ol[b] then 1 else 0)≤S.I.ol.countP (YK B s):=by
    split
    · exact List.countP_pos_iff.2 ⟨S.I.ol[b],List.getElem_mem _,by assumption⟩
    · omega
   omega
 · simp only at hi ⊢
   rw [List.getD_eq_getElem?_getD,List.getElem?_set] at hi ⊢
   split
   · rename_i e
     subst e
     rw [if_pos (by omega)]
     simp only [Option.getD_some]
     intro he
     have hbl:=hg.bl
     rw [Ym (by omega)] at he
     exact hne _ (.inr (hg.brefs _ (List.getElem_mem _))) (by rw [← he];omega) he.symm
   · rename_i e
     rw [if_neg e,← List.getD_eq_getElem?_getD] at hi
     rw [← List.getD_eq_getElem?_getD]
     exact hx.liv.diff i hi
theorem XAT (B s b n:Nat) (l:List Int) (ds:List Bool) (hb:b+n≤l.length):(KF b n l ds).2.1.countP (YK B s)+(KF b n l ds).1.countP (YK B s)=l.countP (YK B s):=by
 induction n with
 | zero=>simp [KF]
 | succ n ih=>
   rw [VP]
   unfold VN
   simp only
   have hlen:=(JJ b n l ds).1
   have hlt:b+n<(KF b n l ds).2.1.length:=by omega
   have hc:=Vp (p:=YK B s) (a:=0) hlt
   rw [List.countP_append,Ym hlt]
   have hz:YK B s 0=false:=KH (by omega)
   rw [hz] at hc
   have h2:(if 0<ZE (KF b n l ds).2.1[b+n] 0 then [ZE (KF b n l ds).2.1[b+n] 0] else []).countP (YK B s)=if YK B s (KF b n l ds).2.1[b+n] then 1 else 0:=by
    rw [← Zd (z:=0) (fun h=>by omega)]
    generalize ZE (KF b n l ds).2.1[b+n] 0=g
    by_cases hg:0<g
    · rw [if_pos hg];simp [List.countP_cons]
    · rw [if_neg hg,KH (by omega)];simp
   have:=ih (by omega)
   rw [h2]
   simp at hc
   omega
theorem Trimmed.ext {B:Nat} {S S':PS} {b n:Nat} {k j:Nat} (h:Trimmed B S b n S') (hg:Good B S k j) (hk:k≤50) (hj:j≤100000) (hb:b+n≤B) (hx:Ext B S):Ext B S':=by
 obtain ⟨D',us',lv1,W',a,hA,rfl⟩:=h
 obtain ⟨hs,hl⟩:=hA.ext hg hk hj hx
 have hol:=hg.ol
 have hm:=fun s=>LiveOk.small (S:={ S with lv:=lv1 }) hl ⟨hg.cap,hg.now,hg.many,hg.flt,hg.flen,hg.b1,hg.b64,hg.bl,hg.ol,hg.brefs,hg.orefs,hg.seq,hg.epoch,hg.done⟩ s
 obtain ⟨l1,l2⟩:=Ve (B:=B) (a:=0) (zs:=(KF b n S.I.ol S.I.od).1) hl.len hm (by omega)
 refine ⟨hs,⟨l1,fun s hs=>?_,fun i hi=>?_⟩,hx.slot,hx.lie0,hx.lie1⟩
 · rw [l2 s hs,hl.live s hs]
   unfold VX
   simp only
   have hc:=XAT B s b n S.I.ol S.I.od (by omega)
   rw [KH (a:=((0:Nat):Int)) (by omega)]
   simp only [Bool.false_eq_true,if_false]
   omega
 · simp only at hi ⊢
   rw [List.getD_eq_getElem?_getD,Yh] at hi ⊢
   split
   · rename_i e
     rw [if_pos e] at hi
     simp at hi
   · rename_i e
     rw [if_neg e,← List.getD_eq_getElem?_getD] at hi
     rw [← List.getD_eq_getElem?_getD]
     exact hx.liv.diff i hi
theorem JBE (B s:Nat) (bl ol:List Int) (hl:bl.length=ol.length) (hd:∀ i,0<ol.getD i 0→ol.getD i 0≠bl.getD i 0) (hr:∀ x∈ol,-1≤x) :
 (List.zipWith (fun b o=>if o = -1 then b else o) bl ol).countP (YK B s)+((bl.zip ol).flatMap (fun p=>if p.2 = -1 then [] else if 0<ZE p.1 p.2 then [ZE p.1 p.2] else [])).countP (YK B s)=bl.countP (YK B s)+ol.countP (YK B s):=by
 induction bl generalizing ol with
 | nil=>
   cases ol with
   | nil=>rfl
   | cons o ol=>simp at hl
 | cons b bl ih=>
   cases ol with
   | nil=>simp at hl
   | cons o ol=>
     have hi:=ih ol (by simpa using hl) (fun i hi=>by simpa using hd (i+1) (by simpa using hi)) (fun x hx=>hr x (by simp [hx]))
     have h0:=hd 0
     simp only [List.getD_cons_zero] at h0
     have hro:=hr o (by simp)
     rw [List.zipWith_cons_cons,List.zip_cons_cons,List.flatMap_cons,List.countP_cons,List.countP_cons,List.countP_cons,List.countP_append]
     by_cases ho:o = -1
     · subst ho
       rw [if_pos rfl,KH (a := -1) (by omega)]
       simp
       omega
     · rw [if_neg ho]
       simp only [if_neg ho]
       have hg:YK B s (ZE b o)=YK B s b:=Zd (fun hb e=>by subst e;exact h0 hb rfl)
       rw [← hg]
       generalize ZE b o=g
       by_cases hgp:0<g
       · rw [if_pos hgp,List.countP_cons,List.countP_nil];omega
       · rw [if_neg hgp,KH (a:=g) (by omega)];simp;omega
theorem Marked.ext {B:Nat} {S S':PS} {e:Nat} {k j:Nat} (h:Marked B S e S') (hg:Good B S k j) (hk:k≤50) (hj:j≤100000) (he:1≤e∧e≤j+1) (hx:Ext B S):Ext B S':=by
 obtain ⟨D1,us1,lv1,W1,a,D2,us2,W2,bd,od,hA,hE,rfl⟩:=h
 have hmay:PItem.May ⟨3,0,0,e⟩ := .inr (.inr (.inl ⟨rfl,rfl,rfl,he.1,by simp only;omega⟩))
 have hc:=hg.cap.added hk hmay (fun h=>by cases h) hA
 obtain ⟨hs,hl⟩:=hA.ext hg hk hj hx
 obtain ⟨_,_,e3,_⟩:=hc.emitted hE
 have hlsn:=hc.lsn
 have hs2:=hE.segs hs (by omega)
 have hol:=hg.ol
 have hbl:=hg.bl
 have hlen:S.I.bl.length=S.I.ol.length:=by omega
 have hm:=fun s=>LiveOk.small (S:={ S with lv:=lv1 }) hl ⟨hg.cap,hg.now,hg.many,hg.flt,hg.flen,hg.b1,hg.b64,hg.bl,hg.ol,hg.brefs,hg.orefs,hg.seq,hg.epoch,hg.done⟩ s
 obtain ⟨l1,l2⟩:=Ve (B:=B) (a:=0) (zs:=Zr S.I.bl S.I.ol S.I.ol.length) hl.len hm (by omega)
 refine ⟨by simp only;rw [e3];exact hs2,⟨l1,fun s hs=>?_,fun i hi=>?_⟩,hx.slot,hx.lie0,hx.lie1⟩
 · rw [l2 s hs,hl.live s hs]
   unfold VX
   simp only
   have hc:=JBE B s S.I.bl S.I.ol hlen hl.diff (fun x hx=>by
    rcases hg.orefs x hx with rfl | rfl | ⟨h,_⟩ <;> omega)
   rw [Jk hlen,KN,KH (a:=((0:Nat):Int)) (by omega)]
   unfold Zr
   rw [List.take_of_length_le (by simp;omega),List.countP_replicate,KH (a := -1) (by omega)]
   simp only [Bool.false_eq_true,if_false]
   omega
 · simp only at hi ⊢
   rw [KN,List.getD_eq_getElem?_getD,List.getElem?_replicate] at hi
   split at hi <;> simp at hi
theorem Does.ext {B:Nat} {S S':PS} {o:POp} {k j:Nat} (h:Does B S o S') (ho:Jj B o) (hg:Good B S k j) (hk:k≤50) (hj:j≤100000) (hx:Ext B S):Ext B S':=by
 rcases h with ⟨h1,h2⟩ | ⟨h1,h2⟩ | ⟨h1,h2,h3⟩
 · rcases ho with ⟨_,o1,o2,o3⟩ | ⟨o0,_⟩ | ⟨o0,_⟩
   · exact h2.ext hg hk hj (by omega) hx
   · omega
   · omega
 · rcases ho with ⟨o0,_⟩ | ⟨_,o1,o2,o3⟩ | ⟨o0,_⟩
   · omega
   · exact h2.ext hg hk hj (by omega) hx
   · omega
 · have he:=hg.epoch
   exact h3.ext hg hk hj (by omega) hx
end
section
open Go.RowKit
theorem Does.gen {B:Nat} {S S':PS} {o:POp} (h:Does B S o S'):S'.st.gen=S.st.gen:=by
 rcases h with ⟨_,_,_,_,_,_,_,rfl⟩ | ⟨_,_,_,_,_,_,_,rfl⟩ | ⟨_,_,_,_,_,_,_,_,_,_,_,_,_,_,rfl⟩ <;> rfl
end
end Go.Proofs.YtkonbpfbjiepfaaGreat
