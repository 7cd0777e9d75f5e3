/- Lemmas of the proof, with their conditions. -/
import Derived.Test.YthgphmfipnjllaaGreatV26
namespace Go.Proofs.YthgphmfipnjllaaGreat
set_option linter.unusedSimpArgs false
set_option linter.unusedVariables false
set_option maxHeartbeats 4000000
set_option maxRecDepth 20000
section
open Go.RowKit Go.Shelf
theorem elemItems:ElemN Tryz.prog 207 114 (.agg #[.int .i64 0,.int .i64 0,.int .i64 0,.int .i64 0]) 4 32:=ElemN.of Tryz.underlying207 (by kernel_rfl) rfl (by omega)
theorem QAa (w:World) (base d g t p:Nat) (Fd Ft Fw:List Nat) (B:Nat) (D:PDisk) (us:List (Nat×Nat)) (lv:List Nat) (W:PW) (h:LogIs w base d g t p Fd Ft Fw B D us lv W) (ho:W.Ok) (hoo:W.pos.off≤23) (m:Nat) (hm:m≤1) (spare:Bool) (ha:D.acts≤900000) (hlsn:W.pos.lsn<2147483646)
 (hop:(us.getD W.pos.seg (0,0)).1=1) (hr:KAj us W m spare) :
 Calls Tryz.prog 138 #[.pointer (some ⟨p,0,none⟩),.int .i64 (m:Nat),.bool spare] w fun e w'=>e=.returned (.int .i64 0)∧∃ Fd' Fw' D' us' lv' W',LogIs w' base d g t p Fd' Ft Fw' B D' us' lv' W'∧Roomed B D us lv W m D' us' lv' W'∧Keep (Fd++(Ft++Fw)) w w'∧Grow w Fd Fd'∧Grow w Fw Fw':=by
 by_cases h1:VL W.pos.off (W.items.length+1) (W.blocks.length+m)
 · refine(KAY w base d g t p Fd Ft Fw B D us lv W h ho m hm spare h1).mono ?_
   rintro e w' ⟨rfl,hk⟩
   exact⟨rfl,Fd,Fw,D,us,lv,W,h.keep0 hk,.inl ⟨h1,rfl,rfl,rfl,rfl⟩,hk.zero,Grow.refl _ _,Grow.refl _ _⟩
 · by_cases h2:VL (VU W) 1 m
   · refine(XAX w base d g t p Fd Ft Fw B D us lv W h ho hoo m hm spare (by omega) (by omega) h1 h2).mono ?_
     rintro e w' ⟨rfl,Fd',Fw',D',us',W',h3,h4,h5,h6,h7⟩
     exact⟨rfl,Fd',Fw',D',us',lv,W',h3,.inr (.inl ⟨h1,h2,h4,rfl⟩),h5,h6,h7⟩
   · obtain⟨r1,r2,r3⟩:=hr h1 h2
     refine(ZAV w base d g t p Fd Ft Fw B D us lv W h ho hoo m hm spare ha hlsn h1 h2 hop r1 r2 r3).mono ?_
     rintro e w' ⟨rfl,Fd',Fw',D1,us1,W1,D',us',W',h3,h4,h5,h6,h7,h8⟩
     exact⟨rfl,Fd',Fw',D',us',_,W',h3,.inr (.inr ⟨h1,h2,rfl,D1,us1,W1,h4,h5⟩),h6,h7,h8⟩
theorem Roomed.few {B:Nat} {D D':PDisk} {us us':List (Nat×Nat)} {lv lv':List Nat} {W W':PW} {m:Nat} (h:Roomed B D us lv W m D' us' lv' W') (ho:W.Ok):W'.items.length≤6∧W'.blocks.length≤6:=by
 have h6:W.blocks.length≤6:=by rw[ho.many];exact Nat.le_trans (VH _) ho.few
 rcases h with⟨_,_,_,_,rfl⟩ | ⟨_,_,hE,_⟩ | ⟨_,_,_,D1,us1,W1,hE,hT⟩
 · exact⟨ho.few,h6⟩
 · obtain⟨f1,f2,_⟩:=hE.facts ho
   rw[f1,f2];simp
 · obtain⟨f1,f2,_⟩:=hE.facts ho
   obtain⟨_,_,_,_,_,_,_,_,rfl⟩:=hT
   simp only[f1,f2];simp
theorem JC {w:World} {g:Nat} {t:TypeId} {x0 x1 x2 x3:Value} (h:Blk w g t #[x0,x1,x2,x3]):w.cell? ⟨g,0,none⟩=some x0∧w.cell? ⟨g,1,none⟩=some x1∧w.cell? ⟨g,2,none⟩=some x2∧w.cell? ⟨g,3,none⟩=some x3:=
 ⟨by simpa using h.cell 0,by simpa using h.cell 1,by simpa using h.cell 2,by simpa using h.cell 3⟩
theorem WriterIs.setRows {w w':World} {base p d g t:Nat} {I B I' B':Value} {ls ls':List (Value×List UInt8)} {F:List Nat} {W:PW} (h:WriterIs w base p d g t I B ls F W) (items:List PItem) (blocks:List (List UInt8))
 (hb:Blk w' p 209 #[.pointer (some ⟨d,0,none⟩),.pointer (some ⟨g,0,none⟩),.pointer (some ⟨t,0,none⟩),.int .i64 W.pos.seg,.int .i64 W.pos.off,.int .i64 W.pos.lsn,.int .i64 W.pos.prev,.int .i64 W.pos.mount,I',B'])
 (hi:w'.ownsRow base 114 4 I' items.length (items.flatMap itc)) (hbl:w'.ownsRow base 39 1 B' ls'.length (ls'.map (·.1))) (hq:∀ q∈ls',w'.ownsRow base 5 1 q.1 64 (bys q.2)) (hs:ls'.map (·.2)=blocks) :
 WriterIs w' base p d g t I' B' ls' (p :: (I'.ownBlock.toList++(B'.ownBlock.toList++ls'.flatMap (fun q=>q.1.ownBlock.toList)))) ⟨W.pos,items,blocks⟩:=
 ⟨hb,hi,hbl,hq,hs,rfl,h.base⟩
theorem XAs (w:World) (base d g t p:Nat) (Fd Ft Fw:List Nat) (B:Nat) (D:PDisk) (us:List (Nat×Nat)) (lv:List Nat) (W:PW) (h:LogIs w base d g t p Fd Ft Fw B D us lv W) (ho:W.Ok) (hoo:W.pos.off≤23) (spare:Bool) (ha:D.acts≤900000) (hlsn:W.pos.lsn<2147483646)
 (hop:(us.getD W.pos.seg (0,0)).1=1) (i:PItem) (hi:i.May) (h7:i.k≠7) (hr:KAj us W (ZV i) spare) (A:Option Addr) (c:Nat) (bs:List UInt8) (hb:Rd w A (64*ZV i) (bys bs)) (hA:∀ a,A=some a→a.block∉Fd++(Ft++Fw)) :
 Calls Tryz.prog 56 #[.pointer (some ⟨p,0,none⟩),.agg (itc i).toArray,.slice A (64*ZV i) c,.bool spare] w fun e w'=>∃ a:Nat,e=.returned (.tuple #[.int .i64 (a:Nat),.int .i64 0])∧∃ Fd' Fw' D' us' lv' W',
  LogIs w' base d g t p Fd' Ft Fw' B D' us' lv' W'∧Added B D us lv W i bs D' us' lv' W' a∧Keep (Fd++(Ft++Fw)) w w'∧Grow w Fd Fd'∧Grow w Fw Fw':=by
 obtain⟨k,b,cc,v⟩:=i
 have hbd:=hi.bounds
 simp only at hbd h7
 have hL:=fun W=>Ke ⟨k,b,cc,v⟩ hi W
 have hM:=fun W=>Vi ⟨k,b,cc,v⟩ hi W
 simp only[itc] at hL hM ⊢
 have hBk:=Blk.new w 114 #[.int .i64 k,.int .i64 b,.int .i64 cc,.int .i64 v]
 have hOf:=fun W1 (hk:Keep [] w W1)=>KAK W1 base d Fd D (h.keep0 hk).disk
 have hk7:¬ ((k:Nat):Int)=7:=by omega
 by_cases hl:PItem.loaded ⟨k,b,cc,v⟩=true
 · have hN:ZV ⟨k,b,cc,v⟩=1:=by unfold ZV;rw[if_pos hl]
   rw[hN] at hr
   rw[hN,Nat.mul_one] at hb
   rw[hN,Nat.mul_one]
   rw[hl] at hL
   have hRm:=fun W1 (hk:Keep [] w W1)=>QAa W1 base d g t p Fd Ft Fw B D us lv W (h.keep0 hk) ho hoo 1 (by omega) spare ha hlsn hop hr
   rw[h.off] at hOf
   obtain⟨wA,hwA⟩:∃ wA,wA=w.alloc (.cells #[.int .i64 k,.int .i64 b,.int .i64 cc,.int .i64 v] 114):=⟨_,rfl⟩
   have hkA:Keep [] w wA:=by rw[hwA];exact(Keep.refl _ _).alloc _
   rw[← hwA] at hBk
   have hBl:=hBk.lt
   obtain⟨b0,b1,b2,b3⟩:=JC hBk
   have hpd:∀ {W1},Keep [] w W1→W1.cell? ⟨p,0,none⟩=some (.pointer (some ⟨d,0,none⟩)):=fun hk=>by
    obtain⟨I,Bv,ls,hw⟩:=h.wri
    exact(JD (hw.blk.keep0 hk)).1
   go_enter Tryz.func56,Tryz.ntmps56
   go_wp2_with fail
   rw[← hwA]
   go_wp2_with (first
    | (go_at_call 136
       refine(hL _).mono ?_
       clear hL b0 b1 b2 b3
       rintro e w1 ⟨rfl,hk1⟩
       obtain⟨b0,b1,b2,b3⟩:=JC (hBk.keep0 hk1))
    | (go_at_call 137
       refine(hM _).mono ?_
       clear hM b0 b1 b2 b3
       rintro e w2 ⟨rfl,hk2⟩
       replace hk2:=hk1.trans0 hk2
       have hk2w:=hkA.trans0 hk2
       have hpd2:=hpd hk2w
       obtain⟨b0,b1,b2,b3⟩:=JC (hBk.keep0 hk2))
    | (go_at_call 64
       refine(hOf _ hk2w).mono ?_
       clear hOf
       rintro e w' ⟨rfl,rfl⟩)
    | (go_at_call 138
       refine(hRm _ hk2w).mono ?_
       clear hRm
       rintro e w3 ⟨rfl,Fd3,Fw3,D3,us3,lv3,W3,h3,hR3,hk3,hg3,hgw3⟩))
   have hFlt:∀ x∈Fd++(Ft++Fw),x<w.heap.size:=fun x hx=>by
    simp only[List.mem_append] at hx
    rcases hx with hx | hx | hx
    · exact h.disk.lt x hx
    · exact h.tab.lt x hx
    · exact h.wri.lt x hx
   have hkw3:Keep (Fd++(Ft++Fw)) w w3:=hk2w.zero.trans hk3 (fun x hx=>.inl hx)
   have hBk3:=(hBk.keep0 hk2).keep hk3 (fun hm=>Nat.lt_irrefl _ (hFlt _ hm))
   have hb3:Rd w3 A 64 (bys bs):=hb.keepIf hkw3 hA
   obtain⟨I3,Bv3,ls3,hw3⟩:=h3.wri
   have hfew:=hR3.few ho
   obtain⟨IA,ic,hI3,_⟩:=QB hw3.its
   obtain⟨BA,bc,hB3,_⟩:=QB hw3.bls
   have hblk3:=hw3.blk
   have hlen3:=ZB hw3.len
   have hbls3:=hw3.bls
   rw[hI3,hB3] at hblk3
   rw[hB3] at hbls3
   have hC:=XR A 64 c bs w3.drew hb3.drew (by omega)
   clear b0 b1 b2 b3 hpd2
   obtain⟨c0,c1,c2,c3,c4,c5,c6,c7,c8,c9⟩:=JD hblk3.drew
   refine ZT (fun w'=>w'.cell? ⟨p,9,none⟩=some (.slice BA ls3.length bc)) 9 [[0,1,2,3,4,5],[6],[7],[8]] c9 ?_
   simp only[PI]
   iterate 6 (refine ZH ?_;simp only[Act.put,PU])
   refine XB (by rfl) (fun K hK=>?_)
   go_wp2_with (refine hC.mono ?_;clear hC;rintro e w4 ⟨u,rfl,hu,hk4,_⟩)
   have hkB:Keep [] w3 w4:=(Keep.refl _ _).drew.trans0 hk4
   obtain⟨UA,uc,rfl,_⟩:=QB hu
   clear c0 c1 c2 c3 c4 c5 c6 c7 c8 c9
   obtain⟨c0,c1,c2,c3,c4,c5,c6,c7,c8,c9⟩:=JD (hblk3.keep0 hkB)
   refine hK _ _ (c9) ?_
   clear hK K
   try simp only[Act.put,PU]
   refine XB (by rfl) (fun K hK=>?_)
   go_wp2_with fail
   have hl6:ls3.length≤6:=by rw[QA hlen3];exact hfew.2
   have hl6:ls3.length≤6:=by rw[QA hlen3];exact hfew.2
   have hl6:ls3.length≤6:=by rw[QA hlen3];exact hfew.2
   have hrd4:=KO w4 (Value.slice UA 64 uc) 39
   have hkC:Keep [] w3 (w4.alloc (.cells #[Value.slice UA 64 uc] 39)):=hkB.alloc _
   have hu4:=YD hu (.cells #[Value.slice UA 64 uc] 39)
   generalize hgw4:w4.alloc (.cells #[Value.slice UA 64 uc] 39)=w5 at *
   generalize hgn4:w4.heap.size=n4 at *
   clear c0 c1 c2 c3 c4 c5 c6 c7 c8 c9
   obtain⟨c0,c1,c2,c3,c4,c5,c6,c7,c8,c9⟩:=JD (hblk3.keep0 hkC)
   refine hK _ _ (c9) ?_
   clear hK K
   try simp only[Act.put,PU]
   refine XB (by rfl) (fun K hK=>?_)
   refine elemRows.wp1_app (.tmp 53) (.tmp 56) (by rfl) base (.slice BA ls3.length bc) ls3.length (ls3.map (·.1)) (by rfl) (ZA hbls3 hkC) (some ⟨n4,0,none⟩) 1 1 [Value.slice UA 64 uc] (by rfl) hrd4 (by simp[Value.oneCell']) (by omega) (by omega) (Nat.le_trans h3.le hkC.size) ?_
   intro Bv6 w6 hB6 hk6 hbB6 _
   rw[← hB3] at hk6 hbB6
   have hpB:p∉Bv3.ownBlock.toList:=hw3.pB
   have hblk6:=(hblk3.keep0 hkC).keep hk6 hpB
   clear c0 c1 c2 c3 c4 c5 c6 c7 c8 c9
   obtain⟨c0,c1,c2,c3,c4,c5,c6,c7,c8,c9⟩:=JD hblk6
   refine hK _ _ (c9) ?_
   clear hK K
   try simp only[Act.put,PU]
   refine JB ?_
   have f9:=hblk6.frozen 9
   obtain⟨BA6,bc6,rfl,_⟩:=QB hB6
   go_wp2_with fail
   have hbz:=hblk6.set 9 (.slice BA6 (ls3.length+1) bc6)
   have hkp6:Keep [p] w6 (w6.setCell ⟨p,9,none⟩ (.slice BA6 (ls3.length+1) bc6)):=(Keep.refl _ _).setCell (p:=⟨p,9,none⟩) (.inl (by simp)) _
   have hpn:∀ g∈(Value.slice BA6 (ls3.length+1) bc6).ownBlock.toList,g∉[p]:=fun g hg hm=>by
    simp at hm;subst hm
    rcases hbB6 with e | e
    · rw[e] at hg;exact hpB hg
    · rw[e] at hg;simp at hg;subst hg;have:=hblk3.lt;have:=hkC.size;omega
   have hB7:=KA hB6 hkp6 (fun g hg=>hpn g (by simpa using hg))
   have hst:∀ {q:Value} {n:Nat} {ys:List Value},w3.ownsRow base 5 1 q n ys→p∉q.ownBlock.toList→(w6.setCell ⟨p,9,none⟩ (.slice BA6 (ls3.length+1) bc6)).ownsRow base 5 1 q n ys:=fun hq hp=>
    KA (KA (ZA hq hkC) hk6 (fun x hx hm=>own_ne hq hw3.bls (by decide) hx (by simpa using hm))) hkp6 (fun x hx hm=>by simp at hm;subst hm;exact hp (by simpa using hx))
   have hI7:=KA (KA (ZA hw3.its hkC) hk6 (fun x hx hm=>own_ne hw3.its hw3.bls (by decide) hx (by simpa using hm))) hkp6 (fun x hx hm=>by simp at hm;subst hm;exact hw3.pI (by simpa using hx))
   have hBx7:=((hBk3.keep0 hkC).keep hk6 (fun hm=>own_blk_ne (ZA hw3.bls hkC) (hBk3.keep0 hkC) (by decide) (by simpa using hm))).keep hkp6 (fun hm=>by simp at hm;have:=hblk3.lt;exact Blk.ne_ hblk3 hBk3 (by decide) hm.symm)
   have hu7:=KA (KA (VC hu4 (show base≤w3.drew.heap.size from h3.le)) hk6 (fun x hx hm=>own_ne hu4 (ZA hw3.bls hkC) (by decide) hx (by simpa using hm))) hkp6 (fun x hx hm=>by
    simp at hm;rw[hm] at hx
    have h1:=(own_mem hu (g:=p) (by simpa using hx)).1
    have h2:=hblk3.lt
    have:w3.drew.heap.size=w3.heap.size:=rfl
    omega)
   simp at hbz
   have hkF7:Keep Fw3 w3 (w6.setCell ⟨p,9,none⟩ (.slice BA6 (ls3.length+1) bc6)):=(hkC.zero.trans (hk6.sub (m:=Fw3) (fun x hx=>hw3.inB x hx)) (fun x hx=>.inl hx)).trans (hkp6.sub (m:=Fw3) (fun x hx=>by simp at hx;subst hx;exact hw3.inP)) (fun x hx=>.inl hx)
   have hgB7:∀ g∈(Value.slice BA6 (ls3.length+1) bc6).ownBlock.toList,g∈Fw3∨w3.heap.size≤g:=fun g hg=>by
    rcases hbB6 with e | e
    · rw[e] at hg;exact .inl (hw3.inB g hg)
    · rw[e] at hg;simp at hg;subst hg;exact .inr hkC.size
   have hdat7:∀ q∈ls3++[((Value.slice UA 64 uc),bs)],(w6.setCell ⟨p,9,none⟩ (.slice BA6 (ls3.length+1) bc6)).ownsRow base 5 1 q.1 64 (bys q.2):=fun q hq=>by
    rcases List.mem_append.1 hq with hq | hq
    · exact hst (hw3.dat q hq) (hw3.pQ hq)
    · simp at hq;subst hq;exact hu7
   have hgU7:∀ g∈(Value.slice UA 64 uc).ownBlock.toList,w3.heap.size≤g:=fun g hg=>(own_mem hu hg).1
   generalize w6.setCell ⟨p,9,none⟩ (.slice BA6 (ls3.length+1) bc6)=w7 at *
   have hge7:=h3.geom.keep hkF7 h3.gw
   have hps:=h3.pos
   obtain⟨pseg,hpseg⟩:∃ n,n=W3.pos.seg:=⟨_,rfl⟩
   obtain⟨poff,hpoff⟩:∃ n,n=W3.pos.off:=⟨_,rfl⟩
   have hFi:=XAf w7.drew p g B _ hbz.drew (by simp) pseg poff (by rw[hpseg];exact hps.1) (by rw[hpoff];have:=hps.2.1;omega) (by simp[hpseg]) (by simp[hpoff]) (hge7.keep0 (Keep.refl _ _).drew)
   have hpg:=(KC h3.geom.pos h3.geom.few).2
   have hps1:pseg≤7:=by rw[hpseg];exact hps.1
   have hbh:KB poff 0≤30:=by have:=hps.2.1;unfold KB;omega
   obtain⟨fs,hfs⟩:∃ n,n=6+4*pgs B+24*pseg+KB poff 0:=⟨_,rfl⟩
   rw[← hfs] at hFi
   have hfsb:fs≤400:=by omega
   have hra:IntKind.i64.wrap (((fs:Nat):Int)+(((ls3.length:Nat):Int)+1)-1)=((fs+ls3.length:Nat):Int):=by rw[IntKind.wrap_i64];omega
   have HFS:=ZB hfs
   have HPS:=ZB hpseg
   have HPO:=ZB hpoff
   clear hfs hpseg hpoff hps
   clear c0 c1 c2 c3 c4 c5 c6 c7 c8 c9
   obtain⟨c0,c1,c2,c3,c4,c5,c6,c7,c8,c9⟩:=JD hbz.drew
   refine ZT (fun w'=>w'.cell? ⟨p,9,none⟩=some (.slice BA6 (ls3.length+1) bc6)) 7 [[0,2,3,4,5,6],[1]] c9 ?_
   simp only[PI]
   iterate 6 (refine ZH ?_;simp only[Act.put,PU])
   refine XB (by rfl) (fun K hK=>?_)
   go_wp2_with (refine hFi.mono ?_;clear hFi;rintro e w8 ⟨rfl,hk8⟩)
   have hkD:Keep [] w7 w8:=(Keep.refl _ _).drew.trans0 hk8
   clear c0 c1 c2 c3 c4 c5 c6 c7 c8 c9
   obtain⟨c0,c1,c2,c3,c4,c5,c6,c7,c8,c9⟩:=JD (hbz.keep0 hkD)
   refine hK _ _ (c9) ?_
   clear hK K
   try simp only[Act.put,PU]
   refine JB ?_
   go_wp2_with fail
   clear c0 c1 c2 c3 c4 c5 c6 c7 c8 c9
   have hbz8:=hbz.keep0 hkD
   have hI8:=ZA hI7 hkD
   have hBx8:=hBx7.keep0 hkD
   have hFlt3:∀ x∈Fw3,x≠w.heap.size:=fun x hx e=>by
    rcases hgw3 x hx with h' | h'
    · have:=hFlt x (by simp[h']);omega
    · have:=hk2w.size;have:=hkA.size;rw[hwA] at this;simp at this;have:wA.heap.size=w.heap.size+1:=by rw[hwA];simp
      have:=hk2.size;omega
   have hbaseX:base≤w8.heap.size:=Nat.le_trans h3.le (Nat.le_trans hkF7.size hkD.size)
   have hi6:W3.items.length≤6:=hfew.1
   rw[hI3] at hI8
   obtain⟨c0,c1,c2,c3,c4,c5,c6,c7,c8,c9⟩:=JD hbz8.drew
   obtain⟨b0,b1,b2,b3⟩:=JC hBx8.drew
   refine ZT (fun w'=>w'.cell? ⟨p,8,none⟩=some (.slice IA W3.items.length ic)∧w'.cell? ⟨w.heap.size,0,none⟩=some (.int .i64 k)∧w'.cell? ⟨w.heap.size,1,none⟩=some (.int .i64 b)∧w'.cell? ⟨w.heap.size,2,none⟩=some (.int .i64 cc)∧w'.cell? ⟨w.heap.size,3,none⟩=some (.int .i64 v)) 8 [[0,1,2,3,4,5],[6],[7]] ⟨c8,b0,b1,b2,b3⟩ ?_
   simp only[PI]
   iterate 6 (refine ZH ?_;simp only[Act.put,PU])
   refine XB (by rfl) (fun K hK=>?_)
   go_wp2_with fail
   have hrdI:=Rd.of_blk (n:=4) (Blk.new w8 114 #[.int .i64 k,.int .i64 b,.int .i64 cc,.int .i64 v]).drew (by simp)
   rw[List.take_of_length_le (by simp)] at hrdI
   have hkE:Keep [] w8 (w8.alloc (.cells #[.int .i64 k,.int .i64 b,.int .i64 cc,.int .i64 v] 114)).drew:=((Keep.refl _ _).alloc _).drew
   clear c0 c1 c2 c3 c4 c5 c6 c7 c8 c9 b0 b1 b2 b3
   generalize (w8.alloc (.cells #[.int .i64 k,.int .i64 b,.int .i64 cc,.int .i64 v] 114)).drew=w9 at *
   obtain⟨c0,c1,c2,c3,c4,c5,c6,c7,c8,c9⟩:=JD (hbz8.keep0 hkE)
   obtain⟨b0,b1,b2,b3⟩:=JC (hBx8.keep0 hkE)
   refine hK _ _ (⟨c8,b0,b1,b2,b3⟩) ?_
   clear hK K
   try simp only[Act.put,PU]
   refine XB (by rfl) (fun K hK=>?_)
   refine elemItems.wp1_app (.tmp 73) (.tmp 75) (by rfl) base (.slice IA W3.items.length ic) W3.items.length (W3.items.flatMap itc) (by rfl) (ZA hI8 hkE) ⟨w8.heap.size,0,none⟩ 1 1 [.int .i64 k,.int .i64 b,.int .i64 cc,.int .i64 v] (by rfl) hrdI (fun u hu=>by simp at hu;rcases hu with rfl | rfl | rfl | rfl <;> rfl) (by omega) (by omega) (Nat.le_trans hbaseX hkE.size) ?_
   intro Iv w10 hI10 hk10 hbI10 _
   have hpI:p∉(Value.slice IA W3.items.length ic).ownBlock.toList:=by rw[← hI3];exact hw3.pI
   have hblk10:=(hbz8.keep0 hkE).keep hk10 hpI
   have hNI:w.heap.size∉(Value.slice IA W3.items.length ic).ownBlock.toList:=fun hm=>hFlt3 _ (hw3.inI _ (by rw[hI3];exact hm)) rfl
   have hBx10:=(hBx8.keep0 hkE).keep hk10 hNI
   clear c0 c1 c2 c3 c4 c5 c6 c7 c8 c9 b0 b1 b2 b3
   obtain⟨c0,c1,c2,c3,c4,c5,c6,c7,c8,c9⟩:=JD hblk10
   obtain⟨b0,b1,b2,b3⟩:=JC hBx10
   refine hK _ _ (⟨c8,b0,b1,b2,b3⟩) ?_
   clear hK K
   try simp only[Act.put,PU]
   refine JB ?_
   have f8:=hblk10.frozen 8
   obtain⟨IA10,ic10,rfl,_⟩:=QB hI10
   go_wp2_with fail
   go_ret2
   have hbF:=hblk10.set 8 (.slice IA10 (W3.items.length+1) ic10)
   have hkpF:Keep [p] w10 (w10.setCell ⟨p,8,none⟩ (.slice IA10 (W3.items.length+1) ic10)):=(Keep.refl _ _).setCell (p:=⟨p,8,none⟩) (.inl (by simp)) _
   simp at hbF
   have hIF:=KA hI10 hkpF (fun x hx hm=>by
    simp at hm;rw[hm] at hx
    rcases hbI10 with e | e
    · rw[e] at hx;exact hpI (by simpa using hx)
    · rw[e] at hx;simp at hx;have:=hblk10.lt;have:=hbz8.lt;have:=hkE.size;omega)
   rw[show W3.items.flatMap itc++[.int .i64 k,.int .i64 b,.int .i64 cc,.int .i64 v]=(W3.items++[(⟨k,b,cc,v⟩:PItem)]).flatMap itc by simp[itc]] at hIF
   have hkI10:Keep [] w7 w9:=hkD.trans0 hkE
   have hBF:=KA (KA (ZA hB7 hkI10) hk10 (fun x hx hm=>own_ne (ZA hB7 hkI10) (ZA hI8 hkE) (by decide) hx (by simpa using hm))) hkpF (fun x hx hm=>hpn x (by simpa using hx) hm)
   have hlsF:(ls3++[((Value.slice UA 64 uc),bs)]).length=ls3.length+1:=by simp
   have hWF:=hw3.setRows (w':=w10.setCell ⟨p,8,none⟩ (.slice IA10 (W3.items.length+1) ic10)) (I':=.slice IA10 (W3.items.length+1) ic10) (B':=.slice BA6 (ls3.length+1) bc6) (ls':=ls3++[((Value.slice UA 64 uc),bs)]) (W3.items++[⟨k,b,cc,v⟩]) (W3.blocks++[bs])
    hbF (by rw[List.length_append];exact hIF) (by rw[hlsF,List.map_append];exact hBF) (fun q hq=>KA (KA (ZA (hdat7 q hq) hkI10) hk10 (fun x hx hm=>own_ne (ZA (hdat7 q hq) hkI10) (ZA hI8 hkE) (by decide) hx (by simpa using hm))) hkpF (fun x hx hm=>by
     simp at hm;rw[hm] at hx
     rcases List.mem_append.1 hq with hq | hq
     · exact hw3.pQ hq (by simpa using hx)
     · simp at hq;rw[hq] at hx
       have h1:=hgU7 p (by simpa using hx)
       have h2:=hblk3.lt
       omega)) (by simp[hw3.snd])
   have hkF:Keep Fw3 w3 (w10.setCell ⟨p,8,none⟩ (.slice IA10 (W3.items.length+1) ic10)):=((hkF7.trans0 hkI10).trans hk10 (fun x hx=>.inl (hw3.inI x (by rw[hI3];exact hx)))).trans hkpF (fun x hx=>by simp at hx;subst hx;exact .inl hw3.inP)
   have hgF:Grow w3 Fw3 (p :: ((Value.slice IA10 (W3.items.length+1) ic10).ownBlock.toList++((Value.slice BA6 (ls3.length+1) bc6).ownBlock.toList++(ls3++[((Value.slice UA 64 uc),bs)]).flatMap (fun q=>q.1.ownBlock.toList)))):=fun x hx=>by
    simp only[List.mem_cons,List.mem_append,List.mem_flatMap] at hx
    rcases hx with rfl | hx | hx | ⟨q,hq,hx⟩
    · exact .inl hw3.inP
    · rcases hbI10 with e | e
      · rw[e] at hx;exact .inl (hw3.inI x (by rw[hI3];exact hx))
      · rw[e] at hx;simp at hx;subst hx;exact .inr (Nat.le_trans hkF7.size (by have:=hkI10.size;omega))
    · exact hgB7 x hx
    · rcases hq with hq | hq
      · exact .inl (hw3.inQ hq x hx)
      · simp at hq;subst hq;exact .inr (hgU7 x hx)
   have hL:=h3.setWri ⟨_,_,_,hWF⟩ hkF hgF h3.pos
   refine⟨fs+ls3.length,rfl,Fd3,_,D3,us3,lv3,_,hL,⟨W3,by rw[hN];exact hR3,by rw[hl];rfl,?_⟩,hkw3.trans hkF (fun x hx=>(hgw3 x hx).imp (fun h=>by simp[h]) (fun h=>Nat.le_trans hk2w.size h)),hg3.keep hk2w,(hgw3.keep hk2w).trans hkw3.size hgF⟩
   rw[hl,if_pos rfl,← QA hlen3,QA HFS,← QA HPS,← QA HPO]
   rfl
 · have hl':PItem.loaded ⟨k,b,cc,v⟩=false:=by simpa using hl
   have hN:ZV ⟨k,b,cc,v⟩=0:=by unfold ZV;rw[if_neg hl]
   rw[hN] at hr
   rw[hN,Nat.mul_zero] at hb
   rw[hN,Nat.mul_zero]
   rw[hl'] at hL
   have hRm:=fun W1 (hk:Keep [] w W1)=>QAa W1 base d g t p Fd Ft Fw B D us lv W (h.keep0 hk) ho hoo 0 (by omega) spare ha hlsn hop hr
   rw[h.off] at hOf
   obtain⟨wA,hwA⟩:∃ wA,wA=w.alloc (.cells #[.int .i64 k,.int .i64 b,.int .i64 cc,.int .i64 v] 114):=⟨_,rfl⟩
   have hkA:Keep [] w wA:=by rw[hwA];exact(Keep.refl _ _).alloc _
   rw[← hwA] at hBk
   have hBl:=hBk.lt
   obtain⟨b0,b1,b2,b3⟩:=JC hBk
   have hpd:∀ {W1},Keep [] w W1→W1.cell? ⟨p,0,none⟩=some (.pointer (some ⟨d,0,none⟩)):=fun hk=>by
    obtain⟨I,Bv,ls,hw⟩:=h.wri
    exact(JD (hw.blk.keep0 hk)).1
   go_enter Tryz.func56,Tryz.ntmps56
   go_wp2_with fail
   rw[← hwA]
   go_wp2_with (first
    | (go_at_call 136
       refine(hL _).mono ?_
       clear hL b0 b1 b2 b3
       rintro e w1 ⟨rfl,hk1⟩
       obtain⟨b0,b1,b2,b3⟩:=JC (hBk.keep0 hk1))
    | (go_at_call 137
       refine(hM _).mono ?_
       clear hM b0 b1 b2 b3
       rintro e w2 ⟨rfl,hk2⟩
       replace hk2:=hk1.trans0 hk2
       have hk2w:=hkA.trans0 hk2
       have hpd2:=hpd hk2w
       obtain⟨b0,b1,b2,b3⟩:=JC (hBk.keep0 hk2))
    | (go_at_call 64
       refine(hOf _ hk2w).mono ?_
       clear hOf
       rintro e w' ⟨rfl,rfl⟩)
    | (go_at_call 138
       refine(hRm _ hk2w).mono ?_
       clear hRm
       rintro e w3 ⟨rfl,Fd3,Fw3,D3,us3,lv3,W3,h3,hR3,hk3,hg3,hgw3⟩))
   have hFlt:∀ x∈Fd++(Ft++Fw),x<w.heap.size:=fun x hx=>by
    simp only[List.mem_append] at hx
    rcases hx with hx | hx | hx
    · exact h.disk.lt x hx
    · exact h.tab.lt x hx
    · exact h.wri.lt x hx
   have hkw3:Keep (Fd++(Ft++Fw)) w w3:=hk2w.zero.trans hk3 (fun x hx=>.inl hx)
   have hBk3:=(hBk.keep0 hk2).keep hk3 (fun hm=>Nat.lt_irrefl _ (hFlt _ hm))
   obtain⟨I3,Bv3,ls3,hw3⟩:=h3.wri
   have hfew:=hR3.few ho
   obtain⟨IA,ic,hI3,_⟩:=QB hw3.its
   obtain⟨BA,bc,hB3,_⟩:=QB hw3.bls
   have hblk3:=hw3.blk
   have hits3:=hw3.its
   rw[hI3,hB3] at hblk3
   clear b0 b1 b2 b3 hpd2
   have hFlt3:∀ x∈Fw3,x≠w.heap.size:=fun x hx e=>by
    rcases hgw3 x hx with h' | h'
    · have:=hFlt x (by simp[h']);omega
    · have:wA.heap.size=w.heap.size+1:=by rw[hwA];simp
      have:=hk2.size;omega
   have hbaseX:base≤w3.heap.size:=h3.le
   have hi6:W3.items.length≤6:=hfew.1
   rw[hI3] at hits3
   obtain⟨c0,c1,c2,c3,c4,c5,c6,c7,c8,c9⟩:=JD hblk3.drew
   obtain⟨b0,b1,b2,b3⟩:=JC hBk3.drew
   refine ZT (fun w'=>w'.cell? ⟨p,8,none⟩=some (.slice IA W3.items.length ic)∧w'.cell? ⟨w.heap.size,0,none⟩=some (.int .i64 k)∧w'.cell? ⟨w.heap.size,1,none⟩=some (.int .i64 b)∧w'.cell? ⟨w.heap.size,2,none⟩=some (.int .i64 cc)∧w'.cell? ⟨w.heap.size,3,none⟩=some (.int .i64 v)) 8 [[0,1,2,3,4,5],[6],[7]] ⟨c8,b0,b1,b2,b3⟩ ?_
   simp only[PI]
   iterate 6 (refine ZH ?_;simp only[Act.put,PU])
   refine XB (by rfl) (fun K hK=>?_)
   go_wp2_with fail
   have hrdI:=Rd.of_blk (n:=4) (Blk.new w3 114 #[.int .i64 k,.int .i64 b,.int .i64 cc,.int .i64 v]).drew (by simp)
   rw[List.take_of_length_le (by simp)] at hrdI
   have hkE:Keep [] w3 (w3.alloc (.cells #[.int .i64 k,.int .i64 b,.int .i64 cc,.int .i64 v] 114)).drew:=((Keep.refl _ _).alloc _).drew
   clear c0 c1 c2 c3 c4 c5 c6 c7 c8 c9 b0 b1 b2 b3
   generalize (w3.alloc (.cells #[.int .i64 k,.int .i64 b,.int .i64 cc,.int .i64 v] 114)).drew=w9 at *
   obtain⟨c0,c1,c2,c3,c4,c5,c6,c7,c8,c9⟩:=JD (hblk3.keep0 hkE)
   obtain⟨b0,b1,b2,b3⟩:=JC (hBk3.keep0 hkE)
   refine hK _ _ (⟨c8,b0,b1,b2,b3⟩) ?_
   clear hK K
   try simp only[Act.put,PU]
   refine XB (by rfl) (fun K hK=>?_)
   refine elemItems.wp1_app (.tmp 73) (.tmp 75) (by rfl) base (.slice IA W3.items.length ic) W3.items.length (W3.items.flatMap itc) (by rfl) (ZA hits3 hkE) ⟨w3.heap.size,0,none⟩ 1 1 [.int .i64 k,.int .i64 b,.int .i64 cc,.int .i64 v] (by rfl) hrdI (fun u hu=>by simp at hu;rcases hu with rfl | rfl | rfl | rfl <;> rfl) (by omega) (by omega) (Nat.le_trans hbaseX hkE.size) ?_
   intro Iv w10 hI10 hk10 hbI10 _
   have hpI:p∉(Value.slice IA W3.items.length ic).ownBlock.toList:=by rw[← hI3];exact hw3.pI
   have hblk10:=(hblk3.keep0 hkE).keep hk10 hpI
   have hNI:w.heap.size∉(Value.slice IA W3.items.length ic).ownBlock.toList:=fun hm=>hFlt3 _ (hw3.inI _ (by rw[hI3];exact hm)) rfl
   have hBx10:=(hBk3.keep0 hkE).keep hk10 hNI
   clear c0 c1 c2 c3 c4 c5 c6 c7 c8 c9 b0 b1 b2 b3
   obtain⟨c0,c1,c2,c3,c4,c5,c6,c7,c8,c9⟩:=JD hblk10
   obtain⟨b0,b1,b2,b3⟩:=JC hBx10
   refine hK _ _ (⟨c8,b0,b1,b2,b3⟩) ?_
   clear hK K
   try simp only[Act.put,PU]
   refine JB ?_
   have f8:=hblk10.frozen 8
   obtain⟨IA10,ic10,rfl,_⟩:=QB hI10
   go_wp2_with fail
   go_ret2
   have hbF:=hblk10.set 8 (.slice IA10 (W3.items.length+1) ic10)
   have hkpF:Keep [p] w10 (w10.setCell ⟨p,8,none⟩ (.slice IA10 (W3.items.length+1) ic10)):=(Keep.refl _ _).setCell (p:=⟨p,8,none⟩) (.inl (by simp)) _
   simp at hbF
   have hIF:=KA hI10 hkpF (fun x hx hm=>by
    simp at hm;rw[hm] at hx
    rcases hbI10 with e | e
    · rw[e] at hx;exact hpI (by simpa using hx)
    · rw[e] at hx;simp at hx;have:=hblk10.lt;have:=hblk3.lt;have:=hkE.size;omega)
   rw[show W3.items.flatMap itc++[.int .i64 k,.int .i64 b,.int .i64 cc,.int .i64 v]=(W3.items++[(⟨k,b,cc,v⟩:PItem)]).flatMap itc by simp[itc]] at hIF
   have hbls3:=KA (KA (ZA hw3.bls hkE) hk10 (fun x hx hm=>own_ne (ZA hw3.bls hkE) (ZA hits3 hkE) (by decide) hx (by simpa using hm))) hkpF (fun x hx hm=>by simp at hm;rw[hm] at hx;exact hw3.pB (by simpa using hx))
   have hWF:=hw3.setRows (w':=w10.setCell ⟨p,8,none⟩ (.slice IA10 (W3.items.length+1) ic10)) (I':=.slice IA10 (W3.items.length+1) ic10) (B':=.slice BA ls3.length bc) (ls':=ls3) (W3.items++[⟨k,b,cc,v⟩]) W3.blocks
    hbF (by rw[List.length_append];exact hIF) (by rw[← hB3];exact hbls3) (fun q hq=>KA (KA (ZA (hw3.dat q hq) hkE) hk10 (fun x hx hm=>own_ne (ZA (hw3.dat q hq) hkE) (ZA hits3 hkE) (by decide) hx (by simpa using hm))) hkpF (fun x hx hm=>by
     simp at hm;rw[hm] at hx
     exact hw3.pQ hq (by simpa using hx))) hw3.snd
   have hkF:Keep Fw3 w3 (w10.setCell ⟨p,8,none⟩ (.slice IA10 (W3.items.length+1) ic10)):=((hkE.zero).trans hk10 (fun x hx=>.inl (hw3.inI x (by rw[hI3];exact hx)))).trans hkpF (fun x hx=>by simp at hx;subst hx;exact .inl hw3.inP)
   have hgF:Grow w3 Fw3 (p :: ((Value.slice IA10 (W3.items.length+1) ic10).ownBlock.toList++((Value.slice BA ls3.length bc).ownBlock.toList++ls3.flatMap (fun q=>q.1.ownBlock.toList)))):=fun x hx=>by
    simp only[List.mem_cons,List.mem_append,List.mem_flatMap] at hx
    rcases hx with rfl | hx | hx | ⟨q,hq,hx⟩
    · exact .inl hw3.inP
    · rcases hbI10 with e | e
      · rw[e] at hx;exact .inl (hw3.inI x (by rw[hI3];exact hx))
      · rw[e] at hx;simp at hx;subst hx;exact .inr hkE.size
    · exact .inl (hw3.inB x (by rw[hB3];exact hx))
    · exact .inl (hw3.inQ hq x hx)
   have hL:=h3.setWri ⟨_,_,_,hWF⟩ hkF hgF h3.pos
   refine⟨0,rfl,Fd3,_,D3,us3,lv3,_,hL,⟨W3,by rw[hN];exact hR3,by rw[hl'];rfl,by rw[hl'];rfl⟩,hkw3.trans hkF (fun x hx=>(hgw3 x hx).imp (fun h=>by simp[h]) (fun h=>Nat.le_trans hk2w.size h)),hg3.keep hk2w,(hgw3.keep hk2w).trans hkw3.size hgF⟩
end
section
open Go.RowKit
def lenOf:Value→Nat
 | .slice _ n _=>n
 | _=>0
theorem Vj {w:World} {base r a N:Nat} {v:Value} {bs:List UInt8} {ty:TypeId} {cs:Array Value} (j:Nat) (x:Value) (hR:RowAt w base r v bs a) (hB:Blk w N ty cs) (h1:ty≠392) (h2:ty≠5) :
 RowAt (w.setCell ⟨N,j,none⟩ x) base r v bs a∧Blk (w.setCell ⟨N,j,none⟩ x) N ty (cs.setIfInBounds j x)∧Keep [N] w (w.setCell ⟨N,j,none⟩ x):=
 ⟨⟨hR.blk.far (p:=⟨N,j,none⟩) (hR.blk.ne_ hB (Ne.symm h1)) x,own_set hR.own (fun hm=>own_blk_ne hR.own hB (Ne.symm h2) (by simpa using hm)) x,hR.base,hR.le,hR.few⟩,hB.set j x,(Keep.refl [N] _).setCell (p:=⟨N,j,none⟩) (.inl (by simp)) _⟩
theorem KZ {w w':World} {base r a N:Nat} {v:Value} {bs:List UInt8} {ty:TypeId} {cs:Array Value} (hR:RowAt w base r v bs a) (hk:Keep [r] w w') (hB:Blk w N ty cs) (h1:ty≠392):Blk w' N ty cs:=
 hB.keep hk (by simpa using fun e=>(hR.blk.ne_ hB (Ne.symm h1)) e.symm)
theorem XAq (is:List PItem) (k:Nat) (hk:k<is.length):ZL is=fields ((is.take k).flatMap itF++(itF is[k]++(is.drop (k+1)).flatMap itF)):=by
 unfold ZL
 conv=>lhs;rw[← List.take_append_drop k is,List.drop_eq_getElem_cons hk]
 rw[List.flatMap_append,List.flatMap_cons]
theorem KAQ (is:List PItem):widths (is.flatMap itF)=7*is.length:=by
 rw[← length_itemB,ZL,length_fields]
theorem ZAl (A:Option Addr) (n c:Nat) (is:List PItem) (w:World) (ha:Rd w A n (bys (ZL is))) (hm:∀ i∈is,i.May) (h1:1≤is.length) (h6:is.length≤6) :
 Calls Tryz.prog 382 #[.slice A n c] w fun e w'=>∃ g gc,e=.returned (.tuple #[.slice (some ⟨g,0,none⟩) is.length gc,.int .i64 0])∧w'.ownsRow w.heap.size 114 4 (.slice (some ⟨g,0,none⟩) is.length gc) is.length (is.flatMap itc)∧Keep [] w w':=by
 obtain⟨m,hml⟩:∃ m,m=is.length:=⟨_,rfl⟩
 have hn:n=7*m:=by have:=ha.1;simp at this;omega
 have hF:=YU A n c (ZL is) w ha (by omega)
 have hE:=fun W g gc (hr:Rd W (some ⟨g,0,none⟩) (m*4) (is.flatMap itc))=>YAH g m gc is W hr hml.symm hm (by omega)
 rw[← hml]
 have HML:=ZB hml
 have HE:=ZB hE
 have HN:=ZB hn
 have HM:=ZB hm
 have h1m:1≤m:=by omega
 have h6m:m≤6:=by omega
 clear hml hE hn hm h1 h6
 go_enter Tryz.func382,Tryz.ntmps382
 go_wp2_with (refine hF.mono ?_;clear hF;rintro e w1 ⟨r,v,rfl,hR,hk1⟩)
 go_loopw [2] (fun L wr=>∃ k:Nat,k≤m∧lenOf L=k∧wr.ownsRow w.heap.size 114 4 L k ((is.take k).flatMap itc)∧RowAt wr w.heap.size r v (ZL is) (7*k)∧Keep [] w wr) (fun L _=>m-lenOf L)
 case atStart=>exact⟨0,Nat.zero_le _,rfl,World.ownsRow_nil _ _ _ _,hR,hk1⟩
 case round=>
  clear hR hk1
  obtain⟨k,hk,hLk,hO,hR,hkw⟩:=hrel
  obtain⟨VA,vc,rfl,hvc,_⟩:=QB hO
  clear hLk
  have hLt:=Vc wr w.heap.size r (7*k) v (ZL is) hR
  have hll:(ZL is).length=7*m:=by rw[length_itemB,QA HML]
  rw[hll] at hLt
  by_cases hlt:k<m
  · have hkl:k<is.length:=by rw[← QA HML];exact hlt
    have hat:=XAq is k hkl
    have hwl:7*k=widths ((is.take k).flatMap itF):=by rw[KAQ,List.length_take];omega
    have htk:(is.take (k+1)).flatMap itc=(is.take k).flatMap itc++itc is[k]:=by rw[List.take_succ_eq_append_getElem hkl,List.flatMap_append,List.flatMap_singleton]
    have hbd:=(QA HM _ (List.getElem_mem hkl)).bounds
    generalize is[k]=it at *
    obtain⟨ik,ib,ic,iv⟩:=it
    obtain⟨b1,b2,b3,b4⟩:=hbd
    simp only at b1 b2 b3 b4
    generalize (is.take k).flatMap itF=lf at *
    generalize (is.drop (k+1)).flatMap itF=rf at *
    simp only[itF,List.cons_append,List.nil_append] at hat
    obtain⟨bs,hbs⟩:∃ bs,bs=ZL is:=⟨_,rfl⟩
    rw[← hbs] at hat hll hR ⊢
    have hG0:=fun W (h:RowAt W w.heap.size r v bs (7*k+0))=>Kz (k:=1) (n:=ik) (t:=[]) lf ((1,ib) :: (1,ic) :: (4,iv) :: rf) h (by rw[hat];simp) (by rw[hwl];simp[QS,widths]) (by omega) (by omega)
    have hG1:=fun W (h:RowAt W w.heap.size r v bs (7*k+1))=>Kz (k:=1) (n:=ib) (t:=[]) (lf++[(1,ik)]) ((1,ic) :: (4,iv) :: rf) h (by rw[hat];simp) (by rw[hwl];simp[QS,widths]) (by omega) (by omega)
    have hG2:=fun W (h:RowAt W w.heap.size r v bs (7*k+2))=>Kz (k:=1) (n:=ic) (t:=[]) (lf++[(1,ik),(1,ib)]) ((4,iv) :: rf) h (by rw[hat];simp) (by rw[hwl];simp[QS,widths]) (by omega) (by omega)
    have hG3:=fun W (h:RowAt W w.heap.size r v bs (7*k+3))=>Kz (k:=4) (n:=iv) (t:=[]) (lf++[(1,ik),(1,ib),(1,ic)]) (rf) h (by rw[hat];simp) (by rw[hwl];simp[QS,widths]) (by omega) (by omega)
    have HAT:=ZB hat
    have HBS:=ZB hbs
    have HTK:=ZB htk
    have HLL:=ZB hll
    have hkI:((k:Nat):Int)<6:=by omega
    have hpos:(0:Int)<((7*m:Nat):Int)-((7*k:Nat):Int):=by omega
    clear hat hbs htk hll hwl
    have hB1:Blk (wr.drew.alloc (.cells #[.int .i64 0,.int .i64 0,.int .i64 0,.int .i64 0] 114)) wr.heap.size 114 #[.int .i64 0,.int .i64 0,.int .i64 0,.int .i64 0]:=Blk.new wr.drew _ _
    have hkA:Keep [] wr (wr.drew.alloc (.cells #[.int .i64 0,.int .i64 0,.int .i64 0,.int .i64 0] 114)):=(Keep.refl _ _).drew.alloc _
    have hR1:=hR.keep0 hkA
    have hkT1:=hkw.trans0 hkA
    have hNw:w.heap.size≤wr.heap.size:=hkw.size
    go_wp2_with (refine hLt.mono ?_;clear hLt;rintro e w' ⟨rfl,rfl⟩)
    have hkW1:Keep [r] wr (wr.drew.alloc (.cells #[.int .i64 0,.int .i64 0,.int .i64 0,.int .i64 0] 114)):=hkA.zero
    have hT:=hG0 _ hR1
    go_wp2_with (
     (refine hT.mono ?_)
     clear hT
     rintro e w2 ⟨rfl,hRx,hkx⟩
     have hBx:=KZ hR1 hkx hB1 (by decide)
     have q:=hBx.frozen 0
     obtain⟨x0,x1,x2,x3⟩:=ZD hBx
     have hltx:=hBx.lt
     have hz:=Vj 0 (.int .i64 (ik:Nat)) hRx hBx (by decide) (by decide)
     have hR2:=hz.1
     have hB2:Blk (w2.setCell ⟨wr.heap.size,0,none⟩ (.int .i64 (ik:Nat))) wr.heap.size 114 #[.int .i64 (ik:Nat),.int .i64 0,.int .i64 0,.int .i64 0]:=hz.2.1
     have hkW2:=(hkW1.trans hkx (fun x hx=>.inl hx)).trans hz.2.2 (fun x hx=>.inr (by simp at hx;exact Nat.le_of_eq hx.symm))
     clear hz)
    clear q x0 x1 x2 x3 hltx hRx hBx hkx hR1 hB1
    have hT:=hG1 _ hR2
    go_wp2_with (
     (refine hT.mono ?_)
     clear hT
     rintro e w3 ⟨rfl,hRx,hkx⟩
     have hBx:=KZ hR2 hkx hB2 (by decide)
     have q:=hBx.frozen 1
     obtain⟨x0,x1,x2,x3⟩:=ZD hBx
     have hltx:=hBx.lt
     have hz:=Vj 1 (.int .i64 (ib:Nat)) hRx hBx (by decide) (by decide)
     have hR3:=hz.1
     have hB3:Blk (w3.setCell ⟨wr.heap.size,1,none⟩ (.int .i64 (ib:Nat))) wr.heap.size 114 #[.int .i64 (ik:Nat),.int .i64 (ib:Nat),.int .i64 0,.int .i64 0]:=hz.2.1
     have hkW3:=(hkW2.trans hkx (fun x hx=>.inl hx)).trans hz.2.2 (fun x hx=>.inr (by simp at hx;exact Nat.le_of_eq hx.symm))
     clear hz)
    clear q x0 x1 x2 x3 hltx hRx hBx hkx hR2 hB2
    have hT:=hG2 _ hR3
    go_wp2_with (
     (refine hT.mono ?_)
     clear hT
     rintro e w4 ⟨rfl,hRx,hkx⟩
     have hBx:=KZ hR3 hkx hB3 (by decide)
     have q:=hBx.frozen 2
     obtain⟨x0,x1,x2,x3⟩:=ZD hBx
     have hltx:=hBx.lt
     have hz:=Vj 2 (.int .i64 (ic:Nat)) hRx hBx (by decide) (by decide)
     have hR4:=hz.1
     have hB4:Blk (w4.setCell ⟨wr.heap.size,2,none⟩ (.int .i64 (ic:Nat))) wr.heap.size 114 #[.int .i64 (ik:Nat),.int .i64 (ib:Nat),.int .i64 (ic:Nat),.int .i64 0]:=hz.2.1
     have hkW4:=(hkW3.trans hkx (fun x hx=>.inl hx)).trans hz.2.2 (fun x hx=>.inr (by simp at hx;exact Nat.le_of_eq hx.symm))
     clear hz)
    clear q x0 x1 x2 x3 hltx hRx hBx hkx hR3 hB3
    have hT:=hG3 _ hR4
    go_wp2_with (first
     | (refine hT.mono ?_
        clear hT
        rintro e w5 ⟨rfl,hRx,hkx⟩
        have hBx:=KZ hR4 hkx hB4 (by decide)
        have q:=hBx.frozen 3
        obtain⟨x0,x1,x2,x3⟩:=ZD hBx
        have hltx:=hBx.lt
        have hz:=Vj 3 (.int .i64 (iv:Nat)) hRx hBx (by decide) (by decide)
        have hR5:=hz.1
        have hB5:Blk (w5.setCell ⟨wr.heap.size,3,none⟩ (.int .i64 (iv:Nat))) wr.heap.size 114 #[.int .i64 (ik:Nat),.int .i64 (ib:Nat),.int .i64 (ic:Nat),.int .i64 (iv:Nat)]:=hz.2.1
        have hkW5:=(hkW4.trans hkx (fun x hx=>.inl hx)).trans hz.2.2 (fun x hx=>.inr (by simp at hx;exact Nat.le_of_eq hx.symm))
        obtain⟨y0,y1,y2,y3⟩:=ZD hB5
        have hO5:=KA hO hkW5 (fun g hg hm=>by simp at hm;subst hm;exact own_blk_ne hO hR.blk (by decide) hg)
        have hlt5:=hB5.lt
        have hrd:Rd ((w5.setCell ⟨wr.heap.size,3,none⟩ (.int .i64 (iv:Nat))).alloc (.cells #[.int .i64 ik,.int .i64 ib,.int .i64 ic,.int .i64 iv] 114)) (some ⟨w5.heap.size,0,none⟩) (1*4) (itc ⟨ik,ib,ic,iv⟩):=by
         have:=Rd.of_blk (n:=4) (Blk.new (w5.setCell ⟨wr.heap.size,3,none⟩ (.int .i64 (iv:Nat))) 114 #[.int .i64 ik,.int .i64 ib,.int .i64 ic,.int .i64 iv]) (by simp)
         simpa [itc] using this
        have hO6:=ZA hO5 ((Keep.refl [] _).alloc (.cells #[.int .i64 ik,.int .i64 ib,.int .i64 ic,.int .i64 iv] 114))
        have hrw:w.heap.size≤r:=hR.base
        have hkF:Keep [] w (w5.setCell ⟨wr.heap.size,3,none⟩ (.int .i64 (iv:Nat))):=hkw.trans hkW5 (fun x hx=>.inr (by simp at hx;omega)))
     | (at_builtin;refine elemItems.wp_app rfl _ _ rfl w.heap.size _ k _ rfl hO6 ⟨w5.heap.size,0,none⟩ 1 1 (itc ⟨ik,ib,ic,iv⟩) rfl hrd (fun u hu=>by simp only[itc,List.mem_cons,List.not_mem_nil,or_false] at hu;rcases hu with rfl | rfl | rfl | rfl <;> rfl) (by omega) (by omega) (by have:=(hkF.alloc (.cells #[.int .i64 ik,.int .i64 ib,.int .i64 ic,.int .i64 iv] 114)).size;exact this) ?_))
    intro v' w7 hv7 hk7 _ _
    obtain⟨VA',vc',hvv',_⟩:=QB hv7
    subst hvv'
    have hkG:Keep [] w w7:=(hkF.alloc (.cells #[.int .i64 ik,.int .i64 ib,.int .i64 ic,.int .i64 iv] 114)).trans hk7 (fun x hx=>.inr (own_mem hO6 hx).1)
    have hRA:=hR5.keep0 ((Keep.refl [] _).alloc (.cells #[.int .i64 ik,.int .i64 ib,.int .i64 ic,.int .i64 iv] 114))
    have hR7:RowAt w7 w.heap.size r v bs (7*(k+1)):=by
     have h1:RowAt w7 w.heap.size r v bs (7*k+3+4):=⟨hRA.blk.keep hk7 (fun hm=>own_blk_ne hO6 hRA.blk (by decide) (by simpa using hm)),KA hRA.own hk7 (fun g hg hm=>own_ne hRA.own hO6 (by decide) hg (by simpa using hm)),hRA.base,hRA.le,hRA.few⟩
     rwa [show 7*k+3+4=7*(k+1) by omega] at h1
    go_wp2
    go_roundw
    case rel=>exact⟨k+1,by omega,rfl,by rw[QA HTK];exact hv7,hR7,hkG⟩
    case measure=>simp[lenOf];omega
  · clear hll
    obtain rfl:k=m:=by omega
    have htk:(is.take k).flatMap itc=is.flatMap itc:=by rw[List.take_of_length_le (by rw[← QA HML];exact Nat.le_refl _)]
    rw[htk] at hO
    obtain⟨g,gc,hgv,_⟩:=QD hO (by omega)
    simp only[Value.slice.injEq,true_and] at hgv
    obtain⟨rfl,rfl⟩:=hgv
    have hkI:((k:Nat):Int)≤6:=by omega
    have hz:((7*k:Nat):Int)-((7*k:Nat):Int)=0:=by omega
    rw[hz] at hLt
    have hfin:∀ W,Keep [] wr W→Calls Tryz.prog 343 #[.slice (some ⟨g,0,none⟩) k vc] W _:=fun W hW=>(QA HE) W g vc (Rd.of_ownN (ZA hO hW))
    have HF:=ZB hfin
    clear hfin htk
    by_cases h6':k<6
    · have h6I:((k:Nat):Int)<6:=by omega
      clear hkI
      go_wp2_with (first
       | (go_at_call 352;refine hLt.mono ?_;clear hLt;rintro e w' ⟨rfl,rfl⟩)
       | (go_at_call 343
          refine(QA HF _ (Keep.refl _ _).drew).mono ?_
          clear HF
          rintro e w3 ⟨u,rfl,hu,hk3⟩
          obtain⟨UA,uc,rfl,_⟩:=QB hu
          have hEq:=JN UA A (7*k) n uc c (ZL is) (ZL is) w3 (Rd.of_own hu) (ha.keep ((hkw.drew).trans0 hk3))
          rw[decide_eq_true rfl] at hEq)
       | (go_at_call 308;refine hEq.mono ?_;clear hEq;rintro e w' ⟨rfl,rfl⟩))
      go_ret2
      exact⟨g,vc,rfl,ZA (ZA hO (Keep.refl _ _).drew) hk3,hkw.drew.trans0 hk3⟩
    · obtain rfl:k=6:=by omega
      clear hkI hLt
      go_wp2_with (first
       | (go_at_call 343
          refine(QA HF _ (Keep.refl _ _)).mono ?_
          clear HF
          rintro e w3 ⟨u,rfl,hu,hk3⟩
          obtain⟨UA,uc,rfl,_⟩:=QB hu
          have hEq:=JN UA A (7*6) n uc c (ZL is) (ZL is) w3 (Rd.of_own hu) (ha.keep (hkw.trans0 hk3))
          rw[decide_eq_true rfl] at hEq)
       | (go_at_call 308;refine hEq.mono ?_;clear hEq;rintro e w' ⟨rfl,rfl⟩))
      go_ret2
      exact⟨g,vc,rfl,ZA hO hk3,hkw.trans0 hk3⟩
end
end Go.Proofs.YthgphmfipnjllaaGreat
