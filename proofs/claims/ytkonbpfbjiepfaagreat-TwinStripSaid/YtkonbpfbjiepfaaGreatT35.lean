/- Lemmas of the proof, with their conditions. -/
import Derived.Test.YtkonbpfbjiepfaaGreatT34
namespace Go.Proofs.YtkonbpfbjiepfaaGreat
set_option linter.unusedSimpArgs false
set_option linter.unusedVariables false
set_option maxHeartbeats 8000000
set_option maxRecDepth 50000
section
open Go.RowKit
theorem Jo (w:World) (g B:Nat) (hg:GeomAt w g B) (rg:PReg) (h:rg.May) (bz oz:List Nat) (us:List (Nat×Nat)) (hbz:∀ z∈bz,z≤1) (hoz:∀ z∈oz,z≤1) (hbl:bz.length=pgs B) (hol:oz.length=pgs B) (hus:ZN us rg.pos.seg) (A A':Option Addr) (c c':Nat) (ha:Rd w A 128 (bys (QAv rg (pgs B) bz oz us))) (hb:Rd w A' 128 (bys (List.replicate 128 0))) :
 Calls Tryz.prog 292 #[.pointer (some ⟨g,0,none⟩),.slice A 128 c,.slice A' 128 c'] w fun e w'=>∃ BA bc OA oc UA uc,e=.returned (.tuple #[.agg (rg.cs (.slice BA (pgs B) bc) (.slice OA (pgs B) oc) (.slice (some ⟨UA,0,none⟩) 8 uc)).toArray,.int .i64 0,.int .i64 0]) ∧
  w'.ownsRow w.heap.size 3 1 (.slice BA (pgs B) bc) (pgs B) (QH bz)∧w'.ownsRow w.heap.size 3 1 (.slice OA (pgs B) oc) (pgs B) (QH oz)∧w'.ownsRow w.heap.size 212 2 (.slice (some ⟨UA,0,none⟩) 8 uc) 8 (us.flatMap JU)∧Keep [] w w':=by
 have hD:=fun W (hk:Keep [] w W)=>VAx W g B (hg.keep0 hk) rg h bz oz us hbz hoz hbl hol hus A c (ha.keep hk);have hE:=fun W (hk:Keep [] w W)=>KAR W g B (hg.keep0 hk) A' c' (hb.keep hk);obtain⟨gen,view,mode,epoch,seq,done,seg,off,lsn,prev,mount⟩:=rg;simp only[PReg.cs,PPos.cs,List.cons_append,List.nil_append] at *;generalize pgs B=P at *;have hBk:=Blk.new w 177 #[.int .i64 0,.int .i64 0,.int .i64 0,.int .i64 0,.int .i64 0,.int .i64 0,.int .i64 0,.int .i64 0,.int .i64 0,.int .i64 0,.int .i64 0,.slice none 0 0,.slice none 0 0,.slice none 0 0];have hk0:Keep [] w (w.alloc (.cells #[.int .i64 0,.int .i64 0,.int .i64 0,.int .i64 0,.int .i64 0,.int .i64 0,.int .i64 0,.int .i64 0,.int .i64 0,.int .i64 0,.int .i64 0,.slice none 0 0,.slice none 0 0,.slice none 0 0] 177)):=(Keep.refl _ _).alloc _;have hd1:=hD _ hk0;clear hD
 go_enter Tryz.func292,Tryz.ntmps292
 go_wp2_with (
  refine hd1.mono ?_;clear hd1;rintro e w2 ⟨BA,bc,OA,oc,UA,uc,rfl,hu1,hu2,hu3,hk2⟩;have hB2:=hBk.keep0 hk2;have hkw:=hk0.trans0 hk2)
 have hka:=(Keep.refl [] w2).alloc (.cells #[.int .i64 gen,.int .i64 view,.int .i64 mode,.int .i64 epoch,.int .i64 seq,.int .i64 done,.int .i64 seg,.int .i64 off,.int .i64 lsn,.int .i64 prev,.int .i64 mount,.slice BA P bc,.slice OA P oc,.slice (some ⟨UA,0,none⟩) 8 uc] 177);have hX:=Blk.new w2 177 #[.int .i64 gen,.int .i64 view,.int .i64 mode,.int .i64 epoch,.int .i64 seq,.int .i64 done,.int .i64 seg,.int .i64 off,.int .i64 lsn,.int .i64 prev,.int .i64 mount,.slice BA P bc,.slice OA P oc,.slice (some ⟨UA,0,none⟩) 8 uc];replace hu1:=KB (QB hu1 hka) hk0.size;replace hu2:=KB (QB hu2 hka) hk0.size;replace hu3:=KB (QB hu3 hka) hk0.size;replace hkw:=hkw.trans0 hka;replace hB2:=hB2.keep0 hka;have hd2:=hE _ hkw;clear hE hka hk2 hk0 hBk;generalize (w2.alloc (.cells #[.int .i64 gen,.int .i64 view,.int .i64 mode,.int .i64 epoch,.int .i64 seq,.int .i64 done,.int .i64 seg,.int .i64 off,.int .i64 lsn,.int .i64 prev,.int .i64 mount,.slice BA P bc,.slice OA P oc,.slice (some ⟨UA,0,none⟩) 8 uc] 177))=w3 at *;generalize w2.heap.size=NX at *
 go_wp2_with (
  refine hd2.mono ?_;clear hd2;rintro e w4 ⟨rfl,hk4⟩;have hka:=(Keep.refl [] w4).alloc (.cells #[.int .i64 0,.int .i64 0,.int .i64 0,.int .i64 0,.int .i64 0,.int .i64 0,.int .i64 0,.int .i64 0,.int .i64 0,.int .i64 0,.int .i64 0,.slice none 0 0,.slice none 0 0,.slice none 0 0] 177);have hB4:=(hB2.keep0 hk4).keep0 hka;have hX4:=(hX.keep0 hk4).keep0 hka;obtain⟨x0,x1,x2,x3,x4,x5,x6,x7,x8,x9,x10,x11,x12,x13⟩:=YB hX4;obtain⟨z0,z1,z2,z3,z4,z5,z6,z7,z8,z9,z10,z11,z12,z13⟩:=YB hB4;have f0:=hB4.frozen 0;have f1:=hB4.frozen 1;have f2:=hB4.frozen 2;have f3:=hB4.frozen 3;have f4:=hB4.frozen 4;have f5:=hB4.frozen 5;have f6:=hB4.frozen 6;have f7:=hB4.frozen 7;have f8:=hB4.frozen 8;have f9:=hB4.frozen 9;have f10:=hB4.frozen 10;have f11:=hB4.frozen 11;have f12:=hB4.frozen 12;have f13:=hB4.frozen 13;have hltX:=hX4.lt;have hltB:=hB4.lt)
 have hz:=((((((((((((((hB4.set 0 (.int .i64 gen)).set 1 (.int .i64 view)).set 2 (.int .i64 mode)).set 3 (.int .i64 epoch)).set 4 (.int .i64 seq)).set 5 (.int .i64 done)).set 6 (.int .i64 seg)).set 7 (.int .i64 off)).set 8 (.int .i64 lsn)).set 9 (.int .i64 prev)).set 10 (.int .i64 mount)).set 11 (.slice BA P bc)).set 12 (.slice OA P oc)).set 13 (.slice (some ⟨UA,0,none⟩) 8 uc));have hkz:=(((((((((((((((Keep.refl [w.heap.size] (w4.alloc (.cells #[.int .i64 0,.int .i64 0,.int .i64 0,.int .i64 0,.int .i64 0,.int .i64 0,.int .i64 0,.int .i64 0,.int .i64 0,.int .i64 0,.int .i64 0,.slice none 0 0,.slice none 0 0,.slice none 0 0] 177))).setCell (p:=⟨w.heap.size,0,none⟩) (.inl (by simp)) (.int .i64 gen)).setCell (p:=⟨w.heap.size,1,none⟩) (.inl (by simp)) (.int .i64 view)).setCell (p:=⟨w.heap.size,2,none⟩) (.inl (by simp)) (.int .i64 mode)).setCell (p:=⟨w.heap.size,3,none⟩) (.inl (by simp)) (.int .i64 epoch)).setCell (p:=⟨w.heap.size,4,none⟩) (.inl (by simp)) (.int .i64 seq)).setCell (p:=⟨w.heap.size,5,none⟩) (.inl (by simp)) (.int .i64 done)).setCell (p:=⟨w.heap.size,6,none⟩) (.inl (by simp)) (.int .i64 seg)).setCell (p:=⟨w.heap.size,7,none⟩) (.inl (by simp)) (.int .i64 off)).setCell (p:=⟨w.heap.size,8,none⟩) (.inl (by simp)) (.int .i64 lsn)).setCell (p:=⟨w.heap.size,9,none⟩) (.inl (by simp)) (.int .i64 prev)).setCell (p:=⟨w.heap.size,10,none⟩) (.inl (by simp)) (.int .i64 mount)).setCell (p:=⟨w.heap.size,11,none⟩) (.inl (by simp)) (.slice BA P bc)).setCell (p:=⟨w.heap.size,12,none⟩) (.inl (by simp)) (.slice OA P oc)).setCell (p:=⟨w.heap.size,13,none⟩) (.inl (by simp)) (.slice (some ⟨UA,0,none⟩) 8 uc));simp only[List.setIfInBounds_toArray,List.set_cons_zero,List.set_cons_succ] at hz;obtain⟨y0,y1,y2,y3,y4,y5,y6,y7,y8,y9,y10,y11,y12,y13⟩:=YB hz;refine bodyPost_ret (v:=.tuple #[.agg #[.int .i64 gen,.int .i64 view,.int .i64 mode,.int .i64 epoch,.int .i64 seq,.int .i64 done,.int .i64 seg,.int .i64 off,.int .i64 lsn,.int .i64 prev,.int .i64 mount,.slice BA P bc,.slice OA P oc,.slice (some ⟨UA,0,none⟩) 8 uc],.int .i64 0,.int .i64 0]) (by simp[results,Tryz.results292,go_sem,y0,y1,y2,y3,y4,y5,y6,y7,y8,y9,y10,y11,y12,y13]) rfl ?_;have hne:∀ {e:TypeId} {n s:Nat} {V:Value} {xs:List Value},(w4.alloc (.cells #[.int .i64 0,.int .i64 0,.int .i64 0,.int .i64 0,.int .i64 0,.int .i64 0,.int .i64 0,.int .i64 0,.int .i64 0,.int .i64 0,.int .i64 0,.slice none 0 0,.slice none 0 0,.slice none 0 0] 177)).ownsRow w.heap.size e s V n xs→e≠177→∀ x,V.ownBlock=some x→x∉[w.heap.size]:=fun hq he x hx hm=>by simp at hm;subst hm;exact own_blk_ne hq hB4 he hx
 have g1:=QB (QB hu1 hk4) hka;have g2:=QB (QB hu2 hk4) hka;have g3:=QB (QB hu3 hk4) hka;exact⟨BA,bc,OA,oc,UA,uc,rfl,XB g1 hkz (hne g1 (by decide)),XB g2 hkz (hne g2 (by decide)),XB g3 hkz (hne g3 (by decide)),((hkw.trans0 hk4).trans0 hka).trans hkz (fun x hx=>.inr (by simp at hx;omega))⟩
end
section
open Go.RowKit Go.Shelf
section
variable (w:World) (base s d g t p m:Nat) (Fd Ft Fw Fm:List Nat) (L0 L1:Value) (B:Nat) (S:PS) (h:StoreIs w base s d g t p m Fd Ft Fw Fm L0 L1 B S)
include h
theorem ImageS_is:Calls Tryz.prog 15 #[.pointer (some ⟨s,0,none⟩)] w fun e w'=>e=.returned (.pointer (some ⟨m,0,none⟩))∧w=w':=by
 obtain⟨c0,c1,c2,c3,c4,c5,c6,c7,c8,c9,c10,c11,c12,c13,c14,c15,c16,c17⟩:=ZD h.blk
 go_enter Tryz.func15,Tryz.ntmps15
 go_wp2
 go_ret;exact⟨rfl,rfl⟩
theorem DiskS_is:Calls Tryz.prog 60 #[.pointer (some ⟨s,0,none⟩)] w fun e w'=>e=.returned (.pointer (some ⟨d,0,none⟩))∧w=w':=by
 obtain⟨c0,c1,c2,c3,c4,c5,c6,c7,c8,c9,c10,c11,c12,c13,c14,c15,c16,c17⟩:=ZD h.blk
 go_enter Tryz.func60,Tryz.ntmps60
 go_wp2
 go_ret;exact⟨rfl,rfl⟩
theorem BlocksS_is:Calls Tryz.prog 111 #[.pointer (some ⟨m,0,none⟩)] w fun e w'=>e=.returned (.int .i64 (B:Nat))∧w=w':=by
 obtain⟨p1,p2,F1,F2,hi⟩:=h.img;have:=BlocksI_is w base m p1 p2 Fm F1 F2 S.I hi;rw[h.blen] at this;exact this
theorem XAJ (b n:Nat) (hn:1≤n) (hb:b+n≤B):Calls Tryz.prog 52 #[.pointer (some ⟨s,0,none⟩),.int .i64 (b:Nat),.int .i64 (n:Nat)] w fun e w'=>e=.returned (.bool true)∧w=w':=by
 have hI:=ImageS_is w base s d g t p m Fd Ft Fw Fm L0 L1 B S h;have hB:=BlocksS_is w base s d g t p m Fd Ft Fw Fm L0 L1 B S h;have h64:B≤64:=h.log.geom.few;have h1:(1:Int)≤(n:Nat):=by omega
 have h2:((n:Nat):Int)≤(B:Nat):=by omega
 have h3:((b:Nat):Int)≤(B:Nat)-(n:Nat):=by omega
 go_enter Tryz.func52,Tryz.ntmps52
 go_wp2_with (first | (refine hI.mono ?_;clear hI;rintro e w' ⟨rfl,rfl⟩) | (refine hB.mono ?_;clear hB;rintro e w' ⟨rfl,rfl⟩))
 go_ret;exact⟨rfl,rfl⟩
theorem Kr (mode:Nat) (hm:mode=0∨mode=S.st.mode):Calls Tryz.prog 51 #[.pointer (some ⟨s,0,none⟩),.int .i64 (mode:Nat),.bool true] w fun e w'=>e=.returned (.int .i64 0)∧w=w':=by
 obtain⟨c0,c1,c2,c3,c4,c5,c6,c7,c8,c9,c10,c11,c12,c13,c14,c15,c16,c17⟩:=ZD h.blk;have hOf:=KAe w base d Fd S.D h.log.disk;rw[h.log.off] at hOf
 by_cases h0:mode=0
 · subst h0
   go_enter Tryz.func51,Tryz.ntmps51
   go_wp2_with (refine hOf.mono ?_;clear hOf;rintro e w' ⟨rfl,rfl⟩)
   go_ret;exact⟨rfl,rfl⟩
 · obtain rfl:=hm.resolve_left h0
   have h0':¬ ((S.st.mode:Nat):Int)=0:=by omega
   go_enter Tryz.func51,Tryz.ntmps51
   go_wp2_with (refine hOf.mono ?_;clear hOf;rintro e w' ⟨rfl,rfl⟩)
   go_ret;exact⟨rfl,rfl⟩
end
end
section
open Go.RowKit Go.Shelf
theorem KBF {s g:Nat} {Fd Ft Fw Fm:List Nat} {L0 L1:Value} {l:List Nat} (h:∀ x∈l,x=s∨x∈Fd∨x∈Ft∨x∈Fw∨x∈Fm):∀ x∈l,x∈QL s g Fd Ft Fw Fm L0 L1:=fun x hx=>by
 simp only[QL,List.mem_cons,List.mem_append];rcases h x hx with h | h | h | h | h <;> simp[h]
end
section
open Go.RowKit Go.Shelf
end
section
open Go.RowKit Go.Shelf
end
section
open Go.RowKit Go.Shelf
theorem ZS (A:Option Addr) (n c:Nat) (xs:List Int) (w:World) (ha:Rd w A n (VI xs)) (hn:n≤1000000) :
 Calls Tryz.prog 182 #[.slice A n c] w fun e w'=>∃ v,e=.returned v∧w'.ownsRow w.heap.size 3 1 v n (VI xs)∧Keep [] w w':=by
 have heq:=fun(W:World)=>Lib.run_eql_slice_nil (P:=Tryz.prog) W 22 3 A n c 0 0 Tryz.underlying22;rcases A with _ | ad
 · obtain rfl:n=0:=by
    rcases Nat.eq_zero_or_pos n with e | e
    · exact e
    · obtain⟨b,o,h,_⟩:=ha.2 e
      cases h
   obtain rfl:xs=[]:=List.eq_nil_of_length_eq_zero (by simpa using ha.1)
   go_enter Tryz.func182,Tryz.ntmps182
   go_wp2
   go_ret;exact⟨_,rfl,World.ownsRow_nil _ _ _ _,Keep.refl _ _⟩
 · have hr:=ha.keep ((Keep.refl _ w).alloc (.cells #[] 3))
   have ho:(w.alloc (.cells #[] 3)).ownsRow w.heap.size 3 1 (.slice (some ⟨w.heap.size,0,none⟩) 0 0) 0 []:=ZM (Blk.new w 3 #[]) (Nat.le_refl _) (by omega) rfl rfl
   go_enter Tryz.func182,Tryz.ntmps182
   go_wp2_with (at_builtin;refine elemInts.wp_app rfl _ _ rfl w.heap.size _ 0 [] rfl ho (some ad) n c (VI xs) rfl hr (Qs _) (by omega) (by omega) (by simp) ?_)
   intro v' w' hown hk _ _
   go_wp2
   go_ret;exact⟨_,rfl,by simpa using hown,((Keep.refl _ w).alloc _).trans hk (by simp[Value.ownBlock])⟩
theorem ZQ (l:List Nat):QH l=VI (l.map (fun(x:Nat)=>(x:Int))):=by simp[QH,VI,i64]
theorem VAV (w:World) (d t m p g slot P:Nat) (r:PReg) (BA:Option Addr) (bc:Nat) (bz:List Nat) (OA:Option Addr) (oc:Nat) (oz:List Nat) (SA:Option Addr) (sn sc:Nat) (hb:Rd w BA P (QH bz)) (ho:Rd w OA P (QH oz)) (hP:P≤1000) (st:PSt) :
 Calls Tryz.prog 105 #[.pointer (some ⟨d,0,none⟩),.pointer (some ⟨t,0,none⟩),.pointer (some ⟨m,0,none⟩),.pointer (some ⟨p,0,none⟩),.pointer (some ⟨g,0,none⟩),.int .i64 (slot:Nat),
  .agg (r.cs (.slice BA P bc) (.slice OA P oc) (.slice SA sn sc)).toArray,.agg #[.int .i64 st.mode,.int .i64 st.view,.int .i64 st.epoch,.int .i64 st.seq,.int .i64 st.done,.int .i64 st.mount,.int .i64 st.gen,.int .i64 0,.int .i64 0,.int .i64 0]] w
  fun e w'=>∃ s L0 L1,e=.returned (.pointer (some ⟨s,0,none⟩))∧w.heap.size≤s ∧
   Blk w' s 108 #[.pointer (some ⟨d,0,none⟩),.pointer (some ⟨g,0,none⟩),.pointer (some ⟨t,0,none⟩),.pointer (some ⟨m,0,none⟩),.pointer (some ⟨p,0,none⟩),
    .int .i64 st.mode,.int .i64 st.view,.int .i64 st.epoch,.int .i64 st.seq,.int .i64 st.done,.int .i64 st.mount,.int .i64 st.gen,.int .i64 0,.int .i64 0,.int .i64 0,.int .i64 slot,L0,L1] ∧
   w'.ownsRow w.heap.size 3 1 L0 P (QH bz)∧w'.ownsRow w.heap.size 3 1 L1 P (QH oz)∧Keep [] w w':=by
 obtain⟨gen,view,mode,epoch,seq,done,⟨seg,off,lsn,prev,mount⟩⟩:=r;obtain⟨smode,sview,sepoch,sseq,sdone,smount,sgen⟩:=st;simp only[PReg.cs,PPos.cs,List.cons_append,List.nil_append] at *;rw[ZQ] at hb ho;rw[ZQ,ZQ];obtain⟨wA,hwA⟩:∃ wA,wA=(w.alloc (.cells #[.int .i64 gen,.int .i64 view,.int .i64 mode,.int .i64 epoch,.int .i64 seq,.int .i64 done,.int .i64 seg,.int .i64 off,.int .i64 lsn,.int .i64 prev,.int .i64 mount,.slice BA P bc,.slice OA P oc,.slice SA sn sc] 177)).alloc (.cells #[.int .i64 smode,.int .i64 sview,.int .i64 sepoch,.int .i64 sseq,.int .i64 sdone,.int .i64 smount,.int .i64 sgen,.int .i64 0,.int .i64 0,.int .i64 0] 72):=⟨_,rfl⟩;have hkA:Keep [] w wA:=by rw[hwA];exact((Keep.refl _ _).alloc _).alloc _
 have hbR:Blk wA w.heap.size 177 #[.int .i64 gen,.int .i64 view,.int .i64 mode,.int .i64 epoch,.int .i64 seq,.int .i64 done,.int .i64 seg,.int .i64 off,.int .i64 lsn,.int .i64 prev,.int .i64 mount,.slice BA P bc,.slice OA P oc,.slice SA sn sc]:=by
  rw[hwA];exact(Blk.new w _ _).keep0 ((Keep.refl _ _).alloc _)
 have hbS:Blk wA (w.heap.size+1) 72 #[.int .i64 smode,.int .i64 sview,.int .i64 sepoch,.int .i64 sseq,.int .i64 sdone,.int .i64 smount,.int .i64 sgen,.int .i64 0,.int .i64 0,.int .i64 0]:=by
  rw[hwA];have:=Blk.new (w.alloc (.cells #[.int .i64 gen,.int .i64 view,.int .i64 mode,.int .i64 epoch,.int .i64 seq,.int .i64 done,.int .i64 seg,.int .i64 off,.int .i64 lsn,.int .i64 prev,.int .i64 mount,.slice BA P bc,.slice OA P oc,.slice SA sn sc] 177)) 72 #[.int .i64 smode,.int .i64 sview,.int .i64 sepoch,.int .i64 sseq,.int .i64 sdone,.int .i64 smount,.int .i64 sgen,.int .i64 0,.int .i64 0,.int .i64 0];rw[show ∀ o,(w.alloc o).heap.size=w.heap.size+1 from fun o=>by simp] at this;exact this
 go_enter Tryz.func105,Tryz.ntmps105
 go_wp2_with fail
 rw[← hwA];clear hwA;have hC0:=ZS BA P bc _ wA.drew (hb.keep hkA.drew) (by omega);refine ZT (fun w'=>w'.cell? ⟨w.heap.size+1,0,none⟩=some (.int .i64 smode)∧w'.cell? ⟨w.heap.size+1,1,none⟩=some (.int .i64 sview)∧w'.cell? ⟨w.heap.size+1,2,none⟩=some (.int .i64 sepoch)∧w'.cell? ⟨w.heap.size+1,3,none⟩=some (.int .i64 sseq)∧w'.cell? ⟨w.heap.size+1,4,none⟩=some (.int .i64 sdone)∧w'.cell? ⟨w.heap.size+1,5,none⟩=some (.int .i64 smount)∧w'.cell? ⟨w.heap.size+1,6,none⟩=some (.int .i64 sgen)∧w'.cell? ⟨w.heap.size+1,7,none⟩=some (.int .i64 0)∧w'.cell? ⟨w.heap.size+1,8,none⟩=some (.int .i64 0)∧w'.cell? ⟨w.heap.size+1,9,none⟩=some (.int .i64 0)∧w'.cell? ⟨w.heap.size,11,none⟩=some (.slice BA P bc)∧w'.cell? ⟨w.heap.size,12,none⟩=some (.slice OA P oc)) 14 [[0,1,2,3,4,5,6,7,8,10,11],[9],[12,13]] ⟨(by simpa using(hbS.drew).cell 0),(by simpa using(hbS.drew).cell 1),(by simpa using(hbS.drew).cell 2),(by simpa using(hbS.drew).cell 3),(by simpa using(hbS.drew).cell 4),(by simpa using(hbS.drew).cell 5),(by simpa using(hbS.drew).cell 6),(by simpa using(hbS.drew).cell 7),(by simpa using(hbS.drew).cell 8),(by simpa using(hbS.drew).cell 9),(by simpa using(hbR.drew).cell 11),(by simpa using(hbR.drew).cell 12)⟩ ?_;simp only[PI]
 iterate 11 (refine ZH ?_;simp only[Act.put,PU])
 refine ZB (by rfl) (fun K hK=>?_)
 go_wp2_with (refine hC0.mono ?_;clear hC0;rintro e w1 ⟨v1,rfl,hv1,hk1⟩)
 have hkB:Keep [] wA w1:=(Keep.refl _ _).drew.trans0 hk1;have hC1:=ZS OA P oc _ w1 (ho.keep (hkA.trans0 hkB)) (by omega);obtain⟨VA1,vc1,rfl,_⟩:=JB hv1;refine hK _ _ (⟨(by simpa using(hbS.keep0 hkB).cell 0),(by simpa using(hbS.keep0 hkB).cell 1),(by simpa using(hbS.keep0 hkB).cell 2),(by simpa using(hbS.keep0 hkB).cell 3),(by simpa using(hbS.keep0 hkB).cell 4),(by simpa using(hbS.keep0 hkB).cell 5),(by simpa using(hbS.keep0 hkB).cell 6),(by simpa using(hbS.keep0 hkB).cell 7),(by simpa using(hbS.keep0 hkB).cell 8),(by simpa using(hbS.keep0 hkB).cell 9),(by simpa using(hbR.keep0 hkB).cell 11),(by simpa using(hbR.keep0 hkB).cell 12)⟩) ?_;clear hK K
 try simp only[Act.put,PU]
 refine ZB (by rfl) (fun K hK=>?_)
 go_wp2_with (refine hC1.mono ?_;clear hC1;rintro e w2 ⟨v2,rfl,hv2,hk2⟩)
 have hkC:Keep [] wA w2:=hkB.trans0 hk2;obtain⟨VA2,vc2,rfl,_⟩:=JB hv2;refine hK _ _ (⟨(by simpa using(hbS.keep0 hkC).cell 0),(by simpa using(hbS.keep0 hkC).cell 1),(by simpa using(hbS.keep0 hkC).cell 2),(by simpa using(hbS.keep0 hkC).cell 3),(by simpa using(hbS.keep0 hkC).cell 4),(by simpa using(hbS.keep0 hkC).cell 5),(by simpa using(hbS.keep0 hkC).cell 6),(by simpa using(hbS.keep0 hkC).cell 7),(by simpa using(hbS.keep0 hkC).cell 8),(by simpa using(hbS.keep0 hkC).cell 9),(by simpa using(hbR.keep0 hkC).cell 11),(by simpa using(hbR.keep0 hkC).cell 12)⟩) ?_;clear hK K
 try simp only[Act.put,PU]
 iterate 1 (refine ZH ?_;simp only[Act.put,PU])
 refine QC ?_;have hv1':=KB (QB hv1 hk2) (show w.heap.size≤wA.drew.heap.size from hkA.size);have hv2':=KB hv2 (show w.heap.size≤w1.heap.size from Nat.le_trans hkA.size hkB.size)
 go_wp2_with fail
 go_ret;refine⟨_,_,_,rfl,Nat.le_trans hkA.size hkC.size,Blk.new _ _ _,VC hv1' _,VC hv2' _,(hkA.trans0 hkC).alloc _⟩
end
section
open Go.RowKit Go.Shelf
theorem TableAt.rebase {w:World} {b b' t g:Nat} {F:List Nat} {us:List (Nat×Nat)} {lv:List Nat} (h:TableAt w b t g F us lv) (hb:b'≤b):TableAt w b' t g F us lv:=by
 obtain⟨L,V,h⟩:=h;exact⟨L,V,h.blk,KB h.l hb,KB h.live hb,h.foot,Nat.le_trans hb h.base,h.ulen,h.uok,h.lok⟩
theorem WriterAt.rebase {w:World} {b b' p d g t:Nat} {F:List Nat} {W:PW} (h:WriterAt w b p d g t F W) (hb:b'≤b):WriterAt w b' p d g t F W:=by
 obtain⟨I,B,ls,h⟩:=h;exact⟨I,B,ls,h.blk,KB h.its hb,KB h.bls hb,fun q hq=>KB (h.dat q hq) hb,h.snd,h.foot,Nat.le_trans hb h.base⟩
theorem PagedAt.rebase {w:World} {b b' p:Nat} {F:List Nat} {l:List Int} {ds:List Bool} (h:PagedAt w b p F l ds) (hb:b'≤b):PagedAt w b' p F l ds:=by
 obtain⟨L,U,h⟩:=h;exact⟨L,U,h.blk,KB h.rl hb,KB h.rd hb,h.foot,Nat.le_trans hb h.base,h.pos,h.few,h.pages⟩
theorem ImageAt.rebase {w:World} {b b' m:Nat} {F:List Nat} {I:PImage} (h:ImageAt w b m F I) (hb:b'≤b):ImageAt w b' m F I:=by
 obtain⟨p1,p2,F1,F2,h⟩:=h;exact⟨p1,p2,F1,F2,h.blk,h.b.rebase hb,h.o.rebase hb,h.apart,h.m1,h.m2,h.foot,Nat.le_trans hb h.base,h.ok⟩
def PS.fresh (B:Nat) (D:PDisk):PS:=
 ⟨D,(1,0) :: List.replicate 7 (0,0),List.replicate 8 0,⟨⟨0,0,1,0,1⟩,[],[]⟩,⟨List.replicate B 0,List.replicate (pgs B) false,List.replicate B (-1),List.replicate (pgs B) false⟩,⟨1,1,0,0,0,1,1⟩,0,List.replicate (pgs B) 0,List.replicate (pgs B) 0⟩
theorem PS.fresh_good {B n:Nat} {D:PDisk} (h1:1≤B) (h2:B≤64) (hn:n=198+4*pgs B) (hl:D.now.length=D.n*64) (hDn:D.n=n) (ha:D.acts≤200) (hf:D.faults=List.replicate n false):Good B (PS.fresh B D) 0 0:=by
 refine⟨⟨YAL _,rfl,by simp[PS.fresh],by simp[PS.fresh],by simp[PS.fresh],⟨0,0,by omega,by simp[PS.fresh,Yh],by simp[PS.fresh,JD]⟩,by show D.acts≤_;omega,by simp[PS.fresh]⟩,hl,hDn.trans hn,?_,?_,h1,h2,by simp[PS.fresh],by simp[PS.fresh],?_,?_,by simp[PS.fresh],by simp[PS.fresh],by simp[PS.fresh]⟩
 · intro x hx
   simp only[PS.fresh,hf] at hx;exact List.eq_of_mem_replicate hx
 · simp only[PS.fresh,hf,List.length_replicate];exact hDn.symm
 · intro x hx
   simp only[PS.fresh] at hx;exact .inl (List.eq_of_mem_replicate hx)
 · intro x hx
   simp only[PS.fresh] at hx;exact .inl (List.eq_of_mem_replicate hx)
theorem YAn (w:World) (base d n B:Nat) (F:List Nat) (hB1:1≤B) (hB2:B≤64) (hn:n=198+4*pgs B) (h:DiskAt w base d F (PDisk.new n)) (hbase:base≤w.heap.size) :
 Calls Tryz.prog 49 #[.pointer (some ⟨d,0,none⟩),.agg #[.int .i64 B,.int .i64 8,.int .i64 24],.int .i64 1] w fun e w'=>∃ s,e=.returned (.tuple #[.pointer (some ⟨s,0,none⟩),.int .i64 0]) ∧
  ∃ F' D,StoreAt w' base s d F' B (PS.fresh B D)∧Good B (PS.fresh B D) 0 0∧Keep F w w'∧Grow w F F':=by
 have hFm:=KAT (w.alloc (.cells #[.int .i64 B,.int .i64 8,.int .i64 24] 27)) base d n B F hB1 hB2 hn (h.keep0 ((Keep.refl _ _).alloc _)) (by simp;omega);have hG:=fun W=>Xf W B hB1 hB2;have hpb:=YC hB1 hB2;have hbC:=Blk.new w 27 #[.int .i64 B,.int .i64 8,.int .i64 24];have hFlt:=h.lt;have hmayP:PPos.May ⟨0,0,1,0,1⟩:=by simp[PPos.May]
 go_enter Tryz.func49,Tryz.ntmps49
 go_wp2_with (first
  | (go_at_call 100
     refine hFm.mono ?_;clear hFm;rintro e w1 ⟨rfl,F1,D,hd1,hDn,hDo,hDf,hDa,hDl,hk1,hg1⟩;have hbC1:=hbC.keep hk1 (fun hm=>by have:=hFlt _ hm;omega)
     obtain⟨k0,k1,k2⟩:w1.cell? ⟨w.heap.size,0,none⟩=some (.int .i64 B)∧w1.cell? ⟨w.heap.size,1,none⟩=some (.int .i64 8)∧w1.cell? ⟨w.heap.size,2,none⟩=some (.int .i64 24):=⟨by simpa using hbC1.cell 0,by simpa using hbC1.cell 1,by simpa using hbC1.cell 2⟩)
  | (go_at_call 101
     refine(hG _).mono ?_;clear hG;rintro e w2 ⟨g,rfl,hg,hgb,hkc⟩
     have hFi:Calls Tryz.prog 102 #[.pointer (some ⟨g,0,none⟩),.int .i64 1] w2 fun e w'=>∃ SA sc UA uc,e=.returned (.agg #[.int .i64 1,.int .i64 1,.int .i64 1,.int .i64 0,.int .i64 0,.int .i64 0,.int .i64 0,.int .i64 0,.int .i64 1,.int .i64 0,.int .i64 1,.slice SA (pgs B) sc,.slice SA (pgs B) sc,.slice (some ⟨UA,0,none⟩) 8 uc]) ∧
      w'.ownsRow w2.heap.size 3 1 (.slice SA (pgs B) sc) (pgs B) (QH (List.replicate (pgs B) 0))∧w'.ownsRow w2.heap.size 212 2 (.slice (some ⟨UA,0,none⟩) 8 uc) 8 (((1,0) :: List.replicate 7 (0,0)).flatMap JU)∧Keep [] w2 w':=Zv w2 g B hg 1)
  | (go_at_call 102
     refine hFi.mono ?_;clear hFi;rintro e w3 ⟨SA,sc,UA,uc,rfl,hS3,hU3,hk3⟩;have hg3:=hg.keep0 hk3;have hkc3:=hkc.trans0 hk3))
 have hk34:=(Keep.refl [] w3).alloc (.cells #[.int .i64 1,.int .i64 1,.int .i64 1,.int .i64 0,.int .i64 0,.int .i64 0,.int .i64 0,.int .i64 0,.int .i64 1,.int .i64 0,.int .i64 1,.slice SA (pgs B) sc,.slice SA (pgs B) sc,.slice (some ⟨UA,0,none⟩) 8 uc] 177);have hkA:Keep [] w1 (w3.alloc (.cells #[.int .i64 1,.int .i64 1,.int .i64 1,.int .i64 0,.int .i64 0,.int .i64 0,.int .i64 0,.int .i64 0,.int .i64 1,.int .i64 0,.int .i64 1,.slice SA (pgs B) sc,.slice SA (pgs B) sc,.slice (some ⟨UA,0,none⟩) 8 uc] 177)):=hkc3.alloc _;have hbR:=Blk.new w3 177 #[.int .i64 1,.int .i64 1,.int .i64 1,.int .i64 0,.int .i64 0,.int .i64 0,.int .i64 0,.int .i64 0,.int .i64 1,.int .i64 0,.int .i64 1,.slice SA (pgs B) sc,.slice SA (pgs B) sc,.slice (some ⟨UA,0,none⟩) 8 uc];have hS4:=VC hS3 (.cells #[.int .i64 1,.int .i64 1,.int .i64 1,.int .i64 0,.int .i64 0,.int .i64 0,.int .i64 0,.int .i64 0,.int .i64 1,.int .i64 0,.int .i64 1,.slice SA (pgs B) sc,.slice SA (pgs B) sc,.slice (some ⟨UA,0,none⟩) 8 uc] 177);have hU4:=VC hU3 (.cells #[.int .i64 1,.int .i64 1,.int .i64 1,.int .i64 0,.int .i64 0,.int .i64 0,.int .i64 0,.int .i64 0,.int .i64 1,.int .i64 0,.int .i64 1,.slice SA (pgs B) sc,.slice SA (pgs B) sc,.slice (some ⟨UA,0,none⟩) 8 uc] 177);have hg4:=hg3.keep0 ((Keep.refl _ _).alloc (.cells #[.int .i64 1,.int .i64 1,.int .i64 1,.int .i64 0,.int .i64 0,.int .i64 0,.int .i64 0,.int .i64 0,.int .i64 1,.int .i64 0,.int .i64 1,.slice SA (pgs B) sc,.slice SA (pgs B) sc,.slice (some ⟨UA,0,none⟩) 8 uc] 177));have hbC4:=hbC1.keep0 hkA;generalize w3.alloc (.cells #[.int .i64 1,.int .i64 1,.int .i64 1,.int .i64 0,.int .i64 0,.int .i64 0,.int .i64 0,.int .i64 0,.int .i64 1,.int .i64 0,.int .i64 1,.slice SA (pgs B) sc,.slice SA (pgs B) sc,.slice (some ⟨UA,0,none⟩) 8 uc] 177)=w4 at *
 go_wp2_with fail
 have hT:=ZAV w4.drew g B (hg4.keep0 (Keep.refl _ _).drew) UA uc _ (Rd.of_ownN hU4).drew rfl (by decide);refine ZT (fun w'=>w'.cell? ⟨w3.heap.size,13,none⟩=some (.slice (some ⟨UA,0,none⟩) 8 uc)∧w'.cell? ⟨w.heap.size,0,none⟩=some (.int .i64 B)) 6 [[0,1,2,4,5],[3]] ⟨(YB hbR.drew).2.2.2.2.2.2.2.2.2.2.2.2.2,by simpa using hbC4.drew.cell 0⟩ ?_;simp only[PI]
 iterate 5 (refine ZH ?_;simp only[Act.put,PU])
 refine ZB (by rfl) (fun K hK=>?_)
 go_wp2_with (refine hT.mono ?_;clear hT;rintro e w5 ⟨t,Ft,rfl,ht5,hk5⟩)
 have hkB:Keep [] w4 w5:=(Keep.refl _ _).drew.trans0 hk5;refine hK _ _ (⟨(YB (hbR.keep0 hkB)).2.2.2.2.2.2.2.2.2.2.2.2.2,by simpa using(hbC4.keep0 hkB).cell 0⟩) ?_;clear hK K
 try simp only[Act.put,PU]
 refine QC ?_;have hI:=VAY w5 B hB1 hB2;replace hbR:=hbR.keep0 hkB;have hk0:w5.cell? ⟨w3.heap.size,2,none⟩=some (.int .i64 1):=by simpa using hbR.cell 2
 go_wp2_with (go_at_call 104
              refine hI.mono ?_;clear hI;rintro e w6 ⟨m,Fm,rfl,hm6,hk6⟩;replace hbR:=hbR.keep0 hk6;obtain⟨r0,r1,r2,r3,r4,r5,r6,r7,r8,r9,r10,r11,r12,r13⟩:=YB hbR;have hltR:=hbR.lt)
 have hkS:Keep [] w6 (w6.alloc (.cells #[.int .i64 1,.int .i64 1,.int .i64 0,.int .i64 0,.int .i64 0,.int .i64 1,.int .i64 1,.int .i64 0,.int .i64 0,.int .i64 0] 72)):=(Keep.refl _ _).alloc _;have hbS:=Blk.new w6 72 #[.int .i64 1,.int .i64 1,.int .i64 0,.int .i64 0,.int .i64 0,.int .i64 1,.int .i64 1,.int .i64 0,.int .i64 0,.int .i64 0];replace hbR:=hbR.keep0 hkS;clear r0 r1 r2 r3 r4 r5 r6 r7 r8 r9 r10 r11 r12 r13 hk0;generalize w6.alloc (.cells #[.int .i64 1,.int .i64 1,.int .i64 0,.int .i64 0,.int .i64 0,.int .i64 1,.int .i64 1,.int .i64 0,.int .i64 0,.int .i64 0] 72)=w7 at *;have hg7:=((hg4.keep0 hkB).keep0 hk6).keep0 hkS;have hNw:Calls Tryz.prog 106 #[.pointer (some ⟨d,0,none⟩),.pointer (some ⟨g,0,none⟩),.pointer (some ⟨t,0,none⟩),.agg #[.int .i64 0,.int .i64 0,.int .i64 1,.int .i64 0,.int .i64 1]] w7.drew fun e w'=>∃ p F,e=.returned (.pointer (some ⟨p,0,none⟩))∧WriterAt w' w7.drew.heap.size p d g t F ⟨⟨0,0,1,0,1⟩,[],[]⟩∧Keep [] w7.drew w':=JAY w7.drew d g t B (hg7.keep0 (Keep.refl _ _).drew) ⟨0,0,1,0,1⟩ hmayP;refine ZT (fun w'=>w'.cell? ⟨w3.heap.size,0,none⟩=some (.int .i64 1)∧w'.cell? ⟨w3.heap.size,1,none⟩=some (.int .i64 1)∧w'.cell? ⟨w3.heap.size,2,none⟩=some (.int .i64 1)∧w'.cell? ⟨w3.heap.size,3,none⟩=some (.int .i64 0)∧w'.cell? ⟨w3.heap.size,4,none⟩=some (.int .i64 0)∧w'.cell? ⟨w3.heap.size,5,none⟩=some (.int .i64 0)∧w'.cell? ⟨w3.heap.size,6,none⟩=some (.int .i64 0)∧w'.cell? ⟨w3.heap.size,7,none⟩=some (.int .i64 0)∧w'.cell? ⟨w3.heap.size,8,none⟩=some (.int .i64 1)∧w'.cell? ⟨w3.heap.size,9,none⟩=some (.int .i64 0)∧w'.cell? ⟨w3.heap.size,10,none⟩=some (.int .i64 1)∧w'.cell? ⟨w3.heap.size,11,none⟩=some (.slice SA (pgs B) sc)∧w'.cell? ⟨w3.heap.size,12,none⟩=some (.slice SA (pgs B) sc)∧w'.cell? ⟨w3.heap.size,13,none⟩=some (.slice (some ⟨UA,0,none⟩) 8 uc)∧w'.cell? ⟨w6.heap.size,0,none⟩=some (.int .i64 1)∧w'.cell? ⟨w6.heap.size,1,none⟩=some (.int .i64 1)∧w'.cell? ⟨w6.heap.size,2,none⟩=some (.int .i64 0)∧w'.cell? ⟨w6.heap.size,3,none⟩=some (.int .i64 0)∧w'.cell? ⟨w6.heap.size,4,none⟩=some (.int .i64 0)∧w'.cell? ⟨w6.heap.size,5,none⟩=some (.int .i64 1)∧w'.cell? ⟨w6.heap.size,6,none⟩=some (.int .i64 1)∧w'.cell? ⟨w6.heap.size,7,none⟩=some (.int .i64 0)∧w'.cell? ⟨w6.heap.size,8,none⟩=some (.int .i64 0)∧w'.cell? ⟨w6.heap.size,9,none⟩=some (.int .i64 0)) 12 [[0,1,2,3,4,5,6,7,9,10,11],[8]] ⟨(by simpa using(hbR.drew).cell 0),(by simpa using(hbR.drew).cell 1),(by simpa using(hbR.drew).cell 2),(by simpa using(hbR.drew).cell 3),(by simpa using(hbR.drew).cell 4),(by simpa using(hbR.drew).cell 5),(by simpa using(hbR.drew).cell 6),(by simpa using(hbR.drew).cell 7),(by simpa using(hbR.drew).cell 8),(by simpa using(hbR.drew).cell 9),(by simpa using(hbR.drew).cell 10),(by simpa using(hbR.drew).cell 11),(by simpa using(hbR.drew).cell 12),(by simpa using(hbR.drew).cell 13),(by simpa using(hbS.drew).cell 0),(by simpa using(hbS.drew).cell 1),(by simpa using(hbS.drew).cell 2),(by simpa using(hbS.drew).cell 3),(by simpa using(hbS.drew).cell 4),(by simpa using(hbS.drew).cell 5),(by simpa using(hbS.drew).cell 6),(by simpa using(hbS.drew).cell 7),(by simpa using(hbS.drew).cell 8),(by simpa using(hbS.drew).cell 9)⟩ ?_;simp only[PI]
 iterate 11 (refine ZH ?_;simp only[Act.put,PU])
 refine ZB (by rfl) (fun K hK=>?_)
 go_wp2_with (refine hNw.mono ?_;clear hNw;rintro e w8 ⟨p,Fw,rfl,hw8,hk8⟩)
 have hkW:Keep [] w7 w8:=(Keep.refl _ _).drew.trans0 hk8;refine hK _ _ (⟨(by simpa using(hbR.keep0 hkW).cell 0),(by simpa using(hbR.keep0 hkW).cell 1),(by simpa using(hbR.keep0 hkW).cell 2),(by simpa using(hbR.keep0 hkW).cell 3),(by simpa using(hbR.keep0 hkW).cell 4),(by simpa using(hbR.keep0 hkW).cell 5),(by simpa using(hbR.keep0 hkW).cell 6),(by simpa using(hbR.keep0 hkW).cell 7),(by simpa using(hbR.keep0 hkW).cell 8),(by simpa using(hbR.keep0 hkW).cell 9),(by simpa using(hbR.keep0 hkW).cell 10),(by simpa using(hbR.keep0 hkW).cell 11),(by simpa using(hbR.keep0 hkW).cell 12),(by simpa using(hbR.keep0 hkW).cell 13),(by simpa using(hbS.keep0 hkW).cell 0),(by simpa using(hbS.keep0 hkW).cell 1),(by simpa using(hbS.keep0 hkW).cell 2),(by simpa using(hbS.keep0 hkW).cell 3),(by simpa using(hbS.keep0 hkW).cell 4),(by simpa using(hbS.keep0 hkW).cell 5),(by simpa using(hbS.keep0 hkW).cell 6),(by simpa using(hbS.keep0 hkW).cell 7),(by simpa using(hbS.keep0 hkW).cell 8),(by simpa using(hbS.keep0 hkW).cell 9)⟩) ?_;clear hK K
 try simp only[Act.put,PU]
 refine QC ?_;have hkD:Keep [] w4 w8:=(hkB.trans0 hk6).trans0 (hkS.trans0 hkW);have hrS:=(Rd.of_own hS4).keep hkD
 have hMk:Calls Tryz.prog 105 #[.pointer (some ⟨d,0,none⟩),.pointer (some ⟨t,0,none⟩),.pointer (some ⟨m,0,none⟩),.pointer (some ⟨p,0,none⟩),.pointer (some ⟨g,0,none⟩),.int .i64 0,.agg #[.int .i64 1,.int .i64 1,.int .i64 1,.int .i64 0,.int .i64 0,.int .i64 0,.int .i64 0,.int .i64 0,.int .i64 1,.int .i64 0,.int .i64 1,.slice SA (pgs B) sc,.slice SA (pgs B) sc,.slice (some ⟨UA,0,none⟩) 8 uc],.agg #[.int .i64 1,.int .i64 1,.int .i64 0,.int .i64 0,.int .i64 0,.int .i64 1,.int .i64 1,.int .i64 0,.int .i64 0,.int .i64 0]] w8 fun e w'=>∃ s L0 L1,e=.returned (.pointer (some ⟨s,0,none⟩))∧w8.heap.size≤s ∧
  Blk w' s 108 #[.pointer (some ⟨d,0,none⟩),.pointer (some ⟨g,0,none⟩),.pointer (some ⟨t,0,none⟩),.pointer (some ⟨m,0,none⟩),.pointer (some ⟨p,0,none⟩),.int .i64 1,.int .i64 1,.int .i64 0,.int .i64 0,.int .i64 0,.int .i64 1,.int .i64 1,.int .i64 0,.int .i64 0,.int .i64 0,.int .i64 0,L0,L1] ∧
  w'.ownsRow w8.heap.size 3 1 L0 (pgs B) (QH (List.replicate (pgs B) 0))∧w'.ownsRow w8.heap.size 3 1 L1 (pgs B) (QH (List.replicate (pgs B) 0))∧Keep [] w8 w':=
  VAV w8 d t m p g 0 (pgs B) ⟨1,1,1,0,0,0,⟨0,0,1,0,1⟩⟩ SA sc (List.replicate (pgs B) 0) SA sc (List.replicate (pgs B) 0) (some ⟨UA,0,none⟩) 8 uc hrS hrS (by omega) ⟨1,1,0,0,0,1,1⟩
 clear hrS
 go_wp2_with (refine hMk.mono ?_;clear hMk;rintro e w9 ⟨s,L0,L1,rfl,hs9,hb9,hl0,hl1,hk9⟩)
 go_ret2;have z1:=hkc3.size;have z2:=hk6.size;have z3:=hkS.size;have z4:=hkW.size;have z5:=hkB.size;have z6:=hkA.size;have z7:=hk1.size;have z8:=hkc.size;have z9:=hk3.size;have zg:=hg.lt;have zz:w3.heap.size≤w4.heap.size:=hk34.size;simp at z7;have hF1:=hd1.lt;have hFt:=ht5.lt;have hFt':∀ x∈Ft,w4.heap.size≤x:=ht5.ge;have hFm:=hm6.lt;have hFm':∀ x∈Fm,w5.heap.size≤x:=hm6.ge;have hFw:=hw8.lt;have hFw':∀ x∈Fw,w7.heap.size≤x:=hw8.ge;have hk19:Keep [] w1 w9:=(hkA.trans0 hkD).trans0 hk9
 have hL:∀ x∈L0.ownBlock.toList++L1.ownBlock.toList,w8.heap.size≤x∧x≠s:=fun x hx=>by
  rcases List.mem_append.1 hx with hx | hx
  · exact⟨(own_mem hl0 hx).1,fun e=>by subst e;exact own_blk_ne hl0 hb9 (by decide) (by simpa using hx)⟩
  · exact⟨(own_mem hl1 hx).1,fun e=>by subst e;exact own_blk_ne hl1 hb9 (by decide) (by simpa using hx)⟩
 have hlog:LogIs w9 base d g t p F1 Ft Fw B D ((1,0) :: List.replicate 7 (0,0)) (List.replicate 8 0) ⟨⟨0,0,1,0,1⟩,[],[]⟩:=
  ⟨hd1.keep0 hk19,hg.keep0 (((hk3.trans0 hk34).trans0 hkD).trans0 hk9),((ht5.keep0 ((hk6.trans0 (hkS.trans0 hkW)).trans0 hk9)).rebase (by show base≤w4.heap.size;omega)),(hw8.keep0 hk9).rebase (by show base≤w7.heap.size;omega),
    fun x hx hy=>by(have:=hF1 x hx;have:=hFt' x hy;omega),fun x hx hy=>by(have:=hF1 x hx;have:=hFw' x hy;omega),fun x hx hy=>by(have:=hFt x hx;have:=hFw' x hy;omega),fun hy=>by(have:=hF1 g hy;omega),fun hy=>by(have:=hFt' g hy;omega),fun hy=>by(have:=hFw' g hy;omega),
    by simp[PPos.Ok],hDo,hDf,hDn.trans hn,by have:=hk9.size;omega⟩
 have hst:StoreIs w9 base s d g t p m F1 Ft Fw Fm L0 L1 B (PS.fresh B D):=by
  refine⟨hb9,hlog,(hm6.keep0 ((hkS.trans0 hkW).trans0 hk9)).rebase (by omega),by simp[PS.fresh],KB hl0 (by omega),KB hl1 (by omega),by omega,by omega,?_,?_,?_⟩
  · intro x hx hy
    have h1:=hFm x hx;have h2:=hFm' x hx;simp only[List.mem_cons,List.mem_append] at hy;rcases hy with rfl | hy | hy | hy
    · omega
    · have:=hF1 x hy;omega
    · have:=hFt x hy;omega
    · have:=hFw' x hy;omega
  · intro hy
    simp only[List.mem_cons,List.mem_append] at hy;rcases hy with hy | hy | hy | hy | hy
    · omega
    · have:=hF1 s hy;omega
    · have:=hFt s hy;omega
    · have:=hFw s hy;omega
    · have:=hFm s hy;omega
  · intro x hx hy
    obtain⟨h1,h2⟩:=hL x hx;simp only[List.mem_cons,List.mem_append] at hy;rcases hy with hy | hy | hy | hy | hy | hy
    · exact h2 hy
    · omega
    · have:=hF1 x hy;omega
    · have:=hFt x hy;omega
    · have:=hFw x hy;omega
    · have:=hFm x hy;omega
 refine⟨s,rfl,_,D,⟨g,t,p,m,F1,Ft,Fw,Fm,L0,L1,hst,rfl⟩,PS.fresh_good hB1 hB2 hn (by obtain⟨_,_,_,_,hd⟩:=hd1;exact hd.len.1) hDn hDa hDl,?_,?_⟩
 · exact(((Keep.refl [] w).alloc _).zero.trans hk1 (fun x hx=>.inl hx)).trans hk19 (fun x hx=>by cases hx)
 · intro x hx
   simp only[QL,List.mem_cons,List.mem_append] at hx;rcases hx with hx | hx | hx | hx | hx | hx | hx | hx
   · right;omega
   · right;omega
   · rcases hg1 x hx with h | h
     · exact .inl h
     · right;simp at h;omega
   · have:=hFt' x hx;right;omega
   · have:=hFw' x hx;right;omega
   · have:=hFm' x hx;right;omega
   · have:=(hL x (List.mem_append_left _ hx)).1;right;omega
   · have:=(hL x (List.mem_append_right _ hx)).1;right;omega
end
section
open Go.RowKit
def JJ (B s:Nat) (a:Int):Bool:=decide (0<a) && ((a.toNat-(6+4*pgs B)) / 24 == s)
theorem ZAe {B s:Nat} {a:Int} (h:JJ B s a=true):0<a∧(a.toNat-(6+4*pgs B)) / 24=s:=by
 simpa [JJ] using h
theorem XG {B s:Nat} {a:Int} (h:a≤0):JJ B s a=false:=by
 unfold JJ;rw[decide_eq_false (by omega)];rfl
def VU (B:Nat) (I:PImage) (s:Nat):Nat:=I.bl.countP (JJ B s)+I.ol.countP (JJ B s)
structure LiveOk (B:Nat) (lv:List Nat) (I:PImage):Prop where
 len:lv.length=8
 live:∀ s<8,lv.getD s 0=VU B I s
 diff:∀ i,0<I.ol.getD i 0→I.ol.getD i 0≠I.bl.getD i 0
structure Ext (B:Nat) (S:PS):Prop where
 segs:ZN S.us S.W.pos.seg
 liv:LiveOk B S.lv S.I
 slot:S.slot≤1
 lie0:∀ x∈S.lie0,x≤1
 lie1:∀ x∈S.lie1,x≤1
theorem YZ (lv:List Nat) (s:Nat) (z:Int):(YP lv s z).length=lv.length:=by simp[YP]
theorem VAP (lv:List Nat) (s k:Nat) (hl:lv.getD s 0≤1000000) (hs:s<lv.length):(YP lv s 1).getD k 0=lv.getD k 0+if k=s then 1 else 0:=by
 unfold YP;rw[List.getD_eq_getElem?_getD,List.getElem?_set]
 by_cases h:k=s
 · subst h
   rw[if_pos rfl,if_pos hs,if_pos rfl,if_neg (by omega)];simp only[Option.getD_some];omega
 · rw[if_neg (by omega),if_neg h,← List.getD_eq_getElem?_getD];rfl
theorem Jx (lv:List Nat) (s k:Nat) (hk:k<lv.length) (hl:lv.getD s 0≤1000000):(YP lv s (-1)).getD k 0=lv.getD k 0-if s=k then 1 else 0:=by
 unfold YP;rw[List.getD_eq_getElem?_getD,List.getElem?_set]
 by_cases h:s=k
 · subst h
   rw[if_pos rfl,if_pos hk,if_pos rfl,if_neg (by omega)];simp only[Option.getD_some];omega
 · rw[if_neg (by omega),if_neg h,← List.getD_eq_getElem?_getD];rfl
theorem Zy {B:Nat} (zs:List Int) (lv:List Nat) (h8:lv.length=8) (hm:∀ k,lv.getD k 0≤1000000) :
 (zs.foldl (fun lv x=>if 0<x then YP lv ((x.toNat-(6+4*pgs B)) / 24) (-1) else lv) lv).length=8∧∀ k<8,(zs.foldl (fun lv x=>if 0<x then YP lv ((x.toNat-(6+4*pgs B)) / 24) (-1) else lv) lv).getD k 0=lv.getD k 0-zs.countP (JJ B k):=by
 induction zs generalizing lv with
 | nil=>exact⟨h8,fun k hk=>by simp⟩
 | cons z zs ih=>
   simp only[List.foldl_cons]
   by_cases hz:0<z
   · rw[if_pos hz]
     have hd:=Jx lv ((z.toNat-(6+4*pgs B)) / 24)
     obtain⟨i1,i2⟩:=ih (YP lv ((z.toNat-(6+4*pgs B)) / 24) (-1)) (by rw[YZ];exact h8) (fun k=>by
      by_cases hk:k<lv.length
      · rw[hd k hk (hm _)];have:=hm k;omega
      · rw[List.getD_eq_getElem?_getD,List.getElem?_eq_none (by rw[YZ];omega)];simp)
     refine⟨i1,fun k hk=>?_⟩;rw[i2 k hk,hd k (by omega) (hm _),List.countP_cons];unfold JJ;rw[decide_eq_true hz];simp only[Bool.true_and,beq_iff_eq]
     split <;> omega
   · rw[if_neg hz]
     obtain⟨i1,i2⟩:=ih lv h8 hm;refine⟨i1,fun k hk=>?_⟩;rw[i2 k hk,List.countP_cons,XG (by omega)];simp
theorem Xa {B:Nat} {lv:List Nat} {a:Nat} {zs:List Int} (h8:lv.length=8) (hm:∀ k,lv.getD k 0≤1000) (ha:(a-(6+4*pgs B)) / 24<8) :
 (YAC B lv a zs).length=8∧∀ k<8,(YAC B lv a zs).getD k 0=lv.getD k 0+(if JJ B k (a:Nat) then 1 else 0)-zs.countP (JJ B k):=by
 unfold YAC
 by_cases h0:a=0
 · subst h0
   rw[if_pos rfl];obtain⟨i1,i2⟩:=Zy (B:=B) zs lv h8 (fun k=>by have:=hm k;omega);refine⟨i1,fun k hk=>?_⟩;rw[i2 k hk,XG (by omega)];simp
 · rw[if_neg h0]
   have hu:=fun k=>VAP lv ((a-(6+4*pgs B)) / 24) k (by have:=hm ((a-(6+4*pgs B)) / 24);omega) (by omega);obtain⟨i1,i2⟩:=Zy (B:=B) zs (YP lv ((a-(6+4*pgs B)) / 24) 1) (by rw[YZ];exact h8) (fun k=>by rw[hu];have:=hm k;split <;> omega);refine⟨i1,fun k hk=>?_⟩;rw[i2 k hk,hu];unfold JJ;rw[decide_eq_true (by omega)];simp only[Bool.true_and,beq_iff_eq,Int.toNat_natCast]
   congr 2
   by_cases e:k=(a-(6+4*pgs B)) / 24
   · rw[if_pos e,if_pos e.symm]
   · rw[if_neg e,if_neg (fun h=>e h.symm)]
theorem KAm {B:Nat} {S:PS} {k j s:Nat} (hg:Good B S k j) (hs:(S.us.getD s (0,0)).1=0):VU B S.I s=0:=by
 have key:∀ x:Int,x = -1∨RefOk B S x→JJ B s x=false:=by
  intro x hx
  by_cases h:JJ B s x=true
  · obtain⟨h1,h2⟩:=ZAe h
    rcases hx with rfl | rfl | ⟨_,hl⟩
    · omega
    · omega
    · have:=hl.used
      rw[h2] at this;exact absurd hs this
  · simpa using h
 unfold VU;rw[List.countP_eq_zero.2 (fun x hx=>by rw[key x (.inr (hg.brefs x hx))];simp),List.countP_eq_zero.2 (fun x hx=>by rw[key x (hg.orefs x hx)];simp)]
theorem ZAw {B:Nat} {I:PImage} {a:Int} (ha:a∈I.bl∨a∈I.ol) (h0:0<a):0<VU B I ((a.toNat-(6+4*pgs B)) / 24):=by
 have hin:JJ B ((a.toNat-(6+4*pgs B)) / 24) a=true:=by simp[JJ,h0]
 unfold VU;rcases ha with ha | ha
 · have:=List.countP_pos_iff.2 ⟨a,ha,hin⟩;omega
 · have:=List.countP_pos_iff.2 ⟨a,ha,hin⟩;omega
theorem ZAu {B:Nat} {S:PS} {k j:Nat} (hg:Good B S k j) (s:Nat):VU B S.I s≤128:=by
 unfold VU;have h1:=List.countP_le_length (p:=JJ B s) (l:=S.I.bl);have h2:=List.countP_le_length (p:=JJ B s) (l:=S.I.ol);have:=hg.bl;have:=hg.ol;have:=hg.b64;omega
theorem LiveOk.small {B:Nat} {S:PS} {k j:Nat} (h:LiveOk B S.lv S.I) (hg:Good B S k j) (s:Nat):S.lv.getD s 0≤1000:=by
 by_cases hs:s<8
 · rw[h.live s hs];have:=ZAu hg s;omega
 · rw[List.getD_eq_getElem?_getD,List.getElem?_eq_none (by have:=h.len;omega)];simp
theorem YAB {us:List (Nat×Nat)} {s t x:Nat} (h:ZN us s) (hx:x≤2147483647):ZN (KE us t x) s:=by
 obtain⟨h1,h2,h3⟩:=h;unfold KE;refine⟨by simpa using h1,fun u hu=>?_,fun k hk=>?_⟩
 · rcases List.mem_or_eq_of_mem_set hu with hu | rfl
   · exact h2 u hu
   · refine⟨?_,hx⟩
     simp only
     by_cases ht:t<us.length
     · rw[JH ht];exact(h2 _ (List.getElem_mem _)).1
     · rw[List.getD_eq_getElem?_getD,List.getElem?_eq_none (by omega)];simp
 · rw[List.getElem_set]
   split
   · rename_i e
     subst e;simp only[List.length_set] at hk;rw[JH hk];exact h3 t hk
   · exact h3 k (by simpa using hk)
theorem Emitted.segs {B:Nat} {D D':PDisk} {us us':List (Nat×Nat)} {W W':PW} {s:Nat} (hE:Emitted B D us W D' us' W') (h:ZN us s) (hl:W.pos.lsn≤2147483647):ZN us' s:=by
 rcases hE with⟨_,_,rfl,_⟩ | ⟨_,D1,W1,rs,sum,_,_,_,_,rfl,_⟩
 · exact h
 · exact YAB h hl
theorem Added.ext {B:Nat} {S:PS} {D':PDisk} {us':List (Nat×Nat)} {lv':List Nat} {W':PW} {k j a:Nat} {i:PItem} {bs:List UInt8} (hA:Added B S.D S.us S.lv S.W i bs D' us' lv' W' a) (hg:Good B S k j) (hk:k≤50) (hj:j≤100000) (hx:Ext B S) :
 ZN us' W'.pos.seg∧LiveOk B lv' S.I:=by
 obtain⟨W1,hR,rfl,ha⟩:=hA;have hlsn:=hg.cap.lsn;have hm:Yw i≤1:=by unfold Yw;split <;> omega
 rcases hR with⟨hf,rfl,rfl,rfl,rfl⟩ | ⟨hnf,hf,hE,rfl⟩ | ⟨hnf,hf,rfl,D1,us1,W2,hE,hT⟩
 · exact⟨hx.segs,hx.liv⟩
 · refine⟨?_,hx.liv⟩
   have hs:=hE.segs hx.segs (by omega);obtain⟨_,_,e3,_⟩:=hg.cap.emitted hE;simp only;rw[e3];exact hs
 · have hfree:=hg.cap.free hk hm hf
   obtain⟨g1,g2⟩:=KV S.us (by omega);have hul:=hg.cap.ul;have hsg:=hg.cap.seg;have hl:=hx.liv.len;refine⟨?_,⟨by simpa using hl,fun s hs=>?_,hx.liv.diff⟩⟩
   · obtain⟨rs,hd,sum,t1,t2,t3,rfl,rfl,rfl⟩:=hT
     obtain⟨f1,f2,f3,f4,f5,f6,f7,f8,f9,f10,f11,f12⟩:=hE.facts hg.cap.ok;simp only;obtain⟨h1,h2,h3⟩:=hx.segs;have hul1:us1.length=8:=by rcases f10 with rfl | rfl <;> simpa using hul
     have hlsn2:W2.pos.lsn≤S.W.pos.lsn+1:=f6
     have hst:∀ q<8,(us1.getD q (0,0)).1=((XE S.us (QE S.us) 1).getD q (0,0)).1:=by
      intro q hq;rcases f10 with rfl | rfl
      · rfl
      · rw[YI]
     have hne:S.W.pos.seg≠QE S.us:=by
      intro e;have:=hg.cap.opn;rw[e,g2] at this;omega
     have hstp:∀ u∈us1,u.1≤2∧u.2≤2147483647:=by
      have h0:∀ u∈XE S.us (QE S.us) 1,u.1≤2∧u.2≤2147483647:=by
       intro u hu;unfold XE at hu;rcases List.mem_or_eq_of_mem_set hu with hu | rfl
       · exact h2 u hu
       · refine⟨by simp,?_⟩
         simp only;rw[JH g1];exact(h2 _ (List.getElem_mem _)).2
      rcases f10 with rfl | rfl
      · exact h0
      · intro u hu
        unfold KE at hu;rcases List.mem_or_eq_of_mem_set hu with hu | rfl
        · exact h0 u hu
        · refine⟨?_,by simp only;omega⟩
          simp only;rw[JH (by simp[XE];omega)];exact(h0 _ (List.getElem_mem _)).1
     refine⟨by simp[XE,KE];exact hul1,?_,?_⟩
     · intro u hu
       unfold XE at hu;rcases List.mem_or_eq_of_mem_set hu with hu | rfl
       · unfold KE at hu
         rcases List.mem_or_eq_of_mem_set hu with hu | rfl
         · exact hstp u hu
         · refine⟨?_,by simp only;omega⟩
           simp only;rw[JH (by omega)];exact(hstp _ (List.getElem_mem _)).1
       · refine⟨by simp,?_⟩
         simp only;rw[JH (by simp[KE];omega)];unfold KE;rw[List.getElem_set_self];simp only;omega
     · intro q hq
       have hq8:q<8:=by simpa [XE,KE,hul1] using hq
       rw[← JH hq,KG _ _ _ _ (by simp[KE];omega),YI,hst q hq8,KG _ _ _ _ g1];rw[f3]
       by_cases e:q=S.W.pos.seg
       · rw[if_pos e]
         subst e;constructor
         · intro h;omega
         · intro h;exact absurd h hne
       · rw[if_neg e]
         by_cases e2:q=QE S.us
         · rw[if_pos e2];simp[e2]
         · rw[if_neg e2]
           rw[JH (by omega),h3 q (by omega)];constructor
           · intro h;exact absurd h e
           · intro h;exact absurd h e2
   · rw[List.getD_eq_getElem?_getD,List.getElem?_set]
     split
     · rename_i e
       subst e;rw[if_pos (by omega)];exact(KAm hg g2).symm
     · rw[← List.getD_eq_getElem?_getD]
       exact hx.liv.live s hs
theorem Zl {p:Int→Bool} {l:List Int} {i:Nat} {a:Int} (hi:i<l.length):(l.set i a).countP p+(if p l[i] then 1 else 0)=l.countP p+if p a then 1 else 0:=by
 have:=List.countP_set (p:=p) (l:=l) (i:=i) (a:=a) hi
 have h2:(if p l[i] then 1 else 0)≤l.countP p:=by
  split
  · exact List.countP_pos_iff.2 ⟨l[i],List.getElem_mem _,by assumption⟩
  · omega
 omega
theorem Zb {B s:Nat} {x z:Int} (h:0<x→x≠z):JJ B s (VF x z)=JJ B s x:=by
 unfold VF
 by_cases hx:0<x
 · rw[if_neg (h hx),show max x 0=x by omega]
 · rw[XG (a:=x) (by omega)]
   split
   · exact XG (by omega)
   · exact XG (by omega)
theorem Wrote.ext {B:Nat} {S S':PS} {b:Nat} {bs:List UInt8} {k j:Nat} (h:Wrote B S b bs S') (hg:Good B S k j) (hk:k≤50) (hj:j≤100000) (hb:b<B) (hx:Ext B S):Ext B S':=by
 obtain⟨D',us',lv1,W',a,hA,rfl⟩:=h;obtain⟨hs,hl⟩:=hA.ext hg hk hj hx;obtain⟨r1,r2,r3,r4,r5⟩:=hA.reads hg.cap hk hg.now hg.many;obtain⟨ra,rb⟩:=r5 rfl;have ha0:0<a:=by have:=ra.lo;omega
 have ha8:(a-(6+4*pgs B)) / 24<8:=by have:=ra.hi;omega
 have hol:=hg.ol
 have hne:∀ x:Int,x = -1∨RefOk B S x→0<x→x≠(a:Nat):=by
  intro x hx h0;rcases hx with rfl | rfl | ⟨_,hy⟩
  · omega
  · omega
  · have:=(r4 _ hy).2.2 rfl
    omega
 have hm:=fun s=>LiveOk.small (S:={ S with lv:=lv1 }) hl ⟨hg.cap,hg.now,hg.many,hg.flt,hg.flen,hg.b1,hg.b64,hg.bl,hg.ol,hg.brefs,hg.orefs,hg.seq,hg.epoch,hg.done⟩ s;obtain⟨l1,l2⟩:=Xa (B:=B) (zs:=[VF (S.I.ol.getD b 0) a]) hl.len hm ha8;refine⟨hs,⟨l1,fun s hs=>?_,fun i hi=>?_⟩,hx.slot,hx.lie0,hx.lie1⟩
 · rw[l2 s hs,hl.live s hs]
   unfold VU;simp only;have hc:=Zl (p:=JJ B s) (l:=S.I.ol) (i:=b) (a:=(a:Nat)) (by omega);have hbo:S.I.ol.getD b 0=S.I.ol[b]:=Ki (by omega);rw[List.countP_cons,List.countP_nil,hbo,Zb (fun h0=>hne _ (hg.orefs _ (List.getElem_mem _)) h0)]
   have h2:(if JJ B s S.I.ol[b] then 1 else 0)≤S.I.ol.countP (JJ B s):=by
    split
    · exact List.countP_pos_iff.2 ⟨S.I.ol[b],List.getElem_mem _,by assumption⟩
    · omega
   omega
 · simp only at hi ⊢
   rw[List.getD_eq_getElem?_getD,List.getElem?_set] at hi ⊢
   split
   · rename_i e
     subst e;rw[if_pos (by omega)];simp only[Option.getD_some];intro he;have hbl:=hg.bl;rw[Ki (by omega)] at he;exact hne _ (.inr (hg.brefs _ (List.getElem_mem _))) (by rw[← he];omega) he.symm
   · rename_i e
     rw[if_neg e,← List.getD_eq_getElem?_getD] at hi;rw[← List.getD_eq_getElem?_getD];exact hx.liv.diff i hi
theorem XAS (B s b n:Nat) (l:List Int) (ds:List Bool) (hb:b+n≤l.length):(YM b n l ds).2.1.countP (JJ B s)+(YM b n l ds).1.countP (JJ B s)=l.countP (JJ B s):=by
 induction n with
 | zero=>simp[YM]
 | succ n ih=>
   rw[VY];unfold Xc;simp only;have hlen:=(YT b n l ds).1;have hlt:b+n<(YM b n l ds).2.1.length:=by omega
   have hc:=Zl (p:=JJ B s) (a:=0) hlt;rw[List.countP_append,Ki hlt];have hz:JJ B s 0=false:=XG (by omega);rw[hz] at hc
   have h2:(if 0<VF (YM b n l ds).2.1[b+n] 0 then [VF (YM b n l ds).2.1[b+n] 0] else []).countP (JJ B s)=if JJ B s (YM b n l ds).2.1[b+n] then 1 else 0:=by
    rw[← Zb (z:=0) (fun h=>by omega)];generalize VF (YM b n l ds).2.1[b+n] 0=g
    by_cases hg:0<g
    · rw[if_pos hg];simp[List.countP_cons]
    · rw[if_neg hg,XG (by omega)];simp
   have:=ih (by omega);rw[h2];simp at hc;omega
theorem Trimmed.ext {B:Nat} {S S':PS} {b n:Nat} {k j:Nat} (h:Trimmed B S b n S') (hg:Good B S k j) (hk:k≤50) (hj:j≤100000) (hb:b+n≤B) (hx:Ext B S):Ext B S':=by
 obtain⟨D',us',lv1,W',a,hA,rfl⟩:=h;obtain⟨hs,hl⟩:=hA.ext hg hk hj hx;have hol:=hg.ol;have hm:=fun s=>LiveOk.small (S:={ S with lv:=lv1 }) hl ⟨hg.cap,hg.now,hg.many,hg.flt,hg.flen,hg.b1,hg.b64,hg.bl,hg.ol,hg.brefs,hg.orefs,hg.seq,hg.epoch,hg.done⟩ s;obtain⟨l1,l2⟩:=Xa (B:=B) (a:=0) (zs:=(YM b n S.I.ol S.I.od).1) hl.len hm (by omega);refine⟨hs,⟨l1,fun s hs=>?_,fun i hi=>?_⟩,hx.slot,hx.lie0,hx.lie1⟩
 · rw[l2 s hs,hl.live s hs]
   unfold VU;simp only;have hc:=XAS B s b n S.I.ol S.I.od (by omega);rw[XG (a:=((0:Nat):Int)) (by omega)];simp only[Bool.false_eq_true,if_false];omega
 · simp only at hi ⊢
   rw[List.getD_eq_getElem?_getD,Xd] at hi ⊢
   split
   · rename_i e
     rw[if_pos e] at hi;simp at hi
   · rename_i e
     rw[if_neg e,← List.getD_eq_getElem?_getD] at hi;rw[← List.getD_eq_getElem?_getD];exact hx.liv.diff i hi
theorem XAy (B s:Nat) (bl ol:List Int) (hl:bl.length=ol.length) (hd:∀ i,0<ol.getD i 0→ol.getD i 0≠bl.getD i 0) (hr:∀ x∈ol,-1≤x) :
 (List.zipWith (fun b o=>if o = -1 then b else o) bl ol).countP (JJ B s)+((bl.zip ol).flatMap (fun p=>if p.2 = -1 then [] else if 0<VF p.1 p.2 then [VF p.1 p.2] else [])).countP (JJ B s)=bl.countP (JJ B s)+ol.countP (JJ B s):=by
 induction bl generalizing ol with
 | nil=>
   cases ol with
   | nil=>rfl
   | cons o ol=>simp at hl
 | cons b bl ih=>
   cases ol with
   | nil=>simp at hl
   | cons o ol=>
     have hi:=ih ol (by simpa using hl) (fun i hi=>by simpa using hd (i+1) (by simpa using hi)) (fun x hx=>hr x (by simp[hx]));have h0:=hd 0;simp only[List.getD_cons_zero] at h0;have hro:=hr o (by simp);rw[List.zipWith_cons_cons,List.zip_cons_cons,List.flatMap_cons,List.countP_cons,List.countP_cons,List.countP_cons,List.countP_append]
     by_cases ho:o = -1
     · subst ho
       rw[if_pos rfl,XG (a := -1) (by omega)];simp;omega
     · rw[if_neg ho]
       simp only[if_neg ho];have hg:JJ B s (VF b o)=JJ B s b:=Zb (fun hb e=>by subst e;exact h0 hb rfl);rw[← hg];generalize VF b o=g
       by_cases hgp:0<g
       · rw[if_pos hgp,List.countP_cons,List.countP_nil];omega
       · rw[if_neg hgp,XG (a:=g) (by omega)];simp;omega
theorem Marked.ext {B:Nat} {S S':PS} {e:Nat} {k j:Nat} (h:Marked B S e S') (hg:Good B S k j) (hk:k≤50) (hj:j≤100000) (he:1≤e∧e≤j+1) (hx:Ext B S):Ext B S':=by
 obtain⟨D1,us1,lv1,W1,a,D2,us2,W2,bd,od,hA,hE,rfl⟩:=h;have hmay:PItem.May ⟨3,0,0,e⟩:=.inr (.inr (.inl ⟨rfl,rfl,rfl,he.1,by simp only;omega⟩));have hc:=hg.cap.added hk hmay (fun h=>by cases h) hA;obtain⟨hs,hl⟩:=hA.ext hg hk hj hx;obtain⟨_,_,e3,_⟩:=hc.emitted hE;have hlsn:=hc.lsn;have hs2:=hE.segs hs (by omega);have hol:=hg.ol;have hbl:=hg.bl;have hlen:S.I.bl.length=S.I.ol.length:=by omega
 have hm:=fun s=>LiveOk.small (S:={ S with lv:=lv1 }) hl ⟨hg.cap,hg.now,hg.many,hg.flt,hg.flen,hg.b1,hg.b64,hg.bl,hg.ol,hg.brefs,hg.orefs,hg.seq,hg.epoch,hg.done⟩ s;obtain⟨l1,l2⟩:=Xa (B:=B) (a:=0) (zs:=YBB S.I.bl S.I.ol S.I.ol.length) hl.len hm (by omega);refine⟨by simp only;rw[e3];exact hs2,⟨l1,fun s hs=>?_,fun i hi=>?_⟩,hx.slot,hx.lie0,hx.lie1⟩
 · rw[l2 s hs,hl.live s hs]
   unfold VU;simp only
   have hc:=XAy B s S.I.bl S.I.ol hlen hl.diff (fun x hx=>by
    rcases hg.orefs x hx with rfl | rfl | ⟨h,_⟩ <;> omega)
   rw[Vh hlen,JM,XG (a:=((0:Nat):Int)) (by omega)];unfold YBB;rw[List.take_of_length_le (by simp;omega),List.countP_replicate,XG (a := -1) (by omega)];simp only[Bool.false_eq_true,if_false];omega
 · simp only at hi ⊢
   rw[JM,List.getD_eq_getElem?_getD,List.getElem?_replicate] at hi
   split at hi <;> simp at hi
theorem Does.ext {B:Nat} {S S':PS} {o:POp} {k j:Nat} (h:Does B S o S') (ho:VAr B o) (hg:Good B S k j) (hk:k≤50) (hj:j≤100000) (hx:Ext B S):Ext B S':=by
 rcases h with⟨h1,h2⟩ | ⟨h1,h2⟩ | ⟨h1,h2,h3⟩
 · rcases ho with⟨_,o1,o2,o3⟩ | ⟨o0,_⟩ | ⟨o0,_⟩
   · exact h2.ext hg hk hj (by omega) hx
   · omega
   · omega
 · rcases ho with⟨o0,_⟩ | ⟨_,o1,o2,o3⟩ | ⟨o0,_⟩
   · omega
   · exact h2.ext hg hk hj (by omega) hx
   · omega
 · have he:=hg.epoch
   exact h3.ext hg hk hj (by omega) hx
end
end Go.Proofs.YtkonbpfbjiepfaaGreat
