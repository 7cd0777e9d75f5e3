/- Lemmas of the proof, with their conditions. -/
import Derived.Test.YtkonbpfbjiepfaaGreatP37
namespace Go.Proofs.YtkonbpfbjiepfaaGreat
set_option linter.unusedSimpArgs false
set_option linter.unusedVariables false
set_option maxHeartbeats 2000000
set_option maxRecDepth 50000
section
open Go.RowKit
theorem Ky (w:World) (g B:Nat) (hg:GeomAt w g B) (rg:PReg) (h:rg.May) (bz oz:List Nat) (us:List (Nat×Nat)) (hbz:∀ z∈bz,z≤1) (hoz:∀ z∈oz,z≤1) (hbl:bz.length=pgs B) (hol:oz.length=pgs B) (hus:KP us rg.pos.seg) (A A':Option Addr) (c c':Nat) (ha:Rd w A 128 (bys (KBJ rg (pgs B) bz oz us))) (hb:Rd w A' 128 (bys (List.replicate 128 0))) :
 Calls Tryz.prog 292 #[.pointer (some ⟨g,0,none⟩),.slice A 128 c,.slice A' 128 c'] w fun e w'=>∃ BA bc OA oc UA uc,e=.returned (.tuple #[.agg (rg.cs (.slice BA (pgs B) bc) (.slice OA (pgs B) oc) (.slice (some ⟨UA,0,none⟩) 8 uc)).toArray,.int .i64 0,.int .i64 0]) ∧
  w'.ownsRow w.heap.size 3 1 (.slice BA (pgs B) bc) (pgs B) (XJ bz)∧w'.ownsRow w.heap.size 3 1 (.slice OA (pgs B) oc) (pgs B) (XJ oz)∧w'.ownsRow w.heap.size 212 2 (.slice (some ⟨UA,0,none⟩) 8 uc) 8 (us.flatMap Qa)∧Keep [] w w':=by
 have hD:=fun W (hk:Keep [] w W)=>QBJ W g B (hg.keep0 hk) rg h bz oz us hbz hoz hbl hol hus A c (ha.keep hk);have hE:=fun W (hk:Keep [] w W)=>ZAa W g B (hg.keep0 hk) A' c' (hb.keep hk);obtain⟨gen,view,mode,epoch,seq,done,seg,off,lsn,prev,mount⟩:=rg;simp only[PReg.cs,PPos.cs,List.cons_append,List.nil_append] at *;generalize pgs B=P at *;have hBk:=Blk.new w 177 #[.int .i64 0,.int .i64 0,.int .i64 0,.int .i64 0,.int .i64 0,.int .i64 0,.int .i64 0,.int .i64 0,.int .i64 0,.int .i64 0,.int .i64 0,.slice none 0 0,.slice none 0 0,.slice none 0 0];have hk0:Keep [] w (w.alloc (.cells #[.int .i64 0,.int .i64 0,.int .i64 0,.int .i64 0,.int .i64 0,.int .i64 0,.int .i64 0,.int .i64 0,.int .i64 0,.int .i64 0,.int .i64 0,.slice none 0 0,.slice none 0 0,.slice none 0 0] 177)):=(Keep.refl _ _).alloc _;have hd1:=hD _ hk0;clear hD
 go_enter Tryz.func292,Tryz.ntmps292
 go_wp2_with (
  refine hd1.mono ?_;clear hd1;rintro e w2 ⟨BA,bc,OA,oc,UA,uc,rfl,hu1,hu2,hu3,hk2⟩;have hB2:=hBk.keep0 hk2;have hkw:=hk0.trans0 hk2)
 have hka:=(Keep.refl [] w2).alloc (.cells #[.int .i64 gen,.int .i64 view,.int .i64 mode,.int .i64 epoch,.int .i64 seq,.int .i64 done,.int .i64 seg,.int .i64 off,.int .i64 lsn,.int .i64 prev,.int .i64 mount,.slice BA P bc,.slice OA P oc,.slice (some ⟨UA,0,none⟩) 8 uc] 177);have hX:=Blk.new w2 177 #[.int .i64 gen,.int .i64 view,.int .i64 mode,.int .i64 epoch,.int .i64 seq,.int .i64 done,.int .i64 seg,.int .i64 off,.int .i64 lsn,.int .i64 prev,.int .i64 mount,.slice BA P bc,.slice OA P oc,.slice (some ⟨UA,0,none⟩) 8 uc];replace hu1:=ZC (KA hu1 hka) hk0.size;replace hu2:=ZC (KA hu2 hka) hk0.size;replace hu3:=ZC (KA hu3 hka) hk0.size;replace hkw:=hkw.trans0 hka;replace hB2:=hB2.keep0 hka;have hd2:=hE _ hkw;clear hE hka hk2 hk0 hBk;generalize (w2.alloc (.cells #[.int .i64 gen,.int .i64 view,.int .i64 mode,.int .i64 epoch,.int .i64 seq,.int .i64 done,.int .i64 seg,.int .i64 off,.int .i64 lsn,.int .i64 prev,.int .i64 mount,.slice BA P bc,.slice OA P oc,.slice (some ⟨UA,0,none⟩) 8 uc] 177))=w3 at *;generalize w2.heap.size=NX at *
 go_wp2_with (
  refine hd2.mono ?_;clear hd2;rintro e w4 ⟨rfl,hk4⟩;have hka:=(Keep.refl [] w4).alloc (.cells #[.int .i64 0,.int .i64 0,.int .i64 0,.int .i64 0,.int .i64 0,.int .i64 0,.int .i64 0,.int .i64 0,.int .i64 0,.int .i64 0,.int .i64 0,.slice none 0 0,.slice none 0 0,.slice none 0 0] 177);have hB4:=(hB2.keep0 hk4).keep0 hka;have hX4:=(hX.keep0 hk4).keep0 hka;obtain⟨x0,x1,x2,x3,x4,x5,x6,x7,x8,x9,x10,x11,x12,x13⟩:=KB hX4;obtain⟨z0,z1,z2,z3,z4,z5,z6,z7,z8,z9,z10,z11,z12,z13⟩:=KB hB4;have f0:=hB4.frozen 0;have f1:=hB4.frozen 1;have f2:=hB4.frozen 2;have f3:=hB4.frozen 3;have f4:=hB4.frozen 4;have f5:=hB4.frozen 5;have f6:=hB4.frozen 6;have f7:=hB4.frozen 7;have f8:=hB4.frozen 8;have f9:=hB4.frozen 9;have f10:=hB4.frozen 10;have f11:=hB4.frozen 11;have f12:=hB4.frozen 12;have f13:=hB4.frozen 13;have hltX:=hX4.lt;have hltB:=hB4.lt)
 have hz:=((((((((((((((hB4.set 0 (.int .i64 gen)).set 1 (.int .i64 view)).set 2 (.int .i64 mode)).set 3 (.int .i64 epoch)).set 4 (.int .i64 seq)).set 5 (.int .i64 done)).set 6 (.int .i64 seg)).set 7 (.int .i64 off)).set 8 (.int .i64 lsn)).set 9 (.int .i64 prev)).set 10 (.int .i64 mount)).set 11 (.slice BA P bc)).set 12 (.slice OA P oc)).set 13 (.slice (some ⟨UA,0,none⟩) 8 uc));have hkz:=(((((((((((((((Keep.refl [w.heap.size] (w4.alloc (.cells #[.int .i64 0,.int .i64 0,.int .i64 0,.int .i64 0,.int .i64 0,.int .i64 0,.int .i64 0,.int .i64 0,.int .i64 0,.int .i64 0,.int .i64 0,.slice none 0 0,.slice none 0 0,.slice none 0 0] 177))).setCell (p:=⟨w.heap.size,0,none⟩) (.inl (by simp)) (.int .i64 gen)).setCell (p:=⟨w.heap.size,1,none⟩) (.inl (by simp)) (.int .i64 view)).setCell (p:=⟨w.heap.size,2,none⟩) (.inl (by simp)) (.int .i64 mode)).setCell (p:=⟨w.heap.size,3,none⟩) (.inl (by simp)) (.int .i64 epoch)).setCell (p:=⟨w.heap.size,4,none⟩) (.inl (by simp)) (.int .i64 seq)).setCell (p:=⟨w.heap.size,5,none⟩) (.inl (by simp)) (.int .i64 done)).setCell (p:=⟨w.heap.size,6,none⟩) (.inl (by simp)) (.int .i64 seg)).setCell (p:=⟨w.heap.size,7,none⟩) (.inl (by simp)) (.int .i64 off)).setCell (p:=⟨w.heap.size,8,none⟩) (.inl (by simp)) (.int .i64 lsn)).setCell (p:=⟨w.heap.size,9,none⟩) (.inl (by simp)) (.int .i64 prev)).setCell (p:=⟨w.heap.size,10,none⟩) (.inl (by simp)) (.int .i64 mount)).setCell (p:=⟨w.heap.size,11,none⟩) (.inl (by simp)) (.slice BA P bc)).setCell (p:=⟨w.heap.size,12,none⟩) (.inl (by simp)) (.slice OA P oc)).setCell (p:=⟨w.heap.size,13,none⟩) (.inl (by simp)) (.slice (some ⟨UA,0,none⟩) 8 uc));simp only[List.setIfInBounds_toArray,List.set_cons_zero,List.set_cons_succ] at hz;obtain⟨y0,y1,y2,y3,y4,y5,y6,y7,y8,y9,y10,y11,y12,y13⟩:=KB hz;refine bodyPost_ret (v:=.tuple #[.agg #[.int .i64 gen,.int .i64 view,.int .i64 mode,.int .i64 epoch,.int .i64 seq,.int .i64 done,.int .i64 seg,.int .i64 off,.int .i64 lsn,.int .i64 prev,.int .i64 mount,.slice BA P bc,.slice OA P oc,.slice (some ⟨UA,0,none⟩) 8 uc],.int .i64 0,.int .i64 0]) (by simp[results,Tryz.results292,go_sem,y0,y1,y2,y3,y4,y5,y6,y7,y8,y9,y10,y11,y12,y13]) rfl ?_;have hne:∀ {e:TypeId} {n s:Nat} {V:Value} {xs:List Value},(w4.alloc (.cells #[.int .i64 0,.int .i64 0,.int .i64 0,.int .i64 0,.int .i64 0,.int .i64 0,.int .i64 0,.int .i64 0,.int .i64 0,.int .i64 0,.int .i64 0,.slice none 0 0,.slice none 0 0,.slice none 0 0] 177)).ownsRow w.heap.size e s V n xs→e≠177→∀ x,V.ownBlock=some x→x∉[w.heap.size]:=fun hq he x hx hm=>by simp at hm;subst hm;exact own_blk_ne hq hB4 he hx
 have g1:=KA (KA hu1 hk4) hka;have g2:=KA (KA hu2 hk4) hka;have g3:=KA (KA hu3 hk4) hka;exact⟨BA,bc,OA,oc,UA,uc,rfl,QB g1 hkz (hne g1 (by decide)),QB g2 hkz (hne g2 (by decide)),QB g3 hkz (hne g3 (by decide)),((hkw.trans0 hk4).trans0 hka).trans hkz (fun x hx=>.inr (by simp at hx;omega))⟩
end
section
open Go.RowKit Go.Shelf
section
variable (w:World) (base s d g t p m:Nat) (Fd Ft Fw Fm:List Nat) (L0 L1:Value) (B:Nat) (S:PS) (h:StoreIs w base s d g t p m Fd Ft Fw Fm L0 L1 B S)
include h
theorem ImageS_is:Calls Tryz.prog 15 #[.pointer (some ⟨s,0,none⟩)] w fun e w'=>e=.returned (.pointer (some ⟨m,0,none⟩))∧w=w':=by
 obtain⟨c0,c1,c2,c3,c4,c5,c6,c7,c8,c9,c10,c11,c12,c13,c14,c15,c16,c17⟩:=VC h.blk
 go_enter Tryz.func15,Tryz.ntmps15
 go_wp2
 go_ret;exact⟨rfl,rfl⟩
theorem DiskS_is:Calls Tryz.prog 60 #[.pointer (some ⟨s,0,none⟩)] w fun e w'=>e=.returned (.pointer (some ⟨d,0,none⟩))∧w=w':=by
 obtain⟨c0,c1,c2,c3,c4,c5,c6,c7,c8,c9,c10,c11,c12,c13,c14,c15,c16,c17⟩:=VC h.blk
 go_enter Tryz.func60,Tryz.ntmps60
 go_wp2
 go_ret;exact⟨rfl,rfl⟩
theorem BlocksS_is:Calls Tryz.prog 111 #[.pointer (some ⟨m,0,none⟩)] w fun e w'=>e=.returned (.int .i64 (B:Nat))∧w=w':=by
 obtain⟨p1,p2,F1,F2,hi⟩:=h.img;have:=BlocksI_is w base m p1 p2 Fm F1 F2 S.I hi;rw[h.blen] at this;exact this
theorem Zn (b n:Nat) (hn:1≤n) (hb:b+n≤B):Calls Tryz.prog 52 #[.pointer (some ⟨s,0,none⟩),.int .i64 (b:Nat),.int .i64 (n:Nat)] w fun e w'=>e=.returned (.bool true)∧w=w':=by
 have hI:=ImageS_is w base s d g t p m Fd Ft Fw Fm L0 L1 B S h;have hB:=BlocksS_is w base s d g t p m Fd Ft Fw Fm L0 L1 B S h;have h64:B≤64:=h.log.geom.few;have h1:(1:Int)≤(n:Nat):=by omega
 have h2:((n:Nat):Int)≤(B:Nat):=by omega
 have h3:((b:Nat):Int)≤(B:Nat)-(n:Nat):=by omega
 go_enter Tryz.func52,Tryz.ntmps52
 go_wp2_with (first | (refine hI.mono ?_;clear hI;rintro e w' ⟨rfl,rfl⟩) | (refine hB.mono ?_;clear hB;rintro e w' ⟨rfl,rfl⟩))
 go_ret;exact⟨rfl,rfl⟩
theorem Zc (mode:Nat) (hm:mode=0∨mode=S.st.mode):Calls Tryz.prog 51 #[.pointer (some ⟨s,0,none⟩),.int .i64 (mode:Nat),.bool true] w fun e w'=>e=.returned (.int .i64 0)∧w=w':=by
 obtain⟨c0,c1,c2,c3,c4,c5,c6,c7,c8,c9,c10,c11,c12,c13,c14,c15,c16,c17⟩:=VC h.blk;have hOf:=Kx w base d Fd S.D h.log.disk;rw[h.log.off] at hOf
 by_cases h0:mode=0
 · subst h0
   go_enter Tryz.func51,Tryz.ntmps51
   go_wp2_with (refine hOf.mono ?_;clear hOf;rintro e w' ⟨rfl,rfl⟩)
   go_ret;exact⟨rfl,rfl⟩
 · obtain rfl:=hm.resolve_left h0
   have h0':¬ ((S.st.mode:Nat):Int)=0:=by omega
   go_enter Tryz.func51,Tryz.ntmps51
   go_wp2_with (refine hOf.mono ?_;clear hOf;rintro e w' ⟨rfl,rfl⟩)
   go_ret;exact⟨rfl,rfl⟩
theorem ZAg (hm:S.st.mode=1):Calls Tryz.prog 51 #[.pointer (some ⟨s,0,none⟩),.int .i64 1,.bool false] w fun e w'=>e=.returned (.int .i64 1)∧w=w':=by
 obtain⟨c0,c1,c2,c3,c4,c5,c6,c7,c8,c9,c10,c11,c12,c13,c14,c15,c16,c17⟩:=VC h.blk;rw[hm] at c5
 go_enter Tryz.func51,Tryz.ntmps51
 go_wp2_with fail
 go_ret;exact⟨rfl,rfl⟩
theorem Qf (a:Nat) (ha:a=0∨(6+4*pgs B≤a∧a<198+4*pgs B)) (A:Option Addr) (n c:Nat) (zs:List Int) (hz:Rd w A n (JK zs)) (hr:∀ z∈zs,z≤0∨(6+4*pgs B≤z.toNat∧z.toNat<198+4*pgs B)) (hn:n≤1000) (hA:∀ x,A=some x→x.block∉Ft) :
 Calls Tryz.prog 55 #[.pointer (some ⟨s,0,none⟩),.int .i64 (a:Nat),.slice A n c] w fun e w'=>e=.returned (.tuple #[])∧StoreIs w' base s d g t p m Fd Ft Fw Fm L0 L1 B { S with lv:=Xd B S.lv a zs }∧Keep Ft w w':=by
 have hzl:zs.length=n:=by simpa using hz.1
 have hsF:s∉Ft:=fun hm=>h.aps (by simp[hm]);have hgF:g∉Ft:=h.log.gt
 have hfst:Calls Tryz.prog 44 #[.pointer (some ⟨t,0,none⟩),.int .i64 (a:Nat),.int .i64 1] w fun e w'=>∃ b,e=.returned (.bool b)∧TableAt w' base t g Ft S.us (Xd B S.lv a [])∧Keep Ft w w':=by
  rcases ha with rfl | ⟨h1,h2⟩
  · refine(XBK w base t g Ft S.us S.lv h.log.tab B h.log.geom 1).mono ?_
    rintro e w' ⟨rfl,hk⟩;exact⟨_,rfl,h.log.tab.keep0 hk,hk.zero⟩
  · refine(XAm w base t g Ft S.us S.lv h.log.tab B h.log.geom a h1 h2 1 (.inl rfl)).mono ?_
    rintro e w' ⟨rfl,ht,hk⟩;refine⟨_,rfl,?_,hk⟩;unfold Xd;rw[if_neg (by omega)];exact ht
 have hfin:∀ w' lv',TableAt w' base t g Ft S.us lv'→Keep Ft w w'→StoreIs w' base s d g t p m Fd Ft Fw Fm L0 L1 B { S with lv:=lv' }:=fun w' lv' ht hk=>(h.setLog (h.log.setTab ht hk) (hk.sub (fun x hx=>by simp[hx])) (Grow.refl _ _) (Grow.refl _ _)).1;have hblk:=h.blk;have hgeo:=h.log.geom;obtain⟨c0,c1,c2,c3,c4,c5,c6,c7,c8,c9,c10,c11,c12,c13,c14,c15,c16,c17⟩:=VC hblk;clear h;have HZL:=JB hzl;clear hzl
 go_enter Tryz.func55,Tryz.ntmps55
 go_wp2_with (refine hfst.mono ?_;clear hfst;rintro e w1 ⟨b,rfl,ht1,hk1⟩)
 clear c0 c1 c2 c3 c4 c5 c6 c7 c8 c9 c10 c11 c12 c13 c14 c15 c16 c17
 go_loopw [16] (fun i wr=>∃ j:Nat,j≤n∧i=.int .i64 (j:Nat)∧TableAt wr base t g Ft S.us (Xd B S.lv a (zs.take j))∧Keep Ft w wr) (fun i _=>n-(intOf i).toNat)
 case atStart=>exact⟨0,Nat.zero_le _,rfl,by simpa using ht1,hk1⟩
 case round=>
  obtain⟨j,hj,rfl,htj,hkj⟩:=hrel
  by_cases hjn:j<n
  · have hjl:j<zs.length:=by rw[XA HZL];exact hjn
    obtain⟨ab,ao,u,rfl,hu,hab,hcell⟩:=(hz.keepIf hkj hA).at_ hjn;have hzx:zs[j]? = some zs[j]:=List.getElem?_eq_getElem hjl;simp only[JK,i64,List.getElem?_map,hzx,Option.map_some,Option.some.injEq] at hu;have hzr:=hr zs[j] (List.getElem_mem _)
    have hsn:Xd B S.lv a (zs.take (j+1))=if 0<zs[j] then YL (Xd B S.lv a (zs.take j)) ((zs[j].toNat-(6+4*pgs B)) / 24) (-1) else Xd B S.lv a (zs.take j):=by
     unfold Xd;rw[List.take_succ_eq_append_getElem hjl,List.foldl_append];rfl
    obtain⟨c0,c1,c2,c3,c4,c5,c6,c7,c8,c9,c10,c11,c12,c13,c14,c15,c16,c17⟩:=VC (hblk.keep hkj hsF);subst hu;have HSN:=JB hsn;clear hsn hzx;generalize zs[j]=z at *
    by_cases hz0:0<z
    · have hz1:=hzr.resolve_left (by omega)
      have hAd:=XAm wr base t g Ft S.us _ htj B (hgeo.keep hkj hgF) z.toNat hz1.1 hz1.2 (-1) (.inr rfl);rw[show ((z.toNat:Nat):Int)=z by omega] at hAd
      go_wp2_with (refine hAd.mono ?_;clear hAd;rintro e w2 ⟨rfl,ht2,hk2⟩)
      go_roundw
      case rel=>exact⟨j+1,by omega,by go_num,by rw[XA HSN,if_pos hz0];exact ht2,hkj.trans hk2 (fun x hx=>.inl hx)⟩
      case measure=>simp[intOf];omega
    · go_wp2_with fail
      go_roundw
      case rel=>exact⟨j+1,by omega,by go_num,by rw[XA HSN,if_neg hz0];exact htj,hkj⟩
      case measure=>simp[intOf];omega
  · obtain rfl:j=n:=by omega
    go_wp2_with fail
    refine bodyPost_end (v:=.tuple #[]) (by simp[results,Tryz.results55,go_sem]) rfl ?_;rw[List.take_of_length_le (by rw[XA HZL];exact Nat.le_refl _)] at htj;exact⟨rfl,hfin _ _ htj hkj,hkj⟩
theorem KAp (ho:S.W.Ok) (ha:S.D.acts≤1000000) (hlsn:S.W.pos.lsn<2147483647) :
 Calls Tryz.prog 56 #[.pointer (some ⟨s,0,none⟩)] w fun e w'=>e=.returned (.int .i64 0)∧∃ Fd' Fw' D2 us2 W2,StoreIs w' base s d g t p m Fd' Ft Fw' Fm L0 L1 B { S with D:=D2.flush,us:=us2,W:=W2 }∧Emitted B S.D S.us S.W D2 us2 W2 ∧
  Keep (Fd++(Ft++Fw)) w w'∧Grow w Fd Fd'∧Grow w Fw Fw':=by
 have hE:=VAD w base d g t p Fd Ft Fw B S.D S.us S.lv S.W h.log ho ha hlsn;have hblk:=h.blk;have hsn:s∉Fd++(Ft++Fw):=fun hm=>h.aps (by simp only[List.mem_cons,List.mem_append] at hm ⊢;rcases hm with hm | hm | hm <;> simp[hm]);obtain⟨c0,c1,c2,c3,c4,c5,c6,c7,c8,c9,c10,c11,c12,c13,c14,c15,c16,c17⟩:=VC hblk
 go_enter Tryz.func56,Tryz.ntmps56
 go_wp2_with (first
  | (go_at_call 117
     refine hE.mono ?_;clear hE c0 c1 c2 c3 c4 c5 c6 c7 c8 c9 c10 c11 c12 c13 c14 c15 c16 c17;rintro e w1 ⟨rfl,Fd1,Fw1,D1,us1,W1,h1,hE1,hk1,hg1,hgw1⟩;obtain⟨c0,c1,c2,c3,c4,c5,c6,c7,c8,c9,c10,c11,c12,c13,c14,c15,c16,c17⟩:=VC (hblk.keep hk1 hsn);have hf:=hE1.facts ho
     have hFl:=Jf w1 base d Fd1 D1 h1.disk h1.off h1.fuse (by have:=hf.2.2.2.2.2.2.2.2.1;omega) h1.le)
  | (go_at_call 118
     refine hFl.mono ?_;clear hFl;rintro e w2 ⟨rfl,Fd2,hD2,hk2,hg2⟩))
 go_ret;have h2:=h1.setDisk hD2 hk2 hg2 rfl rfl rfl;have hkk:Keep (Fd++(Ft++Fw)) w w2:=hk1.trans hk2 (fun x hx=>(hg1 x hx).imp (fun h=>by simp[h]) id);obtain⟨hS,_⟩:=h.setLog h2 hkk (hg1.trans hk1.size hg2) hgw1;exact⟨rfl,Fd2,Fw1,D1,us1,W1,hS,hE1,hkk,hg1.trans hk1.size hg2,hgw1⟩
end
end
section
open Go.RowKit Go.Shelf
theorem QX {B:Nat} {S:PS} {x z:Int} (h:x = -1∨RefOk B S x):XE x z≤0∨(6+4*pgs B≤(XE x z).toNat∧(XE x z).toNat<198+4*pgs B):=by
 unfold XE
 split
 · exact .inl (Int.le_refl _)
 · rcases h with rfl | rfl | ⟨h0,hl⟩
   · exact .inl (by omega)
   · exact .inl (by omega)
   · right
     rw[show max x 0=x by omega];exact⟨hl.lo,hl.hi⟩
theorem Qo {l:List Int} {i:Nat} (h:i<l.length):l.getD i 0∈l:=by
 rw[List.getD_eq_getElem?_getD,List.getElem?_eq_getElem h];exact List.getElem_mem h
theorem Good.room {B:Nat} {S:PS} {k j:Nat} (hg:Good B S k j) (hk:k≤50) {m:Nat} (hm:m≤1) (spare:Bool):QAg S.us S.W m spare:=by
 intro _ hf;have hfree:=hg.cap.free hk hm hf;obtain⟨g1,g2⟩:=QV S.us (by omega);exact⟨by have:=hg.cap.ul;omega,g2,fun _=>hfree⟩
theorem VAw {s g:Nat} {Fd Ft Fw Fm:List Nat} {L0 L1:Value} {l:List Nat} (h:∀ x∈l,x=s∨x∈Fd∨x∈Ft∨x∈Fw∨x∈Fm):∀ x∈l,x∈QL s g Fd Ft Fw Fm L0 L1:=fun x hx=>by
 simp only[QL,List.mem_cons,List.mem_append];rcases h x hx with h | h | h | h | h <;> simp[h]
theorem JAi (w:World) (base s d:Nat) (F:List Nat) (B:Nat) (S:PS) (h:StoreAt w base s d F B S) (k j:Nat) (hg:Good B S k j) (hk:k≤50) (hj:j≤20000) (hm:S.st.mode=1) (b:Nat) (hb:b<B) (A:Option Addr) (c:Nat) (bs:List UInt8) (hr:Rd w A 64 (bys bs)) (hA:∀ x,A=some x→x.block∉F) :
 Calls Tryz.prog 10 #[.pointer (some ⟨s,0,none⟩),.int .i64 (b:Nat),.slice A 64 c] w fun e w'=>e=.returned (.int .i64 0)∧∃ F' S',StoreAt w' base s d F' B S'∧Wrote B S b bs S'∧Keep F w w'∧Grow w F F':=by
 obtain⟨g,t,p,m,Fd,Ft,Fw,Fm,L0,L1,h,rfl⟩:=h;have hbl:bs.length=64:=by simpa using hr.1
 have hH:=Zn w base s d g t p m Fd Ft Fw Fm L0 L1 B S h b 1 (by omega) (by omega);have hQ:=Zc w base s d g t p m Fd Ft Fw Fm L0 L1 B S h 1 (.inr hm.symm);have hmay:PItem.May ⟨1,b,0,0⟩:=.inl ⟨.inl rfl,by have:=hg.b64;simp only;omega,rfl,rfl⟩;have hacts:=hg.cap.acts;have hlsn:=hg.cap.lsn;have hAd:=JAT w base d g t p Fd Ft Fw B S.D S.us S.lv S.W h.log hg.cap.ok hg.cap.off false (by omega) (by omega) hg.cap.opn ⟨1,b,0,0⟩ hmay (by simp) (hg.room hk (by unfold KV;split <;> omega) false) A c bs (by simpa [KV,PItem.loaded] using hr) (fun x hx hm=>hA x hx (VAw (by intro y hy;simp only[List.mem_append] at hy;rcases hy with h | h | h <;> simp[h]) _ hm));rw[show 64*KV ⟨1,b,0,0⟩=64 by simp[KV,PItem.loaded]] at hAd;simp only[itc] at hAd;have hblk:=h.blk;have hseq:S.st.seq≤20000:=by have:=hg.seq;omega
 have hsn:s∉Fd++(Ft++Fw):=fun hm=>h.aps (by simp only[List.mem_cons,List.mem_append] at hm ⊢;rcases hm with hm | hm | hm <;> simp[hm]);obtain⟨c0,c1,c2,c3,c4,c5,c6,c7,c8,c9,c10,c11,c12,c13,c14,c15,c16,c17⟩:=VC hblk
 go_enter Tryz.func10,Tryz.ntmps10
 go_wp2_with (first
  | (go_at_call 52
     refine hH.mono ?_;clear hH
     rintro e w' ⟨rfl,rfl⟩)
  | (go_at_call 51
     refine hQ.mono ?_;clear hQ
     rintro e w' ⟨rfl,rfl⟩)
  | (go_at_call 53
     refine hAd.mono ?_;clear hAd c0 c1 c2 c3 c4 c5 c6 c7 c8 c9 c10 c11 c12 c13 c14 c15 c16 c17;rintro e w1 ⟨a,rfl,Fd1,Fw1,D1,us1,lv1,W1,h1,hA1,hk1,hg1,hgw1⟩;have hblk1:=hblk.keep hk1 hsn;have f8:=hblk1.frozen 8;obtain⟨c0,c1,c2,c3,c4,c5,c6,c7,c8,c9,c10,c11,c12,c13,c14,c15,c16,c17⟩:=VC hblk1))
 obtain⟨hI1,hG1⟩:=h.setLog h1 hk1 hg1 hgw1;have hks:Keep [s] w1 (w1.setCell ⟨s,8,none⟩ (.int .i64 ((S.st.seq:Nat)+1))):=(Keep.refl _ _).setCell (p:=⟨s,8,none⟩) (.inl (by simp)) _;have hbz:=hblk1.set 8 (.int .i64 ((S.st.seq:Nat)+1));have hI2:=hI1.setSt { S.st with seq:=S.st.seq+1 } (by simpa using hbz) hks;obtain⟨_,_,_,_,hAr⟩:=hA1.reads hg.cap hk hg.now hg.many;obtain⟨hAr,_⟩:=hAr rfl;have hal:=hAr.lo;have hah:=hAr.hi;have hp5:=(QD h.log.geom.pos h.log.geom.few).2;have hW:=JAl _ base m Fm S.I hI2.img b a (by rw[h.blen];exact hb) (by omega);have hgo:=QX (z:=(a:Nat)) (hg.orefs (S.I.ol.getD b 0) (Qo (by rw[hg.ol];exact hb)));obtain⟨gone,hgone⟩:∃ z,z=XE (S.I.ol.getD b 0) a:=⟨_,rfl⟩;rw[← hgone] at hW hgo;have HGO:=JB hgone;clear hgone;generalize w1.setCell ⟨s,8,none⟩ (.int .i64 ((S.st.seq:Nat)+1))=w2 at *;have hmF:s∉Fm:=fun hm=>h.aps (by simp[hm]);have hblk2:=hI2.blk;clear c0 c1 c2 c3 c4 c5 c6 c7 c8 c9 c10 c11 c12 c13 c14 c15 c16 c17
 go_wp2_with (first
  | (go_at_call 54
     refine hW.mono ?_;clear hW;rintro e w3 ⟨rfl,hi3,hk3⟩))
 have hI3:=hI2.setImg hi3 (by simp) hk3;have hkB:Keep [] w3 (w3.alloc (.cells #[.int .i64 gone] 3)):=(Keep.refl _ _).alloc _;have hrd:=JS w3 (.int .i64 gone) 3;have hlt3:∀ x∈Ft,x<w3.heap.size:=fun x hx=>hI3.log.tab.lt x hx;have hLv:=Qf _ base s d g t p m Fd1 Ft Fw1 Fm L0 L1 B _ (hI3.keep0 hkB) a (.inr ⟨hal,hah⟩) _ 1 1 [gone] hrd (by simpa using hgo) (by omega) (fun x hx hm=>by cases hx;have:=hlt3 _ hm;simp at this)
 go_wp2_with (refine hLv.mono ?_;clear hLv;rintro e w4 ⟨rfl,hI4,hk4⟩)
 go_ret;have hsub:∀ {l:List Nat} {u v:World},(∀ x∈l,x=s∨x∈Fd∨x∈Ft∨x∈Fw∨x∈Fm)→Keep l u v→Keep (QL s g Fd Ft Fw Fm L0 L1) u v:=fun hl hk=>hk.sub (VAw hl);have K1:=hsub (by intro x hx;simp only[List.mem_append] at hx;rcases hx with h | h | h <;> simp[h]) hk1;have K2:=K1.trans (hsub (by intro x hx;simp at hx;simp[hx]) hks) (fun x hx=>.inl hx);have K3:=K2.trans (hsub (by intro x hx;simp[hx]) hk3) (fun x hx=>.inl hx);have K4:=(K3.trans0 hkB).trans (hsub (by intro x hx;simp[hx]) hk4) (fun x hx=>.inl hx);refine⟨rfl,_,_,⟨g,t,p,m,Fd1,Ft,Fw1,Fm,L0,L1,hI4,rfl⟩,⟨D1,us1,lv1,W1,a,hA1,?_⟩,K4,hG1⟩;rw[← XA HGO]
end
section
open Go.RowKit Go.Shelf
theorem YAK {B:Nat} {S:PS} (b n:Nat) (l:List Int) (ds:List Bool) (h:∀ x∈l,x = -1∨RefOk B S x) (hb:b+n≤l.length) :
 (∀ x∈(QG b n l ds).2.1,x = -1∨RefOk B S x)∧∀ x∈(QG b n l ds).1,x≤0∨(6+4*pgs B≤x.toNat∧x.toNat<198+4*pgs B):=by
 induction n with
 | zero=>exact⟨h,by intro x hx;cases hx⟩
 | succ n ih=>
   obtain⟨h1,h2⟩:=ih (by omega);have hlen:=(QK b n l ds).1;rw[QQ];unfold YO;refine⟨fun x hx=>?_,fun x hx=>?_⟩
   · simp only at hx
     rcases List.mem_or_eq_of_mem_set hx with hx | rfl
     · exact h1 x hx
     · exact .inr (.inl rfl)
   · simp only at hx
     split at hx
     · rcases List.mem_append.1 hx with hx | hx
       · exact h2 x hx
       · simp only[List.mem_singleton] at hx
         subst hx;exact QX (h1 _ (Qo (by omega)))
     · exact h2 x (by simpa using hx)
theorem QAi {B:Nat} {S:PS} (bl ol:List Int) (k:Nat) (h:∀ x∈bl,RefOk B S x):∀ x∈Vv bl ol k,x≤0∨(6+4*pgs B≤x.toNat∧x.toNat<198+4*pgs B):=by
 intro x hx;unfold Vv at hx;obtain⟨p,hp,hx⟩:=List.mem_flatMap.1 hx;have hp1:p.1∈bl:=(List.of_mem_zip (List.mem_of_mem_take hp)).1
 split at hx
 · cases hx
 · split at hx
   · simp only[List.mem_singleton] at hx
     subst hx;exact QX (.inr (h _ hp1))
   · cases hx
theorem KAz (w:World) (base s d:Nat) (F:List Nat) (B:Nat) (S:PS) (h:StoreAt w base s d F B S) (k j:Nat) (hg:Good B S k j) (hk:k≤50) (hj:j≤20000) (hm:S.st.mode=1) (b n:Nat) (hn:1≤n) (hb:b+n≤B) :
 Calls Tryz.prog 311 #[.pointer (some ⟨s,0,none⟩),.int .i64 (b:Nat),.int .i64 (n:Nat)] w fun e w'=>e=.returned (.int .i64 0)∧∃ F' S',StoreAt w' base s d F' B S'∧Trimmed B S b n S'∧Keep F w w'∧Grow w F F':=by
 obtain⟨g,t,p,m,Fd,Ft,Fw,Fm,L0,L1,h,rfl⟩:=h;have hH:=Zn w base s d g t p m Fd Ft Fw Fm L0 L1 B S h b n hn hb;have hQ:=Zc w base s d g t p m Fd Ft Fw Fm L0 L1 B S h 1 (.inr hm.symm);have hmay:PItem.May ⟨2,b,n,0⟩:=.inr (.inl ⟨.inl rfl,by have:=hg.b64;simp only;omega,hn,by have:=hg.b64;simp only;omega,rfl⟩);have hacts:=hg.cap.acts;have hlsn:=hg.cap.lsn;have hAd:=JAT w base d g t p Fd Ft Fw B S.D S.us S.lv S.W h.log hg.cap.ok hg.cap.off false (by omega) (by omega) hg.cap.opn ⟨2,b,n,0⟩ hmay (by simp) (hg.room hk (by unfold KV;split <;> omega) false) none 0 [] (by rw[show 64*KV ⟨2,b,n,0⟩=0 by simp[KV,PItem.loaded]];exact Rd.nil w none) (fun x hx=>by cases hx);rw[show 64*KV ⟨2,b,n,0⟩=0 by simp[KV,PItem.loaded]] at hAd;simp only[itc] at hAd;have hblk:=h.blk;have hseq:S.st.seq≤20000:=by have:=hg.seq;omega
 have hsn:s∉Fd++(Ft++Fw):=fun hm=>h.aps (by simp only[List.mem_cons,List.mem_append] at hm ⊢;rcases hm with hm | hm | hm <;> simp[hm]);obtain⟨c0,c1,c2,c3,c4,c5,c6,c7,c8,c9,c10,c11,c12,c13,c14,c15,c16,c17⟩:=VC hblk
 go_enter Tryz.func311,Tryz.ntmps311
 go_wp2_with (first
  | (go_at_call 52
     refine hH.mono ?_;clear hH
     rintro e w' ⟨rfl,rfl⟩)
  | (go_at_call 51
     refine hQ.mono ?_;clear hQ
     rintro e w' ⟨rfl,rfl⟩)
  | (go_at_call 53
     refine hAd.mono ?_;clear hAd c0 c1 c2 c3 c4 c5 c6 c7 c8 c9 c10 c11 c12 c13 c14 c15 c16 c17;rintro e w1 ⟨a,rfl,Fd1,Fw1,D1,us1,lv1,W1,h1,hA1,hk1,hg1,hgw1⟩;have hblk1:=hblk.keep hk1 hsn;have f8:=hblk1.frozen 8;obtain⟨c0,c1,c2,c3,c4,c5,c6,c7,c8,c9,c10,c11,c12,c13,c14,c15,c16,c17⟩:=VC hblk1))
 obtain⟨hI1,hG1⟩:=h.setLog h1 hk1 hg1 hgw1;have hks:Keep [s] w1 (w1.setCell ⟨s,8,none⟩ (.int .i64 ((S.st.seq:Nat)+1))):=(Keep.refl _ _).setCell (p:=⟨s,8,none⟩) (.inl (by simp)) _;have hbz:=hblk1.set 8 (.int .i64 ((S.st.seq:Nat)+1));have hI2:=hI1.setSt { S.st with seq:=S.st.seq+1 } (by simpa using hbz) hks;have hW:=YAy _ base m Fm S.I hI2.img b n hn (by rw[h.blen];exact hb);have hgo:=(YAK b n S.I.ol S.I.od hg.orefs (by rw[hg.ol];exact hb)).2;have hgl:=(VR b n S.I.ol S.I.od (-1) (by omega) hI2.img.ok.2.2).2.2;have hb64:=hg.b64;obtain⟨tr,htr⟩:∃ z,z=QG b n S.I.ol S.I.od:=⟨_,rfl⟩;have htl:tr.2.1.length=S.I.ol.length:=by rw[htr];exact(QK b n S.I.ol S.I.od).1
 rw[← htr] at hW hgo hgl;have HGO:=JB htr;clear htr;generalize w1.setCell ⟨s,8,none⟩ (.int .i64 ((S.st.seq:Nat)+1))=w2 at *;have hmF:s∉Fm:=fun hm=>h.aps (by simp[hm]);have hblk2:=hI2.blk;clear c0 c1 c2 c3 c4 c5 c6 c7 c8 c9 c10 c11 c12 c13 c14 c15 c16 c17
 go_wp2_with (first
  | (go_at_call 352
     refine hW.mono ?_;clear hW;rintro e w3 ⟨G,rfl,hG,hi3,hk3⟩;obtain⟨GA,gc,rfl,_⟩:=ZB hG))
 have hI3:=hI2.setImg hi3 (by simp) hk3;have hlt3:∀ x∈Ft,x<w2.heap.size:=fun x hx=>hI2.log.tab.lt x hx
 have hLv:=Qf _ base s d g t p m Fd1 Ft Fw1 Fm L0 L1 B _ hI3 0 (.inl rfl) GA tr.1.length gc tr.1 (Rd.of_own hG) hgo (by omega) (fun x hx hm=>by
  subst hx;obtain⟨h1,h2⟩ | ⟨gb,cap,cur,e,h1,_⟩:=hG.2
  · cases h1
  · injection e with e _ _
    injection e with e;subst e;have:=hlt3 _ hm;simp at this;omega)
 go_wp2_with (refine hLv.mono ?_;clear hLv;rintro e w4 ⟨rfl,hI4,hk4⟩)
 go_ret;have hsub:∀ {l:List Nat} {u v:World},(∀ x∈l,x=s∨x∈Fd∨x∈Ft∨x∈Fw∨x∈Fm)→Keep l u v→Keep (QL s g Fd Ft Fw Fm L0 L1) u v:=fun hl hk=>hk.sub (VAw hl);have K1:=hsub (by intro x hx;simp only[List.mem_append] at hx;rcases hx with h | h | h <;> simp[h]) hk1;have K2:=K1.trans (hsub (by intro x hx;simp at hx;simp[hx]) hks) (fun x hx=>.inl hx);have K3:=K2.trans (hsub (by intro x hx;simp[hx]) hk3) (fun x hx=>.inl hx);have K4:=K3.trans (hsub (by intro x hx;simp[hx]) hk4) (fun x hx=>.inl hx);refine⟨rfl,_,_,⟨g,t,p,m,Fd1,Ft,Fw1,Fm,L0,L1,hI4,rfl⟩,⟨D1,us1,lv1,W1,a,hA1,?_⟩,K4,hG1⟩;rw[← XA HGO]
end
section
open Go.RowKit Go.Shelf
theorem VAh (w:World) (base s d:Nat) (F:List Nat) (B:Nat) (S:PS) (h:StoreAt w base s d F B S) (hm:S.st.mode=1) (e:Nat) (he:e≠S.st.epoch+1) (heb:S.st.epoch≤1000000000) :
 Calls Tryz.prog 12 #[.pointer (some ⟨s,0,none⟩),.int .i64 (e:Nat)] w fun r w'=>r=.returned (.int .i64 1)∧w=w':=by
 obtain⟨g,t,p,m,Fd,Ft,Fw,Fm,L0,L1,h,rfl⟩:=h;have hQ:=ZAg w base s d g t p m Fd Ft Fw Fm L0 L1 B S h hm;obtain⟨c0,c1,c2,c3,c4,c5,c6,c7,c8,c9,c10,c11,c12,c13,c14,c15,c16,c17⟩:=VC h.blk;have heI:¬ ((e:Nat):Int)=(S.st.epoch:Nat)+1:=by omega
 go_enter Tryz.func12,Tryz.ntmps12
 have heB:(((e:Nat):Int) == (S.st.epoch:Nat)+1)=false:=by simpa using heI
 clear heI he
 go_wp2_with (refine hQ.mono ?_;clear hQ;rintro r w' ⟨rfl,rfl⟩)
 go_ret;exact⟨rfl,rfl⟩
theorem QAv (w:World) (base s d:Nat) (F:List Nat) (B:Nat) (S:PS) (h:StoreAt w base s d F B S) (k j:Nat) (hg:Good B S k j) (hk:k≤50) (hj:j≤20000) (hm:S.st.mode=1) (e:Nat) (he:e=S.st.epoch+1) :
 Calls Tryz.prog 12 #[.pointer (some ⟨s,0,none⟩),.int .i64 (e:Nat)] w fun r w'=>r=.returned (.int .i64 0)∧∃ F' S',StoreAt w' base s d F' B S'∧Marked B S e S'∧Keep F w w'∧Grow w F F':=by
 obtain⟨g,t,p,m,Fd,Ft,Fw,Fm,L0,L1,h,rfl⟩:=h;have hQ:=Zc w base s d g t p m Fd Ft Fw Fm L0 L1 B S h 1 (.inr hm.symm);have heb:S.st.epoch≤20000:=by have:=hg.epoch;omega
 have hmay:PItem.May ⟨3,0,0,e⟩:=.inr (.inr (.inl ⟨rfl,rfl,rfl,by simp only;omega,by simp only;omega⟩));have hacts:=hg.cap.acts;have hlsn:=hg.cap.lsn;have hAd:=JAT w base d g t p Fd Ft Fw B S.D S.us S.lv S.W h.log hg.cap.ok hg.cap.off false (by omega) (by omega) hg.cap.opn ⟨3,0,0,e⟩ hmay (by simp) (hg.room hk (by unfold KV;split <;> omega) false) none 0 [] (by rw[show 64*KV ⟨3,0,0,e⟩=0 by simp[KV,PItem.loaded]];exact Rd.nil w none) (fun x hx=>by cases hx);rw[show 64*KV ⟨3,0,0,e⟩=0 by simp[KV,PItem.loaded]] at hAd;simp only[itc] at hAd;have hblk:=h.blk;have hseq:S.st.seq≤20000:=by have:=hg.seq;omega
 have hsn:s∉Fd++(Ft++Fw):=fun hm=>h.aps (by simp only[List.mem_cons,List.mem_append] at hm ⊢;rcases hm with hm | hm | hm <;> simp[hm]);obtain⟨c0,c1,c2,c3,c4,c5,c6,c7,c8,c9,c10,c11,c12,c13,c14,c15,c16,c17⟩:=VC hblk;have heI:((e:Nat):Int)=(S.st.epoch:Nat)+1:=by omega
 have HE:=JB he;clear he
 go_enter Tryz.func12,Tryz.ntmps12
 go_wp2_with (first
  | (go_at_call 51
     refine hQ.mono ?_;clear hQ heI
     rintro r w' ⟨rfl,rfl⟩)
  | (go_at_call 53
     refine hAd.mono ?_;clear hAd c0 c1 c2 c3 c4 c5 c6 c7 c8 c9 c10 c11 c12 c13 c14 c15 c16 c17;rintro r w1 ⟨a,rfl,Fd1,Fw1,D1,us1,lv1,W1,h1,hA1,hk1,hg1,hgw1⟩;obtain⟨hI1,hG1⟩:=h.setLog h1 hk1 hg1 hgw1;have hc1:=hg.cap.added hk hmay (fun h=>by cases h) hA1
     have hLs:=KAp w1 base s d g t p m Fd1 Ft Fw1 Fm L0 L1 B _ hI1 hc1.ok (by have:=hc1.acts;simp only;omega) (by have:=hc1.lsn;simp only;omega))
  | (go_at_call 56
     refine hLs.mono ?_;clear hLs;rintro r w2 ⟨rfl,Fd2,Fw2,D2,us2,W2,hI2,hE2,hk2,hg2,hgw2⟩;have hblk2:=hI2.blk;have f7:=hblk2.frozen 7;have f8:=hblk2.frozen 8;have f9:=hblk2.frozen 9;simp only at hblk2;obtain⟨c0,c1,c2,c3,c4,c5,c6,c7,c8,c9,c10,c11,c12,c13,c14,c15,c16,c17⟩:=VC hblk2))
 have hks:Keep [s] w2 (((w2.setCell ⟨s,7,none⟩ (.int .i64 (e:Nat))).setCell ⟨s,8,none⟩ (.int .i64 ((S.st.seq:Nat)+1))).setCell ⟨s,9,none⟩ (.int .i64 ((S.st.seq:Nat)+1))):=
  (((Keep.refl [s] w2).setCell (p:=⟨s,7,none⟩) (.inl (by simp)) _).setCell (p:=⟨s,8,none⟩) (.inl (by simp)) _).setCell (p:=⟨s,9,none⟩) (.inl (by simp)) _
 have hbz:=((hblk2.set 7 (.int .i64 (e:Nat))).set 8 (.int .i64 ((S.st.seq:Nat)+1))).set 9 (.int .i64 ((S.st.seq:Nat)+1));have hI3:=hI2.setSt { S.st with epoch:=e,seq:=S.st.seq+1,done:=S.st.seq+1 } (by simpa using hbz) hks;have hCm:=XAr _ base m Fm S.I hI3.img;have hgo:=QAi (B:=B) (S:=S) S.I.bl S.I.ol S.I.ol.length hg.brefs;have hgl:=Yr S.I.bl S.I.ol S.I.ol.length;have hol:=hg.ol;have hb64:=hg.b64;have hbl:=hg.bl;have hcl:(Vn S.I.bl S.I.ol S.I.ol.length).length=S.I.bl.length:=Xp (by omega) (by omega);obtain⟨gs,hgs⟩:∃ z,z=Vv S.I.bl S.I.ol S.I.ol.length:=⟨_,rfl⟩;rw[← hgs] at hCm hgo hgl;have HGO:=JB hgs;clear hgs;generalize ((w2.setCell ⟨s,7,none⟩ (.int .i64 (e:Nat))).setCell ⟨s,8,none⟩ (.int .i64 ((S.st.seq:Nat)+1))).setCell ⟨s,9,none⟩ (.int .i64 ((S.st.seq:Nat)+1))=w3 at *;have hblk3:=hI3.blk;clear c0 c1 c2 c3 c4 c5 c6 c7 c8 c9 c10 c11 c12 c13 c14 c15 c16 c17
 go_wp2_with (first
  | (go_at_call 57
     refine hCm.mono ?_;clear hCm;rintro r w4 ⟨G,bd,od,rfl,hG,hi4,hk4⟩;obtain⟨GA,gc,rfl,_⟩:=ZB hG))
 have hI4:=hI3.setImg hi4 (by simpa using hcl) hk4;have hlt4:∀ x∈Ft,x<w3.heap.size:=fun x hx=>hI3.log.tab.lt x hx
 have hLv:=Qf _ base s d g t p m Fd2 Ft Fw2 Fm L0 L1 B _ hI4 0 (.inl rfl) GA gs.length gc gs (Rd.of_own hG) hgo (by omega) (fun x hx hm=>by
  subst hx;obtain⟨h1,h2⟩ | ⟨gb,cap,cur,e,h1,_⟩:=hG.2
  · cases h1
  · injection e with e _ _
    injection e with e;subst e;have:=hlt4 _ hm;simp at this;omega)
 go_wp2_with (refine hLv.mono ?_;clear hLv;rintro r w5 ⟨rfl,hI5,hk5⟩)
 go_ret;have hsub:∀ {l:List Nat} {u v:World},(∀ x∈l,x=s∨x∈Fd∨x∈Ft∨x∈Fw∨x∈Fm)→Keep l u v→Keep (QL s g Fd Ft Fw Fm L0 L1) u v:=fun hl hk=>hk.sub (VAw hl);have hGG:=(h.setLog h1 hk1 hg1 hgw1).2;obtain⟨_,hG2⟩:=hI1.setLog (hI2.log) hk2 hg2 hgw2;have K1:=hsub (by intro x hx;simp only[List.mem_append] at hx;rcases hx with h | h | h <;> simp[h]) hk1;have K2:=K1.trans hk2 (fun x hx=>hGG x (VAw (by intro y hy;simp only[List.mem_append] at hy;rcases hy with h | h | h <;> simp[h]) x hx));have K3:=K2.trans (hsub (by intro x hx;simp at hx;simp[hx]) hks) (fun x hx=>.inl hx);have K4:=K3.trans (hsub (by intro x hx;simp[hx]) hk4) (fun x hx=>.inl hx);have K5:=K4.trans (hsub (by intro x hx;simp[hx]) hk5) (fun x hx=>.inl hx);refine⟨rfl,_,_,⟨g,t,p,m,Fd2,Ft,Fw2,Fm,L0,L1,hI5,rfl⟩,⟨D1,us1,lv1,W1,a,D2,us2,W2,bd,od,hA1,hE2,?_⟩,K5,hGG.trans hk1.size hG2⟩;rw[← XA HGO]
end
section
open Go.RowKit Go.Shelf
theorem KW (A:Option Addr) (n c:Nat) (xs:List Int) (w:World) (ha:Rd w A n (JK xs)) (hn:n≤1000000) :
 Calls Tryz.prog 182 #[.slice A n c] w fun e w'=>∃ v,e=.returned v∧w'.ownsRow w.heap.size 3 1 v n (JK xs)∧Keep [] w w':=by
 have heq:=fun(W:World)=>Lib.run_eql_slice_nil (P:=Tryz.prog) W 22 3 A n c 0 0 Tryz.underlying22;rcases A with _ | ad
 · obtain rfl:n=0:=by
    rcases Nat.eq_zero_or_pos n with e | e
    · exact e
    · obtain⟨b,o,h,_⟩:=ha.2 e
      cases h
   obtain rfl:xs=[]:=List.eq_nil_of_length_eq_zero (by simpa using ha.1)
   go_enter Tryz.func182,Tryz.ntmps182
   go_wp2
   go_ret;exact⟨_,rfl,World.ownsRow_nil _ _ _ _,Keep.refl _ _⟩
 · have hr:=ha.keep ((Keep.refl _ w).alloc (.cells #[] 3))
   have ho:(w.alloc (.cells #[] 3)).ownsRow w.heap.size 3 1 (.slice (some ⟨w.heap.size,0,none⟩) 0 0) 0 []:=YP (Blk.new w 3 #[]) (Nat.le_refl _) (by omega) rfl rfl
   go_enter Tryz.func182,Tryz.ntmps182
   go_wp2_with (at_builtin;refine elemInts.wp_app rfl _ _ rfl w.heap.size _ 0 [] rfl ho (some ad) n c (JK xs) rfl hr (QAT _) (by omega) (by omega) (by simp) ?_)
   intro v' w' hown hk _ _
   go_wp2
   go_ret;exact⟨_,rfl,by simpa using hown,((Keep.refl _ w).alloc _).trans hk (by simp[Value.ownBlock])⟩
theorem VT (l:List Nat):XJ l=JK (l.map (fun(x:Nat)=>(x:Int))):=by simp[XJ,JK,i64]
theorem YBL (w:World) (d t m p g slot P:Nat) (r:PReg) (BA:Option Addr) (bc:Nat) (bz:List Nat) (OA:Option Addr) (oc:Nat) (oz:List Nat) (SA:Option Addr) (sn sc:Nat) (hb:Rd w BA P (XJ bz)) (ho:Rd w OA P (XJ oz)) (hP:P≤1000) (st:PSt) :
 Calls Tryz.prog 105 #[.pointer (some ⟨d,0,none⟩),.pointer (some ⟨t,0,none⟩),.pointer (some ⟨m,0,none⟩),.pointer (some ⟨p,0,none⟩),.pointer (some ⟨g,0,none⟩),.int .i64 (slot:Nat),
  .agg (r.cs (.slice BA P bc) (.slice OA P oc) (.slice SA sn sc)).toArray,.agg #[.int .i64 st.mode,.int .i64 st.view,.int .i64 st.epoch,.int .i64 st.seq,.int .i64 st.done,.int .i64 st.mount,.int .i64 st.gen,.int .i64 0,.int .i64 0,.int .i64 0]] w
  fun e w'=>∃ s L0 L1,e=.returned (.pointer (some ⟨s,0,none⟩))∧w.heap.size≤s ∧
   Blk w' s 108 #[.pointer (some ⟨d,0,none⟩),.pointer (some ⟨g,0,none⟩),.pointer (some ⟨t,0,none⟩),.pointer (some ⟨m,0,none⟩),.pointer (some ⟨p,0,none⟩),
    .int .i64 st.mode,.int .i64 st.view,.int .i64 st.epoch,.int .i64 st.seq,.int .i64 st.done,.int .i64 st.mount,.int .i64 st.gen,.int .i64 0,.int .i64 0,.int .i64 0,.int .i64 slot,L0,L1] ∧
   w'.ownsRow w.heap.size 3 1 L0 P (XJ bz)∧w'.ownsRow w.heap.size 3 1 L1 P (XJ oz)∧Keep [] w w':=by
 obtain⟨gen,view,mode,epoch,seq,done,⟨seg,off,lsn,prev,mount⟩⟩:=r;obtain⟨smode,sview,sepoch,sseq,sdone,smount,sgen⟩:=st;simp only[PReg.cs,PPos.cs,List.cons_append,List.nil_append] at *;rw[VT] at hb ho;rw[VT,VT];obtain⟨wA,hwA⟩:∃ wA,wA=(w.alloc (.cells #[.int .i64 gen,.int .i64 view,.int .i64 mode,.int .i64 epoch,.int .i64 seq,.int .i64 done,.int .i64 seg,.int .i64 off,.int .i64 lsn,.int .i64 prev,.int .i64 mount,.slice BA P bc,.slice OA P oc,.slice SA sn sc] 177)).alloc (.cells #[.int .i64 smode,.int .i64 sview,.int .i64 sepoch,.int .i64 sseq,.int .i64 sdone,.int .i64 smount,.int .i64 sgen,.int .i64 0,.int .i64 0,.int .i64 0] 72):=⟨_,rfl⟩;have hkA:Keep [] w wA:=by rw[hwA];exact((Keep.refl _ _).alloc _).alloc _
 have hbR:Blk wA w.heap.size 177 #[.int .i64 gen,.int .i64 view,.int .i64 mode,.int .i64 epoch,.int .i64 seq,.int .i64 done,.int .i64 seg,.int .i64 off,.int .i64 lsn,.int .i64 prev,.int .i64 mount,.slice BA P bc,.slice OA P oc,.slice SA sn sc]:=by
  rw[hwA];exact(Blk.new w _ _).keep0 ((Keep.refl _ _).alloc _)
 have hbS:Blk wA (w.heap.size+1) 72 #[.int .i64 smode,.int .i64 sview,.int .i64 sepoch,.int .i64 sseq,.int .i64 sdone,.int .i64 smount,.int .i64 sgen,.int .i64 0,.int .i64 0,.int .i64 0]:=by
  rw[hwA];have:=Blk.new (w.alloc (.cells #[.int .i64 gen,.int .i64 view,.int .i64 mode,.int .i64 epoch,.int .i64 seq,.int .i64 done,.int .i64 seg,.int .i64 off,.int .i64 lsn,.int .i64 prev,.int .i64 mount,.slice BA P bc,.slice OA P oc,.slice SA sn sc] 177)) 72 #[.int .i64 smode,.int .i64 sview,.int .i64 sepoch,.int .i64 sseq,.int .i64 sdone,.int .i64 smount,.int .i64 sgen,.int .i64 0,.int .i64 0,.int .i64 0];rw[show ∀ o,(w.alloc o).heap.size=w.heap.size+1 from fun o=>by simp] at this;exact this
 go_enter Tryz.func105,Tryz.ntmps105
 go_wp2_with fail
 rw[← hwA];clear hwA;have hC0:=KW BA P bc _ wA.drew (hb.keep hkA.drew) (by omega);refine ZT (fun w'=>w'.cell? ⟨w.heap.size+1,0,none⟩=some (.int .i64 smode)∧w'.cell? ⟨w.heap.size+1,1,none⟩=some (.int .i64 sview)∧w'.cell? ⟨w.heap.size+1,2,none⟩=some (.int .i64 sepoch)∧w'.cell? ⟨w.heap.size+1,3,none⟩=some (.int .i64 sseq)∧w'.cell? ⟨w.heap.size+1,4,none⟩=some (.int .i64 sdone)∧w'.cell? ⟨w.heap.size+1,5,none⟩=some (.int .i64 smount)∧w'.cell? ⟨w.heap.size+1,6,none⟩=some (.int .i64 sgen)∧w'.cell? ⟨w.heap.size+1,7,none⟩=some (.int .i64 0)∧w'.cell? ⟨w.heap.size+1,8,none⟩=some (.int .i64 0)∧w'.cell? ⟨w.heap.size+1,9,none⟩=some (.int .i64 0)∧w'.cell? ⟨w.heap.size,11,none⟩=some (.slice BA P bc)∧w'.cell? ⟨w.heap.size,12,none⟩=some (.slice OA P oc)) 14 [[0,1,2,3,4,5,6,7,8,10,11],[9],[12,13]] ⟨(by simpa using(hbS.drew).cell 0),(by simpa using(hbS.drew).cell 1),(by simpa using(hbS.drew).cell 2),(by simpa using(hbS.drew).cell 3),(by simpa using(hbS.drew).cell 4),(by simpa using(hbS.drew).cell 5),(by simpa using(hbS.drew).cell 6),(by simpa using(hbS.drew).cell 7),(by simpa using(hbS.drew).cell 8),(by simpa using(hbS.drew).cell 9),(by simpa using(hbR.drew).cell 11),(by simpa using(hbR.drew).cell 12)⟩ ?_;simp only[PI]
 iterate 11 (refine ZH ?_;simp only[Act.put,PU])
 refine XB (by rfl) (fun K hK=>?_)
 go_wp2_with (refine hC0.mono ?_;clear hC0;rintro e w1 ⟨v1,rfl,hv1,hk1⟩)
 have hkB:Keep [] wA w1:=(Keep.refl _ _).drew.trans0 hk1;have hC1:=KW OA P oc _ w1 (ho.keep (hkA.trans0 hkB)) (by omega);obtain⟨VA1,vc1,rfl,_⟩:=ZB hv1;refine hK _ _ (⟨(by simpa using(hbS.keep0 hkB).cell 0),(by simpa using(hbS.keep0 hkB).cell 1),(by simpa using(hbS.keep0 hkB).cell 2),(by simpa using(hbS.keep0 hkB).cell 3),(by simpa using(hbS.keep0 hkB).cell 4),(by simpa using(hbS.keep0 hkB).cell 5),(by simpa using(hbS.keep0 hkB).cell 6),(by simpa using(hbS.keep0 hkB).cell 7),(by simpa using(hbS.keep0 hkB).cell 8),(by simpa using(hbS.keep0 hkB).cell 9),(by simpa using(hbR.keep0 hkB).cell 11),(by simpa using(hbR.keep0 hkB).cell 12)⟩) ?_;clear hK K
 try simp only[Act.put,PU]
 refine XB (by rfl) (fun K hK=>?_)
 go_wp2_with (refine hC1.mono ?_;clear hC1;rintro e w2 ⟨v2,rfl,hv2,hk2⟩)
 have hkC:Keep [] wA w2:=hkB.trans0 hk2;obtain⟨VA2,vc2,rfl,_⟩:=ZB hv2;refine hK _ _ (⟨(by simpa using(hbS.keep0 hkC).cell 0),(by simpa using(hbS.keep0 hkC).cell 1),(by simpa using(hbS.keep0 hkC).cell 2),(by simpa using(hbS.keep0 hkC).cell 3),(by simpa using(hbS.keep0 hkC).cell 4),(by simpa using(hbS.keep0 hkC).cell 5),(by simpa using(hbS.keep0 hkC).cell 6),(by simpa using(hbS.keep0 hkC).cell 7),(by simpa using(hbS.keep0 hkC).cell 8),(by simpa using(hbS.keep0 hkC).cell 9),(by simpa using(hbR.keep0 hkC).cell 11),(by simpa using(hbR.keep0 hkC).cell 12)⟩) ?_;clear hK K
 try simp only[Act.put,PU]
 iterate 1 (refine ZH ?_;simp only[Act.put,PU])
 refine YB ?_;have hv1':=ZC (KA hv1 hk2) (show w.heap.size≤wA.drew.heap.size from hkA.size);have hv2':=ZC hv2 (show w.heap.size≤w1.heap.size from Nat.le_trans hkA.size hkB.size)
 go_wp2_with fail
 go_ret;refine⟨_,_,_,rfl,Nat.le_trans hkA.size hkC.size,Blk.new _ _ _,XD hv1' _,XD hv2' _,(hkA.trans0 hkC).alloc _⟩
end
section
open Go.RowKit Go.Shelf
theorem TableAt.rebase {w:World} {b b' t g:Nat} {F:List Nat} {us:List (Nat×Nat)} {lv:List Nat} (h:TableAt w b t g F us lv) (hb:b'≤b):TableAt w b' t g F us lv:=by
 obtain⟨L,V,h⟩:=h;exact⟨L,V,h.blk,ZC h.l hb,ZC h.live hb,h.foot,Nat.le_trans hb h.base,h.ulen,h.uok,h.lok⟩
theorem WriterAt.rebase {w:World} {b b' p d g t:Nat} {F:List Nat} {W:PW} (h:WriterAt w b p d g t F W) (hb:b'≤b):WriterAt w b' p d g t F W:=by
 obtain⟨I,B,ls,h⟩:=h;exact⟨I,B,ls,h.blk,ZC h.its hb,ZC h.bls hb,fun q hq=>ZC (h.dat q hq) hb,h.snd,h.foot,Nat.le_trans hb h.base⟩
theorem PagedAt.rebase {w:World} {b b' p:Nat} {F:List Nat} {l:List Int} {ds:List Bool} (h:PagedAt w b p F l ds) (hb:b'≤b):PagedAt w b' p F l ds:=by
 obtain⟨L,U,h⟩:=h;exact⟨L,U,h.blk,ZC h.rl hb,ZC h.rd hb,h.foot,Nat.le_trans hb h.base,h.pos,h.few,h.pages⟩
theorem ImageAt.rebase {w:World} {b b' m:Nat} {F:List Nat} {I:PImage} (h:ImageAt w b m F I) (hb:b'≤b):ImageAt w b' m F I:=by
 obtain⟨p1,p2,F1,F2,h⟩:=h;exact⟨p1,p2,F1,F2,h.blk,h.b.rebase hb,h.o.rebase hb,h.apart,h.m1,h.m2,h.foot,Nat.le_trans hb h.base,h.ok⟩
def PS.fresh (B:Nat) (D:PDisk):PS:=
 ⟨D,(1,0) :: List.replicate 7 (0,0),List.replicate 8 0,⟨⟨0,0,1,0,1⟩,[],[]⟩,⟨List.replicate B 0,List.replicate (pgs B) false,List.replicate B (-1),List.replicate (pgs B) false⟩,⟨1,1,0,0,0,1,1⟩,0,List.replicate (pgs B) 0,List.replicate (pgs B) 0⟩
end
end Go.Proofs.YtkonbpfbjiepfaaGreat
