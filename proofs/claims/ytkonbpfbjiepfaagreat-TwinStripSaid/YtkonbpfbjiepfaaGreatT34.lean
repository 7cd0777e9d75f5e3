/- Lemmas of the proof, with their conditions. -/
import Derived.Test.YtkonbpfbjiepfaaGreatT33
namespace Go.Proofs.YtkonbpfbjiepfaaGreat
set_option linter.unusedSimpArgs false
set_option linter.unusedVariables false
set_option maxHeartbeats 4000000
set_option maxRecDepth 50000
section
open Go.RowKit
structure RD (w W:World) (b rd r:Nat) (v:Value) (bs:List UInt8) (a:Nat) (cs:Array Value):Prop where
 row:RowAt W b r v bs a
 blk:Blk W w.heap.size 177 cs
 rdb:Blk W rd 462 #[.pointer (some ⟨r,0,none⟩)]
 kept:Keep [] w W
 nb:w.heap.size<b
 far:rd∉r :: v.ownBlock.toList
 ne:rd≠w.heap.size
namespace RD
variable {w W W':World} {b rd r a a':Nat} {v:Value} {bs:List UInt8} {cs:Array Value}
theorem q (h:RD w W b rd r v bs a cs):W.cell? ⟨rd,0,none⟩=some (.pointer (some ⟨r,0,none⟩)):=by simpa using h.rdb.cell 0
theorem keep0 (h:RD w W b rd r v bs a cs) (hk:Keep [] W W'):RD w W' b rd r v bs a cs:=⟨h.row.keep0 hk,h.blk.keep0 hk,h.rdb.keep0 hk,h.kept.trans0 hk,h.nb,h.far,h.ne⟩
theorem drew (h:RD w W b rd r v bs a cs):RD w W.drew b rd r v bs a cs:=h.keep0 (Keep.refl _ _).drew
theorem one (h:RD w W b rd r v bs a cs) (hr:RowAt W' b r v bs a') (hk:Keep [r] W W'):RD w W' b rd r v bs a' cs:=by
 have hb:=h.row.base;have hn:=h.nb;refine⟨hr,h.blk.keep hk (by simp;omega),h.rdb.keep hk (fun hm=>h.far (by simp at hm;simp[hm])),h.kept.trans hk (fun x hx=>.inr (by simp at hx;omega)),h.nb,h.far,h.ne⟩
theorem set (h:RD w W b rd r v bs a cs) (j:Nat) (x:Value):RD w (W.setCell ⟨w.heap.size,j,none⟩ x) b rd r v bs a (cs.setIfInBounds j x):=by
 obtain⟨z1,z2,z3⟩:=JT j x h.row h.nb h.blk;exact⟨z1,z2,h.rdb.keep z3 (by simpa using h.ne),h.kept.trans z3 (fun x hx=>.inr (by simp at hx;omega)),h.nb,h.far,h.ne⟩
end RD
theorem Xw {w:World} {base r a n:Nat} {v:Value} {bs t:List UInt8} (l m:List (Nat×Nat)) (hR:RowAt w base r v bs a) (hbs:bs=fields (l++(4,n) :: m)++t) (ha:a=widths l) (hn:n≤4294967295) :
 Calls Tryz.prog 390 #[.agg #[.pointer (some ⟨r,0,none⟩)],.int .i64 4] w fun e w'=>e=.returned (.int .i64 (n:Nat))∧RowAt w' base r v bs (a+4)∧Keep [r] w w':=
 VAH (k:=4) l m hR hbs ha (by omega) (by omega)
theorem QAq {w:World} {base r a n:Nat} {v:Value} {bs t:List UInt8} (l m:List (Nat×Nat)) (hR:RowAt w base r v bs a) (hbs:bs=fields (l++(1,n) :: m)++t) (ha:a=widths l) (hn:n≤255) :
 Calls Tryz.prog 390 #[.agg #[.pointer (some ⟨r,0,none⟩)],.int .i64 1] w fun e w'=>e=.returned (.int .i64 (n:Nat))∧RowAt w' base r v bs (a+1)∧Keep [r] w w':=
 VAH (k:=1) l m hR hbs ha (by omega) (by omega)
theorem KAB (FF:List (Nat×Nat)) (us:List (Nat×Nat)) (k:Nat) (hk:k<us.length):FF++us.flatMap JP=(FF++(us.take k).flatMap JP)++(1,us[k].1) :: (4,us[k].2) :: (us.drop (k+1)).flatMap JP:=by
 have h:us.flatMap JP=(us.take k).flatMap JP++(us.drop k).flatMap JP:=by rw[← List.flatMap_append,List.take_append_drop]
 rw[h,List.drop_eq_getElem_cons hk,List.flatMap_cons,List.append_assoc];rfl
theorem Zj (FF:List (Nat×Nat)) (us:List (Nat×Nat)) (k:Nat) (hk:k≤us.length) (h:widths FF=39):widths (FF++(us.take k).flatMap JP)=39+5*k:=by
 rw[VL,Qa,h,List.length_take,Nat.min_eq_left hk]
theorem RD.app {w W W':World} {b rd r a n:Nat} {v V:Value} {bs:List UInt8} {cs:Array Value} {xs:List Value} (h:RD w W b rd r v bs a cs) (hu:W.ownsRow w.heap.size 212 2 V n xs) (hk:Keep V.ownBlock.toList W W'):RD w W' b rd r v bs a cs:=
 ⟨⟨h.row.blk.keep hk (fun hm=>own_blk_ne hu h.row.blk (by decide) (by simpa using hm)),XB h.row.own hk (fun x hx hm=>own_ne h.row.own hu (by decide) hx (by simpa using hm)),h.row.base,h.row.le,h.row.few⟩,
   h.blk.keep hk (fun hm=>own_blk_ne hu h.blk (by decide) (by simpa using hm)),h.rdb.keep hk (fun hm=>own_blk_ne hu h.rdb (by decide) (by simpa using hm)),h.kept.trans hk (fun x hx=>.inr (own_mem hu hx).1),h.nb,h.far,h.ne⟩
theorem KQ {w3 w4:World} {base r a n s:Nat} {v u:Value} {bs:List UInt8} {e:TypeId} {xs:List Value} (b2:Nat) (hR:RowAt w3 base r v bs a) (hk:Keep [r] w3 w4) (hu:w3.ownsRow b2 e s u n xs) (he:e≠397):w4.ownsRow b2 e s u n xs:=
 XB hu hk (fun x hx hm=>by simp at hm;subst hm;exact own_blk_ne hu hR.blk he hx)
theorem Yp {zs:List Nat} (h:∀ z∈zs,z=0) (n:Nat):YJ zs n=0:=by
 induction n with
 | zero=>rfl
 | succ n ih=>
   have:zs.getD n 0=0:=by
    rw[List.getD_eq_getElem?_getD];rcases Nat.lt_or_ge n zs.length with h1 | h1
    · rw[List.getElem?_eq_getElem h1];exact h _ (List.getElem_mem h1)
    · rw[List.getElem?_eq_none h1];rfl
   simp only[YJ,ih,this,Nat.zero_mul,Nat.add_zero]
theorem YAN (n lo hi:Int) (w:World) (h:n<lo):Calls Tryz.prog 331 #[.int .i64 n,.int .i64 lo,.int .i64 hi] w fun e w'=>e=.returned (.bool false)∧w=w':=by
 have h1:¬ lo≤n:=by omega
 go_enter Tryz.func331,Tryz.ntmps331
 go_wp2
 go_ret;exact⟨rfl,rfl⟩
theorem ZAE (BA:Option Addr) (bn bc:Nat) (OA:Option Addr) (on oc:Nat) (SA:Option Addr) (sn sc:Nat) (w:World) :
 Calls Tryz.prog 329 #[.agg #[.int .i64 0,.int .i64 0,.int .i64 0,.int .i64 0,.int .i64 0,.int .i64 0,.int .i64 0,.int .i64 0,.int .i64 0,.int .i64 0,.int .i64 0,.slice BA bn bc,.slice OA on oc,.slice SA sn sc]] w fun e w'=>e=.returned (.bool false)∧Keep [] w w':=by
 have hT1:=fun W=>YAN 0 1 2147483647 W (by omega)
 go_enter Tryz.func329,Tryz.ntmps329
 go_wp2_with (refine(hT1 _).mono ?_;clear hT1;rintro e w' ⟨rfl,rfl⟩)
 go_ret;exact⟨rfl,(Keep.refl _ _).alloc _⟩
theorem KAV (BA:Option Addr) (bn bc:Nat) (OA:Option Addr) (on oc:Nat) (SA:Option Addr) (sn sc:Nat) (w:World) (g:Nat) :
 Calls Tryz.prog 264 #[.pointer (some ⟨g,0,none⟩),.agg #[.int .i64 0,.int .i64 0,.int .i64 0,.int .i64 0,.int .i64 0,.int .i64 0,.int .i64 0,.int .i64 0,.int .i64 0,.int .i64 0,.int .i64 0,.slice BA bn bc,.slice OA on oc,.slice SA sn sc]] w fun e w'=>e=.returned (.bool false)∧Keep [] w w':=by
 have hN:=fun W=>ZAE BA bn bc OA on oc SA sn sc W;have hb:=(Blk.new w 177 #[.int .i64 0,.int .i64 0,.int .i64 0,.int .i64 0,.int .i64 0,.int .i64 0,.int .i64 0,.int .i64 0,.int .i64 0,.int .i64 0,.int .i64 0,.slice BA bn bc,.slice OA on oc,.slice SA sn sc]).drew;have hk:=((Keep.refl [] w).alloc (.cells #[.int .i64 0,.int .i64 0,.int .i64 0,.int .i64 0,.int .i64 0,.int .i64 0,.int .i64 0,.int .i64 0,.int .i64 0,.int .i64 0,.int .i64 0,.slice BA bn bc,.slice OA on oc,.slice SA sn sc] 177)).drew
 go_enter Tryz.func264,Tryz.ntmps264
 go_wp2_with fail
 refine ZT (fun w'=>w'.cell? ⟨w.heap.size,0,none⟩=some (.int .i64 0)∧w'.cell? ⟨w.heap.size,1,none⟩=some (.int .i64 0)∧w'.cell? ⟨w.heap.size,2,none⟩=some (.int .i64 0)∧w'.cell? ⟨w.heap.size,3,none⟩=some (.int .i64 0)∧w'.cell? ⟨w.heap.size,4,none⟩=some (.int .i64 0)∧w'.cell? ⟨w.heap.size,5,none⟩=some (.int .i64 0)∧w'.cell? ⟨w.heap.size,6,none⟩=some (.int .i64 0)∧w'.cell? ⟨w.heap.size,7,none⟩=some (.int .i64 0)∧w'.cell? ⟨w.heap.size,8,none⟩=some (.int .i64 0)∧w'.cell? ⟨w.heap.size,9,none⟩=some (.int .i64 0)∧w'.cell? ⟨w.heap.size,10,none⟩=some (.int .i64 0)∧w'.cell? ⟨w.heap.size,11,none⟩=some (.slice BA bn bc)∧w'.cell? ⟨w.heap.size,12,none⟩=some (.slice OA on oc)∧w'.cell? ⟨w.heap.size,13,none⟩=some (.slice SA sn sc)) 37 [[0,1,2,3],[4,5,6,7,8,9,10],[11,12,13,14,15,16,17],[18],[19,20,21,22,23,24,25],[26],[27,28,29,30,31,32,33,34],[35,36]] (YB hb) ?_;simp only[PI]
 iterate 4 (refine ZH ?_;simp only[Act.put,PU])
 refine ZB (by rfl) (fun K hK=>?_)
 go_wp2_with (refine(hN _).mono ?_;rintro e w2 ⟨rfl,hk2⟩)
 refine hK _ _ (YB (hb.keep0 hk2)) ?_;clear hK K
 try simp only[Act.put,PU]
 iterate 3 (refine ZH ?_;simp only[Act.put,PU])
 iterate 3 (refine QR (by rfl) ?_;simp only[Act.put,PU])
 refine JL (by rfl) (YB (hb.keep0 hk2)) ?_;simp only[Act.put,PU]
 iterate 1 (refine QR (by rfl) ?_;simp only[Act.put,PU])
 iterate 2 (refine ZH ?_;simp only[Act.put,PU])
 iterate 3 (refine QR (by rfl) ?_;simp only[Act.put,PU])
 refine JL (by rfl) (YB (hb.keep0 hk2)) ?_;simp only[Act.put,PU];refine JL (by rfl) (YB (hb.keep0 hk2)) ?_;simp only[Act.put,PU]
 iterate 1 (refine QR (by rfl) ?_;simp only[Act.put,PU])
 iterate 2 (refine ZH ?_;simp only[Act.put,PU])
 iterate 3 (refine QR (by rfl) ?_;simp only[Act.put,PU])
 refine JL (by rfl) (YB (hb.keep0 hk2)) ?_;simp only[Act.put,PU];refine JL (by rfl) (YB (hb.keep0 hk2)) ?_;simp only[Act.put,PU]
 iterate 1 (refine QR (by rfl) ?_;simp only[Act.put,PU])
 iterate 2 (refine ZH ?_;simp only[Act.put,PU])
 iterate 4 (refine QR (by rfl) ?_;simp only[Act.put,PU])
 refine JL (by rfl) (YB (hb.keep0 hk2)) ?_;simp only[Act.put,PU]
 iterate 1 (refine QR (by rfl) ?_;simp only[Act.put,PU])
 refine QC ?_
 go_wp2_with fail
 go_ret;exact⟨rfl,hk.trans0 hk2⟩
theorem KAt (w:World) (g:Nat) (BA:Option Addr) (bn bc:Nat) (OA:Option Addr) (on oc:Nat) (SA:Option Addr) (sn sc:Nat) :
 Calls Tryz.prog 175 #[.pointer (some ⟨g,0,none⟩),.agg #[.int .i64 0,.int .i64 0,.int .i64 0,.int .i64 0,.int .i64 0,.int .i64 0,.int .i64 0,.int .i64 0,.int .i64 0,.int .i64 0,.int .i64 0,.slice BA bn bc,.slice OA on oc,.slice SA sn sc]] w fun e w'=>e=.returned (.tuple #[.slice none 0 0,.int .i64 1])∧Keep [] w w':=by
 have hM:=fun W=>KAV BA bn bc OA on oc SA sn sc W g
 go_enter Tryz.func175,Tryz.ntmps175
 go_wp2_with (
  (refine(hM _).mono ?_)
  clear hM;rintro e w2 ⟨rfl,hk2⟩)
 go_ret2;exact⟨rfl,((Keep.refl _ _).alloc _).trans0 hk2⟩
theorem KAR (w:World) (g B:Nat) (hg:GeomAt w g B) (A:Option Addr) (c:Nat) (ha:Rd w A 128 (bys (List.replicate 128 0))) :
 Calls Tryz.prog 345 #[.pointer (some ⟨g,0,none⟩),.slice A 128 c] w fun e w'=>e=.returned (.tuple #[.agg #[.int .i64 0,.int .i64 0,.int .i64 0,.int .i64 0,.int .i64 0,.int .i64 0,.int .i64 0,.int .i64 0,.int .i64 0,.int .i64 0,.int .i64 0,.slice none 0 0,.slice none 0 0,.slice none 0 0],.int .i64 2])∧Keep [] w w':=by
 have hpb:=(YC hg.pos hg.few).2;have hPa:=fun W (hk:Keep [] w W)=>PagesG_is W g B (hg.keep0 hk);have hC:=fun W (hk:Keep [] w W)=>ConfigG_is W g B (hg.keep0 hk);have hE:=fun W BA OA UA bc oc uc (_:Keep [] w W) (_:True) (_:True) (_:True)=>KAt W g BA (pgs B) bc OA (pgs B) oc (some ⟨UA,0,none⟩) 8 uc;obtain⟨P,hP⟩:∃ P,P=pgs B:=⟨_,rfl⟩;rw[← hP] at hpb hPa hE;obtain⟨bz,hbzE⟩:∃ bz:List Nat,bz=List.replicate P 0:=⟨_,rfl⟩;obtain⟨oz,hozE⟩:∃ oz:List Nat,oz=List.replicate P 0:=⟨_,rfl⟩;obtain⟨us,husE⟩:∃ us:List (Nat×Nat),us=List.replicate 8 (0,0):=⟨_,rfl⟩;have hbl:bz.length=P:=by rw[hbzE];simp
 have hol:oz.length=P:=by rw[hozE];simp
 have hul:us.length=8:=by rw[husE];rfl
 have hbz:∀ z∈bz,z≤1:=fun z hz=>by rw[hbzE] at hz;rw[List.eq_of_mem_replicate hz];omega
 have hoz:∀ z∈oz,z≤1:=fun z hz=>by rw[hozE] at hz;rw[List.eq_of_mem_replicate hz];omega
 have huo:∀ u∈us,u.1≤2∧u.2≤2147483647:=fun u hu=>by rw[husE] at hu;rw[List.eq_of_mem_replicate hu];omega
 obtain⟨bs,hbe⟩:∃ bs:List UInt8,bs=List.replicate 128 0:=⟨_,rfl⟩;have hlen:bs.length=128:=by rw[hbe];rfl
 obtain⟨t,hbs⟩:∃ t,bs=fields ([(1,0),(1,0),(4,0),(4,0),(1,0),(4,0),(4,0),(4,0),(1,0),(1,0),(4,0),(4,0),(4,0),(1,YJ bz P),(1,YJ oz P)]++us.flatMap JP)++t:=⟨List.replicate 49 0,by
  rw[hbe,Yp (by rw[hbzE];exact fun z hz=>List.eq_of_mem_replicate hz),Yp (by rw[hozE];exact fun z hz=>List.eq_of_mem_replicate hz),husE];rfl⟩
 rw[← hbe] at ha;clear hbe hP hbzE hozE husE;have hP8:P≤8:=by omega
 have hF:=fun W (hk:Keep [] w W)=>ZX A 128 c bs W (ha.keep hk) (by omega);have hBk:=Blk.new w 177 #[.int .i64 0,.int .i64 0,.int .i64 0,.int .i64 0,.int .i64 0,.int .i64 0,.int .i64 0,.int .i64 0,.int .i64 0,.int .i64 0,.int .i64 0,.slice none 0 0,.slice none 0 0,.slice none 0 0];have hk0:Keep [] w (w.alloc (.cells #[.int .i64 0,.int .i64 0,.int .i64 0,.int .i64 0,.int .i64 0,.int .i64 0,.int .i64 0,.int .i64 0,.int .i64 0,.int .i64 0,.int .i64 0,.slice none 0 0,.slice none 0 0,.slice none 0 0] 177)):=(Keep.refl _ _).alloc _;have HLEN:=XC hlen;have HBS:=XC hbs;have HUL:=XC hul;have HUO:=XC huo;have HBZ:=XC hbz;have HOZ:=XC hoz;have HBL:=XC hbl;have HOL:=XC hol;clear hlen hbs hul huo hbz hoz hbl hol
 go_enter Tryz.func345,Tryz.ntmps345
 go_wp2_with (
  (refine(hF _ hk0).mono ?_)
  clear hF;rintro e w2 ⟨r,v,rfl,hR,hk2⟩;have hB2:=hBk.keep0 hk2;have hsz:w.heap.size<(w.alloc (.cells #[.int .i64 0,.int .i64 0,.int .i64 0,.int .i64 0,.int .i64 0,.int .i64 0,.int .i64 0,.int .i64 0,.int .i64 0,.int .i64 0,.int .i64 0,.slice none 0 0,.slice none 0 0,.slice none 0 0] 177)).heap.size:=by simp
  have hkw:Keep [] w w2:=hk0.trans0 hk2;clear hBk hk2 hk0)
 generalize (w.alloc (.cells #[.int .i64 0,.int .i64 0,.int .i64 0,.int .i64 0,.int .i64 0,.int .i64 0,.int .i64 0,.int .i64 0,.int .i64 0,.int .i64 0,.int .i64 0,.slice none 0 0,.slice none 0 0,.slice none 0 0] 177)).heap.size=base at *;have hfr:=hR.fresh
 have hltr:∀ x∈r :: v.ownBlock.toList,x<w2.heap.size:=fun x hx=>by
  rcases List.mem_cons.1 hx with rfl | hx
  · exact hR.blk.lt
  · exact(own_mem hR.own hx).2
 have hka:=(Keep.refl [] w2).alloc (.cells #[.pointer (some ⟨r,0,none⟩)] 462)
 have H0:RD w (w2.alloc (.cells #[.pointer (some ⟨r,0,none⟩)] 462)) base w2.heap.size r v bs 0 #[.int .i64 0,.int .i64 0,.int .i64 0,.int .i64 0,.int .i64 0,.int .i64 0,.int .i64 0,.int .i64 0,.int .i64 0,.int .i64 0,.int .i64 0,.slice none 0 0,.slice none 0 0,.slice none 0 0]:=
  ⟨hR.keep0 hka,hB2.keep0 hka,Blk.new w2 _ _,hkw.trans0 hka,hsz,fun hm=>by have:=hltr _ hm;omega,fun e=>by have:=hB2.lt;omega⟩
 generalize w2.heap.size=rd at *;have q:=H0.q;have hT:=JX _ _ r 0 2 v _ H0.row (by rw[JA HLEN];omega)
 go_wp2_with (
  (refine hT.mono ?_)
  clear hT;rintro e w3 ⟨ut,rfl,-,hR3,hk3⟩)
 have H:=H0.one hR3 hk3;clear q hR hB2 hkw hfr hltr hka H0 hR3 hk3;have hD:=H.drew;clear H;refine ZT (fun W=>W.cell? ⟨rd,0,none⟩=some (.pointer (some ⟨r,0,none⟩))) 5 [[0,2],[1,4],[3]] hD.q ?_;simp only[PI]
 iterate 2 (refine ZH ?_;simp only[Act.put,PU])
 refine ZB (by rfl) (fun K hK=>?_);have hT:=Xw (n:=0) [(1,0),(1,0)] ([(4,0),(1,0),(4,0),(4,0),(4,0),(1,0),(1,0),(4,0),(4,0),(4,0),(1,YJ bz P),(1,YJ oz P)]++us.flatMap JP) hD.row (by simpa only[List.cons_append,List.nil_append] using JA HBS) rfl (by omega)
 go_wp2_with (refine hT.mono ?_;clear hT;rintro e w4 ⟨rfl,hR,hk⟩)
 have Hw4:=hD.one hR hk;clear hR hk hD;refine hK _ _ (Hw4.q) ?_;clear hK K
 try simp only[Act.put,PU]
 iterate 1 (refine ZH ?_;simp only[Act.put,PU])
 refine ZB (by rfl) (fun K hK=>?_);have hT:=Xw (n:=0) [(1,0),(1,0),(4,0)] ([(1,0),(4,0),(4,0),(4,0),(1,0),(1,0),(4,0),(4,0),(4,0),(1,YJ bz P),(1,YJ oz P)]++us.flatMap JP) Hw4.row (by simpa only[List.cons_append,List.nil_append] using JA HBS) rfl (by omega)
 go_wp2_with (refine hT.mono ?_;clear hT;rintro e w5 ⟨rfl,hR,hk⟩)
 have Hw5:=Hw4.one hR hk;clear hR hk Hw4;refine hK _ _ (Hw5.q) ?_;clear hK K
 try simp only[Act.put,PU]
 refine QC ?_;have f0:=Hw5.blk.frozen 0;have f1:=Hw5.blk.frozen 1;obtain⟨x0,x1,x2,x3,x4,x5,x6,x7,x8,x9,x10,x11,x12,x13⟩:=YB Hw5.blk;have hlt:=Hw5.blk.lt;have hne:=Hw5.ne;have H2:=((Hw5.set 0 (.int .i64 0)).set 1 (.int .i64 0));simp only[List.setIfInBounds_toArray,List.set_cons_zero,List.set_cons_succ] at H2;have q:=H2.q;have hT:=QAq (n:=0) [(1,0),(1,0),(4,0),(4,0)] ([(4,0),(4,0),(4,0),(1,0),(1,0),(4,0),(4,0),(4,0),(1,YJ bz P),(1,YJ oz P)]++us.flatMap JP) H2.row (by simpa only[List.cons_append,List.nil_append] using JA HBS) rfl (by omega)
 go_wp2_with (refine hT.mono ?_;clear hT q f0 f1 hlt x0 x1 x2 x3 x4 x5 x6 x7 x8 x9 x10 x11 x12 x13;rintro e w6 ⟨rfl,hR,hk⟩;have H:=H2.one hR hk;have f2:=H.blk.frozen 2;have hlt:=H.blk.lt;have x2:=(YB H.blk).2.2.1)
 have H3:=H.set 2 (.int .i64 0);simp only[List.setIfInBounds_toArray,List.set_cons_zero,List.set_cons_succ] at H3;clear H H2 hR hk f2 x2 hlt hne Hw5;have H:=H3;clear H3;have hD:=H.drew;clear H;refine ZT (fun W=>W.cell? ⟨rd,0,none⟩=some (.pointer (some ⟨r,0,none⟩))) 7 [[0,2,4],[1,6],[3],[5]] hD.q ?_;simp only[PI]
 iterate 3 (refine ZH ?_;simp only[Act.put,PU])
 refine ZB (by rfl) (fun K hK=>?_);have hT:=Xw (n:=0) [(1,0),(1,0),(4,0),(4,0),(1,0)] ([(4,0),(4,0),(1,0),(1,0),(4,0),(4,0),(4,0),(1,YJ bz P),(1,YJ oz P)]++us.flatMap JP) hD.row (by simpa only[List.cons_append,List.nil_append] using JA HBS) rfl (by omega)
 go_wp2_with (refine hT.mono ?_;clear hT;rintro e w7 ⟨rfl,hR,hk⟩)
 have Hw7:=hD.one hR hk;clear hR hk hD;refine hK _ _ (Hw7.q) ?_;clear hK K
 try simp only[Act.put,PU]
 iterate 1 (refine ZH ?_;simp only[Act.put,PU])
 refine ZB (by rfl) (fun K hK=>?_);have hT:=Xw (n:=0) [(1,0),(1,0),(4,0),(4,0),(1,0),(4,0)] ([(4,0),(1,0),(1,0),(4,0),(4,0),(4,0),(1,YJ bz P),(1,YJ oz P)]++us.flatMap JP) Hw7.row (by simpa only[List.cons_append,List.nil_append] using JA HBS) rfl (by omega)
 go_wp2_with (refine hT.mono ?_;clear hT;rintro e w8 ⟨rfl,hR,hk⟩)
 have Hw8:=Hw7.one hR hk;clear hR hk Hw7;refine hK _ _ (Hw8.q) ?_;clear hK K
 try simp only[Act.put,PU]
 refine ZB (by rfl) (fun K hK=>?_);have hT:=Xw (n:=0) [(1,0),(1,0),(4,0),(4,0),(1,0),(4,0),(4,0)] ([(1,0),(1,0),(4,0),(4,0),(4,0),(1,YJ bz P),(1,YJ oz P)]++us.flatMap JP) Hw8.row (by simpa only[List.cons_append,List.nil_append] using JA HBS) rfl (by omega)
 go_wp2_with (refine hT.mono ?_;clear hT;rintro e w9 ⟨rfl,hR,hk⟩)
 have Hw9:=Hw8.one hR hk;clear hR hk Hw8;refine hK _ _ (Hw9.q) ?_;clear hK K
 try simp only[Act.put,PU]
 refine QC ?_;have f3:=Hw9.blk.frozen 3;have f4:=Hw9.blk.frozen 4;have f5:=Hw9.blk.frozen 5;obtain⟨x0,x1,x2,x3,x4,x5,x6,x7,x8,x9,x10,x11,x12,x13⟩:=YB Hw9.blk;have hlt:=Hw9.blk.lt;have hne:=Hw9.ne;have H2:=(((Hw9.set 3 (.int .i64 0)).set 4 (.int .i64 0)).set 5 (.int .i64 0));simp only[List.setIfInBounds_toArray,List.set_cons_zero,List.set_cons_succ] at H2;have q:=H2.q
 go_wp2_with fail
 have H:=H2;clear H2 q hlt hne Hw9 x0 x1 x2 x3 x4 x5 x6 x7 x8 x9 x10 x11 x12 x13 f3 f4 f5;have hD:=H.drew;clear H;refine ZT (fun W=>W.cell? ⟨rd,0,none⟩=some (.pointer (some ⟨r,0,none⟩))) 6 [[0,2],[1,4,5],[3]] hD.q ?_;simp only[PI]
 iterate 2 (refine ZH ?_;simp only[Act.put,PU])
 refine ZB (by rfl) (fun K hK=>?_);have hT:=QAq (n:=0) [(1,0),(1,0),(4,0),(4,0),(1,0),(4,0),(4,0),(4,0)] ([(1,0),(4,0),(4,0),(4,0),(1,YJ bz P),(1,YJ oz P)]++us.flatMap JP) hD.row (by simpa only[List.cons_append,List.nil_append] using JA HBS) rfl (by omega)
 go_wp2_with (refine hT.mono ?_;clear hT;rintro e w10 ⟨rfl,hR,hk⟩)
 have Hw10:=hD.one hR hk;clear hR hk hD;refine hK _ _ (Hw10.q) ?_;clear hK K
 try simp only[Act.put,PU]
 iterate 2 (refine ZH ?_;simp only[Act.put,PU])
 refine ZB (by rfl) (fun K hK=>?_);have hT:=QAq (n:=0) [(1,0),(1,0),(4,0),(4,0),(1,0),(4,0),(4,0),(4,0),(1,0)] ([(4,0),(4,0),(4,0),(1,YJ bz P),(1,YJ oz P)]++us.flatMap JP) Hw10.row (by simpa only[List.cons_append,List.nil_append] using JA HBS) rfl (by omega)
 go_wp2_with (refine hT.mono ?_;clear hT;rintro e w11 ⟨rfl,hR,hk⟩)
 have Hw11:=Hw10.one hR hk;clear hR hk Hw10;refine hK _ _ (Hw11.q) ?_;clear hK K
 try simp only[Act.put,PU]
 refine QC ?_;have f6:=Hw11.blk.frozen 6;have f7:=Hw11.blk.frozen 7;obtain⟨x0,x1,x2,x3,x4,x5,x6,x7,x8,x9,x10,x11,x12,x13⟩:=YB Hw11.blk;have hlt:=Hw11.blk.lt;have hne:=Hw11.ne;have H2:=((Hw11.set 6 (.int .i64 0)).set 7 (.int .i64 0));simp only[List.setIfInBounds_toArray,List.set_cons_zero,List.set_cons_succ] at H2;have q:=H2.q
 go_wp2_with fail
 have H:=H2;clear H2 q hlt hne Hw11 x0 x1 x2 x3 x4 x5 x6 x7 x8 x9 x10 x11 x12 x13 f6 f7;have hD:=H.drew;clear H;refine ZT (fun W=>W.cell? ⟨rd,0,none⟩=some (.pointer (some ⟨r,0,none⟩))) 8 [[0,2,4],[1,6,7],[3],[5]] hD.q ?_;simp only[PI]
 iterate 3 (refine ZH ?_;simp only[Act.put,PU])
 refine ZB (by rfl) (fun K hK=>?_);have hT:=Xw (n:=0) [(1,0),(1,0),(4,0),(4,0),(1,0),(4,0),(4,0),(4,0),(1,0),(1,0)] ([(4,0),(4,0),(1,YJ bz P),(1,YJ oz P)]++us.flatMap JP) hD.row (by simpa only[List.cons_append,List.nil_append] using JA HBS) rfl (by omega)
 go_wp2_with (refine hT.mono ?_;clear hT;rintro e w12 ⟨rfl,hR,hk⟩)
 have Hw12:=hD.one hR hk;clear hR hk hD;refine hK _ _ (Hw12.q) ?_;clear hK K
 try simp only[Act.put,PU]
 iterate 2 (refine ZH ?_;simp only[Act.put,PU])
 refine ZB (by rfl) (fun K hK=>?_);have hT:=Xw (n:=0) [(1,0),(1,0),(4,0),(4,0),(1,0),(4,0),(4,0),(4,0),(1,0),(1,0),(4,0)] ([(4,0),(1,YJ bz P),(1,YJ oz P)]++us.flatMap JP) Hw12.row (by simpa only[List.cons_append,List.nil_append] using JA HBS) rfl (by omega)
 go_wp2_with (refine hT.mono ?_;clear hT;rintro e w13 ⟨rfl,hR,hk⟩)
 have Hw13:=Hw12.one hR hk;clear hR hk Hw12;refine hK _ _ (Hw13.q) ?_;clear hK K
 try simp only[Act.put,PU]
 refine ZB (by rfl) (fun K hK=>?_);have hT:=Xw (n:=0) [(1,0),(1,0),(4,0),(4,0),(1,0),(4,0),(4,0),(4,0),(1,0),(1,0),(4,0),(4,0)] ([(1,YJ bz P),(1,YJ oz P)]++us.flatMap JP) Hw13.row (by simpa only[List.cons_append,List.nil_append] using JA HBS) rfl (by omega)
 go_wp2_with (refine hT.mono ?_;clear hT;rintro e w14 ⟨rfl,hR,hk⟩)
 have Hw14:=Hw13.one hR hk;clear hR hk Hw13;refine hK _ _ (Hw14.q) ?_;clear hK K
 try simp only[Act.put,PU]
 refine QC ?_;have f8:=Hw14.blk.frozen 8;have f9:=Hw14.blk.frozen 9;have f10:=Hw14.blk.frozen 10;obtain⟨x0,x1,x2,x3,x4,x5,x6,x7,x8,x9,x10,x11,x12,x13⟩:=YB Hw14.blk;have hlt:=Hw14.blk.lt;have hne:=Hw14.ne;have H2:=(((Hw14.set 8 (.int .i64 0)).set 9 (.int .i64 0)).set 10 (.int .i64 0));simp only[List.setIfInBounds_toArray,List.set_cons_zero,List.set_cons_succ] at H2;have q:=H2.q
 go_wp2_with fail
 have H:=H2;clear H2 q hlt hne Hw14 x0 x1 x2 x3 x4 x5 x6 x7 x8 x9 x10 x11 x12 x13 f8 f9 f10;have hD:=H.drew;clear H;refine ZT (fun W=>W.cell? ⟨rd,0,none⟩=some (.pointer (some ⟨r,0,none⟩))) 9 [[0,1,4,5],[2],[3,8],[6],[7]] hD.q ?_;simp only[PI]
 iterate 4 (refine ZH ?_;simp only[Act.put,PU])
 refine ZB (by rfl) (fun K hK=>?_)
 go_wp2_with (refine(hPa _ hD.kept).mono ?_;rintro e w20 ⟨rfl,hk⟩)
 have H20:=hD.keep0 hk;clear hk hD;refine hK _ _ (H20.q) ?_;clear hK K
 try simp only[Act.put,PU]
 refine ZB (by rfl) (fun K hK=>?_);have hT:=Za (p:=P) bz [(1,0),(1,0),(4,0),(4,0),(1,0),(4,0),(4,0),(4,0),(1,0),(1,0),(4,0),(4,0),(4,0)] ([(1,YJ oz P)]++us.flatMap JP) H20.row (by simpa only[List.cons_append,List.nil_append] using JA HBS) rfl hP8 (JA HBZ) (JA HBL)
 go_wp2_with (refine hT.mono ?_;clear hT;rintro e w21 ⟨u1,rfl,hu1,hR,hk⟩;obtain⟨BA,bc,rfl,_⟩:=JB hu1)
 have H21:=H20.one hR hk;replace hu1:=KB hu1 H20.kept.size;clear hR hk H20;refine hK _ _ (H21.q) ?_;clear hK K
 try simp only[Act.put,PU]
 iterate 1 (refine ZH ?_;simp only[Act.put,PU])
 refine ZB (by rfl) (fun K hK=>?_)
 go_wp2_with (refine(hPa _ H21.kept).mono ?_;rintro e w22 ⟨rfl,hk⟩)
 have H22:=H21.keep0 hk;replace hu1:=QB hu1 hk;clear hk H21;refine hK _ _ (H22.q) ?_;clear hK K
 try simp only[Act.put,PU]
 refine ZB (by rfl) (fun K hK=>?_);have hT:=Za (p:=P) oz [(1,0),(1,0),(4,0),(4,0),(1,0),(4,0),(4,0),(4,0),(1,0),(1,0),(4,0),(4,0),(4,0),(1,YJ bz P)] (us.flatMap JP) H22.row (by simpa only[List.cons_append,List.nil_append] using JA HBS) rfl hP8 (JA HOZ) (JA HOL)
 go_wp2_with (refine hT.mono ?_;clear hT;rintro e w23 ⟨u2,rfl,hu2,hR,hk⟩;obtain⟨OA,oc,rfl,_⟩:=JB hu2)
 have H23:=H22.one hR hk;replace hu1:=KQ _ H22.row hk hu1 (by decide);replace hu2:=KB hu2 H22.kept.size;clear hR hk H22;refine hK _ _ (H23.q) ?_;clear hK K
 try simp only[Act.put,PU]
 refine QC ?_;have f11:=H23.blk.frozen 11;have f12:=H23.blk.frozen 12;have hlt:=H23.blk.lt;have hne:=H23.ne;have x11:=(YB H23.blk).2.2.2.2.2.2.2.2.2.2.2.1;have x12:=(YB H23.blk).2.2.2.2.2.2.2.2.2.2.2.2.1
 have hsB:∀ (x:Value) (W:World) (j:Nat) (V:Value) n zs cs,RD w W base rd r v bs (0+2+4+4+1+4+4+4+1+1+4+4+4+1+1) cs→W.ownsRow w.heap.size 3 1 V n zs→(W.setCell ⟨w.heap.size,j,none⟩ x).ownsRow w.heap.size 3 1 V n zs:=fun x W j V n zs cs hH hV=>
  XB hV ((Keep.refl [w.heap.size] W).setCell (p:=⟨w.heap.size,j,none⟩) (.inl (by simp)) x) (fun y hy hm=>by simp at hm;subst hm;exact own_blk_ne hV hH.blk (by decide) hy)
 have H24:=H23.set 11 (.slice BA P bc);have H:=H24.set 12 (.slice OA P oc);replace hu1:=hsB (.slice OA P oc) _ 12 _ _ _ _ H24 (hsB (.slice BA P bc) _ 11 _ _ _ _ H23 hu1);replace hu2:=hsB (.slice OA P oc) _ 12 _ _ _ _ H24 (hsB (.slice BA P bc) _ 11 _ _ _ _ H23 hu2)
 go_wp2_with fail
 clear f11 f12 x11 x12 hlt hne H23 H24 hsB;simp only[List.setIfInBounds_toArray,List.set_cons_zero,List.set_cons_succ] at H

 have hC1:=hC _ H.kept;have hfd:=fun W=>VE (P:=Tryz.prog) Tryz.underlying27 1 rfl Tryz.isAgg3 #[.int .i64 B,.int .i64 8,.int .i64 24] rfl W
 go_wp2_with (refine hC1.mono ?_;clear hC1;rintro e w24 ⟨rfl,hk⟩)
 have H24:=H.keep0 hk;replace hu1:=QB hu1 hk;replace hu2:=QB hu2 hk;clear H hk hfd;obtain⟨FF,hFF⟩:∃ FF:List (Nat×Nat),FF=[(1,0),(1,0),(4,0),(4,0),(1,0),(4,0),(4,0),(4,0),(1,0),(1,0),(4,0),(4,0),(4,0),(1,YJ bz P),(1,YJ oz P)]:=⟨_,rfl⟩;have hFw:widths FF=39:=by rw[hFF];rfl
 have HBS2:Hid (bs=fields (FF++us.flatMap JP)++t):=XC (by rw[hFF];exact JA HBS);clear hFF HBS
 go_loopw [69] (fun i wr=>∃ (k:Nat) (V:Value),k≤8∧i=.int .i64 k∧wr.ownsRow w.heap.size 212 2 V k ((us.take k).flatMap JU)∧RD w wr base rd r v bs (39+5*k) #[.int .i64 0,.int .i64 0,.int .i64 0,.int .i64 0,.int .i64 0,.int .i64 0,.int .i64 0,.int .i64 0,.int .i64 0,.int .i64 0,.int .i64 0,.slice BA P bc,.slice OA P oc,V]∧wr.ownsRow w.heap.size 3 1 (.slice BA P bc) P (QH bz)∧wr.ownsRow w.heap.size 3 1 (.slice OA P oc) P (QH oz)) (fun i _=>8-(intOf i).toNat)
 case atStart=>exact⟨0,_,by omega,rfl,World.ownsRow_nil _ _ _ _,H24,hu1,hu2⟩
 case round=>
  clear H24 hu1 hu2;obtain⟨k,V,hk,rfl,hV,H,hu1,hu2⟩:=hrel;obtain⟨VA,vc,rfl,_⟩:=JB hV
  by_cases hlt:k<8
  · have hltI:((k:Nat):Int)<8:=by omega
    have hkl:k<us.length:=by rw[JA HUL];exact hlt
    obtain⟨ho1,ho2⟩:=JA HUO _ (List.getElem_mem hkl);have hsp:=KAB FF us k hkl;have hwu:=Zj FF us k (by omega) hFw;have htk:Hid ((us.take (k+1)).flatMap JU=(us.take k).flatMap JU++[.int .i64 (us[k].1:Nat),.int .i64 (us[k].2:Nat)]):=XC (by rw[List.take_succ_eq_append_getElem hkl,List.flatMap_append];simp[JU]);generalize us[k].1=st at *;generalize us[k].2=sp at *;generalize FF++(us.take k).flatMap JP=L1 at *;generalize (us.drop (k+1)).flatMap JP=L2 at *;have hb1:bs=fields (L1++(1,st) :: (4,sp) :: L2)++t:=by rw[← hsp];exact JA HBS2
    have hb2:bs=fields ((L1++[(1,st)])++(4,sp) :: L2)++t:=by rw[List.append_assoc];exact hb1
    have hw2:widths (L1++[(1,st)])=39+5*k+1:=by rw[VL,hwu];rfl
    have HB1:=XC hb1;have HB2:=XC hb2;have HW1:=XC hwu;have HW2:=XC hw2;clear hb1 hb2 hsp hwu hw2;have hD:=H.drew;have hV0:=QB hV (Keep.refl [] wr).drew;replace hu1:=QB hu1 (Keep.refl [] wr).drew;replace hu2:=QB hu2 (Keep.refl [] wr).drew;clear H hV
    go_wp2_with fail
    refine ZT (fun W=>W.cell? ⟨rd,0,none⟩=some (.pointer (some ⟨r,0,none⟩))∧W.cell? ⟨w.heap.size,13,none⟩=some (.slice VA k vc)) 8 [[0,1,2,4],[3],[5,6],[7]] ⟨hD.q,(YB hD.blk).2.2.2.2.2.2.2.2.2.2.2.2.2⟩ ?_;simp only[PI]
    iterate 4 (refine ZH ?_;simp only[Act.put,PU])
    refine ZB (by rfl) (fun K hK=>?_);have hT:=QAq (n:=st) L1 ((4,sp) :: L2) hD.row (JA HB1) (JA HW1).symm (by omega)
    go_wp2_with (refine hT.mono ?_;clear hT;rintro e w4 ⟨rfl,hR,hk4⟩)
    have H4:=hD.one hR hk4;replace hV0:=KQ _ hD.row hk4 hV0 (by decide);replace hu1:=KQ _ hD.row hk4 hu1 (by decide);replace hu2:=KQ _ hD.row hk4 hu2 (by decide);clear hR hk4 hD;refine hK _ _ (⟨H4.q,(YB H4.blk).2.2.2.2.2.2.2.2.2.2.2.2.2⟩) ?_;clear hK K
    try simp only[Act.put,PU]
    refine ZB (by rfl) (fun K hK=>?_);have hT:=Xw (n:=sp) (L1++[(1,st)]) L2 H4.row (JA HB2) (JA HW2).symm (by omega)
    go_wp2_with (refine hT.mono ?_;clear hT;rintro e w5 ⟨rfl,hR,hk5⟩)
    have H5:=H4.one hR hk5;replace hV0:=KQ _ H4.row hk5 hV0 (by decide);replace hu1:=KQ _ H4.row hk5 hu1 (by decide);replace hu2:=KQ _ H4.row hk5 hu2 (by decide);clear hR hk5 H4;refine hK _ _ (⟨H5.q,(YB H5.blk).2.2.2.2.2.2.2.2.2.2.2.2.2⟩) ?_;clear hK K
    try simp only[Act.put,PU]
    iterate 1 (refine ZH ?_;simp only[Act.put,PU])
    refine ZB (by rfl) (fun K hK=>?_)
    go_wp2_with fail
    have hka:=(Keep.refl [] w5).alloc (.cells #[.int .i64 (st:Nat),.int .i64 (sp:Nat)] 212);have hbU:=Blk.new w5 212 #[.int .i64 (st:Nat),.int .i64 (sp:Nat)];have H6:=H5.keep0 hka;replace hV0:=QB hV0 hka;replace hu1:=QB hu1 hka;replace hu2:=QB hu2 hka;clear H5 hka;generalize w5.alloc (.cells #[.int .i64 (st:Nat),.int .i64 (sp:Nat)] 212)=w6 at *;generalize w5.heap.size=N6 at *;refine hK _ _ (⟨H6.q,(YB H6.blk).2.2.2.2.2.2.2.2.2.2.2.2.2⟩) ?_;clear hK K
    try simp only[Act.put,PU]
    refine QC ?_
    go_wp2_with (at_builtin
                 refine elemUse.wp_app rfl _ _ rfl w.heap.size _ k ((us.take k).flatMap JU) rfl hV0 ⟨N6,0,none⟩ 1 1 [.int .i64 (st:Nat),.int .i64 (sp:Nat)] rfl (Rd.of_blk (n:=2) hbU (by simp)) (by simp[Value.oneCell']) (by omega) (by omega) H6.kept.size ?_;intro v' w7 hv7 hk7 _ _;have H7:=H6.app hV0 hk7;have f13:=H7.blk.frozen 13;have x13:=(YB H7.blk).2.2.2.2.2.2.2.2.2.2.2.2.2;have hlt7:=H7.blk.lt;obtain⟨VB,vd,rfl,_⟩:=JB hv7)
    have H8:=H7.set 13 (.slice VB (k+1) vd);simp only[List.setIfInBounds_toArray,List.set_cons_zero,List.set_cons_succ] at H8;have hkS:Keep [w.heap.size] w7 (w7.setCell ⟨w.heap.size,13,none⟩ (.slice VB (k+1) vd)):=(Keep.refl _ _).setCell (p:=⟨w.heap.size,13,none⟩) (.inl (by simp)) _;have hne:∀ {e:TypeId} {n s:Nat} {V:Value} {xs:List Value},w7.ownsRow w.heap.size e s V n xs→e≠177→∀ x,V.ownBlock=some x→x∉[w.heap.size]:=fun hq he x hx hm=>by simp at hm;subst hm;exact own_blk_ne hq H7.blk he hx
    have hk7':Keep (Value.slice VA k vc).ownBlock.toList w6 w7:=hk7;have hu1':=XB hu1 hk7' (fun x hx hm=>own_ne hu1 hV0 (by decide) hx (by simpa using hm));have hu2':=XB hu2 hk7' (fun x hx hm=>own_ne hu2 hV0 (by decide) hx (by simpa using hm))
    go_roundw
    case rel=>
     exact⟨k+1,_,by omega,by go_num,by rw[JA htk];exact XB hv7 hkS (hne hv7 (by decide)),H8,XB hu1' hkS (hne hu1' (by decide)),XB hu2' hkS (hne hu2' (by decide))⟩
    case measure=>simp[intOf];omega
  · obtain rfl:k=8:=by omega
    rw[List.take_of_length_le (by have:=JA HUL;omega)] at hV;obtain⟨UA,uc,h1,hc1⟩:=QD hV (by omega);injection h1 with h1 _ h2;subst h1 h2;have x:=H.blk;obtain⟨x0,x1,x2,x3,x4,x5,x6,x7,x8,x9,x10,x11,x12,x13⟩:=YB x;have hlt:=x.lt;have hE1:=hE _ BA OA UA bc oc vc H.kept trivial trivial trivial
    go_wp2_with (
     refine hE1.mono ?_;clear hE1 x0 x1 x2 x3 x4 x5 x6 x7 x8 x9 x10 x11 x12 x13;rintro e w30 ⟨rfl,hk30⟩;have H31:=H.keep0 hk30;obtain⟨x0,x1,x2,x3,x4,x5,x6,x7,x8,x9,x10,x11,x12,x13⟩:=YB H31.blk;have f0:=H31.blk.frozen 0;have f1:=H31.blk.frozen 1;have f2:=H31.blk.frozen 2;have f3:=H31.blk.frozen 3;have f4:=H31.blk.frozen 4;have f5:=H31.blk.frozen 5;have f6:=H31.blk.frozen 6;have f7:=H31.blk.frozen 7;have f8:=H31.blk.frozen 8;have f9:=H31.blk.frozen 9;have f10:=H31.blk.frozen 10;have f11:=H31.blk.frozen 11;have f12:=H31.blk.frozen 12;have f13:=H31.blk.frozen 13;have hlt:=H31.blk.lt)
    have HZ:=((((((((((((((H31.set 0 (.int .i64 0)).set 1 (.int .i64 0)).set 2 (.int .i64 0)).set 3 (.int .i64 0)).set 4 (.int .i64 0)).set 5 (.int .i64 0)).set 6 (.int .i64 0)).set 7 (.int .i64 0)).set 8 (.int .i64 0)).set 9 (.int .i64 0)).set 10 (.int .i64 0)).set 11 (.slice none 0 0)).set 12 (.slice none 0 0)).set 13 (.slice none 0 0));have hkZ:=(((((((((((((((Keep.refl [w.heap.size] w30).setCell (p:=⟨w.heap.size,0,none⟩) (.inl (by simp)) (.int .i64 0)).setCell (p:=⟨w.heap.size,1,none⟩) (.inl (by simp)) (.int .i64 0)).setCell (p:=⟨w.heap.size,2,none⟩) (.inl (by simp)) (.int .i64 0)).setCell (p:=⟨w.heap.size,3,none⟩) (.inl (by simp)) (.int .i64 0)).setCell (p:=⟨w.heap.size,4,none⟩) (.inl (by simp)) (.int .i64 0)).setCell (p:=⟨w.heap.size,5,none⟩) (.inl (by simp)) (.int .i64 0)).setCell (p:=⟨w.heap.size,6,none⟩) (.inl (by simp)) (.int .i64 0)).setCell (p:=⟨w.heap.size,7,none⟩) (.inl (by simp)) (.int .i64 0)).setCell (p:=⟨w.heap.size,8,none⟩) (.inl (by simp)) (.int .i64 0)).setCell (p:=⟨w.heap.size,9,none⟩) (.inl (by simp)) (.int .i64 0)).setCell (p:=⟨w.heap.size,10,none⟩) (.inl (by simp)) (.int .i64 0)).setCell (p:=⟨w.heap.size,11,none⟩) (.inl (by simp)) (.slice none 0 0)).setCell (p:=⟨w.heap.size,12,none⟩) (.inl (by simp)) (.slice none 0 0)).setCell (p:=⟨w.heap.size,13,none⟩) (.inl (by simp)) (.slice none 0 0));simp only[List.setIfInBounds_toArray,List.set_cons_zero,List.set_cons_succ] at HZ;obtain⟨y0,y1,y2,y3,y4,y5,y6,y7,y8,y9,y10,y11,y12,y13⟩:=YB HZ.blk;refine bodyPost_ret (v:=.tuple #[.agg #[.int .i64 0,.int .i64 0,.int .i64 0,.int .i64 0,.int .i64 0,.int .i64 0,.int .i64 0,.int .i64 0,.int .i64 0,.int .i64 0,.int .i64 0,.slice none 0 0,.slice none 0 0,.slice none 0 0],.int .i64 2]) (by simp[results,Tryz.results345,go_sem,y0,y1,y2,y3,y4,y5,y6,y7,y8,y9,y10,y11,y12,y13]) rfl ?_;exact⟨rfl,HZ.kept⟩
theorem VAx (w:World) (g B:Nat) (hg:GeomAt w g B) (rg:PReg) (h:rg.May) (bz oz:List Nat) (us:List (Nat×Nat)) (hbz:∀ z∈bz,z≤1) (hoz:∀ z∈oz,z≤1) (hbl:bz.length=pgs B) (hol:oz.length=pgs B) (hus:ZN us rg.pos.seg) (A:Option Addr) (c:Nat) (ha:Rd w A 128 (bys (QAv rg (pgs B) bz oz us))) :
 Calls Tryz.prog 345 #[.pointer (some ⟨g,0,none⟩),.slice A 128 c] w fun e w'=>∃ BA bc OA oc UA uc,e=.returned (.tuple #[.agg (rg.cs (.slice BA (pgs B) bc) (.slice OA (pgs B) oc) (.slice (some ⟨UA,0,none⟩) 8 uc)).toArray,.int .i64 0]) ∧
  w'.ownsRow w.heap.size 3 1 (.slice BA (pgs B) bc) (pgs B) (QH bz)∧w'.ownsRow w.heap.size 3 1 (.slice OA (pgs B) oc) (pgs B) (QH oz)∧w'.ownsRow w.heap.size 212 2 (.slice (some ⟨UA,0,none⟩) 8 uc) 8 (us.flatMap JU)∧Keep [] w w':=by
 have hpb:=(YC hg.pos hg.few).2;have hPa:=fun W (hk:Keep [] w W)=>PagesG_is W g B (hg.keep0 hk);have hC:=fun W (hk:Keep [] w W)=>ConfigG_is W g B (hg.keep0 hk);have hE:=fun W BA OA UA bc oc uc (hk:Keep [] w W) hb ho hs=>XAd W g B (hg.keep0 hk) rg h BA bc bz OA oc oz hb ho hbz hoz UA uc us hs hus;have hlen:=ZZ rg (pgs B) bz oz hus.1;obtain⟨hul,huo',-⟩:=hus;have huo:∀ u∈us,u.1≤2∧u.2≤2147483647:=fun u hu=>by have:=huo' u hu;omega
 obtain⟨b1,b2,b3,b4,b5,b6,b7,b8,b9,b10,b11⟩:=h;obtain⟨t,hbs⟩:∃ t,QAv rg (pgs B) bz oz us=fields (YAy rg (pgs B) bz oz us)++t:=ZV 128 _;generalize QAv rg (pgs B) bz oz us=bs at *;obtain⟨gen,view,mode,epoch,seq,done,seg,off,lsn,prev,mount⟩:=rg;unfold YAy at hbs;simp only[PReg.cs,PPos.cs] at *;generalize pgs B=P at *;clear huo';have hP8:P≤8:=by omega
 have hF:=fun W (hk:Keep [] w W)=>ZX A 128 c bs W (ha.keep hk) (by omega);have hBk:=Blk.new w 177 #[.int .i64 0,.int .i64 0,.int .i64 0,.int .i64 0,.int .i64 0,.int .i64 0,.int .i64 0,.int .i64 0,.int .i64 0,.int .i64 0,.int .i64 0,.slice none 0 0,.slice none 0 0,.slice none 0 0];have hk0:Keep [] w (w.alloc (.cells #[.int .i64 0,.int .i64 0,.int .i64 0,.int .i64 0,.int .i64 0,.int .i64 0,.int .i64 0,.int .i64 0,.int .i64 0,.int .i64 0,.int .i64 0,.slice none 0 0,.slice none 0 0,.slice none 0 0] 177)):=(Keep.refl _ _).alloc _;have HLEN:=XC hlen;have HBS:=XC hbs;have HUL:=XC hul;have HUO:=XC huo;have HBZ:=XC hbz;have HOZ:=XC hoz;have HBL:=XC hbl;have HOL:=XC hol;clear hlen hbs hul huo hbz hoz hbl hol
 go_enter Tryz.func345,Tryz.ntmps345
 go_wp2_with (
  (refine(hF _ hk0).mono ?_)
  clear hF;rintro e w2 ⟨r,v,rfl,hR,hk2⟩;have hB2:=hBk.keep0 hk2;have hsz:w.heap.size<(w.alloc (.cells #[.int .i64 0,.int .i64 0,.int .i64 0,.int .i64 0,.int .i64 0,.int .i64 0,.int .i64 0,.int .i64 0,.int .i64 0,.int .i64 0,.int .i64 0,.slice none 0 0,.slice none 0 0,.slice none 0 0] 177)).heap.size:=by simp
  have hkw:Keep [] w w2:=hk0.trans0 hk2;clear hBk hk2 hk0)
 generalize (w.alloc (.cells #[.int .i64 0,.int .i64 0,.int .i64 0,.int .i64 0,.int .i64 0,.int .i64 0,.int .i64 0,.int .i64 0,.int .i64 0,.int .i64 0,.int .i64 0,.slice none 0 0,.slice none 0 0,.slice none 0 0] 177)).heap.size=base at *;have hfr:=hR.fresh
 have hltr:∀ x∈r :: v.ownBlock.toList,x<w2.heap.size:=fun x hx=>by
  rcases List.mem_cons.1 hx with rfl | hx
  · exact hR.blk.lt
  · exact(own_mem hR.own hx).2
 have hka:=(Keep.refl [] w2).alloc (.cells #[.pointer (some ⟨r,0,none⟩)] 462)
 have H0:RD w (w2.alloc (.cells #[.pointer (some ⟨r,0,none⟩)] 462)) base w2.heap.size r v bs 0 #[.int .i64 0,.int .i64 0,.int .i64 0,.int .i64 0,.int .i64 0,.int .i64 0,.int .i64 0,.int .i64 0,.int .i64 0,.int .i64 0,.int .i64 0,.slice none 0 0,.slice none 0 0,.slice none 0 0]:=
  ⟨hR.keep0 hka,hB2.keep0 hka,Blk.new w2 _ _,hkw.trans0 hka,hsz,fun hm=>by have:=hltr _ hm;omega,fun e=>by have:=hB2.lt;omega⟩
 generalize w2.heap.size=rd at *;have q:=H0.q;have hT:=JX _ _ r 0 2 v _ H0.row (by rw[JA HLEN];omega)
 go_wp2_with (
  (refine hT.mono ?_)
  clear hT;rintro e w3 ⟨ut,rfl,-,hR3,hk3⟩)
 have H:=H0.one hR3 hk3;clear q hR hB2 hkw hfr hltr hka H0 hR3 hk3;have hD:=H.drew;clear H;refine ZT (fun W=>W.cell? ⟨rd,0,none⟩=some (.pointer (some ⟨r,0,none⟩))) 5 [[0,2],[1,4],[3]] hD.q ?_;simp only[PI]
 iterate 2 (refine ZH ?_;simp only[Act.put,PU])
 refine ZB (by rfl) (fun K hK=>?_);have hT:=Xw (n:=gen) [(1,75),(1,67)] ([(4,view),(1,mode),(4,epoch),(4,seq),(4,done),(1,seg),(1,off),(4,lsn),(4,prev),(4,mount),(1,YJ bz P),(1,YJ oz P)]++us.flatMap JP) hD.row (by simpa only[List.cons_append,List.nil_append] using JA HBS) rfl (by omega)
 go_wp2_with (refine hT.mono ?_;clear hT;rintro e w4 ⟨rfl,hR,hk⟩)
 have Hw4:=hD.one hR hk;clear hR hk hD;refine hK _ _ (Hw4.q) ?_;clear hK K
 try simp only[Act.put,PU]
 iterate 1 (refine ZH ?_;simp only[Act.put,PU])
 refine ZB (by rfl) (fun K hK=>?_);have hT:=Xw (n:=view) [(1,75),(1,67),(4,gen)] ([(1,mode),(4,epoch),(4,seq),(4,done),(1,seg),(1,off),(4,lsn),(4,prev),(4,mount),(1,YJ bz P),(1,YJ oz P)]++us.flatMap JP) Hw4.row (by simpa only[List.cons_append,List.nil_append] using JA HBS) rfl (by omega)
 go_wp2_with (refine hT.mono ?_;clear hT;rintro e w5 ⟨rfl,hR,hk⟩)
 have Hw5:=Hw4.one hR hk;clear hR hk Hw4;refine hK _ _ (Hw5.q) ?_;clear hK K
 try simp only[Act.put,PU]
 refine QC ?_;have f0:=Hw5.blk.frozen 0;have f1:=Hw5.blk.frozen 1;obtain⟨x0,x1,x2,x3,x4,x5,x6,x7,x8,x9,x10,x11,x12,x13⟩:=YB Hw5.blk;have hlt:=Hw5.blk.lt;have hne:=Hw5.ne;have H2:=((Hw5.set 0 (.int .i64 gen)).set 1 (.int .i64 view));simp only[List.setIfInBounds_toArray,List.set_cons_zero,List.set_cons_succ] at H2;have q:=H2.q;have hT:=QAq (n:=mode) [(1,75),(1,67),(4,gen),(4,view)] ([(4,epoch),(4,seq),(4,done),(1,seg),(1,off),(4,lsn),(4,prev),(4,mount),(1,YJ bz P),(1,YJ oz P)]++us.flatMap JP) H2.row (by simpa only[List.cons_append,List.nil_append] using JA HBS) rfl (by omega)
 go_wp2_with (refine hT.mono ?_;clear hT q f0 f1 hlt x0 x1 x2 x3 x4 x5 x6 x7 x8 x9 x10 x11 x12 x13;rintro e w6 ⟨rfl,hR,hk⟩;have H:=H2.one hR hk;have f2:=H.blk.frozen 2;have hlt:=H.blk.lt;have x2:=(YB H.blk).2.2.1)
 have H3:=H.set 2 (.int .i64 mode);simp only[List.setIfInBounds_toArray,List.set_cons_zero,List.set_cons_succ] at H3;clear H H2 hR hk f2 x2 hlt hne Hw5;have H:=H3;clear H3;have hD:=H.drew;clear H;refine ZT (fun W=>W.cell? ⟨rd,0,none⟩=some (.pointer (some ⟨r,0,none⟩))) 7 [[0,2,4],[1,6],[3],[5]] hD.q ?_;simp only[PI]
 iterate 3 (refine ZH ?_;simp only[Act.put,PU])
 refine ZB (by rfl) (fun K hK=>?_);have hT:=Xw (n:=epoch) [(1,75),(1,67),(4,gen),(4,view),(1,mode)] ([(4,seq),(4,done),(1,seg),(1,off),(4,lsn),(4,prev),(4,mount),(1,YJ bz P),(1,YJ oz P)]++us.flatMap JP) hD.row (by simpa only[List.cons_append,List.nil_append] using JA HBS) rfl (by omega)
 go_wp2_with (refine hT.mono ?_;clear hT;rintro e w7 ⟨rfl,hR,hk⟩)
 have Hw7:=hD.one hR hk;clear hR hk hD;refine hK _ _ (Hw7.q) ?_;clear hK K
 try simp only[Act.put,PU]
 iterate 1 (refine ZH ?_;simp only[Act.put,PU])
 refine ZB (by rfl) (fun K hK=>?_);have hT:=Xw (n:=seq) [(1,75),(1,67),(4,gen),(4,view),(1,mode),(4,epoch)] ([(4,done),(1,seg),(1,off),(4,lsn),(4,prev),(4,mount),(1,YJ bz P),(1,YJ oz P)]++us.flatMap JP) Hw7.row (by simpa only[List.cons_append,List.nil_append] using JA HBS) rfl (by omega)
 go_wp2_with (refine hT.mono ?_;clear hT;rintro e w8 ⟨rfl,hR,hk⟩)
 have Hw8:=Hw7.one hR hk;clear hR hk Hw7;refine hK _ _ (Hw8.q) ?_;clear hK K
 try simp only[Act.put,PU]
 refine ZB (by rfl) (fun K hK=>?_);have hT:=Xw (n:=done) [(1,75),(1,67),(4,gen),(4,view),(1,mode),(4,epoch),(4,seq)] ([(1,seg),(1,off),(4,lsn),(4,prev),(4,mount),(1,YJ bz P),(1,YJ oz P)]++us.flatMap JP) Hw8.row (by simpa only[List.cons_append,List.nil_append] using JA HBS) rfl (by omega)
 go_wp2_with (refine hT.mono ?_;clear hT;rintro e w9 ⟨rfl,hR,hk⟩)
 have Hw9:=Hw8.one hR hk;clear hR hk Hw8;refine hK _ _ (Hw9.q) ?_;clear hK K
 try simp only[Act.put,PU]
 refine QC ?_;have f3:=Hw9.blk.frozen 3;have f4:=Hw9.blk.frozen 4;have f5:=Hw9.blk.frozen 5;obtain⟨x0,x1,x2,x3,x4,x5,x6,x7,x8,x9,x10,x11,x12,x13⟩:=YB Hw9.blk;have hlt:=Hw9.blk.lt;have hne:=Hw9.ne;have H2:=(((Hw9.set 3 (.int .i64 epoch)).set 4 (.int .i64 seq)).set 5 (.int .i64 done));simp only[List.setIfInBounds_toArray,List.set_cons_zero,List.set_cons_succ] at H2;have q:=H2.q
 go_wp2_with fail
 have H:=H2;clear H2 q hlt hne Hw9 x0 x1 x2 x3 x4 x5 x6 x7 x8 x9 x10 x11 x12 x13 f3 f4 f5;have hD:=H.drew;clear H;refine ZT (fun W=>W.cell? ⟨rd,0,none⟩=some (.pointer (some ⟨r,0,none⟩))) 6 [[0,2],[1,4,5],[3]] hD.q ?_;simp only[PI]
 iterate 2 (refine ZH ?_;simp only[Act.put,PU])
 refine ZB (by rfl) (fun K hK=>?_);have hT:=QAq (n:=seg) [(1,75),(1,67),(4,gen),(4,view),(1,mode),(4,epoch),(4,seq),(4,done)] ([(1,off),(4,lsn),(4,prev),(4,mount),(1,YJ bz P),(1,YJ oz P)]++us.flatMap JP) hD.row (by simpa only[List.cons_append,List.nil_append] using JA HBS) rfl (by omega)
 go_wp2_with (refine hT.mono ?_;clear hT;rintro e w10 ⟨rfl,hR,hk⟩)
 have Hw10:=hD.one hR hk;clear hR hk hD;refine hK _ _ (Hw10.q) ?_;clear hK K
 try simp only[Act.put,PU]
 iterate 2 (refine ZH ?_;simp only[Act.put,PU])
 refine ZB (by rfl) (fun K hK=>?_);have hT:=QAq (n:=off) [(1,75),(1,67),(4,gen),(4,view),(1,mode),(4,epoch),(4,seq),(4,done),(1,seg)] ([(4,lsn),(4,prev),(4,mount),(1,YJ bz P),(1,YJ oz P)]++us.flatMap JP) Hw10.row (by simpa only[List.cons_append,List.nil_append] using JA HBS) rfl (by omega)
 go_wp2_with (refine hT.mono ?_;clear hT;rintro e w11 ⟨rfl,hR,hk⟩)
 have Hw11:=Hw10.one hR hk;clear hR hk Hw10;refine hK _ _ (Hw11.q) ?_;clear hK K
 try simp only[Act.put,PU]
 refine QC ?_;have f6:=Hw11.blk.frozen 6;have f7:=Hw11.blk.frozen 7;obtain⟨x0,x1,x2,x3,x4,x5,x6,x7,x8,x9,x10,x11,x12,x13⟩:=YB Hw11.blk;have hlt:=Hw11.blk.lt;have hne:=Hw11.ne;have H2:=((Hw11.set 6 (.int .i64 seg)).set 7 (.int .i64 off));simp only[List.setIfInBounds_toArray,List.set_cons_zero,List.set_cons_succ] at H2;have q:=H2.q
 go_wp2_with fail
 have H:=H2;clear H2 q hlt hne Hw11 x0 x1 x2 x3 x4 x5 x6 x7 x8 x9 x10 x11 x12 x13 f6 f7;have hD:=H.drew;clear H;refine ZT (fun W=>W.cell? ⟨rd,0,none⟩=some (.pointer (some ⟨r,0,none⟩))) 8 [[0,2,4],[1,6,7],[3],[5]] hD.q ?_;simp only[PI]
 iterate 3 (refine ZH ?_;simp only[Act.put,PU])
 refine ZB (by rfl) (fun K hK=>?_);have hT:=Xw (n:=lsn) [(1,75),(1,67),(4,gen),(4,view),(1,mode),(4,epoch),(4,seq),(4,done),(1,seg),(1,off)] ([(4,prev),(4,mount),(1,YJ bz P),(1,YJ oz P)]++us.flatMap JP) hD.row (by simpa only[List.cons_append,List.nil_append] using JA HBS) rfl (by omega)
 go_wp2_with (refine hT.mono ?_;clear hT;rintro e w12 ⟨rfl,hR,hk⟩)
 have Hw12:=hD.one hR hk;clear hR hk hD;refine hK _ _ (Hw12.q) ?_;clear hK K
 try simp only[Act.put,PU]
 iterate 2 (refine ZH ?_;simp only[Act.put,PU])
 refine ZB (by rfl) (fun K hK=>?_);have hT:=Xw (n:=prev) [(1,75),(1,67),(4,gen),(4,view),(1,mode),(4,epoch),(4,seq),(4,done),(1,seg),(1,off),(4,lsn)] ([(4,mount),(1,YJ bz P),(1,YJ oz P)]++us.flatMap JP) Hw12.row (by simpa only[List.cons_append,List.nil_append] using JA HBS) rfl (by omega)
 go_wp2_with (refine hT.mono ?_;clear hT;rintro e w13 ⟨rfl,hR,hk⟩)
 have Hw13:=Hw12.one hR hk;clear hR hk Hw12;refine hK _ _ (Hw13.q) ?_;clear hK K
 try simp only[Act.put,PU]
 refine ZB (by rfl) (fun K hK=>?_);have hT:=Xw (n:=mount) [(1,75),(1,67),(4,gen),(4,view),(1,mode),(4,epoch),(4,seq),(4,done),(1,seg),(1,off),(4,lsn),(4,prev)] ([(1,YJ bz P),(1,YJ oz P)]++us.flatMap JP) Hw13.row (by simpa only[List.cons_append,List.nil_append] using JA HBS) rfl (by omega)
 go_wp2_with (refine hT.mono ?_;clear hT;rintro e w14 ⟨rfl,hR,hk⟩)
 have Hw14:=Hw13.one hR hk;clear hR hk Hw13;refine hK _ _ (Hw14.q) ?_;clear hK K
 try simp only[Act.put,PU]
 refine QC ?_;have f8:=Hw14.blk.frozen 8;have f9:=Hw14.blk.frozen 9;have f10:=Hw14.blk.frozen 10;obtain⟨x0,x1,x2,x3,x4,x5,x6,x7,x8,x9,x10,x11,x12,x13⟩:=YB Hw14.blk;have hlt:=Hw14.blk.lt;have hne:=Hw14.ne;have H2:=(((Hw14.set 8 (.int .i64 lsn)).set 9 (.int .i64 prev)).set 10 (.int .i64 mount));simp only[List.setIfInBounds_toArray,List.set_cons_zero,List.set_cons_succ] at H2;have q:=H2.q
 go_wp2_with fail
 have H:=H2;clear H2 q hlt hne Hw14 x0 x1 x2 x3 x4 x5 x6 x7 x8 x9 x10 x11 x12 x13 f8 f9 f10;have hD:=H.drew;clear H;refine ZT (fun W=>W.cell? ⟨rd,0,none⟩=some (.pointer (some ⟨r,0,none⟩))) 9 [[0,1,4,5],[2],[3,8],[6],[7]] hD.q ?_;simp only[PI]
 iterate 4 (refine ZH ?_;simp only[Act.put,PU])
 refine ZB (by rfl) (fun K hK=>?_)
 go_wp2_with (refine(hPa _ hD.kept).mono ?_;rintro e w20 ⟨rfl,hk⟩)
 have H20:=hD.keep0 hk;clear hk hD;refine hK _ _ (H20.q) ?_;clear hK K
 try simp only[Act.put,PU]
 refine ZB (by rfl) (fun K hK=>?_);have hT:=Za (p:=P) bz [(1,75),(1,67),(4,gen),(4,view),(1,mode),(4,epoch),(4,seq),(4,done),(1,seg),(1,off),(4,lsn),(4,prev),(4,mount)] ([(1,YJ oz P)]++us.flatMap JP) H20.row (by simpa only[List.cons_append,List.nil_append] using JA HBS) rfl hP8 (JA HBZ) (JA HBL)
 go_wp2_with (refine hT.mono ?_;clear hT;rintro e w21 ⟨u1,rfl,hu1,hR,hk⟩;obtain⟨BA,bc,rfl,_⟩:=JB hu1)
 have H21:=H20.one hR hk;replace hu1:=KB hu1 H20.kept.size;clear hR hk H20;refine hK _ _ (H21.q) ?_;clear hK K
 try simp only[Act.put,PU]
 iterate 1 (refine ZH ?_;simp only[Act.put,PU])
 refine ZB (by rfl) (fun K hK=>?_)
 go_wp2_with (refine(hPa _ H21.kept).mono ?_;rintro e w22 ⟨rfl,hk⟩)
 have H22:=H21.keep0 hk;replace hu1:=QB hu1 hk;clear hk H21;refine hK _ _ (H22.q) ?_;clear hK K
 try simp only[Act.put,PU]
 refine ZB (by rfl) (fun K hK=>?_);have hT:=Za (p:=P) oz [(1,75),(1,67),(4,gen),(4,view),(1,mode),(4,epoch),(4,seq),(4,done),(1,seg),(1,off),(4,lsn),(4,prev),(4,mount),(1,YJ bz P)] (us.flatMap JP) H22.row (by simpa only[List.cons_append,List.nil_append] using JA HBS) rfl hP8 (JA HOZ) (JA HOL)
 go_wp2_with (refine hT.mono ?_;clear hT;rintro e w23 ⟨u2,rfl,hu2,hR,hk⟩;obtain⟨OA,oc,rfl,_⟩:=JB hu2)
 have H23:=H22.one hR hk;replace hu1:=KQ _ H22.row hk hu1 (by decide);replace hu2:=KB hu2 H22.kept.size;clear hR hk H22;refine hK _ _ (H23.q) ?_;clear hK K
 try simp only[Act.put,PU]
 refine QC ?_;have f11:=H23.blk.frozen 11;have f12:=H23.blk.frozen 12;have hlt:=H23.blk.lt;have hne:=H23.ne;have x11:=(YB H23.blk).2.2.2.2.2.2.2.2.2.2.2.1;have x12:=(YB H23.blk).2.2.2.2.2.2.2.2.2.2.2.2.1
 have hsB:∀ (x:Value) (W:World) (j:Nat) (V:Value) n zs cs,RD w W base rd r v bs (0+2+4+4+1+4+4+4+1+1+4+4+4+1+1) cs→W.ownsRow w.heap.size 3 1 V n zs→(W.setCell ⟨w.heap.size,j,none⟩ x).ownsRow w.heap.size 3 1 V n zs:=fun x W j V n zs cs hH hV=>
  XB hV ((Keep.refl [w.heap.size] W).setCell (p:=⟨w.heap.size,j,none⟩) (.inl (by simp)) x) (fun y hy hm=>by simp at hm;subst hm;exact own_blk_ne hV hH.blk (by decide) hy)
 have H24:=H23.set 11 (.slice BA P bc);have H:=H24.set 12 (.slice OA P oc);replace hu1:=hsB (.slice OA P oc) _ 12 _ _ _ _ H24 (hsB (.slice BA P bc) _ 11 _ _ _ _ H23 hu1);replace hu2:=hsB (.slice OA P oc) _ 12 _ _ _ _ H24 (hsB (.slice BA P bc) _ 11 _ _ _ _ H23 hu2)
 go_wp2_with fail
 clear f11 f12 x11 x12 hlt hne H23 H24 hsB;simp only[List.setIfInBounds_toArray,List.set_cons_zero,List.set_cons_succ] at H

 have hC1:=hC _ H.kept;have hfd:=fun W=>VE (P:=Tryz.prog) Tryz.underlying27 1 rfl Tryz.isAgg3 #[.int .i64 B,.int .i64 8,.int .i64 24] rfl W
 go_wp2_with (refine hC1.mono ?_;clear hC1;rintro e w24 ⟨rfl,hk⟩)
 have H24:=H.keep0 hk;replace hu1:=QB hu1 hk;replace hu2:=QB hu2 hk;clear H hk hfd;obtain⟨FF,hFF⟩:∃ FF:List (Nat×Nat),FF=[(1,75),(1,67),(4,gen),(4,view),(1,mode),(4,epoch),(4,seq),(4,done),(1,seg),(1,off),(4,lsn),(4,prev),(4,mount),(1,YJ bz P),(1,YJ oz P)]:=⟨_,rfl⟩;have hFw:widths FF=39:=by rw[hFF];rfl
 have HBS2:Hid (bs=fields (FF++us.flatMap JP)++t):=XC (by rw[hFF];exact JA HBS);clear hFF HBS
 go_loopw [69] (fun i wr=>∃ (k:Nat) (V:Value),k≤8∧i=.int .i64 k∧wr.ownsRow w.heap.size 212 2 V k ((us.take k).flatMap JU)∧RD w wr base rd r v bs (39+5*k) #[.int .i64 gen,.int .i64 view,.int .i64 mode,.int .i64 epoch,.int .i64 seq,.int .i64 done,.int .i64 seg,.int .i64 off,.int .i64 lsn,.int .i64 prev,.int .i64 mount,.slice BA P bc,.slice OA P oc,V]∧wr.ownsRow w.heap.size 3 1 (.slice BA P bc) P (QH bz)∧wr.ownsRow w.heap.size 3 1 (.slice OA P oc) P (QH oz)) (fun i _=>8-(intOf i).toNat)
 case atStart=>exact⟨0,_,by omega,rfl,World.ownsRow_nil _ _ _ _,H24,hu1,hu2⟩
 case round=>
  clear H24 hu1 hu2;obtain⟨k,V,hk,rfl,hV,H,hu1,hu2⟩:=hrel;obtain⟨VA,vc,rfl,_⟩:=JB hV
  by_cases hlt:k<8
  · have hltI:((k:Nat):Int)<8:=by omega
    have hkl:k<us.length:=by rw[JA HUL];exact hlt
    obtain⟨ho1,ho2⟩:=JA HUO _ (List.getElem_mem hkl);have hsp:=KAB FF us k hkl;have hwu:=Zj FF us k (by omega) hFw;have htk:Hid ((us.take (k+1)).flatMap JU=(us.take k).flatMap JU++[.int .i64 (us[k].1:Nat),.int .i64 (us[k].2:Nat)]):=XC (by rw[List.take_succ_eq_append_getElem hkl,List.flatMap_append];simp[JU]);generalize us[k].1=st at *;generalize us[k].2=sp at *;generalize FF++(us.take k).flatMap JP=L1 at *;generalize (us.drop (k+1)).flatMap JP=L2 at *;have hb1:bs=fields (L1++(1,st) :: (4,sp) :: L2)++t:=by rw[← hsp];exact JA HBS2
    have hb2:bs=fields ((L1++[(1,st)])++(4,sp) :: L2)++t:=by rw[List.append_assoc];exact hb1
    have hw2:widths (L1++[(1,st)])=39+5*k+1:=by rw[VL,hwu];rfl
    have HB1:=XC hb1;have HB2:=XC hb2;have HW1:=XC hwu;have HW2:=XC hw2;clear hb1 hb2 hsp hwu hw2;have hD:=H.drew;have hV0:=QB hV (Keep.refl [] wr).drew;replace hu1:=QB hu1 (Keep.refl [] wr).drew;replace hu2:=QB hu2 (Keep.refl [] wr).drew;clear H hV
    go_wp2_with fail
    refine ZT (fun W=>W.cell? ⟨rd,0,none⟩=some (.pointer (some ⟨r,0,none⟩))∧W.cell? ⟨w.heap.size,13,none⟩=some (.slice VA k vc)) 8 [[0,1,2,4],[3],[5,6],[7]] ⟨hD.q,(YB hD.blk).2.2.2.2.2.2.2.2.2.2.2.2.2⟩ ?_;simp only[PI]
    iterate 4 (refine ZH ?_;simp only[Act.put,PU])
    refine ZB (by rfl) (fun K hK=>?_);have hT:=QAq (n:=st) L1 ((4,sp) :: L2) hD.row (JA HB1) (JA HW1).symm (by omega)
    go_wp2_with (refine hT.mono ?_;clear hT;rintro e w4 ⟨rfl,hR,hk4⟩)
    have H4:=hD.one hR hk4;replace hV0:=KQ _ hD.row hk4 hV0 (by decide);replace hu1:=KQ _ hD.row hk4 hu1 (by decide);replace hu2:=KQ _ hD.row hk4 hu2 (by decide);clear hR hk4 hD;refine hK _ _ (⟨H4.q,(YB H4.blk).2.2.2.2.2.2.2.2.2.2.2.2.2⟩) ?_;clear hK K
    try simp only[Act.put,PU]
    refine ZB (by rfl) (fun K hK=>?_);have hT:=Xw (n:=sp) (L1++[(1,st)]) L2 H4.row (JA HB2) (JA HW2).symm (by omega)
    go_wp2_with (refine hT.mono ?_;clear hT;rintro e w5 ⟨rfl,hR,hk5⟩)
    have H5:=H4.one hR hk5;replace hV0:=KQ _ H4.row hk5 hV0 (by decide);replace hu1:=KQ _ H4.row hk5 hu1 (by decide);replace hu2:=KQ _ H4.row hk5 hu2 (by decide);clear hR hk5 H4;refine hK _ _ (⟨H5.q,(YB H5.blk).2.2.2.2.2.2.2.2.2.2.2.2.2⟩) ?_;clear hK K
    try simp only[Act.put,PU]
    iterate 1 (refine ZH ?_;simp only[Act.put,PU])
    refine ZB (by rfl) (fun K hK=>?_)
    go_wp2_with fail
    have hka:=(Keep.refl [] w5).alloc (.cells #[.int .i64 (st:Nat),.int .i64 (sp:Nat)] 212);have hbU:=Blk.new w5 212 #[.int .i64 (st:Nat),.int .i64 (sp:Nat)];have H6:=H5.keep0 hka;replace hV0:=QB hV0 hka;replace hu1:=QB hu1 hka;replace hu2:=QB hu2 hka;clear H5 hka;generalize w5.alloc (.cells #[.int .i64 (st:Nat),.int .i64 (sp:Nat)] 212)=w6 at *;generalize w5.heap.size=N6 at *;refine hK _ _ (⟨H6.q,(YB H6.blk).2.2.2.2.2.2.2.2.2.2.2.2.2⟩) ?_;clear hK K
    try simp only[Act.put,PU]
    refine QC ?_
    go_wp2_with (at_builtin
                 refine elemUse.wp_app rfl _ _ rfl w.heap.size _ k ((us.take k).flatMap JU) rfl hV0 ⟨N6,0,none⟩ 1 1 [.int .i64 (st:Nat),.int .i64 (sp:Nat)] rfl (Rd.of_blk (n:=2) hbU (by simp)) (by simp[Value.oneCell']) (by omega) (by omega) H6.kept.size ?_;intro v' w7 hv7 hk7 _ _;have H7:=H6.app hV0 hk7;have f13:=H7.blk.frozen 13;have x13:=(YB H7.blk).2.2.2.2.2.2.2.2.2.2.2.2.2;have hlt7:=H7.blk.lt;obtain⟨VB,vd,rfl,_⟩:=JB hv7)
    have H8:=H7.set 13 (.slice VB (k+1) vd);simp only[List.setIfInBounds_toArray,List.set_cons_zero,List.set_cons_succ] at H8;have hkS:Keep [w.heap.size] w7 (w7.setCell ⟨w.heap.size,13,none⟩ (.slice VB (k+1) vd)):=(Keep.refl _ _).setCell (p:=⟨w.heap.size,13,none⟩) (.inl (by simp)) _;have hne:∀ {e:TypeId} {n s:Nat} {V:Value} {xs:List Value},w7.ownsRow w.heap.size e s V n xs→e≠177→∀ x,V.ownBlock=some x→x∉[w.heap.size]:=fun hq he x hx hm=>by simp at hm;subst hm;exact own_blk_ne hq H7.blk he hx
    have hk7':Keep (Value.slice VA k vc).ownBlock.toList w6 w7:=hk7;have hu1':=XB hu1 hk7' (fun x hx hm=>own_ne hu1 hV0 (by decide) hx (by simpa using hm));have hu2':=XB hu2 hk7' (fun x hx hm=>own_ne hu2 hV0 (by decide) hx (by simpa using hm))
    go_roundw
    case rel=>
     exact⟨k+1,_,by omega,by go_num,by rw[JA htk];exact XB hv7 hkS (hne hv7 (by decide)),H8,XB hu1' hkS (hne hu1' (by decide)),XB hu2' hkS (hne hu2' (by decide))⟩
    case measure=>simp[intOf];omega
  · obtain rfl:k=8:=by omega
    rw[List.take_of_length_le (by have:=JA HUL;omega)] at hV;obtain⟨UA,uc,h1,hc1⟩:=QD hV (by omega);injection h1 with h1 _ h2;subst h1 h2;have x:=H.blk;obtain⟨x0,x1,x2,x3,x4,x5,x6,x7,x8,x9,x10,x11,x12,x13⟩:=YB x;have hlt:=x.lt;have hE1:=hE _ BA OA UA bc oc vc H.kept (Rd.of_own hu1) (Rd.of_own hu2) (Rd.of_ownN hV)
    go_wp2_with (
     refine hE1.mono ?_;clear hE1 x0 x1 x2 x3 x4 x5 x6 x7 x8 x9 x10 x11 x12 x13;rintro e w30 ⟨u,rfl,hu,hk30⟩;obtain⟨ZA,zc,rfl,_⟩:=JB hu;have H31:=H.keep0 hk30;have hEq:=KL ZA A 128 128 zc c bs bs w30 (Rd.of_own hu) (ha.keep H31.kept);obtain⟨x0,x1,x2,x3,x4,x5,x6,x7,x8,x9,x10,x11,x12,x13⟩:=YB H31.blk;have f0:=H31.blk.frozen 0;have f1:=H31.blk.frozen 1;have f2:=H31.blk.frozen 2;have f3:=H31.blk.frozen 3;have f4:=H31.blk.frozen 4;have f5:=H31.blk.frozen 5;have f6:=H31.blk.frozen 6;have f7:=H31.blk.frozen 7;have f8:=H31.blk.frozen 8;have f9:=H31.blk.frozen 9;have f10:=H31.blk.frozen 10;have f11:=H31.blk.frozen 11;have f12:=H31.blk.frozen 12;have f13:=H31.blk.frozen 13;have hlt:=H31.blk.lt)
    go_wp2_with (refine hEq.mono ?_;clear hEq;rintro e w' ⟨rfl,rfl⟩)
    have HZ:=((((((((((((((H31.set 0 (.int .i64 gen)).set 1 (.int .i64 view)).set 2 (.int .i64 mode)).set 3 (.int .i64 epoch)).set 4 (.int .i64 seq)).set 5 (.int .i64 done)).set 6 (.int .i64 seg)).set 7 (.int .i64 off)).set 8 (.int .i64 lsn)).set 9 (.int .i64 prev)).set 10 (.int .i64 mount)).set 11 (.slice BA P bc)).set 12 (.slice OA P oc)).set 13 (.slice (some ⟨UA,0,none⟩) 8 vc));have hkZ:=(((((((((((((((Keep.refl [w.heap.size] w30).setCell (p:=⟨w.heap.size,0,none⟩) (.inl (by simp)) (.int .i64 gen)).setCell (p:=⟨w.heap.size,1,none⟩) (.inl (by simp)) (.int .i64 view)).setCell (p:=⟨w.heap.size,2,none⟩) (.inl (by simp)) (.int .i64 mode)).setCell (p:=⟨w.heap.size,3,none⟩) (.inl (by simp)) (.int .i64 epoch)).setCell (p:=⟨w.heap.size,4,none⟩) (.inl (by simp)) (.int .i64 seq)).setCell (p:=⟨w.heap.size,5,none⟩) (.inl (by simp)) (.int .i64 done)).setCell (p:=⟨w.heap.size,6,none⟩) (.inl (by simp)) (.int .i64 seg)).setCell (p:=⟨w.heap.size,7,none⟩) (.inl (by simp)) (.int .i64 off)).setCell (p:=⟨w.heap.size,8,none⟩) (.inl (by simp)) (.int .i64 lsn)).setCell (p:=⟨w.heap.size,9,none⟩) (.inl (by simp)) (.int .i64 prev)).setCell (p:=⟨w.heap.size,10,none⟩) (.inl (by simp)) (.int .i64 mount)).setCell (p:=⟨w.heap.size,11,none⟩) (.inl (by simp)) (.slice BA P bc)).setCell (p:=⟨w.heap.size,12,none⟩) (.inl (by simp)) (.slice OA P oc)).setCell (p:=⟨w.heap.size,13,none⟩) (.inl (by simp)) (.slice (some ⟨UA,0,none⟩) 8 vc));simp only[List.setIfInBounds_toArray,List.set_cons_zero,List.set_cons_succ] at HZ;obtain⟨y0,y1,y2,y3,y4,y5,y6,y7,y8,y9,y10,y11,y12,y13⟩:=YB HZ.blk;refine bodyPost_ret (v:=.tuple #[.agg #[.int .i64 gen,.int .i64 view,.int .i64 mode,.int .i64 epoch,.int .i64 seq,.int .i64 done,.int .i64 seg,.int .i64 off,.int .i64 lsn,.int .i64 prev,.int .i64 mount,.slice BA P bc,.slice OA P oc,.slice (some ⟨UA,0,none⟩) 8 vc],.int .i64 0]) (by simp[results,Tryz.results345,go_sem,y0,y1,y2,y3,y4,y5,y6,y7,y8,y9,y10,y11,y12,y13]) rfl ?_;have hne:∀ {e:TypeId} {n s:Nat} {V:Value} {xs:List Value},w30.ownsRow w.heap.size e s V n xs→e≠177→∀ x,V.ownBlock=some x→x∉[w.heap.size]:=fun hq he x hx hm=>by simp at hm;subst hm;exact own_blk_ne hq H31.blk he hx
    exact⟨BA,bc,OA,oc,UA,vc,rfl,XB (QB hu1 hk30) hkZ (hne (QB hu1 hk30) (by decide)),XB (QB hu2 hk30) hkZ (hne (QB hu2 hk30) (by decide)),XB (QB hV hk30) hkZ (hne (QB hV hk30) (by decide)),HZ.kept⟩
end
end Go.Proofs.YtkonbpfbjiepfaaGreat
