/- Lemmas of the proof, with their conditions. -/
import Derived.Test.YthgphmfipnjllaaGreatV15
import Derived.Test.YthgphmfipnjllaaGreatV17
import Derived.Test.YthgphmfipnjllaaGreatV22
namespace Go.Proofs.YthgphmfipnjllaaGreat
set_option linter.unusedSimpArgs false
set_option linter.unusedVariables false
set_option maxHeartbeats 4000000
set_option maxRecDepth 50000
section
open Go.RowKit
theorem VAc (z:Nat) (hz:z≤1) (w:World):Calls Tryz.prog 378 #[.int .i64 (z:Nat)] w fun e w'=>e=.returned (.bool false)∧w=w':=by
 obtain rfl | rfl:z=0∨z=1:=by omega
 all_goals
  go_enter Tryz.func378,Tryz.ntmps378
  go_wp2
  go_ret
  exact⟨rfl,rfl⟩
theorem YAE (A:Option Addr) (n c:Nat) (zs:List Nat) (w:World) (ha:Rd w A n (ZP zs)) (h:∀ z∈zs,z≤1) (hn:n≤1000000) :
 Calls Tryz.prog 309 #[.slice A n c,.func (.func 378) #[] #[]] w fun e w'=>e=.returned (.int .i64 (-1))∧w=w':=by
 have hl:zs.length=n:=by simpa using ha.1
 have HL:=ZB hl
 clear hl
 go_enter Tryz.func309,Tryz.ntmps309
 go_wp2_with fail
 go_loopw [5,8] (fun _ i wr=>∃ k:Nat,k≤n∧i=.int .i64 k∧w=wr) (fun _ i _=>n-(intOf i).toNat)
 case atStart=>exact⟨0,Nat.zero_le _,rfl,rfl⟩
 case round=>
  obtain⟨k,hk,rfl,rfl⟩:=hrel
  by_cases hlt:k<n
  · have hkl:k<zs.length:=by rw[QA HL];exact hlt
    have hltI:((k:Nat):Int)<(n:Nat):=by omega
    obtain⟨b,o,u,rfl,hx,hb,hc⟩:=ha.at_ hlt
    simp only[ZP,List.getElem?_map,List.getElem?_eq_getElem hkl,Option.map_some,Option.some.injEq] at hx
    subst hx
    have hT:=VAc _ (h _ (List.getElem_mem hkl)) w
    generalize zs[k]=z at *
    go_wp2_with (refine hT.mono ?_;rintro e w' ⟨rfl,rfl⟩)
    go_roundw
    case rel=>exact⟨k+1,by omega,by go_num,trivial⟩
    case measure=>simp[intOf];omega
  · obtain rfl:n=k:=by omega
    go_wp2
    go_ret
    exact⟨rfl,rfl⟩
theorem Zs (A:Option Addr) (n c:Nat) (zs:List Nat) (w:World) (ha:Rd w A n (ZP zs)) (h:∀ z∈zs,z≤1) (hn:n≤1000000) :
 Calls Tryz.prog 355 #[.slice A n c,.int .i64 (n:Nat)] w fun e w'=>e=.returned (.bool true)∧w=w':=by
 have hT:=YAE A n c zs w ha h hn
 have hC:Calls Tryz.prog 211 #[.slice A n c,.func (.func 378) #[] #[]] w fun e w'=>e=.returned (.bool false)∧w=w':=by
  go_enter Tryz.func211,Tryz.ntmps211
  go_wp2_with (refine hT.mono ?_;clear hT;rintro e w' ⟨rfl,rfl⟩)
  go_ret
  exact⟨rfl,rfl⟩
 go_enter Tryz.func355,Tryz.ntmps355
 go_wp2_with (refine hC.mono ?_;clear hC;rintro e w' ⟨rfl,rfl⟩)
 go_ret
 exact⟨rfl,rfl⟩
structure PReg where
 gen:Nat
 view:Nat
 mode:Nat
 epoch:Nat
 seq:Nat
 done:Nat
 pos:PPos
def PReg.May (r:PReg):Prop:=(1≤r.gen∧r.gen≤2147483647)∧(1≤r.view∧r.view≤2147483647)∧(r.mode=1∨r.mode=2)∧r.epoch≤2147483647∧r.seq≤2147483647∧r.done≤r.seq∧r.pos.May
def PReg.cs (r:PReg) (B O S:Value):List Value:=
 [.int .i64 r.gen,.int .i64 r.view,.int .i64 r.mode,.int .i64 r.epoch,.int .i64 r.seq,.int .i64 r.done,.int .i64 r.pos.seg,.int .i64 r.pos.off,.int .i64 r.pos.lsn,.int .i64 r.pos.prev,.int .i64 r.pos.mount,B,O,S]
theorem KD {w:World} {g:Nat} {t:TypeId} {x0 x1 x2 x3 x4 x5 x6 x7 x8 x9 x10 x11 x12 x13:Value} (h:Blk w g t #[x0,x1,x2,x3,x4,x5,x6,x7,x8,x9,x10,x11,x12,x13]) :
 w.cell? ⟨g,0,none⟩=some x0∧w.cell? ⟨g,1,none⟩=some x1∧w.cell? ⟨g,2,none⟩=some x2∧w.cell? ⟨g,3,none⟩=some x3∧w.cell? ⟨g,4,none⟩=some x4∧w.cell? ⟨g,5,none⟩=some x5∧w.cell? ⟨g,6,none⟩=some x6∧w.cell? ⟨g,7,none⟩=some x7 ∧
 w.cell? ⟨g,8,none⟩=some x8∧w.cell? ⟨g,9,none⟩=some x9∧w.cell? ⟨g,10,none⟩=some x10∧w.cell? ⟨g,11,none⟩=some x11∧w.cell? ⟨g,12,none⟩=some x12∧w.cell? ⟨g,13,none⟩=some x13:=
 ⟨by simpa using h.cell 0,by simpa using h.cell 1,by simpa using h.cell 2,by simpa using h.cell 3,by simpa using h.cell 4,by simpa using h.cell 5,by simpa using h.cell 6,by simpa using h.cell 7,by simpa using h.cell 8,by simpa using h.cell 9,by simpa using h.cell 10,by simpa using h.cell 11,by simpa using h.cell 12,by simpa using h.cell 13⟩
theorem XN (n lo hi:Int) (w:World) (h:lo≤n∧n≤hi):Calls Tryz.prog 356 #[.int .i64 n,.int .i64 lo,.int .i64 hi] w fun e w'=>e=.returned (.bool true)∧w=w':=by
 obtain⟨h1,h2⟩:=h
 go_enter Tryz.func356,Tryz.ntmps356
 go_wp2
 go_ret
 exact⟨rfl,rfl⟩
theorem Vx (r:PReg) (h:r.May) (BA:Option Addr) (bn bc:Nat) (OA:Option Addr) (on oc:Nat) (SA:Option Addr) (sn sc:Nat) (w:World) :
 Calls Tryz.prog 354 #[.agg (r.cs (.slice BA bn bc) (.slice OA on oc) (.slice SA sn sc)).toArray] w fun e w'=>e=.returned (.bool true)∧Keep [] w w':=by
 obtain⟨gen,view,mode,epoch,seq,done,seg,off,lsn,prev,mount⟩:=r
 obtain⟨h1,h2,h3,h4,h5,h6,h7⟩:=h
 simp only[PReg.cs] at *
 have hT1:=fun W=>XN gen 1 2147483647 W ⟨by omega,by omega⟩
 have hT2:=fun W=>XN view 1 2147483647 W ⟨by omega,by omega⟩
 have hT3:=fun W=>XN epoch 0 2147483647 W ⟨by omega,by omega⟩
 have hT4:=fun W=>XN seq 0 2147483647 W ⟨by omega,by omega⟩
 have hT5:=fun W=>XN done 0 seq W ⟨by omega,by omega⟩
 rcases h3 with rfl | rfl
 all_goals
  go_enter Tryz.func354,Tryz.ntmps354
  go_wp2_with (first | (refine(hT1 _).mono ?_;clear hT1;rintro e w' ⟨rfl,rfl⟩) | (refine(hT2 _).mono ?_;clear hT2;rintro e w' ⟨rfl,rfl⟩) | (refine(hT3 _).mono ?_;clear hT3;rintro e w' ⟨rfl,rfl⟩) | (refine(hT4 _).mono ?_;clear hT4;rintro e w' ⟨rfl,rfl⟩) | (refine(hT5 _).mono ?_;clear hT5;rintro e w' ⟨rfl,rfl⟩))
  go_ret
  exact⟨rfl,(Keep.refl _ _).alloc _⟩
end
section
open Go.RowKit
def VZ (us:List (Nat×Nat)) (s:Nat):Prop:=us.length=8∧(∀ u∈us,u.1≤2∧u.2≤2147483647)∧∀ k (h:k<us.length),(us[k].1=1↔k=s)
theorem VAO (w:World) (g B:Nat) (hg:GeomAt w g B) (r:PReg) (h:r.May) (BA:Option Addr) (bc:Nat) (bz:List Nat) (OA:Option Addr) (oc:Nat) (oz:List Nat) (hb:Rd w BA (pgs B) (ZP bz)) (ho:Rd w OA (pgs B) (ZP oz)) (hbz:∀ z∈bz,z≤1) (hoz:∀ z∈oz,z≤1)
 (s sc:Nat) (us:List (Nat×Nat)) (hs:Rd w (some ⟨s,0,none⟩) (8*2) (us.flatMap Jk)) (hus:VZ us r.pos.seg) :
 Calls Tryz.prog 294 #[.pointer (some ⟨g,0,none⟩),.agg (r.cs (.slice BA (pgs B) bc) (.slice OA (pgs B) oc) (.slice (some ⟨s,0,none⟩) 8 sc)).toArray] w fun e w'=>e=.returned (.bool true)∧Keep [] w w':=by
 have hpb:=(KC hg.pos hg.few).2
 have hNu:=fun W=>Vx r h BA (pgs B) bc OA (pgs B) oc (some ⟨s,0,none⟩) 8 sc W
 have hPm:=fun W (hk:Keep [] w W)=>QAJ W g B (hg.keep0 hk) r.pos h.2.2.2.2.2.2
 have hPg:=fun W (hk:Keep [] w W)=>PagesG_is W g B (hg.keep0 hk)
 have hCf:=fun W (hk:Keep [] w W)=>ConfigG_is W g B (hg.keep0 hk)
 have hS1:=fun W (hk:Keep [] w W)=>Zs BA (pgs B) bc bz W (hb.keep hk) hbz (by omega)
 have hS2:=fun W (hk:Keep [] w W)=>Zs OA (pgs B) oc oz W (ho.keep hk) hoz (by omega)
 obtain⟨hul,huo,hseg⟩:=hus
 have HL:=ZB hul
 have hseg7:r.pos.seg≤7:=h.2.2.2.2.2.2.1
 clear hul h hb ho hbz hoz
 obtain⟨gen,view,mode,epoch,seq,done,seg,off,lsn,prev,mount⟩:=r
 simp only[PReg.cs,PPos.cs] at *
 generalize pgs B=P at *
 have hBk:=Blk.new w 185 #[.int .i64 gen,.int .i64 view,.int .i64 mode,.int .i64 epoch,.int .i64 seq,.int .i64 done,.int .i64 seg,.int .i64 off,.int .i64 lsn,.int .i64 prev,.int .i64 mount,.slice BA P bc,.slice OA P oc,.slice (some ⟨s,0,none⟩) 8 sc]
 obtain⟨w1,hw1⟩:∃ w1,w1=(w.alloc (.cells #[.int .i64 gen,.int .i64 view,.int .i64 mode,.int .i64 epoch,.int .i64 seq,.int .i64 done,.int .i64 seg,.int .i64 off,.int .i64 lsn,.int .i64 prev,.int .i64 mount,.slice BA P bc,.slice OA P oc,.slice (some ⟨s,0,none⟩) 8 sc] 185)):=⟨_,rfl⟩
 have hk1:Keep [] w w1:=by rw[hw1];exact(Keep.refl _ _).alloc _
 go_enter Tryz.func294,Tryz.ntmps294
 go_wp2_with fail
 rw[← hw1] at hBk ⊢
 clear hw1
 refine ZT (fun w'=>w'.cell? ⟨w.heap.size,0,none⟩=some (.int .i64 gen)∧w'.cell? ⟨w.heap.size,1,none⟩=some (.int .i64 view)∧w'.cell? ⟨w.heap.size,2,none⟩=some (.int .i64 mode)∧w'.cell? ⟨w.heap.size,3,none⟩=some (.int .i64 epoch)∧w'.cell? ⟨w.heap.size,4,none⟩=some (.int .i64 seq)∧w'.cell? ⟨w.heap.size,5,none⟩=some (.int .i64 done)∧w'.cell? ⟨w.heap.size,6,none⟩=some (.int .i64 seg)∧w'.cell? ⟨w.heap.size,7,none⟩=some (.int .i64 off)∧w'.cell? ⟨w.heap.size,8,none⟩=some (.int .i64 lsn)∧w'.cell? ⟨w.heap.size,9,none⟩=some (.int .i64 prev)∧w'.cell? ⟨w.heap.size,10,none⟩=some (.int .i64 mount)∧w'.cell? ⟨w.heap.size,11,none⟩=some (.slice BA P bc)∧w'.cell? ⟨w.heap.size,12,none⟩=some (.slice OA P oc)∧w'.cell? ⟨w.heap.size,13,none⟩=some (.slice (some ⟨s,0,none⟩) 8 sc)) 37 [[0,1,2,3],[4,5,6,7,8,9,10],[11,12,13,14,15,16,17],[18],[19,20,21,22,23,24,25],[26],[27,28,29,30,31,32,33,34],[35,36]] (KD hBk.drew) ?_
 simp only[PI]
 iterate 4 (refine ZH ?_;simp only[Act.put,PU])
 refine XB (by rfl) (fun K hK=>?_)
 go_wp2_with (refine(hNu _).mono ?_;rintro e w2 ⟨rfl,hk2⟩)
 have kA:=(Keep.refl [] w1).drew.trans0 hk2
 refine hK _ _ ((KD (hBk.keep0 kA))) ?_
 clear hK K
 try simp only[Act.put,PU]
 iterate 6 (refine ZH ?_;simp only[Act.put,PU])
 refine XB (by rfl) (fun K hK=>?_)
 go_wp2_with (refine(hPm _ (hk1.trans0 kA)).mono ?_;rintro e w3 ⟨rfl,hk3⟩)
 have kB:=kA.trans0 hk3
 refine hK _ _ ((KD (hBk.keep0 kB))) ?_
 clear hK K
 try simp only[Act.put,PU]
 iterate 6 (refine ZH ?_;simp only[Act.put,PU])
 refine XB (by rfl) (fun K hK=>?_)
 go_wp2_with (refine(hPg _ (hk1.trans0 kB)).mono ?_;rintro e w4 ⟨rfl,hk4⟩)
 have kC:=kB.trans0 hk4
 refine hK _ _ ((KD (hBk.keep0 kC))) ?_
 clear hK K
 try simp only[Act.put,PU]
 refine XB (by rfl) (fun K hK=>?_)
 go_wp2_with (refine(hS1 _ (hk1.trans0 kC)).mono ?_;rintro e w5 ⟨rfl,rfl⟩)
 refine hK _ _ ((KD (hBk.keep0 kC))) ?_
 clear hK K
 try simp only[Act.put,PU]
 iterate 6 (refine ZH ?_;simp only[Act.put,PU])
 refine XB (by rfl) (fun K hK=>?_)
 go_wp2_with (refine(hPg _ (hk1.trans0 kC)).mono ?_;rintro e w6 ⟨rfl,hk6⟩)
 have kD:=kC.trans0 hk6
 refine hK _ _ ((KD (hBk.keep0 kD))) ?_
 clear hK K
 try simp only[Act.put,PU]
 refine XB (by rfl) (fun K hK=>?_)
 go_wp2_with (refine(hS2 _ (hk1.trans0 kD)).mono ?_;rintro e w7 ⟨rfl,rfl⟩)
 refine hK _ _ ((KD (hBk.keep0 kD))) ?_
 clear hK K
 try simp only[Act.put,PU]
 iterate 7 (refine ZH ?_;simp only[Act.put,PU])
 refine XB (by rfl) (fun K hK=>?_)
 go_wp2_with (refine(hCf _ (hk1.trans0 kD)).mono ?_;rintro e w8 ⟨rfl,hk8⟩)
 have kE:=kD.trans0 hk8
 have hfd:=fun W=>VF (P:=Tryz.prog) Tryz.underlying27 1 rfl Tryz.isAgg3 #[.int .i64 B,.int .i64 8,.int .i64 24] rfl W
 refine hK _ _ ((KD (hBk.keep0 kE))) ?_
 clear hK K
 try simp only[Act.put,PU]
 iterate 1 (refine ZH ?_;simp only[Act.put,PU])
 refine JB ?_
 have hBE:=hBk.keep0 kE
 have c13:=(KD hBE).2.2.2.2.2.2.2.2.2.2.2.2.2
 have hltE:=hBE.lt
 go_wp2_with fail
 clear c13 hltE
 go_loopw [5,6,49] (fun _ _ i wr=>∃ k:Nat,k≤8∧i=.int .i64 k∧Keep [] w8 wr) (fun _ _ i _=>8-(intOf i).toNat)
 case atStart=>exact⟨0,Nat.zero_le _,rfl,Keep.refl _ _⟩
 case round=>
  clear hNu hPm hPg hCf hS1 hS2 hfd kA kB kC kD hk2 hk3 hk4 hk6 hk8 hBk
  obtain⟨k,hk,rfl,hK⟩:=hrel
  have hBr:=hBE.keep0 hK
  obtain⟨-,-,-,-,-,-,c6,-,-,-,-,-,-,c13⟩:=KD hBr
  have hltr:=hBr.lt
  by_cases hlt:k<8
  · have hkl:k<us.length:=by rw[QA HL];exact hlt
    have hltI:((k:Nat):Int)<8:=by omega
    have hKw:=(hk1.trans0 kE).trans0 hK
    have hsl:s<wr.heap.size:=(YC XG (hs.keep hKw) hkl (j:=0) (by omega)).1
    have d0:=(YC XG (hs.keep hKw) hkl (j:=0) (by omega)).2
    have d1:=(YC XG (hs.keep hKw) hkl (j:=1) (by omega)).2
    obtain⟨u1,u2⟩:=huo _ (List.getElem_mem hkl)
    have hsg:=hseg k hkl
    generalize us[k]=u at *
    obtain⟨x,y⟩:=u
    simp only[Jk,List.getElem?_cons_zero,List.getElem?_cons_succ,Nat.add_zero] at d0 d1 u1 u2 hsg
    have hT1:=fun W=>XN x 0 2 W ⟨by omega,by omega⟩
    have hT2:=fun W=>XN y 0 2147483647 W ⟨by omega,by omega⟩
    have hK2:Keep [] w8 (wr.alloc (.cells #[.int .i64 x,.int .i64 y] 166)):=hK.alloc _
    by_cases hx:x=1
    · obtain rfl:=hsg.1 hx
      subst hx
      go_wp2_with (first | (refine(hT1 _).mono ?_;clear hT1;rintro e w' ⟨rfl,rfl⟩) | (refine(hT2 _).mono ?_;clear hT2;rintro e w' ⟨rfl,rfl⟩))
      go_roundw
      case rel=>exact⟨k+1,by omega,by go_num,hK2⟩
      case measure=>simp[intOf];omega
    · have hne:¬ k=seg:=fun e=>hx (hsg.2 e)
      have hxI:¬ ((x:Nat):Int)=1:=by omega
      have hneI:¬ ((k:Nat):Int)=(seg:Nat):=by omega
      have b1:(((x:Nat):Int) == 1)=false:=by simpa using hxI
      have b2:(((k:Nat):Int) == ((seg:Nat):Int))=false:=by simpa using hneI
      have b3:(!(((x:Nat):Int) == 1) == (((k:Nat):Int) == ((seg:Nat):Int)))=false:=by rw[b1,b2];rfl
      go_wp2_with (first | (refine(hT1 _).mono ?_;clear hT1;rintro e w' ⟨rfl,rfl⟩) | (refine(hT2 _).mono ?_;clear hT2;rintro e w' ⟨rfl,rfl⟩))
      go_roundw
      case rel=>exact⟨k+1,by omega,by go_num,hK2⟩
      case measure=>simp[intOf];omega
  · obtain rfl:8=k:=by omega
    go_wp2
    go_ret
    exact⟨rfl,(hk1.trans0 kE).trans0 hK⟩
end
section
open Go.RowKit
end
section
open Go.RowKit
end
section
open Go.RowKit
def ZAp (z:Int):Nat:=if z<0 then 4294967295 else z.toNat
theorem VAx {z:Int} (h:z<4096):ZAp z<256 ^ 4:=by unfold ZAp;split <;> omega
theorem KAp (z:Int) (h1 : -1≤z) (h2:z<4096):bits BinOp.and IntKind.i64 z 4294967295=(ZAp z:Nat):=by
 rcases Int.lt_or_le z 0 with h | h
 · obtain rfl:z = -1:=by omega
   rfl
 · obtain⟨n,rfl⟩:∃ n:Nat,z=n:=⟨z.toNat,by omega⟩
   show IntKind.i64.wrap ((BitVec.ofInt 64 (n:Int) &&& BitVec.ofInt 64 4294967295).toNat:Int)=_
   have h3:(BitVec.ofInt 64 4294967295).toNat=4294967295:=by decide
   have h4:(BitVec.ofInt 64 (n:Int)).toNat=n:=by rw[BitVec.toNat_ofInt];omega
   rw[BitVec.toNat_and,h3,h4,show (4294967295:Nat)=2 ^ 32-1 from rfl,Nat.and_two_pow_sub_one_eq_mod,Nat.mod_eq_of_lt (by omega),IntKind.wrap_i64]
   unfold ZAp
   rw[if_neg (by omega)]
   omega
def Yw (zs:List Int):List (Nat×Nat):=zs.map fun z=>(4,ZAp z)
def Zg (zs:List Int):List UInt8:=Ji 64 (fields (Yw zs))
theorem JW (zs:List Int):widths (Yw zs)=4*zs.length:=by
 induction zs with
 | nil=>rfl
 | cons z zs ih=>simp only[Yw,List.map_cons,widths,List.length_cons] at ih ⊢;omega
theorem YX {zs:List Int} (h:zs.length≤15):(Zg zs).length=64:=QQ (by omega) (by rw[length_fields,JW];omega)
theorem QAL (A:Option Addr) (n c:Nat) (zs:List Int) (w:World) (ha:Rd w A n (VS zs)) (hz:∀ z∈zs,-1≤z∧z<4096) (hn:n≤15) :
 Calls Tryz.prog 183 #[.slice A n c] w fun e w'=>∃ u,e=.returned (.tuple #[u,.int .i64 0])∧w'.ownsRow w.heap.size 5 1 u 64 (bys (Zg zs))∧Keep [] w w':=by
 have hl:zs.length=n:=by simpa [VS] using ha.1
 have HL:=ZB hl
 clear hl
 have hnI:((n:Nat):Int)≤15:=by omega
 have hN:=KBC 64 (by omega) w
 go_enter Tryz.func183,Tryz.ntmps183
 go_wp2_with (refine hN.mono ?_;clear hN;rintro e w1 ⟨r,rv,rfl,hR,hK⟩)
 go_loopw [6,13] (fun _ i wr=>∃ k:Nat,k≤n∧i=.int .i64 k∧RowZ wr w.heap.size r rv 64 (fields ((Yw zs).take k))∧Keep [] w wr) (fun _ i _=>n-(intOf i).toNat)
 case atStart=>exact⟨0,Nat.zero_le _,rfl,by simpa [fields] using hR,hK⟩
 case round=>
  clear hR hK
  obtain⟨k,hk,rfl,hR,hK⟩:=hrel
  by_cases hlt:k<n
  · have hkl:k<zs.length:=by rw[QA HL];exact hlt
    have hltI:((k:Nat):Int)<(n:Nat):=by omega
    obtain⟨b,o,u,rfl,hx,hb,hc⟩:=(ha.keep hK).at_ hlt
    simp only[VS,List.getElem?_map,List.getElem?_eq_getElem hkl,Option.map_some,Option.some.injEq] at hx
    subst hx
    obtain⟨h1,h2⟩:=hz _ (List.getElem_mem hkl)
    have hts:(Yw zs).take (k+1)=(Yw zs).take k++[(4,ZAp zs[k])]:=Jw _ zs k hkl
    have hwk:widths ((Yw zs).take k)=4*k:=by
     unfold Yw
     rw[← List.map_take]
     have:=JW (zs.take k)
     rw[List.length_take,Nat.min_eq_left (by omega)] at this
     exact this
    generalize zs[k]=z at *
    replace hc:wr.cell? ⟨b,o+k,none⟩=some (.int .i64 z):=hc
    have he:=KAp z h1 h2
    have hm:=VAx h2
    have hP:=Kw (k:=4) hR (by omega) [ZAp z] (by simpa using hm) (by simp) (by simp[hwk];omega) #[.int .i64 (ZAp z)] rfl 1 rfl
    have HTS:=ZB hts
    clear hm hts hwk
    generalize ZAp z=m at *
    go_wp2_with (
     (refine hP.mono ?_)
     clear hP
     rintro e w3 ⟨rfl,hR3,hK3⟩)
    go_roundw
    case rel=>
     refine⟨k+1,by omega,by go_num,?_,hK.trans hK3 (fun x hx=>.inr (hR.fresh x hx))⟩
     rw[QA HTS,KF]
     simpa [fields] using hR3
    case measure=>simp[intOf];omega
  · obtain rfl:n=k:=by omega
    rw[List.take_of_length_le (by simp[Yw,QA HL])] at hR
    have hB:=Zt hR
    go_wp2_with (refine hB.mono ?_;clear hB;rintro e w2 ⟨u,rfl,hu,hk2⟩)
    have hS:=JAx hu (by omega) (by rw[length_fields,JW,QA HL];omega) (by omega)
    go_wp2_with (refine hS.mono ?_;clear hS;rintro e w3 ⟨rfl,hu3,hk3⟩)
    go_ret2
    exact⟨u,rfl,VC hu3 hK.size,(hK.trans0 hk2).trans hk3 (fun x hx=>.inr (Nat.le_trans hK.size (own_mem hu hx).1))⟩
end
section
open Go.RowKit
def YAD (zs:List Nat):Nat→Nat
 | 0=>0
 | k+1=>YAD zs k+zs.getD k 0*2 ^ k
theorem Qw (zs:List Nat) (h:∀ z∈zs,z≤1):∀ k,YAD zs k<2 ^ k
 | 0=>by simp[YAD]
 | k+1=>by
   have h1:=Qw zs h k
   have h2:zs.getD k 0≤1:=by
    rw[List.getD_eq_getElem?_getD]
    rcases Nat.lt_or_ge k zs.length with hk | hk
    · rw[List.getElem?_eq_getElem hk];exact h _ (List.getElem_mem hk)
    · rw[List.getElem?_eq_none hk];exact Nat.zero_le _
   have h3:zs.getD k 0*2 ^ k≤1*2 ^ k:=Nat.mul_le_mul_right _ h2
   simp only[YAD,Nat.pow_succ]
   omega
theorem YBA {q z k:Nat} (hq:q<2 ^ k):q ||| z*2 ^ k=q+z*2 ^ k:=by
 have:=Nat.two_pow_add_eq_or_of_lt hq z
 rw[Nat.or_comm,Nat.mul_comm,← this]
 omega
theorem XAL (A:Option Addr) (n c:Nat) (zs:List Nat) (w:World) (ha:Rd w A n (ZP zs)) (h:∀ z∈zs,z≤1) (hn:n≤8) :
 Calls Tryz.prog 295 #[.slice A n c] w fun e w'=>e=.returned (.int .i64 (YAD zs n:Nat))∧w=w':=by
 have hl:zs.length=n:=by simpa using ha.1
 have HL:=ZB hl
 clear hl
 have hlt:=Qw zs h
 go_enter Tryz.func295,Tryz.ntmps295
 go_wp2_with fail
 go_loopw [2,3,4,7] (fun s _ _ i wr=>∃ k:Nat,k≤n∧i=.int .i64 k∧s=.int .i64 (YAD zs k:Nat)∧w=wr) (fun _ _ _ i _=>n-(intOf i).toNat)
 case atStart=>exact⟨0,Nat.zero_le _,rfl,rfl,rfl⟩
 case round=>
  obtain⟨k,hk,rfl,rfl,rfl⟩:=hrel
  by_cases hlt':k<n
  · have hkl:k<zs.length:=by rw[QA HL];exact hlt'
    have hltI:((k:Nat):Int)<(n:Nat):=by omega
    obtain⟨b,o,u,rfl,hx,hb,hc⟩:=ha.at_ hlt'
    simp only[ZP,List.getElem?_map,List.getElem?_eq_getElem hkl,Option.map_some,Option.some.injEq] at hx
    subst hx
    have hz:=h _ (List.getElem_mem hkl)
    have hq:=hlt k
    have hs:YAD zs (k+1)=YAD zs k+zs[k]*2 ^ k:=by
     simp only[YAD]
     rw[List.getD_eq_getElem?_getD,List.getElem?_eq_getElem hkl]
     rfl
    have HS:=ZB hs
    clear hs
    generalize YAD zs k=q at *
    generalize zs[k]=z at *
    have h8:(2:Nat) ^ k≤256:=Nat.pow_le_pow_right (n:=2) (by omega) (show k≤8 by omega)
    have hzk:z*2 ^ k≤1*2 ^ k:=Nat.mul_le_mul_right _ hz
    have hw:wrap64 ((z:Nat)*2 ^ k:Int)=((z*2 ^ k:Nat):Int):=by
     have e:((z:Nat)*2 ^ k:Int)=((z*2 ^ k:Nat):Int):=by simp
     rw[e]
     have hyb:z*2 ^ k≤256:=by omega
     generalize z*2 ^ k=y at hyb ⊢
     unfold wrap64;omega
    have he:bits BinOp.or IntKind.i64 (q:Nat) (wrap64 ((z:Nat)*2 ^ k:Int))=((q+z*2 ^ k:Nat):Int):=by
     rw[hw,YAt q (z*2 ^ k) (by omega) (by omega),YBA hq,IntKind.wrap_i64]
     omega
    have HE:Hid (q+z*2 ^ k=YAD zs (k+1)):=ZB (QA HS).symm
    generalize q+z*2 ^ k=m at *
    clear hw hzk h8 HS hq hlt
    go_wp2_with fail
    go_roundw
    case rel=>exact⟨k+1,by omega,by go_num,by rw[← QA HE],trivial⟩
    case measure=>simp[intOf];omega
  · obtain rfl:n=k:=by omega
    go_wp2_with fail
    go_ret
    exact⟨rfl,rfl⟩
def YAj (u:Nat×Nat):List (Nat×Nat):=[(1,u.1),(4,u.2)]
def JBE (r:PReg) (p:Nat) (bz oz:List Nat) (us:List (Nat×Nat)):List (Nat×Nat):=
 [(1,75),(1,67),(4,r.gen),(4,r.view),(1,r.mode),(4,r.epoch),(4,r.seq),(4,r.done),(1,r.pos.seg),(1,r.pos.off),(4,r.pos.lsn),(4,r.pos.prev),(4,r.pos.mount),(1,YAD bz p),(1,YAD oz p)]++us.flatMap YAj
def ZBF (r:PReg) (p:Nat) (bz oz:List Nat) (us:List (Nat×Nat)):List UInt8:=Ji 128 (fields (JBE r p bz oz us))
theorem VT (l m:List (Nat×Nat)):widths (l++m)=widths l+widths m:=by
 rw[← length_fields,← length_fields,← length_fields,KF,List.length_append]
theorem Km (us:List (Nat×Nat)):widths (us.flatMap YAj)=5*us.length:=by
 induction us with
 | nil=>rfl
 | cons u us ih=>rw[List.flatMap_cons,VT,ih];simp[YAj,widths];omega
theorem Xj (r:PReg) (p:Nat) (bz oz:List Nat) (us:List (Nat×Nat)):widths (JBE r p bz oz us)=39+5*us.length:=by
 unfold JBE;rw[VT,Km];simp[widths]
theorem Jl (r:PReg) (p:Nat) (bz oz:List Nat) {us:List (Nat×Nat)} (h:us.length=8):(ZBF r p bz oz us).length=128:=QQ (by omega) (by rw[length_fields,Xj];omega)
theorem YAu (w:World) (g B:Nat) (hg:GeomAt w g B) (r:PReg) (h:r.May) (BA:Option Addr) (bc:Nat) (bz:List Nat) (OA:Option Addr) (oc:Nat) (oz:List Nat) (hb:Rd w BA (pgs B) (ZP bz)) (ho:Rd w OA (pgs B) (ZP oz)) (hbz:∀ z∈bz,z≤1) (hoz:∀ z∈oz,z≤1)
 (s sc:Nat) (us:List (Nat×Nat)) (hs:Rd w (some ⟨s,0,none⟩) (8*2) (us.flatMap Jk)) (hus:VZ us r.pos.seg) :
 Calls Tryz.prog 188 #[.pointer (some ⟨g,0,none⟩),.agg (r.cs (.slice BA (pgs B) bc) (.slice OA (pgs B) oc) (.slice (some ⟨s,0,none⟩) 8 sc)).toArray] w fun e w'=>∃ u,e=.returned (.tuple #[u,.int .i64 0])∧w'.ownsRow w.heap.size 5 1 u 128 (bys (ZBF r (pgs B) bz oz us))∧Keep [] w w':=by
 have hpb:=(KC hg.pos hg.few).2
 have hM:=fun W (hk:Keep [] w W)=>VAO W g B (hg.keep0 hk) r h BA bc bz OA oc oz (hb.keep hk) (ho.keep hk) hbz hoz s sc us (hs.keep hk) hus
 have hRL:=fun W (hk:Keep [] w W)=>RegionLenG_is W g B (hg.keep0 hk)
 have hB1:=fun W (hk:Keep [] w W)=>XAL BA (pgs B) bc bz W (hb.keep hk) hbz (by omega)
 have hB2:=fun W (hk:Keep [] w W)=>XAL OA (pgs B) oc oz W (ho.keep hk) hoz (by omega)
 obtain⟨hul,huo,-⟩:=hus
 have HL:=ZB hul
 obtain⟨b1,b2,b3,b4,b5,b6,b7,b8,b9,b10,b11⟩:=h
 have hq1:=Qw bz hbz (pgs B)
 have hq2:=Qw oz hoz (pgs B)
 have h5:(2:Nat) ^ pgs B≤256:=Nat.pow_le_pow_right (n:=2) (by omega) (show pgs B≤8 by omega)
 clear hul hb ho hbz hoz
 obtain⟨gen,view,mode,epoch,seq,done,seg,off,lsn,prev,mount⟩:=r
 simp only[PReg.cs,PPos.cs] at *
 generalize pgs B=P at *
 obtain⟨q1,hqe1⟩:∃ q1,q1=YAD bz P:=⟨_,rfl⟩
 obtain⟨q2,hqe2⟩:∃ q2,q2=YAD oz P:=⟨_,rfl⟩
 rw[← hqe1] at hB1 hq1
 rw[← hqe2] at hB2 hq2
 have HQ1:=ZB hqe1
 have HQ2:=ZB hqe2
 have hq1':q1<256:=by omega
 have hq2':q2<256:=by omega
 clear hqe1 hqe2 hq1 hq2 h5
 have hBk:=Blk.new w 185 #[.int .i64 gen,.int .i64 view,.int .i64 mode,.int .i64 epoch,.int .i64 seq,.int .i64 done,.int .i64 seg,.int .i64 off,.int .i64 lsn,.int .i64 prev,.int .i64 mount,.slice BA P bc,.slice OA P oc,.slice (some ⟨s,0,none⟩) 8 sc]
 obtain⟨w1,hw1⟩:∃ w1,w1=(w.alloc (.cells #[.int .i64 gen,.int .i64 view,.int .i64 mode,.int .i64 epoch,.int .i64 seq,.int .i64 done,.int .i64 seg,.int .i64 off,.int .i64 lsn,.int .i64 prev,.int .i64 mount,.slice BA P bc,.slice OA P oc,.slice (some ⟨s,0,none⟩) 8 sc] 185)):=⟨_,rfl⟩
 have hk1:Keep [] w w1:=by rw[hw1];exact(Keep.refl _ _).alloc _
 rw[← hw1] at hBk
 go_enter Tryz.func188,Tryz.ntmps188
 go_wp2_with (
  (refine(hM _ ((Keep.refl _ _).alloc _)).mono ?_)
  clear hM
  rintro e w2 ⟨rfl,hk2⟩
  rw[← hw1] at hk2
  clear hw1
  have hk12:=hk1.trans0 hk2
  have hB2':=hBk.keep0 hk2)
 go_wp2_with (
  (refine(hRL _ hk12).mono ?_)
  rintro e w3 ⟨rfl,rfl⟩)
 have hN:=KBC 128 (by omega) w2
 go_wp2_with (
  (refine hN.mono ?_)
  clear hN
  rintro e w4 ⟨rr,rv,rfl,hR,hK4⟩)
 have hP:=Kw (k:=1) hR (by omega) [75,67] (by simp) (by simp) (by simp[widths]) #[.int .i64 75,.int .i64 67] rfl 2 rfl
 go_wp2_with (
  (refine hP.mono ?_)
  clear hP
  rintro e w5 ⟨rfl,hR5z,hK5⟩
  have hR5:RowZ w5 w2.heap.size rr rv 128 (fields [(1,75),(1,67)]):=by
   have h:=hR5z
   rw[List.nil_append,YJ] at h
   exact h
  clear hR5z
  have hK5':=hK4.trans hK5 (fun x hx=>.inr (hR.fresh x hx))
  clear hK5 hK4 hR
  have hB5:=hB2'.keep0 hK5'
  obtain⟨c0,c1,c2,c3,c4,c5,c6,c7,c8,c9,c10,c11,c12,c13⟩:=KD hB5
  have hlt:=hB5.lt
  clear hB5)
 have hP:=Kw (k:=4) hR5 (by omega) [gen,view] (by simp;omega) (by simp) (by simp[widths]) #[.int .i64 gen,.int .i64 view] rfl 2 rfl
 go_wp2_with (
  (refine hP.mono ?_)
  clear hP
  rintro e w6 ⟨rfl,hR6z,hK6⟩
  have hR6:RowZ w6 w2.heap.size rr rv 128 (fields [(1,75),(1,67),(4,gen),(4,view)]):=by
   have h:=hR6z
   rw[YJ,← KF] at h
   exact h
  clear hR6z
  have hK6':=hK5'.trans hK6 (fun x hx=>.inr (hR5.fresh x hx))
  clear hK6 hK5' hR5
  clear c0 c1 c2 c3 c4 c5 c6 c7 c8 c9 c10 c11 c12 c13 hlt
  have hB6:=hB2'.keep0 hK6'
  obtain⟨c0,c1,c2,c3,c4,c5,c6,c7,c8,c9,c10,c11,c12,c13⟩:=KD hB6
  have hlt:=hB6.lt
  clear hB6)
 have hP:=Kw (k:=1) hR6 (by omega) [mode] (by simp;omega) (by simp) (by simp[widths]) #[.int .i64 mode] rfl 1 rfl
 go_wp2_with (
  (refine hP.mono ?_)
  clear hP
  rintro e w7 ⟨rfl,hR7z,hK7⟩
  have hR7:RowZ w7 w2.heap.size rr rv 128 (fields [(1,75),(1,67),(4,gen),(4,view),(1,mode)]):=by
   have h:=hR7z
   rw[YJ,← KF] at h
   exact h
  clear hR7z
  have hK7':=hK6'.trans hK7 (fun x hx=>.inr (hR6.fresh x hx))
  clear hK7 hK6' hR6
  clear c0 c1 c2 c3 c4 c5 c6 c7 c8 c9 c10 c11 c12 c13 hlt
  have hB7:=hB2'.keep0 hK7'
  obtain⟨c0,c1,c2,c3,c4,c5,c6,c7,c8,c9,c10,c11,c12,c13⟩:=KD hB7
  have hlt:=hB7.lt
  clear hB7)
 have hP:=Kw (k:=4) hR7 (by omega) [epoch,seq,done] (by simp;omega) (by simp) (by simp[widths]) #[.int .i64 epoch,.int .i64 seq,.int .i64 done] rfl 3 rfl
 go_wp2_with (
  (refine hP.mono ?_)
  clear hP
  rintro e w8 ⟨rfl,hR8z,hK8⟩
  have hR8:RowZ w8 w2.heap.size rr rv 128 (fields [(1,75),(1,67),(4,gen),(4,view),(1,mode),(4,epoch),(4,seq),(4,done)]):=by
   have h:=hR8z
   rw[YJ,← KF] at h
   exact h
  clear hR8z
  have hK8':=hK7'.trans hK8 (fun x hx=>.inr (hR7.fresh x hx))
  clear hK8 hK7' hR7
  clear c0 c1 c2 c3 c4 c5 c6 c7 c8 c9 c10 c11 c12 c13 hlt
  have hB8:=hB2'.keep0 hK8'
  obtain⟨c0,c1,c2,c3,c4,c5,c6,c7,c8,c9,c10,c11,c12,c13⟩:=KD hB8
  have hlt:=hB8.lt
  clear hB8)
 have hP:=Kw (k:=1) hR8 (by omega) [seg,off] (by simp;omega) (by simp) (by simp[widths]) #[.int .i64 seg,.int .i64 off] rfl 2 rfl
 go_wp2_with (
  (refine hP.mono ?_)
  clear hP
  rintro e w9 ⟨rfl,hR9z,hK9⟩
  have hR9:RowZ w9 w2.heap.size rr rv 128 (fields [(1,75),(1,67),(4,gen),(4,view),(1,mode),(4,epoch),(4,seq),(4,done),(1,seg),(1,off)]):=by
   have h:=hR9z
   rw[YJ,← KF] at h
   exact h
  clear hR9z
  have hK9':=hK8'.trans hK9 (fun x hx=>.inr (hR8.fresh x hx))
  clear hK9 hK8' hR8
  clear c0 c1 c2 c3 c4 c5 c6 c7 c8 c9 c10 c11 c12 c13 hlt
  have hB9:=hB2'.keep0 hK9'
  obtain⟨c0,c1,c2,c3,c4,c5,c6,c7,c8,c9,c10,c11,c12,c13⟩:=KD hB9
  have hlt:=hB9.lt
  clear hB9)
 have hP:=Kw (k:=4) hR9 (by omega) [lsn,prev,mount] (by simp;omega) (by simp) (by simp[widths]) #[.int .i64 lsn,.int .i64 prev,.int .i64 mount] rfl 3 rfl
 go_wp2_with (
  (refine hP.mono ?_)
  clear hP
  rintro e w10 ⟨rfl,hR10z,hK10⟩
  have hR10:RowZ w10 w2.heap.size rr rv 128 (fields [(1,75),(1,67),(4,gen),(4,view),(1,mode),(4,epoch),(4,seq),(4,done),(1,seg),(1,off),(4,lsn),(4,prev),(4,mount)]):=by
   have h:=hR10z
   rw[YJ,← KF] at h
   exact h
  clear hR10z
  have hK10':=hK9'.trans hK10 (fun x hx=>.inr (hR9.fresh x hx))
  clear hK10 hK9' hR9
  clear c0 c1 c2 c3 c4 c5 c6 c7 c8 c9 c10 c11 c12 c13 hlt
  have hB10:=hB2'.keep0 hK10')
 refine ZT (fun w'=>w'.cell? ⟨w.heap.size,11,none⟩=some (.slice BA P bc)∧w'.cell? ⟨w.heap.size,12,none⟩=some (.slice OA P oc)) 8 [[0,1,2,4,5],[3],[6],[7]] ⟨(KD hB10.drew).2.2.2.2.2.2.2.2.2.2.2.1,(KD hB10.drew).2.2.2.2.2.2.2.2.2.2.2.2.1⟩ ?_
 simp only[PI]
 iterate 5 (refine ZH ?_;simp only[Act.put,PU])
 have hkd:Keep [] w w10.drew:=(hk12.trans0 hK10').drew
 refine XB (by rfl) (fun K hK=>?_)
 go_wp2_with (refine(hB1 _ hkd).mono ?_;rintro e w11 ⟨rfl,rfl⟩)
 refine hK _ _ (⟨(KD hB10.drew).2.2.2.2.2.2.2.2.2.2.2.1,(KD hB10.drew).2.2.2.2.2.2.2.2.2.2.2.2.1⟩) ?_
 clear hK K
 try simp only[Act.put,PU]
 refine XB (by rfl) (fun K hK=>?_)
 go_wp2_with (refine(hB2 _ hkd).mono ?_;rintro e w11 ⟨rfl,rfl⟩)
 refine hK _ _ (⟨(KD hB10.drew).2.2.2.2.2.2.2.2.2.2.2.1,(KD hB10.drew).2.2.2.2.2.2.2.2.2.2.2.2.1⟩) ?_
 clear hK K
 try simp only[Act.put,PU]
 refine XB (by rfl) (fun K hK=>?_)
 go_wp2_with fail
 refine hK _ _ (⟨(KD (hB10.drew.keep0 ((Keep.refl _ _).alloc _))).2.2.2.2.2.2.2.2.2.2.2.1,(KD (hB10.drew.keep0 ((Keep.refl _ _).alloc _))).2.2.2.2.2.2.2.2.2.2.2.2.1⟩) ?_
 clear hK K
 try simp only[Act.put,PU]
 refine JB ?_
 have hR10':=hR10.keep0 (Keep.refl _ _).drew
 have hP:=Kw (k:=1) hR10' (by omega) [q1,q2] (by simp;omega) (by simp) (by simp[widths]) #[.int .i64 q1,.int .i64 q2] rfl 2 rfl
 go_wp2_with (
  (refine hP.mono ?_)
  clear hP
  rintro e w11 ⟨rfl,hR11z,hK11⟩
  have hR11:RowZ w11 w2.heap.size rr rv 128 (fields [(1,75),(1,67),(4,gen),(4,view),(1,mode),(4,epoch),(4,seq),(4,done),(1,seg),(1,off),(4,lsn),(4,prev),(4,mount),(1,q1),(1,q2)]):=by
   have h:=hR11z
   rw[YJ,← KF] at h
   exact h
  clear hR11z
  have hK11':=hK10'.drew.trans hK11 (fun x hx=>.inr (hR10.fresh x hx))
  have hB11:=hB2'.keep0 hK11'
  have c13:=(KD hB11).2.2.2.2.2.2.2.2.2.2.2.2.2
  have hlt:=hB11.lt
  clear hB1 hB2 hRL hkd hR10' hK10' hB10 hR10 hK11)
 clear c13 hlt
 go_loopw [8,74] (fun _ i wr=>∃ k:Nat,k≤8∧i=.int .i64 k∧RowZ wr w2.heap.size rr rv 128 (fields ([(1,75),(1,67),(4,gen),(4,view),(1,mode),(4,epoch),(4,seq),(4,done),(1,seg),(1,off),(4,lsn),(4,prev),(4,mount),(1,q1),(1,q2)]++(us.take k).flatMap YAj))∧Keep [] w2 wr) (fun _ i _=>8-(intOf i).toNat)
 case atStart=>exact⟨0,Nat.zero_le _,rfl,by simpa using hR11,hK11'⟩
 case round=>
  clear hB11 hK11' hR11
  obtain⟨k,hk,rfl,hR,hK⟩:=hrel
  by_cases hlt:k<8
  · have hkl:k<us.length:=by rw[QA HL];exact hlt
    have hltI:((k:Nat):Int)<8:=by omega
    have hKw:=hk12.trans0 hK
    have hsl:s<wr.heap.size:=(YC XG (hs.keep hKw) hkl (j:=0) (by omega)).1
    have d0:=(YC XG (hs.keep hKw) hkl (j:=0) (by omega)).2
    have d1:=(YC XG (hs.keep hKw) hkl (j:=1) (by omega)).2
    obtain⟨u1,u2⟩:=huo _ (List.getElem_mem hkl)
    have hts:(us.take (k+1)).flatMap YAj=(us.take k).flatMap YAj++YAj us[k]:=by
     rw[List.take_succ_eq_append_getElem hkl,List.flatMap_append,List.flatMap_singleton]
    have hwk:widths ([(1,75),(1,67),(4,gen),(4,view),(1,mode),(4,epoch),(4,seq),(4,done),(1,seg),(1,off),(4,lsn),(4,prev),(4,mount),(1,q1),(1,q2)]++(us.take k).flatMap YAj)=39+5*k:=by
     rw[VT,Km,List.length_take,Nat.min_eq_left (by omega)]
     simp[widths]
    have HTS:=ZB hts
    clear hts
    generalize hFK:[(1,75),(1,67),(4,gen),(4,view),(1,mode),(4,epoch),(4,seq),(4,done),(1,seg),(1,off),(4,lsn),(4,prev),(4,mount),(1,q1),(1,q2)]++(us.take k).flatMap YAj=FK at *
    have HFK:=ZB hFK
    clear hFK
    generalize us[k]=u at *
    obtain⟨x,y⟩:=u
    simp only[Jk,List.getElem?_cons_zero,List.getElem?_cons_succ,Nat.add_zero] at d0 d1 u1 u2
    obtain⟨wA,hwA⟩:∃ wA,wA=wr.alloc (.cells #[.int .i64 x,.int .i64 y] 166):=⟨_,rfl⟩
    have hBu:Blk wA wr.heap.size 166 #[.int .i64 x,.int .i64 y]:=by rw[hwA];exact Blk.new _ _ _
    have hsA:wr.heap.size+1=wA.heap.size:=by rw[hwA,World.size_alloc]
    have hkA:Keep [] wr wA:=by rw[hwA];exact(Keep.refl _ _).alloc _
    have hK2:=hK.trans0 hkA
    have hR2:=hR.keep0 hkA
    have hP:=Kw (k:=1) hR2 (by omega) [x] (by simp;omega) (by simp) (by simp[hwk];omega) #[.int .i64 x] rfl 1 rfl
    have HA:=ZB hsA
    have HW:=ZB hwA
    clear hsA hwA
    go_wp2_with fail
    rw[← QA HW,QA HA]
    refine hP.mono ?_
    clear hP
    rintro e w12 ⟨rfl,hR12,hK12⟩
    have hBu2:=hR2.x.blk hK12 hBu (by decide) (by decide)
    have e1:w12.cell? ⟨wr.heap.size,1,none⟩=some (.int .i64 y):=by simpa using hBu2.cell 1
    have hlt2:=hBu2.lt
    have hP:=Kw (k:=4) hR12 (by omega) [y] (by simp;omega) (by simp) (by simp[hwk];omega) #[.int .i64 y] rfl 1 rfl
    go_wp2_with (
     (refine hP.mono ?_)
     clear hP
     rintro e w13 ⟨rfl,hR13,hK13⟩)
    go_roundw
    case rel=>
     refine⟨k+1,by omega,by go_num,?_,(hK2.trans hK12 (fun x hx=>.inr (hR2.fresh x hx))).trans hK13 (fun x hx=>.inr (hR12.fresh x hx))⟩
     rw[QA HTS,← List.append_assoc,QA HFK,KF]
     simpa [fields,YAj] using hR13
    case measure=>simp[intOf];omega
  · obtain rfl:8=k:=by omega
    have hfin:[(1,75),(1,67),(4,gen),(4,view),(1,mode),(4,epoch),(4,seq),(4,done),(1,seg),(1,off),(4,lsn),(4,prev),(4,mount),(1,q1),(1,q2)]++(us.take 8).flatMap YAj=JBE ⟨gen,view,mode,epoch,seq,done,⟨seg,off,lsn,prev,mount⟩⟩ P bz oz us:=by
     rw[List.take_of_length_le (by rw[QA HL];omega),QA HQ1,QA HQ2]
     rfl
    rw[hfin] at hR
    clear hfin
    have hB:=Zt hR
    go_wp2_with (refine hB.mono ?_;clear hB;rintro e w12 ⟨u,rfl,hu,hk2⟩)
    have hS:=JAx hu (by omega) (by rw[length_fields,Xj,QA HL];omega) (by omega)
    go_wp2_with (refine hS.mono ?_;clear hS;rintro e w13 ⟨rfl,hu3,hk3⟩)
    go_ret2
    have hKw:=hk12.trans0 hK
    exact⟨u,rfl,VC hu3 hKw.size,(hKw.trans0 hk2).trans hk3 (fun x hx=>.inr (Nat.le_trans hKw.size (own_mem hu hx).1))⟩
end
end Go.Proofs.YthgphmfipnjllaaGreat
