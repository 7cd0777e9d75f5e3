/- Lemmas of the proof, with their conditions. -/
import Derived.Test.YthgphmfipnjllaaGreatV13
import Derived.Test.YthgphmfipnjllaaGreatV04
import Derived.Test.YthgphmfipnjllaaGreatV08
namespace Go.Proofs.YthgphmfipnjllaaGreat
set_option linter.unusedSimpArgs false
set_option linter.unusedVariables false
set_option maxHeartbeats 1000000
section
open Go.RowKit
def VV (B:Nat):Value:=.agg #[.int .i64 B,.int .i64 8,.int .i64 24]
theorem Zf (w:World) (B:Nat):(w.alloc (.cells #[.int .i64 B,.int .i64 8,.int .i64 24] 27)).cell? ⟨w.heap.size,0,none⟩=some (.int .i64 B)∧(w.alloc (.cells #[.int .i64 B,.int .i64 8,.int .i64 24] 27)).cell? ⟨w.heap.size,1,none⟩=some (.int .i64 8)∧(w.alloc (.cells #[.int .i64 B,.int .i64 8,.int .i64 24] 27)).cell? ⟨w.heap.size,2,none⟩=some (.int .i64 24):=by
 exact⟨by simp,by simp,by simp⟩
theorem QC {w:World} {g B:Nat} (h:Blk w g 27 #[.int .i64 B,.int .i64 8,.int .i64 24]):w.cell? ⟨g,0,none⟩=some (.int .i64 B)∧w.cell? ⟨g,1,none⟩=some (.int .i64 8)∧w.cell? ⟨g,2,none⟩=some (.int .i64 24):=
 ⟨by simpa using h.cell 0,by simpa using h.cell 1,by simpa using h.cell 2⟩
theorem Jf {a b:Int} (h:a=b):Ending.returned (.int .i64 a)=.returned (.int .i64 b):=by rw[h]
theorem QAd (a b q:Nat) (hb:0<b) (h:a+b≤1000000) (hq:(a+b-1) / b=q) (w:World):Calls Tryz.prog 240 #[.int .i64 (a:Nat),.int .i64 (b:Nat)] w fun e w'=>e=.returned (.int .i64 (q:Nat))∧w=w':=by
 have e1:IntKind.i64.wrap (((a:Nat):Int)+(b:Nat)-1)=((a+b-1:Nat):Int):=by rw[IntKind.wrap_i64];omega
 have e2:IntKind.i64.wrap ((((a:Nat):Int)+(b:Nat)-1).tdiv (b:Nat))=(q:Nat):=by
  have hle:(a+b-1) / b≤a+b-1:=Nat.div_le_self _ _
  rw[show ((a:Nat):Int)+(b:Nat)-1=((a+b-1:Nat):Int) by omega,Int.tdiv_eq_ediv_of_nonneg (by omega),← hq,← Int.natCast_ediv,IntKind.wrap_i64];omega
 have e3:RowKit.wrap64 (((a+b-1:Nat):Int) / ((b:Nat):Int))=(q:Nat):=by
  have hle:(a+b-1) / b≤a+b-1:=Nat.div_le_self _ _
  rw[← hq,← Int.natCast_ediv];unfold RowKit.wrap64;omega
 have hbn:¬ ((b:Nat):Int)=0:=by omega
 have hb0:(((b:Nat):Int) == 0)=false:=by simpa using hbn
 clear hq
 go_enter Tryz.func240,Tryz.ntmps240
 go_wp2
 go_ret
 exact⟨Jf e3,rfl⟩
section
variable (w:World) (B:Nat) (h1:1≤B) (h2:B≤64)
include h1 h2
theorem PagesR_is:Calls Tryz.prog 227 #[VV B] w fun e w'=>e=.returned (.int .i64 (pgs B:Nat))∧Keep [] w w':=by
 have hU:=fun W=>QAd B 15 (pgs B) (by omega) (by omega) (by unfold pgs;omega) W
 obtain⟨c0,c1,c2⟩:=Zf w B
 unfold VV
 go_enter Tryz.func227,Tryz.ntmps227
 go_wp2_with (refine(hU _).mono ?_;clear hU;rintro e w' ⟨rfl,rfl⟩)
 go_ret
 exact⟨rfl,(Keep.refl _ _).alloc _⟩
omit h1 h2 in
theorem RegionLenR_is:Calls Tryz.prog 202 #[VV B] w fun e w'=>e=.returned (.int .i64 2)∧Keep [] w w':=by
 have hU:∀ W,Calls Tryz.prog 240 #[.int .i64 83,.int .i64 64] W fun e w'=>e=.returned (.int .i64 2)∧W=w':=fun W=>QAd 83 64 2 (by omega) (by omega) (by omega) W
 obtain⟨c0,c1,c2⟩:=Zf w B
 unfold VV
 go_enter Tryz.func202,Tryz.ntmps202
 go_wp2_with (refine(hU _).mono ?_;clear hU;rintro e w' ⟨rfl,rfl⟩)
 go_ret
 exact⟨rfl,(Keep.refl _ _).alloc _⟩
theorem ConfigMayR_is:Calls Tryz.prog 232 #[VV B] w fun e w'=>e=.returned (.bool true)∧Keep [] w w':=by
 have hW:=fun n lo hi W=>ZE n lo hi _ rfl W
 have e1:decide ((1:Int)≤(B:Nat)∧((B:Nat):Int)≤64)=true:=by simp;omega
 have e2:decide ((8:Int)≤8∧(8:Int)≤32)=true:=by simp
 have e3:decide ((24:Int)≤24∧(24:Int)≤64)=true:=by simp
 obtain⟨c0,c1,c2⟩:=Zf w B
 unfold VV
 go_enter Tryz.func232,Tryz.ntmps232
 go_wp2_with (refine(hW _ _ _ _).mono ?_;rintro e w' ⟨rfl,rfl⟩)
 go_ret
 exact⟨by simp[e1,e2,e3],(Keep.refl _ _).alloc _⟩
omit h1 h2 in
theorem Jh (k:Nat) (hk:k≤1):Calls Tryz.prog 164 #[VV B,.int .i64 (k:Nat)] w fun e w'=>e=.returned (.int .i64 (2+2*k:Nat))∧Keep [] w w':=by
 have hW:=fun W=>ZE (k:Nat) 0 1 true (by simp;omega) W
 have hL:=fun W=>RegionLenR_is W B
 have e1:IntKind.i64.wrap ((2:Int)+(k:Nat)*2)=(2+2*k:Nat):=by rw[IntKind.wrap_i64];omega
 obtain⟨c0,c1,c2⟩:=Zf w B
 unfold VV at hL ⊢
 go_enter Tryz.func164,Tryz.ntmps164
 go_wp2_with (first
  | (go_at_call 226;refine(hW _).mono ?_;clear hW;rintro e w' ⟨rfl,rfl⟩)
  | (go_at_call 202;refine(hL _).mono ?_;clear hL;rintro e w1 ⟨rfl,hk1⟩))
 go_ret
 exact⟨Jf (by omega),((Keep.refl _ _).alloc _).trans0 hk1⟩
theorem YAY (s:Nat) (hs:s≤7):Calls Tryz.prog 125 #[VV B,.int .i64 (s:Nat)] w fun e w'=>e=.returned (.int .i64 (6+4*pgs B+24*s:Nat))∧Keep [] w w':=by
 have hW:=fun W=>ZE (s:Nat) 0 7 true (by simp;omega) W
 have hL:=fun W=>RegionLenR_is W B
 have hP:=fun W=>PagesR_is W B h1 h2
 have hpb:=(KC h1 h2).2
 obtain⟨P,hPg⟩:∃ P,P=pgs B:=⟨_,rfl⟩
 rw[← hPg] at hP hpb ⊢
 have HP:=ZB hPg
 clear hPg
 have hb:=Blk.new w 27 #[.int .i64 B,.int .i64 8,.int .i64 24]
 have hkA:Keep [] w (w.alloc (.cells #[.int .i64 B,.int .i64 8,.int .i64 24] 27)):=(Keep.refl _ _).alloc _
 obtain⟨c0,c1,c2⟩:=Zf w B
 unfold VV at hL hP ⊢
 go_enter Tryz.func125,Tryz.ntmps125
 go_wp2_with (refine(hW _).mono ?_;clear hW;rintro e w' ⟨rfl,rfl⟩)
 have hbD:=hb.drew
 refine ZT (fun w'=>w'.cell? ⟨w.heap.size,0,none⟩=some (.int .i64 B)∧w'.cell? ⟨w.heap.size,1,none⟩=some (.int .i64 8)∧w'.cell? ⟨w.heap.size,2,none⟩=some (.int .i64 24)) 12 [[0,4,8,9,10,11],[1,2,3],[5,6,7]] (QC hbD) ?_
 simp only[PI]
 iterate 6 (refine ZH ?_;simp only[Act.put,PU])
 refine XB (by rfl) (fun K hK=>?_)
 go_wp2_with (refine(hL _).mono ?_;clear hL;rintro e w1 ⟨rfl,hk1⟩)
 refine hK _ _ ((QC (hbD.keep0 hk1))) ?_
 clear hK K
 try simp only[Act.put,PU]
 iterate 2 (refine ZH ?_;simp only[Act.put,PU])
 refine XB (by rfl) (fun K hK=>?_)
 go_wp2_with (refine(hP _).mono ?_;clear hP;rintro e w2 ⟨rfl,hk2⟩)
 refine hK _ _ ((QC ((hbD.keep0 hk1).keep0 hk2))) ?_
 clear hK K
 try simp only[Act.put,PU]
 iterate 2 (refine ZH ?_;simp only[Act.put,PU])
 refine JB ?_
 go_wp2_with fail
 go_ret
 exact⟨Jf (by omega),(hkA.drew.trans0 hk1).trans0 hk2⟩
theorem SectorsR_is:Calls Tryz.prog 51 #[VV B] w fun e w'=>e=.returned (.int .i64 (198+4*pgs B:Nat))∧Keep [] w w':=by
 have hS:∀ W,Calls Tryz.prog 125 #[VV B,.int .i64 0] W fun e w'=>e=.returned (.int .i64 (6+4*pgs B:Nat))∧Keep [] W w':=fun W=>YAY W B h1 h2 0 (by omega)
 have hpb:=(KC h1 h2).2
 obtain⟨P,hPg⟩:∃ P,P=pgs B:=⟨_,rfl⟩
 rw[← hPg] at hS hpb ⊢
 have HP:=ZB hPg
 clear hPg
 have hb:=Blk.new w 27 #[.int .i64 B,.int .i64 8,.int .i64 24]
 have hkA:Keep [] w (w.alloc (.cells #[.int .i64 B,.int .i64 8,.int .i64 24] 27)):=(Keep.refl _ _).alloc _
 have hbD:=hb.drew
 unfold VV at hS ⊢
 go_enter Tryz.func51,Tryz.ntmps51
 go_wp2_with fail
 refine ZT (fun w'=>w'.cell? ⟨w.heap.size,0,none⟩=some (.int .i64 B)∧w'.cell? ⟨w.heap.size,1,none⟩=some (.int .i64 8)∧w'.cell? ⟨w.heap.size,2,none⟩=some (.int .i64 24)) 7 [[0,2,3,4,5,6],[1]] (QC hbD) ?_
 simp only[PI]
 iterate 6 (refine ZH ?_;simp only[Act.put,PU])
 refine XB (by rfl) (fun K hK=>?_)
 go_wp2_with (refine(hS _).mono ?_;clear hS;rintro e w1 ⟨rfl,hk1⟩)
 refine hK _ _ ((QC (hbD.keep0 hk1))) ?_
 clear hK K
 try simp only[Act.put,PU]
 refine JB ?_
 go_wp2_with fail
 go_ret
 exact⟨Jf (by omega),hkA.drew.trans0 hk1⟩
theorem KAO (o:Bool) (k:Nat) (hk:k<pgs B):Calls Tryz.prog 238 #[VV B,.bool o,.int .i64 (k:Nat),.int .i64 0] w fun e w'=>(∃ n:Nat,e=.returned (.int .i64 (n:Nat))∧n<6+4*pgs B)∧Keep [] w w':=by
 have hW0:∀ W,Calls Tryz.prog 226 #[.int .i64 0,.int .i64 0,.int .i64 1] W fun e w'=>e=.returned (.bool true)∧W=w':=fun W=>ZE 0 0 1 true (by simp) W
 have hpb:=(KC h1 h2).2
 have hL:=fun W=>RegionLenR_is W B
 have hP:=fun W=>PagesR_is W B h1 h2
 obtain⟨P,hPg⟩:∃ P,P=pgs B:=⟨_,rfl⟩
 rw[← hPg] at hP hpb hk ⊢
 have hW:=fun W=>ZE (k:Nat) 0 ((P:Nat)-1) true (by simp;omega) W
 have HP:=ZB hPg
 clear hPg
 have hb:=Blk.new w 27 #[.int .i64 B,.int .i64 8,.int .i64 24]
 have hkA:Keep [] w (w.alloc (.cells #[.int .i64 B,.int .i64 8,.int .i64 24] 27)):=(Keep.refl _ _).alloc _
 obtain⟨c0,c1,c2⟩:=QC hb
 unfold VV at hL hP ⊢
 cases o
 · go_enter Tryz.func238,Tryz.ntmps238
   go_wp2_with (first
    | (go_at_call 226;first | (refine(hW0 _).mono ?_;clear hW0;rintro e w' ⟨rfl,rfl⟩) | (refine(hW _).mono ?_;clear hW;rintro e w' ⟨rfl,rfl⟩))
    | (go_at_call 227;refine(hP _).mono ?_;rintro e w1 ⟨rfl,hk1⟩;replace hb:=hb.keep0 hk1;replace hkA:=hkA.trans0 hk1;obtain⟨c0,c1,c2⟩:=QC hb)
    | (go_at_call 202;refine(hL _).mono ?_;clear hL;rintro e w2 ⟨rfl,hk2⟩;replace hb:=hb.keep0 hk2;replace hkA:=hkA.trans0 hk2;obtain⟨c0,c1,c2⟩:=QC hb))
   go_ret
   exact⟨⟨6+2*k,Jf (by omega),by omega⟩,hkA⟩
 · go_enter Tryz.func238,Tryz.ntmps238
   go_wp2_with (first
    | (go_at_call 226;first | (refine(hW0 _).mono ?_;clear hW0;rintro e w' ⟨rfl,rfl⟩) | (refine(hW _).mono ?_;clear hW;rintro e w' ⟨rfl,rfl⟩))
    | (go_at_call 227;refine(hP _).mono ?_;rintro e w1 ⟨rfl,hk1⟩;replace hb:=hb.keep0 hk1;replace hkA:=hkA.trans0 hk1;obtain⟨c0,c1,c2⟩:=QC hb)
    | (go_at_call 202;refine(hL _).mono ?_;clear hL;rintro e w2 ⟨rfl,hk2⟩;replace hb:=hb.keep0 hk2;replace hkA:=hkA.trans0 hk2;obtain⟨c0,c1,c2⟩:=QC hb))
   go_ret
   exact⟨⟨6+2*k+2*P,Jf (by omega),by omega⟩,hkA⟩
end
end
section
open Go.RowKit
def RowN (w1 w:World) (g:Nat) (u:Value) (N a:Nat):Prop:=Keep [] w1 w∧∃ bs:List UInt8,bs.length=N∧RefAt w w1.heap.size g u bs a
namespace RowN
variable {w1 w w':World} {g N a:Nat} {u:Value}
theorem keep0 (h:RowN w1 w g u N a) (hk:Keep [] w w'):RowN w1 w' g u N a:=⟨h.1.trans0 hk,h.2.imp fun _ h=>⟨h.1,h.2.keep0 hk⟩⟩
theorem cells (h:RowN w1 w g u N a):w.cell? ⟨g,0,none⟩=some u∧w.cell? ⟨g,1,none⟩=some (.int .i64 a):=by
 obtain⟨_,bs,_,h⟩:=h
 exact⟨h.c0,h.c1⟩
theorem lt (h:RowN w1 w g u N a):g<w.heap.size:=h.2.elim fun _ h=>h.2.blk.lt
theorem froz (h:RowN w1 w g u N a):w.frozen? ⟨g,1,none⟩=false:=by
 obtain⟨_,bs,_,h⟩:=h
 exact h.blk.frozen 1
theorem own (h:RowN w1 w g u N a):∃ bs:List UInt8,bs.length=N∧w.ownsRow w1.heap.size 5 1 u N (bys bs):=by
 obtain⟨_,bs,hl,h⟩:=h
 have:=h.own
 rw[hl] at this
 exact⟨bs,hl,this⟩
theorem form (h:RowN w1 w g u N a) (h0:0<N):∃ b c,u=.slice (some ⟨b,0,none⟩) N c∧N≤c:=by
 obtain⟨bs,hl,h⟩:=h.own
 exact ZG h h0
theorem setAt (h:RowN w1 w g u N a) (b:Nat) (hb:b≤N):RowN w1 (w.setCell ⟨g,1,none⟩ (.int .i64 (b:Nat))) g u N b:=by
 obtain⟨hk,bs,hl,h⟩:=h
 have hg:g∉u.ownBlock.toList:=h.not_mem
 refine⟨hk.trans ((Keep.refl [g] w).setCell (p:=⟨g,1,none⟩) (.inl (by simp)) _) (fun x hx=>.inr ?_),bs,hl,⟨by simpa using h.blk.set 1 (.int .i64 (b:Nat)),own_set h.own hg _,h.base,by omega,h.few⟩⟩
 simp at hx
 subst hx
 exact h.base
end RowN
theorem YBG (N:Nat) (hN:N≤65536) (w:World):Calls Tryz.prog 322 #[.int .i64 (N:Nat)] w fun e w'=>∃ g u,e=.returned (.pointer (some ⟨g,0,none⟩))∧RowN w w' g u N 0:=by
 refine(XAS N hN w).mono ?_
 rintro e w' ⟨g,u,rfl,h,hk⟩
 exact⟨g,u,rfl,hk,_,by simp,h⟩
theorem KBG {w1 w:World} {g N a:Nat} {u:Value} (h:RowN w1 w g u N a) (S:Option Addr) (m sc:Nat) (ys:List UInt8) (hr:Rd w S m (bys ys)) (hm:a+m≤N) :
 Calls Tryz.prog 334 #[.pointer (some ⟨g,0,none⟩),.slice S m sc] w fun e w'=>e=.returned (.bool true)∧RowN w1 w' g u N (a+m):=by
 obtain⟨hk,bs,hl,h⟩:=h
 have hy:ys.length=m:=by simpa using hr.1
 refine(QBH _ _ g _ u _ h S m sc ys hr (by omega)).mono ?_
 rintro e w' ⟨rfl,h1,h2⟩
 exact⟨rfl,hk.trans h2 (fun x hx=>.inr (h.fresh x hx)),_,by rw[XF _ _ _ (by omega)];exact hl,h1⟩
theorem XAw {w1 w:World} {g N a k:Nat} {u:Value} (h:RowN w1 w g u N a) (hk:k=1∨k=4) (zs:List Nat) (hz:∀ z∈zs,z<256 ^ k) (hm0:0<zs.length) (hm:a+k*zs.length≤N) (cs:Array Value) (hcs:cs.toList=ZP zs) (m:Nat) (hml:m=zs.length) :
 Calls Tryz.prog 270 #[.pointer (some ⟨g,0,none⟩),.int .i64 (k:Nat),.slice (some ⟨w.heap.size,0,none⟩) m m] (w.alloc (.cells cs 3)) fun e w'=>e=.returned (.bool true)∧RowN w1 w' g u N (a+k*zs.length):=by
 subst hml
 have hka:=h.1.alloc (.cells cs 3)
 have h2:=h.keep0 ((Keep.refl _ _).alloc (.cells cs 3))
 obtain⟨_,bs,hl,hR⟩:=h2
 have hrd:Rd (w.alloc (.cells cs 3)) (some ⟨w.heap.size,0,none⟩) zs.length (ZP zs):=by
  have hl:cs.toList.length=zs.length:=by rw[hcs,length_nats]
  have:=Rd.of_blk (n:=zs.length) (Blk.new w 3 cs) (by simpa using Nat.le_of_eq hl.symm)
  rwa [hcs,List.take_of_length_le (by simp)] at this
 obtain⟨_,bs',hl',hR0⟩:=h
 refine(ZBG _ _ g _ k u _ hR hk _ zs.length zs.length zs hrd (fun p hp=>?_) hz hm0 (by omega)).mono ?_
 · cases hp
   intro hx
   rcases List.mem_cons.1 hx with e | hx
   · exact absurd (show w.heap.size=g from e) (Nat.ne_of_gt hR0.blk.lt)
   · exact absurd (own_mem hR0.own hx).2 (Nat.lt_irrefl _)
 · rintro e w' ⟨rfl,h1,h2⟩
   exact⟨rfl,hka.trans h2 (fun x hx=>.inr (hR.fresh x hx)),_,by rw[XF _ _ _ (by rw[QH];omega)];exact hl,h1⟩
theorem ZBA {w1 w:World} {g N a:Nat} {u:Value} (h:RowN w1 w g u N a) (k z:Nat) (hk:k=1∨k=4) (hz:z<256 ^ k) (hm:a+k≤N) :
 Calls Tryz.prog 271 #[.pointer (some ⟨g,0,none⟩),.int .i64 (k:Nat),.int .i64 (z:Nat)] w fun e w'=>e=.returned (.tuple #[])∧RowN w1 w' g u N (a+k):=by
 obtain⟨hK,bs,hl,h⟩:=h
 refine(ZBH (k:=k) w1.heap.size g a z u bs h hk hz (by omega) hK rfl).mono ?_
 rintro e w' ⟨rfl,h1,h2⟩
 exact⟨rfl,h2,_,by rw[XF _ _ _ (by rw[length_le];omega)];exact hl,h1⟩
end
end Go.Proofs.YthgphmfipnjllaaGreat
